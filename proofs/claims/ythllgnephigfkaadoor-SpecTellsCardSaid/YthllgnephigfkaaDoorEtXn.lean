/- Triplets and names of variables: pct.Digit, value, Triplet; vname.ends, Bad, End, May. -/
import Derived.Test.YthllgnephigfkaaDoorEtXd
import Derived.Test.YthllgnephigfkaaDoorEtYn
import Derived.Test.YthllgnephigfkaaDoorEtXh
namespace Go.Proofs.YthllgnephigfkaaDoor.X
set_option linter.unusedSimpArgs false
set_option linter.unusedVariables false
open Go.RowKit Go.Proofs.YthllgnephigfkaaDoorW.PrintWords Go.Proofs.YthllgnephigfkaaDoor.Y
set_option maxHeartbeats 1600000 in
theorem pctDigit_any (c : Int) (w : World) (h0 : 0 ≤ c) (h1 : c < 256) : Calls Tryd.prog 61 #[.int .u8 c] w fun e w' => e = .returned (.tuple #[.int .i64 (hexV c), .bool (isHex c)]) ∧ w = w' := by
  rcases hex_ways c with ⟨a, b, e1, e2⟩ | ⟨a, b, e1, e2⟩ | ⟨a, b, e1, e2⟩ | ⟨a, b, d, e1, e2⟩
  · have HE := Aside0.mk (And.intro e1 e2); clear e1 e2
    go_enter Tryd.func61, Tryd.ntmps61
    go_wp2
    go_ret2
    exact ⟨by rw [HE.out.1, HE.out.2]; rfl, rfl⟩
  · have HE := Aside0.mk (And.intro e1 e2); clear e1 e2
    have t0 : decide (c ≤ 57) = false := decide_eq_false (by omega)
    go_enter Tryd.func61, Tryd.ntmps61
    go_wp2
    go_ret2
    exact ⟨by rw [HE.out.1, HE.out.2]; rfl, rfl⟩
  · have HE := Aside0.mk (And.intro e1 e2); clear e1 e2
    have t0 : decide (c ≤ 57) = false := decide_eq_false (by omega)
    have t1 : decide (c ≤ 70) = false := decide_eq_false (by omega)
    go_enter Tryd.func61, Tryd.ntmps61
    go_wp2
    go_ret2
    exact ⟨by rw [HE.out.1, HE.out.2]; rfl, rfl⟩
  · have HE := Aside0.mk (And.intro e1 e2); clear e1 e2
    have dd : ∀ {x y : Int}, ¬ (x ≤ c ∧ c ≤ y) → (decide (x ≤ c) = false) ∨ (decide (x ≤ c) = true ∧ decide (c ≤ y) = false) := fun {x y} h => by
      by_cases hx : x ≤ c
      · exact .inr ⟨decide_eq_true hx, decide_eq_false (fun hy => h ⟨hx, hy⟩)⟩
      · exact .inl (decide_eq_false hx)
    rcases dd a with t0 | ⟨t0, t0'⟩ <;> rcases dd b with t1 | ⟨t1, t1'⟩ <;> rcases dd d with t2 | ⟨t2, t2'⟩ <;> clear a b d dd <;> (
    go_enter Tryd.func61, Tryd.ntmps61
    go_wp2
    go_ret2
    exact ⟨by rw [HE.out.1, HE.out.2]; rfl, rfl⟩)
set_option maxHeartbeats 1600000 in
theorem pctValue_any (s : ByteArray) (w : World) : Calls Tryd.prog 50 #[.string s] w fun e w' => (∃ v : Int, e = .returned (.tuple #[.int .u8 v, .bool (tri s 0)]) ∧ (tri s 0 = true → v = triV s 0)) ∧ w = w' := by
  by_cases h3 : 3 ≤ s.size
  · by_cases hp : bI s 0 = 37
    · have r1 := bI_range s 1
      have r2 := bI_range s 2
      have b1 := bI_at s 1 (by omega)
      have b2 := bI_at s 2 (by omega)
      rw [b1] at r1
      rw [b2] at r2
      have t0 : decide ((s.size : Int) < 3) = false := decide_eq_false (by omega)
      have t1 : ((s[0].toNat : Int) != 37) = false := by rw [← bI_at s 0 (by omega), hp]; rfl
      have hV : (wrap64 (wrap64 (16 * hexV (s[1].toNat : Int)) + hexV (s[2].toNat : Int)) % 256) = triV s 0 := by
        have g1 := hexV_range (s[1].toNat : Int)
        have g2 := hexV_range (s[2].toNat : Int)
        unfold triV
        rw [b1, b2]
        unfold wrap64
        omega
      have HV := Aside0.mk hV
      clear hV
      cases e1 : isHex (s[1].toNat : Int) with
      | true =>
        have HT := Aside0.mk (show tri s 0 = isHex (s[2].toNat : Int) by
          unfold tri; rw [b1, b2, hp, e1, decide_eq_true h3]; rfl)
        go_enter Tryd.func50, Tryd.ntmps50
        go_wp2_with fail
        refine (pctDigit_any (s[1].toNat) _ r1.1 r1.2).mono ?_
        rintro e w1 ⟨rfl, rfl⟩
        go_wp2_with fail
        refine (pctDigit_any (s[2].toNat) _ r2.1 r2.2).mono ?_
        rintro e w1 ⟨rfl, rfl⟩
        go_wp2_with fail
        go_ret2
        exact ⟨⟨_, by rw [HT.out, ← HV.out]; rfl, fun _ => rfl⟩, rfl⟩
      | false =>
        have HT := Aside0.mk (show tri s 0 = false by
          unfold tri; rw [b1, b2, hp, e1, decide_eq_true h3]; rfl)
        go_enter Tryd.func50, Tryd.ntmps50
        go_wp2_with fail
        refine (pctDigit_any (s[1].toNat) _ r1.1 r1.2).mono ?_
        rintro e w1 ⟨rfl, rfl⟩
        go_wp2_with fail
        refine (pctDigit_any (s[2].toNat) _ r2.1 r2.2).mono ?_
        rintro e w1 ⟨rfl, rfl⟩
        go_wp2_with fail
        go_ret2
        exact ⟨⟨_, by rw [HT.out, ← HV.out]; rfl, fun _ => rfl⟩, rfl⟩
    · have t0 : decide ((s.size : Int) < 3) = false := decide_eq_false (by omega)
      have t1 : ((s[0].toNat : Int) != 37) = true := by rw [← bI_at s 0 (by omega)]; simpa using hp
      have HT := Aside0.mk (show tri s 0 = false by
        unfold tri; rw [beq_eq_false_iff_ne.2 hp]; simp)
      go_enter Tryd.func50, Tryd.ntmps50
      go_wp2_with fail
      go_ret2
      exact ⟨⟨0, by rw [HT.out]; rfl, fun h => by rw [HT.out] at h; cases h⟩, rfl⟩
  · have t0 : decide ((s.size : Int) < 3) = true := decide_eq_true (by omega)
    have HT := Aside0.mk (show tri s 0 = false by
      unfold tri; rw [decide_eq_false (by omega)]; rfl)
    go_enter Tryd.func50, Tryd.ntmps50
    go_wp2_with fail
    go_ret2
    exact ⟨⟨0, by rw [HT.out]; rfl, fun h => by rw [HT.out] at h; cases h⟩, rfl⟩
set_option maxHeartbeats 800000 in
theorem pctTriplet_any (s : ByteArray) (w : World) : Calls Tryd.prog 38 #[.string s] w fun e w' => e = .returned (.bool (tri s 0)) ∧ w = w' := by
  go_enter Tryd.func38, Tryd.ntmps38
  go_wp2_with fail
  refine (pctValue_any s _).mono ?_
  rintro e w1 ⟨⟨v, rfl, _⟩, rfl⟩
  go_wp2_with fail
  go_ret
  exact ⟨rfl, rfl⟩
end Go.Proofs.YthllgnephigfkaaDoor.X
