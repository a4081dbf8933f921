/- spec.Take, strconv.Itoa. -/
import Derived.Test.YthllgnephigfkaaDoorEeXj
import Derived.Lib.AppendIntMem
namespace Go.Proofs.YthllgnephigfkaaDoor.X
set_option linter.unusedSimpArgs false
set_option linter.unusedVariables false
open Go.RowKit Go.Proofs.YthllgnephigfkaaDoorW.PrintWords Go.Proofs.YthllgnephigfkaaDoorW.PrintLast Go.Proofs.YthllgnephigfkaaDoorW.PrintMore Go.Proofs.YthllgnephigfkaaDoor.Y Go.Joins
attribute [local go_sem] max2_int min2_int max_two min_two
theorem cells3 {w : World} {B : Nat} {a b c : Value} {t : TypeId} (h : w.heap[B]? = some (.cells #[a, b, c] t (0, 0))) :
    w.cell? ⟨B, 0, none⟩ = some a ∧ w.cell? ⟨B, 1, none⟩ = some b ∧ w.cell? ⟨B, 2, none⟩ = some c := by
  refine ⟨?_, ?_, ?_⟩ <;> simp [blk_cell h]
theorem frozen3 {w : World} {B : Nat} {a b c : Value} {t : TypeId} (h : w.heap[B]? = some (.cells #[a, b, c] t (0, 0))) :
    w.frozen? ⟨B, 0, none⟩ = false ∧ w.frozen? ⟨B, 1, none⟩ = false ∧ w.frozen? ⟨B, 2, none⟩ = false := ⟨blk_frozen h 0, blk_frozen h 1, blk_frozen h 2⟩
theorem vnameBad_any (s : ByteArray) (w : World) (hs : s.size ≤ 100000000) : Calls Tryd.prog 20 #[.string s] w fun e w' => e = .returned (.int .i64 (Y.ends s).1) ∧ Below w.heap.size w w' := by
  go_enter Tryd.func20, Tryd.ntmps20
  go_wp2_with fail
  refine (vnameEnds_any s _ hs).mono ?_
  rintro e w1 ⟨rfl, hb⟩
  have HB := Aside0.mk hb
  clear hb
  go_wp2_with fail
  go_ret
  exact ⟨rfl, HB.out⟩
theorem bV_behV (s : ByteArray) : bV ((bs s).drop (endN s)) = behV s := rfl
set_option maxHeartbeats 4000000 in
theorem take_any (s : ByteArray) (w : World) (hs : s.size ≤ 1000000) (hG : Gl w) : Calls Tryd.prog 10 #[.string s] w fun e w' =>
    e = .returned (.tuple #[.agg #[.string (takV s).1, .int .i64 (takV s).2.1, .bool (takV s).2.2.1], .int .i64 (takV s).2.2.2.1, .int .i64 (takV s).2.2.2.2]) ∧ Below w.heap.size w w' := by
  have HG := Aside0.mk hG
  clear hG
  have HE := Aside0.mk (fun W => vnameEnd_any s W (by omega))
  have HBd := Aside0.mk (fun W => vnameBad_any s W (by omega))
  have hle := endN_le s
  have hbl := badN_le s
  have HD := Aside0.mk (bs_extract s (endN s))
  have HV := Aside0.mk (bV_behV s)
  obtain ⟨e0, he⟩ : ∃ e0, endN s = e0 := ⟨_, rfl⟩
  obtain ⟨b0, hb0⟩ : ∃ b0, badN s = b0 := ⟨_, rfl⟩
  have HEE := Aside0.mk (show (Y.ends s).2 = e0 from he)
  have HBB := Aside0.mk (show (Y.ends s).1 = b0 from hb0)
  obtain ⟨n, o, hp⟩ : ∃ n o, behN ((bs s).drop (endN s)) = (n, o) := ⟨_, _, rfl⟩
  have hnle : n ≤ 5 := by
    have hf := fig_four
    cases hl : (bs s).drop (endN s) with
    | nil => rw [hl] at hp; cases hp; omega
    | cons c l =>
      rw [hl] at hp
      by_cases h1 : c = 42
      · subst h1; rw [behN_42] at hp; cases hp; omega
      by_cases h2 : c = 58
      · subst h2; rw [behN_58] at hp; cases hp; have := hf l; omega
      · rw [behN_no l h1 h2] at hp; cases hp; omega
  have HOK := Aside0.mk (show okS s = (decide (0 < e0) && o) by unfold okS; rw [hp, he])
  have HTN := Aside0.mk (show okS s = false → takN s = max b0 (e0 + (if e0 = 0 then 0 else n)) by intro h; unfold takN; rw [h, if_neg (by decide), hp, he, hb0])
  have HTV := Aside0.mk (show takV s = if okS s = true then (s.extract 0 e0, (behV s).1, (behV s).2, (s.size : Int), 0) else (⟨#[]⟩, 0, false, (takN s : Int), 2) by unfold takV; rw [he])
  have HP := Aside0.mk hp
  rw [he] at HD HV HP hle
  rw [hb0] at hbl hle
  clear hp he hb0
  have hi0 : (0 : Int) ≤ (e0 : Int) := by omega
  have hi1 : (e0 : Int) ≤ (s.size : Int) := by omega
  have hn0 : (0 : Int) ≤ (n : Int) := by omega
  have hn5 : (n : Int) ≤ 5 := by omega
  generalize Y.ends s = es at *
  generalize behV s = bv at *
  go_enter Tryd.func10, Tryd.ntmps10
  go_wp2_with fail
  refine (HE.out _).mono ?_
  rintro e w1 ⟨rfl, hb1⟩
  rw [HEE.out]
  have HR1 := Aside0.mk (blk_below (blk_new w (.cells #[.string ⟨#[]⟩, .int .i64 0, .bool false] 23 (0, 0))) hb1)
  have HB1 := Aside0.mk (below_step (below_new1 w (.cells #[.string ⟨#[]⟩, .int .i64 0, .bool false] 23 (0, 0))) hb1)
  clear hb1
  go_wp2_with fail
  refine (behind_any (s.extract e0 s.size) (s.extract 0 e0) w1.heap.size _ (by rw [ext_size]; omega) ((HG.out.below HB1.out).below (below_new1 w1 _)) (blk_new w1 _)).mono ?_
  rintro e w2 ⟨rfl, hx, hk⟩
  rw [HD.out, HP.out]
  rw [HD.out, HV.out] at hx
  have HX2 := Aside0.mk hx
  have HB2 := Aside0.mk (hk w.heap.size w (HB1.out.size) (by simp; have := HB1.out.size; omega) (below_alloc HB1.out _))
  have HR2 := Aside0.mk (blk_below HR1.out (hk w1.heap.size w1 (Nat.le_refl _) (by simp) (below_new1 w1 _)))
  clear hx hk HR1
  obtain ⟨v1, v2⟩ := bv
  cases hok : okS s with
  | true =>
    have hoo : 0 < e0 ∧ o = true := by have := HOK.out; rw [hok] at this; simpa using this.symm
    have HT2 := Aside0.mk (show takV s = (s.extract 0 e0, v1, v2, (s.size : Int), 0) by rw [HTV.out, hok, if_pos rfl])
    have hg : decide ((0 : Int) < (e0 : Int)) = true := decide_eq_true (by omega)
    obtain ⟨x0, x1, x2⟩ := cells3 HX2.out
    obtain ⟨z0, z1, z2⟩ := cells3 HR2.out
    obtain ⟨f0, f1, f2⟩ := frozen3 HR2.out
    have hgn := hoo.1
    rw [hoo.2]
    clear hok hoo HTN HTV HOK HP
    go_wp2_with fail
    obtain ⟨r0, r1, r2⟩ := cells3 (blk_put (blk_put (blk_put HR2.out 0 (.string (s.extract 0 e0)) rfl) 1 (.int .i64 v1) rfl) 2 (.bool v2) rfl)
    refine bodyPost_ret (v := .tuple #[.agg #[.string (s.extract 0 e0), .int .i64 v1, .bool v2], .int .i64 (s.size : Int), .int .i64 0]) (by simp [results, Tryd.results10, go_sem, r0, r1, r2]) rfl ⟨by rw [HT2.out], ?_⟩
    repeat (first | exact HB2.out | refine below_set ?_ (Nat.le_refl _))
  | false =>
    have HT2 := Aside0.mk (show takV s = (⟨#[]⟩, 0, false, (takN s : Int), 2) by rw [HTV.out, hok, if_neg (by decide)])
    obtain ⟨z0, z1, z2⟩ := cells3 HR2.out
    obtain ⟨f0, f1, f2⟩ := frozen3 HR2.out
    by_cases hz : 0 < e0
    · have hoo : o = false := by
        have := HOK.out
        rw [hok, decide_eq_true hz, Bool.true_and] at this
        exact this.symm
      have hg : decide ((0 : Int) < (e0 : Int)) = true := decide_eq_true (by omega)
      have hg0 : ((e0 : Int) == 0) = false := beq_eq_false_iff_ne.2 (by omega)
      have HN2 := HTN.out hok
      rw [if_neg (by omega)] at HN2
      have hmx : (if (b0 : Int) < (e0 : Int) + (n : Int) then (e0 : Int) + (n : Int) else (b0 : Int)) = (takN s : Int) := by
        rw [HN2]; split <;> omega
      generalize takN s = tk at *
      rw [hoo]
      clear hok hoo HTN HTV HOK HP HN2
      go_wp2_with fail
      refine (HBd.out _).mono ?_
      rintro e w3 ⟨rfl, hb3⟩
      rw [HBB.out]
      have HR3 := Aside0.mk (blk_below HR2.out hb3)
      have HB3 := Aside0.mk (below_step HB2.out hb3)
      clear z0 z1 z2 f0 f1 f2 hb3
      obtain ⟨z0, z1, z2⟩ := cells3 HR3.out
      obtain ⟨f0, f1, f2⟩ := frozen3 HR3.out
      go_wp2_with fail
      obtain ⟨r0, r1, r2⟩ := cells3 (blk_put (blk_put (blk_put HR3.out 0 (.string ⟨#[]⟩) rfl) 1 (.int .i64 0) rfl) 2 (.bool false) rfl)
      refine bodyPost_ret (v := .tuple #[.agg #[.string ⟨#[]⟩, .int .i64 0, .bool false], .int .i64 (tk : Int), .int .i64 2]) (by simp [results, Tryd.results10, go_sem, r0, r1, r2]) rfl ⟨by rw [HT2.out], ?_⟩
      repeat (first | exact HB3.out | refine below_set ?_ (Nat.le_refl _))
    · have hz0 : e0 = 0 := by omega
      subst hz0
      have HN2 := HTN.out hok
      rw [if_pos rfl] at HN2
      have HT3 := Aside0.mk (show takV s = (⟨#[]⟩, 0, false, (b0 : Int), 2) by
        rw [HT2.out, HN2]
        congr 4
        omega)
      clear HT2
      clear hok HTN HTV HOK HP HN2 hz
      go_wp2_with fail
      refine (HBd.out _).mono ?_
      rintro e w3 ⟨rfl, hb3⟩
      rw [HBB.out]
      have HR3 := Aside0.mk (blk_below HR2.out hb3)
      have HB3 := Aside0.mk (below_step HB2.out hb3)
      clear z0 z1 z2 f0 f1 f2 hb3
      obtain ⟨z0, z1, z2⟩ := cells3 HR3.out
      obtain ⟨f0, f1, f2⟩ := frozen3 HR3.out
      go_wp2_with fail
      obtain ⟨r0, r1, r2⟩ := cells3 (blk_put (blk_put (blk_put HR3.out 0 (.string ⟨#[]⟩) rfl) 1 (.int .i64 0) rfl) 2 (.bool false) rfl)
      refine bodyPost_ret (v := .tuple #[.agg #[.string ⟨#[]⟩, .int .i64 0, .bool false], .int .i64 (b0 : Int), .int .i64 2]) (by simp [results, Tryd.results10, go_sem, r0, r1, r2]) rfl ⟨by rw [HT3.out], ?_⟩
      repeat (first | exact HB3.out | refine below_set ?_ (Nat.le_refl _))
theorem itoa_any (n : Int) (w : World) (h0 : 0 ≤ n) (h1 : n ≤ 1000000) (hG : Gl w) : Calls Tryd.prog 24 #[.int .i64 n] w fun e w' => e = .returned (.string ⟨(Lib.itoa n).toArray⟩) ∧ Below w.heap.size w w' := by
  refine (Tryd.strconv_Itoa n (by omega) (by omega) w hG.2).mono ?_
  rintro e w' ⟨rfl, k, os, rfl⟩
  exact ⟨rfl, Lib.below_grow _ _ (Nat.le_refl _) k os⟩
end Go.Proofs.YthllgnephigfkaaDoor.X
