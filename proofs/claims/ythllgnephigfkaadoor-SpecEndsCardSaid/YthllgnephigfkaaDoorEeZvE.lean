/- SpecEnds: what the printed law comes to. -/
import Derived.Test.YthllgnephigfkaaDoorEeZpE
import Derived.Test.YthllgnephigfkaaDoorEeYw
import Derived.Test.YthllgnephigfkaaDoorEePEx2
import Derived.Test.YthllgnephigfkaaDoorEePEx3
import Derived.Test.YthllgnephigfkaaDoorEePEx4
namespace Go.Proofs.YthllgnephigfkaaDoor.PE
set_option linter.unusedSimpArgs false
set_option linter.unusedVariables false
open Go.RowKit Go.Proofs.YthllgnephigfkaaDoorW.PrintWords Go.Proofs.YthllgnephigfkaaDoorW.PrintLast Y
theorem awakeE_f : phalaropelaw06_awake.f = some true := by decide +kernel
theorem takeE_f (s : ByteArray) (hs : s.size ≤ 1000000) : spec_Take.f s = some (takV s) := if_pos hs
theorem may_more (t u : ByteArray) : nameMay (t ++ u) = decide (finL nS (finL nS 0 (bs t)) (bs u) = 1) := by
  rw [Bool.eq_iff_iff, nameMay_iff, decide_eq_true_iff, bs_append, finL_append]
theorem begins_f (t : ByteArray) (k : Nat) (ht : t.size ≤ 1000000) (hk : t.size + 10 < k) : phalaroperef05_begins.f k t = some (decide (finL nS 0 (bs t) ≠ 5)) := by
  have e1 : (⟨#[97]⟩ : ByteArray).size = 1 := rfl
  have e2 : (⟨#[52, 49]⟩ : ByteArray).size = 2 := rfl
  have e3 : (⟨#[49]⟩ : ByteArray).size = 1 := rfl
  unfold phalaroperef05_begins.f
  rw [rname_f t k (by omega), rname_f (t ++ ⟨#[97]⟩) k (by rw [size_append', e1]; omega), rname_f (t ++ ⟨#[52, 49]⟩) k (by rw [size_append', e2]; omega), rname_f (t ++ ⟨#[49]⟩) k (by rw [size_append', e3]; omega)]
  simp only [Option.bind_some]
  rw [if_pos (show t.size + 1 ≤ 9223372036854775807 by omega), if_pos (show t.size + 2 ≤ 9223372036854775807 by omega), may_more, may_more, may_more]
  have h0 : nameMay t = decide (finL nS 0 (bs t) = 1) := by rw [Bool.eq_iff_iff, nameMay_iff, decide_eq_true_iff]
  rw [h0]
  have hq := fin_low (bs t) 0 (by decide)
  generalize finL nS 0 (bs t) = q at *
  rcases (by omega : q = 0 ∨ q = 1 ∨ q = 2 ∨ q = 3 ∨ q = 4 ∨ q = 5) with rfl | rfl | rfl | rfl | rfl | rfl <;> decide
theorem fin_take (s : ByteArray) (m : Nat) (hm : m ≤ s.size) : finL nS 0 ((bs s).take m) ≠ 5 ↔ m ≤ badN s := by
  have hl : ((bs s).take m).length = m := by rw [List.length_take, bs_length]; omega
  rw [← live_fin nS nS_dead ((bs s).take m) 0 (by decide), hl, badN_live]
  constructor
  · intro h
    have h5 := (live_fin nS nS_dead ((bs s).take m) 0 (by decide)).1 (by rw [hl]; exact h)
    have := live_append nS nS_dead ((bs s).take m) ((bs s).drop m) 0 (by decide) h5
    rw [List.take_append_drop, hl] at this
    omega
  · intro h; exact live_take nS (bs s) 0 m h
theorem rbad_l0 (s : ByteArray) (hs : s.size ≤ 100000) (d : Nat) : ∀ k n : Nat, n + d = badN s → s.size + 100 + d < k → phalaroperef05_Bad.l0 k s (n : Int) = some (badN s : Int) := by
  have hb := badN_le s
  induction d with
  | zero =>
    intro k n hn hk
    obtain ⟨k, rfl⟩ : ∃ m, k = m + 1 := ⟨k - 1, by omega⟩
    simp only [phalaroperef05_Bad.l0]
    by_cases hlt : n < s.size
    · have hx : (s.extract 0 (n + 1)).size ≤ s.size := by rw [ByteArray.size_extract]; omega
      rw [if_pos (by omega), w1 n (by omega), if_pos (by omega), if_pos (by omega), Int.toNat_natCast, begins_f _ k (by omega) (by omega), bs_take]
      have hf : ¬ (finL nS 0 ((bs s).take (n + 1)) ≠ 5) := fun h => by have := (fin_take s (n + 1) (by omega)).1 h; omega
      rw [decide_eq_false hf]
      simp only [Option.bind_some, Bool.false_eq_true, if_false]
      congr 2 <;> omega
    · rw [if_neg (by omega)]
      congr 2 <;> omega
  | succ d ih =>
    intro k n hn hk
    obtain ⟨k, rfl⟩ : ∃ m, k = m + 1 := ⟨k - 1, by omega⟩
    simp only [phalaroperef05_Bad.l0]
    have hx : (s.extract 0 (n + 1)).size ≤ s.size := by rw [ByteArray.size_extract]; omega
    rw [if_pos (by omega), w1 n (by omega), if_pos (by omega), if_pos (by omega), Int.toNat_natCast, begins_f _ k (by omega) (by omega), bs_take, decide_eq_true ((fin_take s (n + 1) (by omega)).2 (by omega))]
    simp only [Option.bind_some, if_true]
    exact ih k (n + 1) (by omega) (by omega)
theorem rbad_f (s : ByteArray) (hs : s.size ≤ 1000) : phalaroperef05_Bad.f bigK s = some (badN s : Int) := by
  have := badN_le s
  exact rbad_l0 s (by omega) (badN s) bigK 0 (by omega) (by unfold bigK; omega)
theorem one_bs (c : Int) (h : 0 ≤ c ∧ c < 256) : bs (strOfNums [c]) = [c] ∧ (strOfNums [c]).size = 1 := by
  have e : bs (strOfNums [c]) = [c] := by
    unfold strOfNums bs
    simp
    omega
  exact ⟨e, by rw [← bs_length, e]; rfl⟩
theorem SpecEnds_pure (nm : ByteArray) (c : Int) (hc : 0 ≤ c ∧ c ≤ 255) : ∃ k, phalaropelaw06_SpecEnds.f k nm c = some true := by
  refine ⟨bigK + 1, ?_⟩
  have up : ∀ b, b = true → phalaropelaw06_SpecEnds.j0 (bigK + 1) nm c true b = some true := fun b hb => by
    simp only [phalaropelaw06_SpecEnds.j0]; rw [if_pos hb]
  unfold phalaropelaw06_SpecEnds.f
  rw [awakeE_f]
  simp only [Option.bind_some]
  by_cases h1 : (nm.size : Int) > 200
  · rw [if_pos h1]; exact up true rfl
  rw [if_neg h1, rname_f nm (bigK + 1) (by unfold bigK; omega)]
  simp only [Option.bind_some]
  cases hm : nameMay nm with
  | false => exact up _ rfl
  | true =>
    simp only [phalaropelaw06_SpecEnds.j0, Bool.not_true, Bool.false_eq_true, if_false, if_true, Option.bind_some]
    obtain ⟨ho, hol⟩ := one_bs c ⟨hc.1, by omega⟩
    generalize strOfNums [c] = one at *
    have e1 : (⟨#[42]⟩ : ByteArray).size = 1 := rfl
    have e5 : (⟨#[58, 49, 50, 51, 52]⟩ : ByteArray).size = 5 := rfl
    have hw1 : wrap64 ((nm.size : Int) + 1) = ((nm.size + 1 : Nat) : Int) := w64 _ (by omega) (by omega)
    have hw5 : wrap64 ((nm.size : Int) + 5) = ((nm.size + 5 : Nat) : Int) := w64 _ (by omega) (by omega)
    have a1 : (nm ++ ⟨#[42]⟩) ++ one = nm ++ (⟨#[42]⟩ ++ one) := bs_inj (by simp only [bs_append, List.append_assoc])
    have a2 : (nm ++ ⟨#[58, 49, 50, 51, 52]⟩) ++ one = nm ++ (⟨#[58, 49, 50, 51, 52]⟩ ++ one) := bs_inj (by simp only [bs_append, List.append_assoc])
    have b1 : bs (⟨#[42]⟩ ++ one) = [42, c] := by rw [bs_append, ho]; rfl
    have b2 : bs (⟨#[58, 49, 50, 51, 52]⟩ ++ one) = [58, 49, 50, 51, 52, c] := by rw [bs_append, ho]; rfl
    have t1 := name_take nm (⟨#[42]⟩ ++ one) hm (by rw [b1]; unfold liveL; rw [nS_42, if_pos rfl])
    have t2 := name_take nm (⟨#[58, 49, 50, 51, 52]⟩ ++ one) hm (by rw [b2]; unfold liveL; rw [nS_58, if_pos rfl])
    have f4 : figL 7 [49, 50, 51, 52, c] = 4 := by
      have s11 : sS 11 c = 5 := by unfold sS; simp
      simp only [figL, show sS 7 49 = 8 from by decide, show sS 8 50 = 9 from by decide, show sS 9 51 = 10 from by decide, show sS 10 52 = 11 from by decide, s11]
      decide
    have g1 : behN [42, c] = (1, false) := by rw [behN_42]; rfl
    have g2 : behN [58, 49, 50, 51, 52, c] = (5, false) := by rw [behN_58, f4]; rfl
    rw [b1, g1, if_neg (by decide)] at t1
    rw [b2, g2, if_neg (by decide)] at t2
    have hfn := (nameMay_iff nm).1 hm
    have hfs : finL sS 0 (bs nm) = 1 := by rw [sS_pass _ 0 (by decide) (by rw [hfn]; decide), hfn]
    have l3 : (takN (nm ++ one) : Int) = (nm.size : Int) + (if sS 1 c = 5 then 0 else 1) := by
      rw [(take_states (nm ++ one)).1, bs_append, ho, live_append sS sS_dead _ _ 0 (by decide) (by rw [hfs]; decide), hfs, bs_length]
      unfold liveL
      by_cases h : sS 1 c = 5
      · rw [if_pos h, if_pos h]; rfl
      · rw [if_neg h, if_neg h]; rfl
    have l4 : (badN (nm ++ one) : Int) = (nm.size : Int) + (if nS 1 c = 5 then 0 else 1) := by
      rw [badN_live, bs_append, ho, live_append nS nS_dead _ _ 0 (by decide) (by rw [hfn]; decide), hfn, bs_length]
      unfold liveL
      by_cases h : nS 1 c = 5
      · rw [if_pos h, if_pos h]; rfl
      · rw [if_neg h, if_neg h]; rfl
    have hs42 : c = 42 → sS 1 c = 6 := fun h => by rw [h]; decide
    have hs58 : c = 58 → sS 1 c = 7 := fun h => by rw [h]; decide
    have hso : c ≠ 42 → c ≠ 58 → sS 1 c = nS 1 c := fun h h' => sS_one h h'
    rw [if_pos (by omega), if_pos (by rw [size_append', e1, hol]; omega), a1, takeE_f _ (by rw [size_append', size_append', e1, hol]; omega)]
    simp only [Option.bind_some]
    rw [if_pos (by omega), if_pos (by rw [size_append', e5, hol]; omega), a2, takeE_f _ (by rw [size_append', size_append', e5, hol]; omega)]
    simp only [Option.bind_some]
    rw [if_pos (by omega), takeE_f _ (by rw [size_append', hol]; omega), rbad_f _ (by rw [size_append', hol]; omega), t1, t2, hw1, hw5]
    simp only [Option.bind_some, if_true]
    rw [tv_n]
    by_cases hb : ((badN (nm ++ one) : Nat) : Int) > (nm.size : Int)
    · have h5 : nS 1 c ≠ 5 := fun h => by rw [l4, if_pos h] at hb; omega
      have hs5 : sS 1 c ≠ 5 := by
        by_cases q1 : c = 42
        · rw [hs42 q1]; decide
        by_cases q2 : c = 58
        · rw [hs58 q2]; decide
        · rw [hso q1 q2]; exact h5
      rw [if_pos hb, decide_eq_true (by rw [l3, if_neg hs5]; omega)]
      rfl
    · have h5 : nS 1 c = 5 := Classical.byContradiction fun h => hb (by rw [l4, if_neg h]; omega)
      rw [if_neg hb]
      by_cases q2 : c = 58
      · have hs5 : sS 1 c ≠ 5 := by rw [hs58 q2]; decide
        rw [if_pos q2, decide_eq_true (by rw [l3, if_neg hs5]; omega)]
        rfl
      rw [if_neg q2]
      by_cases q1 : c = 42
      · have hs5 : sS 1 c ≠ 5 := by rw [hs42 q1]; decide
        rw [decide_eq_true (by rw [l3, if_neg hs5]; omega), beq_iff_eq.2 q1]
        rfl
      · have hs5 : sS 1 c = 5 := by rw [hso q1 q2]; exact h5
        rw [decide_eq_false (by rw [l3, if_pos hs5]; omega), beq_eq_false_iff_ne.2 q1]
        rfl
theorem u8_rangeE {n : Int} (h : (Lit.int .u8 n).wf = true) : 0 ≤ n ∧ n ≤ 255 := by
  have hw : (decide (IntKind.u8.min ≤ n) && decide (n ≤ IntKind.u8.max)) = true := h
  rw [show IntKind.u8.min = 0 from by decide, show IntKind.u8.max = 255 from by decide, Bool.and_eq_true, decide_eq_true_eq, decide_eq_true_eq] at hw
  exact hw
theorem SpecEnds_walk {s : ByteArray} {c : Int} (w : World) (hG : X.Gl w) (hc : (Lit.int .u8 c).wf = true) : Calls Tryd.prog 7 #[.string s, .int .u8 c] w fun e w' => e = .returned (.bool true) ∧ Below w.heap.size w w' := by
  obtain ⟨k, hk⟩ := SpecEnds_pure s c (u8_rangeE hc)
  exact phalaropelaw06_SpecEnds.calls k s c true w hk hG
end Go.Proofs.YthllgnephigfkaaDoor.PE
