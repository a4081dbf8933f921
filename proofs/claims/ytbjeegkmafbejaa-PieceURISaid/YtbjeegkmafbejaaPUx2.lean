-- Printed by wip/xprint.py of this claim's authors, over the kit's print; not trusted: Lean checks it.
import Derived.Test.YtbjeegkmafbejaaPUx0
import Derived.Test.YtbjeegkmafbejaaPUx1
namespace Go.Proofs.Ytbjeegkmafbejaa.PU
open Go.RowKit Go.Proofs.YtbjeegkmafbejaaW.PrintWords Go.Proofs.YtbjeegkmafbejaaW.PrintLast Go.Proofs.YtbjeegkmafbejaaW.PrintMore
attribute [local go_sem] max2_int min2_int max_two min_two max_three min_three max_four min_four   -- for this text's walks alone
set_option linter.unusedVariables false
set_option linter.unusedSimpArgs false

/-! ### piece_One: function 10 (ours) -/
attribute [local go_sem] X.run_store_func
theorem cells3_ {w : World} {B : Nat} {a b c : Value} {t : TypeId} (h : w.heap[B]? = some (.cells #[a, b, c] t (0, 0))) :
    w.cell? ⟨B, 0, none⟩ = some a ∧ w.cell? ⟨B, 1, none⟩ = some b ∧ w.cell? ⟨B, 2, none⟩ = some c := by
  refine ⟨?_, ?_, ?_⟩ <;> simp [blk_cell h]
theorem cells4_ {w : World} {B : Nat} {a b c d : Value} {t : TypeId} (h : w.heap[B]? = some (.cells #[a, b, c, d] t (0, 0))) :
    w.cell? ⟨B, 0, none⟩ = some a ∧ w.cell? ⟨B, 1, none⟩ = some b ∧ w.cell? ⟨B, 2, none⟩ = some c ∧ w.cell? ⟨B, 3, none⟩ = some d := by
  refine ⟨?_, ?_, ?_, ?_⟩ <;> simp [blk_cell h]
/-- The memory of an operator's way. -/
def wayO (c : Int) (b : Nat) : Obj := .cells #[.string (X.ruleFirst c), .string (X.ruleSep c), .bool (X.ruleNamed c), .string (X.ruleEmpty c), .bool (X.ruleKeep c), .func (.func 44) #[] #[.pointer (some ⟨b, 0, none⟩)]] 53 (0, 0)
/-- May a variable stand so? -/
def sMay (nm : ByteArray) (mx : Int) (st : Bool) : Bool := Y.nameMay nm && (decide (0 ≤ mx) && (decide (mx ≤ 9999) && !(st && decide (0 < mx))))
theorem sMay_f (nm : ByteArray) (mx : Int) (st : Bool) (hn : nm.size ≤ 1000000) : spec_May.f nm mx st = some (sMay nm mx st) := by
  unfold spec_May.f vname_May.f sMay
  rw [if_pos hn, Option.bind_some]
  cases Y.nameMay nm with
  | false => rfl
  | true =>
    rw [if_pos rfl]
    by_cases h0 : 0 ≤ mx
    · rw [if_pos h0]
      by_cases h1 : mx ≤ 9999
      · rw [if_pos h1]; cases st <;> simp [h0, h1]
      · rw [if_neg h1]; simp [h1]
    · rw [if_neg h0]; simp [h0]
/-- What is told of a text. -/
def oneT (op : Int) (nm : ByteArray) (mx : Int) (st : Bool) (s : ByteArray) : ByteArray × Bool × Int :=
  if (X.isOper op && sMay nm mx st) = true then if Y.validS s = true then (X.textS op nm mx s, true, 0) else (⟨#[]⟩, false, 3) else (⟨#[]⟩, false, 1)
/-- Pairs, as the walks have them. -/
def pairsOf (p : List S69) : List (ByteArray × ByteArray) := p.map fun x => (x.f0, x.f1)
/-- What is told of any value. -/
def oneV (op : Int) (nm : ByteArray) (mx : Int) (st : Bool) (vk : Int) (s : ByteArray) (l : List ByteArray) (p : List S69) : ByteArray × Bool × Int :=
  if (X.isOper op && sMay nm mx st) = true then
    if textsOf vk s l p = [] then (⟨#[]⟩, false, 0)
    else if 0 < mx ∧ vk ≠ 1 then (⟨#[]⟩, false, 4)
    else if validV vk s l p = true then (if vk = 1 then X.textS op nm mx s else if st = true then X.starS op nm vk l (pairsOf p) else X.wholeS op nm (textsOf vk s l p), true, 0)
    else (⟨#[]⟩, false, 3)
  else (⟨#[]⟩, false, 1)
theorem oneV_text (op : Int) (nm : ByteArray) (mx : Int) (st : Bool) (s : ByteArray) (l : List ByteArray) (p : List S69) : oneV op nm mx st 1 s l p = oneT op nm mx st s := by
  unfold oneV oneT
  have h1 : textsOf 1 s l p = [s] := rfl
  have h2 : validV 1 s l p = Y.validS s := by simp [validV, textsOf]
  rw [h1, h2, if_neg (show ¬ [s] = [] by simp), if_neg (show ¬ (0 < mx ∧ (1 : Int) ≠ 1) from fun h => h.2 rfl), if_pos rfl]
def smallP (p : List S69) : Prop := ∀ x ∈ p, x.f0.size ≤ 300000 ∧ x.f1.size ≤ 300000
instance (p : List S69) : Decidable (smallP p) := by unfold smallP; infer_instance
theorem pairRow {w : World} {A : Option Addr} {p : List S69} (h : Kd.C k69 w A p.length p) : ∀ W, Below w.heap.size w W → X.PairRow W A (pairsOf p) := fun W hW k hk => by
  have hk' : k < p.length := by unfold pairsOf at hk; rwa [List.length_map] at hk
  obtain ⟨ad, e, h0, h1⟩ := at_T69 (Kd.C_below h hW) (k : Int) (by omega) (by omega)
  rw [rd_at p k hk'] at h0 h1
  simp only [Int.toNat_natCast] at h0 h1
  refine ⟨ad, e, ?_, ?_⟩
  · rw [h0]; simp [pairsOf]
  · rw [h1]; simp [pairsOf]
def piece_One.f (a0 : Int) (a1_0 : ByteArray) (a1_1 : Int) (a1_2 : Bool) (a2_0 : Int) (a2_1 : ByteArray) (l2_2 : List ByteArray) (l2_3 : List (S69)) : Option (ByteArray × Bool × Int) := if modest a2_1 l2_2 l2_3 ∧ 0 ≤ a0 ∧ a0 ≤ 255 ∧ a1_0.size ≤ 1000000 ∧ smallP l2_3 then some (oneV a0 a1_0 a1_1 a1_2 a2_0 a2_1 l2_2 l2_3) else none
set_option maxHeartbeats 8000000 in
set_option maxRecDepth 100000 in
theorem piece_One.calls (a0 : Int) (a1_0 : ByteArray) (a1_1 : Int) (a1_2 : Bool) (a2_0 : Int) (a2_1 : ByteArray) (A2_2 : Option Addr) (c2_2 : Nat) (l2_2 : List ByteArray) (A2_3 : Option Addr) (c2_3 : Nat) (l2_3 : List (S69)) (r1 : ByteArray) (r2 : Bool) (r3 : Int) (w : World) (hr2_2 : Kd.C Kd.string w A2_2 l2_2.length l2_2) (hc2_2 : l2_2.length ≤ c2_2) (hr2_3 : Kd.C k69 w A2_3 l2_3.length l2_3) (hc2_3 : l2_3.length ≤ c2_3) (h : piece_One.f a0 a1_0 a1_1 a1_2 a2_0 a2_1 l2_2 l2_3 = some (r1, r2, r3)) :
    Calls Try.prog 10 #[.int .u8 a0, .agg #[.string a1_0, .int .i64 a1_1, .bool a1_2], .agg #[.int .i64 a2_0, .string a2_1, .slice A2_2 l2_2.length c2_2, .slice A2_3 l2_3.length c2_3]] w fun e w' => e = .returned (.tuple #[.string r1, .bool r2, .int .i64 r3]) ∧ Below w.heap.size w w' := by
  simp only [piece_One.f] at h
  split at h
  · rename_i hm
    obtain ⟨hm, h0, h1, hn, hps⟩ := hm
    by_cases hvk : a2_0 = 1
    · have hvk1 := hvk
      subst hvk
      have hR := (oneV_text a0 a1_0 a1_1 a1_2 a2_1 l2_2 l2_3).symm.trans (Option.some.inj h)
      clear h hps
      have HF := Aside0.mk (texts_f (l2_3.length + 1) 1 a2_1 l2_2 l2_3 hm (Nat.lt_succ_self _))
      have HD := Aside0.mk (show value_Defined.f (l2_3.length + 1) 1 a2_1 l2_2 l2_3 = some true by unfold value_Defined.f; rw [HF.out]; rfl)
      have HV := Aside0.mk (show value_Valid.f 1 a2_1 l2_2 l2_3 = some (Y.validS a2_1) by unfold value_Valid.f; rw [if_pos hm]; simp [validV, textsOf])
      have HMY := Aside0.mk (sMay_f a1_0 a1_1 a1_2 hn)
      have HSZ := Aside0.mk hm.1
      have HR2 := Aside0.mk hr2_2
      have HR3 := Aside0.mk hr2_3
      have HRR := Aside0.mk hR
      clear hr2_2 hr2_3 hm hR HF
      go_enter Try.func10, Try.ntmps10
      go_wp2_with fail
      refine (X.pieceOf_any a0 _ h0 h1).mono ?_
      rintro e w1 ⟨rb, rfl, hru, hb⟩
      have HSP := Aside0.mk (blk_below (blk_alloc (blk_new w _) _) hb)
      have HVL := Aside0.mk (blk_below (X.blk_new2 w _ _) hb)
      have HB := Aside0.mk (below_step (w := w) (X.below_new2 w _ _) hb)
      have HRU := Aside0.mk hru
      clear hb hru
      unfold X.wayV
      have S1 := Aside0.mk (blk_alloc HSP.out (wayO a0 rb))
      have S2 := Aside0.mk (blk_alloc HVL.out (wayO a0 rb))
      have S3 := Aside0.mk (blk_alloc HRU.out (wayO a0 rb))
      have S4 := Aside0.mk (blk_new w1 (wayO a0 rb))
      have S5 := Aside0.mk (below_alloc HB.out (wayO a0 rb))
      clear HSP HVL HRU HB
      unfold wayO at S1 S2 S3 S4 S5
      cases hop : X.isOper a0 with
      | false =>
        have HE := Aside0.mk (show oneT a0 a1_0 a1_1 a1_2 a2_1 = (⟨#[]⟩, false, 1) by unfold oneT; rw [hop]; rfl)
        clear hop
        rw [HE.out] at HRR
        go_wp2_with fail
        have hR := HRR.out
        simp only [Prod.mk.injEq] at hR
        obtain ⟨rfl, rfl, rfl⟩ := hR
        go_ret3
        exact ⟨rfl, S5.out⟩
      | true =>
        cases hmy : sMay a1_0 a1_1 a1_2 with
        | false =>
          have HE := Aside0.mk (show oneT a0 a1_0 a1_1 a1_2 a2_1 = (⟨#[]⟩, false, 1) by unfold oneT; rw [hop, hmy]; rfl)
          rw [hmy] at HMY
          clear hop hmy
          rw [HE.out] at HRR
          obtain ⟨p0, p1, p2⟩ := cells3_ S1.out
          go_wp2_with fail
          refine (spec_May.calls _ _ _ _ _ HMY.out).mono ?_
          rintro e w3 ⟨rfl, hb⟩
          have HB := Aside0.mk (below_step S5.out hb)
          clear hb p0 p1 p2
          go_wp2_with fail
          have hR := HRR.out
          simp only [Prod.mk.injEq] at hR
          obtain ⟨rfl, rfl, rfl⟩ := hR
          go_ret3
          exact ⟨rfl, HB.out⟩
        | true =>
          rw [hmy] at HMY
          have hmx : 0 ≤ a1_1 ∧ a1_1 ≤ 9999 := by
            unfold sMay at hmy
            simp only [Bool.and_eq_true, decide_eq_true_eq] at hmy
            exact ⟨hmy.2.1, hmy.2.2.1⟩
          have HOM := Aside0.mk (show (X.isOper a0 && sMay a1_0 a1_1 a1_2) = true by rw [hop, hmy]; rfl)
          clear hop hmy
          obtain ⟨p0, p1, p2⟩ := cells3_ S1.out
          go_wp2_with fail
          refine (spec_May.calls _ _ _ _ _ HMY.out).mono ?_
          rintro e w3 ⟨rfl, hb⟩
          have HB := Aside0.mk (below_step S5.out hb)
          have T1 := Aside0.mk (blk_below S1.out hb)
          have T2 := Aside0.mk (blk_below S2.out hb)
          have T3 := Aside0.mk (blk_below S3.out hb)
          have T4 := Aside0.mk (blk_below S4.out hb)
          clear hb p0 p1 p2 S1 S2 S3 S4 S5
          obtain ⟨d0, d1, d2, d3⟩ := cells4_ T2.out
          go_wp2_with fail
          refine (value_Defined.calls (l2_3.length + 1) 1 a2_1 A2_2 c2_2 l2_2 A2_3 c2_3 l2_3 _ _ (Kd.C_below HR2.out HB.out) hc2_2 (Kd.C_below HR3.out HB.out) hc2_3 HD.out).mono ?_
          rintro e w4 ⟨rfl, hb⟩
          have HB4 := Aside0.mk (below_step HB.out hb)
          have U1 := Aside0.mk (blk_below T1.out hb)
          have U2 := Aside0.mk (blk_below T2.out hb)
          have U3 := Aside0.mk (blk_below T3.out hb)
          have U4 := Aside0.mk (blk_below T4.out hb)
          clear hb d0 d1 d2 d3 T1 T2 T3 T4 HB
          obtain ⟨d0, d1, d2, d3⟩ := cells4_ U2.out
          obtain ⟨p0, p1, p2⟩ := cells3_ U1.out
          go_wp2_with fail
          all_goals
            refine (value_Valid.calls 1 a2_1 A2_2 c2_2 l2_2 A2_3 c2_3 l2_3 _ _ (Kd.C_below HR2.out HB4.out) hc2_2 (Kd.C_below HR3.out HB4.out) hc2_3 HV.out).mono ?_
            rintro e w5 ⟨rfl, hb⟩
            have HB5 := Aside0.mk (below_step HB4.out hb)
            have V1 := Aside0.mk (blk_below U1.out hb)
            have V2 := Aside0.mk (blk_below U2.out hb)
            have V3 := Aside0.mk (blk_below U3.out hb)
            have V4 := Aside0.mk (blk_below U4.out hb)
            clear hb d0 d1 d2 d3 p0 p1 p2 U1 U2 U3 U4 HB4
            cases hv : Y.validS a2_1 with
            | false =>
              have HE := Aside0.mk (show oneT a0 a1_0 a1_1 a1_2 a2_1 = (⟨#[]⟩, false, 3) by unfold oneT; rw [HOM.out, hv]; rfl)
              clear hv
              rw [HE.out] at HRR
              go_wp2_with fail
              have hR := HRR.out
              simp only [Prod.mk.injEq] at hR
              obtain ⟨rfl, rfl, rfl⟩ := hR
              go_ret3
              exact ⟨rfl, HB5.out⟩
            | true =>
              have HE := Aside0.mk (show oneT a0 a1_0 a1_1 a1_2 a2_1 = (X.textS a0 a1_0 a1_1 a2_1, true, 0) by unfold oneT; rw [HOM.out, hv]; rfl)
              clear hv
              rw [HE.out] at HRR
              obtain ⟨d0, d1, d2, d3⟩ := cells4_ V2.out
              obtain ⟨p0, p1, p2⟩ := cells3_ V1.out
              obtain ⟨x0, x1, x2, x3, x4, x5⟩ := X.cells6 V4.out
              go_wp2_with fail
              refine (X.text_any a0 rb a1_0 a1_1 a1_2 a2_1 _ hn HSZ.out hmx.1 (by omega) V3.out).mono ?_
              rintro e w6 ⟨rfl, hb⟩
              have HB6 := Aside0.mk (below_step HB5.out hb)
              clear hb d0 d1 d2 d3 p0 p1 p2 x0 x1 x2 x3 x4 x5
              go_wp2_with fail
              have hR := HRR.out
              simp only [Prod.mk.injEq] at hR
              obtain ⟨rfl, rfl, rfl⟩ := hR
              go_ret3
              exact ⟨rfl, HB6.out⟩
    · have HRR := Aside0.mk (Option.some.inj h)
      clear h
      have hk1 : (a2_0 == 1) = false := beq_eq_false_iff_ne.2 hvk
      have hk2 : (a2_0 != 1) = true := bne_iff_ne.2 hvk
      have HF := Aside0.mk (texts_f (l2_3.length + 1) a2_0 a2_1 l2_2 l2_3 hm (Nat.lt_succ_self _))
      have HD := Aside0.mk (show value_Defined.f (l2_3.length + 1) a2_0 a2_1 l2_2 l2_3 = some (decide (0 < (textsOf a2_0 a2_1 l2_2 l2_3).length)) by unfold value_Defined.f; rw [HF.out]; simp)
      have HV := Aside0.mk (show value_Valid.f a2_0 a2_1 l2_2 l2_3 = some (validV a2_0 a2_1 l2_2 l2_3) by unfold value_Valid.f; rw [if_pos hm])
      have HMY := Aside0.mk (sMay_f a1_0 a1_1 a1_2 hn)
      have HMD := Aside0.mk hm
      have HTS := Aside0.mk (texts_small (vk := a2_0) hm)
      have HPS := Aside0.mk hps
      have HR2 := Aside0.mk hr2_2
      have HR3 := Aside0.mk hr2_3
      clear hr2_2 hr2_3 hm hps
      go_enter Try.func10, Try.ntmps10
      go_wp2_with fail
      refine (X.pieceOf_any a0 _ h0 h1).mono ?_
      rintro e w1 ⟨rb, rfl, hru, hb⟩
      have HSP := Aside0.mk (blk_below (blk_alloc (blk_new w _) _) hb)
      have HVL := Aside0.mk (blk_below (X.blk_new2 w _ _) hb)
      have HB := Aside0.mk (below_step (w := w) (X.below_new2 w _ _) hb)
      have HRU := Aside0.mk hru
      clear hb hru
      unfold X.wayV
      have S1 := Aside0.mk (blk_alloc HSP.out (wayO a0 rb))
      have S2 := Aside0.mk (blk_alloc HVL.out (wayO a0 rb))
      have S3 := Aside0.mk (blk_alloc HRU.out (wayO a0 rb))
      have S4 := Aside0.mk (blk_new w1 (wayO a0 rb))
      have S5 := Aside0.mk (below_alloc HB.out (wayO a0 rb))
      clear HSP HVL HRU HB
      unfold wayO at S1 S2 S3 S4 S5
      cases hop : X.isOper a0 with
      | false =>
        have HE := Aside0.mk (show oneV a0 a1_0 a1_1 a1_2 a2_0 a2_1 l2_2 l2_3 = (⟨#[]⟩, false, 1) by unfold oneV; rw [hop]; rfl)
        clear hop
        rw [HE.out] at HRR
        go_wp2_with fail
        have hR := HRR.out
        simp only [Prod.mk.injEq] at hR
        obtain ⟨rfl, rfl, rfl⟩ := hR
        go_ret3
        exact ⟨rfl, S5.out⟩
      | true =>
        cases hmy : sMay a1_0 a1_1 a1_2 with
        | false =>
          have HE := Aside0.mk (show oneV a0 a1_0 a1_1 a1_2 a2_0 a2_1 l2_2 l2_3 = (⟨#[]⟩, false, 1) by unfold oneV; rw [hop, hmy]; rfl)
          rw [hmy] at HMY
          clear hop hmy
          rw [HE.out] at HRR
          obtain ⟨p0, p1, p2⟩ := cells3_ S1.out
          go_wp2_with fail
          refine (spec_May.calls _ _ _ _ _ HMY.out).mono ?_
          rintro e w3 ⟨rfl, hb⟩
          have HB := Aside0.mk (below_step S5.out hb)
          clear hb p0 p1 p2
          go_wp2_with fail
          have hR := HRR.out
          simp only [Prod.mk.injEq] at hR
          obtain ⟨rfl, rfl, rfl⟩ := hR
          go_ret3
          exact ⟨rfl, HB.out⟩
        | true =>
          rw [hmy] at HMY
          have hmx : 0 ≤ a1_1 ∧ a1_1 ≤ 9999 := by
            unfold sMay at hmy
            simp only [Bool.and_eq_true, decide_eq_true_eq] at hmy
            exact ⟨hmy.2.1, hmy.2.2.1⟩
          have HOM := Aside0.mk (show (X.isOper a0 && sMay a1_0 a1_1 a1_2) = true by rw [hop, hmy]; rfl)
          clear hop hmy
          obtain ⟨p0, p1, p2⟩ := cells3_ S1.out
          go_wp2_with fail
          refine (spec_May.calls _ _ _ _ _ HMY.out).mono ?_
          rintro e w3 ⟨rfl, hb⟩
          have HB := Aside0.mk (below_step S5.out hb)
          have T1 := Aside0.mk (blk_below S1.out hb)
          have T2 := Aside0.mk (blk_below S2.out hb)
          have T3 := Aside0.mk (blk_below S3.out hb)
          have T4 := Aside0.mk (blk_below S4.out hb)
          clear hb p0 p1 p2 S1 S2 S3 S4 S5
          obtain ⟨d0, d1, d2, d3⟩ := cells4_ T2.out
          go_wp2_with fail
          refine (value_Defined.calls (l2_3.length + 1) a2_0 a2_1 A2_2 c2_2 l2_2 A2_3 c2_3 l2_3 _ _ (Kd.C_below HR2.out HB.out) hc2_2 (Kd.C_below HR3.out HB.out) hc2_3 HD.out).mono ?_
          rintro e w4 ⟨rfl, hb⟩
          have HB4 := Aside0.mk (below_step HB.out hb)
          have U1 := Aside0.mk (blk_below T1.out hb)
          have U2 := Aside0.mk (blk_below T2.out hb)
          have U3 := Aside0.mk (blk_below T3.out hb)
          have U4 := Aside0.mk (blk_below T4.out hb)
          clear hb d0 d1 d2 d3 T1 T2 T3 T4 HB
          by_cases hnil : textsOf a2_0 a2_1 l2_2 l2_3 = []
          · have HE := Aside0.mk (show oneV a0 a1_0 a1_1 a1_2 a2_0 a2_1 l2_2 l2_3 = (⟨#[]⟩, false, 0) by unfold oneV; rw [HOM.out, if_pos rfl, if_pos hnil])
            have hz : decide (0 < (textsOf a2_0 a2_1 l2_2 l2_3).length) = false := by rw [hnil]; rfl
            rw [hz]
            clear hnil hz
            rw [HE.out] at HRR
            go_wp2_with fail
            have hR := HRR.out
            simp only [Prod.mk.injEq] at hR
            obtain ⟨rfl, rfl, rfl⟩ := hR
            go_ret3
            exact ⟨rfl, HB4.out⟩
          · have hz : decide (0 < (textsOf a2_0 a2_1 l2_2 l2_3).length) = true := decide_eq_true (List.length_pos_iff.2 hnil)
            rw [hz]
            have HNIL := Aside0.mk hnil
            clear hnil hz
            obtain ⟨d0, d1, d2, d3⟩ := cells4_ U2.out
            obtain ⟨p0, p1, p2⟩ := cells3_ U1.out
            by_cases hgt : 0 < a1_1
            · have HE := Aside0.mk (show oneV a0 a1_0 a1_1 a1_2 a2_0 a2_1 l2_2 l2_3 = (⟨#[]⟩, false, 4) by unfold oneV; rw [HOM.out, if_pos rfl, if_neg HNIL.out, if_pos ⟨hgt, hvk⟩])
              rw [HE.out] at HRR
              have hg1 : decide (0 < a1_1) = true := decide_eq_true hgt
              go_wp2_with fail
              have hR := HRR.out
              simp only [Prod.mk.injEq] at hR
              obtain ⟨rfl, rfl, rfl⟩ := hR
              go_ret3
              exact ⟨rfl, HB4.out⟩
            · obtain rfl : a1_1 = 0 := by omega
              go_wp2_with fail
              refine (value_Valid.calls a2_0 a2_1 A2_2 c2_2 l2_2 A2_3 c2_3 l2_3 _ _ (Kd.C_below HR2.out HB4.out) hc2_2 (Kd.C_below HR3.out HB4.out) hc2_3 HV.out).mono ?_
              rintro e w5 ⟨rfl, hb⟩
              have HB5 := Aside0.mk (below_step HB4.out hb)
              have V1 := Aside0.mk (blk_below U1.out hb)
              have V2 := Aside0.mk (blk_below U2.out hb)
              have V3 := Aside0.mk (blk_below U3.out hb)
              have V4 := Aside0.mk (blk_below U4.out hb)
              clear hb d0 d1 d2 d3 p0 p1 p2 U1 U2 U3 U4 HB4
              cases hv : validV a2_0 a2_1 l2_2 l2_3 with
              | false =>
                have HE := Aside0.mk (show oneV a0 a1_0 0 a1_2 a2_0 a2_1 l2_2 l2_3 = (⟨#[]⟩, false, 3) by unfold oneV; rw [HOM.out, if_pos rfl, if_neg HNIL.out, if_neg (fun h => absurd h.1 (by omega)), hv]; rfl)
                clear hv
                rw [HE.out] at HRR
                go_wp2_with fail
                have hR := HRR.out
                simp only [Prod.mk.injEq] at hR
                obtain ⟨rfl, rfl, rfl⟩ := hR
                go_ret3
                exact ⟨rfl, HB5.out⟩
              | true =>
                obtain ⟨d0, d1, d2, d3⟩ := cells4_ V2.out
                obtain ⟨p0, p1, p2⟩ := cells3_ V1.out
                obtain ⟨x0, x1, x2, x3, x4, x5⟩ := X.cells6 V4.out
                have HM2 := Aside0.mk HMD.out
                cases hst : a1_2 with
                | true =>
                  subst hst
                  have HE := Aside0.mk (show oneV a0 a1_0 0 true a2_0 a2_1 l2_2 l2_3 = (X.starS a0 a1_0 a2_0 l2_2 (pairsOf l2_3), true, 0) by unfold oneV; rw [HOM.out, if_pos rfl, if_neg HNIL.out, if_neg (fun h => absurd h.1 (by omega)), hv, if_pos rfl, if_neg hvk, if_pos rfl])
                  clear hv
                  rw [HE.out] at HRR
                  have HST := Aside0.mk (X.star_any a0 rb a1_0 0 true a2_0 a2_1 A2_2 c2_2 l2_2 A2_3 c2_3 (pairsOf l2_3) w5 hn (by have := HMD.out.2.1; omega) (fun x hx => HMD.out.2.2.2.1 x hx) (by unfold pairsOf; rw [List.length_map]; have := HMD.out.2.2.1; omega) (fun x hx => by unfold pairsOf at hx; obtain ⟨y, hy, rfl⟩ := List.mem_map.1 hx; exact HPS.out y hy) (Kd.C_below HR2.out HB5.out) (pairRow (Kd.C_below HR3.out HB5.out)) V3.out)
                  have hlp : (pairsOf l2_3).length = l2_3.length := by unfold pairsOf; rw [List.length_map]
                  rw [hlp] at HST
                  clear hlp
                  go_wp2_with fail
                  refine HST.out.mono ?_
                  rintro e w6 ⟨rfl, hb⟩
                  have HB6 := Aside0.mk (below_step HB5.out hb)
                  clear hb d0 d1 d2 d3 p0 p1 p2 x0 x1 x2 x3 x4 x5
                  go_wp2_with fail
                  have hR := HRR.out
                  simp only [Prod.mk.injEq] at hR
                  obtain ⟨rfl, rfl, rfl⟩ := hR
                  go_ret3
                  exact ⟨rfl, HB6.out⟩
                | false =>
                  subst hst
                  have HE := Aside0.mk (show oneV a0 a1_0 0 false a2_0 a2_1 l2_2 l2_3 = (X.wholeS a0 a1_0 (textsOf a2_0 a2_1 l2_2 l2_3), true, 0) by unfold oneV; rw [HOM.out, if_pos rfl, if_neg HNIL.out, if_neg (fun h => absurd h.1 (by omega)), hv, if_pos rfl, if_neg hvk, if_neg (by decide)])
                  clear hv
                  rw [HE.out] at HRR
                  have HST := Aside0.mk (X.whole_any a0 rb a1_0 0 false a2_0 a2_1 A2_2 l2_2.length c2_2 A2_3 l2_3.length c2_3 (textsOf a2_0 a2_1 l2_2 l2_3) w5 hn HTS.out.1 HTS.out.2 V3.out (fun W hW => value_Texts.calls (l2_3.length + 1) a2_0 a2_1 A2_2 c2_2 l2_2 A2_3 c2_3 l2_3 _ _ (Kd.C_below (Kd.C_below HR2.out HB5.out) hW) hc2_2 (Kd.C_below (Kd.C_below HR3.out HB5.out) hW) hc2_3 HF.out))
                  go_wp2_with fail
                  refine HST.out.mono ?_
                  rintro e w6 ⟨rfl, hb⟩
                  have HB6 := Aside0.mk (below_step HB5.out hb)
                  clear hb d0 d1 d2 d3 p0 p1 p2 x0 x1 x2 x3 x4 x5
                  go_wp2_with fail
                  have hR := HRR.out
                  simp only [Prod.mk.injEq] at hR
                  obtain ⟨rfl, rfl, rfl⟩ := hR
                  go_ret3
                  exact ⟨rfl, HB6.out⟩
  · exact absurd h (by simp)
/-! ### piece_Named: function 20 (ours) -/
attribute [local go_sem] X.run_store_func
def namedV (op : Int) (nm s : ByteArray) : ByteArray := if X.isOper op = true then X.namedS op nm s else ⟨#[]⟩
def piece_Named.f (a0 : Int) (a1 : ByteArray) (a2 : ByteArray) : Option (ByteArray) := if 0 ≤ a0 ∧ a0 ≤ 255 ∧ a1.size ≤ 1000000 ∧ a2.size ≤ 1000000 then some (namedV a0 a1 a2) else none
set_option maxHeartbeats 8000000 in
set_option maxRecDepth 100000 in
theorem piece_Named.calls (a0 : Int) (a1 : ByteArray) (a2 : ByteArray) (r : ByteArray) (w : World) (h : piece_Named.f a0 a1 a2 = some r) :
    Calls Try.prog 20 #[.int .u8 a0, .string a1, .string a2] w fun e w' => e = .returned (.string r) ∧ Below w.heap.size w w' := by
  simp only [piece_Named.f] at h
  split at h
  · rename_i hm
    obtain ⟨h0, h1, hn, hs⟩ := hm
    have HRR := Aside0.mk (Option.some.inj h)
    clear h
    go_enter Try.func20, Try.ntmps20
    go_wp2_with fail
    refine (X.pieceOf_any a0 _ h0 h1).mono ?_
    rintro e w1 ⟨rb, rfl, hru, hb⟩
    have HB := Aside0.mk (below_alloc hb (wayO a0 rb))
    have x_ := blk_new w1 (wayO a0 rb)
    unfold wayO at HB x_
    obtain ⟨x0, x1, x2, x3, x4, x5⟩ := X.cells6 x_
    clear hb hru x_
    unfold X.wayV
    cases hop : X.isOper a0 with
    | false =>
      have HE := Aside0.mk (show namedV a0 a1 a2 = ⟨#[]⟩ by unfold namedV; rw [hop]; rfl)
      clear hop
      rw [HE.out] at HRR
      go_wp2_with fail
      obtain rfl := HRR.out
      go_ret
      exact ⟨rfl, HB.out⟩
    | true =>
      have HE := Aside0.mk (show namedV a0 a1 a2 = X.namedS a0 a1 a2 by unfold namedV; rw [hop]; rfl)
      clear hop
      rw [HE.out] at HRR
      go_wp2_with fail
      refine (X.named_any a0 rb a1 a2 _ hn (by omega)).mono ?_
      rintro e w3 ⟨rfl, hb⟩
      have HB2 := Aside0.mk (below_step HB.out hb)
      clear hb x0 x1 x2 x3 x4 x5
      go_wp2_with fail
      obtain rfl := HRR.out
      go_ret
      exact ⟨rfl, HB2.out⟩
  · cases h
/-! ### phalaropelaw11_awake: function 8 -/
def phalaropelaw11_awake.f  : Option (Bool) := (piece_One.f 59 (⟨#[97]⟩ : ByteArray) 0 false 1 (⟨#[]⟩ : ByteArray) ([] : List ByteArray) ([] : List (S69))).bind fun bt123 => ((piece_One.f 63 (⟨#[97]⟩ : ByteArray) 0 false 1 (⟨#[]⟩ : ByteArray) ([] : List ByteArray) ([] : List (S69))).bind fun bt126 => (if bt123.2.1 = true then (if bt126.2.1 = true then (if bt123.2.2 = 0 then (if bt126.2.2 = 0 then (if bt123.1.toList = ([97] : List UInt8) then (if bt126.1.toList = ([97, 61] : List UInt8) then ((piece_Named.f 38 (⟨#[120]⟩ : ByteArray) (⟨#[49]⟩ : ByteArray)).bind fun t129 => (some (t129.toList == ([120, 61, 49] : List UInt8)))) else (some false)) else (some false)) else (some false)) else (some false)) else (some false)) else (some false)))
set_option maxHeartbeats 8000000 in
set_option maxRecDepth 100000 in
theorem phalaropelaw11_awake.calls  (r : Bool) (w : World) (h : phalaropelaw11_awake.f  = some r) :
    Calls Try.prog 8 #[] w fun e w' => e = .returned (.bool r) ∧ Below w.heap.size w w' := by
  have hu27 := Try.underlying27
  have hu23 := Try.underlying23
  have HB := Aside0.mk (Below.refl w.heap.size w)
  have H : ((piece_One.f 59 (⟨#[97]⟩ : ByteArray) 0 false 1 (⟨#[]⟩ : ByteArray) ([] : List ByteArray) ([] : List (S69))).bind fun bt123 => ((piece_One.f 63 (⟨#[97]⟩ : ByteArray) 0 false 1 (⟨#[]⟩ : ByteArray) ([] : List ByteArray) ([] : List (S69))).bind fun bt126 => (if bt123.2.1 = true then (if bt126.2.1 = true then (if bt123.2.2 = 0 then (if bt126.2.2 = 0 then (if bt123.1.toList = ([97] : List UInt8) then (if bt126.1.toList = ([97, 61] : List UInt8) then ((piece_Named.f 38 (⟨#[120]⟩ : ByteArray) (⟨#[49]⟩ : ByteArray)).bind fun t129 => (some (t129.toList == ([120, 61, 49] : List UInt8)))) else (some false)) else (some false)) else (some false)) else (some false)) else (some false)) else (some false)))) = some r := h
  clear h
  replace H := Option.bind_eq_some_iff.mp H
  obtain ⟨⟨t123, t124, t125⟩, A10, H⟩ := H
  replace H : ((piece_One.f 63 (⟨#[97]⟩ : ByteArray) 0 false 1 (⟨#[]⟩ : ByteArray) ([] : List ByteArray) ([] : List (S69))).bind fun bt126 => (if t124 = true then (if bt126.2.1 = true then (if t125 = 0 then (if bt126.2.2 = 0 then (if t123.toList = ([97] : List UInt8) then (if bt126.1.toList = ([97, 61] : List UInt8) then ((piece_Named.f 38 (⟨#[120]⟩ : ByteArray) (⟨#[49]⟩ : ByteArray)).bind fun t129 => (some (t129.toList == ([120, 61, 49] : List UInt8)))) else (some false)) else (some false)) else (some false)) else (some false)) else (some false)) else (some false))) = some r := H
  have A1 := Aside0.mk A10
  clear A10
  replace H := Option.bind_eq_some_iff.mp H
  obtain ⟨⟨t126, t127, t128⟩, A20, H⟩ := H
  replace H : (if t124 = true then (if t127 = true then (if t125 = 0 then (if t128 = 0 then (if t123.toList = ([97] : List UInt8) then (if t126.toList = ([97, 61] : List UInt8) then ((piece_Named.f 38 (⟨#[120]⟩ : ByteArray) (⟨#[49]⟩ : ByteArray)).bind fun t129 => (some (t129.toList == ([120, 61, 49] : List UInt8)))) else (some false)) else (some false)) else (some false)) else (some false)) else (some false)) else (some false)) = some r := H
  have A2 := Aside0.mk A20
  clear A20
  by_cases c3 : t124 = true
  · subst c3
    have H1 : (if t127 = true then (if t125 = 0 then (if t128 = 0 then (if t123.toList = ([97] : List UInt8) then (if t126.toList = ([97, 61] : List UInt8) then ((piece_Named.f 38 (⟨#[120]⟩ : ByteArray) (⟨#[49]⟩ : ByteArray)).bind fun t129 => (some (t129.toList == ([120, 61, 49] : List UInt8)))) else (some false)) else (some false)) else (some false)) else (some false)) else (some false)) = some r := by rw [if_pos rfl] at H; exact H
    clear H
    have H := H1
    clear H1
    by_cases c4 : t127 = true
    · subst c4
      have H1 : (if t125 = 0 then (if t128 = 0 then (if t123.toList = ([97] : List UInt8) then (if t126.toList = ([97, 61] : List UInt8) then ((piece_Named.f 38 (⟨#[120]⟩ : ByteArray) (⟨#[49]⟩ : ByteArray)).bind fun t129 => (some (t129.toList == ([120, 61, 49] : List UInt8)))) else (some false)) else (some false)) else (some false)) else (some false)) = some r := by rw [if_pos rfl] at H; exact H
      clear H
      have H := H1
      clear H1
      by_cases c5 : t125 = 0
      · rw [if_pos c5] at H
        have c5b0 : (t125 == 0) = true := beq_iff_eq.mpr c5
        have c5b1 : (t125 != 0) = false := bne_eq_false_iff_eq.mpr c5
        clear c5
        by_cases c6 : t128 = 0
        · rw [if_pos c6] at H
          have c6b0 : (t128 == 0) = true := beq_iff_eq.mpr c6
          have c6b1 : (t128 != 0) = false := bne_eq_false_iff_eq.mpr c6
          clear c6
          by_cases c7 : t123.toList = ([97] : List UInt8)
          · rw [if_pos c7] at H
            have c7b0 : (t123.toList == ([97] : List UInt8)) = true := beq_iff_eq.mpr c7
            have c7b1 : (t123.toList != ([97] : List UInt8)) = false := bne_eq_false_iff_eq.mpr c7
            clear c7
            by_cases c8 : t126.toList = ([97, 61] : List UInt8)
            · rw [if_pos c8] at H
              have c8b0 : (t126.toList == ([97, 61] : List UInt8)) = true := beq_iff_eq.mpr c8
              have c8b1 : (t126.toList != ([97, 61] : List UInt8)) = false := bne_eq_false_iff_eq.mpr c8
              clear c8
              replace H := Option.bind_eq_some_iff.mp H
              obtain ⟨t129, A90, H⟩ := H
              replace H : (some (t129.toList == ([120, 61, 49] : List UInt8))) = some r := H
              have A9 := Aside0.mk A90
              clear A90
              obtain rfl := Option.some.inj H
              go_enter Try.func8, Try.ntmps8
              go_wp2_with (first | ((with_reducible refine gate_dst (N := 1) rfl ?_); refine box_event ?hg (N := 1) ?hd (cs := #[.int .i64 0, .string (⟨#[]⟩ : ByteArray), .slice none 0 0, .slice none 0 0]) (t := 27) ?hr ?_; (case hd => rfl); (case hg => rfl); (case hr => first | (go_simp; done) | (go_simp; rfl)); intro gb122 hg w10 hbox hb; have n0_ := Aside0.mk (below_step (by repeat (first | (with_reducible first | exact HB.out | apply below_alloc | apply pw_below_drewN | apply below_drew1) | exact HB.out)) hb); have n1_ := Aside0.mk (hbox); have n2_ := Aside0.mk ((by rw [hg]; exact (below_size (by repeat (first | (with_reducible first | exact HB.out | apply below_alloc | apply pw_below_drewN | apply below_drew1) | exact HB.out))) : w.heap.size ≤ gb122)); have n3_ := Aside0.mk ((by rw [hg]; exact (below_size (by repeat (first | (with_reducible first | exact HB.out | apply below_alloc | apply pw_below_drewN | apply below_drew1) | exact HB.out))) : w.heap.size ≤ gb122)); clear HB; have HB := n0_; have BK122 := n1_; have GW122 := n2_; have GE122 := n3_; clear n0_ n1_ n2_ n3_; clear hb hbox hg; have hcz11_0 : w10.cell? ⟨gb122, 0, none⟩ = some (.int .i64 0) := (blk_cell BK122.out 0).trans rfl; have hcz11_1 : w10.cell? ⟨gb122, 1, none⟩ = some (.string (⟨#[]⟩ : ByteArray)) := (blk_cell BK122.out 1).trans rfl; have hcz11_2 : w10.cell? ⟨gb122, 2, none⟩ = some (.slice none 0 0) := (blk_cell BK122.out 2).trans rfl; have hcz11_3 : w10.cell? ⟨gb122, 3, none⟩ = some (.slice none 0 0) := (blk_cell BK122.out 3).trans rfl; have hfz11_0 := blk_frozen BK122.out 0; have hfz11_1 := blk_frozen BK122.out 1; have hfz11_2 := blk_frozen BK122.out 2; have hfz11_3 := blk_frozen BK122.out 3) | ((with_reducible refine gate_callee (f := 10) rfl ?_); refine goesL_ (some 12) rfl rfl Try.func10 (by kernel_rfl) rfl #[.int .u8 59, .agg #[.string (⟨#[97]⟩ : ByteArray), .int .i64 0, .bool false], .agg #[.int .i64 1, .string (⟨#[]⟩ : ByteArray), .slice none 0 0, .slice none 0 0]] rfl (by (try simp only [List.map_toArray, List.map_cons, List.map_nil]); first | done | rfl | (simp only [List.length_drop, List.length_take]; rfl)) ?_; (refine (piece_One.calls 59 (⟨#[97]⟩ : ByteArray) 0 false 1 (⟨#[]⟩ : ByteArray) _ _ ([] : List ByteArray) _ _ ([] : List (S69)) t123 true t125 _ ?side1 ?side2 ?side3 ?side4 A1.out).mono ?_); (case side1 => exact Kd.C_nil _ _); (case side2 => exact Nat.le_refl _); (case side3 => exact Kd.C_nil _ _); (case side4 => exact Nat.le_refl _); rintro e w12 ⟨rfl, hb⟩; refine ⟨_, rfl, ?_⟩; have n0_ := Aside0.mk (blk_below (g := gb122) (o := .cells #[.int .i64 1, .string (⟨#[]⟩ : ByteArray), .slice none 0 0, .slice none 0 0] 27 (0, 0)) (by (with_reducible repeat (first | refine blk_drewN ?_ _ | refine blk_drew ?_ | refine blk_alloc ?_ _)); refine blk_put (cs := #[.int .i64 1, .string (⟨#[]⟩ : ByteArray), .slice none 0 0, .slice none 0 0]) ?_ 3 _ rfl; (with_reducible repeat (first | refine blk_drewN ?_ _ | refine blk_drew ?_ | refine blk_alloc ?_ _)); refine blk_put (cs := #[.int .i64 1, .string (⟨#[]⟩ : ByteArray), .slice none 0 0, .slice none 0 0]) ?_ 2 _ rfl; (with_reducible repeat (first | refine blk_drewN ?_ _ | refine blk_drew ?_ | refine blk_alloc ?_ _)); refine blk_put (cs := #[.int .i64 1, .string (⟨#[]⟩ : ByteArray), .slice none 0 0, .slice none 0 0]) ?_ 1 _ rfl; (with_reducible repeat (first | refine blk_drewN ?_ _ | refine blk_drew ?_ | refine blk_alloc ?_ _)); refine blk_put (cs := #[.int .i64 0, .string (⟨#[]⟩ : ByteArray), .slice none 0 0, .slice none 0 0]) ?_ 0 _ rfl; (with_reducible repeat (first | refine blk_drewN ?_ _ | refine blk_drew ?_ | refine blk_alloc ?_ _)); exact BK122.out) hb); have n1_ := Aside0.mk (below_step (by repeat (first | (with_reducible first | exact HB.out | apply below_alloc | apply pw_below_drewN | apply below_drew1 | refine below_set ?_ GE122.out) | exact HB.out)) hb); clear BK122; clear HB; have BK122 := n0_; have HB := n1_; clear n0_ n1_; (try clear hb); (try clear hb2); (try clear hk); (try clear hi); have hcz13_0 : w12.cell? ⟨gb122, 0, none⟩ = some (.int .i64 1) := (blk_cell BK122.out 0).trans rfl; have hcz13_1 : w12.cell? ⟨gb122, 1, none⟩ = some (.string (⟨#[]⟩ : ByteArray)) := (blk_cell BK122.out 1).trans rfl; have hcz13_2 : w12.cell? ⟨gb122, 2, none⟩ = some (.slice none 0 0) := (blk_cell BK122.out 2).trans rfl; have hcz13_3 : w12.cell? ⟨gb122, 3, none⟩ = some (.slice none 0 0) := (blk_cell BK122.out 3).trans rfl; have hfz13_0 := blk_frozen BK122.out 0; have hfz13_1 := blk_frozen BK122.out 1; have hfz13_2 := blk_frozen BK122.out 2; have hfz13_3 := blk_frozen BK122.out 3) | ((with_reducible refine gate_callee (f := 10) rfl ?_); refine goesL_ (some 19) rfl rfl Try.func10 (by kernel_rfl) rfl #[.int .u8 63, .agg #[.string (⟨#[97]⟩ : ByteArray), .int .i64 0, .bool false], .agg #[.int .i64 1, .string (⟨#[]⟩ : ByteArray), .slice none 0 0, .slice none 0 0]] rfl (by (try simp only [List.map_toArray, List.map_cons, List.map_nil]); first | done | rfl | (simp only [List.length_drop, List.length_take]; rfl)) ?_; (refine (piece_One.calls 63 (⟨#[97]⟩ : ByteArray) 0 false 1 (⟨#[]⟩ : ByteArray) _ _ ([] : List ByteArray) _ _ ([] : List (S69)) t126 true t128 _ ?side1 ?side2 ?side3 ?side4 A2.out).mono ?_); (case side1 => exact Kd.C_nil _ _); (case side2 => exact Nat.le_refl _); (case side3 => exact Kd.C_nil _ _); (case side4 => exact Nat.le_refl _); rintro e w14 ⟨rfl, hb⟩; refine ⟨_, rfl, ?_⟩; have n0_ := Aside0.mk (blk_below (g := gb122) (o := .cells #[.int .i64 1, .string (⟨#[]⟩ : ByteArray), .slice none 0 0, .slice none 0 0] 27 (0, 0)) (by (with_reducible repeat (first | refine blk_drewN ?_ _ | refine blk_drew ?_ | refine blk_alloc ?_ _)); exact BK122.out) hb); have n1_ := Aside0.mk (below_step (by repeat (first | (with_reducible first | exact HB.out | apply below_alloc | apply pw_below_drewN | apply below_drew1 | refine below_set ?_ GE122.out) | exact HB.out)) hb); clear BK122; clear HB; have BK122 := n0_; have HB := n1_; clear n0_ n1_; (try clear hb); (try clear hb2); (try clear hk); (try clear hi)) | (go_at_call 20; (with_reducible refine (piece_Named.calls 38 (⟨#[120]⟩ : ByteArray) (⟨#[49]⟩ : ByteArray) t129 _ A9.out).mono ?_); rintro e w15 ⟨rfl, hb⟩; have n0_ := Aside0.mk (blk_below (g := gb122) (o := .cells #[.int .i64 1, .string (⟨#[]⟩ : ByteArray), .slice none 0 0, .slice none 0 0] 27 (0, 0)) (by (with_reducible repeat (first | refine blk_drewN ?_ _ | refine blk_drew ?_ | refine blk_alloc ?_ _)); exact BK122.out) hb); have n1_ := Aside0.mk (below_step (by repeat (first | (with_reducible first | exact HB.out | apply below_alloc | apply pw_below_drewN | apply below_drew1 | refine below_set ?_ GE122.out) | exact HB.out)) hb); clear BK122; clear HB; have BK122 := n0_; have HB := n1_; clear n0_ n1_; (try clear hb); (try clear hb2); (try clear hk); (try clear hi)))
              go_ret
              exact ⟨by first | rfl | (simp [errW_none, errW_some] <;> rfl) | (simp [*, errW_none, errW_some] <;> rfl), by repeat (first | (with_reducible first | exact HB.out | apply below_alloc | apply pw_below_drewN | apply below_drew1 | refine below_set ?_ GE122.out) | exact HB.out)⟩
            · rw [if_neg c8] at H
              have c8b0 : (t126.toList == ([97, 61] : List UInt8)) = false := beq_eq_false_iff_ne.mpr c8
              have c8b1 : (t126.toList != ([97, 61] : List UInt8)) = true := bne_iff_ne.mpr c8
              obtain rfl := Option.some.inj H
              go_enter Try.func8, Try.ntmps8
              go_wp2_with (first | ((with_reducible refine gate_dst (N := 1) rfl ?_); refine box_event ?hg (N := 1) ?hd (cs := #[.int .i64 0, .string (⟨#[]⟩ : ByteArray), .slice none 0 0, .slice none 0 0]) (t := 27) ?hr ?_; (case hd => rfl); (case hg => rfl); (case hr => first | (go_simp; done) | (go_simp; rfl)); intro gb122 hg w16 hbox hb; have n0_ := Aside0.mk (below_step (by repeat (first | (with_reducible first | exact HB.out | apply below_alloc | apply pw_below_drewN | apply below_drew1) | exact HB.out)) hb); have n1_ := Aside0.mk (hbox); have n2_ := Aside0.mk ((by rw [hg]; exact (below_size (by repeat (first | (with_reducible first | exact HB.out | apply below_alloc | apply pw_below_drewN | apply below_drew1) | exact HB.out))) : w.heap.size ≤ gb122)); have n3_ := Aside0.mk ((by rw [hg]; exact (below_size (by repeat (first | (with_reducible first | exact HB.out | apply below_alloc | apply pw_below_drewN | apply below_drew1) | exact HB.out))) : w.heap.size ≤ gb122)); clear HB; have HB := n0_; have BK122 := n1_; have GW122 := n2_; have GE122 := n3_; clear n0_ n1_ n2_ n3_; clear hb hbox hg; have hcz17_0 : w16.cell? ⟨gb122, 0, none⟩ = some (.int .i64 0) := (blk_cell BK122.out 0).trans rfl; have hcz17_1 : w16.cell? ⟨gb122, 1, none⟩ = some (.string (⟨#[]⟩ : ByteArray)) := (blk_cell BK122.out 1).trans rfl; have hcz17_2 : w16.cell? ⟨gb122, 2, none⟩ = some (.slice none 0 0) := (blk_cell BK122.out 2).trans rfl; have hcz17_3 : w16.cell? ⟨gb122, 3, none⟩ = some (.slice none 0 0) := (blk_cell BK122.out 3).trans rfl; have hfz17_0 := blk_frozen BK122.out 0; have hfz17_1 := blk_frozen BK122.out 1; have hfz17_2 := blk_frozen BK122.out 2; have hfz17_3 := blk_frozen BK122.out 3) | ((with_reducible refine gate_callee (f := 10) rfl ?_); refine goesL_ (some 12) rfl rfl Try.func10 (by kernel_rfl) rfl #[.int .u8 59, .agg #[.string (⟨#[97]⟩ : ByteArray), .int .i64 0, .bool false], .agg #[.int .i64 1, .string (⟨#[]⟩ : ByteArray), .slice none 0 0, .slice none 0 0]] rfl (by (try simp only [List.map_toArray, List.map_cons, List.map_nil]); first | done | rfl | (simp only [List.length_drop, List.length_take]; rfl)) ?_; (refine (piece_One.calls 59 (⟨#[97]⟩ : ByteArray) 0 false 1 (⟨#[]⟩ : ByteArray) _ _ ([] : List ByteArray) _ _ ([] : List (S69)) t123 true t125 _ ?side1 ?side2 ?side3 ?side4 A1.out).mono ?_); (case side1 => exact Kd.C_nil _ _); (case side2 => exact Nat.le_refl _); (case side3 => exact Kd.C_nil _ _); (case side4 => exact Nat.le_refl _); rintro e w18 ⟨rfl, hb⟩; refine ⟨_, rfl, ?_⟩; have n0_ := Aside0.mk (blk_below (g := gb122) (o := .cells #[.int .i64 1, .string (⟨#[]⟩ : ByteArray), .slice none 0 0, .slice none 0 0] 27 (0, 0)) (by (with_reducible repeat (first | refine blk_drewN ?_ _ | refine blk_drew ?_ | refine blk_alloc ?_ _)); refine blk_put (cs := #[.int .i64 1, .string (⟨#[]⟩ : ByteArray), .slice none 0 0, .slice none 0 0]) ?_ 3 _ rfl; (with_reducible repeat (first | refine blk_drewN ?_ _ | refine blk_drew ?_ | refine blk_alloc ?_ _)); refine blk_put (cs := #[.int .i64 1, .string (⟨#[]⟩ : ByteArray), .slice none 0 0, .slice none 0 0]) ?_ 2 _ rfl; (with_reducible repeat (first | refine blk_drewN ?_ _ | refine blk_drew ?_ | refine blk_alloc ?_ _)); refine blk_put (cs := #[.int .i64 1, .string (⟨#[]⟩ : ByteArray), .slice none 0 0, .slice none 0 0]) ?_ 1 _ rfl; (with_reducible repeat (first | refine blk_drewN ?_ _ | refine blk_drew ?_ | refine blk_alloc ?_ _)); refine blk_put (cs := #[.int .i64 0, .string (⟨#[]⟩ : ByteArray), .slice none 0 0, .slice none 0 0]) ?_ 0 _ rfl; (with_reducible repeat (first | refine blk_drewN ?_ _ | refine blk_drew ?_ | refine blk_alloc ?_ _)); exact BK122.out) hb); have n1_ := Aside0.mk (below_step (by repeat (first | (with_reducible first | exact HB.out | apply below_alloc | apply pw_below_drewN | apply below_drew1 | refine below_set ?_ GE122.out) | exact HB.out)) hb); clear BK122; clear HB; have BK122 := n0_; have HB := n1_; clear n0_ n1_; (try clear hb); (try clear hb2); (try clear hk); (try clear hi); have hcz19_0 : w18.cell? ⟨gb122, 0, none⟩ = some (.int .i64 1) := (blk_cell BK122.out 0).trans rfl; have hcz19_1 : w18.cell? ⟨gb122, 1, none⟩ = some (.string (⟨#[]⟩ : ByteArray)) := (blk_cell BK122.out 1).trans rfl; have hcz19_2 : w18.cell? ⟨gb122, 2, none⟩ = some (.slice none 0 0) := (blk_cell BK122.out 2).trans rfl; have hcz19_3 : w18.cell? ⟨gb122, 3, none⟩ = some (.slice none 0 0) := (blk_cell BK122.out 3).trans rfl; have hfz19_0 := blk_frozen BK122.out 0; have hfz19_1 := blk_frozen BK122.out 1; have hfz19_2 := blk_frozen BK122.out 2; have hfz19_3 := blk_frozen BK122.out 3) | ((with_reducible refine gate_callee (f := 10) rfl ?_); refine goesL_ (some 19) rfl rfl Try.func10 (by kernel_rfl) rfl #[.int .u8 63, .agg #[.string (⟨#[97]⟩ : ByteArray), .int .i64 0, .bool false], .agg #[.int .i64 1, .string (⟨#[]⟩ : ByteArray), .slice none 0 0, .slice none 0 0]] rfl (by (try simp only [List.map_toArray, List.map_cons, List.map_nil]); first | done | rfl | (simp only [List.length_drop, List.length_take]; rfl)) ?_; (refine (piece_One.calls 63 (⟨#[97]⟩ : ByteArray) 0 false 1 (⟨#[]⟩ : ByteArray) _ _ ([] : List ByteArray) _ _ ([] : List (S69)) t126 true t128 _ ?side1 ?side2 ?side3 ?side4 A2.out).mono ?_); (case side1 => exact Kd.C_nil _ _); (case side2 => exact Nat.le_refl _); (case side3 => exact Kd.C_nil _ _); (case side4 => exact Nat.le_refl _); rintro e w20 ⟨rfl, hb⟩; refine ⟨_, rfl, ?_⟩; have n0_ := Aside0.mk (blk_below (g := gb122) (o := .cells #[.int .i64 1, .string (⟨#[]⟩ : ByteArray), .slice none 0 0, .slice none 0 0] 27 (0, 0)) (by (with_reducible repeat (first | refine blk_drewN ?_ _ | refine blk_drew ?_ | refine blk_alloc ?_ _)); exact BK122.out) hb); have n1_ := Aside0.mk (below_step (by repeat (first | (with_reducible first | exact HB.out | apply below_alloc | apply pw_below_drewN | apply below_drew1 | refine below_set ?_ GE122.out) | exact HB.out)) hb); clear BK122; clear HB; have BK122 := n0_; have HB := n1_; clear n0_ n1_; (try clear hb); (try clear hb2); (try clear hk); (try clear hi)))
              go_ret
              exact ⟨by first | rfl | (simp [errW_none, errW_some] <;> rfl) | (simp [*, errW_none, errW_some] <;> rfl), by repeat (first | (with_reducible first | exact HB.out | apply below_alloc | apply pw_below_drewN | apply below_drew1 | refine below_set ?_ GE122.out) | exact HB.out)⟩
          · rw [if_neg c7] at H
            have c7b0 : (t123.toList == ([97] : List UInt8)) = false := beq_eq_false_iff_ne.mpr c7
            have c7b1 : (t123.toList != ([97] : List UInt8)) = true := bne_iff_ne.mpr c7
            obtain rfl := Option.some.inj H
            go_enter Try.func8, Try.ntmps8
            go_wp2_with (first | ((with_reducible refine gate_dst (N := 1) rfl ?_); refine box_event ?hg (N := 1) ?hd (cs := #[.int .i64 0, .string (⟨#[]⟩ : ByteArray), .slice none 0 0, .slice none 0 0]) (t := 27) ?hr ?_; (case hd => rfl); (case hg => rfl); (case hr => first | (go_simp; done) | (go_simp; rfl)); intro gb122 hg w21 hbox hb; have n0_ := Aside0.mk (below_step (by repeat (first | (with_reducible first | exact HB.out | apply below_alloc | apply pw_below_drewN | apply below_drew1) | exact HB.out)) hb); have n1_ := Aside0.mk (hbox); have n2_ := Aside0.mk ((by rw [hg]; exact (below_size (by repeat (first | (with_reducible first | exact HB.out | apply below_alloc | apply pw_below_drewN | apply below_drew1) | exact HB.out))) : w.heap.size ≤ gb122)); have n3_ := Aside0.mk ((by rw [hg]; exact (below_size (by repeat (first | (with_reducible first | exact HB.out | apply below_alloc | apply pw_below_drewN | apply below_drew1) | exact HB.out))) : w.heap.size ≤ gb122)); clear HB; have HB := n0_; have BK122 := n1_; have GW122 := n2_; have GE122 := n3_; clear n0_ n1_ n2_ n3_; clear hb hbox hg; have hcz22_0 : w21.cell? ⟨gb122, 0, none⟩ = some (.int .i64 0) := (blk_cell BK122.out 0).trans rfl; have hcz22_1 : w21.cell? ⟨gb122, 1, none⟩ = some (.string (⟨#[]⟩ : ByteArray)) := (blk_cell BK122.out 1).trans rfl; have hcz22_2 : w21.cell? ⟨gb122, 2, none⟩ = some (.slice none 0 0) := (blk_cell BK122.out 2).trans rfl; have hcz22_3 : w21.cell? ⟨gb122, 3, none⟩ = some (.slice none 0 0) := (blk_cell BK122.out 3).trans rfl; have hfz22_0 := blk_frozen BK122.out 0; have hfz22_1 := blk_frozen BK122.out 1; have hfz22_2 := blk_frozen BK122.out 2; have hfz22_3 := blk_frozen BK122.out 3) | ((with_reducible refine gate_callee (f := 10) rfl ?_); refine goesL_ (some 12) rfl rfl Try.func10 (by kernel_rfl) rfl #[.int .u8 59, .agg #[.string (⟨#[97]⟩ : ByteArray), .int .i64 0, .bool false], .agg #[.int .i64 1, .string (⟨#[]⟩ : ByteArray), .slice none 0 0, .slice none 0 0]] rfl (by (try simp only [List.map_toArray, List.map_cons, List.map_nil]); first | done | rfl | (simp only [List.length_drop, List.length_take]; rfl)) ?_; (refine (piece_One.calls 59 (⟨#[97]⟩ : ByteArray) 0 false 1 (⟨#[]⟩ : ByteArray) _ _ ([] : List ByteArray) _ _ ([] : List (S69)) t123 true t125 _ ?side1 ?side2 ?side3 ?side4 A1.out).mono ?_); (case side1 => exact Kd.C_nil _ _); (case side2 => exact Nat.le_refl _); (case side3 => exact Kd.C_nil _ _); (case side4 => exact Nat.le_refl _); rintro e w23 ⟨rfl, hb⟩; refine ⟨_, rfl, ?_⟩; have n0_ := Aside0.mk (blk_below (g := gb122) (o := .cells #[.int .i64 1, .string (⟨#[]⟩ : ByteArray), .slice none 0 0, .slice none 0 0] 27 (0, 0)) (by (with_reducible repeat (first | refine blk_drewN ?_ _ | refine blk_drew ?_ | refine blk_alloc ?_ _)); refine blk_put (cs := #[.int .i64 1, .string (⟨#[]⟩ : ByteArray), .slice none 0 0, .slice none 0 0]) ?_ 3 _ rfl; (with_reducible repeat (first | refine blk_drewN ?_ _ | refine blk_drew ?_ | refine blk_alloc ?_ _)); refine blk_put (cs := #[.int .i64 1, .string (⟨#[]⟩ : ByteArray), .slice none 0 0, .slice none 0 0]) ?_ 2 _ rfl; (with_reducible repeat (first | refine blk_drewN ?_ _ | refine blk_drew ?_ | refine blk_alloc ?_ _)); refine blk_put (cs := #[.int .i64 1, .string (⟨#[]⟩ : ByteArray), .slice none 0 0, .slice none 0 0]) ?_ 1 _ rfl; (with_reducible repeat (first | refine blk_drewN ?_ _ | refine blk_drew ?_ | refine blk_alloc ?_ _)); refine blk_put (cs := #[.int .i64 0, .string (⟨#[]⟩ : ByteArray), .slice none 0 0, .slice none 0 0]) ?_ 0 _ rfl; (with_reducible repeat (first | refine blk_drewN ?_ _ | refine blk_drew ?_ | refine blk_alloc ?_ _)); exact BK122.out) hb); have n1_ := Aside0.mk (below_step (by repeat (first | (with_reducible first | exact HB.out | apply below_alloc | apply pw_below_drewN | apply below_drew1 | refine below_set ?_ GE122.out) | exact HB.out)) hb); clear BK122; clear HB; have BK122 := n0_; have HB := n1_; clear n0_ n1_; (try clear hb); (try clear hb2); (try clear hk); (try clear hi); have hcz24_0 : w23.cell? ⟨gb122, 0, none⟩ = some (.int .i64 1) := (blk_cell BK122.out 0).trans rfl; have hcz24_1 : w23.cell? ⟨gb122, 1, none⟩ = some (.string (⟨#[]⟩ : ByteArray)) := (blk_cell BK122.out 1).trans rfl; have hcz24_2 : w23.cell? ⟨gb122, 2, none⟩ = some (.slice none 0 0) := (blk_cell BK122.out 2).trans rfl; have hcz24_3 : w23.cell? ⟨gb122, 3, none⟩ = some (.slice none 0 0) := (blk_cell BK122.out 3).trans rfl; have hfz24_0 := blk_frozen BK122.out 0; have hfz24_1 := blk_frozen BK122.out 1; have hfz24_2 := blk_frozen BK122.out 2; have hfz24_3 := blk_frozen BK122.out 3) | ((with_reducible refine gate_callee (f := 10) rfl ?_); refine goesL_ (some 19) rfl rfl Try.func10 (by kernel_rfl) rfl #[.int .u8 63, .agg #[.string (⟨#[97]⟩ : ByteArray), .int .i64 0, .bool false], .agg #[.int .i64 1, .string (⟨#[]⟩ : ByteArray), .slice none 0 0, .slice none 0 0]] rfl (by (try simp only [List.map_toArray, List.map_cons, List.map_nil]); first | done | rfl | (simp only [List.length_drop, List.length_take]; rfl)) ?_; (refine (piece_One.calls 63 (⟨#[97]⟩ : ByteArray) 0 false 1 (⟨#[]⟩ : ByteArray) _ _ ([] : List ByteArray) _ _ ([] : List (S69)) t126 true t128 _ ?side1 ?side2 ?side3 ?side4 A2.out).mono ?_); (case side1 => exact Kd.C_nil _ _); (case side2 => exact Nat.le_refl _); (case side3 => exact Kd.C_nil _ _); (case side4 => exact Nat.le_refl _); rintro e w25 ⟨rfl, hb⟩; refine ⟨_, rfl, ?_⟩; have n0_ := Aside0.mk (blk_below (g := gb122) (o := .cells #[.int .i64 1, .string (⟨#[]⟩ : ByteArray), .slice none 0 0, .slice none 0 0] 27 (0, 0)) (by (with_reducible repeat (first | refine blk_drewN ?_ _ | refine blk_drew ?_ | refine blk_alloc ?_ _)); exact BK122.out) hb); have n1_ := Aside0.mk (below_step (by repeat (first | (with_reducible first | exact HB.out | apply below_alloc | apply pw_below_drewN | apply below_drew1 | refine below_set ?_ GE122.out) | exact HB.out)) hb); clear BK122; clear HB; have BK122 := n0_; have HB := n1_; clear n0_ n1_; (try clear hb); (try clear hb2); (try clear hk); (try clear hi)))
            go_ret
            exact ⟨by first | rfl | (simp [errW_none, errW_some] <;> rfl) | (simp [*, errW_none, errW_some] <;> rfl), by repeat (first | (with_reducible first | exact HB.out | apply below_alloc | apply pw_below_drewN | apply below_drew1 | refine below_set ?_ GE122.out) | exact HB.out)⟩
        · rw [if_neg c6] at H
          have c6b0 : (t128 == 0) = false := beq_eq_false_iff_ne.mpr c6
          have c6b1 : (t128 != 0) = true := bne_iff_ne.mpr c6
          obtain rfl := Option.some.inj H
          go_enter Try.func8, Try.ntmps8
          go_wp2_with (first | ((with_reducible refine gate_dst (N := 1) rfl ?_); refine box_event ?hg (N := 1) ?hd (cs := #[.int .i64 0, .string (⟨#[]⟩ : ByteArray), .slice none 0 0, .slice none 0 0]) (t := 27) ?hr ?_; (case hd => rfl); (case hg => rfl); (case hr => first | (go_simp; done) | (go_simp; rfl)); intro gb122 hg w26 hbox hb; have n0_ := Aside0.mk (below_step (by repeat (first | (with_reducible first | exact HB.out | apply below_alloc | apply pw_below_drewN | apply below_drew1) | exact HB.out)) hb); have n1_ := Aside0.mk (hbox); have n2_ := Aside0.mk ((by rw [hg]; exact (below_size (by repeat (first | (with_reducible first | exact HB.out | apply below_alloc | apply pw_below_drewN | apply below_drew1) | exact HB.out))) : w.heap.size ≤ gb122)); have n3_ := Aside0.mk ((by rw [hg]; exact (below_size (by repeat (first | (with_reducible first | exact HB.out | apply below_alloc | apply pw_below_drewN | apply below_drew1) | exact HB.out))) : w.heap.size ≤ gb122)); clear HB; have HB := n0_; have BK122 := n1_; have GW122 := n2_; have GE122 := n3_; clear n0_ n1_ n2_ n3_; clear hb hbox hg; have hcz27_0 : w26.cell? ⟨gb122, 0, none⟩ = some (.int .i64 0) := (blk_cell BK122.out 0).trans rfl; have hcz27_1 : w26.cell? ⟨gb122, 1, none⟩ = some (.string (⟨#[]⟩ : ByteArray)) := (blk_cell BK122.out 1).trans rfl; have hcz27_2 : w26.cell? ⟨gb122, 2, none⟩ = some (.slice none 0 0) := (blk_cell BK122.out 2).trans rfl; have hcz27_3 : w26.cell? ⟨gb122, 3, none⟩ = some (.slice none 0 0) := (blk_cell BK122.out 3).trans rfl; have hfz27_0 := blk_frozen BK122.out 0; have hfz27_1 := blk_frozen BK122.out 1; have hfz27_2 := blk_frozen BK122.out 2; have hfz27_3 := blk_frozen BK122.out 3) | ((with_reducible refine gate_callee (f := 10) rfl ?_); refine goesL_ (some 12) rfl rfl Try.func10 (by kernel_rfl) rfl #[.int .u8 59, .agg #[.string (⟨#[97]⟩ : ByteArray), .int .i64 0, .bool false], .agg #[.int .i64 1, .string (⟨#[]⟩ : ByteArray), .slice none 0 0, .slice none 0 0]] rfl (by (try simp only [List.map_toArray, List.map_cons, List.map_nil]); first | done | rfl | (simp only [List.length_drop, List.length_take]; rfl)) ?_; (refine (piece_One.calls 59 (⟨#[97]⟩ : ByteArray) 0 false 1 (⟨#[]⟩ : ByteArray) _ _ ([] : List ByteArray) _ _ ([] : List (S69)) t123 true t125 _ ?side1 ?side2 ?side3 ?side4 A1.out).mono ?_); (case side1 => exact Kd.C_nil _ _); (case side2 => exact Nat.le_refl _); (case side3 => exact Kd.C_nil _ _); (case side4 => exact Nat.le_refl _); rintro e w28 ⟨rfl, hb⟩; refine ⟨_, rfl, ?_⟩; have n0_ := Aside0.mk (blk_below (g := gb122) (o := .cells #[.int .i64 1, .string (⟨#[]⟩ : ByteArray), .slice none 0 0, .slice none 0 0] 27 (0, 0)) (by (with_reducible repeat (first | refine blk_drewN ?_ _ | refine blk_drew ?_ | refine blk_alloc ?_ _)); refine blk_put (cs := #[.int .i64 1, .string (⟨#[]⟩ : ByteArray), .slice none 0 0, .slice none 0 0]) ?_ 3 _ rfl; (with_reducible repeat (first | refine blk_drewN ?_ _ | refine blk_drew ?_ | refine blk_alloc ?_ _)); refine blk_put (cs := #[.int .i64 1, .string (⟨#[]⟩ : ByteArray), .slice none 0 0, .slice none 0 0]) ?_ 2 _ rfl; (with_reducible repeat (first | refine blk_drewN ?_ _ | refine blk_drew ?_ | refine blk_alloc ?_ _)); refine blk_put (cs := #[.int .i64 1, .string (⟨#[]⟩ : ByteArray), .slice none 0 0, .slice none 0 0]) ?_ 1 _ rfl; (with_reducible repeat (first | refine blk_drewN ?_ _ | refine blk_drew ?_ | refine blk_alloc ?_ _)); refine blk_put (cs := #[.int .i64 0, .string (⟨#[]⟩ : ByteArray), .slice none 0 0, .slice none 0 0]) ?_ 0 _ rfl; (with_reducible repeat (first | refine blk_drewN ?_ _ | refine blk_drew ?_ | refine blk_alloc ?_ _)); exact BK122.out) hb); have n1_ := Aside0.mk (below_step (by repeat (first | (with_reducible first | exact HB.out | apply below_alloc | apply pw_below_drewN | apply below_drew1 | refine below_set ?_ GE122.out) | exact HB.out)) hb); clear BK122; clear HB; have BK122 := n0_; have HB := n1_; clear n0_ n1_; (try clear hb); (try clear hb2); (try clear hk); (try clear hi); have hcz29_0 : w28.cell? ⟨gb122, 0, none⟩ = some (.int .i64 1) := (blk_cell BK122.out 0).trans rfl; have hcz29_1 : w28.cell? ⟨gb122, 1, none⟩ = some (.string (⟨#[]⟩ : ByteArray)) := (blk_cell BK122.out 1).trans rfl; have hcz29_2 : w28.cell? ⟨gb122, 2, none⟩ = some (.slice none 0 0) := (blk_cell BK122.out 2).trans rfl; have hcz29_3 : w28.cell? ⟨gb122, 3, none⟩ = some (.slice none 0 0) := (blk_cell BK122.out 3).trans rfl; have hfz29_0 := blk_frozen BK122.out 0; have hfz29_1 := blk_frozen BK122.out 1; have hfz29_2 := blk_frozen BK122.out 2; have hfz29_3 := blk_frozen BK122.out 3) | ((with_reducible refine gate_callee (f := 10) rfl ?_); refine goesL_ (some 19) rfl rfl Try.func10 (by kernel_rfl) rfl #[.int .u8 63, .agg #[.string (⟨#[97]⟩ : ByteArray), .int .i64 0, .bool false], .agg #[.int .i64 1, .string (⟨#[]⟩ : ByteArray), .slice none 0 0, .slice none 0 0]] rfl (by (try simp only [List.map_toArray, List.map_cons, List.map_nil]); first | done | rfl | (simp only [List.length_drop, List.length_take]; rfl)) ?_; (refine (piece_One.calls 63 (⟨#[97]⟩ : ByteArray) 0 false 1 (⟨#[]⟩ : ByteArray) _ _ ([] : List ByteArray) _ _ ([] : List (S69)) t126 true t128 _ ?side1 ?side2 ?side3 ?side4 A2.out).mono ?_); (case side1 => exact Kd.C_nil _ _); (case side2 => exact Nat.le_refl _); (case side3 => exact Kd.C_nil _ _); (case side4 => exact Nat.le_refl _); rintro e w30 ⟨rfl, hb⟩; refine ⟨_, rfl, ?_⟩; have n0_ := Aside0.mk (blk_below (g := gb122) (o := .cells #[.int .i64 1, .string (⟨#[]⟩ : ByteArray), .slice none 0 0, .slice none 0 0] 27 (0, 0)) (by (with_reducible repeat (first | refine blk_drewN ?_ _ | refine blk_drew ?_ | refine blk_alloc ?_ _)); exact BK122.out) hb); have n1_ := Aside0.mk (below_step (by repeat (first | (with_reducible first | exact HB.out | apply below_alloc | apply pw_below_drewN | apply below_drew1 | refine below_set ?_ GE122.out) | exact HB.out)) hb); clear BK122; clear HB; have BK122 := n0_; have HB := n1_; clear n0_ n1_; (try clear hb); (try clear hb2); (try clear hk); (try clear hi)))
          go_ret
          exact ⟨by first | rfl | (simp [errW_none, errW_some] <;> rfl) | (simp [*, errW_none, errW_some] <;> rfl), by repeat (first | (with_reducible first | exact HB.out | apply below_alloc | apply pw_below_drewN | apply below_drew1 | refine below_set ?_ GE122.out) | exact HB.out)⟩
      · rw [if_neg c5] at H
        have c5b0 : (t125 == 0) = false := beq_eq_false_iff_ne.mpr c5
        have c5b1 : (t125 != 0) = true := bne_iff_ne.mpr c5
        obtain rfl := Option.some.inj H
        go_enter Try.func8, Try.ntmps8
        go_wp2_with (first | ((with_reducible refine gate_dst (N := 1) rfl ?_); refine box_event ?hg (N := 1) ?hd (cs := #[.int .i64 0, .string (⟨#[]⟩ : ByteArray), .slice none 0 0, .slice none 0 0]) (t := 27) ?hr ?_; (case hd => rfl); (case hg => rfl); (case hr => first | (go_simp; done) | (go_simp; rfl)); intro gb122 hg w31 hbox hb; have n0_ := Aside0.mk (below_step (by repeat (first | (with_reducible first | exact HB.out | apply below_alloc | apply pw_below_drewN | apply below_drew1) | exact HB.out)) hb); have n1_ := Aside0.mk (hbox); have n2_ := Aside0.mk ((by rw [hg]; exact (below_size (by repeat (first | (with_reducible first | exact HB.out | apply below_alloc | apply pw_below_drewN | apply below_drew1) | exact HB.out))) : w.heap.size ≤ gb122)); have n3_ := Aside0.mk ((by rw [hg]; exact (below_size (by repeat (first | (with_reducible first | exact HB.out | apply below_alloc | apply pw_below_drewN | apply below_drew1) | exact HB.out))) : w.heap.size ≤ gb122)); clear HB; have HB := n0_; have BK122 := n1_; have GW122 := n2_; have GE122 := n3_; clear n0_ n1_ n2_ n3_; clear hb hbox hg; have hcz32_0 : w31.cell? ⟨gb122, 0, none⟩ = some (.int .i64 0) := (blk_cell BK122.out 0).trans rfl; have hcz32_1 : w31.cell? ⟨gb122, 1, none⟩ = some (.string (⟨#[]⟩ : ByteArray)) := (blk_cell BK122.out 1).trans rfl; have hcz32_2 : w31.cell? ⟨gb122, 2, none⟩ = some (.slice none 0 0) := (blk_cell BK122.out 2).trans rfl; have hcz32_3 : w31.cell? ⟨gb122, 3, none⟩ = some (.slice none 0 0) := (blk_cell BK122.out 3).trans rfl; have hfz32_0 := blk_frozen BK122.out 0; have hfz32_1 := blk_frozen BK122.out 1; have hfz32_2 := blk_frozen BK122.out 2; have hfz32_3 := blk_frozen BK122.out 3) | ((with_reducible refine gate_callee (f := 10) rfl ?_); refine goesL_ (some 12) rfl rfl Try.func10 (by kernel_rfl) rfl #[.int .u8 59, .agg #[.string (⟨#[97]⟩ : ByteArray), .int .i64 0, .bool false], .agg #[.int .i64 1, .string (⟨#[]⟩ : ByteArray), .slice none 0 0, .slice none 0 0]] rfl (by (try simp only [List.map_toArray, List.map_cons, List.map_nil]); first | done | rfl | (simp only [List.length_drop, List.length_take]; rfl)) ?_; (refine (piece_One.calls 59 (⟨#[97]⟩ : ByteArray) 0 false 1 (⟨#[]⟩ : ByteArray) _ _ ([] : List ByteArray) _ _ ([] : List (S69)) t123 true t125 _ ?side1 ?side2 ?side3 ?side4 A1.out).mono ?_); (case side1 => exact Kd.C_nil _ _); (case side2 => exact Nat.le_refl _); (case side3 => exact Kd.C_nil _ _); (case side4 => exact Nat.le_refl _); rintro e w33 ⟨rfl, hb⟩; refine ⟨_, rfl, ?_⟩; have n0_ := Aside0.mk (blk_below (g := gb122) (o := .cells #[.int .i64 1, .string (⟨#[]⟩ : ByteArray), .slice none 0 0, .slice none 0 0] 27 (0, 0)) (by (with_reducible repeat (first | refine blk_drewN ?_ _ | refine blk_drew ?_ | refine blk_alloc ?_ _)); refine blk_put (cs := #[.int .i64 1, .string (⟨#[]⟩ : ByteArray), .slice none 0 0, .slice none 0 0]) ?_ 3 _ rfl; (with_reducible repeat (first | refine blk_drewN ?_ _ | refine blk_drew ?_ | refine blk_alloc ?_ _)); refine blk_put (cs := #[.int .i64 1, .string (⟨#[]⟩ : ByteArray), .slice none 0 0, .slice none 0 0]) ?_ 2 _ rfl; (with_reducible repeat (first | refine blk_drewN ?_ _ | refine blk_drew ?_ | refine blk_alloc ?_ _)); refine blk_put (cs := #[.int .i64 1, .string (⟨#[]⟩ : ByteArray), .slice none 0 0, .slice none 0 0]) ?_ 1 _ rfl; (with_reducible repeat (first | refine blk_drewN ?_ _ | refine blk_drew ?_ | refine blk_alloc ?_ _)); refine blk_put (cs := #[.int .i64 0, .string (⟨#[]⟩ : ByteArray), .slice none 0 0, .slice none 0 0]) ?_ 0 _ rfl; (with_reducible repeat (first | refine blk_drewN ?_ _ | refine blk_drew ?_ | refine blk_alloc ?_ _)); exact BK122.out) hb); have n1_ := Aside0.mk (below_step (by repeat (first | (with_reducible first | exact HB.out | apply below_alloc | apply pw_below_drewN | apply below_drew1 | refine below_set ?_ GE122.out) | exact HB.out)) hb); clear BK122; clear HB; have BK122 := n0_; have HB := n1_; clear n0_ n1_; (try clear hb); (try clear hb2); (try clear hk); (try clear hi); have hcz34_0 : w33.cell? ⟨gb122, 0, none⟩ = some (.int .i64 1) := (blk_cell BK122.out 0).trans rfl; have hcz34_1 : w33.cell? ⟨gb122, 1, none⟩ = some (.string (⟨#[]⟩ : ByteArray)) := (blk_cell BK122.out 1).trans rfl; have hcz34_2 : w33.cell? ⟨gb122, 2, none⟩ = some (.slice none 0 0) := (blk_cell BK122.out 2).trans rfl; have hcz34_3 : w33.cell? ⟨gb122, 3, none⟩ = some (.slice none 0 0) := (blk_cell BK122.out 3).trans rfl; have hfz34_0 := blk_frozen BK122.out 0; have hfz34_1 := blk_frozen BK122.out 1; have hfz34_2 := blk_frozen BK122.out 2; have hfz34_3 := blk_frozen BK122.out 3) | ((with_reducible refine gate_callee (f := 10) rfl ?_); refine goesL_ (some 19) rfl rfl Try.func10 (by kernel_rfl) rfl #[.int .u8 63, .agg #[.string (⟨#[97]⟩ : ByteArray), .int .i64 0, .bool false], .agg #[.int .i64 1, .string (⟨#[]⟩ : ByteArray), .slice none 0 0, .slice none 0 0]] rfl (by (try simp only [List.map_toArray, List.map_cons, List.map_nil]); first | done | rfl | (simp only [List.length_drop, List.length_take]; rfl)) ?_; (refine (piece_One.calls 63 (⟨#[97]⟩ : ByteArray) 0 false 1 (⟨#[]⟩ : ByteArray) _ _ ([] : List ByteArray) _ _ ([] : List (S69)) t126 true t128 _ ?side1 ?side2 ?side3 ?side4 A2.out).mono ?_); (case side1 => exact Kd.C_nil _ _); (case side2 => exact Nat.le_refl _); (case side3 => exact Kd.C_nil _ _); (case side4 => exact Nat.le_refl _); rintro e w35 ⟨rfl, hb⟩; refine ⟨_, rfl, ?_⟩; have n0_ := Aside0.mk (blk_below (g := gb122) (o := .cells #[.int .i64 1, .string (⟨#[]⟩ : ByteArray), .slice none 0 0, .slice none 0 0] 27 (0, 0)) (by (with_reducible repeat (first | refine blk_drewN ?_ _ | refine blk_drew ?_ | refine blk_alloc ?_ _)); exact BK122.out) hb); have n1_ := Aside0.mk (below_step (by repeat (first | (with_reducible first | exact HB.out | apply below_alloc | apply pw_below_drewN | apply below_drew1 | refine below_set ?_ GE122.out) | exact HB.out)) hb); clear BK122; clear HB; have BK122 := n0_; have HB := n1_; clear n0_ n1_; (try clear hb); (try clear hb2); (try clear hk); (try clear hi)))
        go_ret
        exact ⟨by first | rfl | (simp [errW_none, errW_some] <;> rfl) | (simp [*, errW_none, errW_some] <;> rfl), by repeat (first | (with_reducible first | exact HB.out | apply below_alloc | apply pw_below_drewN | apply below_drew1 | refine below_set ?_ GE122.out) | exact HB.out)⟩
    · replace c4 := Bool.eq_false_iff.mpr c4
      subst c4
      have H1 : (some false) = some r := by rw [if_neg (show ¬ (false = true) by decide)] at H; exact H
      clear H
      have H := H1
      clear H1
      obtain rfl := Option.some.inj H
      go_enter Try.func8, Try.ntmps8
      go_wp2_with (first | ((with_reducible refine gate_dst (N := 1) rfl ?_); refine box_event ?hg (N := 1) ?hd (cs := #[.int .i64 0, .string (⟨#[]⟩ : ByteArray), .slice none 0 0, .slice none 0 0]) (t := 27) ?hr ?_; (case hd => rfl); (case hg => rfl); (case hr => first | (go_simp; done) | (go_simp; rfl)); intro gb122 hg w36 hbox hb; have n0_ := Aside0.mk (below_step (by repeat (first | (with_reducible first | exact HB.out | apply below_alloc | apply pw_below_drewN | apply below_drew1) | exact HB.out)) hb); have n1_ := Aside0.mk (hbox); have n2_ := Aside0.mk ((by rw [hg]; exact (below_size (by repeat (first | (with_reducible first | exact HB.out | apply below_alloc | apply pw_below_drewN | apply below_drew1) | exact HB.out))) : w.heap.size ≤ gb122)); have n3_ := Aside0.mk ((by rw [hg]; exact (below_size (by repeat (first | (with_reducible first | exact HB.out | apply below_alloc | apply pw_below_drewN | apply below_drew1) | exact HB.out))) : w.heap.size ≤ gb122)); clear HB; have HB := n0_; have BK122 := n1_; have GW122 := n2_; have GE122 := n3_; clear n0_ n1_ n2_ n3_; clear hb hbox hg; have hcz37_0 : w36.cell? ⟨gb122, 0, none⟩ = some (.int .i64 0) := (blk_cell BK122.out 0).trans rfl; have hcz37_1 : w36.cell? ⟨gb122, 1, none⟩ = some (.string (⟨#[]⟩ : ByteArray)) := (blk_cell BK122.out 1).trans rfl; have hcz37_2 : w36.cell? ⟨gb122, 2, none⟩ = some (.slice none 0 0) := (blk_cell BK122.out 2).trans rfl; have hcz37_3 : w36.cell? ⟨gb122, 3, none⟩ = some (.slice none 0 0) := (blk_cell BK122.out 3).trans rfl; have hfz37_0 := blk_frozen BK122.out 0; have hfz37_1 := blk_frozen BK122.out 1; have hfz37_2 := blk_frozen BK122.out 2; have hfz37_3 := blk_frozen BK122.out 3) | ((with_reducible refine gate_callee (f := 10) rfl ?_); refine goesL_ (some 12) rfl rfl Try.func10 (by kernel_rfl) rfl #[.int .u8 59, .agg #[.string (⟨#[97]⟩ : ByteArray), .int .i64 0, .bool false], .agg #[.int .i64 1, .string (⟨#[]⟩ : ByteArray), .slice none 0 0, .slice none 0 0]] rfl (by (try simp only [List.map_toArray, List.map_cons, List.map_nil]); first | done | rfl | (simp only [List.length_drop, List.length_take]; rfl)) ?_; (refine (piece_One.calls 59 (⟨#[97]⟩ : ByteArray) 0 false 1 (⟨#[]⟩ : ByteArray) _ _ ([] : List ByteArray) _ _ ([] : List (S69)) t123 true t125 _ ?side1 ?side2 ?side3 ?side4 A1.out).mono ?_); (case side1 => exact Kd.C_nil _ _); (case side2 => exact Nat.le_refl _); (case side3 => exact Kd.C_nil _ _); (case side4 => exact Nat.le_refl _); rintro e w38 ⟨rfl, hb⟩; refine ⟨_, rfl, ?_⟩; have n0_ := Aside0.mk (blk_below (g := gb122) (o := .cells #[.int .i64 1, .string (⟨#[]⟩ : ByteArray), .slice none 0 0, .slice none 0 0] 27 (0, 0)) (by (with_reducible repeat (first | refine blk_drewN ?_ _ | refine blk_drew ?_ | refine blk_alloc ?_ _)); refine blk_put (cs := #[.int .i64 1, .string (⟨#[]⟩ : ByteArray), .slice none 0 0, .slice none 0 0]) ?_ 3 _ rfl; (with_reducible repeat (first | refine blk_drewN ?_ _ | refine blk_drew ?_ | refine blk_alloc ?_ _)); refine blk_put (cs := #[.int .i64 1, .string (⟨#[]⟩ : ByteArray), .slice none 0 0, .slice none 0 0]) ?_ 2 _ rfl; (with_reducible repeat (first | refine blk_drewN ?_ _ | refine blk_drew ?_ | refine blk_alloc ?_ _)); refine blk_put (cs := #[.int .i64 1, .string (⟨#[]⟩ : ByteArray), .slice none 0 0, .slice none 0 0]) ?_ 1 _ rfl; (with_reducible repeat (first | refine blk_drewN ?_ _ | refine blk_drew ?_ | refine blk_alloc ?_ _)); refine blk_put (cs := #[.int .i64 0, .string (⟨#[]⟩ : ByteArray), .slice none 0 0, .slice none 0 0]) ?_ 0 _ rfl; (with_reducible repeat (first | refine blk_drewN ?_ _ | refine blk_drew ?_ | refine blk_alloc ?_ _)); exact BK122.out) hb); have n1_ := Aside0.mk (below_step (by repeat (first | (with_reducible first | exact HB.out | apply below_alloc | apply pw_below_drewN | apply below_drew1 | refine below_set ?_ GE122.out) | exact HB.out)) hb); clear BK122; clear HB; have BK122 := n0_; have HB := n1_; clear n0_ n1_; (try clear hb); (try clear hb2); (try clear hk); (try clear hi); have hcz39_0 : w38.cell? ⟨gb122, 0, none⟩ = some (.int .i64 1) := (blk_cell BK122.out 0).trans rfl; have hcz39_1 : w38.cell? ⟨gb122, 1, none⟩ = some (.string (⟨#[]⟩ : ByteArray)) := (blk_cell BK122.out 1).trans rfl; have hcz39_2 : w38.cell? ⟨gb122, 2, none⟩ = some (.slice none 0 0) := (blk_cell BK122.out 2).trans rfl; have hcz39_3 : w38.cell? ⟨gb122, 3, none⟩ = some (.slice none 0 0) := (blk_cell BK122.out 3).trans rfl; have hfz39_0 := blk_frozen BK122.out 0; have hfz39_1 := blk_frozen BK122.out 1; have hfz39_2 := blk_frozen BK122.out 2; have hfz39_3 := blk_frozen BK122.out 3) | ((with_reducible refine gate_callee (f := 10) rfl ?_); refine goesL_ (some 19) rfl rfl Try.func10 (by kernel_rfl) rfl #[.int .u8 63, .agg #[.string (⟨#[97]⟩ : ByteArray), .int .i64 0, .bool false], .agg #[.int .i64 1, .string (⟨#[]⟩ : ByteArray), .slice none 0 0, .slice none 0 0]] rfl (by (try simp only [List.map_toArray, List.map_cons, List.map_nil]); first | done | rfl | (simp only [List.length_drop, List.length_take]; rfl)) ?_; (refine (piece_One.calls 63 (⟨#[97]⟩ : ByteArray) 0 false 1 (⟨#[]⟩ : ByteArray) _ _ ([] : List ByteArray) _ _ ([] : List (S69)) t126 false t128 _ ?side1 ?side2 ?side3 ?side4 A2.out).mono ?_); (case side1 => exact Kd.C_nil _ _); (case side2 => exact Nat.le_refl _); (case side3 => exact Kd.C_nil _ _); (case side4 => exact Nat.le_refl _); rintro e w40 ⟨rfl, hb⟩; refine ⟨_, rfl, ?_⟩; have n0_ := Aside0.mk (blk_below (g := gb122) (o := .cells #[.int .i64 1, .string (⟨#[]⟩ : ByteArray), .slice none 0 0, .slice none 0 0] 27 (0, 0)) (by (with_reducible repeat (first | refine blk_drewN ?_ _ | refine blk_drew ?_ | refine blk_alloc ?_ _)); exact BK122.out) hb); have n1_ := Aside0.mk (below_step (by repeat (first | (with_reducible first | exact HB.out | apply below_alloc | apply pw_below_drewN | apply below_drew1 | refine below_set ?_ GE122.out) | exact HB.out)) hb); clear BK122; clear HB; have BK122 := n0_; have HB := n1_; clear n0_ n1_; (try clear hb); (try clear hb2); (try clear hk); (try clear hi)))
      go_ret
      exact ⟨by first | rfl | (simp [errW_none, errW_some] <;> rfl) | (simp [*, errW_none, errW_some] <;> rfl), by repeat (first | (with_reducible first | exact HB.out | apply below_alloc | apply pw_below_drewN | apply below_drew1 | refine below_set ?_ GE122.out) | exact HB.out)⟩
  · replace c3 := Bool.eq_false_iff.mpr c3
    subst c3
    have H1 : (some false) = some r := by rw [if_neg (show ¬ (false = true) by decide)] at H; exact H
    clear H
    have H := H1
    clear H1
    obtain rfl := Option.some.inj H
    go_enter Try.func8, Try.ntmps8
    go_wp2_with (first | ((with_reducible refine gate_dst (N := 1) rfl ?_); refine box_event ?hg (N := 1) ?hd (cs := #[.int .i64 0, .string (⟨#[]⟩ : ByteArray), .slice none 0 0, .slice none 0 0]) (t := 27) ?hr ?_; (case hd => rfl); (case hg => rfl); (case hr => first | (go_simp; done) | (go_simp; rfl)); intro gb122 hg w41 hbox hb; have n0_ := Aside0.mk (below_step (by repeat (first | (with_reducible first | exact HB.out | apply below_alloc | apply pw_below_drewN | apply below_drew1) | exact HB.out)) hb); have n1_ := Aside0.mk (hbox); have n2_ := Aside0.mk ((by rw [hg]; exact (below_size (by repeat (first | (with_reducible first | exact HB.out | apply below_alloc | apply pw_below_drewN | apply below_drew1) | exact HB.out))) : w.heap.size ≤ gb122)); have n3_ := Aside0.mk ((by rw [hg]; exact (below_size (by repeat (first | (with_reducible first | exact HB.out | apply below_alloc | apply pw_below_drewN | apply below_drew1) | exact HB.out))) : w.heap.size ≤ gb122)); clear HB; have HB := n0_; have BK122 := n1_; have GW122 := n2_; have GE122 := n3_; clear n0_ n1_ n2_ n3_; clear hb hbox hg; have hcz42_0 : w41.cell? ⟨gb122, 0, none⟩ = some (.int .i64 0) := (blk_cell BK122.out 0).trans rfl; have hcz42_1 : w41.cell? ⟨gb122, 1, none⟩ = some (.string (⟨#[]⟩ : ByteArray)) := (blk_cell BK122.out 1).trans rfl; have hcz42_2 : w41.cell? ⟨gb122, 2, none⟩ = some (.slice none 0 0) := (blk_cell BK122.out 2).trans rfl; have hcz42_3 : w41.cell? ⟨gb122, 3, none⟩ = some (.slice none 0 0) := (blk_cell BK122.out 3).trans rfl; have hfz42_0 := blk_frozen BK122.out 0; have hfz42_1 := blk_frozen BK122.out 1; have hfz42_2 := blk_frozen BK122.out 2; have hfz42_3 := blk_frozen BK122.out 3) | ((with_reducible refine gate_callee (f := 10) rfl ?_); refine goesL_ (some 12) rfl rfl Try.func10 (by kernel_rfl) rfl #[.int .u8 59, .agg #[.string (⟨#[97]⟩ : ByteArray), .int .i64 0, .bool false], .agg #[.int .i64 1, .string (⟨#[]⟩ : ByteArray), .slice none 0 0, .slice none 0 0]] rfl (by (try simp only [List.map_toArray, List.map_cons, List.map_nil]); first | done | rfl | (simp only [List.length_drop, List.length_take]; rfl)) ?_; (refine (piece_One.calls 59 (⟨#[97]⟩ : ByteArray) 0 false 1 (⟨#[]⟩ : ByteArray) _ _ ([] : List ByteArray) _ _ ([] : List (S69)) t123 false t125 _ ?side1 ?side2 ?side3 ?side4 A1.out).mono ?_); (case side1 => exact Kd.C_nil _ _); (case side2 => exact Nat.le_refl _); (case side3 => exact Kd.C_nil _ _); (case side4 => exact Nat.le_refl _); rintro e w43 ⟨rfl, hb⟩; refine ⟨_, rfl, ?_⟩; have n0_ := Aside0.mk (blk_below (g := gb122) (o := .cells #[.int .i64 1, .string (⟨#[]⟩ : ByteArray), .slice none 0 0, .slice none 0 0] 27 (0, 0)) (by (with_reducible repeat (first | refine blk_drewN ?_ _ | refine blk_drew ?_ | refine blk_alloc ?_ _)); refine blk_put (cs := #[.int .i64 1, .string (⟨#[]⟩ : ByteArray), .slice none 0 0, .slice none 0 0]) ?_ 3 _ rfl; (with_reducible repeat (first | refine blk_drewN ?_ _ | refine blk_drew ?_ | refine blk_alloc ?_ _)); refine blk_put (cs := #[.int .i64 1, .string (⟨#[]⟩ : ByteArray), .slice none 0 0, .slice none 0 0]) ?_ 2 _ rfl; (with_reducible repeat (first | refine blk_drewN ?_ _ | refine blk_drew ?_ | refine blk_alloc ?_ _)); refine blk_put (cs := #[.int .i64 1, .string (⟨#[]⟩ : ByteArray), .slice none 0 0, .slice none 0 0]) ?_ 1 _ rfl; (with_reducible repeat (first | refine blk_drewN ?_ _ | refine blk_drew ?_ | refine blk_alloc ?_ _)); refine blk_put (cs := #[.int .i64 0, .string (⟨#[]⟩ : ByteArray), .slice none 0 0, .slice none 0 0]) ?_ 0 _ rfl; (with_reducible repeat (first | refine blk_drewN ?_ _ | refine blk_drew ?_ | refine blk_alloc ?_ _)); exact BK122.out) hb); have n1_ := Aside0.mk (below_step (by repeat (first | (with_reducible first | exact HB.out | apply below_alloc | apply pw_below_drewN | apply below_drew1 | refine below_set ?_ GE122.out) | exact HB.out)) hb); clear BK122; clear HB; have BK122 := n0_; have HB := n1_; clear n0_ n1_; (try clear hb); (try clear hb2); (try clear hk); (try clear hi); have hcz44_0 : w43.cell? ⟨gb122, 0, none⟩ = some (.int .i64 1) := (blk_cell BK122.out 0).trans rfl; have hcz44_1 : w43.cell? ⟨gb122, 1, none⟩ = some (.string (⟨#[]⟩ : ByteArray)) := (blk_cell BK122.out 1).trans rfl; have hcz44_2 : w43.cell? ⟨gb122, 2, none⟩ = some (.slice none 0 0) := (blk_cell BK122.out 2).trans rfl; have hcz44_3 : w43.cell? ⟨gb122, 3, none⟩ = some (.slice none 0 0) := (blk_cell BK122.out 3).trans rfl; have hfz44_0 := blk_frozen BK122.out 0; have hfz44_1 := blk_frozen BK122.out 1; have hfz44_2 := blk_frozen BK122.out 2; have hfz44_3 := blk_frozen BK122.out 3) | ((with_reducible refine gate_callee (f := 10) rfl ?_); refine goesL_ (some 19) rfl rfl Try.func10 (by kernel_rfl) rfl #[.int .u8 63, .agg #[.string (⟨#[97]⟩ : ByteArray), .int .i64 0, .bool false], .agg #[.int .i64 1, .string (⟨#[]⟩ : ByteArray), .slice none 0 0, .slice none 0 0]] rfl (by (try simp only [List.map_toArray, List.map_cons, List.map_nil]); first | done | rfl | (simp only [List.length_drop, List.length_take]; rfl)) ?_; (refine (piece_One.calls 63 (⟨#[97]⟩ : ByteArray) 0 false 1 (⟨#[]⟩ : ByteArray) _ _ ([] : List ByteArray) _ _ ([] : List (S69)) t126 t127 t128 _ ?side1 ?side2 ?side3 ?side4 A2.out).mono ?_); (case side1 => exact Kd.C_nil _ _); (case side2 => exact Nat.le_refl _); (case side3 => exact Kd.C_nil _ _); (case side4 => exact Nat.le_refl _); rintro e w45 ⟨rfl, hb⟩; refine ⟨_, rfl, ?_⟩; have n0_ := Aside0.mk (blk_below (g := gb122) (o := .cells #[.int .i64 1, .string (⟨#[]⟩ : ByteArray), .slice none 0 0, .slice none 0 0] 27 (0, 0)) (by (with_reducible repeat (first | refine blk_drewN ?_ _ | refine blk_drew ?_ | refine blk_alloc ?_ _)); exact BK122.out) hb); have n1_ := Aside0.mk (below_step (by repeat (first | (with_reducible first | exact HB.out | apply below_alloc | apply pw_below_drewN | apply below_drew1 | refine below_set ?_ GE122.out) | exact HB.out)) hb); clear BK122; clear HB; have BK122 := n0_; have HB := n1_; clear n0_ n1_; (try clear hb); (try clear hb2); (try clear hk); (try clear hi)))
    go_ret
    exact ⟨by first | rfl | (simp [errW_none, errW_some] <;> rfl) | (simp [*, errW_none, errW_some] <;> rfl), by repeat (first | (with_reducible first | exact HB.out | apply below_alloc | apply pw_below_drewN | apply below_drew1 | refine below_set ?_ GE122.out) | exact HB.out)⟩

end Go.Proofs.Ytbjeegkmafbejaa.PU
