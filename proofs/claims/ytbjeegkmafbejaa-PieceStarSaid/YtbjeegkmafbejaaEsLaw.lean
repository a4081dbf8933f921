/- The law PieceStar, for every input: true; each argument reads as it did. Over the texts of the claim. -/
import Derived.Test.YtbjeegkmafbejaaErG4
import Derived.Test.YtbjeegkmafbejaaErG10
import Derived.Test.YtbjeegkmafbejaaErG5
import Derived.Test.YtbjeegkmafbejaaErG6
import Derived.Test.YtbjeegkmafbejaaErG7
import Derived.Test.YtbjeegkmafbejaaErG8
import Derived.Test.YtbjeegkmafbejaaErG2
import Derived.Test.YtbjeegkmafbejaaRows
import Derived.WalkKit
import Derived.ProofKit
import Derived.OpenShut
import Derived.ShutString
import Derived.ChangeOld
import Derived.Below
import Derived.SizedLaws
section
namespace Go.Proofs.Ytbjeegkmafbejaa.PE
open Go.RowKit Go.Proofs.YtbjeegkmafbejaaW.PrintWords Go.Proofs.YtbjeegkmafbejaaW.PrintLast Go.Proofs.YtbjeegkmafbejaaW.PrintMore
attribute [local go_sem] max2_int min2_int max_two min_two max_three min_three max_four min_four   -- for this text's walks alone
set_option linter.unusedVariables false
set_option linter.unusedSimpArgs false

/-! ### piece_One: function 10 (ours) -/
attribute [local go_sem] X.run_store_func
theorem cells3_ {w : World} {B : Nat} {a b c : Value} {t : TypeId} (h : w.heap[B]? = some (.cells #[a, b, c] t (0, 0))) :
    w.cell? ⟨B, 0, none⟩ = some a ∧ w.cell? ⟨B, 1, none⟩ = some b ∧ w.cell? ⟨B, 2, none⟩ = some c := by
  refine ⟨?_, ?_, ?_⟩ <;> simp [blk_cell h]
theorem cells4_ {w : World} {B : Nat} {a b c d : Value} {t : TypeId} (h : w.heap[B]? = some (.cells #[a, b, c, d] t (0, 0))) :
    w.cell? ⟨B, 0, none⟩ = some a ∧ w.cell? ⟨B, 1, none⟩ = some b ∧ w.cell? ⟨B, 2, none⟩ = some c ∧ w.cell? ⟨B, 3, none⟩ = some d := by
  refine ⟨?_, ?_, ?_, ?_⟩ <;> simp [blk_cell h]
/-- The memory of an operator's way. -/
def wayO (c : Int) (b : Nat) : Obj := .cells #[.string (X.ruleFirst c), .string (X.ruleSep c), .bool (X.ruleNamed c), .string (X.ruleEmpty c), .bool (X.ruleKeep c), .func (.func 44) #[] #[.pointer (some ⟨b, 0, none⟩)]] 53 (0, 0)
/-- May a variable stand so? -/
def sMay (nm : ByteArray) (mx : Int) (st : Bool) : Bool := Y.nameMay nm && (decide (0 ≤ mx) && (decide (mx ≤ 9999) && !(st && decide (0 < mx))))
theorem sMay_f (nm : ByteArray) (mx : Int) (st : Bool) (hn : nm.size ≤ 1000000) : spec_May.f nm mx st = some (sMay nm mx st) := by
  unfold spec_May.f vname_May.f sMay
  rw [if_pos hn, Option.bind_some]
  cases Y.nameMay nm with
  | false => rfl
  | true =>
    rw [if_pos rfl]
    by_cases h0 : 0 ≤ mx
    · rw [if_pos h0]
      by_cases h1 : mx ≤ 9999
      · rw [if_pos h1]; cases st <;> simp [h0, h1]
      · rw [if_neg h1]; simp [h1]
    · rw [if_neg h0]; simp [h0]
/-- What is told of a text. -/
def oneT (op : Int) (nm : ByteArray) (mx : Int) (st : Bool) (s : ByteArray) : ByteArray × Bool × Int :=
  if (X.isOper op && sMay nm mx st) = true then if Y.validS s = true then (X.textS op nm mx s, true, 0) else (⟨#[]⟩, false, 3) else (⟨#[]⟩, false, 1)
/-- Pairs, as the walks have them. -/
def pairsOf (p : List S69) : List (ByteArray × ByteArray) := p.map fun x => (x.f0, x.f1)
/-- What is told of any value. -/
def oneV (op : Int) (nm : ByteArray) (mx : Int) (st : Bool) (vk : Int) (s : ByteArray) (l : List ByteArray) (p : List S69) : ByteArray × Bool × Int :=
  if (X.isOper op && sMay nm mx st) = true then
    if textsOf vk s l p = [] then (⟨#[]⟩, false, 0)
    else if 0 < mx ∧ vk ≠ 1 then (⟨#[]⟩, false, 4)
    else if validV vk s l p = true then (if vk = 1 then X.textS op nm mx s else if st = true then X.starS op nm vk l (pairsOf p) else X.wholeS op nm (textsOf vk s l p), true, 0)
    else (⟨#[]⟩, false, 3)
  else (⟨#[]⟩, false, 1)
theorem oneV_text (op : Int) (nm : ByteArray) (mx : Int) (st : Bool) (s : ByteArray) (l : List ByteArray) (p : List S69) : oneV op nm mx st 1 s l p = oneT op nm mx st s := by
  unfold oneV oneT
  have h1 : textsOf 1 s l p = [s] := rfl
  have h2 : validV 1 s l p = Y.validS s := by simp [validV, textsOf]
  rw [h1, h2, if_neg (show ¬ [s] = [] by simp), if_neg (show ¬ (0 < mx ∧ (1 : Int) ≠ 1) from fun h => h.2 rfl), if_pos rfl]
def smallP (p : List S69) : Prop := ∀ x ∈ p, x.f0.size ≤ 300000 ∧ x.f1.size ≤ 300000
instance (p : List S69) : Decidable (smallP p) := by unfold smallP; infer_instance
theorem pairRow {w : World} {A : Option Addr} {p : List S69} (h : Kd.C k69 w A p.length p) : ∀ W, Below w.heap.size w W → X.PairRow W A (pairsOf p) := fun W hW k hk => by
  have hk' : k < p.length := by unfold pairsOf at hk; rwa [List.length_map] at hk
  obtain ⟨ad, e, h0, h1⟩ := at_T69 (Kd.C_below h hW) (k : Int) (by omega) (by omega)
  rw [rd_at p k hk'] at h0 h1
  simp only [Int.toNat_natCast] at h0 h1
  refine ⟨ad, e, ?_, ?_⟩
  · rw [h0]; simp [pairsOf]
  · rw [h1]; simp [pairsOf]
def piece_One.f (a0 : Int) (a1_0 : ByteArray) (a1_1 : Int) (a1_2 : Bool) (a2_0 : Int) (a2_1 : ByteArray) (l2_2 : List ByteArray) (l2_3 : List (S69)) : Option (ByteArray × Bool × Int) := if modest a2_1 l2_2 l2_3 ∧ 0 ≤ a0 ∧ a0 ≤ 255 ∧ a1_0.size ≤ 1000000 ∧ smallP l2_3 then some (oneV a0 a1_0 a1_1 a1_2 a2_0 a2_1 l2_2 l2_3) else none
set_option maxHeartbeats 8000000 in
set_option maxRecDepth 100000 in
theorem piece_One.calls (a0 : Int) (a1_0 : ByteArray) (a1_1 : Int) (a1_2 : Bool) (a2_0 : Int) (a2_1 : ByteArray) (A2_2 : Option Addr) (c2_2 : Nat) (l2_2 : List ByteArray) (A2_3 : Option Addr) (c2_3 : Nat) (l2_3 : List (S69)) (r1 : ByteArray) (r2 : Bool) (r3 : Int) (w : World) (hr2_2 : Kd.C Kd.string w A2_2 l2_2.length l2_2) (hc2_2 : l2_2.length ≤ c2_2) (hr2_3 : Kd.C k69 w A2_3 l2_3.length l2_3) (hc2_3 : l2_3.length ≤ c2_3) (h : piece_One.f a0 a1_0 a1_1 a1_2 a2_0 a2_1 l2_2 l2_3 = some (r1, r2, r3)) :
    Calls Try.prog 10 #[.int .u8 a0, .agg #[.string a1_0, .int .i64 a1_1, .bool a1_2], .agg #[.int .i64 a2_0, .string a2_1, .slice A2_2 l2_2.length c2_2, .slice A2_3 l2_3.length c2_3]] w fun e w' => e = .returned (.tuple #[.string r1, .bool r2, .int .i64 r3]) ∧ Below w.heap.size w w' := by
  simp only [piece_One.f] at h
  split at h
  · rename_i hm
    obtain ⟨hm, h0, h1, hn, hps⟩ := hm
    by_cases hvk : a2_0 = 1
    · have hvk1 := hvk
      subst hvk
      have hR := (oneV_text a0 a1_0 a1_1 a1_2 a2_1 l2_2 l2_3).symm.trans (Option.some.inj h)
      clear h hps
      have HF := Aside0.mk (texts_f (l2_3.length + 1) 1 a2_1 l2_2 l2_3 hm (Nat.lt_succ_self _))
      have HD := Aside0.mk (show value_Defined.f (l2_3.length + 1) 1 a2_1 l2_2 l2_3 = some true by unfold value_Defined.f; rw [HF.out]; rfl)
      have HV := Aside0.mk (show value_Valid.f 1 a2_1 l2_2 l2_3 = some (Y.validS a2_1) by unfold value_Valid.f; rw [if_pos hm]; simp [validV, textsOf])
      have HMY := Aside0.mk (sMay_f a1_0 a1_1 a1_2 hn)
      have HSZ := Aside0.mk hm.1
      have HR2 := Aside0.mk hr2_2
      have HR3 := Aside0.mk hr2_3
      have HRR := Aside0.mk hR
      clear hr2_2 hr2_3 hm hR HF
      go_enter Try.func10, Try.ntmps10
      go_wp2_with fail
      refine (X.pieceOf_any a0 _ h0 h1).mono ?_
      rintro e w1 ⟨rb, rfl, hru, hb⟩
      have HSP := Aside0.mk (blk_below (blk_alloc (blk_new w _) _) hb)
      have HVL := Aside0.mk (blk_below (X.blk_new2 w _ _) hb)
      have HB := Aside0.mk (below_step (w := w) (X.below_new2 w _ _) hb)
      have HRU := Aside0.mk hru
      clear hb hru
      unfold X.wayV
      have S1 := Aside0.mk (blk_alloc HSP.out (wayO a0 rb))
      have S2 := Aside0.mk (blk_alloc HVL.out (wayO a0 rb))
      have S3 := Aside0.mk (blk_alloc HRU.out (wayO a0 rb))
      have S4 := Aside0.mk (blk_new w1 (wayO a0 rb))
      have S5 := Aside0.mk (below_alloc HB.out (wayO a0 rb))
      clear HSP HVL HRU HB
      unfold wayO at S1 S2 S3 S4 S5
      cases hop : X.isOper a0 with
      | false =>
        have HE := Aside0.mk (show oneT a0 a1_0 a1_1 a1_2 a2_1 = (⟨#[]⟩, false, 1) by unfold oneT; rw [hop]; rfl)
        clear hop
        rw [HE.out] at HRR
        go_wp2_with fail
        have hR := HRR.out
        simp only [Prod.mk.injEq] at hR
        obtain ⟨rfl, rfl, rfl⟩ := hR
        go_ret3
        exact ⟨rfl, S5.out⟩
      | true =>
        cases hmy : sMay a1_0 a1_1 a1_2 with
        | false =>
          have HE := Aside0.mk (show oneT a0 a1_0 a1_1 a1_2 a2_1 = (⟨#[]⟩, false, 1) by unfold oneT; rw [hop, hmy]; rfl)
          rw [hmy] at HMY
          clear hop hmy
          rw [HE.out] at HRR
          obtain ⟨p0, p1, p2⟩ := cells3_ S1.out
          go_wp2_with fail
          refine (spec_May.calls _ _ _ _ _ HMY.out).mono ?_
          rintro e w3 ⟨rfl, hb⟩
          have HB := Aside0.mk (below_step S5.out hb)
          clear hb p0 p1 p2
          go_wp2_with fail
          have hR := HRR.out
          simp only [Prod.mk.injEq] at hR
          obtain ⟨rfl, rfl, rfl⟩ := hR
          go_ret3
          exact ⟨rfl, HB.out⟩
        | true =>
          rw [hmy] at HMY
          have hmx : 0 ≤ a1_1 ∧ a1_1 ≤ 9999 := by
            unfold sMay at hmy
            simp only [Bool.and_eq_true, decide_eq_true_eq] at hmy
            exact ⟨hmy.2.1, hmy.2.2.1⟩
          have HOM := Aside0.mk (show (X.isOper a0 && sMay a1_0 a1_1 a1_2) = true by rw [hop, hmy]; rfl)
          clear hop hmy
          obtain ⟨p0, p1, p2⟩ := cells3_ S1.out
          go_wp2_with fail
          refine (spec_May.calls _ _ _ _ _ HMY.out).mono ?_
          rintro e w3 ⟨rfl, hb⟩
          have HB := Aside0.mk (below_step S5.out hb)
          have T1 := Aside0.mk (blk_below S1.out hb)
          have T2 := Aside0.mk (blk_below S2.out hb)
          have T3 := Aside0.mk (blk_below S3.out hb)
          have T4 := Aside0.mk (blk_below S4.out hb)
          clear hb p0 p1 p2 S1 S2 S3 S4 S5
          obtain ⟨d0, d1, d2, d3⟩ := cells4_ T2.out
          go_wp2_with fail
          refine (value_Defined.calls (l2_3.length + 1) 1 a2_1 A2_2 c2_2 l2_2 A2_3 c2_3 l2_3 _ _ (Kd.C_below HR2.out HB.out) hc2_2 (Kd.C_below HR3.out HB.out) hc2_3 HD.out).mono ?_
          rintro e w4 ⟨rfl, hb⟩
          have HB4 := Aside0.mk (below_step HB.out hb)
          have U1 := Aside0.mk (blk_below T1.out hb)
          have U2 := Aside0.mk (blk_below T2.out hb)
          have U3 := Aside0.mk (blk_below T3.out hb)
          have U4 := Aside0.mk (blk_below T4.out hb)
          clear hb d0 d1 d2 d3 T1 T2 T3 T4 HB
          obtain ⟨d0, d1, d2, d3⟩ := cells4_ U2.out
          obtain ⟨p0, p1, p2⟩ := cells3_ U1.out
          go_wp2_with fail
          all_goals
            refine (value_Valid.calls 1 a2_1 A2_2 c2_2 l2_2 A2_3 c2_3 l2_3 _ _ (Kd.C_below HR2.out HB4.out) hc2_2 (Kd.C_below HR3.out HB4.out) hc2_3 HV.out).mono ?_
            rintro e w5 ⟨rfl, hb⟩
            have HB5 := Aside0.mk (below_step HB4.out hb)
            have V1 := Aside0.mk (blk_below U1.out hb)
            have V2 := Aside0.mk (blk_below U2.out hb)
            have V3 := Aside0.mk (blk_below U3.out hb)
            have V4 := Aside0.mk (blk_below U4.out hb)
            clear hb d0 d1 d2 d3 p0 p1 p2 U1 U2 U3 U4 HB4
            cases hv : Y.validS a2_1 with
            | false =>
              have HE := Aside0.mk (show oneT a0 a1_0 a1_1 a1_2 a2_1 = (⟨#[]⟩, false, 3) by unfold oneT; rw [HOM.out, hv]; rfl)
              clear hv
              rw [HE.out] at HRR
              go_wp2_with fail
              have hR := HRR.out
              simp only [Prod.mk.injEq] at hR
              obtain ⟨rfl, rfl, rfl⟩ := hR
              go_ret3
              exact ⟨rfl, HB5.out⟩
            | true =>
              have HE := Aside0.mk (show oneT a0 a1_0 a1_1 a1_2 a2_1 = (X.textS a0 a1_0 a1_1 a2_1, true, 0) by unfold oneT; rw [HOM.out, hv]; rfl)
              clear hv
              rw [HE.out] at HRR
              obtain ⟨d0, d1, d2, d3⟩ := cells4_ V2.out
              obtain ⟨p0, p1, p2⟩ := cells3_ V1.out
              obtain ⟨x0, x1, x2, x3, x4, x5⟩ := X.cells6 V4.out
              go_wp2_with fail
              refine (X.text_any a0 rb a1_0 a1_1 a1_2 a2_1 _ hn HSZ.out hmx.1 (by omega) V3.out).mono ?_
              rintro e w6 ⟨rfl, hb⟩
              have HB6 := Aside0.mk (below_step HB5.out hb)
              clear hb d0 d1 d2 d3 p0 p1 p2 x0 x1 x2 x3 x4 x5
              go_wp2_with fail
              have hR := HRR.out
              simp only [Prod.mk.injEq] at hR
              obtain ⟨rfl, rfl, rfl⟩ := hR
              go_ret3
              exact ⟨rfl, HB6.out⟩
    · have HRR := Aside0.mk (Option.some.inj h)
      clear h
      have hk1 : (a2_0 == 1) = false := beq_eq_false_iff_ne.2 hvk
      have hk2 : (a2_0 != 1) = true := bne_iff_ne.2 hvk
      have HF := Aside0.mk (texts_f (l2_3.length + 1) a2_0 a2_1 l2_2 l2_3 hm (Nat.lt_succ_self _))
      have HD := Aside0.mk (show value_Defined.f (l2_3.length + 1) a2_0 a2_1 l2_2 l2_3 = some (decide (0 < (textsOf a2_0 a2_1 l2_2 l2_3).length)) by unfold value_Defined.f; rw [HF.out]; simp)
      have HV := Aside0.mk (show value_Valid.f a2_0 a2_1 l2_2 l2_3 = some (validV a2_0 a2_1 l2_2 l2_3) by unfold value_Valid.f; rw [if_pos hm])
      have HMY := Aside0.mk (sMay_f a1_0 a1_1 a1_2 hn)
      have HMD := Aside0.mk hm
      have HTS := Aside0.mk (texts_small (vk := a2_0) hm)
      have HPS := Aside0.mk hps
      have HR2 := Aside0.mk hr2_2
      have HR3 := Aside0.mk hr2_3
      clear hr2_2 hr2_3 hm hps
      go_enter Try.func10, Try.ntmps10
      go_wp2_with fail
      refine (X.pieceOf_any a0 _ h0 h1).mono ?_
      rintro e w1 ⟨rb, rfl, hru, hb⟩
      have HSP := Aside0.mk (blk_below (blk_alloc (blk_new w _) _) hb)
      have HVL := Aside0.mk (blk_below (X.blk_new2 w _ _) hb)
      have HB := Aside0.mk (below_step (w := w) (X.below_new2 w _ _) hb)
      have HRU := Aside0.mk hru
      clear hb hru
      unfold X.wayV
      have S1 := Aside0.mk (blk_alloc HSP.out (wayO a0 rb))
      have S2 := Aside0.mk (blk_alloc HVL.out (wayO a0 rb))
      have S3 := Aside0.mk (blk_alloc HRU.out (wayO a0 rb))
      have S4 := Aside0.mk (blk_new w1 (wayO a0 rb))
      have S5 := Aside0.mk (below_alloc HB.out (wayO a0 rb))
      clear HSP HVL HRU HB
      unfold wayO at S1 S2 S3 S4 S5
      cases hop : X.isOper a0 with
      | false =>
        have HE := Aside0.mk (show oneV a0 a1_0 a1_1 a1_2 a2_0 a2_1 l2_2 l2_3 = (⟨#[]⟩, false, 1) by unfold oneV; rw [hop]; rfl)
        clear hop
        rw [HE.out] at HRR
        go_wp2_with fail
        have hR := HRR.out
        simp only [Prod.mk.injEq] at hR
        obtain ⟨rfl, rfl, rfl⟩ := hR
        go_ret3
        exact ⟨rfl, S5.out⟩
      | true =>
        cases hmy : sMay a1_0 a1_1 a1_2 with
        | false =>
          have HE := Aside0.mk (show oneV a0 a1_0 a1_1 a1_2 a2_0 a2_1 l2_2 l2_3 = (⟨#[]⟩, false, 1) by unfold oneV; rw [hop, hmy]; rfl)
          rw [hmy] at HMY
          clear hop hmy
          rw [HE.out] at HRR
          obtain ⟨p0, p1, p2⟩ := cells3_ S1.out
          go_wp2_with fail
          refine (spec_May.calls _ _ _ _ _ HMY.out).mono ?_
          rintro e w3 ⟨rfl, hb⟩
          have HB := Aside0.mk (below_step S5.out hb)
          clear hb p0 p1 p2
          go_wp2_with fail
          have hR := HRR.out
          simp only [Prod.mk.injEq] at hR
          obtain ⟨rfl, rfl, rfl⟩ := hR
          go_ret3
          exact ⟨rfl, HB.out⟩
        | true =>
          rw [hmy] at HMY
          have hmx : 0 ≤ a1_1 ∧ a1_1 ≤ 9999 := by
            unfold sMay at hmy
            simp only [Bool.and_eq_true, decide_eq_true_eq] at hmy
            exact ⟨hmy.2.1, hmy.2.2.1⟩
          have HOM := Aside0.mk (show (X.isOper a0 && sMay a1_0 a1_1 a1_2) = true by rw [hop, hmy]; rfl)
          clear hop hmy
          obtain ⟨p0, p1, p2⟩ := cells3_ S1.out
          go_wp2_with fail
          refine (spec_May.calls _ _ _ _ _ HMY.out).mono ?_
          rintro e w3 ⟨rfl, hb⟩
          have HB := Aside0.mk (below_step S5.out hb)
          have T1 := Aside0.mk (blk_below S1.out hb)
          have T2 := Aside0.mk (blk_below S2.out hb)
          have T3 := Aside0.mk (blk_below S3.out hb)
          have T4 := Aside0.mk (blk_below S4.out hb)
          clear hb p0 p1 p2 S1 S2 S3 S4 S5
          obtain ⟨d0, d1, d2, d3⟩ := cells4_ T2.out
          go_wp2_with fail
          refine (value_Defined.calls (l2_3.length + 1) a2_0 a2_1 A2_2 c2_2 l2_2 A2_3 c2_3 l2_3 _ _ (Kd.C_below HR2.out HB.out) hc2_2 (Kd.C_below HR3.out HB.out) hc2_3 HD.out).mono ?_
          rintro e w4 ⟨rfl, hb⟩
          have HB4 := Aside0.mk (below_step HB.out hb)
          have U1 := Aside0.mk (blk_below T1.out hb)
          have U2 := Aside0.mk (blk_below T2.out hb)
          have U3 := Aside0.mk (blk_below T3.out hb)
          have U4 := Aside0.mk (blk_below T4.out hb)
          clear hb d0 d1 d2 d3 T1 T2 T3 T4 HB
          by_cases hnil : textsOf a2_0 a2_1 l2_2 l2_3 = []
          · have HE := Aside0.mk (show oneV a0 a1_0 a1_1 a1_2 a2_0 a2_1 l2_2 l2_3 = (⟨#[]⟩, false, 0) by unfold oneV; rw [HOM.out, if_pos rfl, if_pos hnil])
            have hz : decide (0 < (textsOf a2_0 a2_1 l2_2 l2_3).length) = false := by rw [hnil]; rfl
            rw [hz]
            clear hnil hz
            rw [HE.out] at HRR
            go_wp2_with fail
            have hR := HRR.out
            simp only [Prod.mk.injEq] at hR
            obtain ⟨rfl, rfl, rfl⟩ := hR
            go_ret3
            exact ⟨rfl, HB4.out⟩
          · have hz : decide (0 < (textsOf a2_0 a2_1 l2_2 l2_3).length) = true := decide_eq_true (List.length_pos_iff.2 hnil)
            rw [hz]
            have HNIL := Aside0.mk hnil
            clear hnil hz
            obtain ⟨d0, d1, d2, d3⟩ := cells4_ U2.out
            obtain ⟨p0, p1, p2⟩ := cells3_ U1.out
            by_cases hgt : 0 < a1_1
            · have HE := Aside0.mk (show oneV a0 a1_0 a1_1 a1_2 a2_0 a2_1 l2_2 l2_3 = (⟨#[]⟩, false, 4) by unfold oneV; rw [HOM.out, if_pos rfl, if_neg HNIL.out, if_pos ⟨hgt, hvk⟩])
              rw [HE.out] at HRR
              have hg1 : decide (0 < a1_1) = true := decide_eq_true hgt
              go_wp2_with fail
              have hR := HRR.out
              simp only [Prod.mk.injEq] at hR
              obtain ⟨rfl, rfl, rfl⟩ := hR
              go_ret3
              exact ⟨rfl, HB4.out⟩
            · obtain rfl : a1_1 = 0 := by omega
              go_wp2_with fail
              refine (value_Valid.calls a2_0 a2_1 A2_2 c2_2 l2_2 A2_3 c2_3 l2_3 _ _ (Kd.C_below HR2.out HB4.out) hc2_2 (Kd.C_below HR3.out HB4.out) hc2_3 HV.out).mono ?_
              rintro e w5 ⟨rfl, hb⟩
              have HB5 := Aside0.mk (below_step HB4.out hb)
              have V1 := Aside0.mk (blk_below U1.out hb)
              have V2 := Aside0.mk (blk_below U2.out hb)
              have V3 := Aside0.mk (blk_below U3.out hb)
              have V4 := Aside0.mk (blk_below U4.out hb)
              clear hb d0 d1 d2 d3 p0 p1 p2 U1 U2 U3 U4 HB4
              cases hv : validV a2_0 a2_1 l2_2 l2_3 with
              | false =>
                have HE := Aside0.mk (show oneV a0 a1_0 0 a1_2 a2_0 a2_1 l2_2 l2_3 = (⟨#[]⟩, false, 3) by unfold oneV; rw [HOM.out, if_pos rfl, if_neg HNIL.out, if_neg (fun h => absurd h.1 (by omega)), hv]; rfl)
                clear hv
                rw [HE.out] at HRR
                go_wp2_with fail
                have hR := HRR.out
                simp only [Prod.mk.injEq] at hR
                obtain ⟨rfl, rfl, rfl⟩ := hR
                go_ret3
                exact ⟨rfl, HB5.out⟩
              | true =>
                obtain ⟨d0, d1, d2, d3⟩ := cells4_ V2.out
                obtain ⟨p0, p1, p2⟩ := cells3_ V1.out
                obtain ⟨x0, x1, x2, x3, x4, x5⟩ := X.cells6 V4.out
                have HM2 := Aside0.mk HMD.out
                cases hst : a1_2 with
                | true =>
                  subst hst
                  have HE := Aside0.mk (show oneV a0 a1_0 0 true a2_0 a2_1 l2_2 l2_3 = (X.starS a0 a1_0 a2_0 l2_2 (pairsOf l2_3), true, 0) by unfold oneV; rw [HOM.out, if_pos rfl, if_neg HNIL.out, if_neg (fun h => absurd h.1 (by omega)), hv, if_pos rfl, if_neg hvk, if_pos rfl])
                  clear hv
                  rw [HE.out] at HRR
                  have HST := Aside0.mk (X.star_any a0 rb a1_0 0 true a2_0 a2_1 A2_2 c2_2 l2_2 A2_3 c2_3 (pairsOf l2_3) w5 hn (by have := HMD.out.2.1; omega) (fun x hx => HMD.out.2.2.2.1 x hx) (by unfold pairsOf; rw [List.length_map]; have := HMD.out.2.2.1; omega) (fun x hx => by unfold pairsOf at hx; obtain ⟨y, hy, rfl⟩ := List.mem_map.1 hx; exact HPS.out y hy) (Kd.C_below HR2.out HB5.out) (pairRow (Kd.C_below HR3.out HB5.out)) V3.out)
                  have hlp : (pairsOf l2_3).length = l2_3.length := by unfold pairsOf; rw [List.length_map]
                  rw [hlp] at HST
                  clear hlp
                  go_wp2_with fail
                  refine HST.out.mono ?_
                  rintro e w6 ⟨rfl, hb⟩
                  have HB6 := Aside0.mk (below_step HB5.out hb)
                  clear hb d0 d1 d2 d3 p0 p1 p2 x0 x1 x2 x3 x4 x5
                  go_wp2_with fail
                  have hR := HRR.out
                  simp only [Prod.mk.injEq] at hR
                  obtain ⟨rfl, rfl, rfl⟩ := hR
                  go_ret3
                  exact ⟨rfl, HB6.out⟩
                | false =>
                  subst hst
                  have HE := Aside0.mk (show oneV a0 a1_0 0 false a2_0 a2_1 l2_2 l2_3 = (X.wholeS a0 a1_0 (textsOf a2_0 a2_1 l2_2 l2_3), true, 0) by unfold oneV; rw [HOM.out, if_pos rfl, if_neg HNIL.out, if_neg (fun h => absurd h.1 (by omega)), hv, if_pos rfl, if_neg hvk, if_neg (by decide)])
                  clear hv
                  rw [HE.out] at HRR
                  have HST := Aside0.mk (X.whole_any a0 rb a1_0 0 false a2_0 a2_1 A2_2 l2_2.length c2_2 A2_3 l2_3.length c2_3 (textsOf a2_0 a2_1 l2_2 l2_3) w5 hn HTS.out.1 HTS.out.2 V3.out (fun W hW => value_Texts.calls (l2_3.length + 1) a2_0 a2_1 A2_2 c2_2 l2_2 A2_3 c2_3 l2_3 _ _ (Kd.C_below (Kd.C_below HR2.out HB5.out) hW) hc2_2 (Kd.C_below (Kd.C_below HR3.out HB5.out) hW) hc2_3 HF.out))
                  go_wp2_with fail
                  refine HST.out.mono ?_
                  rintro e w6 ⟨rfl, hb⟩
                  have HB6 := Aside0.mk (below_step HB5.out hb)
                  clear hb d0 d1 d2 d3 p0 p1 p2 x0 x1 x2 x3 x4 x5
                  go_wp2_with fail
                  have hR := HRR.out
                  simp only [Prod.mk.injEq] at hR
                  obtain ⟨rfl, rfl, rfl⟩ := hR
                  go_ret3
                  exact ⟨rfl, HB6.out⟩
  · exact absurd h (by simp)
/-! ### piece_Named: function 20 (ours) -/
attribute [local go_sem] X.run_store_func
def namedV (op : Int) (nm s : ByteArray) : ByteArray := if X.isOper op = true then X.namedS op nm s else ⟨#[]⟩
def piece_Named.f (a0 : Int) (a1 : ByteArray) (a2 : ByteArray) : Option (ByteArray) := if 0 ≤ a0 ∧ a0 ≤ 255 ∧ a1.size ≤ 1000000 ∧ a2.size ≤ 1000000 then some (namedV a0 a1 a2) else none
set_option maxHeartbeats 8000000 in
set_option maxRecDepth 100000 in
theorem piece_Named.calls (a0 : Int) (a1 : ByteArray) (a2 : ByteArray) (r : ByteArray) (w : World) (h : piece_Named.f a0 a1 a2 = some r) :
    Calls Try.prog 20 #[.int .u8 a0, .string a1, .string a2] w fun e w' => e = .returned (.string r) ∧ Below w.heap.size w w' := by
  simp only [piece_Named.f] at h
  split at h
  · rename_i hm
    obtain ⟨h0, h1, hn, hs⟩ := hm
    have HRR := Aside0.mk (Option.some.inj h)
    clear h
    go_enter Try.func20, Try.ntmps20
    go_wp2_with fail
    refine (X.pieceOf_any a0 _ h0 h1).mono ?_
    rintro e w1 ⟨rb, rfl, hru, hb⟩
    have HB := Aside0.mk (below_alloc hb (wayO a0 rb))
    have x_ := blk_new w1 (wayO a0 rb)
    unfold wayO at HB x_
    obtain ⟨x0, x1, x2, x3, x4, x5⟩ := X.cells6 x_
    clear hb hru x_
    unfold X.wayV
    cases hop : X.isOper a0 with
    | false =>
      have HE := Aside0.mk (show namedV a0 a1 a2 = ⟨#[]⟩ by unfold namedV; rw [hop]; rfl)
      clear hop
      rw [HE.out] at HRR
      go_wp2_with fail
      obtain rfl := HRR.out
      go_ret
      exact ⟨rfl, HB.out⟩
    | true =>
      have HE := Aside0.mk (show namedV a0 a1 a2 = X.namedS a0 a1 a2 by unfold namedV; rw [hop]; rfl)
      clear hop
      rw [HE.out] at HRR
      go_wp2_with fail
      refine (X.named_any a0 rb a1 a2 _ hn (by omega)).mono ?_
      rintro e w3 ⟨rfl, hb⟩
      have HB2 := Aside0.mk (below_step HB.out hb)
      clear hb x0 x1 x2 x3 x4 x5
      go_wp2_with fail
      obtain rfl := HRR.out
      go_ret
      exact ⟨rfl, HB2.out⟩
  · cases h
/-! ### phalaropelaw11_awake: function 8 -/
def phalaropelaw11_awake.f  : Option (Bool) := (piece_One.f 59 (⟨#[97]⟩ : ByteArray) 0 false 1 (⟨#[]⟩ : ByteArray) ([] : List ByteArray) ([] : List (S69))).bind fun bt123 => ((piece_One.f 63 (⟨#[97]⟩ : ByteArray) 0 false 1 (⟨#[]⟩ : ByteArray) ([] : List ByteArray) ([] : List (S69))).bind fun bt126 => (if bt123.2.1 = true then (if bt126.2.1 = true then (if bt123.2.2 = 0 then (if bt126.2.2 = 0 then (if bt123.1.toList = ([97] : List UInt8) then (if bt126.1.toList = ([97, 61] : List UInt8) then ((piece_Named.f 38 (⟨#[120]⟩ : ByteArray) (⟨#[49]⟩ : ByteArray)).bind fun t129 => (some (t129.toList == ([120, 61, 49] : List UInt8)))) else (some false)) else (some false)) else (some false)) else (some false)) else (some false)) else (some false)))
set_option maxHeartbeats 8000000 in
set_option maxRecDepth 100000 in
theorem phalaropelaw11_awake.calls  (r : Bool) (w : World) (h : phalaropelaw11_awake.f  = some r) :
    Calls Try.prog 8 #[] w fun e w' => e = .returned (.bool r) ∧ Below w.heap.size w w' := by
  have hu27 := Try.underlying27
  have hu23 := Try.underlying23
  have HB := Aside0.mk (Below.refl w.heap.size w)
  have H : ((piece_One.f 59 (⟨#[97]⟩ : ByteArray) 0 false 1 (⟨#[]⟩ : ByteArray) ([] : List ByteArray) ([] : List (S69))).bind fun bt123 => ((piece_One.f 63 (⟨#[97]⟩ : ByteArray) 0 false 1 (⟨#[]⟩ : ByteArray) ([] : List ByteArray) ([] : List (S69))).bind fun bt126 => (if bt123.2.1 = true then (if bt126.2.1 = true then (if bt123.2.2 = 0 then (if bt126.2.2 = 0 then (if bt123.1.toList = ([97] : List UInt8) then (if bt126.1.toList = ([97, 61] : List UInt8) then ((piece_Named.f 38 (⟨#[120]⟩ : ByteArray) (⟨#[49]⟩ : ByteArray)).bind fun t129 => (some (t129.toList == ([120, 61, 49] : List UInt8)))) else (some false)) else (some false)) else (some false)) else (some false)) else (some false)) else (some false)))) = some r := h
  clear h
  replace H := Option.bind_eq_some_iff.mp H
  obtain ⟨⟨t123, t124, t125⟩, A10, H⟩ := H
  replace H : ((piece_One.f 63 (⟨#[97]⟩ : ByteArray) 0 false 1 (⟨#[]⟩ : ByteArray) ([] : List ByteArray) ([] : List (S69))).bind fun bt126 => (if t124 = true then (if bt126.2.1 = true then (if t125 = 0 then (if bt126.2.2 = 0 then (if t123.toList = ([97] : List UInt8) then (if bt126.1.toList = ([97, 61] : List UInt8) then ((piece_Named.f 38 (⟨#[120]⟩ : ByteArray) (⟨#[49]⟩ : ByteArray)).bind fun t129 => (some (t129.toList == ([120, 61, 49] : List UInt8)))) else (some false)) else (some false)) else (some false)) else (some false)) else (some false)) else (some false))) = some r := H
  have A1 := Aside0.mk A10
  clear A10
  replace H := Option.bind_eq_some_iff.mp H
  obtain ⟨⟨t126, t127, t128⟩, A20, H⟩ := H
  replace H : (if t124 = true then (if t127 = true then (if t125 = 0 then (if t128 = 0 then (if t123.toList = ([97] : List UInt8) then (if t126.toList = ([97, 61] : List UInt8) then ((piece_Named.f 38 (⟨#[120]⟩ : ByteArray) (⟨#[49]⟩ : ByteArray)).bind fun t129 => (some (t129.toList == ([120, 61, 49] : List UInt8)))) else (some false)) else (some false)) else (some false)) else (some false)) else (some false)) else (some false)) = some r := H
  have A2 := Aside0.mk A20
  clear A20
  by_cases c3 : t124 = true
  · subst c3
    have H1 : (if t127 = true then (if t125 = 0 then (if t128 = 0 then (if t123.toList = ([97] : List UInt8) then (if t126.toList = ([97, 61] : List UInt8) then ((piece_Named.f 38 (⟨#[120]⟩ : ByteArray) (⟨#[49]⟩ : ByteArray)).bind fun t129 => (some (t129.toList == ([120, 61, 49] : List UInt8)))) else (some false)) else (some false)) else (some false)) else (some false)) else (some false)) = some r := by rw [if_pos rfl] at H; exact H
    clear H
    have H := H1
    clear H1
    by_cases c4 : t127 = true
    · subst c4
      have H1 : (if t125 = 0 then (if t128 = 0 then (if t123.toList = ([97] : List UInt8) then (if t126.toList = ([97, 61] : List UInt8) then ((piece_Named.f 38 (⟨#[120]⟩ : ByteArray) (⟨#[49]⟩ : ByteArray)).bind fun t129 => (some (t129.toList == ([120, 61, 49] : List UInt8)))) else (some false)) else (some false)) else (some false)) else (some false)) = some r := by rw [if_pos rfl] at H; exact H
      clear H
      have H := H1
      clear H1
      by_cases c5 : t125 = 0
      · rw [if_pos c5] at H
        have c5b0 : (t125 == 0) = true := beq_iff_eq.mpr c5
        have c5b1 : (t125 != 0) = false := bne_eq_false_iff_eq.mpr c5
        clear c5
        by_cases c6 : t128 = 0
        · rw [if_pos c6] at H
          have c6b0 : (t128 == 0) = true := beq_iff_eq.mpr c6
          have c6b1 : (t128 != 0) = false := bne_eq_false_iff_eq.mpr c6
          clear c6
          by_cases c7 : t123.toList = ([97] : List UInt8)
          · rw [if_pos c7] at H
            have c7b0 : (t123.toList == ([97] : List UInt8)) = true := beq_iff_eq.mpr c7
            have c7b1 : (t123.toList != ([97] : List UInt8)) = false := bne_eq_false_iff_eq.mpr c7
            clear c7
            by_cases c8 : t126.toList = ([97, 61] : List UInt8)
            · rw [if_pos c8] at H
              have c8b0 : (t126.toList == ([97, 61] : List UInt8)) = true := beq_iff_eq.mpr c8
              have c8b1 : (t126.toList != ([97, 61] : List UInt8)) = false := bne_eq_false_iff_eq.mpr c8
              clear c8
              replace H := Option.bind_eq_some_iff.mp H
              obtain ⟨t129, A90, H⟩ := H
              replace H : (some (t129.toList == ([120, 61, 49] : List UInt8))) = some r := H
              have A9 := Aside0.mk A90
              clear A90
              obtain rfl := Option.some.inj H
              go_enter Try.func8, Try.ntmps8
              go_wp2_with (first | ((with_reducible refine gate_dst (N := 1) rfl ?_); refine box_event ?hg (N := 1) ?hd (cs := #[.int .i64 0, .string (⟨#[]⟩ : ByteArray), .slice none 0 0, .slice none 0 0]) (t := 27) ?hr ?_; (case hd => rfl); (case hg => rfl); (case hr => first | (go_simp; done) | (go_simp; rfl)); intro gb122 hg w10 hbox hb; have n0_ := Aside0.mk (below_step (by repeat (first | (with_reducible first | exact HB.out | apply below_alloc | apply pw_below_drewN | apply below_drew1) | exact HB.out)) hb); have n1_ := Aside0.mk (hbox); have n2_ := Aside0.mk ((by rw [hg]; exact (below_size (by repeat (first | (with_reducible first | exact HB.out | apply below_alloc | apply pw_below_drewN | apply below_drew1) | exact HB.out))) : w.heap.size ≤ gb122)); have n3_ := Aside0.mk ((by rw [hg]; exact (below_size (by repeat (first | (with_reducible first | exact HB.out | apply below_alloc | apply pw_below_drewN | apply below_drew1) | exact HB.out))) : w.heap.size ≤ gb122)); clear HB; have HB := n0_; have BK122 := n1_; have GW122 := n2_; have GE122 := n3_; clear n0_ n1_ n2_ n3_; clear hb hbox hg; have hcz11_0 : w10.cell? ⟨gb122, 0, none⟩ = some (.int .i64 0) := (blk_cell BK122.out 0).trans rfl; have hcz11_1 : w10.cell? ⟨gb122, 1, none⟩ = some (.string (⟨#[]⟩ : ByteArray)) := (blk_cell BK122.out 1).trans rfl; have hcz11_2 : w10.cell? ⟨gb122, 2, none⟩ = some (.slice none 0 0) := (blk_cell BK122.out 2).trans rfl; have hcz11_3 : w10.cell? ⟨gb122, 3, none⟩ = some (.slice none 0 0) := (blk_cell BK122.out 3).trans rfl; have hfz11_0 := blk_frozen BK122.out 0; have hfz11_1 := blk_frozen BK122.out 1; have hfz11_2 := blk_frozen BK122.out 2; have hfz11_3 := blk_frozen BK122.out 3) | ((with_reducible refine gate_callee (f := 10) rfl ?_); refine goesL_ (some 12) rfl rfl Try.func10 (by kernel_rfl) rfl #[.int .u8 59, .agg #[.string (⟨#[97]⟩ : ByteArray), .int .i64 0, .bool false], .agg #[.int .i64 1, .string (⟨#[]⟩ : ByteArray), .slice none 0 0, .slice none 0 0]] rfl (by (try simp only [List.map_toArray, List.map_cons, List.map_nil]); first | done | rfl | (simp only [List.length_drop, List.length_take]; rfl)) ?_; (refine (piece_One.calls 59 (⟨#[97]⟩ : ByteArray) 0 false 1 (⟨#[]⟩ : ByteArray) _ _ ([] : List ByteArray) _ _ ([] : List (S69)) t123 true t125 _ ?side1 ?side2 ?side3 ?side4 A1.out).mono ?_); (case side1 => exact Kd.C_nil _ _); (case side2 => exact Nat.le_refl _); (case side3 => exact Kd.C_nil _ _); (case side4 => exact Nat.le_refl _); rintro e w12 ⟨rfl, hb⟩; refine ⟨_, rfl, ?_⟩; have n0_ := Aside0.mk (blk_below (g := gb122) (o := .cells #[.int .i64 1, .string (⟨#[]⟩ : ByteArray), .slice none 0 0, .slice none 0 0] 27 (0, 0)) (by (with_reducible repeat (first | refine blk_drewN ?_ _ | refine blk_drew ?_ | refine blk_alloc ?_ _)); refine blk_put (cs := #[.int .i64 1, .string (⟨#[]⟩ : ByteArray), .slice none 0 0, .slice none 0 0]) ?_ 3 _ rfl; (with_reducible repeat (first | refine blk_drewN ?_ _ | refine blk_drew ?_ | refine blk_alloc ?_ _)); refine blk_put (cs := #[.int .i64 1, .string (⟨#[]⟩ : ByteArray), .slice none 0 0, .slice none 0 0]) ?_ 2 _ rfl; (with_reducible repeat (first | refine blk_drewN ?_ _ | refine blk_drew ?_ | refine blk_alloc ?_ _)); refine blk_put (cs := #[.int .i64 1, .string (⟨#[]⟩ : ByteArray), .slice none 0 0, .slice none 0 0]) ?_ 1 _ rfl; (with_reducible repeat (first | refine blk_drewN ?_ _ | refine blk_drew ?_ | refine blk_alloc ?_ _)); refine blk_put (cs := #[.int .i64 0, .string (⟨#[]⟩ : ByteArray), .slice none 0 0, .slice none 0 0]) ?_ 0 _ rfl; (with_reducible repeat (first | refine blk_drewN ?_ _ | refine blk_drew ?_ | refine blk_alloc ?_ _)); exact BK122.out) hb); have n1_ := Aside0.mk (below_step (by repeat (first | (with_reducible first | exact HB.out | apply below_alloc | apply pw_below_drewN | apply below_drew1 | refine below_set ?_ GE122.out) | exact HB.out)) hb); clear BK122; clear HB; have BK122 := n0_; have HB := n1_; clear n0_ n1_; (try clear hb); (try clear hb2); (try clear hk); (try clear hi); have hcz13_0 : w12.cell? ⟨gb122, 0, none⟩ = some (.int .i64 1) := (blk_cell BK122.out 0).trans rfl; have hcz13_1 : w12.cell? ⟨gb122, 1, none⟩ = some (.string (⟨#[]⟩ : ByteArray)) := (blk_cell BK122.out 1).trans rfl; have hcz13_2 : w12.cell? ⟨gb122, 2, none⟩ = some (.slice none 0 0) := (blk_cell BK122.out 2).trans rfl; have hcz13_3 : w12.cell? ⟨gb122, 3, none⟩ = some (.slice none 0 0) := (blk_cell BK122.out 3).trans rfl; have hfz13_0 := blk_frozen BK122.out 0; have hfz13_1 := blk_frozen BK122.out 1; have hfz13_2 := blk_frozen BK122.out 2; have hfz13_3 := blk_frozen BK122.out 3) | ((with_reducible refine gate_callee (f := 10) rfl ?_); refine goesL_ (some 19) rfl rfl Try.func10 (by kernel_rfl) rfl #[.int .u8 63, .agg #[.string (⟨#[97]⟩ : ByteArray), .int .i64 0, .bool false], .agg #[.int .i64 1, .string (⟨#[]⟩ : ByteArray), .slice none 0 0, .slice none 0 0]] rfl (by (try simp only [List.map_toArray, List.map_cons, List.map_nil]); first | done | rfl | (simp only [List.length_drop, List.length_take]; rfl)) ?_; (refine (piece_One.calls 63 (⟨#[97]⟩ : ByteArray) 0 false 1 (⟨#[]⟩ : ByteArray) _ _ ([] : List ByteArray) _ _ ([] : List (S69)) t126 true t128 _ ?side1 ?side2 ?side3 ?side4 A2.out).mono ?_); (case side1 => exact Kd.C_nil _ _); (case side2 => exact Nat.le_refl _); (case side3 => exact Kd.C_nil _ _); (case side4 => exact Nat.le_refl _); rintro e w14 ⟨rfl, hb⟩; refine ⟨_, rfl, ?_⟩; have n0_ := Aside0.mk (blk_below (g := gb122) (o := .cells #[.int .i64 1, .string (⟨#[]⟩ : ByteArray), .slice none 0 0, .slice none 0 0] 27 (0, 0)) (by (with_reducible repeat (first | refine blk_drewN ?_ _ | refine blk_drew ?_ | refine blk_alloc ?_ _)); exact BK122.out) hb); have n1_ := Aside0.mk (below_step (by repeat (first | (with_reducible first | exact HB.out | apply below_alloc | apply pw_below_drewN | apply below_drew1 | refine below_set ?_ GE122.out) | exact HB.out)) hb); clear BK122; clear HB; have BK122 := n0_; have HB := n1_; clear n0_ n1_; (try clear hb); (try clear hb2); (try clear hk); (try clear hi)) | (go_at_call 20; (with_reducible refine (piece_Named.calls 38 (⟨#[120]⟩ : ByteArray) (⟨#[49]⟩ : ByteArray) t129 _ A9.out).mono ?_); rintro e w15 ⟨rfl, hb⟩; have n0_ := Aside0.mk (blk_below (g := gb122) (o := .cells #[.int .i64 1, .string (⟨#[]⟩ : ByteArray), .slice none 0 0, .slice none 0 0] 27 (0, 0)) (by (with_reducible repeat (first | refine blk_drewN ?_ _ | refine blk_drew ?_ | refine blk_alloc ?_ _)); exact BK122.out) hb); have n1_ := Aside0.mk (below_step (by repeat (first | (with_reducible first | exact HB.out | apply below_alloc | apply pw_below_drewN | apply below_drew1 | refine below_set ?_ GE122.out) | exact HB.out)) hb); clear BK122; clear HB; have BK122 := n0_; have HB := n1_; clear n0_ n1_; (try clear hb); (try clear hb2); (try clear hk); (try clear hi)))
              go_ret
              exact ⟨by first | rfl | (simp [errW_none, errW_some] <;> rfl) | (simp [*, errW_none, errW_some] <;> rfl), by repeat (first | (with_reducible first | exact HB.out | apply below_alloc | apply pw_below_drewN | apply below_drew1 | refine below_set ?_ GE122.out) | exact HB.out)⟩
            · rw [if_neg c8] at H
              have c8b0 : (t126.toList == ([97, 61] : List UInt8)) = false := beq_eq_false_iff_ne.mpr c8
              have c8b1 : (t126.toList != ([97, 61] : List UInt8)) = true := bne_iff_ne.mpr c8
              obtain rfl := Option.some.inj H
              go_enter Try.func8, Try.ntmps8
              go_wp2_with (first | ((with_reducible refine gate_dst (N := 1) rfl ?_); refine box_event ?hg (N := 1) ?hd (cs := #[.int .i64 0, .string (⟨#[]⟩ : ByteArray), .slice none 0 0, .slice none 0 0]) (t := 27) ?hr ?_; (case hd => rfl); (case hg => rfl); (case hr => first | (go_simp; done) | (go_simp; rfl)); intro gb122 hg w16 hbox hb; have n0_ := Aside0.mk (below_step (by repeat (first | (with_reducible first | exact HB.out | apply below_alloc | apply pw_below_drewN | apply below_drew1) | exact HB.out)) hb); have n1_ := Aside0.mk (hbox); have n2_ := Aside0.mk ((by rw [hg]; exact (below_size (by repeat (first | (with_reducible first | exact HB.out | apply below_alloc | apply pw_below_drewN | apply below_drew1) | exact HB.out))) : w.heap.size ≤ gb122)); have n3_ := Aside0.mk ((by rw [hg]; exact (below_size (by repeat (first | (with_reducible first | exact HB.out | apply below_alloc | apply pw_below_drewN | apply below_drew1) | exact HB.out))) : w.heap.size ≤ gb122)); clear HB; have HB := n0_; have BK122 := n1_; have GW122 := n2_; have GE122 := n3_; clear n0_ n1_ n2_ n3_; clear hb hbox hg; have hcz17_0 : w16.cell? ⟨gb122, 0, none⟩ = some (.int .i64 0) := (blk_cell BK122.out 0).trans rfl; have hcz17_1 : w16.cell? ⟨gb122, 1, none⟩ = some (.string (⟨#[]⟩ : ByteArray)) := (blk_cell BK122.out 1).trans rfl; have hcz17_2 : w16.cell? ⟨gb122, 2, none⟩ = some (.slice none 0 0) := (blk_cell BK122.out 2).trans rfl; have hcz17_3 : w16.cell? ⟨gb122, 3, none⟩ = some (.slice none 0 0) := (blk_cell BK122.out 3).trans rfl; have hfz17_0 := blk_frozen BK122.out 0; have hfz17_1 := blk_frozen BK122.out 1; have hfz17_2 := blk_frozen BK122.out 2; have hfz17_3 := blk_frozen BK122.out 3) | ((with_reducible refine gate_callee (f := 10) rfl ?_); refine goesL_ (some 12) rfl rfl Try.func10 (by kernel_rfl) rfl #[.int .u8 59, .agg #[.string (⟨#[97]⟩ : ByteArray), .int .i64 0, .bool false], .agg #[.int .i64 1, .string (⟨#[]⟩ : ByteArray), .slice none 0 0, .slice none 0 0]] rfl (by (try simp only [List.map_toArray, List.map_cons, List.map_nil]); first | done | rfl | (simp only [List.length_drop, List.length_take]; rfl)) ?_; (refine (piece_One.calls 59 (⟨#[97]⟩ : ByteArray) 0 false 1 (⟨#[]⟩ : ByteArray) _ _ ([] : List ByteArray) _ _ ([] : List (S69)) t123 true t125 _ ?side1 ?side2 ?side3 ?side4 A1.out).mono ?_); (case side1 => exact Kd.C_nil _ _); (case side2 => exact Nat.le_refl _); (case side3 => exact Kd.C_nil _ _); (case side4 => exact Nat.le_refl _); rintro e w18 ⟨rfl, hb⟩; refine ⟨_, rfl, ?_⟩; have n0_ := Aside0.mk (blk_below (g := gb122) (o := .cells #[.int .i64 1, .string (⟨#[]⟩ : ByteArray), .slice none 0 0, .slice none 0 0] 27 (0, 0)) (by (with_reducible repeat (first | refine blk_drewN ?_ _ | refine blk_drew ?_ | refine blk_alloc ?_ _)); refine blk_put (cs := #[.int .i64 1, .string (⟨#[]⟩ : ByteArray), .slice none 0 0, .slice none 0 0]) ?_ 3 _ rfl; (with_reducible repeat (first | refine blk_drewN ?_ _ | refine blk_drew ?_ | refine blk_alloc ?_ _)); refine blk_put (cs := #[.int .i64 1, .string (⟨#[]⟩ : ByteArray), .slice none 0 0, .slice none 0 0]) ?_ 2 _ rfl; (with_reducible repeat (first | refine blk_drewN ?_ _ | refine blk_drew ?_ | refine blk_alloc ?_ _)); refine blk_put (cs := #[.int .i64 1, .string (⟨#[]⟩ : ByteArray), .slice none 0 0, .slice none 0 0]) ?_ 1 _ rfl; (with_reducible repeat (first | refine blk_drewN ?_ _ | refine blk_drew ?_ | refine blk_alloc ?_ _)); refine blk_put (cs := #[.int .i64 0, .string (⟨#[]⟩ : ByteArray), .slice none 0 0, .slice none 0 0]) ?_ 0 _ rfl; (with_reducible repeat (first | refine blk_drewN ?_ _ | refine blk_drew ?_ | refine blk_alloc ?_ _)); exact BK122.out) hb); have n1_ := Aside0.mk (below_step (by repeat (first | (with_reducible first | exact HB.out | apply below_alloc | apply pw_below_drewN | apply below_drew1 | refine below_set ?_ GE122.out) | exact HB.out)) hb); clear BK122; clear HB; have BK122 := n0_; have HB := n1_; clear n0_ n1_; (try clear hb); (try clear hb2); (try clear hk); (try clear hi); have hcz19_0 : w18.cell? ⟨gb122, 0, none⟩ = some (.int .i64 1) := (blk_cell BK122.out 0).trans rfl; have hcz19_1 : w18.cell? ⟨gb122, 1, none⟩ = some (.string (⟨#[]⟩ : ByteArray)) := (blk_cell BK122.out 1).trans rfl; have hcz19_2 : w18.cell? ⟨gb122, 2, none⟩ = some (.slice none 0 0) := (blk_cell BK122.out 2).trans rfl; have hcz19_3 : w18.cell? ⟨gb122, 3, none⟩ = some (.slice none 0 0) := (blk_cell BK122.out 3).trans rfl; have hfz19_0 := blk_frozen BK122.out 0; have hfz19_1 := blk_frozen BK122.out 1; have hfz19_2 := blk_frozen BK122.out 2; have hfz19_3 := blk_frozen BK122.out 3) | ((with_reducible refine gate_callee (f := 10) rfl ?_); refine goesL_ (some 19) rfl rfl Try.func10 (by kernel_rfl) rfl #[.int .u8 63, .agg #[.string (⟨#[97]⟩ : ByteArray), .int .i64 0, .bool false], .agg #[.int .i64 1, .string (⟨#[]⟩ : ByteArray), .slice none 0 0, .slice none 0 0]] rfl (by (try simp only [List.map_toArray, List.map_cons, List.map_nil]); first | done | rfl | (simp only [List.length_drop, List.length_take]; rfl)) ?_; (refine (piece_One.calls 63 (⟨#[97]⟩ : ByteArray) 0 false 1 (⟨#[]⟩ : ByteArray) _ _ ([] : List ByteArray) _ _ ([] : List (S69)) t126 true t128 _ ?side1 ?side2 ?side3 ?side4 A2.out).mono ?_); (case side1 => exact Kd.C_nil _ _); (case side2 => exact Nat.le_refl _); (case side3 => exact Kd.C_nil _ _); (case side4 => exact Nat.le_refl _); rintro e w20 ⟨rfl, hb⟩; refine ⟨_, rfl, ?_⟩; have n0_ := Aside0.mk (blk_below (g := gb122) (o := .cells #[.int .i64 1, .string (⟨#[]⟩ : ByteArray), .slice none 0 0, .slice none 0 0] 27 (0, 0)) (by (with_reducible repeat (first | refine blk_drewN ?_ _ | refine blk_drew ?_ | refine blk_alloc ?_ _)); exact BK122.out) hb); have n1_ := Aside0.mk (below_step (by repeat (first | (with_reducible first | exact HB.out | apply below_alloc | apply pw_below_drewN | apply below_drew1 | refine below_set ?_ GE122.out) | exact HB.out)) hb); clear BK122; clear HB; have BK122 := n0_; have HB := n1_; clear n0_ n1_; (try clear hb); (try clear hb2); (try clear hk); (try clear hi)))
              go_ret
              exact ⟨by first | rfl | (simp [errW_none, errW_some] <;> rfl) | (simp [*, errW_none, errW_some] <;> rfl), by repeat (first | (with_reducible first | exact HB.out | apply below_alloc | apply pw_below_drewN | apply below_drew1 | refine below_set ?_ GE122.out) | exact HB.out)⟩
          · rw [if_neg c7] at H
            have c7b0 : (t123.toList == ([97] : List UInt8)) = false := beq_eq_false_iff_ne.mpr c7
            have c7b1 : (t123.toList != ([97] : List UInt8)) = true := bne_iff_ne.mpr c7
            obtain rfl := Option.some.inj H
            go_enter Try.func8, Try.ntmps8
            go_wp2_with (first | ((with_reducible refine gate_dst (N := 1) rfl ?_); refine box_event ?hg (N := 1) ?hd (cs := #[.int .i64 0, .string (⟨#[]⟩ : ByteArray), .slice none 0 0, .slice none 0 0]) (t := 27) ?hr ?_; (case hd => rfl); (case hg => rfl); (case hr => first | (go_simp; done) | (go_simp; rfl)); intro gb122 hg w21 hbox hb; have n0_ := Aside0.mk (below_step (by repeat (first | (with_reducible first | exact HB.out | apply below_alloc | apply pw_below_drewN | apply below_drew1) | exact HB.out)) hb); have n1_ := Aside0.mk (hbox); have n2_ := Aside0.mk ((by rw [hg]; exact (below_size (by repeat (first | (with_reducible first | exact HB.out | apply below_alloc | apply pw_below_drewN | apply below_drew1) | exact HB.out))) : w.heap.size ≤ gb122)); have n3_ := Aside0.mk ((by rw [hg]; exact (below_size (by repeat (first | (with_reducible first | exact HB.out | apply below_alloc | apply pw_below_drewN | apply below_drew1) | exact HB.out))) : w.heap.size ≤ gb122)); clear HB; have HB := n0_; have BK122 := n1_; have GW122 := n2_; have GE122 := n3_; clear n0_ n1_ n2_ n3_; clear hb hbox hg; have hcz22_0 : w21.cell? ⟨gb122, 0, none⟩ = some (.int .i64 0) := (blk_cell BK122.out 0).trans rfl; have hcz22_1 : w21.cell? ⟨gb122, 1, none⟩ = some (.string (⟨#[]⟩ : ByteArray)) := (blk_cell BK122.out 1).trans rfl; have hcz22_2 : w21.cell? ⟨gb122, 2, none⟩ = some (.slice none 0 0) := (blk_cell BK122.out 2).trans rfl; have hcz22_3 : w21.cell? ⟨gb122, 3, none⟩ = some (.slice none 0 0) := (blk_cell BK122.out 3).trans rfl; have hfz22_0 := blk_frozen BK122.out 0; have hfz22_1 := blk_frozen BK122.out 1; have hfz22_2 := blk_frozen BK122.out 2; have hfz22_3 := blk_frozen BK122.out 3) | ((with_reducible refine gate_callee (f := 10) rfl ?_); refine goesL_ (some 12) rfl rfl Try.func10 (by kernel_rfl) rfl #[.int .u8 59, .agg #[.string (⟨#[97]⟩ : ByteArray), .int .i64 0, .bool false], .agg #[.int .i64 1, .string (⟨#[]⟩ : ByteArray), .slice none 0 0, .slice none 0 0]] rfl (by (try simp only [List.map_toArray, List.map_cons, List.map_nil]); first | done | rfl | (simp only [List.length_drop, List.length_take]; rfl)) ?_; (refine (piece_One.calls 59 (⟨#[97]⟩ : ByteArray) 0 false 1 (⟨#[]⟩ : ByteArray) _ _ ([] : List ByteArray) _ _ ([] : List (S69)) t123 true t125 _ ?side1 ?side2 ?side3 ?side4 A1.out).mono ?_); (case side1 => exact Kd.C_nil _ _); (case side2 => exact Nat.le_refl _); (case side3 => exact Kd.C_nil _ _); (case side4 => exact Nat.le_refl _); rintro e w23 ⟨rfl, hb⟩; refine ⟨_, rfl, ?_⟩; have n0_ := Aside0.mk (blk_below (g := gb122) (o := .cells #[.int .i64 1, .string (⟨#[]⟩ : ByteArray), .slice none 0 0, .slice none 0 0] 27 (0, 0)) (by (with_reducible repeat (first | refine blk_drewN ?_ _ | refine blk_drew ?_ | refine blk_alloc ?_ _)); refine blk_put (cs := #[.int .i64 1, .string (⟨#[]⟩ : ByteArray), .slice none 0 0, .slice none 0 0]) ?_ 3 _ rfl; (with_reducible repeat (first | refine blk_drewN ?_ _ | refine blk_drew ?_ | refine blk_alloc ?_ _)); refine blk_put (cs := #[.int .i64 1, .string (⟨#[]⟩ : ByteArray), .slice none 0 0, .slice none 0 0]) ?_ 2 _ rfl; (with_reducible repeat (first | refine blk_drewN ?_ _ | refine blk_drew ?_ | refine blk_alloc ?_ _)); refine blk_put (cs := #[.int .i64 1, .string (⟨#[]⟩ : ByteArray), .slice none 0 0, .slice none 0 0]) ?_ 1 _ rfl; (with_reducible repeat (first | refine blk_drewN ?_ _ | refine blk_drew ?_ | refine blk_alloc ?_ _)); refine blk_put (cs := #[.int .i64 0, .string (⟨#[]⟩ : ByteArray), .slice none 0 0, .slice none 0 0]) ?_ 0 _ rfl; (with_reducible repeat (first | refine blk_drewN ?_ _ | refine blk_drew ?_ | refine blk_alloc ?_ _)); exact BK122.out) hb); have n1_ := Aside0.mk (below_step (by repeat (first | (with_reducible first | exact HB.out | apply below_alloc | apply pw_below_drewN | apply below_drew1 | refine below_set ?_ GE122.out) | exact HB.out)) hb); clear BK122; clear HB; have BK122 := n0_; have HB := n1_; clear n0_ n1_; (try clear hb); (try clear hb2); (try clear hk); (try clear hi); have hcz24_0 : w23.cell? ⟨gb122, 0, none⟩ = some (.int .i64 1) := (blk_cell BK122.out 0).trans rfl; have hcz24_1 : w23.cell? ⟨gb122, 1, none⟩ = some (.string (⟨#[]⟩ : ByteArray)) := (blk_cell BK122.out 1).trans rfl; have hcz24_2 : w23.cell? ⟨gb122, 2, none⟩ = some (.slice none 0 0) := (blk_cell BK122.out 2).trans rfl; have hcz24_3 : w23.cell? ⟨gb122, 3, none⟩ = some (.slice none 0 0) := (blk_cell BK122.out 3).trans rfl; have hfz24_0 := blk_frozen BK122.out 0; have hfz24_1 := blk_frozen BK122.out 1; have hfz24_2 := blk_frozen BK122.out 2; have hfz24_3 := blk_frozen BK122.out 3) | ((with_reducible refine gate_callee (f := 10) rfl ?_); refine goesL_ (some 19) rfl rfl Try.func10 (by kernel_rfl) rfl #[.int .u8 63, .agg #[.string (⟨#[97]⟩ : ByteArray), .int .i64 0, .bool false], .agg #[.int .i64 1, .string (⟨#[]⟩ : ByteArray), .slice none 0 0, .slice none 0 0]] rfl (by (try simp only [List.map_toArray, List.map_cons, List.map_nil]); first | done | rfl | (simp only [List.length_drop, List.length_take]; rfl)) ?_; (refine (piece_One.calls 63 (⟨#[97]⟩ : ByteArray) 0 false 1 (⟨#[]⟩ : ByteArray) _ _ ([] : List ByteArray) _ _ ([] : List (S69)) t126 true t128 _ ?side1 ?side2 ?side3 ?side4 A2.out).mono ?_); (case side1 => exact Kd.C_nil _ _); (case side2 => exact Nat.le_refl _); (case side3 => exact Kd.C_nil _ _); (case side4 => exact Nat.le_refl _); rintro e w25 ⟨rfl, hb⟩; refine ⟨_, rfl, ?_⟩; have n0_ := Aside0.mk (blk_below (g := gb122) (o := .cells #[.int .i64 1, .string (⟨#[]⟩ : ByteArray), .slice none 0 0, .slice none 0 0] 27 (0, 0)) (by (with_reducible repeat (first | refine blk_drewN ?_ _ | refine blk_drew ?_ | refine blk_alloc ?_ _)); exact BK122.out) hb); have n1_ := Aside0.mk (below_step (by repeat (first | (with_reducible first | exact HB.out | apply below_alloc | apply pw_below_drewN | apply below_drew1 | refine below_set ?_ GE122.out) | exact HB.out)) hb); clear BK122; clear HB; have BK122 := n0_; have HB := n1_; clear n0_ n1_; (try clear hb); (try clear hb2); (try clear hk); (try clear hi)))
            go_ret
            exact ⟨by first | rfl | (simp [errW_none, errW_some] <;> rfl) | (simp [*, errW_none, errW_some] <;> rfl), by repeat (first | (with_reducible first | exact HB.out | apply below_alloc | apply pw_below_drewN | apply below_drew1 | refine below_set ?_ GE122.out) | exact HB.out)⟩
        · rw [if_neg c6] at H
          have c6b0 : (t128 == 0) = false := beq_eq_false_iff_ne.mpr c6
          have c6b1 : (t128 != 0) = true := bne_iff_ne.mpr c6
          obtain rfl := Option.some.inj H
          go_enter Try.func8, Try.ntmps8
          go_wp2_with (first | ((with_reducible refine gate_dst (N := 1) rfl ?_); refine box_event ?hg (N := 1) ?hd (cs := #[.int .i64 0, .string (⟨#[]⟩ : ByteArray), .slice none 0 0, .slice none 0 0]) (t := 27) ?hr ?_; (case hd => rfl); (case hg => rfl); (case hr => first | (go_simp; done) | (go_simp; rfl)); intro gb122 hg w26 hbox hb; have n0_ := Aside0.mk (below_step (by repeat (first | (with_reducible first | exact HB.out | apply below_alloc | apply pw_below_drewN | apply below_drew1) | exact HB.out)) hb); have n1_ := Aside0.mk (hbox); have n2_ := Aside0.mk ((by rw [hg]; exact (below_size (by repeat (first | (with_reducible first | exact HB.out | apply below_alloc | apply pw_below_drewN | apply below_drew1) | exact HB.out))) : w.heap.size ≤ gb122)); have n3_ := Aside0.mk ((by rw [hg]; exact (below_size (by repeat (first | (with_reducible first | exact HB.out | apply below_alloc | apply pw_below_drewN | apply below_drew1) | exact HB.out))) : w.heap.size ≤ gb122)); clear HB; have HB := n0_; have BK122 := n1_; have GW122 := n2_; have GE122 := n3_; clear n0_ n1_ n2_ n3_; clear hb hbox hg; have hcz27_0 : w26.cell? ⟨gb122, 0, none⟩ = some (.int .i64 0) := (blk_cell BK122.out 0).trans rfl; have hcz27_1 : w26.cell? ⟨gb122, 1, none⟩ = some (.string (⟨#[]⟩ : ByteArray)) := (blk_cell BK122.out 1).trans rfl; have hcz27_2 : w26.cell? ⟨gb122, 2, none⟩ = some (.slice none 0 0) := (blk_cell BK122.out 2).trans rfl; have hcz27_3 : w26.cell? ⟨gb122, 3, none⟩ = some (.slice none 0 0) := (blk_cell BK122.out 3).trans rfl; have hfz27_0 := blk_frozen BK122.out 0; have hfz27_1 := blk_frozen BK122.out 1; have hfz27_2 := blk_frozen BK122.out 2; have hfz27_3 := blk_frozen BK122.out 3) | ((with_reducible refine gate_callee (f := 10) rfl ?_); refine goesL_ (some 12) rfl rfl Try.func10 (by kernel_rfl) rfl #[.int .u8 59, .agg #[.string (⟨#[97]⟩ : ByteArray), .int .i64 0, .bool false], .agg #[.int .i64 1, .string (⟨#[]⟩ : ByteArray), .slice none 0 0, .slice none 0 0]] rfl (by (try simp only [List.map_toArray, List.map_cons, List.map_nil]); first | done | rfl | (simp only [List.length_drop, List.length_take]; rfl)) ?_; (refine (piece_One.calls 59 (⟨#[97]⟩ : ByteArray) 0 false 1 (⟨#[]⟩ : ByteArray) _ _ ([] : List ByteArray) _ _ ([] : List (S69)) t123 true t125 _ ?side1 ?side2 ?side3 ?side4 A1.out).mono ?_); (case side1 => exact Kd.C_nil _ _); (case side2 => exact Nat.le_refl _); (case side3 => exact Kd.C_nil _ _); (case side4 => exact Nat.le_refl _); rintro e w28 ⟨rfl, hb⟩; refine ⟨_, rfl, ?_⟩; have n0_ := Aside0.mk (blk_below (g := gb122) (o := .cells #[.int .i64 1, .string (⟨#[]⟩ : ByteArray), .slice none 0 0, .slice none 0 0] 27 (0, 0)) (by (with_reducible repeat (first | refine blk_drewN ?_ _ | refine blk_drew ?_ | refine blk_alloc ?_ _)); refine blk_put (cs := #[.int .i64 1, .string (⟨#[]⟩ : ByteArray), .slice none 0 0, .slice none 0 0]) ?_ 3 _ rfl; (with_reducible repeat (first | refine blk_drewN ?_ _ | refine blk_drew ?_ | refine blk_alloc ?_ _)); refine blk_put (cs := #[.int .i64 1, .string (⟨#[]⟩ : ByteArray), .slice none 0 0, .slice none 0 0]) ?_ 2 _ rfl; (with_reducible repeat (first | refine blk_drewN ?_ _ | refine blk_drew ?_ | refine blk_alloc ?_ _)); refine blk_put (cs := #[.int .i64 1, .string (⟨#[]⟩ : ByteArray), .slice none 0 0, .slice none 0 0]) ?_ 1 _ rfl; (with_reducible repeat (first | refine blk_drewN ?_ _ | refine blk_drew ?_ | refine blk_alloc ?_ _)); refine blk_put (cs := #[.int .i64 0, .string (⟨#[]⟩ : ByteArray), .slice none 0 0, .slice none 0 0]) ?_ 0 _ rfl; (with_reducible repeat (first | refine blk_drewN ?_ _ | refine blk_drew ?_ | refine blk_alloc ?_ _)); exact BK122.out) hb); have n1_ := Aside0.mk (below_step (by repeat (first | (with_reducible first | exact HB.out | apply below_alloc | apply pw_below_drewN | apply below_drew1 | refine below_set ?_ GE122.out) | exact HB.out)) hb); clear BK122; clear HB; have BK122 := n0_; have HB := n1_; clear n0_ n1_; (try clear hb); (try clear hb2); (try clear hk); (try clear hi); have hcz29_0 : w28.cell? ⟨gb122, 0, none⟩ = some (.int .i64 1) := (blk_cell BK122.out 0).trans rfl; have hcz29_1 : w28.cell? ⟨gb122, 1, none⟩ = some (.string (⟨#[]⟩ : ByteArray)) := (blk_cell BK122.out 1).trans rfl; have hcz29_2 : w28.cell? ⟨gb122, 2, none⟩ = some (.slice none 0 0) := (blk_cell BK122.out 2).trans rfl; have hcz29_3 : w28.cell? ⟨gb122, 3, none⟩ = some (.slice none 0 0) := (blk_cell BK122.out 3).trans rfl; have hfz29_0 := blk_frozen BK122.out 0; have hfz29_1 := blk_frozen BK122.out 1; have hfz29_2 := blk_frozen BK122.out 2; have hfz29_3 := blk_frozen BK122.out 3) | ((with_reducible refine gate_callee (f := 10) rfl ?_); refine goesL_ (some 19) rfl rfl Try.func10 (by kernel_rfl) rfl #[.int .u8 63, .agg #[.string (⟨#[97]⟩ : ByteArray), .int .i64 0, .bool false], .agg #[.int .i64 1, .string (⟨#[]⟩ : ByteArray), .slice none 0 0, .slice none 0 0]] rfl (by (try simp only [List.map_toArray, List.map_cons, List.map_nil]); first | done | rfl | (simp only [List.length_drop, List.length_take]; rfl)) ?_; (refine (piece_One.calls 63 (⟨#[97]⟩ : ByteArray) 0 false 1 (⟨#[]⟩ : ByteArray) _ _ ([] : List ByteArray) _ _ ([] : List (S69)) t126 true t128 _ ?side1 ?side2 ?side3 ?side4 A2.out).mono ?_); (case side1 => exact Kd.C_nil _ _); (case side2 => exact Nat.le_refl _); (case side3 => exact Kd.C_nil _ _); (case side4 => exact Nat.le_refl _); rintro e w30 ⟨rfl, hb⟩; refine ⟨_, rfl, ?_⟩; have n0_ := Aside0.mk (blk_below (g := gb122) (o := .cells #[.int .i64 1, .string (⟨#[]⟩ : ByteArray), .slice none 0 0, .slice none 0 0] 27 (0, 0)) (by (with_reducible repeat (first | refine blk_drewN ?_ _ | refine blk_drew ?_ | refine blk_alloc ?_ _)); exact BK122.out) hb); have n1_ := Aside0.mk (below_step (by repeat (first | (with_reducible first | exact HB.out | apply below_alloc | apply pw_below_drewN | apply below_drew1 | refine below_set ?_ GE122.out) | exact HB.out)) hb); clear BK122; clear HB; have BK122 := n0_; have HB := n1_; clear n0_ n1_; (try clear hb); (try clear hb2); (try clear hk); (try clear hi)))
          go_ret
          exact ⟨by first | rfl | (simp [errW_none, errW_some] <;> rfl) | (simp [*, errW_none, errW_some] <;> rfl), by repeat (first | (with_reducible first | exact HB.out | apply below_alloc | apply pw_below_drewN | apply below_drew1 | refine below_set ?_ GE122.out) | exact HB.out)⟩
      · rw [if_neg c5] at H
        have c5b0 : (t125 == 0) = false := beq_eq_false_iff_ne.mpr c5
        have c5b1 : (t125 != 0) = true := bne_iff_ne.mpr c5
        obtain rfl := Option.some.inj H
        go_enter Try.func8, Try.ntmps8
        go_wp2_with (first | ((with_reducible refine gate_dst (N := 1) rfl ?_); refine box_event ?hg (N := 1) ?hd (cs := #[.int .i64 0, .string (⟨#[]⟩ : ByteArray), .slice none 0 0, .slice none 0 0]) (t := 27) ?hr ?_; (case hd => rfl); (case hg => rfl); (case hr => first | (go_simp; done) | (go_simp; rfl)); intro gb122 hg w31 hbox hb; have n0_ := Aside0.mk (below_step (by repeat (first | (with_reducible first | exact HB.out | apply below_alloc | apply pw_below_drewN | apply below_drew1) | exact HB.out)) hb); have n1_ := Aside0.mk (hbox); have n2_ := Aside0.mk ((by rw [hg]; exact (below_size (by repeat (first | (with_reducible first | exact HB.out | apply below_alloc | apply pw_below_drewN | apply below_drew1) | exact HB.out))) : w.heap.size ≤ gb122)); have n3_ := Aside0.mk ((by rw [hg]; exact (below_size (by repeat (first | (with_reducible first | exact HB.out | apply below_alloc | apply pw_below_drewN | apply below_drew1) | exact HB.out))) : w.heap.size ≤ gb122)); clear HB; have HB := n0_; have BK122 := n1_; have GW122 := n2_; have GE122 := n3_; clear n0_ n1_ n2_ n3_; clear hb hbox hg; have hcz32_0 : w31.cell? ⟨gb122, 0, none⟩ = some (.int .i64 0) := (blk_cell BK122.out 0).trans rfl; have hcz32_1 : w31.cell? ⟨gb122, 1, none⟩ = some (.string (⟨#[]⟩ : ByteArray)) := (blk_cell BK122.out 1).trans rfl; have hcz32_2 : w31.cell? ⟨gb122, 2, none⟩ = some (.slice none 0 0) := (blk_cell BK122.out 2).trans rfl; have hcz32_3 : w31.cell? ⟨gb122, 3, none⟩ = some (.slice none 0 0) := (blk_cell BK122.out 3).trans rfl; have hfz32_0 := blk_frozen BK122.out 0; have hfz32_1 := blk_frozen BK122.out 1; have hfz32_2 := blk_frozen BK122.out 2; have hfz32_3 := blk_frozen BK122.out 3) | ((with_reducible refine gate_callee (f := 10) rfl ?_); refine goesL_ (some 12) rfl rfl Try.func10 (by kernel_rfl) rfl #[.int .u8 59, .agg #[.string (⟨#[97]⟩ : ByteArray), .int .i64 0, .bool false], .agg #[.int .i64 1, .string (⟨#[]⟩ : ByteArray), .slice none 0 0, .slice none 0 0]] rfl (by (try simp only [List.map_toArray, List.map_cons, List.map_nil]); first | done | rfl | (simp only [List.length_drop, List.length_take]; rfl)) ?_; (refine (piece_One.calls 59 (⟨#[97]⟩ : ByteArray) 0 false 1 (⟨#[]⟩ : ByteArray) _ _ ([] : List ByteArray) _ _ ([] : List (S69)) t123 true t125 _ ?side1 ?side2 ?side3 ?side4 A1.out).mono ?_); (case side1 => exact Kd.C_nil _ _); (case side2 => exact Nat.le_refl _); (case side3 => exact Kd.C_nil _ _); (case side4 => exact Nat.le_refl _); rintro e w33 ⟨rfl, hb⟩; refine ⟨_, rfl, ?_⟩; have n0_ := Aside0.mk (blk_below (g := gb122) (o := .cells #[.int .i64 1, .string (⟨#[]⟩ : ByteArray), .slice none 0 0, .slice none 0 0] 27 (0, 0)) (by (with_reducible repeat (first | refine blk_drewN ?_ _ | refine blk_drew ?_ | refine blk_alloc ?_ _)); refine blk_put (cs := #[.int .i64 1, .string (⟨#[]⟩ : ByteArray), .slice none 0 0, .slice none 0 0]) ?_ 3 _ rfl; (with_reducible repeat (first | refine blk_drewN ?_ _ | refine blk_drew ?_ | refine blk_alloc ?_ _)); refine blk_put (cs := #[.int .i64 1, .string (⟨#[]⟩ : ByteArray), .slice none 0 0, .slice none 0 0]) ?_ 2 _ rfl; (with_reducible repeat (first | refine blk_drewN ?_ _ | refine blk_drew ?_ | refine blk_alloc ?_ _)); refine blk_put (cs := #[.int .i64 1, .string (⟨#[]⟩ : ByteArray), .slice none 0 0, .slice none 0 0]) ?_ 1 _ rfl; (with_reducible repeat (first | refine blk_drewN ?_ _ | refine blk_drew ?_ | refine blk_alloc ?_ _)); refine blk_put (cs := #[.int .i64 0, .string (⟨#[]⟩ : ByteArray), .slice none 0 0, .slice none 0 0]) ?_ 0 _ rfl; (with_reducible repeat (first | refine blk_drewN ?_ _ | refine blk_drew ?_ | refine blk_alloc ?_ _)); exact BK122.out) hb); have n1_ := Aside0.mk (below_step (by repeat (first | (with_reducible first | exact HB.out | apply below_alloc | apply pw_below_drewN | apply below_drew1 | refine below_set ?_ GE122.out) | exact HB.out)) hb); clear BK122; clear HB; have BK122 := n0_; have HB := n1_; clear n0_ n1_; (try clear hb); (try clear hb2); (try clear hk); (try clear hi); have hcz34_0 : w33.cell? ⟨gb122, 0, none⟩ = some (.int .i64 1) := (blk_cell BK122.out 0).trans rfl; have hcz34_1 : w33.cell? ⟨gb122, 1, none⟩ = some (.string (⟨#[]⟩ : ByteArray)) := (blk_cell BK122.out 1).trans rfl; have hcz34_2 : w33.cell? ⟨gb122, 2, none⟩ = some (.slice none 0 0) := (blk_cell BK122.out 2).trans rfl; have hcz34_3 : w33.cell? ⟨gb122, 3, none⟩ = some (.slice none 0 0) := (blk_cell BK122.out 3).trans rfl; have hfz34_0 := blk_frozen BK122.out 0; have hfz34_1 := blk_frozen BK122.out 1; have hfz34_2 := blk_frozen BK122.out 2; have hfz34_3 := blk_frozen BK122.out 3) | ((with_reducible refine gate_callee (f := 10) rfl ?_); refine goesL_ (some 19) rfl rfl Try.func10 (by kernel_rfl) rfl #[.int .u8 63, .agg #[.string (⟨#[97]⟩ : ByteArray), .int .i64 0, .bool false], .agg #[.int .i64 1, .string (⟨#[]⟩ : ByteArray), .slice none 0 0, .slice none 0 0]] rfl (by (try simp only [List.map_toArray, List.map_cons, List.map_nil]); first | done | rfl | (simp only [List.length_drop, List.length_take]; rfl)) ?_; (refine (piece_One.calls 63 (⟨#[97]⟩ : ByteArray) 0 false 1 (⟨#[]⟩ : ByteArray) _ _ ([] : List ByteArray) _ _ ([] : List (S69)) t126 true t128 _ ?side1 ?side2 ?side3 ?side4 A2.out).mono ?_); (case side1 => exact Kd.C_nil _ _); (case side2 => exact Nat.le_refl _); (case side3 => exact Kd.C_nil _ _); (case side4 => exact Nat.le_refl _); rintro e w35 ⟨rfl, hb⟩; refine ⟨_, rfl, ?_⟩; have n0_ := Aside0.mk (blk_below (g := gb122) (o := .cells #[.int .i64 1, .string (⟨#[]⟩ : ByteArray), .slice none 0 0, .slice none 0 0] 27 (0, 0)) (by (with_reducible repeat (first | refine blk_drewN ?_ _ | refine blk_drew ?_ | refine blk_alloc ?_ _)); exact BK122.out) hb); have n1_ := Aside0.mk (below_step (by repeat (first | (with_reducible first | exact HB.out | apply below_alloc | apply pw_below_drewN | apply below_drew1 | refine below_set ?_ GE122.out) | exact HB.out)) hb); clear BK122; clear HB; have BK122 := n0_; have HB := n1_; clear n0_ n1_; (try clear hb); (try clear hb2); (try clear hk); (try clear hi)))
        go_ret
        exact ⟨by first | rfl | (simp [errW_none, errW_some] <;> rfl) | (simp [*, errW_none, errW_some] <;> rfl), by repeat (first | (with_reducible first | exact HB.out | apply below_alloc | apply pw_below_drewN | apply below_drew1 | refine below_set ?_ GE122.out) | exact HB.out)⟩
    · replace c4 := Bool.eq_false_iff.mpr c4
      subst c4
      have H1 : (some false) = some r := by rw [if_neg (show ¬ (false = true) by decide)] at H; exact H
      clear H
      have H := H1
      clear H1
      obtain rfl := Option.some.inj H
      go_enter Try.func8, Try.ntmps8
      go_wp2_with (first | ((with_reducible refine gate_dst (N := 1) rfl ?_); refine box_event ?hg (N := 1) ?hd (cs := #[.int .i64 0, .string (⟨#[]⟩ : ByteArray), .slice none 0 0, .slice none 0 0]) (t := 27) ?hr ?_; (case hd => rfl); (case hg => rfl); (case hr => first | (go_simp; done) | (go_simp; rfl)); intro gb122 hg w36 hbox hb; have n0_ := Aside0.mk (below_step (by repeat (first | (with_reducible first | exact HB.out | apply below_alloc | apply pw_below_drewN | apply below_drew1) | exact HB.out)) hb); have n1_ := Aside0.mk (hbox); have n2_ := Aside0.mk ((by rw [hg]; exact (below_size (by repeat (first | (with_reducible first | exact HB.out | apply below_alloc | apply pw_below_drewN | apply below_drew1) | exact HB.out))) : w.heap.size ≤ gb122)); have n3_ := Aside0.mk ((by rw [hg]; exact (below_size (by repeat (first | (with_reducible first | exact HB.out | apply below_alloc | apply pw_below_drewN | apply below_drew1) | exact HB.out))) : w.heap.size ≤ gb122)); clear HB; have HB := n0_; have BK122 := n1_; have GW122 := n2_; have GE122 := n3_; clear n0_ n1_ n2_ n3_; clear hb hbox hg; have hcz37_0 : w36.cell? ⟨gb122, 0, none⟩ = some (.int .i64 0) := (blk_cell BK122.out 0).trans rfl; have hcz37_1 : w36.cell? ⟨gb122, 1, none⟩ = some (.string (⟨#[]⟩ : ByteArray)) := (blk_cell BK122.out 1).trans rfl; have hcz37_2 : w36.cell? ⟨gb122, 2, none⟩ = some (.slice none 0 0) := (blk_cell BK122.out 2).trans rfl; have hcz37_3 : w36.cell? ⟨gb122, 3, none⟩ = some (.slice none 0 0) := (blk_cell BK122.out 3).trans rfl; have hfz37_0 := blk_frozen BK122.out 0; have hfz37_1 := blk_frozen BK122.out 1; have hfz37_2 := blk_frozen BK122.out 2; have hfz37_3 := blk_frozen BK122.out 3) | ((with_reducible refine gate_callee (f := 10) rfl ?_); refine goesL_ (some 12) rfl rfl Try.func10 (by kernel_rfl) rfl #[.int .u8 59, .agg #[.string (⟨#[97]⟩ : ByteArray), .int .i64 0, .bool false], .agg #[.int .i64 1, .string (⟨#[]⟩ : ByteArray), .slice none 0 0, .slice none 0 0]] rfl (by (try simp only [List.map_toArray, List.map_cons, List.map_nil]); first | done | rfl | (simp only [List.length_drop, List.length_take]; rfl)) ?_; (refine (piece_One.calls 59 (⟨#[97]⟩ : ByteArray) 0 false 1 (⟨#[]⟩ : ByteArray) _ _ ([] : List ByteArray) _ _ ([] : List (S69)) t123 true t125 _ ?side1 ?side2 ?side3 ?side4 A1.out).mono ?_); (case side1 => exact Kd.C_nil _ _); (case side2 => exact Nat.le_refl _); (case side3 => exact Kd.C_nil _ _); (case side4 => exact Nat.le_refl _); rintro e w38 ⟨rfl, hb⟩; refine ⟨_, rfl, ?_⟩; have n0_ := Aside0.mk (blk_below (g := gb122) (o := .cells #[.int .i64 1, .string (⟨#[]⟩ : ByteArray), .slice none 0 0, .slice none 0 0] 27 (0, 0)) (by (with_reducible repeat (first | refine blk_drewN ?_ _ | refine blk_drew ?_ | refine blk_alloc ?_ _)); refine blk_put (cs := #[.int .i64 1, .string (⟨#[]⟩ : ByteArray), .slice none 0 0, .slice none 0 0]) ?_ 3 _ rfl; (with_reducible repeat (first | refine blk_drewN ?_ _ | refine blk_drew ?_ | refine blk_alloc ?_ _)); refine blk_put (cs := #[.int .i64 1, .string (⟨#[]⟩ : ByteArray), .slice none 0 0, .slice none 0 0]) ?_ 2 _ rfl; (with_reducible repeat (first | refine blk_drewN ?_ _ | refine blk_drew ?_ | refine blk_alloc ?_ _)); refine blk_put (cs := #[.int .i64 1, .string (⟨#[]⟩ : ByteArray), .slice none 0 0, .slice none 0 0]) ?_ 1 _ rfl; (with_reducible repeat (first | refine blk_drewN ?_ _ | refine blk_drew ?_ | refine blk_alloc ?_ _)); refine blk_put (cs := #[.int .i64 0, .string (⟨#[]⟩ : ByteArray), .slice none 0 0, .slice none 0 0]) ?_ 0 _ rfl; (with_reducible repeat (first | refine blk_drewN ?_ _ | refine blk_drew ?_ | refine blk_alloc ?_ _)); exact BK122.out) hb); have n1_ := Aside0.mk (below_step (by repeat (first | (with_reducible first | exact HB.out | apply below_alloc | apply pw_below_drewN | apply below_drew1 | refine below_set ?_ GE122.out) | exact HB.out)) hb); clear BK122; clear HB; have BK122 := n0_; have HB := n1_; clear n0_ n1_; (try clear hb); (try clear hb2); (try clear hk); (try clear hi); have hcz39_0 : w38.cell? ⟨gb122, 0, none⟩ = some (.int .i64 1) := (blk_cell BK122.out 0).trans rfl; have hcz39_1 : w38.cell? ⟨gb122, 1, none⟩ = some (.string (⟨#[]⟩ : ByteArray)) := (blk_cell BK122.out 1).trans rfl; have hcz39_2 : w38.cell? ⟨gb122, 2, none⟩ = some (.slice none 0 0) := (blk_cell BK122.out 2).trans rfl; have hcz39_3 : w38.cell? ⟨gb122, 3, none⟩ = some (.slice none 0 0) := (blk_cell BK122.out 3).trans rfl; have hfz39_0 := blk_frozen BK122.out 0; have hfz39_1 := blk_frozen BK122.out 1; have hfz39_2 := blk_frozen BK122.out 2; have hfz39_3 := blk_frozen BK122.out 3) | ((with_reducible refine gate_callee (f := 10) rfl ?_); refine goesL_ (some 19) rfl rfl Try.func10 (by kernel_rfl) rfl #[.int .u8 63, .agg #[.string (⟨#[97]⟩ : ByteArray), .int .i64 0, .bool false], .agg #[.int .i64 1, .string (⟨#[]⟩ : ByteArray), .slice none 0 0, .slice none 0 0]] rfl (by (try simp only [List.map_toArray, List.map_cons, List.map_nil]); first | done | rfl | (simp only [List.length_drop, List.length_take]; rfl)) ?_; (refine (piece_One.calls 63 (⟨#[97]⟩ : ByteArray) 0 false 1 (⟨#[]⟩ : ByteArray) _ _ ([] : List ByteArray) _ _ ([] : List (S69)) t126 false t128 _ ?side1 ?side2 ?side3 ?side4 A2.out).mono ?_); (case side1 => exact Kd.C_nil _ _); (case side2 => exact Nat.le_refl _); (case side3 => exact Kd.C_nil _ _); (case side4 => exact Nat.le_refl _); rintro e w40 ⟨rfl, hb⟩; refine ⟨_, rfl, ?_⟩; have n0_ := Aside0.mk (blk_below (g := gb122) (o := .cells #[.int .i64 1, .string (⟨#[]⟩ : ByteArray), .slice none 0 0, .slice none 0 0] 27 (0, 0)) (by (with_reducible repeat (first | refine blk_drewN ?_ _ | refine blk_drew ?_ | refine blk_alloc ?_ _)); exact BK122.out) hb); have n1_ := Aside0.mk (below_step (by repeat (first | (with_reducible first | exact HB.out | apply below_alloc | apply pw_below_drewN | apply below_drew1 | refine below_set ?_ GE122.out) | exact HB.out)) hb); clear BK122; clear HB; have BK122 := n0_; have HB := n1_; clear n0_ n1_; (try clear hb); (try clear hb2); (try clear hk); (try clear hi)))
      go_ret
      exact ⟨by first | rfl | (simp [errW_none, errW_some] <;> rfl) | (simp [*, errW_none, errW_some] <;> rfl), by repeat (first | (with_reducible first | exact HB.out | apply below_alloc | apply pw_below_drewN | apply below_drew1 | refine below_set ?_ GE122.out) | exact HB.out)⟩
  · replace c3 := Bool.eq_false_iff.mpr c3
    subst c3
    have H1 : (some false) = some r := by rw [if_neg (show ¬ (false = true) by decide)] at H; exact H
    clear H
    have H := H1
    clear H1
    obtain rfl := Option.some.inj H
    go_enter Try.func8, Try.ntmps8
    go_wp2_with (first | ((with_reducible refine gate_dst (N := 1) rfl ?_); refine box_event ?hg (N := 1) ?hd (cs := #[.int .i64 0, .string (⟨#[]⟩ : ByteArray), .slice none 0 0, .slice none 0 0]) (t := 27) ?hr ?_; (case hd => rfl); (case hg => rfl); (case hr => first | (go_simp; done) | (go_simp; rfl)); intro gb122 hg w41 hbox hb; have n0_ := Aside0.mk (below_step (by repeat (first | (with_reducible first | exact HB.out | apply below_alloc | apply pw_below_drewN | apply below_drew1) | exact HB.out)) hb); have n1_ := Aside0.mk (hbox); have n2_ := Aside0.mk ((by rw [hg]; exact (below_size (by repeat (first | (with_reducible first | exact HB.out | apply below_alloc | apply pw_below_drewN | apply below_drew1) | exact HB.out))) : w.heap.size ≤ gb122)); have n3_ := Aside0.mk ((by rw [hg]; exact (below_size (by repeat (first | (with_reducible first | exact HB.out | apply below_alloc | apply pw_below_drewN | apply below_drew1) | exact HB.out))) : w.heap.size ≤ gb122)); clear HB; have HB := n0_; have BK122 := n1_; have GW122 := n2_; have GE122 := n3_; clear n0_ n1_ n2_ n3_; clear hb hbox hg; have hcz42_0 : w41.cell? ⟨gb122, 0, none⟩ = some (.int .i64 0) := (blk_cell BK122.out 0).trans rfl; have hcz42_1 : w41.cell? ⟨gb122, 1, none⟩ = some (.string (⟨#[]⟩ : ByteArray)) := (blk_cell BK122.out 1).trans rfl; have hcz42_2 : w41.cell? ⟨gb122, 2, none⟩ = some (.slice none 0 0) := (blk_cell BK122.out 2).trans rfl; have hcz42_3 : w41.cell? ⟨gb122, 3, none⟩ = some (.slice none 0 0) := (blk_cell BK122.out 3).trans rfl; have hfz42_0 := blk_frozen BK122.out 0; have hfz42_1 := blk_frozen BK122.out 1; have hfz42_2 := blk_frozen BK122.out 2; have hfz42_3 := blk_frozen BK122.out 3) | ((with_reducible refine gate_callee (f := 10) rfl ?_); refine goesL_ (some 12) rfl rfl Try.func10 (by kernel_rfl) rfl #[.int .u8 59, .agg #[.string (⟨#[97]⟩ : ByteArray), .int .i64 0, .bool false], .agg #[.int .i64 1, .string (⟨#[]⟩ : ByteArray), .slice none 0 0, .slice none 0 0]] rfl (by (try simp only [List.map_toArray, List.map_cons, List.map_nil]); first | done | rfl | (simp only [List.length_drop, List.length_take]; rfl)) ?_; (refine (piece_One.calls 59 (⟨#[97]⟩ : ByteArray) 0 false 1 (⟨#[]⟩ : ByteArray) _ _ ([] : List ByteArray) _ _ ([] : List (S69)) t123 false t125 _ ?side1 ?side2 ?side3 ?side4 A1.out).mono ?_); (case side1 => exact Kd.C_nil _ _); (case side2 => exact Nat.le_refl _); (case side3 => exact Kd.C_nil _ _); (case side4 => exact Nat.le_refl _); rintro e w43 ⟨rfl, hb⟩; refine ⟨_, rfl, ?_⟩; have n0_ := Aside0.mk (blk_below (g := gb122) (o := .cells #[.int .i64 1, .string (⟨#[]⟩ : ByteArray), .slice none 0 0, .slice none 0 0] 27 (0, 0)) (by (with_reducible repeat (first | refine blk_drewN ?_ _ | refine blk_drew ?_ | refine blk_alloc ?_ _)); refine blk_put (cs := #[.int .i64 1, .string (⟨#[]⟩ : ByteArray), .slice none 0 0, .slice none 0 0]) ?_ 3 _ rfl; (with_reducible repeat (first | refine blk_drewN ?_ _ | refine blk_drew ?_ | refine blk_alloc ?_ _)); refine blk_put (cs := #[.int .i64 1, .string (⟨#[]⟩ : ByteArray), .slice none 0 0, .slice none 0 0]) ?_ 2 _ rfl; (with_reducible repeat (first | refine blk_drewN ?_ _ | refine blk_drew ?_ | refine blk_alloc ?_ _)); refine blk_put (cs := #[.int .i64 1, .string (⟨#[]⟩ : ByteArray), .slice none 0 0, .slice none 0 0]) ?_ 1 _ rfl; (with_reducible repeat (first | refine blk_drewN ?_ _ | refine blk_drew ?_ | refine blk_alloc ?_ _)); refine blk_put (cs := #[.int .i64 0, .string (⟨#[]⟩ : ByteArray), .slice none 0 0, .slice none 0 0]) ?_ 0 _ rfl; (with_reducible repeat (first | refine blk_drewN ?_ _ | refine blk_drew ?_ | refine blk_alloc ?_ _)); exact BK122.out) hb); have n1_ := Aside0.mk (below_step (by repeat (first | (with_reducible first | exact HB.out | apply below_alloc | apply pw_below_drewN | apply below_drew1 | refine below_set ?_ GE122.out) | exact HB.out)) hb); clear BK122; clear HB; have BK122 := n0_; have HB := n1_; clear n0_ n1_; (try clear hb); (try clear hb2); (try clear hk); (try clear hi); have hcz44_0 : w43.cell? ⟨gb122, 0, none⟩ = some (.int .i64 1) := (blk_cell BK122.out 0).trans rfl; have hcz44_1 : w43.cell? ⟨gb122, 1, none⟩ = some (.string (⟨#[]⟩ : ByteArray)) := (blk_cell BK122.out 1).trans rfl; have hcz44_2 : w43.cell? ⟨gb122, 2, none⟩ = some (.slice none 0 0) := (blk_cell BK122.out 2).trans rfl; have hcz44_3 : w43.cell? ⟨gb122, 3, none⟩ = some (.slice none 0 0) := (blk_cell BK122.out 3).trans rfl; have hfz44_0 := blk_frozen BK122.out 0; have hfz44_1 := blk_frozen BK122.out 1; have hfz44_2 := blk_frozen BK122.out 2; have hfz44_3 := blk_frozen BK122.out 3) | ((with_reducible refine gate_callee (f := 10) rfl ?_); refine goesL_ (some 19) rfl rfl Try.func10 (by kernel_rfl) rfl #[.int .u8 63, .agg #[.string (⟨#[97]⟩ : ByteArray), .int .i64 0, .bool false], .agg #[.int .i64 1, .string (⟨#[]⟩ : ByteArray), .slice none 0 0, .slice none 0 0]] rfl (by (try simp only [List.map_toArray, List.map_cons, List.map_nil]); first | done | rfl | (simp only [List.length_drop, List.length_take]; rfl)) ?_; (refine (piece_One.calls 63 (⟨#[97]⟩ : ByteArray) 0 false 1 (⟨#[]⟩ : ByteArray) _ _ ([] : List ByteArray) _ _ ([] : List (S69)) t126 t127 t128 _ ?side1 ?side2 ?side3 ?side4 A2.out).mono ?_); (case side1 => exact Kd.C_nil _ _); (case side2 => exact Nat.le_refl _); (case side3 => exact Kd.C_nil _ _); (case side4 => exact Nat.le_refl _); rintro e w45 ⟨rfl, hb⟩; refine ⟨_, rfl, ?_⟩; have n0_ := Aside0.mk (blk_below (g := gb122) (o := .cells #[.int .i64 1, .string (⟨#[]⟩ : ByteArray), .slice none 0 0, .slice none 0 0] 27 (0, 0)) (by (with_reducible repeat (first | refine blk_drewN ?_ _ | refine blk_drew ?_ | refine blk_alloc ?_ _)); exact BK122.out) hb); have n1_ := Aside0.mk (below_step (by repeat (first | (with_reducible first | exact HB.out | apply below_alloc | apply pw_below_drewN | apply below_drew1 | refine below_set ?_ GE122.out) | exact HB.out)) hb); clear BK122; clear HB; have BK122 := n0_; have HB := n1_; clear n0_ n1_; (try clear hb); (try clear hb2); (try clear hk); (try clear hi)))
    go_ret
    exact ⟨by first | rfl | (simp [errW_none, errW_some] <;> rfl) | (simp [*, errW_none, errW_some] <;> rfl), by repeat (first | (with_reducible first | exact HB.out | apply below_alloc | apply pw_below_drewN | apply below_drew1 | refine below_set ?_ GE122.out) | exact HB.out)⟩

end Go.Proofs.Ytbjeegkmafbejaa.PE
end
section
namespace Go.Proofs.Ytbjeegkmafbejaa.PE
set_option linter.unusedSimpArgs false
set_option linter.unusedVariables false
open Go.RowKit Go.Proofs.YtbjeegkmafbejaaW.PrintWords Go.Proofs.YtbjeegkmafbejaaW.PrintLast Y
theorem u8_in {a0 : Int} (hw : (Lit.int .u8 a0).wf = true) : 0 ≤ a0 ∧ a0 ≤ 255 := by
  have hw : (decide (IntKind.u8.min ≤ a0) && decide (a0 ≤ IntKind.u8.max)) = true := hw
  rwa [show IntKind.u8.min = 0 from by decide, show IntKind.u8.max = 255 from by decide, Bool.and_eq_true, decide_eq_true_eq, decide_eq_true_eq] at hw
theorem awake_f : phalaropelaw11_awake.f = some true := by decide +kernel
/-- Few texts, as the laws of this chapter have it. -/
theorem evFew (nm : ByteArray) (mx : Int) (st : Bool) (vk : Int) (s : ByteArray) (l : List ByteArray) (p : List S69) : ∃ b, Ev (fun k => phalaropelaw11_few.f k nm mx st vk s l p) b ∧ (b = true → nm.size ≤ 200 ∧ FewV s l p) := by
  by_cases hn : (nm.size : Int) ≤ 200
  · obtain ⟨b, h1, h2⟩ := few_f vk s l p 201 (by omega)
    refine ⟨b, Ev.congr (f := fun k => (phalaroperef08_Few.f k vk s l p).bind fun t => some t) (fun k => if_pos hn) (Ev.bind (Ev.of (phalaroperef08_Few.mono vk s l p) h1) (Ev.now b)), fun h => ⟨by omega, h2 h⟩⟩
  · exact ⟨false, Ev.congr (f := fun _ => some false) (fun k => if_neg hn) (Ev.now false), fun h => by cases h⟩
theorem evMay (nm : ByteArray) (mx : Int) (st : Bool) : Ev (fun k => phalaroperef06_May.f k nm mx st) (sMay nm mx st) := by
  refine ⟨nm.size + 2, fun k hk => ?_⟩
  show phalaroperef06_May.f k nm mx st = _
  unfold phalaroperef06_May.f sMay
  rw [rname_f nm k (by omega), Option.bind_some]
  cases nameMay nm with
  | false => rfl
  | true =>
    rw [if_pos rfl]
    by_cases h0 : 0 ≤ mx
    · rw [if_pos h0]
      by_cases h1 : mx ≤ 9999
      · rw [if_pos h1]
        cases st with
        | false => simp [h0, h1]
        | true =>
          rw [if_pos rfl]
          simp only [h0, h1, decide_true, Bool.true_and]
          congr 1
          rw [Bool.eq_iff_iff]
          simp
          omega
      · rw [if_neg h1]; simp [h1]
    · rw [if_neg h0]; simp [h0]
theorem evValid (vk : Int) (s : ByteArray) (l : List ByteArray) (p : List S69) (hm : modest s l p) : Ev (fun k => phalaroperef08_Valid.f k vk s l p) ((textsOf vk s l p).all validS) :=
  ⟨3000001, fun k hk => rvalid_f k vk s l p hm (by omega)⟩
theorem pairs_get (p : List S69) : ∀ (i : Nat) (h : i < p.length), (p.flatMap (fun x => [x.f0, x.f1])).getD (2 * i) ByteArray.empty = p[i].f0 ∧ (p.flatMap (fun x => [x.f0, x.f1])).getD (2 * i + 1) ByteArray.empty = p[i].f1 := by
  induction p with
  | nil => intro i h; simp at h
  | cons a p ih =>
    intro i h
    rw [List.flatMap_cons]
    cases i with
    | zero => exact ⟨rfl, rfl⟩
    | succ i =>
      have := ih i (by simpa using h)
      rw [show 2 * (i + 1) = 2 * i + 1 + 1 from by omega]
      exact this
theorem pairs_len (p : List S69) : (p.flatMap (fun x => [x.f0, x.f1])).length = 2 * p.length := by
  induction p with
  | nil => rfl
  | cons a p ih => rw [List.flatMap_cons, List.length_append, ih]; simp; omega
theorem evOf_l0 (p : List S69) (hp : p.length ≤ 100000) (vk : Int) (s : ByteArray) (d : Nat) : ∀ i, i + d = p.length → Ev (fun k => phalaroperef08_Of.l0 k (p.flatMap (fun x => [x.f0, x.f1])) ((2 * i : Nat) : Int) vk s (p.take i)) (vk, s, [], p, true) := by
  have hl := pairs_len p
  induction d with
  | zero =>
    intro i hi
    refine Ev.step (f := fun _ => some (vk, s, [], p, true)) (fun k => ?_) (Ev.now _)
    simp only [phalaroperef08_Of.l0]
    rw [hl, if_neg (by unfold wrap64; omega), List.take_of_length_le (by omega)]
  | succ d ih =>
    intro i hi
    refine Ev.step (fun k => ?_) (ih (i + 1) (by omega))
    obtain ⟨g0, g1⟩ := pairs_get p i (by omega)
    have e1 : wrap64 (((2 * i : Nat) : Int) + 1) = ((2 * i + 1 : Nat) : Int) := by unfold wrap64; omega
    have e2 : wrap64 (((2 * i : Nat) : Int) + 2) = ((2 * (i + 1) : Nat) : Int) := by unfold wrap64; omega
    have r0 : rdOf ByteArray.empty (p.flatMap (fun x => [x.f0, x.f1])) ((2 * i : Nat) : Int) = p[i].f0 := by unfold rdOf; rw [Int.toNat_natCast]; exact g0
    have r1 : rdOf ByteArray.empty (p.flatMap (fun x => [x.f0, x.f1])) ((2 * i + 1 : Nat) : Int) = p[i].f1 := by unfold rdOf; rw [Int.toNat_natCast]; exact g1
    simp only [phalaroperef08_Of.l0]
    rw [hl, e1, e2, if_pos (by omega), if_pos (by omega), if_pos (by omega), if_pos (by omega), if_pos (by rw [List.length_take]; omega), r0, r1]
    congr 1
    rw [List.take_succ_eq_append_getElem (by omega)]
/-- A canonical value has the same texts. -/
theorem canon_f (vk : Int) (s : ByteArray) (l : List ByteArray) (p : List S69) (hm : modest s l p) : ∃ c1 c2 c3 c4, Ev (fun k => phalaroperef08_Canon.f k vk s l p) (c1, c2, c3, c4) ∧ (textsOf vk s l p = [] → c1 = 0) ∧
    (textsOf vk s l p ≠ [] → c1 = vk ∧ vk ≠ 0 ∧ textsOf c1 c2 c3 c4 = textsOf vk s l p ∧ modest c2 c3 c4 ∧ (vk = 2 → c3 = l)) := by
  have hT : Ev (fun k => phalaroperef08_Texts.f k vk s l p) (textsOf vk s l p) := ⟨l.length + p.length + 11, fun k hk => rtexts_f vk s l p k hm (by omega)⟩
  have mk : ∀ c1 c2 c3 c4 b, Ev (fun k => phalaroperef08_Of.f k vk (textsOf vk s l p)) (c1, c2, c3, c4, b) → Ev (fun k => phalaroperef08_Canon.f k vk s l p) (c1, c2, c3, c4) := fun c1 c2 c3 c4 b h =>
    Ev.congr (f := fun k => (phalaroperef08_Texts.f k vk s l p).bind fun t => (phalaroperef08_Of.f k vk t).bind fun bt => some (bt.1, bt.2.1, bt.2.2.1, bt.2.2.2.1)) (fun k => rfl) (Ev.bind hT (Ev.bind h (Ev.now _)))
  have z2 : ∀ T, Ev (fun k => phalaroperef08_Of.j2 k T true vk ⟨#[]⟩) (0, ⟨#[]⟩, [], [], false) := fun T => Ev.step (f := fun _ => some (0, ⟨#[]⟩, [], [], false)) (fun k => by simp only [phalaroperef08_Of.j2]; rfl) (Ev.now _)
  by_cases h1 : vk = 1
  · subst h1
    have ht : textsOf 1 s l p = [s] := rfl
    refine ⟨1, s, [], [], mk _ _ _ _ true ?_, fun h => by rw [ht] at h; simp at h, fun _ => ⟨rfl, by decide, rfl, ⟨hm.1, by simp, by simp, by simp, by simp⟩, fun h => by cases h⟩⟩
    rw [ht]
    exact Ev.congr (f := fun k => phalaroperef08_Of.j0 k 1 [s] true 1 ⟨#[]⟩) (fun k => rfl) (Ev.step (f := fun _ => some (1, s, [], [], true)) (fun k => by simp only [phalaroperef08_Of.j0]; rfl) (Ev.now _))
  by_cases h2 : vk = 2
  · subst h2
    have ht : textsOf 2 s l p = l := rfl
    by_cases hl : l = []
    · refine ⟨0, ⟨#[]⟩, [], [], mk _ _ _ _ false ?_, fun _ => rfl, fun h => absurd (ht.trans hl) h⟩
      rw [ht, hl]
      exact Ev.congr (f := fun k => phalaroperef08_Of.j0 k 2 [] false 2 ⟨#[]⟩) (fun k => rfl) (Ev.step (f := fun k => phalaroperef08_Of.j1 k 2 [] false 2 ⟨#[]⟩) (fun k => by simp only [phalaroperef08_Of.j0]; rfl) (Ev.step (f := fun k => phalaroperef08_Of.j2 k [] true 2 ⟨#[]⟩) (fun k => by simp only [phalaroperef08_Of.j1]; rfl) (z2 [])))
    · have hpos : 0 < l.length := List.length_pos_iff.2 hl
      refine ⟨2, ⟨#[]⟩, l, [], mk _ _ _ _ true ?_, fun h => absurd (ht.symm.trans h) hl, fun _ => ⟨rfl, by decide, rfl, ⟨by decide, hm.2.1, by simp, hm.2.2.2.1, by simp⟩, fun _ => rfl⟩⟩
      rw [ht]
      refine Ev.congr (f := fun k => phalaroperef08_Of.j0 k 2 l false 2 ⟨#[]⟩) (fun k => rfl) (Ev.step (f := fun k => phalaroperef08_Of.j1 k 2 l true 2 ⟨#[]⟩) (fun k => ?_) (Ev.step (f := fun _ => some (2, ⟨#[]⟩, l, [], true)) (fun k => ?_) (Ev.now _)))
      · simp only [phalaroperef08_Of.j0]
        rw [if_neg (by decide), if_pos trivial, decide_eq_true (by omega)]
      · simp only [phalaroperef08_Of.j1]
        have := hm.2.1
        simp only [if_true, Option.bind_some, List.nil_append, List.length_nil]
        rw [if_pos (by omega)]
  by_cases h3 : vk = 3
  · subst h3
    have ht : textsOf 3 s l p = p.flatMap (fun x => [x.f0, x.f1]) := rfl
    have hl := pairs_len p
    by_cases hp : p = []
    · refine ⟨0, ⟨#[]⟩, [], [], mk _ _ _ _ false ?_, fun _ => rfl, fun h => absurd (by rw [ht, hp]; rfl) h⟩
      rw [ht, hp]
      exact Ev.congr (f := fun k => phalaroperef08_Of.j0 k 3 [] false 3 ⟨#[]⟩) (fun k => rfl) (Ev.step (f := fun k => phalaroperef08_Of.j1 k 3 [] false 3 ⟨#[]⟩) (fun k => by simp only [phalaroperef08_Of.j0]; rfl) (Ev.step (f := fun k => phalaroperef08_Of.j2 k [] true 3 ⟨#[]⟩) (fun k => by simp only [phalaroperef08_Of.j1]; rfl) (z2 [])))
    · have hpos : 0 < p.length := List.length_pos_iff.2 hp
      refine ⟨3, ⟨#[]⟩, [], p, mk _ _ _ _ true ?_, fun h => by rw [ht] at h; rw [h] at hl; simp at hl; omega, fun _ => ⟨rfl, by decide, rfl, ⟨by decide, by simp, hm.2.2.1, by simp, hm.2.2.2.2⟩, fun h => by cases h⟩⟩
      rw [ht]
      refine Ev.congr (f := fun k => phalaroperef08_Of.j0 k 3 (p.flatMap (fun x => [x.f0, x.f1])) false 3 ⟨#[]⟩) (fun k => rfl) (Ev.step (f := fun k => phalaroperef08_Of.j1 k 3 (p.flatMap (fun x => [x.f0, x.f1])) false 3 ⟨#[]⟩) (fun k => by simp only [phalaroperef08_Of.j0]; rfl) (Ev.step (f := fun k => phalaroperef08_Of.j2 k (p.flatMap (fun x => [x.f0, x.f1])) false 3 ⟨#[]⟩) (fun k => ?_) (Ev.step (f := fun k => phalaroperef08_Of.l0 k (p.flatMap (fun x => [x.f0, x.f1])) 0 3 ⟨#[]⟩ []) (fun k => ?_) ?_)))
      · simp only [phalaroperef08_Of.j1]
        rw [if_neg (by decide), if_pos trivial, if_neg (by omega), hl]
        congr 1
        rw [beq_eq_false_iff_ne]
        omega
      · simp only [phalaroperef08_Of.j2]
        rw [if_neg (by decide)]
      · have := evOf_l0 p hm.2.2.1 3 ⟨#[]⟩ p.length 0 (by omega)
        simpa using this
  · have ht : textsOf vk s l p = [] := by unfold textsOf; rw [if_neg h1, if_neg h2, if_neg h3]
    refine ⟨0, ⟨#[]⟩, [], [], mk _ _ _ _ false ?_, fun _ => rfl, fun h => absurd ht h⟩
    rw [ht]
    refine Ev.congr (f := fun k => phalaroperef08_Of.j0 k vk [] false vk ⟨#[]⟩) (fun k => if_neg h1) (Ev.step (f := fun k => phalaroperef08_Of.j1 k vk [] false vk ⟨#[]⟩) (fun k => ?_) (Ev.step (f := fun k => phalaroperef08_Of.j2 k [] true vk ⟨#[]⟩) (fun k => ?_) (z2 [])))
    · simp only [phalaroperef08_Of.j0]
      rw [if_neg (by decide), if_neg h2]
    · simp only [phalaroperef08_Of.j1]
      rw [if_neg (by decide), if_neg h3]
end Go.Proofs.Ytbjeegkmafbejaa.PE
end
section
namespace Go.Proofs.Ytbjeegkmafbejaa.PE
set_option linter.unusedSimpArgs false
set_option linter.unusedVariables false
open Go.RowKit Go.Joins Go.WideShapes Go.ChangeShapes Go.Proofs.YtbjeegkmafbejaaW.PrintWords X
theorem down_pair : Down Try.prog k69 (fun x => x.f0.size ≤ maxLen ∧ x.f1.size ≤ maxLen) 69 :=
  down_iso (fun p => ⟨p.1, p.2⟩) (fun _ => rfl) (down_struct Try.underlying69 (fdown_cons (down_string Try.underlying9) rfl (by kernel_rfl) (fdown_one (down_string Try.underlying9) rfl (by kernel_rfl))) (by kernel_rfl))
def valueK : Kd (Int × ByteArray × List ByteArray × List S69) := Kd.pair (Kd.int .i64) (Kd.pair Kd.string (Kd.pair (Kd.slice 9 Kd.string) (Kd.slice 69 k69)))
set_option maxRecDepth 100000 in
theorem down_value : Down Try.prog valueK (fun x => (Lit.int .i64 x.1).wf = true ∧ x.2.1.size ≤ maxLen ∧ (∀ y ∈ x.2.2.1, y.size ≤ maxLen) ∧ ∀ y ∈ x.2.2.2, y.f0.size ≤ maxLen ∧ y.f1.size ≤ maxLen) 27 :=
  down_struct Try.underlying27 (fdown_cons (down_int Try.underlying3) rfl (by kernel_rfl) (fdown_cons (down_string Try.underlying9) rfl (by kernel_rfl) (fdown_cons (down_slice Try.underlying24 (down_string Try.underlying9) (by kernel_rfl)) rfl (by kernel_rfl) (fdown_one (down_slice Try.underlying25 down_pair (by kernel_rfl)) rfl (by kernel_rfl))))) (by kernel_rfl)
set_option maxRecDepth 100000 in
theorem arg_value {H : Type} {enc : TypeId × Value → H} {w : World} {r : Reach} {b0 base : Nat} {spare : Nat → Bool} {held : Bool} {v : Value} {x : DataW H} {p : List MemPlace} (hv : Value.okWide Try.prog w r b0 27 v) (h : DataW.Trod enc Try.prog w base spare held 27 v x p) :
    ∃ (k : Int) (s : ByteArray) (A0 : Option Addr) (l : List ByteArray) (c0 : Nat) (A1 : Option Addr) (q : List S69) (c1 : Nat), v = .agg #[.int .i64 k, .string s, .slice A0 l.length c0, .slice A1 q.length c1] ∧ (Lit.int .i64 k).wf = true ∧
      Kd.C Kd.string w A0 l.length l ∧ l.length ≤ c0 ∧ Kd.C k69 w A1 q.length q ∧ q.length ≤ c1 := by
  obtain ⟨⟨k, s, l, q⟩, cs, rfl, ⟨_, _, e, rfl, _, _, rfl, rfl, _, _, rfl, ⟨A0, c0, rfl, hl, hr⟩, ⟨A1, c1, rfl, hq, hs⟩⟩, hk, _⟩ := arg_struct Try.underlying27 down_value hv h
  refine ⟨k, s, A0, l, c0, A1, q, c1, ?_, hk, hr, hl, hs, hq⟩
  have : cs = #[.int .i64 k, .string s, .slice A0 l.length c0, .slice A1 q.length c1] := by rw [← Array.toArray_toList (xs := cs), e]; rfl
  rw [this]
end Go.Proofs.Ytbjeegkmafbejaa.PE
end
section
namespace Go.Proofs.Ytbjeegkmafbejaa.PE
set_option linter.unusedSimpArgs false
set_option linter.unusedVariables false
open Go.RowKit Go.Proofs.YtbjeegkmafbejaaW.PrintWords Go.Proofs.YtbjeegkmafbejaaW.PrintLast Go.Joins Y
def ruleO (op : Int) : Obj := .cells #[.string (X.ruleFirst op), .string (X.ruleSep op), .bool (X.ruleNamed op), .string (X.ruleEmpty op), .bool (X.ruleKeep op)] 37 (0, 0)
theorem FewV.smallP {s : ByteArray} {l : List ByteArray} {p : List S69} (h : FewV s l p) : smallP p := fun x hx => by have := h.2.2.2.2 x hx; omega
theorem oneV_f (op : Int) (nm : ByteArray) (mx : Int) (st : Bool) (vk : Int) (s : ByteArray) (l : List ByteArray) (p : List S69) (h0 : 0 ≤ op) (h1 : op ≤ 255) (hn : nm.size ≤ 200) (hf : FewV s l p) : piece_One.f op nm mx st vk s l p = some (oneV op nm mx st vk s l p) := by
  unfold piece_One.f
  rw [if_pos ⟨hf.modest, h0, h1, by omega, hf.smallP⟩]
theorem posN_all (v : ByteArray) (k : Nat) : ∀ p, p ≤ v.size → v.size ≤ p + k → X.posN v k p = v.size := by
  induction k with
  | zero => intro p h1 h2; show p = v.size; omega
  | succ k ih =>
    intro p h1 h2
    by_cases h : p < v.size
    · have d1 := decode_in v p h
      have d2 := decode_pos v p
      rw [X.posN, if_pos h]
      exact ih _ d1 (by omega)
    · rw [X.posN_end v _ p h]; omega
theorem prefix_all (s : ByteArray) (m : Nat) (hv : validS s = true) (hm : s.size ≤ m) : X.prefixS s m = s := by
  have hb : badPos s = s.size := by
    have := X.badPos_le s
    unfold validS at hv
    rw [decide_eq_true_eq] at hv
    omega
  have he : s.extract 0 s.size = s := by simp
  unfold X.prefixS
  rw [hb, he, posN_all s m 0 (by omega) (by omega), he]
theorem joinB_one (x sep : ByteArray) : X.joinB [x] sep = x := by
  unfold X.joinB
  rw [List.map_cons, List.map_nil, Lib.join_one]
section
variable (op : Int) (nm : ByteArray) (vk : Int) (s : ByteArray) (l : List ByteArray) (p : List S69)
theorem sMay_any (hn : nameMay nm = true) : sMay nm 0 false = true ∧ sMay nm 0 true = true ∧ sMay nm 9999 false = true := by
  unfold sMay
  rw [hn]
  exact ⟨rfl, rfl, rfl⟩
theorem star_nil (ho : X.isOper op = true) (hn : nameMay nm = true) (ht : textsOf vk s l p = []) : oneV op nm 0 false vk s l p = (⟨#[]⟩, false, 0) ∧ oneV op nm 0 true vk s l p = (⟨#[]⟩, false, 0) ∧ oneV op nm 9999 false vk s l p = (⟨#[]⟩, false, 0) := by
  obtain ⟨m1, m2, m3⟩ := sMay_any nm hn
  unfold oneV
  rw [m1, m2, m3, ho, ht]
  exact ⟨rfl, rfl, rfl⟩
theorem star_text (ho : X.isOper op = true) (hn : nameMay nm = true) (hs : s.size ≤ 200) : ∃ x d e, oneV op nm 0 false 1 s l p = (x, d, e) ∧ oneV op nm 0 true 1 s l p = (x, d, e) ∧ oneV op nm 9999 false 1 s l p = (x, d, e) := by
  obtain ⟨m1, m2, m3⟩ := sMay_any nm hn
  rw [oneV_text, oneV_text, oneV_text]
  unfold oneT
  rw [m1, m2, m3, ho]
  cases hv : validS s with
  | false => exact ⟨_, _, _, rfl, rfl, rfl⟩
  | true =>
    have : X.textS op nm 9999 s = X.textS op nm 0 s := by
      unfold X.textS
      rw [if_pos (by decide), if_neg (by decide), prefix_all s _ hv (by show s.size ≤ 9999; omega)]
    rw [this]
    exact ⟨_, _, _, rfl, rfl, rfl⟩
theorem star_more (ho : X.isOper op = true) (hn : nameMay nm = true) (ht : textsOf vk s l p ≠ []) (h1 : vk ≠ 1) : ∃ xa xb d e, oneV op nm 0 false vk s l p = (xa, d, e) ∧ oneV op nm 0 true vk s l p = (xb, d, e) ∧ oneV op nm 9999 false vk s l p = (⟨#[]⟩, false, 4) ∧ (vk = 2 → l.length = 1 → X.ruleNamed op = false → xa = xb) := by
  obtain ⟨m1, m2, m3⟩ := sMay_any nm hn
  have ho' : (X.isOper op && true) = true := by rw [ho]; rfl
  have c9 : oneV op nm 9999 false vk s l p = (⟨#[]⟩, false, 4) := by unfold oneV; rw [m3, ho', if_pos rfl, if_neg ht, if_pos ⟨by decide, h1⟩]
  have ca : oneV op nm 0 false vk s l p = if validV vk s l p = true then (X.wholeS op nm (textsOf vk s l p), true, 0) else (⟨#[]⟩, false, 3) := by unfold oneV; rw [m1, ho', if_pos rfl, if_neg ht, if_neg (fun h => absurd h.1 (by decide)), if_neg h1, if_neg (by decide : ¬ false = true)]
  have cb : oneV op nm 0 true vk s l p = if validV vk s l p = true then (X.starS op nm vk l (pairsOf p), true, 0) else (⟨#[]⟩, false, 3) := by unfold oneV; rw [m2, ho', if_pos rfl, if_neg ht, if_neg (fun h => absurd h.1 (by decide)), if_neg h1, if_pos rfl]
  rw [ca, cb, c9]
  cases hv : validV vk s l p with
  | false => exact ⟨_, _, _, _, rfl, rfl, rfl, fun _ _ _ => rfl⟩
  | true =>
    refine ⟨_, _, _, _, rfl, rfl, rfl, fun h2 hl hnm => ?_⟩
    subst h2
    obtain ⟨x, rfl⟩ := List.length_eq_one_iff.1 hl
    have hnm' : ¬ X.ruleNamed op = true := by rw [hnm]; decide
    have e1 : X.wholeS op nm (textsOf 2 s [x] p) = X.encS (X.ruleKeep op) x := by
      unfold X.wholeS
      rw [if_neg hnm']
      exact joinB_one _ _
    have e2 : X.starS op nm 2 [x] (pairsOf p) = X.encS (X.ruleKeep op) x := by
      unfold X.starS
      rw [if_pos rfl, List.map_cons, List.map_nil, joinB_one]
      unfold X.itemS X.maybeS
      rw [if_neg hnm']
    rw [e1, e2]
end
def specO (nm : ByteArray) (mx : Int) (st : Bool) : Obj := .cells #[.string nm, .int .i64 mx, .bool st] 23 (0, 0)
set_option maxHeartbeats 8000000 in
set_option maxRecDepth 100000 in
theorem PieceStar_walk {op : Int} {nm : ByteArray} {mx : Int} {st : Bool} {vk : Int} {s : ByteArray} {A0 : Option Addr} {l : List ByteArray} {c0 : Nat} {A1 : Option Addr} {p : List S69} {c1 : Nat} (w : World) (o0 : 0 ≤ op) (o1 : op ≤ 255) (h0 : Kd.C Kd.string w A0 l.length l) (h1 : l.length ≤ c0) (h2 : Kd.C k69 w A1 p.length p) (h3 : p.length ≤ c1) :
    Calls Try.prog 5 #[.int .u8 op, .agg #[.string nm, .int .i64 mx, .bool st], .agg #[.int .i64 vk, .string s, .slice A0 l.length c0, .slice A1 p.length c1]] w fun e w' => e = .returned (.bool true) ∧ Below w.heap.size w w' := by
  obtain ⟨b, hb1, hb2⟩ := evFew nm mx st vk s l p
  obtain ⟨kf, hkf⟩ := hb1.rounds
  have HF := Aside0.mk hkf
  have HFW := Aside0.mk hb2
  have HR2 := Aside0.mk h0
  have HR3 := Aside0.mk h2
  have HOF := Aside0.mk (show phalaroperef10_Of.f op = some (X.ruleFirst op, X.ruleSep op, X.ruleNamed op, X.ruleEmpty op, X.ruleKeep op, X.isOper op) from if_pos ⟨o0, o1⟩)
  clear hb1 hkf hb2 h0 h2
  go_enter Try.func5, Try.ntmps5
  go_wp2_with fail
  refine (phalaropelaw11_awake.calls true _ awake_f).mono ?_
  rintro e w1 ⟨rfl, hb⟩
  have HSP := Aside0.mk (blk_below (blk_alloc (blk_new w _) _) hb)
  have HVL := Aside0.mk (blk_below (X.blk_new2 w _ _) hb)
  have HB := Aside0.mk (below_step (w := w) (X.below_new2 w _ _) hb)
  clear hb
  go_wp2_with fail
  refine (phalaroperef10_Of.calls op _ _ _ _ _ _ _ HOF.out).mono ?_
  rintro e w2 ⟨rfl, hb⟩
  have S1 := Aside0.mk (blk_alloc (blk_below HSP.out hb) (ruleO op))
  have S2 := Aside0.mk (blk_alloc (blk_below HVL.out hb) (ruleO op))
  have S4 := Aside0.mk (blk_new w2 (ruleO op))
  have S5 := Aside0.mk (below_alloc (below_step HB.out hb) (ruleO op))
  clear hb HSP HVL HB
  unfold ruleO at S1 S2 S4 S5
  obtain ⟨p0, p1, p2⟩ := cells3_ S1.out
  obtain ⟨d0, d1, d2, d3⟩ := cells4_ S2.out
  go_wp2_with fail
  refine (phalaropelaw11_few.calls kf nm mx st vk s A0 c0 l A1 c1 p b _ (Kd.C_below HR2.out S5.out) h1 (Kd.C_below HR3.out S5.out) h3 HF.out).mono ?_
  rintro e w3 ⟨rfl, hb⟩
  have T1 := Aside0.mk (blk_below S1.out hb)
  have T2 := Aside0.mk (blk_below S2.out hb)
  have T4 := Aside0.mk (blk_below S4.out hb)
  have T5 := Aside0.mk (below_step S5.out hb)
  clear hb p0 p1 p2 d0 d1 d2 d3 S1 S2 S4 S5
  cases b with
  | false =>
    go_wp2_with fail
    go_ret
    exact ⟨rfl, T5.out⟩
  | true =>
    obtain ⟨hn, hfew⟩ := HFW.out rfl
    cases hop : X.isOper op with
    | false =>
      clear hop
      go_wp2_with fail
      go_ret
      exact ⟨rfl, T5.out⟩
    | true =>
      obtain ⟨km, hkm⟩ := (evMay nm mx st).rounds
      have HMY := Aside0.mk hkm
      clear hkm
      obtain ⟨p0, p1, p2⟩ := cells3_ T1.out
      go_wp2_with fail
      refine (phalaroperef06_May.calls km nm mx st _ _ HMY.out).mono ?_
      rintro e w4 ⟨rfl, hb⟩
      have U1 := Aside0.mk (blk_below T1.out hb)
      have U2 := Aside0.mk (blk_below T2.out hb)
      have U4 := Aside0.mk (blk_below T4.out hb)
      have U5 := Aside0.mk (below_step T5.out hb)
      clear hb p0 p1 p2 T1 T2 T4 T5
      cases hmy : sMay nm mx st with
      | false =>
        clear hmy
        go_wp2_with fail
        go_ret
        exact ⟨rfl, U5.out⟩
      | true =>
        have hnm : nameMay nm = true := by
          have h := hmy
          unfold sMay at h
          rw [Bool.and_eq_true] at h
          exact h.1
        obtain ⟨xa, da, ea, hA⟩ : ∃ x d e, oneV op nm 0 false vk s l p = (x, d, e) := ⟨_, _, _, rfl⟩
        obtain ⟨xb, db, eb, hB⟩ : ∃ x d e, oneV op nm 0 true vk s l p = (x, d, e) := ⟨_, _, _, rfl⟩
        obtain ⟨xc, dc, ec, hC⟩ : ∃ x d e, oneV op nm 9999 false vk s l p = (x, d, e) := ⟨_, _, _, rfl⟩
        have HA := Aside0.mk ((oneV_f op nm 0 false vk s l p o0 o1 hn hfew).trans (congrArg some hA))
        have HBB := Aside0.mk ((oneV_f op nm 0 true vk s l p o0 o1 hn hfew).trans (congrArg some hB))
        have HCC := Aside0.mk ((oneV_f op nm 9999 false vk s l p o0 o1 hn hfew).trans (congrArg some hC))
        have HA' := Aside0.mk hA
        have HB' := Aside0.mk hB
        have HC' := Aside0.mk hC
        have HOP := Aside0.mk hop
        clear hA hB hC hop hmy
        have Q1 := Aside0.mk (blk_alloc (blk_alloc (blk_new w4 (specO nm 0 false)) (specO nm 0 true)) (specO nm 9999 false))
        have Q2 := Aside0.mk (blk_alloc (X.blk_new2 w4 (specO nm 0 false) (specO nm 0 true)) (specO nm 9999 false))
        have Q3 := Aside0.mk (X.blk_new3 w4 (specO nm 0 false) (specO nm 0 true) (specO nm 9999 false))
        have Q4 := Aside0.mk (blk_alloc (blk_alloc (blk_alloc U4.out (specO nm 0 false)) (specO nm 0 true)) (specO nm 9999 false))
        have Q6 := Aside0.mk (blk_alloc (blk_alloc (blk_alloc U2.out (specO nm 0 false)) (specO nm 0 true)) (specO nm 9999 false))
        have Q5 := Aside0.mk (below_alloc (below_alloc (below_alloc U5.out (specO nm 0 false)) (specO nm 0 true)) (specO nm 9999 false))
        have a1 := (cells3_ U1.out).1
        have a2 := (cells3_ (blk_alloc U1.out (specO nm 0 false))).1
        have a3 := (cells3_ (blk_alloc (blk_alloc U1.out (specO nm 0 false)) (specO nm 0 true))).1
        unfold specO at Q1 Q2 Q3 Q4 Q5 Q6 a2 a3
        obtain ⟨p0, p1, p2⟩ := cells3_ Q1.out
        obtain ⟨d0, d1, d2, d3⟩ := cells4_ Q6.out
        clear U1 U2 U4 U5
        go_wp2_with fail
        refine (piece_One.calls op nm 0 false vk s A0 c0 l A1 c1 p xa da ea _ (Kd.C_below HR2.out Q5.out) h1 (Kd.C_below HR3.out Q5.out) h3 HA.out).mono ?_
        rintro e w5 ⟨rfl, hb⟩
        have R2 := Aside0.mk (blk_below Q2.out hb)
        have R3 := Aside0.mk (blk_below Q3.out hb)
        have R4 := Aside0.mk (blk_below Q4.out hb)
        have R6 := Aside0.mk (blk_below Q6.out hb)
        have R5 := Aside0.mk (below_step Q5.out hb)
        clear hb a1 a2 a3 p0 p1 p2 d0 d1 d2 d3 Q1 Q2 Q3 Q4 Q5 Q6
        obtain ⟨p0, p1, p2⟩ := cells3_ R2.out
        obtain ⟨d0, d1, d2, d3⟩ := cells4_ R6.out
        go_wp2_with fail
        refine (piece_One.calls op nm 0 true vk s A0 c0 l A1 c1 p xb db eb _ (Kd.C_below HR2.out R5.out) h1 (Kd.C_below HR3.out R5.out) h3 HBB.out).mono ?_
        rintro e w6 ⟨rfl, hb⟩
        have V3 := Aside0.mk (blk_below R3.out hb)
        have V4 := Aside0.mk (blk_below R4.out hb)
        have V6 := Aside0.mk (blk_below R6.out hb)
        have V5 := Aside0.mk (below_step R5.out hb)
        clear hb p0 p1 p2 d0 d1 d2 d3 R2 R3 R4 R5 R6
        obtain ⟨p0, p1, p2⟩ := cells3_ V3.out
        obtain ⟨d0, d1, d2, d3⟩ := cells4_ V6.out
        go_wp2_with fail
        refine (piece_One.calls op nm 9999 false vk s A0 c0 l A1 c1 p xc dc ec _ (Kd.C_below HR2.out V5.out) h1 (Kd.C_below HR3.out V5.out) h3 HCC.out).mono ?_
        rintro e w7 ⟨rfl, hb⟩
        have W4 := Aside0.mk (blk_below V4.out hb)
        have W6 := Aside0.mk (blk_below V6.out hb)
        have W5 := Aside0.mk (below_step V5.out hb)
        clear hb p0 p1 p2 d0 d1 d2 d3 V3 V4 V5 V6
        obtain ⟨k1, k2, k3, k4, hev, hz, hnz⟩ := canon_f vk s l p hfew.modest
        obtain ⟨kc, hkc⟩ := hev.rounds
        have HKC := Aside0.mk hkc
        have HZ := Aside0.mk hz
        have HNZ := Aside0.mk hnz
        clear hev hkc hz hnz
        obtain ⟨d0, d1, d2, d3⟩ := cells4_ W6.out
        go_wp2_with fail
        refine (phalaroperef08_Canon.calls kc vk s A0 c0 l A1 c1 p k1 k2 k3 k4 _ (Kd.C_below HR2.out W5.out) h1 (Kd.C_below HR3.out W5.out) h3 HKC.out).mono ?_
        rintro e w8 ⟨v2, v3, rfl, hv2, hv3, hb⟩
        obtain ⟨B2, n2, rfl, hn2, hC2⟩ := Kd.R_reads hv2
        obtain ⟨B3, n3, rfl, hn3, hC3⟩ := Kd.R_reads hv3
        have Y1 := Aside0.mk (blk_alloc (blk_below W4.out hb) (.cells #[.int .i64 k1, .string k2, .slice B2 k3.length n2, .slice B3 k4.length n3] 27 (0, 0)))
        have Y3 := Aside0.mk (blk_new w8 (.cells #[.int .i64 k1, .string k2, .slice B2 k3.length n2, .slice B3 k4.length n3] 27 (0, 0)))
        have Y5 := Aside0.mk (below_alloc (below_step W5.out hb) (.cells #[.int .i64 k1, .string k2, .slice B2 k3.length n2, .slice B3 k4.length n3] 27 (0, 0)))
        clear hb hv2 hv3 hC2 hC3 d0 d1 d2 d3 W4 W5 W6
        obtain ⟨r0, r1, r2, r3, r4⟩ := X.cells5 Y1.out
        obtain ⟨d0, d1, d2, d3⟩ := cells4_ Y3.out
        clear HA HBB HCC
        by_cases hnil : textsOf vk s l p = []
        · obtain ⟨f1, f2, f3⟩ := star_nil op nm vk s l p HOP.out hnm hnil
          rw [HA'.out, Prod.mk.injEq, Prod.mk.injEq] at f1
          rw [HB'.out, Prod.mk.injEq, Prod.mk.injEq] at f2
          rw [HC'.out, Prod.mk.injEq, Prod.mk.injEq] at f3
          obtain ⟨rfl, rfl, rfl⟩ := f1
          obtain ⟨rfl, rfl, rfl⟩ := f2
          obtain ⟨rfl, rfl, rfl⟩ := f3
          obtain rfl := HZ.out hnil
          clear hnil
          go_wp2_with fail
          go_ret
          exact ⟨rfl, Y5.out⟩
        · obtain ⟨rfl, hk0, _, _, hk2⟩ := HNZ.out hnil
          by_cases hk1 : k1 = 1
          · subst hk1
            obtain ⟨x, d, e, f1, f2, f3⟩ := star_text op nm s l p HOP.out hnm (by have := hfew.1; exact this)
            rw [HA'.out, Prod.mk.injEq, Prod.mk.injEq] at f1
            rw [HB'.out, Prod.mk.injEq, Prod.mk.injEq] at f2
            rw [HC'.out, Prod.mk.injEq, Prod.mk.injEq] at f3
            obtain ⟨rfl, rfl, rfl⟩ := f1
            obtain ⟨rfl, rfl, rfl⟩ := f2
            obtain ⟨rfl, rfl, rfl⟩ := f3
            clear hnil
            go_wp2_with fail
            go_ret
            exact ⟨rfl, Y5.out⟩
          · obtain ⟨xa', xb', d, e, f1, f2, f3, hsame⟩ := star_more op nm k1 s l p HOP.out hnm hnil hk1
            rw [HA'.out, Prod.mk.injEq, Prod.mk.injEq] at f1
            rw [HB'.out, Prod.mk.injEq, Prod.mk.injEq] at f2
            rw [HC'.out, Prod.mk.injEq, Prod.mk.injEq] at f3
            obtain ⟨rfl, rfl, rfl⟩ := f1
            obtain ⟨rfl, rfl, rfl⟩ := f2
            obtain ⟨rfl, rfl, rfl⟩ := f3
            have g1 : (k1 == 1) = false := beq_eq_false_iff_ne.2 hk1
            have g0 : (k1 == 0) = false := beq_eq_false_iff_ne.2 hk0
            clear hnil
            by_cases h2 : k1 = 2
            · subst h2
              obtain rfl := hk2 rfl
              by_cases hl : k3.length = 1
              · have gl : ((k3.length : Int) != 1) = false := bne_eq_false_iff_eq.2 (by omega)
                have gl2 : ((k3.length : Int) == 1) = true := beq_iff_eq.2 (by omega)
                cases hnd : X.ruleNamed op with
                | true =>
                  rw [hnd] at r2
                  clear hsame hl
                  go_wp2_with fail
                  go_ret
                  exact ⟨rfl, Y5.out⟩
                | false =>
                  rw [hnd] at r2
                  obtain rfl := hsame rfl hl hnd
                  clear hsame hl
                  go_wp2_with fail
                  go_ret
                  exact ⟨rfl, Y5.out⟩
              · have gl : ((k3.length : Int) != 1) = true := bne_iff_ne.2 (by omega)
                have gl2 : ((k3.length : Int) == 1) = false := beq_eq_false_iff_ne.2 (by omega)
                clear hsame
                go_wp2_with fail
                go_ret
                exact ⟨rfl, Y5.out⟩
            · have g2 : (k1 != 2) = true := bne_iff_ne.2 h2
              clear hsame
              go_wp2_with fail
              go_ret
              exact ⟨rfl, Y5.out⟩
end Go.Proofs.Ytbjeegkmafbejaa.PE
end
section
namespace Go.Proofs.Ytbjeegkmafbejaa.pieceStar
open Go.ChangeShapes Go.WideShapes Go.ChangeAt Go.RowKit
open Go.ChangeMaps (open_string shut_string)
set_option linter.unusedVariables false
theorem own : ownKnob Try.prog.godebug = none := by kernel_rfl
theorem laidOut : laidOutB Try.prog = true := by kernel_rfl
set_option maxRecDepth 100000 in
theorem lifted (os : Os) (started : os.Started) (H : Type) (enc : TypeId × Value → H) :
    ReturnsInHanded {} Try.checked os 5 .any (Rows.pieceStarSpec.pre6 enc Try.prog Try.f5 Rows.pieceStarRow.domain false) (Rows.pieceStarSpec.post enc Try.prog Try.f5 false true false false) := by
  refine returnsInHanded_of_change_sized (C := Try.checked) own started (by kernel_rfl) Try.func5
    (ChangeSpec.witness6 (enc := enc) (C := Try.checked) false ⟨#[], #[.int .u8 0, .agg #[.string ByteArray.empty, .int .i64 0, .bool false], .agg #[.int .i64 0, .string ByteArray.empty, .slice none 0 0, .slice none 0 0]], []⟩ 8 (by kernel_rfl) (by kernel_rfl) (by kernel_rfl) (by kernel_rfl)) ?_
  intro W base args ds gs before hval0 hW hcnd _ _
  have hval : ∀ (j : Nat) t v, Try.f5.params[j]? = some t → args[j]? = some v → Value.okWide Try.prog W .any base t v := hval0
  have hW' := hW
  obtain ⟨p, q, hA0, hV, rfl, hfz, hnd⟩ := hW
  have hA : DataW.TrodAll enc Try.prog W 0 (fun _ => true) true Try.f5.params.toList args.toList ds p := hA0
  rw [Try.params5] at hA hval
  obtain ⟨v0, vs0, d0, ds0, p0, r0, hargs, rfl, rfl, h0, t0⟩ := trodAll_cons hA
  obtain ⟨v1, vs1, d1, ds1, p1, r1, rfl, rfl, rfl, h1, t1⟩ := trodAll_cons t0
  obtain ⟨v2, vs2, d2, ds2, p2, r2, rfl, rfl, rfl, h2, t2⟩ := trodAll_cons t1
  obtain ⟨rfl, rfl, rfl⟩ := trodAll_nil t2
  obtain rfl : args = #[v0, v1, v2] := by cases args; simp_all
  obtain ⟨rfl, rfl⟩ := trodVars_none hV
  have k0 := h0
  have lt0 : ∀ x ∈ p0, x.block < W.heap.size := by obtain ⟨m, hm⟩ := k0; exact DataW.trod_lt m _ _ _ hm
  obtain ⟨a0, rfl, rfl, rfl, w0⟩ := open_int Try.underlying5 (hval 0 5 v0 rfl rfl) h0
  have k1 := h1
  have lt1 : ∀ x ∈ p1, x.block < W.heap.size := by obtain ⟨m, hm⟩ := k1; exact DataW.trod_lt m _ _ _ hm
  obtain ⟨nm1, m1, st1, rfl, y1, wm1⟩ := PE.arg_spec (hval 1 23 v1 rfl rfl) h1
  have k2 := h2
  have lt2 : ∀ x ∈ p2, x.block < W.heap.size := by obtain ⟨m, hm⟩ := k2; exact DataW.trod_lt m _ _ _ hm
  obtain ⟨k2_, s2, A2, l2, c2, B2, q2, e2, rfl, wk2, hl2, hc2, hq2, he2⟩ := PE.arg_value (hval 2 27 v2 rfl rfl) h2
  refine (PE.PieceStar_walk W (PE.u8_in w0).1 (PE.u8_in w0).2 hl2 hc2 hq2 he2).mono fun e W' ⟨he, bel⟩ => ?_
  subst he
  exact ⟨_, rfl, _, _, _, [], _, [], hW', trodAll_mk1 (shut_bool Try.underlying4 _), (trodAll_cons_mk (Below.trod laidOut (by kernel_rfl) (of_decide_eq_true (by kernel_rfl)) k0 bel lt0) (trodAll_cons_mk (Below.trod laidOut (by kernel_rfl) (of_decide_eq_true (by kernel_rfl)) k1 bel lt1) (trodAll_cons_mk (Below.trod laidOut (by kernel_rfl) (of_decide_eq_true (by kernel_rfl)) k2 bel lt2) trodAll_mk0))), rfl, bel.frame _, fun h => by cases h⟩
theorem over : Rows.pieceStarRow.holds Try.pinned (OpenSpec.ofChange Rows.pieceStarSpec) :=
  OpenClaim.holds_of_wide 5 Try.f5 rfl rfl rfl rfl rfl rfl rfl ⟨rfl, rfl, rfl, rfl, rfl⟩ rfl rfl rfl rfl rfl (by kernel_rfl) Try.func5 (by kernel_rfl)
    (of_decide_eq_true (by kernel_rfl)) (by unfold Func.isWrapper; first | (rw [if_pos (by decide +kernel)]; kernel_rfl) | (rw [if_neg (by decide +kernel)]; exact ⟨rfl, rfl⟩))
    (fun os started H enc _ => lifted os started H enc)
end Go.Proofs.Ytbjeegkmafbejaa.pieceStar
namespace Go.Proofs.Ytbjeegkmafbejaa
theorem pieceStar_holds : Rows.PieceStarSaid := pieceStar.over
#print axioms pieceStar_holds
end Go.Proofs.Ytbjeegkmafbejaa
end
