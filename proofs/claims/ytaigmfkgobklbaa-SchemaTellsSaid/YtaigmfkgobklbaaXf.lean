/- schema.fits and the closure of schema.In. -/
import Derived.Test.YtaigmfkgobklbaaXh
import Derived.Test.YtaigmfkgobklbaaXu
import Derived.Test.YtaigmfkgobklbaaXs
import Derived.Shelf.Abstract
namespace Go.Proofs.Ytaigmfkgobklbaa.X
set_option linter.unusedSimpArgs false
set_option linter.unusedVariables false
open Go.RowKit Go.Proofs.YtaigmfkgobklbaaW.PrintWords Go.Proofs.Ytaigmfkgobklbaa.Y
/-- Is a text as a class and a bound say? -/
def fitsS (k mx : Int) (s : ByteArray) : Bool := validS s && ((mx == 0 || decide (((chars s).length : Int) ≤ mx)) && !(chars s).any fun c => !hasC k c)
/-- A variable of a schema, as a value. -/
def varV (nm : ByteArray) (kd : Int) (need : Bool) (cl mx : Int) : Value := .agg #[.string nm, .int .i64 kd, .bool need, .int .i64 cl, .int .i64 mx]
def varC (nm : ByteArray) (kd : Int) (need : Bool) (cl mx : Int) : Array Value := #[.string nm, .int .i64 kd, .bool need, .int .i64 cl, .int .i64 mx]
theorem enters_fits1 : Enters Try.prog 43 := enters_of Try.func43 (by kernel_rfl) rfl
theorem enters_In1 : Enters Try.prog 22 := enters_of Try.func22 (by kernel_rfl) rfl

set_option maxHeartbeats 800000 in
theorem fits1_tells (B : Nat) (w : World) (nm : ByteArray) (kd : Int) (need : Bool) (cl mx : Int) (hB : w.heap[B]? = some (.cells (varC nm kd need cl mx) 23 (0, 0))) (l : List Int) :
    Tells Try.prog 43 #[.pointer (some ⟨B, 0, none⟩)] w (Value.int .i64) l (fun c => !hasC cl c) := by
  refine ⟨enters_fits1, fun c W hb _ => ?_⟩
  have hc : W.cell? ⟨B, 3, none⟩ = some (.int .i64 cl) := (blk_cell (blk_below hB hb) 3).trans rfl
  clear hB hb
  show Calls Try.prog 43 #[.int .i64 c, .pointer (some ⟨B, 0, none⟩)] W _
  go_enter Try.func43, Try.ntmps43
  go_wp2_with fail
  refine (schemaHas_any cl c _).mono ?_
  rintro e w1 ⟨rfl, hb1⟩
  have HB := Aside0.mk hb1
  clear hb1
  go_wp2_with fail
  go_ret
  exact ⟨rfl, HB.out⟩

set_option maxHeartbeats 1600000 in
theorem fits_any (nm : ByteArray) (kd : Int) (need : Bool) (cl mx : Int) (s : ByteArray) (w : World) (hs : s.size ≤ 1000000) :
    Calls Try.prog 23 #[varV nm kd need cl mx, .string s] w fun e w' => e = .returned (.bool (fitsS cl mx s)) ∧ Below w.heap.size w w' := by
  unfold varV
  have hlen : (chars s).length ≤ 1000000 := Nat.le_trans (chars_length s) hs
  cases hv : validS s with
  | false =>
    have HF := Aside0.mk (show fitsS cl mx s = false by unfold fitsS; rw [hv]; rfl)
    have HV := Aside0.mk hv
    clear hv
    go_enter Try.func23, Try.ntmps23
    go_wp2_with fail
    refine (chars_any s _ hs).mono ?_
    rintro e w1 ⟨v, rfl, hr, hb⟩
    have HB := Aside0.mk ((below_new1 w _).trans (hb.mono (Nat.le_of_lt (by simp))))
    rw [HV.out]
    obtain ⟨A, c, rfl⟩ := Kd.R_slice hr
    clear hr hb
    go_wp2_with fail
    go_ret
    exact ⟨by rw [HF.out]; rfl, HB.out⟩
  | true =>
    have HV := Aside0.mk hv
    clear hv
    by_cases hm : mx = 0 ∨ ((chars s).length : Int) ≤ mx
    · have HF := Aside0.mk (show fitsS cl mx s = !(chars s).any fun c => !hasC cl c by
        unfold fitsS; rw [HV.out]
        have : (mx == 0 || decide (((chars s).length : Int) ≤ mx)) = true := by rw [Bool.or_eq_true, beq_iff_eq, decide_eq_true_iff]; exact hm
        rw [this]; rfl)
      have HM := Aside0.mk hm
      clear hm
      go_enter Try.func23, Try.ntmps23
      go_wp2_with fail
      refine (chars_any s _ hs).mono ?_
      rintro e w1 ⟨v, rfl, hr, hb⟩
      have hbx := blk_below (blk_new w _) hb
      have c4 : w1.cell? ⟨w.heap.size, 4, none⟩ = some (.int .i64 mx) := (blk_cell hbx 4).trans rfl
      have HBX := Aside0.mk hbx
      have HB := Aside0.mk ((below_new1 w _).trans (hb.mono (Nat.le_of_lt (by simp))))
      rw [HV.out]
      rw [charsOr_yes HV.out] at hr
      obtain ⟨A, n, rfl, hle, hr⟩ := Kd.R_reads hr
      have HR := Aside0.mk hr
      clear hr hb hbx
      rcases HM.out with hm | hm
      · subst hm
        go_wp2_with fail
        refine (containsFunc_int _ _ _ _ _ _ _ hlen HR.out (fits1_tells w.heap.size _ nm kd need cl 0 HBX.out _)).mono ?_
        rintro e w2 ⟨rfl, hb2⟩
        have HB2 := Aside0.mk (below_step HB.out hb2)
        clear hb2
        go_wp2_with fail
        go_ret
        exact ⟨by rw [HF.out]; rfl, HB2.out⟩
      · have hm' : decide (((chars s).length : Int) ≤ mx) = true := decide_eq_true hm
        by_cases h0 : mx = 0
        · subst h0
          go_wp2_with fail
          refine (containsFunc_int _ _ _ _ _ _ _ hlen HR.out (fits1_tells w.heap.size _ nm kd need cl 0 HBX.out _)).mono ?_
          rintro e w2 ⟨rfl, hb2⟩
          have HB2 := Aside0.mk (below_step HB.out hb2)
          clear hb2
          go_wp2_with fail
          go_ret
          exact ⟨by rw [HF.out]; rfl, HB2.out⟩
        · have h0' : (mx == 0) = false := beq_eq_false_iff_ne.2 h0
          go_wp2_with fail
          refine (containsFunc_int _ _ _ _ _ _ _ hlen HR.out (fits1_tells w.heap.size _ nm kd need cl mx HBX.out _)).mono ?_
          rintro e w2 ⟨rfl, hb2⟩
          have HB2 := Aside0.mk (below_step HB.out hb2)
          clear hb2
          go_wp2_with fail
          go_ret
          exact ⟨by rw [HF.out]; rfl, HB2.out⟩
    · have h0' : (mx == 0) = false := beq_eq_false_iff_ne.2 (fun e => hm (.inl e))
      have hm' : decide (((chars s).length : Int) ≤ mx) = false := decide_eq_false (fun e => hm (.inr e))
      have HF := Aside0.mk (show fitsS cl mx s = false by unfold fitsS; rw [HV.out, h0', hm']; rfl)
      clear hm
      go_enter Try.func23, Try.ntmps23
      go_wp2_with fail
      refine (chars_any s _ hs).mono ?_
      rintro e w1 ⟨v, rfl, hr, hb⟩
      have hbx := blk_below (blk_new w _) hb
      have c4 : w1.cell? ⟨w.heap.size, 4, none⟩ = some (.int .i64 mx) := (blk_cell hbx 4).trans rfl
      have HB := Aside0.mk ((below_new1 w _).trans (hb.mono (Nat.le_of_lt (by simp))))
      rw [HV.out]
      rw [charsOr_yes HV.out] at hr
      obtain ⟨A, n, rfl⟩ := Kd.R_slice hr
      clear hr hb hbx
      go_wp2_with fail
      go_ret
      exact ⟨by rw [HF.out]; rfl, HB.out⟩

set_option maxHeartbeats 800000 in
theorem In1_tells (B : Nat) (w : World) (nm : ByteArray) (kd : Int) (need : Bool) (cl mx : Int) (hB : w.heap[B]? = some (.cells (varC nm kd need cl mx) 23 (0, 0))) (l : List ByteArray) (hl : ∀ s ∈ l, s.size ≤ 1000000) :
    Tells Try.prog 22 #[.pointer (some ⟨B, 0, none⟩)] w Value.string l (fun s => !fitsS cl mx s) := by
  refine ⟨enters_In1, fun s W hb hs => ?_⟩
  have hB' := blk_below hB hb
  have c0 : W.cell? ⟨B, 0, none⟩ = some (.string nm) := (blk_cell hB' 0).trans rfl
  have c1 : W.cell? ⟨B, 1, none⟩ = some (.int .i64 kd) := (blk_cell hB' 1).trans rfl
  have c2 : W.cell? ⟨B, 2, none⟩ = some (.bool need) := (blk_cell hB' 2).trans rfl
  have c3 : W.cell? ⟨B, 3, none⟩ = some (.int .i64 cl) := (blk_cell hB' 3).trans rfl
  have c4 : W.cell? ⟨B, 4, none⟩ = some (.int .i64 mx) := (blk_cell hB' 4).trans rfl
  clear hB hb hB'
  show Calls Try.prog 22 #[.string s, .pointer (some ⟨B, 0, none⟩)] W _
  have HS := Aside0.mk (hl s hs)
  clear hl hs
  go_enter Try.func22, Try.ntmps22
  go_wp2_with fail
  refine (fits_any nm kd need cl mx s _ HS.out).mono ?_
  rintro e w1 ⟨rfl, hb1⟩
  have HB := Aside0.mk hb1
  clear hb1
  go_wp2_with fail
  go_ret
  exact ⟨rfl, HB.out⟩
end Go.Proofs.Ytaigmfkgobklbaa.X
