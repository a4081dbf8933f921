/- chars.Minus, chars.Literal; ucs.Take; tmpl.piece. -/
import Derived.Test.YtjhihohofhhknaaXd
import Derived.Test.YtjhihohofhhknaaXz
import Derived.Test.YtjhihohofhhknaaXe
import Derived.Test.YtjhihohofhhknaaXn
namespace Go.Proofs.Ytjhihohofhhknaa.X
set_option linter.unusedSimpArgs false
set_option linter.unusedVariables false
open Go.RowKit Go.Proofs.YtjhihohofhhknaaW.PrintWords Go.Proofs.Ytjhihohofhhknaa.Y
def minusSet (s t : Set4) : Set4 := ⟨andNot s.a t.a, andNot s.b t.b, andNot s.c t.c, andNot s.d t.d⟩
set_option maxHeartbeats 4000000 in
set_option maxRecDepth 100000 in
theorem minus_any (s t : Set4) (w : World) : Calls Try.prog 80 #[s.val, t.val] w fun e w' => e = .returned (minusSet s t).val ∧ Below w.heap.size w w' := by
  obtain ⟨a, b, c, d⟩ := s
  obtain ⟨a', b', c', d'⟩ := t
  unfold Set4.val minusSet
  have i0 : ∀ W : World, (Instr.index 79 (.agg #[.int .u64 a', .int .u64 b', .int .u64 c', .int .u64 d']) (.int .i64 0)).run Try.prog W = .ok (.int .u64 a') W := fun _ => by first | kernel_rfl | rfl
  have i1 : ∀ W : World, (Instr.index 79 (.agg #[.int .u64 a', .int .u64 b', .int .u64 c', .int .u64 d']) (.int .i64 1)).run Try.prog W = .ok (.int .u64 b') W := fun _ => by first | kernel_rfl | rfl
  have i2 : ∀ W : World, (Instr.index 79 (.agg #[.int .u64 a', .int .u64 b', .int .u64 c', .int .u64 d']) (.int .i64 2)).run Try.prog W = .ok (.int .u64 c') W := fun _ => by first | kernel_rfl | rfl
  have i3 : ∀ W : World, (Instr.index 79 (.agg #[.int .u64 a', .int .u64 b', .int .u64 c', .int .u64 d']) (.int .i64 3)).run Try.prog W = .ok (.int .u64 d') W := fun _ => by first | kernel_rfl | rfl
  go_enter Try.func80, Try.ntmps80
  go_wp2_with fail
  refine wp_loop_rounds 5 ?_
  rw [rounds_succ]
  go_wp2_with fail
  rw [rounds_succ]
  go_wp2_with fail
  rw [rounds_succ]
  go_wp2_with fail
  rw [rounds_succ]
  go_wp2_with fail
  rw [rounds_succ]
  go_wp2_with fail
  refine bodyPost_ret (v := .agg #[.int .u64 (andNot a a'), .int .u64 (andNot b b'), .int .u64 (andNot c c'), .int .u64 (andNot d d')]) (by simp [results, Try.results80, go_sem, andNot]) rfl ⟨rfl, ?_⟩
  exact below_alloc (below_new2 w _ _) _
def literalSet : Set4 := minusSet (rangeSet 33 94) (listSet [34, 39, 37, 60, 62, 92, 94, 96, 123, 124, 125])
set_option maxHeartbeats 800000 in
theorem literal_any (w : World) : Calls Try.prog 66 #[] w fun e w' => e = .returned literalSet.val ∧ Below w.heap.size w w' := by
  go_enter Try.func66, Try.ntmps66
  go_wp2_with fail
  refine (range_any 33 126 _ (by omega) (by omega) (by omega)).mono ?_
  rintro e w1 ⟨rfl, hb1⟩
  have HR1 := Aside0.mk (blk_below (blk_new w _) hb1)
  have HB1 := Aside0.mk ((below_new1 w _).trans (hb1.mono (Nat.le_of_lt (by simp))))
  clear hb1
  go_wp2_with fail
  refine (of_any ⟨#[34, 39, 37, 60, 62, 92, 94, 96, 123, 124, 125]⟩ _ (by decide)).mono ?_
  rintro e w2 ⟨rfl, hb2⟩
  have HR2 := Aside0.mk (blk_below HR1.out hb2)
  have HB2 := Aside0.mk (below_step HB1.out hb2)
  clear hb2 HR1 HB1
  go_wp2_with fail
  refine (minus_any (rangeSet 33 94) (listSet [34, 39, 37, 60, 62, 92, 94, 96, 123, 124, 125]) _).mono ?_
  rintro e w3 ⟨rfl, hb3⟩
  obtain ⟨r0, r1, r2, r3, f0, f1, f2, f3⟩ := cells4 (blk_below HR2.out hb3)
  have HB3 := Aside0.mk (below_step HB2.out hb3)
  clear hb3 HR2 HB2
  generalize hL : minusSet (rangeSet 33 94) (listSet [34, 39, 37, 60, 62, 92, 94, 96, 123, 124, 125]) = L
  have HL := Aside0.mk (show literalSet = L from hL)
  clear hL
  unfold Set4.val
  go_wp2_with fail
  rw [HL.out]
  refine bodyPost_ret (v := L.val) (by simp [results, Try.results66, go_sem, Set4.val, r0, r1, r2, r3]) rfl ⟨rfl, ?_⟩
  repeat (first | exact HB3.out | refine below_set ?_ (Nat.le_refl _))
/-- The character beyond ASCII with which a text begins, and its bytes. -/
def okU (c : Int) : Bool := meetsL spanL c c
def takeOf (l : List Int) (n : Nat) : Int × Int := match l.find? okU with | some c => (c, (n : Int)) | none => (0, 0)
def takeU (s : ByteArray) : Int × Int := takeOf (charsOr (prefixS s 1)) (prefixS s 1).size
theorem takeOf_some {l : List Int} {n : Nat} {c : Int} (h : l.find? okU = some c) : takeOf l n = (c, (n : Int)) := by unfold takeOf; rw [h]
theorem takeOf_none {l : List Int} {n : Nat} (h : l.find? okU = none) : takeOf l n = (0, 0) := by unfold takeOf; rw [h]
theorem find_drop (l : List Int) (k : Nat) (h : k < l.length) (p : Int → Bool) : (l.drop k).find? p = if p l[k] = true then some l[k] else (l.drop (k + 1)).find? p := by
  rw [List.drop_eq_getElem_cons h, List.find?_cons]; cases p l[k] <;> rfl
theorem prefixS_le (s : ByteArray) (n : Nat) : (prefixS s n).size ≤ s.size := by
  have := badPos_le s
  unfold prefixS
  rw [ByteArray.size_extract, ByteArray.size_extract]; omega
theorem charsOr_len (s : ByteArray) : (charsOr s).length ≤ s.size := by
  unfold charsOr
  split
  · exact chars_length s
  · simp
set_option maxHeartbeats 1600000 in
theorem ucsTake_any (s : ByteArray) (w : World) (hs : s.size ≤ 1000000) : Calls Try.prog 65 #[.string s] w fun e w' => e = .returned (.tuple #[.int .i64 (takeU s).1, .int .i64 (takeU s).2]) ∧ Below w.heap.size w w' := by
  have HP := Aside0.mk (prefixS_le s 1)
  go_enter Try.func65, Try.ntmps65
  go_wp2_with fail
  refine (utfPrefix_any s 1 _ hs (by omega)).mono ?_
  rintro e w1 ⟨rfl, hb⟩
  have HB := Aside0.mk hb
  clear hb
  have HT : Aside0 (takeU s = takeOf (charsOr (prefixS s 1)) (prefixS s 1).size) := ⟨rfl⟩
  generalize prefixS s 1 = v at *
  go_wp2_with fail
  refine (chars_any v _ (by have := HP.out; omega)).mono ?_
  rintro e w2 ⟨x, rfl, hv, hb⟩
  obtain ⟨A, c, rfl, hle, hv⟩ := Kd.R_reads hv
  have hlen := charsOr_len v
  have hl2 : (charsOr v).length ≤ 1000000 := by have := HP.out; omega
  have HB2 := Aside0.mk (below_step HB.out hb)
  have HV := Aside0.mk hv
  clear hb hv HB
  generalize charsOr v = l at *
  clear hlen
  go_wp2_with fail
  go_loopw [18] (fun c wr => ∃ k : Nat, k ≤ l.length ∧ c = .int .i64 k ∧ Below w.heap.size w wr ∧ Below w2.heap.size w2 wr ∧ Aside0 (l.find? okU = (l.drop k).find? okU)) (fun c _ => (l.length - intOf c).toNat)
  case atStart => exact ⟨0, by omega, by simp, HB2.out, Below.refl _ _, ⟨rfl⟩⟩
  case round =>
    obtain ⟨k, hk, rfl, hb, hbb, HI⟩ := hrel
    clear HB2
    have HB := Aside0.mk hb
    have HBB := Aside0.mk hbb
    clear hb hbb
    by_cases hlt : k < l.length
    · obtain ⟨ad, rfl, hcell⟩ := C_cell1 (Kd.C_below HV.out HBB.out) k hlt
      have HI1 := Aside0.mk (HI.out.trans (find_drop l k hlt _))
      clear HI
      cases hm : okU l[k] with
      | true =>
        have HF := Aside0.mk (show takeU s = (l[k], (v.size : Int)) by rw [HT.out]; exact takeOf_some (by rw [HI1.out, hm]; rfl))
        have HM := Aside0.mk (show meetsL spanL l[k] l[k] = _ from hm)
        clear hm
        go_wp2_with fail
        refine (ucsMay_any _ _).mono ?_
        rintro e w3 ⟨rfl, hb⟩
        rw [HM.out]
        have HB3 := Aside0.mk (below_step HB.out hb)
        clear hb
        go_wp2_with fail
        go_ret2
        exact ⟨by rw [HF.out]; rfl, HB3.out⟩
      | false =>
        have HF := Aside0.mk (show l.find? okU = (l.drop (k + 1)).find? okU by rw [HI1.out, hm]; rfl)
        have HM := Aside0.mk (show meetsL spanL l[k] l[k] = _ from hm)
        clear hm
        go_wp2_with fail
        refine (ucsMay_any _ _).mono ?_
        rintro e w3 ⟨rfl, hb⟩
        rw [HM.out]
        have HB3 := Aside0.mk (below_step HB.out hb)
        have HBB3 := Aside0.mk (below_step HBB.out hb)
        clear hb HB HBB
        go_wp2_with fail
        go_roundw
        case rel => exact ⟨k + 1, by omega, by go_num, HB3.out, HBB3.out, HF⟩
        case measure => simp [intOf]; omega
    · have HF := Aside0.mk (show takeU s = (0, 0) by rw [HT.out]; exact takeOf_none (by rw [HI.out, List.drop_eq_nil_of_le (by omega)]; rfl))
      go_wp2_with fail
      go_ret2
      exact ⟨by rw [HF.out]; rfl, HB.out⟩
/-- How many bytes the piece of a literal has with which a text begins. -/
def pieceN (s : ByteArray) : Int := if s.size = 0 then 0 else if literalSet.has (bI s 0) = true then 1 else if tri s 0 = true then 3 else (takeU s).2
theorem size_of_empty {s : ByteArray} (h : (s.toList == ([] : List UInt8)) = true) : s.size = 0 := by
  have h := beq_iff_eq.1 h
  rw [ByteArray.toList_eq] at h
  have := congrArg List.length h
  simpa using this
theorem conv3 (W : World) (B : Nat) (h0 : W.cell? ⟨B, 0, none⟩ = some (.int .u8 37)) (h1 : W.cell? ⟨B, 1, none⟩ = some (.int .u8 48)) (h2 : W.cell? ⟨B, 2, none⟩ = some (.int .u8 48)) :
    (convert 92 9 (.slice (some ⟨B, 0, none⟩) 3 3)).run Try.prog W = .ok (.string ⟨#[37, 48, 48]⟩) W :=
  run_convert_bytes_arg W 92 5 Try.underlying92 Try.underlying5 B 0 3 3 [37, 48, 48] rfl (fun i hi => by
    have : i = 0 ∨ i = 1 ∨ i = 2 := by omega
    rcases this with rfl | rfl | rfl
    · exact h0
    · exact h1
    · exact h2) 9 Try.underlying9
set_option maxHeartbeats 800000 in
set_option maxRecDepth 100000 in
theorem pctOne_any (w : World) : Calls Try.prog 69 #[.int .u8 0] w fun e w' => e = .returned (.string ⟨#[37, 48, 48]⟩) ∧ Below w.heap.size w w' := by
  have hcv := fun W B => conv3 W B
  have hw0 : IntKind.u8.wrap 0 = 0 := by decide
  have hix : ∀ W : World, (Instr.index 9 (.string ⟨#[48, 49, 50, 51, 52, 53, 54, 55, 56, 57, 65, 66, 67, 68, 69, 70]⟩) (.int .u8 0)).run Try.prog W = .ok (.int .u8 48) W := fun _ => by first | kernel_rfl | rfl
  go_enter Try.func69, Try.ntmps69
  go_wp2_with fail
  go_region_with (fail)
  all_goals go_wp2
  all_goals go_ret
  all_goals exact ⟨rfl, by repeat (with_reducible first | exact Below.refl _ _ | apply Below.drew | apply below_alloc | apply pw_below_drewN)⟩
set_option maxRecDepth 100000 in
set_option maxHeartbeats 1600000 in
theorem piece_any (s : ByteArray) (w : World) (hs : s.size ≤ 1000000) : Calls Try.prog 57 #[.string s] w fun e w' => e = .returned (.int .i64 (pieceN s)) ∧ Below w.heap.size w w' := by
  by_cases h0 : s.size = 0
  · have HP := Aside0.mk (show pieceN s = 0 from if_pos h0)
    have he : s.toList.isEmpty = true := by
      rw [ByteArray.toList_eq, List.isEmpty_iff, List.eq_nil_iff_length_eq_zero]; simpa using h0
    have he2 : s.toList = [] := List.isEmpty_iff.1 he
    go_enter Try.func57, Try.ntmps57
    go_wp2_with fail
    refine (ucsTake_any s _ hs).mono ?_
    rintro e w1 ⟨rfl, hb⟩
    have HB := Aside0.mk hb
    clear hb
    go_wp2_with fail
    go_ret
    exact ⟨by rw [HP.out]; rfl, HB.out⟩
  · have he : s.toList.isEmpty = false := by
      rw [ByteArray.toList_eq, List.isEmpty_eq_false_iff, ← List.length_pos_iff]; simp; omega
    have he2 : (s.toList == ([] : List UInt8)) = false := by
      cases h : s.toList with
      | nil => rw [h] at he; cases he
      | cons a l => rfl
    have hgt : 0 < s.size := by omega
    have hr := bI_range s 0
    have hat := bI_at s 0 hgt
    have HR := Aside0.mk hr
    rw [hat] at hr
    have HHAS := Aside0.mk (fun W : World => has_any literalSet _ W hr.1 hr.2)
    cases hl : literalSet.has (bI s 0) with
    | true =>
      have HP := Aside0.mk (show pieceN s = 1 by unfold pieceN; rw [if_neg h0, hl]; rfl)
      rw [hat] at hl
      have HL := Aside0.mk hl
      clear hl hat h0
      go_enter Try.func57, Try.ntmps57
      go_wp2_with fail
      refine (ucsTake_any s _ hs).mono ?_
      rintro e w1 ⟨rfl, hb⟩
      have HB := Aside0.mk hb
      clear hb
      go_wp2_with fail
      clear hr
      go_region_with (first | (go_at_call 66; refine (literal_any _).mono ?_; rintro e w' ⟨rfl, hb1⟩) | (go_at_call 67; refine (HHAS.out _).mono ?_; rintro e w' ⟨rfl, hb2⟩; rw [HL.out]))
      all_goals go_wp2
      all_goals go_ret
      all_goals exact ⟨by rw [HP.out]; rfl, below_step (below_step (Below.drew HB.out) hb1) hb2⟩
    | false =>
      have HP0 := Aside0.mk (show pieceN s = if tri s 0 = true then 3 else (takeU s).2 by unfold pieceN; rw [if_neg h0, hl, if_neg (by decide)])
      rw [hat] at hl
      have HL := Aside0.mk hl
      clear hl hat h0
      go_enter Try.func57, Try.ntmps57
      go_wp2_with fail
      refine (ucsTake_any s _ hs).mono ?_
      rintro e w1 ⟨rfl, hb⟩
      have HB := Aside0.mk hb
      clear hb
      go_wp2_with fail
      clear hr
      go_region_with (first | (go_at_call 66; refine (literal_any _).mono ?_; rintro e w' ⟨rfl, hb1⟩) | (go_at_call 67; refine (HHAS.out _).mono ?_; rintro e w' ⟨rfl, hb2⟩; rw [HL.out]))
      all_goals (
        have HB2 := Aside0.mk (below_step (below_step (Below.drew HB.out) hb1) hb2)
        clear hb1 hb2
        go_wp2_with fail
        refine (pctTriplet_any s _).mono ?_
        rintro e w4 ⟨rfl, rfl⟩
        cases ht : tri s 0 with
        | true =>
          have HP := Aside0.mk (show pieceN s = 3 by rw [HP0.out, ht]; rfl)
          clear ht
          go_wp2_with fail
          refine (pctOne_any _).mono ?_
          rintro e w5 ⟨rfl, hb⟩
          have HB3 := Aside0.mk (below_step HB2.out hb)
          clear hb
          go_wp2_with fail
          go_ret
          exact ⟨by rw [HP.out]; rfl, HB3.out⟩
        | false =>
          have HP := Aside0.mk (show pieceN s = (takeU s).2 by rw [HP0.out, ht]; rfl)
          clear ht
          go_wp2_with fail
          go_ret
          exact ⟨by rw [HP.out]; rfl, HB2.out⟩)
end Go.Proofs.Ytjhihohofhhknaa.X
