-- Printed by wip/xprint.py of this claim's authors, over the kit's print; not trusted: Lean checks it.
import Derived.Test.YtakgimjaiplmgaaPAx0
import Derived.Test.YtakgimjaiplmgaaPAx2
import Derived.Test.YtakgimjaiplmgaaPAx3
namespace Go.Proofs.Ytakgimjaiplmgaa.PA
open Go.RowKit Go.Proofs.YtakgimjaiplmgaaW.PrintWords Go.Proofs.YtakgimjaiplmgaaW.PrintLast Go.Proofs.YtakgimjaiplmgaaW.PrintMore
attribute [local go_sem] max2_int min2_int max_two min_two max_three min_three max_four min_four   -- for this text's walks alone
set_option linter.unusedVariables false
set_option linter.unusedSimpArgs false

/-! ### phalaropelaw10_OperSelf: function 6 -/
def phalaropelaw10_OperSelf.j0 : Nat → Int → Bool → ByteArray → Bool → Bool → ByteArray → ByteArray → Bool → ByteArray → Bool → Option (Bool)
  | 0, _, _, _, _, _, _, _, _, _, _ => none
  | k + 1, x0, x3, x6, x7, x30, x165000, x165001, x165002, x165003, x165004 => if x30 = true then (if x165001.toList = ([44] : List UInt8) then (if x0 = 63 then (if x3 = true then (if x165000.toList = ([] : List UInt8) then (some (x165001.toList == ([38] : List UInt8))) else (some false)) else (some false)) else (if x3 = true then (if x165000.toList = ([] : List UInt8) then (some true) else (some false)) else (some false))) else (if x0 = 63 then (if x3 = true then (if x165000.toList = ([] : List UInt8) then (some (x165001.toList == ([38] : List UInt8))) else (some false)) else (some false)) else (if x3 = true then (if x165000.toList = ([] : List UInt8) then (some (x165001.toList == x6.toList)) else (some false)) else (some false)))) else (if x165001.toList = ([44] : List UInt8) then (if x0 = 63 then (if x3 = true then (if x7 = true then (some (x165001.toList == ([38] : List UInt8))) else (some false)) else (some false)) else (if x3 = true then (if x7 = true then (some true) else (some false)) else (some false))) else (if x0 = 63 then (if x3 = true then (if x7 = true then (some (x165001.toList == ([38] : List UInt8))) else (some false)) else (some false)) else (if x3 = true then (if x7 = true then (some (x165001.toList == x6.toList)) else (some false)) else (some false))))
def phalaropelaw10_OperSelf.f (k : Nat) (a0 : Int) : Option (Bool) := (phalaropelaw10_awake.f).bind fun t157 => ((oper_Of.f a0).bind fun bt158 => (if bt158.2.2.2.2.2 = true then ((some (([a0] : List Int) : List Int)).bind fun y165 => (if a0 = 0 then (phalaropelaw10_OperSelf.j0 k a0 t157 (strOfNums y165) (bt158.1.toList == (strOfNums y165).toList) true bt158.1 bt158.2.1 bt158.2.2.1 bt158.2.2.2.1 bt158.2.2.2.2.1) else (phalaropelaw10_OperSelf.j0 k a0 t157 (strOfNums y165) (bt158.1.toList == (strOfNums y165).toList) (a0 == 43) bt158.1 bt158.2.1 bt158.2.2.1 bt158.2.2.2.1 bt158.2.2.2.2.1))) else (some t157)))
theorem phalaropelaw10_OperSelf.mono_l : ∀ k, (∀ y0 y1 y2 y3 y4 y5 y6 y7 y8 y9, LeO (phalaropelaw10_OperSelf.j0 k y0 y1 y2 y3 y4 y5 y6 y7 y8 y9) (phalaropelaw10_OperSelf.j0 (k + 1) y0 y1 y2 y3 y4 y5 y6 y7 y8 y9))
  | 0 => fun _ _ _ _ _ _ _ _ _ _ r h => by simp [phalaropelaw10_OperSelf.j0] at h
  | k + 1 => by
    have ih0 := phalaropelaw10_OperSelf.mono_l k
    · intro y0 y1 y2 y3 y4 y5 y6 y7 y8 y9
      unfold phalaropelaw10_OperSelf.j0
      repeat' first
      | (with_reducible exact ih0 _ _ _ _ _ _ _ _ _ _)
      | (with_reducible exact LeO.refl _)
      | (with_reducible exact LeO.none _)
      | (with_reducible refine LeO.ite ?_ ?_)
      | (with_reducible refine LeO.bind ?_ (fun _ => ?_))
      | exact ih0 _ _ _ _ _ _ _ _ _ _
      | exact LeO.none _
      | refine LeO.ite ?_ ?_
      | refine LeO.bind ?_ (fun _ => ?_)
theorem phalaropelaw10_OperSelf.mono : ∀ a0 k, LeO (phalaropelaw10_OperSelf.f k a0) (phalaropelaw10_OperSelf.f (k + 1) a0) := by
  intro a0 k
  have ih0 := phalaropelaw10_OperSelf.mono_l k
  unfold phalaropelaw10_OperSelf.f
  repeat' first
      | (with_reducible exact ih0 _ _ _ _ _ _ _ _ _ _)
      | (with_reducible exact LeO.refl _)
      | (with_reducible exact LeO.none _)
      | (with_reducible refine LeO.ite ?_ ?_)
      | (with_reducible refine LeO.bind ?_ (fun _ => ?_))
      | exact ih0 _ _ _ _ _ _ _ _ _ _
      | exact LeO.none _
      | refine LeO.ite ?_ ?_
      | refine LeO.bind ?_ (fun _ => ?_)
set_option maxHeartbeats 8000000 in
set_option maxRecDepth 100000 in
theorem phalaropelaw10_OperSelf.calls (k : Nat) (a0 : Int) (r : Bool) (w : World) (h : phalaropelaw10_OperSelf.f k a0 = some r) :
    Calls Try.prog 6 #[.int .u8 a0] w fun e w' => e = .returned (.bool r) ∧ Below w.heap.size w w' := by
  have hu24 := Try.underlying24
  have HB := Aside0.mk (Below.refl w.heap.size w)
  have H : ((phalaropelaw10_awake.f).bind fun t157 => ((oper_Of.f a0).bind fun bt158 => (if bt158.2.2.2.2.2 = true then ((some (([a0] : List Int) : List Int)).bind fun y165 => (if a0 = 0 then (phalaropelaw10_OperSelf.j0 k a0 t157 (strOfNums y165) (bt158.1.toList == (strOfNums y165).toList) true bt158.1 bt158.2.1 bt158.2.2.1 bt158.2.2.2.1 bt158.2.2.2.2.1) else (phalaropelaw10_OperSelf.j0 k a0 t157 (strOfNums y165) (bt158.1.toList == (strOfNums y165).toList) (a0 == 43) bt158.1 bt158.2.1 bt158.2.2.1 bt158.2.2.2.1 bt158.2.2.2.2.1))) else (some t157)))) = some r := h
  clear h
  replace H := Option.bind_eq_some_iff.mp H
  obtain ⟨t157, A20, H⟩ := H
  replace H : ((oper_Of.f a0).bind fun bt158 => (if bt158.2.2.2.2.2 = true then ((some (([a0] : List Int) : List Int)).bind fun y165 => (if a0 = 0 then (phalaropelaw10_OperSelf.j0 k a0 t157 (strOfNums y165) (bt158.1.toList == (strOfNums y165).toList) true bt158.1 bt158.2.1 bt158.2.2.1 bt158.2.2.2.1 bt158.2.2.2.2.1) else (phalaropelaw10_OperSelf.j0 k a0 t157 (strOfNums y165) (bt158.1.toList == (strOfNums y165).toList) (a0 == 43) bt158.1 bt158.2.1 bt158.2.2.1 bt158.2.2.2.1 bt158.2.2.2.2.1))) else (some t157))) = some r := H
  have A2 := Aside0.mk A20
  clear A20
  replace H := Option.bind_eq_some_iff.mp H
  obtain ⟨⟨t158, t159, t160, t161, t162, t163⟩, A30, H⟩ := H
  replace H : (if t163 = true then ((some (([a0] : List Int) : List Int)).bind fun y165 => (if a0 = 0 then (phalaropelaw10_OperSelf.j0 k a0 t157 (strOfNums y165) (t158.toList == (strOfNums y165).toList) true t158 t159 t160 t161 t162) else (phalaropelaw10_OperSelf.j0 k a0 t157 (strOfNums y165) (t158.toList == (strOfNums y165).toList) (a0 == 43) t158 t159 t160 t161 t162))) else (some t157)) = some r := H
  have A3 := Aside0.mk A30
  clear A30
  by_cases c4 : t163 = true
  · subst c4
    have H1 : ((some (([a0] : List Int) : List Int)).bind fun y165 => (if a0 = 0 then (phalaropelaw10_OperSelf.j0 k a0 t157 (strOfNums y165) (t158.toList == (strOfNums y165).toList) true t158 t159 t160 t161 t162) else (phalaropelaw10_OperSelf.j0 k a0 t157 (strOfNums y165) (t158.toList == (strOfNums y165).toList) (a0 == 43) t158 t159 t160 t161 t162))) = some r := by rw [if_pos rfl] at H; exact H
    clear H
    have H := H1
    clear H1
    obtain ⟨y165, hy165⟩ : ∃ y_ : List Int, y_ = (([a0] : List Int)) := ⟨_, rfl⟩
    replace H : (if a0 = 0 then (phalaropelaw10_OperSelf.j0 k a0 t157 (strOfNums y165) (t158.toList == (strOfNums y165).toList) true t158 t159 t160 t161 t162) else (phalaropelaw10_OperSelf.j0 k a0 t157 (strOfNums y165) (t158.toList == (strOfNums y165).toList) (a0 == 43) t158 t159 t160 t161 t162)) = some r := by first | (rw [hy165]; with_reducible exact H) | (have H2_ := (Option.bind_some _ _).symm.trans H; rw [hy165]; with_reducible exact H2_) | (have H2_ := (Option.bind_some _ _).symm.trans H; with_reducible exact H2_) | with_reducible exact H | (rw [hy165]; exact H) | exact H
    have Ny165 := Aside0.mk hy165
    clear hy165
    have HC5 := Aside0.mk H
    clear H
    go_enter Try.func6, Try.ntmps6
    go_upto_region 7 with (first | ((with_reducible refine gate_callee (f := 8) rfl ?_); refine goesL_ (some 9) rfl rfl Try.func8 (by kernel_rfl) rfl #[] rfl (by (try simp only [List.map_toArray, List.map_cons, List.map_nil]); first | done | rfl | (simp only [List.length_drop, List.length_take]; rfl)) ?_; (with_reducible refine (phalaropelaw10_awake.calls  t157 _ A2.out).mono ?_); rintro e w6 ⟨rfl, hb⟩; refine ⟨_, rfl, ?_⟩; have n0_ := Aside0.mk (below_step (by repeat (first | (with_reducible first | exact HB.out | apply below_alloc | apply pw_below_drewN | apply below_drew1) | exact HB.out)) hb); clear HB; have HB := n0_; clear n0_; (try clear hb); (try clear hb2); (try clear hk); (try clear hi)) | ((with_reducible refine gate_callee (f := 9) rfl ?_); refine goesL_ (some 12) rfl rfl Try.func9 (by kernel_rfl) rfl #[.int .u8 a0] rfl (by (try simp only [List.map_toArray, List.map_cons, List.map_nil]); first | done | rfl | (simp only [List.length_drop, List.length_take]; rfl)) ?_; (with_reducible refine (oper_Of.calls a0 t158 t159 t160 t161 t162 true _ A3.out).mono ?_); rintro e w7 ⟨rfl, hb⟩; refine ⟨_, rfl, ?_⟩; have n0_ := Aside0.mk (below_step (by repeat (first | (with_reducible first | exact HB.out | apply below_alloc | apply pw_below_drewN | apply below_drew1) | exact HB.out)) hb); clear HB; have HB := n0_; clear n0_; (try clear hb); (try clear hb2); (try clear hk); (try clear hi)) | ((with_reducible refine gate_dst (N := 4) rfl ?_); refine box_event ?hg (N := 4) ?hd (cs := #[.string (⟨#[]⟩ : ByteArray), .string (⟨#[]⟩ : ByteArray), .bool false, .string (⟨#[]⟩ : ByteArray), .bool false]) (t := 24) ?hr ?_; (case hd => rfl); (case hg => rfl); (case hr => first | (go_simp; done) | (go_simp; rfl)); intro gb164 hg w8 hbox hb; have n0_ := Aside0.mk (below_step (by repeat (first | (with_reducible first | exact HB.out | apply below_alloc | apply pw_below_drewN | apply below_drew1) | exact HB.out)) hb); have n1_ := Aside0.mk (hbox); have n2_ := Aside0.mk ((by rw [hg]; exact (below_size (by repeat (first | (with_reducible first | exact HB.out | apply below_alloc | apply pw_below_drewN | apply below_drew1) | exact HB.out))) : w.heap.size ≤ gb164)); have n3_ := Aside0.mk ((by rw [hg]; exact (below_size (by repeat (first | (with_reducible first | exact HB.out | apply below_alloc | apply pw_below_drewN | apply below_drew1) | exact HB.out))) : w.heap.size ≤ gb164)); clear HB; have HB := n0_; have BK164 := n1_; have GW164 := n2_; have GE164 := n3_; clear n0_ n1_ n2_ n3_; clear hb hbox hg; have hcz9_0 : w8.cell? ⟨gb164, 0, none⟩ = some (.string (⟨#[]⟩ : ByteArray)) := (blk_cell BK164.out 0).trans rfl; have hcz9_1 : w8.cell? ⟨gb164, 1, none⟩ = some (.string (⟨#[]⟩ : ByteArray)) := (blk_cell BK164.out 1).trans rfl; have hcz9_2 : w8.cell? ⟨gb164, 2, none⟩ = some (.bool false) := (blk_cell BK164.out 2).trans rfl; have hcz9_3 : w8.cell? ⟨gb164, 3, none⟩ = some (.string (⟨#[]⟩ : ByteArray)) := (blk_cell BK164.out 3).trans rfl; have hcz9_4 : w8.cell? ⟨gb164, 4, none⟩ = some (.bool false) := (blk_cell BK164.out 4).trans rfl; have hfz9_0 := blk_frozen BK164.out 0; have hfz9_1 := blk_frozen BK164.out 1; have hfz9_2 := blk_frozen BK164.out 2; have hfz9_3 := blk_frozen BK164.out 3; have hfz9_4 := blk_frozen BK164.out 4) | ((with_reducible refine gate_dst (N := 19) rfl ?_); refine Kd.R_lit (Kd.int .u8) _ 5 ?hg (N := 19) ?hd (xs := ([a0] : List Int)) (inner := [.int .u8 a0]) (ok := fun _ => True) (okp := fun _ => True) ?hr ?hp (fun _ hk => hk) trivial (Below.refl _ _) (Nat.le_refl _) (by simp) ?_; (case hd => rfl); (case hg => rfl); (case hr => first | (go_simp; done) | (go_simp; rfl)); (case hp => exact (Reps.one (show Kd.M (Kd.int .u8) _ _ _ a0 [.int .u8 a0] from rfl) (Reps.none _ _))); intro v166 w10 ho11 hb hg_ hnew_; clear hg_ hnew_; (first | rw [← Ny165.out] at ho11 | (simp only [Int.reduceToNat] at ho11; rw [← Ny165.out] at ho11)); have n0_ := Aside0.mk (Kd.R_lower ho11 (below_size (by repeat (first | (with_reducible first | exact HB.out | apply below_alloc | apply pw_below_drewN | apply below_drew1 | refine below_set ?_ GE164.out) | exact HB.out)))); have n1_ := Aside0.mk (blk_below (g := gb164) (o := .cells #[.string t158, .string t159, .bool t160, .string t161, .bool t162] 24 (0, 0)) (by (with_reducible repeat (first | refine blk_drewN ?_ _ | refine blk_drew ?_ | refine blk_alloc ?_ _)); refine blk_put (cs := #[.string t158, .string t159, .bool t160, .string t161, .bool false]) ?_ 4 _ rfl; (with_reducible repeat (first | refine blk_drewN ?_ _ | refine blk_drew ?_ | refine blk_alloc ?_ _)); refine blk_put (cs := #[.string t158, .string t159, .bool t160, .string (⟨#[]⟩ : ByteArray), .bool false]) ?_ 3 _ rfl; (with_reducible repeat (first | refine blk_drewN ?_ _ | refine blk_drew ?_ | refine blk_alloc ?_ _)); refine blk_put (cs := #[.string t158, .string t159, .bool false, .string (⟨#[]⟩ : ByteArray), .bool false]) ?_ 2 _ rfl; (with_reducible repeat (first | refine blk_drewN ?_ _ | refine blk_drew ?_ | refine blk_alloc ?_ _)); refine blk_put (cs := #[.string t158, .string (⟨#[]⟩ : ByteArray), .bool false, .string (⟨#[]⟩ : ByteArray), .bool false]) ?_ 1 _ rfl; (with_reducible repeat (first | refine blk_drewN ?_ _ | refine blk_drew ?_ | refine blk_alloc ?_ _)); refine blk_put (cs := #[.string (⟨#[]⟩ : ByteArray), .string (⟨#[]⟩ : ByteArray), .bool false, .string (⟨#[]⟩ : ByteArray), .bool false]) ?_ 0 _ rfl; (with_reducible repeat (first | refine blk_drewN ?_ _ | refine blk_drew ?_ | refine blk_alloc ?_ _)); exact BK164.out) hb); have n2_ := Aside0.mk (below_step (by repeat (first | (with_reducible first | exact HB.out | apply below_alloc | apply pw_below_drewN | apply below_drew1 | refine below_set ?_ GE164.out) | exact HB.out)) hb); clear BK164; clear HB; have HO167 := n0_; have BK164 := n1_; have HB := n2_; clear n0_ n1_ n2_; clear hb ho11; have hcv12 := own_string (P := Try.prog) Try.underlying31 Try.underlying5 Try.underlying9 (Kd.own_of_R HO167.out); have hcz13_0 : w10.cell? ⟨gb164, 0, none⟩ = some (.string t158) := (blk_cell BK164.out 0).trans rfl; have hcz13_1 : w10.cell? ⟨gb164, 1, none⟩ = some (.string t159) := (blk_cell BK164.out 1).trans rfl; have hcz13_2 : w10.cell? ⟨gb164, 2, none⟩ = some (.bool t160) := (blk_cell BK164.out 2).trans rfl; have hcz13_3 : w10.cell? ⟨gb164, 3, none⟩ = some (.string t161) := (blk_cell BK164.out 3).trans rfl; have hcz13_4 : w10.cell? ⟨gb164, 4, none⟩ = some (.bool t162) := (blk_cell BK164.out 4).trans rfl; have hfz13_0 := blk_frozen BK164.out 0; have hfz13_1 := blk_frozen BK164.out 1; have hfz13_2 := blk_frozen BK164.out 2; have hfz13_3 := blk_frozen BK164.out 3; have hfz13_4 := blk_frozen BK164.out 4))
    (try simp only [Act.put, List.setIfInBounds_toArray, List.set_cons_zero, List.set_cons_succ])
    go_cut [30] (fun v30 wc => ∃ (kq : Nat) (x30_4 : Bool), v30 = .bool x30_4 ∧ Aside0 (phalaropelaw10_OperSelf.j0 kq a0 t157 (strOfNums y165) (t158.toList == (strOfNums y165).toList) x30_4 t158 t159 t160 t161 t162 = some r) ∧ Aside0 (kq ≤ k) ∧ Aside0 (wc.heap[gb164]? = some (.cells #[.string t158, .string t159, .bool t160, .string t161, .bool t162] 24 (0, 0))) ∧ Aside0 (Below w.heap.size w wc))
    case first =>
      have H := HC5.out
      clear HC5
      by_cases c14 : a0 = 0
      · rw [if_pos c14] at H
        have c14b0 : (a0 == 0) = true := beq_iff_eq.mpr c14
        have c14b1 : (a0 != 0) = false := bne_eq_false_iff_eq.mpr c14
        clear c14
        (first | rw [c14b0] | (simp only [i64_w, i32_w]; rw [c14b0]) | skip)
        have H' := Aside0.mk H
        clear H
        go_wp2
        go_meet
        case rel => exact ⟨_, (true), (by first | rfl | (simp; done) | (simp [*]; done)), H', ⟨by first | omega | exact Nat.le_refl _⟩, ⟨by (with_reducible repeat (first | refine blk_drewN ?_ _ | refine blk_drew ?_ | refine blk_alloc ?_ _)); exact BK164.out⟩, ⟨by repeat (first | (with_reducible first | exact HB.out | apply below_alloc | apply pw_below_drewN | apply below_drew1 | refine below_set ?_ GE164.out) | exact HB.out)⟩⟩
      · rw [if_neg c14] at H
        have c14b0 : (a0 == 0) = false := beq_eq_false_iff_ne.mpr c14
        have c14b1 : (a0 != 0) = true := bne_iff_ne.mpr c14
        (first | rw [c14b0] | (simp only [i64_w, i32_w]; rw [c14b0]) | skip)
        have H' := Aside0.mk H
        clear H
        go_wp2
        go_meet
        case rel => exact ⟨_, ((a0 == 43)), (by first | rfl | (simp; done) | (simp [*]; done)), H', ⟨by first | omega | exact Nat.le_refl _⟩, ⟨by (with_reducible repeat (first | refine blk_drewN ?_ _ | refine blk_drew ?_ | refine blk_alloc ?_ _)); exact BK164.out⟩, ⟨by repeat (first | (with_reducible first | exact HB.out | apply below_alloc | apply pw_below_drewN | apply below_drew1 | refine below_set ?_ GE164.out) | exact HB.out)⟩⟩
    case rest =>
      clear HC5
      try clear c1
      try clear hcv1
      try clear p2
      try clear c4
      try clear c6
      try clear c8
      try clear c9
      try clear hcv12
      try clear c14
      try clear c14b0
      try clear c14b1
      try clear hcz13_0
      try clear hcz13_1
      try clear hcz13_2
      try clear hcz13_3
      try clear hcz13_4
      try clear hcz9_0
      try clear hcz9_1
      try clear hcz9_2
      try clear hcz9_3
      try clear hcz9_4
      try clear hfz13_0
      try clear hfz13_1
      try clear hfz13_2
      try clear hfz13_3
      try clear hfz13_4
      try clear hfz9_0
      try clear hfz9_1
      try clear hfz9_2
      try clear hfz9_3
      try clear hfz9_4
      obtain ⟨kq, x30_4, rfl, HA, HJ4, BK164, HB⟩ := hcut
      cases kq with
      | zero => exact absurd HA.out (by simp [phalaropelaw10_OperSelf.j0])
      | succ kj4 =>
        have H := HA.out
        clear HA
        simp only [phalaropelaw10_OperSelf.j0] at H
        by_cases c15 : x30_4 = true
        · subst c15
          have H1 : (if t159.toList = ([44] : List UInt8) then (if a0 = 63 then (if t157 = true then (if t158.toList = ([] : List UInt8) then (some (t159.toList == ([38] : List UInt8))) else (some false)) else (some false)) else (if t157 = true then (if t158.toList = ([] : List UInt8) then (some true) else (some false)) else (some false))) else (if a0 = 63 then (if t157 = true then (if t158.toList = ([] : List UInt8) then (some (t159.toList == ([38] : List UInt8))) else (some false)) else (some false)) else (if t157 = true then (if t158.toList = ([] : List UInt8) then (some (t159.toList == (strOfNums y165).toList)) else (some false)) else (some false)))) = some r := by rw [if_pos rfl] at H; exact H
          clear H
          have H := H1
          clear H1
          by_cases c16 : t159.toList = ([44] : List UInt8)
          · rw [if_pos c16] at H
            have c16b0 : (t159.toList == ([44] : List UInt8)) = true := beq_iff_eq.mpr c16
            have c16b1 : (t159.toList != ([44] : List UInt8)) = false := bne_eq_false_iff_eq.mpr c16
            clear c16
            by_cases c17 : a0 = 63
            · rw [if_pos c17] at H
              have c17b0 : (a0 == 63) = true := beq_iff_eq.mpr c17
              have c17b1 : (a0 != 63) = false := bne_eq_false_iff_eq.mpr c17
              clear c17
              by_cases c18 : t157 = true
              · subst c18
                have H1 : (if t158.toList = ([] : List UInt8) then (some (t159.toList == ([38] : List UInt8))) else (some false)) = some r := by rw [if_pos rfl] at H; exact H
                clear H
                have H := H1
                clear H1
                by_cases c19 : t158.toList = ([] : List UInt8)
                · rw [if_pos c19] at H
                  have c19b0 : (t158.toList == ([] : List UInt8)) = true := beq_iff_eq.mpr c19
                  have c19b1 : (t158.toList != ([] : List UInt8)) = false := bne_eq_false_iff_eq.mpr c19
                  clear c19
                  obtain rfl := Option.some.inj H
                  have hcz20_0 : wc.cell? ⟨gb164, 0, none⟩ = some (.string t158) := (blk_cell BK164.out 0).trans rfl
                  have hcz20_1 : wc.cell? ⟨gb164, 1, none⟩ = some (.string t159) := (blk_cell BK164.out 1).trans rfl
                  have hcz20_2 : wc.cell? ⟨gb164, 2, none⟩ = some (.bool t160) := (blk_cell BK164.out 2).trans rfl
                  have hcz20_3 : wc.cell? ⟨gb164, 3, none⟩ = some (.string t161) := (blk_cell BK164.out 3).trans rfl
                  have hcz20_4 : wc.cell? ⟨gb164, 4, none⟩ = some (.bool t162) := (blk_cell BK164.out 4).trans rfl
                  have hfz20_0 := blk_frozen BK164.out 0
                  have hfz20_1 := blk_frozen BK164.out 1
                  have hfz20_2 := blk_frozen BK164.out 2
                  have hfz20_3 := blk_frozen BK164.out 3
                  have hfz20_4 := blk_frozen BK164.out 4
                  go_wp2
                  go_ret
                  exact ⟨by first | rfl | (simp [errW_none, errW_some] <;> rfl) | (simp [*, errW_none, errW_some] <;> rfl), by repeat (first | (with_reducible first | exact HB.out | apply below_alloc | apply pw_below_drewN | apply below_drew1 | refine below_set ?_ GE164.out) | exact HB.out)⟩
                · rw [if_neg c19] at H
                  have c19b0 : (t158.toList == ([] : List UInt8)) = false := beq_eq_false_iff_ne.mpr c19
                  have c19b1 : (t158.toList != ([] : List UInt8)) = true := bne_iff_ne.mpr c19
                  obtain rfl := Option.some.inj H
                  have hcz21_0 : wc.cell? ⟨gb164, 0, none⟩ = some (.string t158) := (blk_cell BK164.out 0).trans rfl
                  have hcz21_1 : wc.cell? ⟨gb164, 1, none⟩ = some (.string t159) := (blk_cell BK164.out 1).trans rfl
                  have hcz21_2 : wc.cell? ⟨gb164, 2, none⟩ = some (.bool t160) := (blk_cell BK164.out 2).trans rfl
                  have hcz21_3 : wc.cell? ⟨gb164, 3, none⟩ = some (.string t161) := (blk_cell BK164.out 3).trans rfl
                  have hcz21_4 : wc.cell? ⟨gb164, 4, none⟩ = some (.bool t162) := (blk_cell BK164.out 4).trans rfl
                  have hfz21_0 := blk_frozen BK164.out 0
                  have hfz21_1 := blk_frozen BK164.out 1
                  have hfz21_2 := blk_frozen BK164.out 2
                  have hfz21_3 := blk_frozen BK164.out 3
                  have hfz21_4 := blk_frozen BK164.out 4
                  go_wp2
                  go_ret
                  exact ⟨by first | rfl | (simp [errW_none, errW_some] <;> rfl) | (simp [*, errW_none, errW_some] <;> rfl), by repeat (first | (with_reducible first | exact HB.out | apply below_alloc | apply pw_below_drewN | apply below_drew1 | refine below_set ?_ GE164.out) | exact HB.out)⟩
              · replace c18 := Bool.eq_false_iff.mpr c18
                subst c18
                have H1 : (some false) = some r := by rw [if_neg (show ¬ (false = true) by decide)] at H; exact H
                clear H
                have H := H1
                clear H1
                obtain rfl := Option.some.inj H
                have hcz22_0 : wc.cell? ⟨gb164, 0, none⟩ = some (.string t158) := (blk_cell BK164.out 0).trans rfl
                have hcz22_1 : wc.cell? ⟨gb164, 1, none⟩ = some (.string t159) := (blk_cell BK164.out 1).trans rfl
                have hcz22_2 : wc.cell? ⟨gb164, 2, none⟩ = some (.bool t160) := (blk_cell BK164.out 2).trans rfl
                have hcz22_3 : wc.cell? ⟨gb164, 3, none⟩ = some (.string t161) := (blk_cell BK164.out 3).trans rfl
                have hcz22_4 : wc.cell? ⟨gb164, 4, none⟩ = some (.bool t162) := (blk_cell BK164.out 4).trans rfl
                have hfz22_0 := blk_frozen BK164.out 0
                have hfz22_1 := blk_frozen BK164.out 1
                have hfz22_2 := blk_frozen BK164.out 2
                have hfz22_3 := blk_frozen BK164.out 3
                have hfz22_4 := blk_frozen BK164.out 4
                go_wp2
                go_ret
                exact ⟨by first | rfl | (simp [errW_none, errW_some] <;> rfl) | (simp [*, errW_none, errW_some] <;> rfl), by repeat (first | (with_reducible first | exact HB.out | apply below_alloc | apply pw_below_drewN | apply below_drew1 | refine below_set ?_ GE164.out) | exact HB.out)⟩
            · rw [if_neg c17] at H
              have c17b0 : (a0 == 63) = false := beq_eq_false_iff_ne.mpr c17
              have c17b1 : (a0 != 63) = true := bne_iff_ne.mpr c17
              by_cases c23 : t157 = true
              · subst c23
                have H1 : (if t158.toList = ([] : List UInt8) then (some true) else (some false)) = some r := by rw [if_pos rfl] at H; exact H
                clear H
                have H := H1
                clear H1
                by_cases c24 : t158.toList = ([] : List UInt8)
                · rw [if_pos c24] at H
                  have c24b0 : (t158.toList == ([] : List UInt8)) = true := beq_iff_eq.mpr c24
                  have c24b1 : (t158.toList != ([] : List UInt8)) = false := bne_eq_false_iff_eq.mpr c24
                  clear c24
                  obtain rfl := Option.some.inj H
                  have hcz25_0 : wc.cell? ⟨gb164, 0, none⟩ = some (.string t158) := (blk_cell BK164.out 0).trans rfl
                  have hcz25_1 : wc.cell? ⟨gb164, 1, none⟩ = some (.string t159) := (blk_cell BK164.out 1).trans rfl
                  have hcz25_2 : wc.cell? ⟨gb164, 2, none⟩ = some (.bool t160) := (blk_cell BK164.out 2).trans rfl
                  have hcz25_3 : wc.cell? ⟨gb164, 3, none⟩ = some (.string t161) := (blk_cell BK164.out 3).trans rfl
                  have hcz25_4 : wc.cell? ⟨gb164, 4, none⟩ = some (.bool t162) := (blk_cell BK164.out 4).trans rfl
                  have hfz25_0 := blk_frozen BK164.out 0
                  have hfz25_1 := blk_frozen BK164.out 1
                  have hfz25_2 := blk_frozen BK164.out 2
                  have hfz25_3 := blk_frozen BK164.out 3
                  have hfz25_4 := blk_frozen BK164.out 4
                  go_wp2
                  go_ret
                  exact ⟨by first | rfl | (simp [errW_none, errW_some] <;> rfl) | (simp [*, errW_none, errW_some] <;> rfl), by repeat (first | (with_reducible first | exact HB.out | apply below_alloc | apply pw_below_drewN | apply below_drew1 | refine below_set ?_ GE164.out) | exact HB.out)⟩
                · rw [if_neg c24] at H
                  have c24b0 : (t158.toList == ([] : List UInt8)) = false := beq_eq_false_iff_ne.mpr c24
                  have c24b1 : (t158.toList != ([] : List UInt8)) = true := bne_iff_ne.mpr c24
                  obtain rfl := Option.some.inj H
                  have hcz26_0 : wc.cell? ⟨gb164, 0, none⟩ = some (.string t158) := (blk_cell BK164.out 0).trans rfl
                  have hcz26_1 : wc.cell? ⟨gb164, 1, none⟩ = some (.string t159) := (blk_cell BK164.out 1).trans rfl
                  have hcz26_2 : wc.cell? ⟨gb164, 2, none⟩ = some (.bool t160) := (blk_cell BK164.out 2).trans rfl
                  have hcz26_3 : wc.cell? ⟨gb164, 3, none⟩ = some (.string t161) := (blk_cell BK164.out 3).trans rfl
                  have hcz26_4 : wc.cell? ⟨gb164, 4, none⟩ = some (.bool t162) := (blk_cell BK164.out 4).trans rfl
                  have hfz26_0 := blk_frozen BK164.out 0
                  have hfz26_1 := blk_frozen BK164.out 1
                  have hfz26_2 := blk_frozen BK164.out 2
                  have hfz26_3 := blk_frozen BK164.out 3
                  have hfz26_4 := blk_frozen BK164.out 4
                  go_wp2
                  go_ret
                  exact ⟨by first | rfl | (simp [errW_none, errW_some] <;> rfl) | (simp [*, errW_none, errW_some] <;> rfl), by repeat (first | (with_reducible first | exact HB.out | apply below_alloc | apply pw_below_drewN | apply below_drew1 | refine below_set ?_ GE164.out) | exact HB.out)⟩
              · replace c23 := Bool.eq_false_iff.mpr c23
                subst c23
                have H1 : (some false) = some r := by rw [if_neg (show ¬ (false = true) by decide)] at H; exact H
                clear H
                have H := H1
                clear H1
                obtain rfl := Option.some.inj H
                have hcz27_0 : wc.cell? ⟨gb164, 0, none⟩ = some (.string t158) := (blk_cell BK164.out 0).trans rfl
                have hcz27_1 : wc.cell? ⟨gb164, 1, none⟩ = some (.string t159) := (blk_cell BK164.out 1).trans rfl
                have hcz27_2 : wc.cell? ⟨gb164, 2, none⟩ = some (.bool t160) := (blk_cell BK164.out 2).trans rfl
                have hcz27_3 : wc.cell? ⟨gb164, 3, none⟩ = some (.string t161) := (blk_cell BK164.out 3).trans rfl
                have hcz27_4 : wc.cell? ⟨gb164, 4, none⟩ = some (.bool t162) := (blk_cell BK164.out 4).trans rfl
                have hfz27_0 := blk_frozen BK164.out 0
                have hfz27_1 := blk_frozen BK164.out 1
                have hfz27_2 := blk_frozen BK164.out 2
                have hfz27_3 := blk_frozen BK164.out 3
                have hfz27_4 := blk_frozen BK164.out 4
                go_wp2
                go_ret
                exact ⟨by first | rfl | (simp [errW_none, errW_some] <;> rfl) | (simp [*, errW_none, errW_some] <;> rfl), by repeat (first | (with_reducible first | exact HB.out | apply below_alloc | apply pw_below_drewN | apply below_drew1 | refine below_set ?_ GE164.out) | exact HB.out)⟩
          · rw [if_neg c16] at H
            have c16b0 : (t159.toList == ([44] : List UInt8)) = false := beq_eq_false_iff_ne.mpr c16
            have c16b1 : (t159.toList != ([44] : List UInt8)) = true := bne_iff_ne.mpr c16
            by_cases c28 : a0 = 63
            · rw [if_pos c28] at H
              have c28b0 : (a0 == 63) = true := beq_iff_eq.mpr c28
              have c28b1 : (a0 != 63) = false := bne_eq_false_iff_eq.mpr c28
              clear c28
              by_cases c29 : t157 = true
              · subst c29
                have H1 : (if t158.toList = ([] : List UInt8) then (some (t159.toList == ([38] : List UInt8))) else (some false)) = some r := by rw [if_pos rfl] at H; exact H
                clear H
                have H := H1
                clear H1
                by_cases c30 : t158.toList = ([] : List UInt8)
                · rw [if_pos c30] at H
                  have c30b0 : (t158.toList == ([] : List UInt8)) = true := beq_iff_eq.mpr c30
                  have c30b1 : (t158.toList != ([] : List UInt8)) = false := bne_eq_false_iff_eq.mpr c30
                  clear c30
                  obtain rfl := Option.some.inj H
                  have hcz31_0 : wc.cell? ⟨gb164, 0, none⟩ = some (.string t158) := (blk_cell BK164.out 0).trans rfl
                  have hcz31_1 : wc.cell? ⟨gb164, 1, none⟩ = some (.string t159) := (blk_cell BK164.out 1).trans rfl
                  have hcz31_2 : wc.cell? ⟨gb164, 2, none⟩ = some (.bool t160) := (blk_cell BK164.out 2).trans rfl
                  have hcz31_3 : wc.cell? ⟨gb164, 3, none⟩ = some (.string t161) := (blk_cell BK164.out 3).trans rfl
                  have hcz31_4 : wc.cell? ⟨gb164, 4, none⟩ = some (.bool t162) := (blk_cell BK164.out 4).trans rfl
                  have hfz31_0 := blk_frozen BK164.out 0
                  have hfz31_1 := blk_frozen BK164.out 1
                  have hfz31_2 := blk_frozen BK164.out 2
                  have hfz31_3 := blk_frozen BK164.out 3
                  have hfz31_4 := blk_frozen BK164.out 4
                  go_wp2
                  go_ret
                  exact ⟨by first | rfl | (simp [errW_none, errW_some] <;> rfl) | (simp [*, errW_none, errW_some] <;> rfl), by repeat (first | (with_reducible first | exact HB.out | apply below_alloc | apply pw_below_drewN | apply below_drew1 | refine below_set ?_ GE164.out) | exact HB.out)⟩
                · rw [if_neg c30] at H
                  have c30b0 : (t158.toList == ([] : List UInt8)) = false := beq_eq_false_iff_ne.mpr c30
                  have c30b1 : (t158.toList != ([] : List UInt8)) = true := bne_iff_ne.mpr c30
                  obtain rfl := Option.some.inj H
                  have hcz32_0 : wc.cell? ⟨gb164, 0, none⟩ = some (.string t158) := (blk_cell BK164.out 0).trans rfl
                  have hcz32_1 : wc.cell? ⟨gb164, 1, none⟩ = some (.string t159) := (blk_cell BK164.out 1).trans rfl
                  have hcz32_2 : wc.cell? ⟨gb164, 2, none⟩ = some (.bool t160) := (blk_cell BK164.out 2).trans rfl
                  have hcz32_3 : wc.cell? ⟨gb164, 3, none⟩ = some (.string t161) := (blk_cell BK164.out 3).trans rfl
                  have hcz32_4 : wc.cell? ⟨gb164, 4, none⟩ = some (.bool t162) := (blk_cell BK164.out 4).trans rfl
                  have hfz32_0 := blk_frozen BK164.out 0
                  have hfz32_1 := blk_frozen BK164.out 1
                  have hfz32_2 := blk_frozen BK164.out 2
                  have hfz32_3 := blk_frozen BK164.out 3
                  have hfz32_4 := blk_frozen BK164.out 4
                  go_wp2
                  go_ret
                  exact ⟨by first | rfl | (simp [errW_none, errW_some] <;> rfl) | (simp [*, errW_none, errW_some] <;> rfl), by repeat (first | (with_reducible first | exact HB.out | apply below_alloc | apply pw_below_drewN | apply below_drew1 | refine below_set ?_ GE164.out) | exact HB.out)⟩
              · replace c29 := Bool.eq_false_iff.mpr c29
                subst c29
                have H1 : (some false) = some r := by rw [if_neg (show ¬ (false = true) by decide)] at H; exact H
                clear H
                have H := H1
                clear H1
                obtain rfl := Option.some.inj H
                have hcz33_0 : wc.cell? ⟨gb164, 0, none⟩ = some (.string t158) := (blk_cell BK164.out 0).trans rfl
                have hcz33_1 : wc.cell? ⟨gb164, 1, none⟩ = some (.string t159) := (blk_cell BK164.out 1).trans rfl
                have hcz33_2 : wc.cell? ⟨gb164, 2, none⟩ = some (.bool t160) := (blk_cell BK164.out 2).trans rfl
                have hcz33_3 : wc.cell? ⟨gb164, 3, none⟩ = some (.string t161) := (blk_cell BK164.out 3).trans rfl
                have hcz33_4 : wc.cell? ⟨gb164, 4, none⟩ = some (.bool t162) := (blk_cell BK164.out 4).trans rfl
                have hfz33_0 := blk_frozen BK164.out 0
                have hfz33_1 := blk_frozen BK164.out 1
                have hfz33_2 := blk_frozen BK164.out 2
                have hfz33_3 := blk_frozen BK164.out 3
                have hfz33_4 := blk_frozen BK164.out 4
                go_wp2
                go_ret
                exact ⟨by first | rfl | (simp [errW_none, errW_some] <;> rfl) | (simp [*, errW_none, errW_some] <;> rfl), by repeat (first | (with_reducible first | exact HB.out | apply below_alloc | apply pw_below_drewN | apply below_drew1 | refine below_set ?_ GE164.out) | exact HB.out)⟩
            · rw [if_neg c28] at H
              have c28b0 : (a0 == 63) = false := beq_eq_false_iff_ne.mpr c28
              have c28b1 : (a0 != 63) = true := bne_iff_ne.mpr c28
              by_cases c34 : t157 = true
              · subst c34
                have H1 : (if t158.toList = ([] : List UInt8) then (some (t159.toList == (strOfNums y165).toList)) else (some false)) = some r := by rw [if_pos rfl] at H; exact H
                clear H
                have H := H1
                clear H1
                by_cases c35 : t158.toList = ([] : List UInt8)
                · rw [if_pos c35] at H
                  have c35b0 : (t158.toList == ([] : List UInt8)) = true := beq_iff_eq.mpr c35
                  have c35b1 : (t158.toList != ([] : List UInt8)) = false := bne_eq_false_iff_eq.mpr c35
                  clear c35
                  obtain rfl := Option.some.inj H
                  have hcz36_0 : wc.cell? ⟨gb164, 0, none⟩ = some (.string t158) := (blk_cell BK164.out 0).trans rfl
                  have hcz36_1 : wc.cell? ⟨gb164, 1, none⟩ = some (.string t159) := (blk_cell BK164.out 1).trans rfl
                  have hcz36_2 : wc.cell? ⟨gb164, 2, none⟩ = some (.bool t160) := (blk_cell BK164.out 2).trans rfl
                  have hcz36_3 : wc.cell? ⟨gb164, 3, none⟩ = some (.string t161) := (blk_cell BK164.out 3).trans rfl
                  have hcz36_4 : wc.cell? ⟨gb164, 4, none⟩ = some (.bool t162) := (blk_cell BK164.out 4).trans rfl
                  have hfz36_0 := blk_frozen BK164.out 0
                  have hfz36_1 := blk_frozen BK164.out 1
                  have hfz36_2 := blk_frozen BK164.out 2
                  have hfz36_3 := blk_frozen BK164.out 3
                  have hfz36_4 := blk_frozen BK164.out 4
                  go_wp2
                  go_ret
                  exact ⟨by first | rfl | (simp [errW_none, errW_some] <;> rfl) | (simp [*, errW_none, errW_some] <;> rfl), by repeat (first | (with_reducible first | exact HB.out | apply below_alloc | apply pw_below_drewN | apply below_drew1 | refine below_set ?_ GE164.out) | exact HB.out)⟩
                · rw [if_neg c35] at H
                  have c35b0 : (t158.toList == ([] : List UInt8)) = false := beq_eq_false_iff_ne.mpr c35
                  have c35b1 : (t158.toList != ([] : List UInt8)) = true := bne_iff_ne.mpr c35
                  obtain rfl := Option.some.inj H
                  have hcz37_0 : wc.cell? ⟨gb164, 0, none⟩ = some (.string t158) := (blk_cell BK164.out 0).trans rfl
                  have hcz37_1 : wc.cell? ⟨gb164, 1, none⟩ = some (.string t159) := (blk_cell BK164.out 1).trans rfl
                  have hcz37_2 : wc.cell? ⟨gb164, 2, none⟩ = some (.bool t160) := (blk_cell BK164.out 2).trans rfl
                  have hcz37_3 : wc.cell? ⟨gb164, 3, none⟩ = some (.string t161) := (blk_cell BK164.out 3).trans rfl
                  have hcz37_4 : wc.cell? ⟨gb164, 4, none⟩ = some (.bool t162) := (blk_cell BK164.out 4).trans rfl
                  have hfz37_0 := blk_frozen BK164.out 0
                  have hfz37_1 := blk_frozen BK164.out 1
                  have hfz37_2 := blk_frozen BK164.out 2
                  have hfz37_3 := blk_frozen BK164.out 3
                  have hfz37_4 := blk_frozen BK164.out 4
                  go_wp2
                  go_ret
                  exact ⟨by first | rfl | (simp [errW_none, errW_some] <;> rfl) | (simp [*, errW_none, errW_some] <;> rfl), by repeat (first | (with_reducible first | exact HB.out | apply below_alloc | apply pw_below_drewN | apply below_drew1 | refine below_set ?_ GE164.out) | exact HB.out)⟩
              · replace c34 := Bool.eq_false_iff.mpr c34
                subst c34
                have H1 : (some false) = some r := by rw [if_neg (show ¬ (false = true) by decide)] at H; exact H
                clear H
                have H := H1
                clear H1
                obtain rfl := Option.some.inj H
                have hcz38_0 : wc.cell? ⟨gb164, 0, none⟩ = some (.string t158) := (blk_cell BK164.out 0).trans rfl
                have hcz38_1 : wc.cell? ⟨gb164, 1, none⟩ = some (.string t159) := (blk_cell BK164.out 1).trans rfl
                have hcz38_2 : wc.cell? ⟨gb164, 2, none⟩ = some (.bool t160) := (blk_cell BK164.out 2).trans rfl
                have hcz38_3 : wc.cell? ⟨gb164, 3, none⟩ = some (.string t161) := (blk_cell BK164.out 3).trans rfl
                have hcz38_4 : wc.cell? ⟨gb164, 4, none⟩ = some (.bool t162) := (blk_cell BK164.out 4).trans rfl
                have hfz38_0 := blk_frozen BK164.out 0
                have hfz38_1 := blk_frozen BK164.out 1
                have hfz38_2 := blk_frozen BK164.out 2
                have hfz38_3 := blk_frozen BK164.out 3
                have hfz38_4 := blk_frozen BK164.out 4
                go_wp2
                go_ret
                exact ⟨by first | rfl | (simp [errW_none, errW_some] <;> rfl) | (simp [*, errW_none, errW_some] <;> rfl), by repeat (first | (with_reducible first | exact HB.out | apply below_alloc | apply pw_below_drewN | apply below_drew1 | refine below_set ?_ GE164.out) | exact HB.out)⟩
        · replace c15 := Bool.eq_false_iff.mpr c15
          subst c15
          have H1 : (if t159.toList = ([44] : List UInt8) then (if a0 = 63 then (if t157 = true then (if (t158.toList == (strOfNums y165).toList) = true then (some (t159.toList == ([38] : List UInt8))) else (some false)) else (some false)) else (if t157 = true then (if (t158.toList == (strOfNums y165).toList) = true then (some true) else (some false)) else (some false))) else (if a0 = 63 then (if t157 = true then (if (t158.toList == (strOfNums y165).toList) = true then (some (t159.toList == ([38] : List UInt8))) else (some false)) else (some false)) else (if t157 = true then (if (t158.toList == (strOfNums y165).toList) = true then (some (t159.toList == (strOfNums y165).toList)) else (some false)) else (some false)))) = some r := by rw [if_neg (show ¬ (false = true) by decide)] at H; exact H
          clear H
          have H := H1
          clear H1
          by_cases c39 : t159.toList = ([44] : List UInt8)
          · rw [if_pos c39] at H
            have c39b0 : (t159.toList == ([44] : List UInt8)) = true := beq_iff_eq.mpr c39
            have c39b1 : (t159.toList != ([44] : List UInt8)) = false := bne_eq_false_iff_eq.mpr c39
            clear c39
            by_cases c40 : a0 = 63
            · rw [if_pos c40] at H
              have c40b0 : (a0 == 63) = true := beq_iff_eq.mpr c40
              have c40b1 : (a0 != 63) = false := bne_eq_false_iff_eq.mpr c40
              clear c40
              by_cases c41 : t157 = true
              · subst c41
                have H1 : (if (t158.toList == (strOfNums y165).toList) = true then (some (t159.toList == ([38] : List UInt8))) else (some false)) = some r := by rw [if_pos rfl] at H; exact H
                clear H
                have H := H1
                clear H1
                by_cases c42 : (t158.toList == (strOfNums y165).toList) = true
                · rw [if_pos c42] at H
                  have c42b0 : (t158.toList == (strOfNums y165).toList) = true := c42
                  (try (have c42b1 : decide (t158.toList = (strOfNums y165).toList) = true := by simpa using c42))
                  (try (have c42b2 : (t158.toList == (strOfNums y165).toList) = true := by simpa using c42))
                  clear c42
                  obtain rfl := Option.some.inj H
                  have hcz43_0 : wc.cell? ⟨gb164, 0, none⟩ = some (.string t158) := (blk_cell BK164.out 0).trans rfl
                  have hcz43_1 : wc.cell? ⟨gb164, 1, none⟩ = some (.string t159) := (blk_cell BK164.out 1).trans rfl
                  have hcz43_2 : wc.cell? ⟨gb164, 2, none⟩ = some (.bool t160) := (blk_cell BK164.out 2).trans rfl
                  have hcz43_3 : wc.cell? ⟨gb164, 3, none⟩ = some (.string t161) := (blk_cell BK164.out 3).trans rfl
                  have hcz43_4 : wc.cell? ⟨gb164, 4, none⟩ = some (.bool t162) := (blk_cell BK164.out 4).trans rfl
                  have hfz43_0 := blk_frozen BK164.out 0
                  have hfz43_1 := blk_frozen BK164.out 1
                  have hfz43_2 := blk_frozen BK164.out 2
                  have hfz43_3 := blk_frozen BK164.out 3
                  have hfz43_4 := blk_frozen BK164.out 4
                  go_wp2
                  go_ret
                  exact ⟨by first | rfl | (simp [errW_none, errW_some] <;> rfl) | (simp [*, errW_none, errW_some] <;> rfl), by repeat (first | (with_reducible first | exact HB.out | apply below_alloc | apply pw_below_drewN | apply below_drew1 | refine below_set ?_ GE164.out) | exact HB.out)⟩
                · rw [if_neg c42] at H
                  have c42b0 : (t158.toList == (strOfNums y165).toList) = false := by simpa using c42
                  (try (have c42b1 : decide (t158.toList = (strOfNums y165).toList) = false := by simpa using c42))
                  (try (have c42b2 : (t158.toList == (strOfNums y165).toList) = false := by simpa using c42))
                  (try (have c42b3 : ¬ (t158.toList = (strOfNums y165).toList) := by simpa using c42))
                  clear c42
                  obtain rfl := Option.some.inj H
                  have hcz44_0 : wc.cell? ⟨gb164, 0, none⟩ = some (.string t158) := (blk_cell BK164.out 0).trans rfl
                  have hcz44_1 : wc.cell? ⟨gb164, 1, none⟩ = some (.string t159) := (blk_cell BK164.out 1).trans rfl
                  have hcz44_2 : wc.cell? ⟨gb164, 2, none⟩ = some (.bool t160) := (blk_cell BK164.out 2).trans rfl
                  have hcz44_3 : wc.cell? ⟨gb164, 3, none⟩ = some (.string t161) := (blk_cell BK164.out 3).trans rfl
                  have hcz44_4 : wc.cell? ⟨gb164, 4, none⟩ = some (.bool t162) := (blk_cell BK164.out 4).trans rfl
                  have hfz44_0 := blk_frozen BK164.out 0
                  have hfz44_1 := blk_frozen BK164.out 1
                  have hfz44_2 := blk_frozen BK164.out 2
                  have hfz44_3 := blk_frozen BK164.out 3
                  have hfz44_4 := blk_frozen BK164.out 4
                  go_wp2
                  go_ret
                  exact ⟨by first | rfl | (simp [errW_none, errW_some] <;> rfl) | (simp [*, errW_none, errW_some] <;> rfl), by repeat (first | (with_reducible first | exact HB.out | apply below_alloc | apply pw_below_drewN | apply below_drew1 | refine below_set ?_ GE164.out) | exact HB.out)⟩
              · replace c41 := Bool.eq_false_iff.mpr c41
                subst c41
                have H1 : (some false) = some r := by rw [if_neg (show ¬ (false = true) by decide)] at H; exact H
                clear H
                have H := H1
                clear H1
                obtain rfl := Option.some.inj H
                have hcz45_0 : wc.cell? ⟨gb164, 0, none⟩ = some (.string t158) := (blk_cell BK164.out 0).trans rfl
                have hcz45_1 : wc.cell? ⟨gb164, 1, none⟩ = some (.string t159) := (blk_cell BK164.out 1).trans rfl
                have hcz45_2 : wc.cell? ⟨gb164, 2, none⟩ = some (.bool t160) := (blk_cell BK164.out 2).trans rfl
                have hcz45_3 : wc.cell? ⟨gb164, 3, none⟩ = some (.string t161) := (blk_cell BK164.out 3).trans rfl
                have hcz45_4 : wc.cell? ⟨gb164, 4, none⟩ = some (.bool t162) := (blk_cell BK164.out 4).trans rfl
                have hfz45_0 := blk_frozen BK164.out 0
                have hfz45_1 := blk_frozen BK164.out 1
                have hfz45_2 := blk_frozen BK164.out 2
                have hfz45_3 := blk_frozen BK164.out 3
                have hfz45_4 := blk_frozen BK164.out 4
                go_wp2
                go_ret
                exact ⟨by first | rfl | (simp [errW_none, errW_some] <;> rfl) | (simp [*, errW_none, errW_some] <;> rfl), by repeat (first | (with_reducible first | exact HB.out | apply below_alloc | apply pw_below_drewN | apply below_drew1 | refine below_set ?_ GE164.out) | exact HB.out)⟩
            · rw [if_neg c40] at H
              have c40b0 : (a0 == 63) = false := beq_eq_false_iff_ne.mpr c40
              have c40b1 : (a0 != 63) = true := bne_iff_ne.mpr c40
              by_cases c46 : t157 = true
              · subst c46
                have H1 : (if (t158.toList == (strOfNums y165).toList) = true then (some true) else (some false)) = some r := by rw [if_pos rfl] at H; exact H
                clear H
                have H := H1
                clear H1
                by_cases c47 : (t158.toList == (strOfNums y165).toList) = true
                · rw [if_pos c47] at H
                  have c47b0 : (t158.toList == (strOfNums y165).toList) = true := c47
                  (try (have c47b1 : decide (t158.toList = (strOfNums y165).toList) = true := by simpa using c47))
                  (try (have c47b2 : (t158.toList == (strOfNums y165).toList) = true := by simpa using c47))
                  clear c47
                  obtain rfl := Option.some.inj H
                  have hcz48_0 : wc.cell? ⟨gb164, 0, none⟩ = some (.string t158) := (blk_cell BK164.out 0).trans rfl
                  have hcz48_1 : wc.cell? ⟨gb164, 1, none⟩ = some (.string t159) := (blk_cell BK164.out 1).trans rfl
                  have hcz48_2 : wc.cell? ⟨gb164, 2, none⟩ = some (.bool t160) := (blk_cell BK164.out 2).trans rfl
                  have hcz48_3 : wc.cell? ⟨gb164, 3, none⟩ = some (.string t161) := (blk_cell BK164.out 3).trans rfl
                  have hcz48_4 : wc.cell? ⟨gb164, 4, none⟩ = some (.bool t162) := (blk_cell BK164.out 4).trans rfl
                  have hfz48_0 := blk_frozen BK164.out 0
                  have hfz48_1 := blk_frozen BK164.out 1
                  have hfz48_2 := blk_frozen BK164.out 2
                  have hfz48_3 := blk_frozen BK164.out 3
                  have hfz48_4 := blk_frozen BK164.out 4
                  go_wp2
                  go_ret
                  exact ⟨by first | rfl | (simp [errW_none, errW_some] <;> rfl) | (simp [*, errW_none, errW_some] <;> rfl), by repeat (first | (with_reducible first | exact HB.out | apply below_alloc | apply pw_below_drewN | apply below_drew1 | refine below_set ?_ GE164.out) | exact HB.out)⟩
                · rw [if_neg c47] at H
                  have c47b0 : (t158.toList == (strOfNums y165).toList) = false := by simpa using c47
                  (try (have c47b1 : decide (t158.toList = (strOfNums y165).toList) = false := by simpa using c47))
                  (try (have c47b2 : (t158.toList == (strOfNums y165).toList) = false := by simpa using c47))
                  (try (have c47b3 : ¬ (t158.toList = (strOfNums y165).toList) := by simpa using c47))
                  clear c47
                  obtain rfl := Option.some.inj H
                  have hcz49_0 : wc.cell? ⟨gb164, 0, none⟩ = some (.string t158) := (blk_cell BK164.out 0).trans rfl
                  have hcz49_1 : wc.cell? ⟨gb164, 1, none⟩ = some (.string t159) := (blk_cell BK164.out 1).trans rfl
                  have hcz49_2 : wc.cell? ⟨gb164, 2, none⟩ = some (.bool t160) := (blk_cell BK164.out 2).trans rfl
                  have hcz49_3 : wc.cell? ⟨gb164, 3, none⟩ = some (.string t161) := (blk_cell BK164.out 3).trans rfl
                  have hcz49_4 : wc.cell? ⟨gb164, 4, none⟩ = some (.bool t162) := (blk_cell BK164.out 4).trans rfl
                  have hfz49_0 := blk_frozen BK164.out 0
                  have hfz49_1 := blk_frozen BK164.out 1
                  have hfz49_2 := blk_frozen BK164.out 2
                  have hfz49_3 := blk_frozen BK164.out 3
                  have hfz49_4 := blk_frozen BK164.out 4
                  go_wp2
                  go_ret
                  exact ⟨by first | rfl | (simp [errW_none, errW_some] <;> rfl) | (simp [*, errW_none, errW_some] <;> rfl), by repeat (first | (with_reducible first | exact HB.out | apply below_alloc | apply pw_below_drewN | apply below_drew1 | refine below_set ?_ GE164.out) | exact HB.out)⟩
              · replace c46 := Bool.eq_false_iff.mpr c46
                subst c46
                have H1 : (some false) = some r := by rw [if_neg (show ¬ (false = true) by decide)] at H; exact H
                clear H
                have H := H1
                clear H1
                obtain rfl := Option.some.inj H
                have hcz50_0 : wc.cell? ⟨gb164, 0, none⟩ = some (.string t158) := (blk_cell BK164.out 0).trans rfl
                have hcz50_1 : wc.cell? ⟨gb164, 1, none⟩ = some (.string t159) := (blk_cell BK164.out 1).trans rfl
                have hcz50_2 : wc.cell? ⟨gb164, 2, none⟩ = some (.bool t160) := (blk_cell BK164.out 2).trans rfl
                have hcz50_3 : wc.cell? ⟨gb164, 3, none⟩ = some (.string t161) := (blk_cell BK164.out 3).trans rfl
                have hcz50_4 : wc.cell? ⟨gb164, 4, none⟩ = some (.bool t162) := (blk_cell BK164.out 4).trans rfl
                have hfz50_0 := blk_frozen BK164.out 0
                have hfz50_1 := blk_frozen BK164.out 1
                have hfz50_2 := blk_frozen BK164.out 2
                have hfz50_3 := blk_frozen BK164.out 3
                have hfz50_4 := blk_frozen BK164.out 4
                go_wp2
                go_ret
                exact ⟨by first | rfl | (simp [errW_none, errW_some] <;> rfl) | (simp [*, errW_none, errW_some] <;> rfl), by repeat (first | (with_reducible first | exact HB.out | apply below_alloc | apply pw_below_drewN | apply below_drew1 | refine below_set ?_ GE164.out) | exact HB.out)⟩
          · rw [if_neg c39] at H
            have c39b0 : (t159.toList == ([44] : List UInt8)) = false := beq_eq_false_iff_ne.mpr c39
            have c39b1 : (t159.toList != ([44] : List UInt8)) = true := bne_iff_ne.mpr c39
            by_cases c51 : a0 = 63
            · rw [if_pos c51] at H
              have c51b0 : (a0 == 63) = true := beq_iff_eq.mpr c51
              have c51b1 : (a0 != 63) = false := bne_eq_false_iff_eq.mpr c51
              clear c51
              by_cases c52 : t157 = true
              · subst c52
                have H1 : (if (t158.toList == (strOfNums y165).toList) = true then (some (t159.toList == ([38] : List UInt8))) else (some false)) = some r := by rw [if_pos rfl] at H; exact H
                clear H
                have H := H1
                clear H1
                by_cases c53 : (t158.toList == (strOfNums y165).toList) = true
                · rw [if_pos c53] at H
                  have c53b0 : (t158.toList == (strOfNums y165).toList) = true := c53
                  (try (have c53b1 : decide (t158.toList = (strOfNums y165).toList) = true := by simpa using c53))
                  (try (have c53b2 : (t158.toList == (strOfNums y165).toList) = true := by simpa using c53))
                  clear c53
                  obtain rfl := Option.some.inj H
                  have hcz54_0 : wc.cell? ⟨gb164, 0, none⟩ = some (.string t158) := (blk_cell BK164.out 0).trans rfl
                  have hcz54_1 : wc.cell? ⟨gb164, 1, none⟩ = some (.string t159) := (blk_cell BK164.out 1).trans rfl
                  have hcz54_2 : wc.cell? ⟨gb164, 2, none⟩ = some (.bool t160) := (blk_cell BK164.out 2).trans rfl
                  have hcz54_3 : wc.cell? ⟨gb164, 3, none⟩ = some (.string t161) := (blk_cell BK164.out 3).trans rfl
                  have hcz54_4 : wc.cell? ⟨gb164, 4, none⟩ = some (.bool t162) := (blk_cell BK164.out 4).trans rfl
                  have hfz54_0 := blk_frozen BK164.out 0
                  have hfz54_1 := blk_frozen BK164.out 1
                  have hfz54_2 := blk_frozen BK164.out 2
                  have hfz54_3 := blk_frozen BK164.out 3
                  have hfz54_4 := blk_frozen BK164.out 4
                  go_wp2
                  go_ret
                  exact ⟨by first | rfl | (simp [errW_none, errW_some] <;> rfl) | (simp [*, errW_none, errW_some] <;> rfl), by repeat (first | (with_reducible first | exact HB.out | apply below_alloc | apply pw_below_drewN | apply below_drew1 | refine below_set ?_ GE164.out) | exact HB.out)⟩
                · rw [if_neg c53] at H
                  have c53b0 : (t158.toList == (strOfNums y165).toList) = false := by simpa using c53
                  (try (have c53b1 : decide (t158.toList = (strOfNums y165).toList) = false := by simpa using c53))
                  (try (have c53b2 : (t158.toList == (strOfNums y165).toList) = false := by simpa using c53))
                  (try (have c53b3 : ¬ (t158.toList = (strOfNums y165).toList) := by simpa using c53))
                  clear c53
                  obtain rfl := Option.some.inj H
                  have hcz55_0 : wc.cell? ⟨gb164, 0, none⟩ = some (.string t158) := (blk_cell BK164.out 0).trans rfl
                  have hcz55_1 : wc.cell? ⟨gb164, 1, none⟩ = some (.string t159) := (blk_cell BK164.out 1).trans rfl
                  have hcz55_2 : wc.cell? ⟨gb164, 2, none⟩ = some (.bool t160) := (blk_cell BK164.out 2).trans rfl
                  have hcz55_3 : wc.cell? ⟨gb164, 3, none⟩ = some (.string t161) := (blk_cell BK164.out 3).trans rfl
                  have hcz55_4 : wc.cell? ⟨gb164, 4, none⟩ = some (.bool t162) := (blk_cell BK164.out 4).trans rfl
                  have hfz55_0 := blk_frozen BK164.out 0
                  have hfz55_1 := blk_frozen BK164.out 1
                  have hfz55_2 := blk_frozen BK164.out 2
                  have hfz55_3 := blk_frozen BK164.out 3
                  have hfz55_4 := blk_frozen BK164.out 4
                  go_wp2
                  go_ret
                  exact ⟨by first | rfl | (simp [errW_none, errW_some] <;> rfl) | (simp [*, errW_none, errW_some] <;> rfl), by repeat (first | (with_reducible first | exact HB.out | apply below_alloc | apply pw_below_drewN | apply below_drew1 | refine below_set ?_ GE164.out) | exact HB.out)⟩
              · replace c52 := Bool.eq_false_iff.mpr c52
                subst c52
                have H1 : (some false) = some r := by rw [if_neg (show ¬ (false = true) by decide)] at H; exact H
                clear H
                have H := H1
                clear H1
                obtain rfl := Option.some.inj H
                have hcz56_0 : wc.cell? ⟨gb164, 0, none⟩ = some (.string t158) := (blk_cell BK164.out 0).trans rfl
                have hcz56_1 : wc.cell? ⟨gb164, 1, none⟩ = some (.string t159) := (blk_cell BK164.out 1).trans rfl
                have hcz56_2 : wc.cell? ⟨gb164, 2, none⟩ = some (.bool t160) := (blk_cell BK164.out 2).trans rfl
                have hcz56_3 : wc.cell? ⟨gb164, 3, none⟩ = some (.string t161) := (blk_cell BK164.out 3).trans rfl
                have hcz56_4 : wc.cell? ⟨gb164, 4, none⟩ = some (.bool t162) := (blk_cell BK164.out 4).trans rfl
                have hfz56_0 := blk_frozen BK164.out 0
                have hfz56_1 := blk_frozen BK164.out 1
                have hfz56_2 := blk_frozen BK164.out 2
                have hfz56_3 := blk_frozen BK164.out 3
                have hfz56_4 := blk_frozen BK164.out 4
                go_wp2
                go_ret
                exact ⟨by first | rfl | (simp [errW_none, errW_some] <;> rfl) | (simp [*, errW_none, errW_some] <;> rfl), by repeat (first | (with_reducible first | exact HB.out | apply below_alloc | apply pw_below_drewN | apply below_drew1 | refine below_set ?_ GE164.out) | exact HB.out)⟩
            · rw [if_neg c51] at H
              have c51b0 : (a0 == 63) = false := beq_eq_false_iff_ne.mpr c51
              have c51b1 : (a0 != 63) = true := bne_iff_ne.mpr c51
              by_cases c57 : t157 = true
              · subst c57
                have H1 : (if (t158.toList == (strOfNums y165).toList) = true then (some (t159.toList == (strOfNums y165).toList)) else (some false)) = some r := by rw [if_pos rfl] at H; exact H
                clear H
                have H := H1
                clear H1
                by_cases c58 : (t158.toList == (strOfNums y165).toList) = true
                · rw [if_pos c58] at H
                  have c58b0 : (t158.toList == (strOfNums y165).toList) = true := c58
                  (try (have c58b1 : decide (t158.toList = (strOfNums y165).toList) = true := by simpa using c58))
                  (try (have c58b2 : (t158.toList == (strOfNums y165).toList) = true := by simpa using c58))
                  clear c58
                  obtain rfl := Option.some.inj H
                  have hcz59_0 : wc.cell? ⟨gb164, 0, none⟩ = some (.string t158) := (blk_cell BK164.out 0).trans rfl
                  have hcz59_1 : wc.cell? ⟨gb164, 1, none⟩ = some (.string t159) := (blk_cell BK164.out 1).trans rfl
                  have hcz59_2 : wc.cell? ⟨gb164, 2, none⟩ = some (.bool t160) := (blk_cell BK164.out 2).trans rfl
                  have hcz59_3 : wc.cell? ⟨gb164, 3, none⟩ = some (.string t161) := (blk_cell BK164.out 3).trans rfl
                  have hcz59_4 : wc.cell? ⟨gb164, 4, none⟩ = some (.bool t162) := (blk_cell BK164.out 4).trans rfl
                  have hfz59_0 := blk_frozen BK164.out 0
                  have hfz59_1 := blk_frozen BK164.out 1
                  have hfz59_2 := blk_frozen BK164.out 2
                  have hfz59_3 := blk_frozen BK164.out 3
                  have hfz59_4 := blk_frozen BK164.out 4
                  go_wp2
                  go_ret
                  exact ⟨by first | rfl | (simp [errW_none, errW_some] <;> rfl) | (simp [*, errW_none, errW_some] <;> rfl), by repeat (first | (with_reducible first | exact HB.out | apply below_alloc | apply pw_below_drewN | apply below_drew1 | refine below_set ?_ GE164.out) | exact HB.out)⟩
                · rw [if_neg c58] at H
                  have c58b0 : (t158.toList == (strOfNums y165).toList) = false := by simpa using c58
                  (try (have c58b1 : decide (t158.toList = (strOfNums y165).toList) = false := by simpa using c58))
                  (try (have c58b2 : (t158.toList == (strOfNums y165).toList) = false := by simpa using c58))
                  (try (have c58b3 : ¬ (t158.toList = (strOfNums y165).toList) := by simpa using c58))
                  clear c58
                  obtain rfl := Option.some.inj H
                  have hcz60_0 : wc.cell? ⟨gb164, 0, none⟩ = some (.string t158) := (blk_cell BK164.out 0).trans rfl
                  have hcz60_1 : wc.cell? ⟨gb164, 1, none⟩ = some (.string t159) := (blk_cell BK164.out 1).trans rfl
                  have hcz60_2 : wc.cell? ⟨gb164, 2, none⟩ = some (.bool t160) := (blk_cell BK164.out 2).trans rfl
                  have hcz60_3 : wc.cell? ⟨gb164, 3, none⟩ = some (.string t161) := (blk_cell BK164.out 3).trans rfl
                  have hcz60_4 : wc.cell? ⟨gb164, 4, none⟩ = some (.bool t162) := (blk_cell BK164.out 4).trans rfl
                  have hfz60_0 := blk_frozen BK164.out 0
                  have hfz60_1 := blk_frozen BK164.out 1
                  have hfz60_2 := blk_frozen BK164.out 2
                  have hfz60_3 := blk_frozen BK164.out 3
                  have hfz60_4 := blk_frozen BK164.out 4
                  go_wp2
                  go_ret
                  exact ⟨by first | rfl | (simp [errW_none, errW_some] <;> rfl) | (simp [*, errW_none, errW_some] <;> rfl), by repeat (first | (with_reducible first | exact HB.out | apply below_alloc | apply pw_below_drewN | apply below_drew1 | refine below_set ?_ GE164.out) | exact HB.out)⟩
              · replace c57 := Bool.eq_false_iff.mpr c57
                subst c57
                have H1 : (some false) = some r := by rw [if_neg (show ¬ (false = true) by decide)] at H; exact H
                clear H
                have H := H1
                clear H1
                obtain rfl := Option.some.inj H
                have hcz61_0 : wc.cell? ⟨gb164, 0, none⟩ = some (.string t158) := (blk_cell BK164.out 0).trans rfl
                have hcz61_1 : wc.cell? ⟨gb164, 1, none⟩ = some (.string t159) := (blk_cell BK164.out 1).trans rfl
                have hcz61_2 : wc.cell? ⟨gb164, 2, none⟩ = some (.bool t160) := (blk_cell BK164.out 2).trans rfl
                have hcz61_3 : wc.cell? ⟨gb164, 3, none⟩ = some (.string t161) := (blk_cell BK164.out 3).trans rfl
                have hcz61_4 : wc.cell? ⟨gb164, 4, none⟩ = some (.bool t162) := (blk_cell BK164.out 4).trans rfl
                have hfz61_0 := blk_frozen BK164.out 0
                have hfz61_1 := blk_frozen BK164.out 1
                have hfz61_2 := blk_frozen BK164.out 2
                have hfz61_3 := blk_frozen BK164.out 3
                have hfz61_4 := blk_frozen BK164.out 4
                go_wp2
                go_ret
                exact ⟨by first | rfl | (simp [errW_none, errW_some] <;> rfl) | (simp [*, errW_none, errW_some] <;> rfl), by repeat (first | (with_reducible first | exact HB.out | apply below_alloc | apply pw_below_drewN | apply below_drew1 | refine below_set ?_ GE164.out) | exact HB.out)⟩
  · replace c4 := Bool.eq_false_iff.mpr c4
    subst c4
    have H1 : (some t157) = some r := by rw [if_neg (show ¬ (false = true) by decide)] at H; exact H
    clear H
    have H := H1
    clear H1
    obtain rfl := Option.some.inj H
    go_enter Try.func6, Try.ntmps6
    go_wp2_with (first | ((with_reducible refine gate_callee (f := 8) rfl ?_); refine goesL_ (some 9) rfl rfl Try.func8 (by kernel_rfl) rfl #[] rfl (by (try simp only [List.map_toArray, List.map_cons, List.map_nil]); first | done | rfl | (simp only [List.length_drop, List.length_take]; rfl)) ?_; (with_reducible refine (phalaropelaw10_awake.calls  t157 _ A2.out).mono ?_); rintro e w62 ⟨rfl, hb⟩; refine ⟨_, rfl, ?_⟩; have n0_ := Aside0.mk (below_step (by repeat (first | (with_reducible first | exact HB.out | apply below_alloc | apply pw_below_drewN | apply below_drew1) | exact HB.out)) hb); clear HB; have HB := n0_; clear n0_; (try clear hb); (try clear hb2); (try clear hk); (try clear hi)) | ((with_reducible refine gate_callee (f := 9) rfl ?_); refine goesL_ (some 12) rfl rfl Try.func9 (by kernel_rfl) rfl #[.int .u8 a0] rfl (by (try simp only [List.map_toArray, List.map_cons, List.map_nil]); first | done | rfl | (simp only [List.length_drop, List.length_take]; rfl)) ?_; (with_reducible refine (oper_Of.calls a0 t158 t159 t160 t161 t162 false _ A3.out).mono ?_); rintro e w63 ⟨rfl, hb⟩; refine ⟨_, rfl, ?_⟩; have n0_ := Aside0.mk (below_step (by repeat (first | (with_reducible first | exact HB.out | apply below_alloc | apply pw_below_drewN | apply below_drew1) | exact HB.out)) hb); clear HB; have HB := n0_; clear n0_; (try clear hb); (try clear hb2); (try clear hk); (try clear hi)) | ((with_reducible refine gate_dst (N := 4) rfl ?_); refine box_event ?hg (N := 4) ?hd (cs := #[.string (⟨#[]⟩ : ByteArray), .string (⟨#[]⟩ : ByteArray), .bool false, .string (⟨#[]⟩ : ByteArray), .bool false]) (t := 24) ?hr ?_; (case hd => rfl); (case hg => rfl); (case hr => first | (go_simp; done) | (go_simp; rfl)); intro gb164 hg w64 hbox hb; have n0_ := Aside0.mk (below_step (by repeat (first | (with_reducible first | exact HB.out | apply below_alloc | apply pw_below_drewN | apply below_drew1) | exact HB.out)) hb); have n1_ := Aside0.mk (hbox); have n2_ := Aside0.mk ((by rw [hg]; exact (below_size (by repeat (first | (with_reducible first | exact HB.out | apply below_alloc | apply pw_below_drewN | apply below_drew1) | exact HB.out))) : w.heap.size ≤ gb164)); have n3_ := Aside0.mk ((by rw [hg]; exact (below_size (by repeat (first | (with_reducible first | exact HB.out | apply below_alloc | apply pw_below_drewN | apply below_drew1) | exact HB.out))) : w.heap.size ≤ gb164)); clear HB; have HB := n0_; have BK164 := n1_; have GW164 := n2_; have GE164 := n3_; clear n0_ n1_ n2_ n3_; clear hb hbox hg; have hcz65_0 : w64.cell? ⟨gb164, 0, none⟩ = some (.string (⟨#[]⟩ : ByteArray)) := (blk_cell BK164.out 0).trans rfl; have hcz65_1 : w64.cell? ⟨gb164, 1, none⟩ = some (.string (⟨#[]⟩ : ByteArray)) := (blk_cell BK164.out 1).trans rfl; have hcz65_2 : w64.cell? ⟨gb164, 2, none⟩ = some (.bool false) := (blk_cell BK164.out 2).trans rfl; have hcz65_3 : w64.cell? ⟨gb164, 3, none⟩ = some (.string (⟨#[]⟩ : ByteArray)) := (blk_cell BK164.out 3).trans rfl; have hcz65_4 : w64.cell? ⟨gb164, 4, none⟩ = some (.bool false) := (blk_cell BK164.out 4).trans rfl; have hfz65_0 := blk_frozen BK164.out 0; have hfz65_1 := blk_frozen BK164.out 1; have hfz65_2 := blk_frozen BK164.out 2; have hfz65_3 := blk_frozen BK164.out 3; have hfz65_4 := blk_frozen BK164.out 4))
    go_ret
    exact ⟨by first | rfl | (simp [errW_none, errW_some] <;> rfl) | (simp [*, errW_none, errW_some] <;> rfl), by repeat (first | (with_reducible first | exact HB.out | apply below_alloc | apply pw_below_drewN | apply below_drew1 | refine below_set ?_ GE164.out) | exact HB.out)⟩

/-- THE ONE PURE STATEMENT of phalaropelaw10_OperSelf: yours. -/
def phalaropelaw10_OperSelf.Pure : Prop := ∀ (a0 : Int), (Lit.int .u8 a0).wf = true → ∃ k, phalaropelaw10_OperSelf.f k a0 = some true
theorem phalaropelaw10_OperSelf.walk (P : phalaropelaw10_OperSelf.Pure) (a0 : Int) (w : World) (w0 : (Lit.int .u8 a0).wf = true) :
    Calls Try.prog 6 #[.int .u8 a0] w fun e w' => e = .returned (.bool true) ∧ Below w.heap.size w w' := by
  obtain ⟨k, h⟩ := P a0 w0
  refine (phalaropelaw10_OperSelf.calls k a0 true w h).mono ?_
  rintro e w' ⟨rfl, hd⟩
  exact ⟨rfl, hd⟩

end Go.Proofs.Ytakgimjaiplmgaa.PA
