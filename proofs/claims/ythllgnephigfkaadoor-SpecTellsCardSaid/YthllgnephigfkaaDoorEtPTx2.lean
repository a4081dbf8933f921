-- Printed by wip/xprint.py of this claim's authors, over the kit's print; not trusted: Lean checks it.
import Derived.Test.YthllgnephigfkaaDoorEtPTx0
import Derived.Test.YthllgnephigfkaaDoorEtPTx1
namespace Go.Proofs.YthllgnephigfkaaDoor.PT
open Go.RowKit Go.Proofs.YthllgnephigfkaaDoorW.PrintWords Go.Proofs.YthllgnephigfkaaDoorW.PrintLast Go.Proofs.YthllgnephigfkaaDoorW.PrintMore
attribute [local go_sem] max2_int min2_int max_two min_two max_three min_three max_four min_four   -- for this text's walks alone
set_option linter.unusedVariables false
set_option linter.unusedSimpArgs false
attribute [local go_sem high] eqA23
def spec_Take.f (a0 : ByteArray) : Option (ByteArray × Int × Bool × Int × Int) := if a0.size ≤ 1000000 then some (Y.takV a0) else none
set_option maxHeartbeats 8000000 in
set_option maxRecDepth 100000 in
theorem spec_Take.calls (a0 : ByteArray) (r1 : ByteArray) (r2 : Int) (r3 : Bool) (r4 : Int) (r5 : Int) (w : World) (h : spec_Take.f a0 = some (r1, r2, r3, r4, r5)) (hG : X.Gl w) :
    Calls Tryd.prog 10 #[.string a0] w fun e w' => e = .returned (.tuple #[.agg #[.string r1, .int .i64 r2, .bool r3], .int .i64 r4, .int .i64 r5]) ∧ Below w.heap.size w w' := by
  simp only [spec_Take.f] at h
  split at h
  · rename_i hs
    have hR := Option.some.inj h
    have e1 : (Y.takV a0).1 = _ := congrArg (fun x => x.1) hR
    have e2 : (Y.takV a0).2.1 = _ := congrArg (fun x => x.2.1) hR
    have e3 : (Y.takV a0).2.2.1 = _ := congrArg (fun x => x.2.2.1) hR
    have e4 : (Y.takV a0).2.2.2.1 = _ := congrArg (fun x => x.2.2.2.1) hR
    have e5 : (Y.takV a0).2.2.2.2 = _ := congrArg (fun x => x.2.2.2.2) hR
    refine (X.take_any a0 w hs hG).mono fun e w' he => ⟨?_, he.2⟩
    rw [he.1, e1, e2, e3, e4, e5]
  · cases h
def vname_May.f (a0 : ByteArray) : Option (Bool) := if a0.size ≤ 1000000 then some (Y.nameMay a0) else none
set_option maxHeartbeats 8000000 in
set_option maxRecDepth 100000 in
theorem vname_May.calls (a0 : ByteArray) (r : Bool) (w : World) (h : vname_May.f a0 = some r) :
    Calls Tryd.prog 23 #[.string a0] w fun e w' => e = .returned (.bool r) ∧ Below w.heap.size w w' := by
  simp only [vname_May.f] at h
  split at h
  · rename_i hs
    obtain rfl := Option.some.inj h
    exact X.vnameMay_any a0 w (by omega)
  · cases h
def spec_May.f (a0_0 : ByteArray) (a0_1 : Int) (a0_2 : Bool) : Option (Bool) := (vname_May.f a0_0).bind fun t102 => (if t102 = true then (if a0_1 ≥ 0 then (if a0_1 ≤ 9999 then (if a0_2 = true then (some (!(decide (a0_1 > 0)))) else (some (!false))) else (some false)) else (some false)) else (some false))
set_option maxHeartbeats 8000000 in
set_option maxRecDepth 100000 in
theorem spec_May.calls (a0_0 : ByteArray) (a0_1 : Int) (a0_2 : Bool) (r : Bool) (w : World) (h : spec_May.f a0_0 a0_1 a0_2 = some r) :
  Calls Tryd.prog 12 #[.agg #[.string a0_0, .int .i64 a0_1, .bool a0_2]] w fun e w' => e = .returned (.bool r) ∧ Below w.heap.size w w' := by
 have hu23 := Tryd.underlying23
 have HB := Aside0.mk (Below.refl w.heap.size w)
 have H : ((vname_May.f a0_0).bind fun t102 => (if t102 = true then (if a0_1 ≥ 0 then (if a0_1 ≤ 9999 then (if a0_2 = true then (some (!(decide (a0_1 > 0)))) else (some (!false))) else (some false)) else (some false)) else (some false))) = some r := h
 clear h
 replace H := Option.bind_eq_some_iff.mp H
 obtain ⟨t102, A20, H⟩ := H
 replace H : (if t102 = true then (if a0_1 ≥ 0 then (if a0_1 ≤ 9999 then (if a0_2 = true then (some (!(decide (a0_1 > 0)))) else (some (!false))) else (some false)) else (some false)) else (some false)) = some r := H
 have A2 := Aside0.mk A20
 clear A20
 by_cases c3 : t102 = true
 ·subst c3
  have H1 : (if a0_1 ≥ 0 then (if a0_1 ≤ 9999 then (if a0_2 = true then (some (!(decide (a0_1 > 0)))) else (some (!false))) else (some false)) else (some false)) = some r := by rw [if_pos rfl] at H; exact H
  clear H
  have H := H1
  clear H1
  by_cases c4 : a0_1 ≥ 0
  ·rw [if_pos c4] at H
   have c4b0 : decide (0 ≤ a0_1) = true := decide_eq_true c4
   clear c4
   by_cases c5 : a0_1 ≤ 9999
   ·rw [if_pos c5] at H
    have c5b0 : decide (a0_1 ≤ 9999) = true := decide_eq_true c5
    clear c5
    by_cases c6 : a0_2 = true
    ·subst c6
     have H1 : (some (!(decide (a0_1 > 0)))) = some r := by rw [if_pos rfl] at H; exact H
     clear H
     have H := H1
     clear H1
     obtain rfl := Option.some.inj H
     go_enter Tryd.func12, Tryd.ntmps12
     go_wp2_with (first | ((with_reducible refine gate_dst (N := 1) rfl ?_); refine box_event ?hg (N := 1) ?hd (cs := #[.string a0_0, .int .i64 a0_1, .bool true]) (t := 23) ?hr ?_; (case hd => rfl); (case hg => rfl); (case hr => first | (go_simp; done) | (go_simp; rfl)); intro gb101 hg w7 hbox hb; have n0_ := Aside0.mk (below_step (by repeat (with_reducible first | exact HB.out | apply lA | apply pw_below_drewN | apply lD)) hb); have n1_ := Aside0.mk (hbox); have n2_ := Aside0.mk ((by rw [hg]; exact (below_size (by repeat (with_reducible first | exact HB.out | apply lA | apply pw_below_drewN | apply lD))) : w.heap.size ≤ gb101)); have n3_ := Aside0.mk ((by rw [hg]; exact (below_size (by repeat (with_reducible first | exact HB.out | apply lA | apply pw_below_drewN | apply lD))) : w.heap.size ≤ gb101)); clear HB; have HB := n0_; have BK101 := n1_; have GW101 := n2_; have GE101 := n3_; clear n0_ n1_ n2_ n3_; clear hb hbox hg; have hcz8_0 : w7.cell? ⟨gb101, 0, none⟩ = some (.string a0_0) := (blk_cell BK101.out 0).trans rfl; have hcz8_1 : w7.cell? ⟨gb101, 1, none⟩ = some (.int .i64 a0_1) := (blk_cell BK101.out 1).trans rfl; have hcz8_2 : w7.cell? ⟨gb101, 2, none⟩ = some (.bool true) := (blk_cell BK101.out 2).trans rfl; have hfz8_0 := blk_frozen BK101.out 0; have hfz8_1 := blk_frozen BK101.out 1; have hfz8_2 := blk_frozen BK101.out 2) | ((with_reducible refine gate_callee (f := 23) rfl ?_); refine goesL_ (some 5) rfl rfl Tryd.func23 (by kernel_rfl) rfl #[.string a0_0] rfl (by (try simp only [List.map_toArray, List.map_cons, List.map_nil]); first | done | rfl) ?_; (with_reducible refine (vname_May.calls a0_0 true _ A2.out).mono ?_); rintro e w9 ⟨rfl, hb⟩; refine ⟨_, rfl, ?_⟩; have n0_ := Aside0.mk (blk_below (g := gb101) (o := .cells #[.string a0_0, .int .i64 a0_1, .bool true] 23 (0, 0)) (by (with_reducible repeat first | apply bN | apply bD | apply bA); exact BK101.out) hb); have n1_ := Aside0.mk (below_step (by repeat (with_reducible first | exact HB.out | apply lA | apply pw_below_drewN | apply lD | refine below_set ?_ GE101.out)) hb); clear BK101; clear HB; have BK101 := n0_; have HB := n1_; clear n0_ n1_; (try clear hb); (try clear hb2); (try clear hk); (try clear hi); have hcz10_0 : w9.cell? ⟨gb101, 0, none⟩ = some (.string a0_0) := (blk_cell BK101.out 0).trans rfl; have hcz10_1 : w9.cell? ⟨gb101, 1, none⟩ = some (.int .i64 a0_1) := (blk_cell BK101.out 1).trans rfl; have hcz10_2 : w9.cell? ⟨gb101, 2, none⟩ = some (.bool true) := (blk_cell BK101.out 2).trans rfl; have hfz10_0 := blk_frozen BK101.out 0; have hfz10_1 := blk_frozen BK101.out 1; have hfz10_2 := blk_frozen BK101.out 2))
     go_ret
     exact ⟨by first | rfl | (simp [errW_none, errW_some] <;> rfl) | (simp [*, errW_none, errW_some] <;> rfl), by repeat (with_reducible first | exact HB.out | apply lA | apply pw_below_drewN | apply lD | refine below_set ?_ GE101.out)⟩
    ·replace c6 := Bool.eq_false_iff.mpr c6
     subst c6
     have H1 : (some (!false)) = some r := by rw [if_neg (show ¬ (false = true) by decide)] at H; exact H
     clear H
     have H := H1
     clear H1
     obtain rfl := Option.some.inj H
     go_enter Tryd.func12, Tryd.ntmps12
     go_wp2_with (first | ((with_reducible refine gate_dst (N := 1) rfl ?_); refine box_event ?hg (N := 1) ?hd (cs := #[.string a0_0, .int .i64 a0_1, .bool false]) (t := 23) ?hr ?_; (case hd => rfl); (case hg => rfl); (case hr => first | (go_simp; done) | (go_simp; rfl)); intro gb101 hg w11 hbox hb; have n0_ := Aside0.mk (below_step (by repeat (with_reducible first | exact HB.out | apply lA | apply pw_below_drewN | apply lD)) hb); have n1_ := Aside0.mk (hbox); have n2_ := Aside0.mk ((by rw [hg]; exact (below_size (by repeat (with_reducible first | exact HB.out | apply lA | apply pw_below_drewN | apply lD))) : w.heap.size ≤ gb101)); have n3_ := Aside0.mk ((by rw [hg]; exact (below_size (by repeat (with_reducible first | exact HB.out | apply lA | apply pw_below_drewN | apply lD))) : w.heap.size ≤ gb101)); clear HB; have HB := n0_; have BK101 := n1_; have GW101 := n2_; have GE101 := n3_; clear n0_ n1_ n2_ n3_; clear hb hbox hg; have hcz12_0 : w11.cell? ⟨gb101, 0, none⟩ = some (.string a0_0) := (blk_cell BK101.out 0).trans rfl; have hcz12_1 : w11.cell? ⟨gb101, 1, none⟩ = some (.int .i64 a0_1) := (blk_cell BK101.out 1).trans rfl; have hcz12_2 : w11.cell? ⟨gb101, 2, none⟩ = some (.bool false) := (blk_cell BK101.out 2).trans rfl; have hfz12_0 := blk_frozen BK101.out 0; have hfz12_1 := blk_frozen BK101.out 1; have hfz12_2 := blk_frozen BK101.out 2) | ((with_reducible refine gate_callee (f := 23) rfl ?_); refine goesL_ (some 5) rfl rfl Tryd.func23 (by kernel_rfl) rfl #[.string a0_0] rfl (by (try simp only [List.map_toArray, List.map_cons, List.map_nil]); first | done | rfl) ?_; (with_reducible refine (vname_May.calls a0_0 true _ A2.out).mono ?_); rintro e w13 ⟨rfl, hb⟩; refine ⟨_, rfl, ?_⟩; have n0_ := Aside0.mk (blk_below (g := gb101) (o := .cells #[.string a0_0, .int .i64 a0_1, .bool false] 23 (0, 0)) (by (with_reducible repeat first | apply bN | apply bD | apply bA); exact BK101.out) hb); have n1_ := Aside0.mk (below_step (by repeat (with_reducible first | exact HB.out | apply lA | apply pw_below_drewN | apply lD | refine below_set ?_ GE101.out)) hb); clear BK101; clear HB; have BK101 := n0_; have HB := n1_; clear n0_ n1_; (try clear hb); (try clear hb2); (try clear hk); (try clear hi); have hcz14_0 : w13.cell? ⟨gb101, 0, none⟩ = some (.string a0_0) := (blk_cell BK101.out 0).trans rfl; have hcz14_1 : w13.cell? ⟨gb101, 1, none⟩ = some (.int .i64 a0_1) := (blk_cell BK101.out 1).trans rfl; have hcz14_2 : w13.cell? ⟨gb101, 2, none⟩ = some (.bool false) := (blk_cell BK101.out 2).trans rfl; have hfz14_0 := blk_frozen BK101.out 0; have hfz14_1 := blk_frozen BK101.out 1; have hfz14_2 := blk_frozen BK101.out 2))
     go_ret
     exact ⟨by first | rfl | (simp [errW_none, errW_some] <;> rfl) | (simp [*, errW_none, errW_some] <;> rfl), by repeat (with_reducible first | exact HB.out | apply lA | apply pw_below_drewN | apply lD | refine below_set ?_ GE101.out)⟩
   ·rw [if_neg c5] at H
    have c5b0 : decide (a0_1 ≤ 9999) = false := decide_eq_false c5
    clear c5
    obtain rfl := Option.some.inj H
    go_enter Tryd.func12, Tryd.ntmps12
    go_wp2_with (first | ((with_reducible refine gate_dst (N := 1) rfl ?_); refine box_event ?hg (N := 1) ?hd (cs := #[.string a0_0, .int .i64 a0_1, .bool a0_2]) (t := 23) ?hr ?_; (case hd => rfl); (case hg => rfl); (case hr => first | (go_simp; done) | (go_simp; rfl)); intro gb101 hg w15 hbox hb; have n0_ := Aside0.mk (below_step (by repeat (with_reducible first | exact HB.out | apply lA | apply pw_below_drewN | apply lD)) hb); have n1_ := Aside0.mk (hbox); have n2_ := Aside0.mk ((by rw [hg]; exact (below_size (by repeat (with_reducible first | exact HB.out | apply lA | apply pw_below_drewN | apply lD))) : w.heap.size ≤ gb101)); have n3_ := Aside0.mk ((by rw [hg]; exact (below_size (by repeat (with_reducible first | exact HB.out | apply lA | apply pw_below_drewN | apply lD))) : w.heap.size ≤ gb101)); clear HB; have HB := n0_; have BK101 := n1_; have GW101 := n2_; have GE101 := n3_; clear n0_ n1_ n2_ n3_; clear hb hbox hg; have hcz16_0 : w15.cell? ⟨gb101, 0, none⟩ = some (.string a0_0) := (blk_cell BK101.out 0).trans rfl; have hcz16_1 : w15.cell? ⟨gb101, 1, none⟩ = some (.int .i64 a0_1) := (blk_cell BK101.out 1).trans rfl; have hcz16_2 : w15.cell? ⟨gb101, 2, none⟩ = some (.bool a0_2) := (blk_cell BK101.out 2).trans rfl; have hfz16_0 := blk_frozen BK101.out 0; have hfz16_1 := blk_frozen BK101.out 1; have hfz16_2 := blk_frozen BK101.out 2) | ((with_reducible refine gate_callee (f := 23) rfl ?_); refine goesL_ (some 5) rfl rfl Tryd.func23 (by kernel_rfl) rfl #[.string a0_0] rfl (by (try simp only [List.map_toArray, List.map_cons, List.map_nil]); first | done | rfl) ?_; (with_reducible refine (vname_May.calls a0_0 true _ A2.out).mono ?_); rintro e w17 ⟨rfl, hb⟩; refine ⟨_, rfl, ?_⟩; have n0_ := Aside0.mk (blk_below (g := gb101) (o := .cells #[.string a0_0, .int .i64 a0_1, .bool a0_2] 23 (0, 0)) (by (with_reducible repeat first | apply bN | apply bD | apply bA); exact BK101.out) hb); have n1_ := Aside0.mk (below_step (by repeat (with_reducible first | exact HB.out | apply lA | apply pw_below_drewN | apply lD | refine below_set ?_ GE101.out)) hb); clear BK101; clear HB; have BK101 := n0_; have HB := n1_; clear n0_ n1_; (try clear hb); (try clear hb2); (try clear hk); (try clear hi); have hcz18_0 : w17.cell? ⟨gb101, 0, none⟩ = some (.string a0_0) := (blk_cell BK101.out 0).trans rfl; have hcz18_1 : w17.cell? ⟨gb101, 1, none⟩ = some (.int .i64 a0_1) := (blk_cell BK101.out 1).trans rfl; have hcz18_2 : w17.cell? ⟨gb101, 2, none⟩ = some (.bool a0_2) := (blk_cell BK101.out 2).trans rfl; have hfz18_0 := blk_frozen BK101.out 0; have hfz18_1 := blk_frozen BK101.out 1; have hfz18_2 := blk_frozen BK101.out 2))
    go_ret
    exact ⟨by first | rfl | (simp [errW_none, errW_some] <;> rfl) | (simp [*, errW_none, errW_some] <;> rfl), by repeat (with_reducible first | exact HB.out | apply lA | apply pw_below_drewN | apply lD | refine below_set ?_ GE101.out)⟩
  ·rw [if_neg c4] at H
   have c4b0 : decide (0 ≤ a0_1) = false := decide_eq_false c4
   clear c4
   obtain rfl := Option.some.inj H
   go_enter Tryd.func12, Tryd.ntmps12
   go_wp2_with (first | ((with_reducible refine gate_dst (N := 1) rfl ?_); refine box_event ?hg (N := 1) ?hd (cs := #[.string a0_0, .int .i64 a0_1, .bool a0_2]) (t := 23) ?hr ?_; (case hd => rfl); (case hg => rfl); (case hr => first | (go_simp; done) | (go_simp; rfl)); intro gb101 hg w19 hbox hb; have n0_ := Aside0.mk (below_step (by repeat (with_reducible first | exact HB.out | apply lA | apply pw_below_drewN | apply lD)) hb); have n1_ := Aside0.mk (hbox); have n2_ := Aside0.mk ((by rw [hg]; exact (below_size (by repeat (with_reducible first | exact HB.out | apply lA | apply pw_below_drewN | apply lD))) : w.heap.size ≤ gb101)); have n3_ := Aside0.mk ((by rw [hg]; exact (below_size (by repeat (with_reducible first | exact HB.out | apply lA | apply pw_below_drewN | apply lD))) : w.heap.size ≤ gb101)); clear HB; have HB := n0_; have BK101 := n1_; have GW101 := n2_; have GE101 := n3_; clear n0_ n1_ n2_ n3_; clear hb hbox hg; have hcz20_0 : w19.cell? ⟨gb101, 0, none⟩ = some (.string a0_0) := (blk_cell BK101.out 0).trans rfl; have hcz20_1 : w19.cell? ⟨gb101, 1, none⟩ = some (.int .i64 a0_1) := (blk_cell BK101.out 1).trans rfl; have hcz20_2 : w19.cell? ⟨gb101, 2, none⟩ = some (.bool a0_2) := (blk_cell BK101.out 2).trans rfl; have hfz20_0 := blk_frozen BK101.out 0; have hfz20_1 := blk_frozen BK101.out 1; have hfz20_2 := blk_frozen BK101.out 2) | ((with_reducible refine gate_callee (f := 23) rfl ?_); refine goesL_ (some 5) rfl rfl Tryd.func23 (by kernel_rfl) rfl #[.string a0_0] rfl (by (try simp only [List.map_toArray, List.map_cons, List.map_nil]); first | done | rfl) ?_; (with_reducible refine (vname_May.calls a0_0 true _ A2.out).mono ?_); rintro e w21 ⟨rfl, hb⟩; refine ⟨_, rfl, ?_⟩; have n0_ := Aside0.mk (blk_below (g := gb101) (o := .cells #[.string a0_0, .int .i64 a0_1, .bool a0_2] 23 (0, 0)) (by (with_reducible repeat first | apply bN | apply bD | apply bA); exact BK101.out) hb); have n1_ := Aside0.mk (below_step (by repeat (with_reducible first | exact HB.out | apply lA | apply pw_below_drewN | apply lD | refine below_set ?_ GE101.out)) hb); clear BK101; clear HB; have BK101 := n0_; have HB := n1_; clear n0_ n1_; (try clear hb); (try clear hb2); (try clear hk); (try clear hi); have hcz22_0 : w21.cell? ⟨gb101, 0, none⟩ = some (.string a0_0) := (blk_cell BK101.out 0).trans rfl; have hcz22_1 : w21.cell? ⟨gb101, 1, none⟩ = some (.int .i64 a0_1) := (blk_cell BK101.out 1).trans rfl; have hcz22_2 : w21.cell? ⟨gb101, 2, none⟩ = some (.bool a0_2) := (blk_cell BK101.out 2).trans rfl; have hfz22_0 := blk_frozen BK101.out 0; have hfz22_1 := blk_frozen BK101.out 1; have hfz22_2 := blk_frozen BK101.out 2))
   go_ret
   exact ⟨by first | rfl | (simp [errW_none, errW_some] <;> rfl) | (simp [*, errW_none, errW_some] <;> rfl), by repeat (with_reducible first | exact HB.out | apply lA | apply pw_below_drewN | apply lD | refine below_set ?_ GE101.out)⟩
 ·replace c3 := Bool.eq_false_iff.mpr c3
  subst c3
  have H1 : (some false) = some r := by rw [if_neg (show ¬ (false = true) by decide)] at H; exact H
  clear H
  have H := H1
  clear H1
  obtain rfl := Option.some.inj H
  go_enter Tryd.func12, Tryd.ntmps12
  go_wp2_with (first | ((with_reducible refine gate_dst (N := 1) rfl ?_); refine box_event ?hg (N := 1) ?hd (cs := #[.string a0_0, .int .i64 a0_1, .bool a0_2]) (t := 23) ?hr ?_; (case hd => rfl); (case hg => rfl); (case hr => first | (go_simp; done) | (go_simp; rfl)); intro gb101 hg w23 hbox hb; have n0_ := Aside0.mk (below_step (by repeat (with_reducible first | exact HB.out | apply lA | apply pw_below_drewN | apply lD)) hb); have n1_ := Aside0.mk (hbox); have n2_ := Aside0.mk ((by rw [hg]; exact (below_size (by repeat (with_reducible first | exact HB.out | apply lA | apply pw_below_drewN | apply lD))) : w.heap.size ≤ gb101)); have n3_ := Aside0.mk ((by rw [hg]; exact (below_size (by repeat (with_reducible first | exact HB.out | apply lA | apply pw_below_drewN | apply lD))) : w.heap.size ≤ gb101)); clear HB; have HB := n0_; have BK101 := n1_; have GW101 := n2_; have GE101 := n3_; clear n0_ n1_ n2_ n3_; clear hb hbox hg; have hcz24_0 : w23.cell? ⟨gb101, 0, none⟩ = some (.string a0_0) := (blk_cell BK101.out 0).trans rfl; have hcz24_1 : w23.cell? ⟨gb101, 1, none⟩ = some (.int .i64 a0_1) := (blk_cell BK101.out 1).trans rfl; have hcz24_2 : w23.cell? ⟨gb101, 2, none⟩ = some (.bool a0_2) := (blk_cell BK101.out 2).trans rfl; have hfz24_0 := blk_frozen BK101.out 0; have hfz24_1 := blk_frozen BK101.out 1; have hfz24_2 := blk_frozen BK101.out 2) | ((with_reducible refine gate_callee (f := 23) rfl ?_); refine goesL_ (some 5) rfl rfl Tryd.func23 (by kernel_rfl) rfl #[.string a0_0] rfl (by (try simp only [List.map_toArray, List.map_cons, List.map_nil]); first | done | rfl) ?_; (with_reducible refine (vname_May.calls a0_0 false _ A2.out).mono ?_); rintro e w25 ⟨rfl, hb⟩; refine ⟨_, rfl, ?_⟩; have n0_ := Aside0.mk (blk_below (g := gb101) (o := .cells #[.string a0_0, .int .i64 a0_1, .bool a0_2] 23 (0, 0)) (by (with_reducible repeat first | apply bN | apply bD | apply bA); exact BK101.out) hb); have n1_ := Aside0.mk (below_step (by repeat (with_reducible first | exact HB.out | apply lA | apply pw_below_drewN | apply lD | refine below_set ?_ GE101.out)) hb); clear BK101; clear HB; have BK101 := n0_; have HB := n1_; clear n0_ n1_; (try clear hb); (try clear hb2); (try clear hk); (try clear hi)))
  go_ret
  exact ⟨by first | rfl | (simp [errW_none, errW_some] <;> rfl) | (simp [*, errW_none, errW_some] <;> rfl), by repeat (with_reducible first | exact HB.out | apply lA | apply pw_below_drewN | apply lD | refine below_set ?_ GE101.out)⟩
def strconv_Itoa.f (a0 : Int) : Option (ByteArray) := if 0 ≤ a0 ∧ a0 ≤ 1000000 then some ⟨(Lib.itoa a0).toArray⟩ else none
set_option maxHeartbeats 8000000 in
set_option maxRecDepth 100000 in
theorem strconv_Itoa.calls (a0 : Int) (r : ByteArray) (w : World) (h : strconv_Itoa.f a0 = some r) (hG : X.Gl w) :
    Calls Tryd.prog 24 #[.int .i64 a0] w fun e w' => e = .returned (.string r) ∧ Below w.heap.size w w' := by
  simp only [strconv_Itoa.f] at h
  split at h
  · rename_i hs
    obtain rfl := Option.some.inj h
    exact X.itoa_any a0 w hs.1 hs.2 hG
  · cases h
def spec_Put.f (a0_0 : ByteArray) (a0_1 : Int) (a0_2 : Bool) : Option (ByteArray) := (spec_May.f a0_0 a0_1 a0_2).bind fun t104 => (if t104 = true then (if a0_2 = true then (if a0_0.size + 1 ≤ 9223372036854775807 then (some (a0_0 ++ (⟨#[42]⟩ : ByteArray))) else (none)) else (if a0_1 > 0 then (if a0_0.size + 1 ≤ 9223372036854775807 then ((strconv_Itoa.f a0_1).bind fun t105 => (if (a0_0 ++ (⟨#[58]⟩ : ByteArray)).size + t105.size ≤ 9223372036854775807 then (some ((a0_0 ++ (⟨#[58]⟩ : ByteArray)) ++ t105)) else (none))) else (none)) else (some a0_0))) else (some (⟨#[]⟩ : ByteArray)))
def spec_Put.T6 : Bool × List (List Nat × List Nat) := (true, [([], []), ([0], [0]), ([1], [1]), ([], []), ([3], [3]), ([4], [4]), ([2, 5], [2, 5]), ([6, 5, 0, 1, 2, 3, 4, 5, 6], [6])])
def spec_Put.B6 : List Nat := [0, 1, 3, 0, 8, 24, 63, 127]
theorem spec_Put.tab6 : rtab .any (opsOf Tryd.f14 6) = spec_Put.T6 := by kernel_rfl
theorem spec_Put.bits6 : waitsOk spec_Put.T6.2 spec_Put.B6 = true := by kernel_rfl
set_option maxHeartbeats 8000000 in
set_option maxRecDepth 100000 in
theorem spec_Put.calls (a0_0 : ByteArray) (a0_1 : Int) (a0_2 : Bool) (r : ByteArray) (w : World) (h : spec_Put.f a0_0 a0_1 a0_2 = some r) (hG : X.Gl w) :
  Calls Tryd.prog 14 #[.agg #[.string a0_0, .int .i64 a0_1, .bool a0_2]] w fun e w' => e = .returned (.string r) ∧ Below w.heap.size w w' := by
 have hG := Aside0.mk hG
 have hu23 := Tryd.underlying23
 have HB := Aside0.mk (Below.refl w.heap.size w)
 have H : ((spec_May.f a0_0 a0_1 a0_2).bind fun t104 => (if t104 = true then (if a0_2 = true then (if a0_0.size + 1 ≤ 9223372036854775807 then (some (a0_0 ++ (⟨#[42]⟩ : ByteArray))) else (none)) else (if a0_1 > 0 then (if a0_0.size + 1 ≤ 9223372036854775807 then ((strconv_Itoa.f a0_1).bind fun t105 => (if (a0_0 ++ (⟨#[58]⟩ : ByteArray)).size + t105.size ≤ 9223372036854775807 then (some ((a0_0 ++ (⟨#[58]⟩ : ByteArray)) ++ t105)) else (none))) else (none)) else (some a0_0))) else (some (⟨#[]⟩ : ByteArray)))) = some r := h
 clear h
 replace H := Option.bind_eq_some_iff.mp H
 obtain ⟨t104, A20, H⟩ := H
 replace H : (if t104 = true then (if a0_2 = true then (if a0_0.size + 1 ≤ 9223372036854775807 then (some (a0_0 ++ (⟨#[42]⟩ : ByteArray))) else (none)) else (if a0_1 > 0 then (if a0_0.size + 1 ≤ 9223372036854775807 then ((strconv_Itoa.f a0_1).bind fun t105 => (if (a0_0 ++ (⟨#[58]⟩ : ByteArray)).size + t105.size ≤ 9223372036854775807 then (some ((a0_0 ++ (⟨#[58]⟩ : ByteArray)) ++ t105)) else (none))) else (none)) else (some a0_0))) else (some (⟨#[]⟩ : ByteArray))) = some r := H
 have A2 := Aside0.mk A20
 clear A20
 by_cases c3 : t104 = true
 ·subst c3
  have H1 : (if a0_2 = true then (if a0_0.size + 1 ≤ 9223372036854775807 then (some (a0_0 ++ (⟨#[42]⟩ : ByteArray))) else (none)) else (if a0_1 > 0 then (if a0_0.size + 1 ≤ 9223372036854775807 then ((strconv_Itoa.f a0_1).bind fun t105 => (if (a0_0 ++ (⟨#[58]⟩ : ByteArray)).size + t105.size ≤ 9223372036854775807 then (some ((a0_0 ++ (⟨#[58]⟩ : ByteArray)) ++ t105)) else (none))) else (none)) else (some a0_0))) = some r := by rw [if_pos rfl] at H; exact H
  clear H
  have H := H1
  clear H1
  by_cases c4 : a0_2 = true
  ·subst c4
   have H1 : (if a0_0.size + 1 ≤ 9223372036854775807 then (some (a0_0 ++ (⟨#[42]⟩ : ByteArray))) else (none)) = some r := by rw [if_pos rfl] at H; exact H
   clear H
   have H := H1
   clear H1
   by_cases c5 : a0_0.size + 1 ≤ 9223372036854775807
   ·rw [if_pos c5] at H
    have c5b0 := eq_true c5
    have c5b1 : decide (a0_0.size + 1 ≤ 9223372036854775807) = true := decide_eq_true c5
    try have c5b2 : (9223372036854775807 < a0_0.size + 1) = False := eq_false (Nat.not_lt.2 c5)
    obtain rfl := Option.some.inj H
    go_enter Tryd.func14, Tryd.ntmps14
    go_wp2_with (first | ((with_reducible refine gate_dst (N := 1) rfl ?_); refine box_event ?hg (N := 1) ?hd (cs := #[.string a0_0, .int .i64 a0_1, .bool true]) (t := 23) ?hr ?_; (case hd => rfl); (case hg => rfl); (case hr => first | (go_simp; done) | (go_simp; rfl)); intro gb103 hg w6 hbox hb; have n0_ := Aside0.mk (below_step (by repeat (with_reducible first | exact HB.out | apply lA | apply pw_below_drewN | apply lD)) hb); have n1_ := Aside0.mk (hbox); have n2_ := Aside0.mk ((by rw [hg]; exact (below_size (by repeat (with_reducible first | exact HB.out | apply lA | apply pw_below_drewN | apply lD))) : w.heap.size ≤ gb103)); have n3_ := Aside0.mk ((by rw [hg]; exact (below_size (by repeat (with_reducible first | exact HB.out | apply lA | apply pw_below_drewN | apply lD))) : w.heap.size ≤ gb103)); clear HB; have HB := n0_; have BK103 := n1_; have GW103 := n2_; have GE103 := n3_; clear n0_ n1_ n2_ n3_; clear hb hbox hg; have hcz7_0 : w6.cell? ⟨gb103, 0, none⟩ = some (.string a0_0) := (blk_cell BK103.out 0).trans rfl; have hcz7_1 : w6.cell? ⟨gb103, 1, none⟩ = some (.int .i64 a0_1) := (blk_cell BK103.out 1).trans rfl; have hcz7_2 : w6.cell? ⟨gb103, 2, none⟩ = some (.bool true) := (blk_cell BK103.out 2).trans rfl; have hfz7_0 := blk_frozen BK103.out 0; have hfz7_1 := blk_frozen BK103.out 1; have hfz7_2 := blk_frozen BK103.out 2) | ((with_reducible refine gate_callee (f := 12) rfl ?_); refine goesL_ (some 5) rfl rfl Tryd.func12 (by kernel_rfl) rfl #[.agg #[.string a0_0, .int .i64 a0_1, .bool true]] rfl (by (try simp only [List.map_toArray, List.map_cons, List.map_nil]); first | done | rfl) ?_; (with_reducible refine (spec_May.calls a0_0 a0_1 true true _ A2.out).mono ?_); rintro e w8 ⟨rfl, hb⟩; refine ⟨_, rfl, ?_⟩; have n0_ := Aside0.mk (blk_below (g := gb103) (o := .cells #[.string a0_0, .int .i64 a0_1, .bool true] 23 (0, 0)) (by (with_reducible repeat first | apply bN | apply bD | apply bA); exact BK103.out) hb); have n1_ := Aside0.mk (below_step (by repeat (with_reducible first | exact HB.out | apply lA | apply pw_below_drewN | apply lD | refine below_set ?_ GE103.out)) hb); clear BK103; clear HB; have BK103 := n0_; have HB := n1_; clear n0_ n1_; (try clear hb); (try clear hb2); (try clear hk); (try clear hi); have hcz9_0 : w8.cell? ⟨gb103, 0, none⟩ = some (.string a0_0) := (blk_cell BK103.out 0).trans rfl; have hcz9_1 : w8.cell? ⟨gb103, 1, none⟩ = some (.int .i64 a0_1) := (blk_cell BK103.out 1).trans rfl; have hcz9_2 : w8.cell? ⟨gb103, 2, none⟩ = some (.bool true) := (blk_cell BK103.out 2).trans rfl; have hfz9_0 := blk_frozen BK103.out 0; have hfz9_1 := blk_frozen BK103.out 1; have hfz9_2 := blk_frozen BK103.out 2))
    go_ret
    exact ⟨by first | rfl | (simp [errW_none, errW_some] <;> rfl) | (simp [*, errW_none, errW_some] <;> rfl), by repeat (with_reducible first | exact HB.out | apply lA | apply pw_below_drewN | apply lD | refine below_set ?_ GE103.out)⟩
   ·rw [if_neg c5] at H
    exact absurd H (by simp)
  ·replace c4 := Bool.eq_false_iff.mpr c4
   subst c4
   have H1 : (if a0_1 > 0 then (if a0_0.size + 1 ≤ 9223372036854775807 then ((strconv_Itoa.f a0_1).bind fun t105 => (if (a0_0 ++ (⟨#[58]⟩ : ByteArray)).size + t105.size ≤ 9223372036854775807 then (some ((a0_0 ++ (⟨#[58]⟩ : ByteArray)) ++ t105)) else (none))) else (none)) else (some a0_0)) = some r := by rw [if_neg (show ¬ (false = true) by decide)] at H; exact H
   clear H
   have H := H1
   clear H1
   by_cases c10 : a0_1 > 0
   ·rw [if_pos c10] at H
    have c10b0 : decide (0 < a0_1) = true := decide_eq_true c10
    clear c10
    by_cases c11 : a0_0.size + 1 ≤ 9223372036854775807
    ·rw [if_pos c11] at H
     have c11b0 := eq_true c11
     have c11b1 : decide (a0_0.size + 1 ≤ 9223372036854775807) = true := decide_eq_true c11
     try have c11b2 : (9223372036854775807 < a0_0.size + 1) = False := eq_false (Nat.not_lt.2 c11)
     replace H := Option.bind_eq_some_iff.mp H
     obtain ⟨t105, A120, H⟩ := H
     replace H : (if (a0_0 ++ (⟨#[58]⟩ : ByteArray)).size + t105.size ≤ 9223372036854775807 then (some ((a0_0 ++ (⟨#[58]⟩ : ByteArray)) ++ t105)) else (none)) = some r := H
     have A12 := Aside0.mk A120
     clear A120
     by_cases c13 : (a0_0 ++ (⟨#[58]⟩ : ByteArray)).size + t105.size ≤ 9223372036854775807
     ·rw [if_pos c13] at H
      have c13b0 := eq_true c13
      have c13b1 : decide ((a0_0 ++ (⟨#[58]⟩ : ByteArray)).size + t105.size ≤ 9223372036854775807) = true := decide_eq_true c13
      try have c13b2 : (9223372036854775807 < (a0_0 ++ (⟨#[58]⟩ : ByteArray)).size + t105.size) = False := eq_false (Nat.not_lt.2 c13)
      try have c13b3 : (9223372036854775807 < a0_0.size + 1 + t105.size) = False := by rw [ByteArray.size_append] at c13b2; exact c13b2
      obtain rfl := Option.some.inj H
      go_enter Tryd.func14, Tryd.ntmps14
      try go_wp2_with (first | ((with_reducible refine gate_dst (N := 1) rfl ?_); refine box_event ?hg (N := 1) ?hd (cs := #[.string a0_0, .int .i64 a0_1, .bool false]) (t := 23) ?hr ?_; (case hd => rfl); (case hg => rfl); (case hr => first | (go_simp; done) | (go_simp; rfl)); intro gb103 hg w14 hbox hb; have n0_ := Aside0.mk (below_step (by repeat (with_reducible first | exact HB.out | apply lA | apply pw_below_drewN | apply lD)) hb); have n1_ := Aside0.mk (hbox); have n2_ := Aside0.mk ((by rw [hg]; exact (below_size (by repeat (with_reducible first | exact HB.out | apply lA | apply pw_below_drewN | apply lD))) : w.heap.size ≤ gb103)); have n3_ := Aside0.mk ((by rw [hg]; exact (below_size (by repeat (with_reducible first | exact HB.out | apply lA | apply pw_below_drewN | apply lD))) : w.heap.size ≤ gb103)); clear HB; have HB := n0_; have BK103 := n1_; have GW103 := n2_; have GE103 := n3_; clear n0_ n1_ n2_ n3_; clear hb hbox hg; have hcz15_0 : w14.cell? ⟨gb103, 0, none⟩ = some (.string a0_0) := (blk_cell BK103.out 0).trans rfl; have hcz15_1 : w14.cell? ⟨gb103, 1, none⟩ = some (.int .i64 a0_1) := (blk_cell BK103.out 1).trans rfl; have hcz15_2 : w14.cell? ⟨gb103, 2, none⟩ = some (.bool false) := (blk_cell BK103.out 2).trans rfl; have hfz15_0 := blk_frozen BK103.out 0; have hfz15_1 := blk_frozen BK103.out 1; have hfz15_2 := blk_frozen BK103.out 2) | ((with_reducible refine gate_callee (f := 12) rfl ?_); refine goesL_ (some 5) rfl rfl Tryd.func12 (by kernel_rfl) rfl #[.agg #[.string a0_0, .int .i64 a0_1, .bool false]] rfl (by (try simp only [List.map_toArray, List.map_cons, List.map_nil]); first | done | rfl) ?_; (with_reducible refine (spec_May.calls a0_0 a0_1 false true _ A2.out).mono ?_); rintro e w16 ⟨rfl, hb⟩; refine ⟨_, rfl, ?_⟩; have n0_ := Aside0.mk (blk_below (g := gb103) (o := .cells #[.string a0_0, .int .i64 a0_1, .bool false] 23 (0, 0)) (by (with_reducible repeat first | apply bN | apply bD | apply bA); exact BK103.out) hb); have n1_ := Aside0.mk (below_step (by repeat (with_reducible first | exact HB.out | apply lA | apply pw_below_drewN | apply lD | refine below_set ?_ GE103.out)) hb); clear BK103; clear HB; have BK103 := n0_; have HB := n1_; clear n0_ n1_; (try clear hb); (try clear hb2); (try clear hk); (try clear hi); have hcz17_0 : w16.cell? ⟨gb103, 0, none⟩ = some (.string a0_0) := (blk_cell BK103.out 0).trans rfl; have hcz17_1 : w16.cell? ⟨gb103, 1, none⟩ = some (.int .i64 a0_1) := (blk_cell BK103.out 1).trans rfl; have hcz17_2 : w16.cell? ⟨gb103, 2, none⟩ = some (.bool false) := (blk_cell BK103.out 2).trans rfl; have hfz17_0 := blk_frozen BK103.out 0; have hfz17_1 := blk_frozen BK103.out 1; have hfz17_2 := blk_frozen BK103.out 2))
      have n0_ := Aside0.mk (blk_drew BK103.out)
      have n1_ := Aside0.mk (below_drew1 HB.out)
      clear BK103
      clear HB
      have BK103 := n0_
      have HB := n1_
      clear n0_ n1_
      refine start_ (n := 8) (S := fun w' => w'.cell? ⟨gb103, 0, none⟩ = some (.string a0_0) ∧ w'.cell? ⟨gb103, 1, none⟩ = some (.int .i64 a0_1) ∧ w'.cell? ⟨gb103, 2, none⟩ = some (.bool false)) (ds := []) #[false,false,false,false,false,false,false,false] (by kernel_rfl) rfl rfl ⟨(blk_cell BK103.out 0).trans rfl, (blk_cell BK103.out 1).trans rfl, (blk_cell BK103.out 2).trans rfl⟩ (fun hHeld => ?_); refine with_tabW spec_Put.tab6 spec_Put.bits6 (fun HT_ HW_ => ?_)
      generalize w16.drew = w18 at BK103 HB hHeld ⊢
      refine pure_ (i := 0) (N := some 17) (v := ?_) (a' := ?_) #[true,false,false,false,false,false,false,false] rfl rfl (any_of HT_.out (by kernel_rfl)) (fun _ _ _ h => h) (Or.inl ⟨by rfl, ?_⟩) ?_ ?_
      rotate_left
      ·intro w'
       go_simp
       with_reducible rfl
      rotate_left
      ·(simp only [Act.put, List.setIfInBounds_toArray, List.set_cons_zero, List.set_cons_succ, i64_w, i32_w])
       rfl
      refine pure_ (i := 3) (N := some 20) (v := ?_) (a' := ?_) #[true,false,false,true,false,false,false,false] rfl rfl (any_of HT_.out (by kernel_rfl)) (fun _ _ _ h => h) (Or.inl ⟨by rfl, ?_⟩) ?_ ?_
      rotate_left
      ·intro w'
       go_simp
       with_reducible rfl
      rotate_left
      ·(simp only [Act.put, List.setIfInBounds_toArray, List.set_cons_zero, List.set_cons_succ, i64_w, i32_w])
       rfl
      refine take_ (i := 1) (N := some 18) (v := ?_) (a' := ?_) #[true,true,false,true,false,false,false,false] rfl rfl (take_ofW HT_.out HW_.out (by kernel_rfl)) (fun _ _ _ h => h) (Or.inl ⟨by rfl, ?_⟩) hHeld ?_ ?_
      rotate_left
      ·rintro w' ⟨s0, s1, s2⟩
       go_simp
       with_reducible rfl
      rotate_left
      ·(simp only [Act.put, List.setIfInBounds_toArray, List.set_cons_zero, List.set_cons_succ, i64_w, i32_w])
       rfl
      refine pure_ (i := 2) (N := some 19) (v := ?_) (a' := ?_) #[true,true,true,true,false,false,false,false] rfl rfl (any_of HT_.out (by kernel_rfl)) (fun _ _ _ h => h) (Or.inl ⟨by rfl, ?_⟩) ?_ ?_
      rotate_left
      ·intro w'
       go_simp
       with_reducible rfl
      rotate_left
      ·(simp only [Act.put, List.setIfInBounds_toArray, List.set_cons_zero, List.set_cons_succ, i64_w, i32_w])
       rfl
      refine take_ (i := 4) (N := some 21) (v := ?_) (a' := ?_) #[true,true,true,true,true,false,false,false] rfl rfl (take_ofW HT_.out HW_.out (by kernel_rfl)) (fun _ _ _ h => h) (Or.inl ⟨by rfl, ?_⟩) hHeld ?_ ?_
      rotate_left
      ·rintro w' ⟨s0, s1, s2⟩
       go_simp
       with_reducible rfl
      rotate_left
      ·(simp only [Act.put, List.setIfInBounds_toArray, List.set_cons_zero, List.set_cons_succ, i64_w, i32_w])
       rfl
      refine one_ (i := 5) (N := some 22) #[true,true,true,true,true,true,false,false] rfl rfl (one_of HT_.out (by kernel_rfl)) (by decide) (fun K hK => ?_)
      refine goes_ Tryd.func24 (by kernel_rfl) rfl #[.int .i64 a0_1] (by rfl) rfl rfl (by (try simp only [List.map_toArray, List.map_cons, List.map_nil]); first | done | rfl) ?_
      with_reducible refine (strconv_Itoa.calls a0_1 t105 _ A12.out (X.Gl.below hG.out (by repeat (with_reducible first | exact HB.out | apply lA | apply pw_below_drewN | apply lD | refine below_set ?_ (Aside0.out (by assumption)))))).mono ?_
      rintro e w19 ⟨rfl, hb⟩
      refine ⟨_, rfl, ?_⟩
      have n0_ := Aside0.mk (blk_below (g := gb103) (o := .cells #[.string a0_0, .int .i64 a0_1, .bool false] 23 (0, 0)) (by (with_reducible repeat first | apply bN | apply bD | apply bA); exact BK103.out) hb)
      have n1_ := Aside0.mk (below_step (by repeat (with_reducible first | exact HB.out | apply lA | apply pw_below_drewN | apply lD | refine below_set ?_ GE103.out)) hb)
      clear BK103
      clear HB
      have BK103 := n0_
      have HB := n1_
      clear n0_ n1_
      (try clear hb)
      (try clear hb2)
      (try clear hk)
      (try clear hi)
      refine hK.out _ _ ⟨(blk_cell BK103.out 0).trans rfl, (blk_cell BK103.out 1).trans rfl, (blk_cell BK103.out 2).trans rfl⟩ (fun hHeld => ?_)
      clear hK K
      refine norm_ (a' := ?_) ?_ ?_
      rotate_left
      ·show Act.put _ (some 22) _ = _
       (simp only [Act.put, List.setIfInBounds_toArray, List.set_cons_zero, List.set_cons_succ, i64_w, i32_w])
       rfl
      refine pure_ (i := 6) (N := some 23) (v := ?_) (a' := ?_) #[true,true,true,true,true,true,true,false] rfl rfl (any_of HT_.out (by kernel_rfl)) (fun _ _ _ h => h) (Or.inl ⟨by rfl, ?_⟩) ?_ ?_
      rotate_left
      ·intro w'
       go_simp
       with_reducible rfl
      rotate_left
      ·(simp only [Act.put, List.setIfInBounds_toArray, List.set_cons_zero, List.set_cons_succ, i64_w, i32_w])
       rfl
      refine pure_ (i := 7) (N := some 2) (v := ?_) (a' := ?_) #[true,true,true,true,true,true,true,true] rfl rfl (any_of HT_.out (by kernel_rfl)) (fun _ _ _ h => h) (Or.inl ⟨by rfl, ?_⟩) ?_ ?_
      rotate_left
      ·intro w'
       go_simp
       with_reducible rfl
      rotate_left
      ·(simp only [Act.put, List.setIfInBounds_toArray, List.set_cons_zero, List.set_cons_succ, i64_w, i32_w])
       rfl
      refine done_ (done_of HT_.out (by kernel_rfl)) ?_
      try go_wp2
      go_ret
      exact ⟨by first | rfl | (simp [errW_none, errW_some] <;> rfl) | (simp [*, errW_none, errW_some] <;> rfl), by repeat (with_reducible first | exact HB.out | apply lA | apply pw_below_drewN | apply lD | refine below_set ?_ GE103.out)⟩
     ·rw [if_neg c13] at H
      exact absurd H (by simp)
    ·rw [if_neg c11] at H
     exact absurd H (by simp)
   ·rw [if_neg c10] at H
    have c10b0 : decide (0 < a0_1) = false := decide_eq_false c10
    clear c10
    obtain rfl := Option.some.inj H
    go_enter Tryd.func14, Tryd.ntmps14
    go_wp2_with (first | ((with_reducible refine gate_dst (N := 1) rfl ?_); refine box_event ?hg (N := 1) ?hd (cs := #[.string a0_0, .int .i64 a0_1, .bool false]) (t := 23) ?hr ?_; (case hd => rfl); (case hg => rfl); (case hr => first | (go_simp; done) | (go_simp; rfl)); intro gb103 hg w20 hbox hb; have n0_ := Aside0.mk (below_step (by repeat (with_reducible first | exact HB.out | apply lA | apply pw_below_drewN | apply lD)) hb); have n1_ := Aside0.mk (hbox); have n2_ := Aside0.mk ((by rw [hg]; exact (below_size (by repeat (with_reducible first | exact HB.out | apply lA | apply pw_below_drewN | apply lD))) : w.heap.size ≤ gb103)); have n3_ := Aside0.mk ((by rw [hg]; exact (below_size (by repeat (with_reducible first | exact HB.out | apply lA | apply pw_below_drewN | apply lD))) : w.heap.size ≤ gb103)); clear HB; have HB := n0_; have BK103 := n1_; have GW103 := n2_; have GE103 := n3_; clear n0_ n1_ n2_ n3_; clear hb hbox hg; have hcz21_0 : w20.cell? ⟨gb103, 0, none⟩ = some (.string a0_0) := (blk_cell BK103.out 0).trans rfl; have hcz21_1 : w20.cell? ⟨gb103, 1, none⟩ = some (.int .i64 a0_1) := (blk_cell BK103.out 1).trans rfl; have hcz21_2 : w20.cell? ⟨gb103, 2, none⟩ = some (.bool false) := (blk_cell BK103.out 2).trans rfl; have hfz21_0 := blk_frozen BK103.out 0; have hfz21_1 := blk_frozen BK103.out 1; have hfz21_2 := blk_frozen BK103.out 2) | ((with_reducible refine gate_callee (f := 12) rfl ?_); refine goesL_ (some 5) rfl rfl Tryd.func12 (by kernel_rfl) rfl #[.agg #[.string a0_0, .int .i64 a0_1, .bool false]] rfl (by (try simp only [List.map_toArray, List.map_cons, List.map_nil]); first | done | rfl) ?_; (with_reducible refine (spec_May.calls a0_0 a0_1 false true _ A2.out).mono ?_); rintro e w22 ⟨rfl, hb⟩; refine ⟨_, rfl, ?_⟩; have n0_ := Aside0.mk (blk_below (g := gb103) (o := .cells #[.string a0_0, .int .i64 a0_1, .bool false] 23 (0, 0)) (by (with_reducible repeat first | apply bN | apply bD | apply bA); exact BK103.out) hb); have n1_ := Aside0.mk (below_step (by repeat (with_reducible first | exact HB.out | apply lA | apply pw_below_drewN | apply lD | refine below_set ?_ GE103.out)) hb); clear BK103; clear HB; have BK103 := n0_; have HB := n1_; clear n0_ n1_; (try clear hb); (try clear hb2); (try clear hk); (try clear hi); have hcz23_0 : w22.cell? ⟨gb103, 0, none⟩ = some (.string a0_0) := (blk_cell BK103.out 0).trans rfl; have hcz23_1 : w22.cell? ⟨gb103, 1, none⟩ = some (.int .i64 a0_1) := (blk_cell BK103.out 1).trans rfl; have hcz23_2 : w22.cell? ⟨gb103, 2, none⟩ = some (.bool false) := (blk_cell BK103.out 2).trans rfl; have hfz23_0 := blk_frozen BK103.out 0; have hfz23_1 := blk_frozen BK103.out 1; have hfz23_2 := blk_frozen BK103.out 2))
    go_ret
    exact ⟨by first | rfl | (simp [errW_none, errW_some] <;> rfl) | (simp [*, errW_none, errW_some] <;> rfl), by repeat (with_reducible first | exact HB.out | apply lA | apply pw_below_drewN | apply lD | refine below_set ?_ GE103.out)⟩
 ·replace c3 := Bool.eq_false_iff.mpr c3
  subst c3
  have H1 : (some (⟨#[]⟩ : ByteArray)) = some r := by rw [if_neg (show ¬ (false = true) by decide)] at H; exact H
  clear H
  have H := H1
  clear H1
  obtain rfl := Option.some.inj H
  go_enter Tryd.func14, Tryd.ntmps14
  go_wp2_with (first | ((with_reducible refine gate_dst (N := 1) rfl ?_); refine box_event ?hg (N := 1) ?hd (cs := #[.string a0_0, .int .i64 a0_1, .bool a0_2]) (t := 23) ?hr ?_; (case hd => rfl); (case hg => rfl); (case hr => first | (go_simp; done) | (go_simp; rfl)); intro gb103 hg w24 hbox hb; have n0_ := Aside0.mk (below_step (by repeat (with_reducible first | exact HB.out | apply lA | apply pw_below_drewN | apply lD)) hb); have n1_ := Aside0.mk (hbox); have n2_ := Aside0.mk ((by rw [hg]; exact (below_size (by repeat (with_reducible first | exact HB.out | apply lA | apply pw_below_drewN | apply lD))) : w.heap.size ≤ gb103)); have n3_ := Aside0.mk ((by rw [hg]; exact (below_size (by repeat (with_reducible first | exact HB.out | apply lA | apply pw_below_drewN | apply lD))) : w.heap.size ≤ gb103)); clear HB; have HB := n0_; have BK103 := n1_; have GW103 := n2_; have GE103 := n3_; clear n0_ n1_ n2_ n3_; clear hb hbox hg; have hcz25_0 : w24.cell? ⟨gb103, 0, none⟩ = some (.string a0_0) := (blk_cell BK103.out 0).trans rfl; have hcz25_1 : w24.cell? ⟨gb103, 1, none⟩ = some (.int .i64 a0_1) := (blk_cell BK103.out 1).trans rfl; have hcz25_2 : w24.cell? ⟨gb103, 2, none⟩ = some (.bool a0_2) := (blk_cell BK103.out 2).trans rfl; have hfz25_0 := blk_frozen BK103.out 0; have hfz25_1 := blk_frozen BK103.out 1; have hfz25_2 := blk_frozen BK103.out 2) | ((with_reducible refine gate_callee (f := 12) rfl ?_); refine goesL_ (some 5) rfl rfl Tryd.func12 (by kernel_rfl) rfl #[.agg #[.string a0_0, .int .i64 a0_1, .bool a0_2]] rfl (by (try simp only [List.map_toArray, List.map_cons, List.map_nil]); first | done | rfl) ?_; (with_reducible refine (spec_May.calls a0_0 a0_1 a0_2 false _ A2.out).mono ?_); rintro e w26 ⟨rfl, hb⟩; refine ⟨_, rfl, ?_⟩; have n0_ := Aside0.mk (blk_below (g := gb103) (o := .cells #[.string a0_0, .int .i64 a0_1, .bool a0_2] 23 (0, 0)) (by (with_reducible repeat first | apply bN | apply bD | apply bA); exact BK103.out) hb); have n1_ := Aside0.mk (below_step (by repeat (with_reducible first | exact HB.out | apply lA | apply pw_below_drewN | apply lD | refine below_set ?_ GE103.out)) hb); clear BK103; clear HB; have BK103 := n0_; have HB := n1_; clear n0_ n1_; (try clear hb); (try clear hb2); (try clear hk); (try clear hi)))
  go_ret
  exact ⟨by first | rfl | (simp [errW_none, errW_some] <;> rfl) | (simp [*, errW_none, errW_some] <;> rfl), by repeat (with_reducible first | exact HB.out | apply lA | apply pw_below_drewN | apply lD | refine below_set ?_ GE103.out)⟩
def phalaropelaw06_awake.f  : Option (Bool) := (spec_Take.f (⟨#[97, 58, 51]⟩ : ByteArray)).bind fun bt106 => ((spec_Take.f (⟨#[97, 58, 48]⟩ : ByteArray)).bind fun bt112 => (if bt106.2.2.2.2 = 0 then (if bt106.2.2.2.1 = 3 then (if (bt106.1.toList == ([97] : List UInt8) && (bt106.2.1 == 3 && (!bt106.2.2.1))) = true then (if bt112.2.2.2.2 = 2 then (if bt112.2.2.2.1 = 2 then ((spec_Put.f (⟨#[98]⟩ : ByteArray) 0 true).bind fun t118 => (some (t118.toList == ([98, 42] : List UInt8)))) else (some false)) else (some false)) else (some false)) else (some false)) else (some false)))
set_option maxHeartbeats 8000000 in
set_option maxRecDepth 100000 in
theorem phalaropelaw06_awake.calls  (r : Bool) (w : World) (h : phalaropelaw06_awake.f  = some r) (hG : X.Gl w) :
  Calls Tryd.prog 9 #[] w fun e w' => e = .returned (.bool r) ∧ Below w.heap.size w w' := by
 have hG := Aside0.mk hG
 have hu23 := Tryd.underlying23
 have HB := Aside0.mk (Below.refl w.heap.size w)
 have H : ((spec_Take.f (⟨#[97, 58, 51]⟩ : ByteArray)).bind fun bt106 => ((spec_Take.f (⟨#[97, 58, 48]⟩ : ByteArray)).bind fun bt112 => (if bt106.2.2.2.2 = 0 then (if bt106.2.2.2.1 = 3 then (if (bt106.1.toList == ([97] : List UInt8) && (bt106.2.1 == 3 && (!bt106.2.2.1))) = true then (if bt112.2.2.2.2 = 2 then (if bt112.2.2.2.1 = 2 then ((spec_Put.f (⟨#[98]⟩ : ByteArray) 0 true).bind fun t118 => (some (t118.toList == ([98, 42] : List UInt8)))) else (some false)) else (some false)) else (some false)) else (some false)) else (some false)))) = some r := h
 clear h
 replace H := Option.bind_eq_some_iff.mp H
 obtain ⟨⟨t106, t107, t108, t109, t110⟩, A10, H⟩ := H
 replace H : ((spec_Take.f (⟨#[97, 58, 48]⟩ : ByteArray)).bind fun bt112 => (if t110 = 0 then (if t109 = 3 then (if (t106.toList == ([97] : List UInt8) && (t107 == 3 && (!t108))) = true then (if bt112.2.2.2.2 = 2 then (if bt112.2.2.2.1 = 2 then ((spec_Put.f (⟨#[98]⟩ : ByteArray) 0 true).bind fun t118 => (some (t118.toList == ([98, 42] : List UInt8)))) else (some false)) else (some false)) else (some false)) else (some false)) else (some false))) = some r := H
 have A1 := Aside0.mk A10
 clear A10
 replace H := Option.bind_eq_some_iff.mp H
 obtain ⟨⟨t112, t113, t114, t115, t116⟩, A20, H⟩ := H
 replace H : (if t110 = 0 then (if t109 = 3 then (if (t106.toList == ([97] : List UInt8) && (t107 == 3 && (!t108))) = true then (if t116 = 2 then (if t115 = 2 then ((spec_Put.f (⟨#[98]⟩ : ByteArray) 0 true).bind fun t118 => (some (t118.toList == ([98, 42] : List UInt8)))) else (some false)) else (some false)) else (some false)) else (some false)) else (some false)) = some r := H
 have A2 := Aside0.mk A20
 clear A20
 by_cases c3 : t110 = 0
 ·rw [if_pos c3] at H
  have c3b0 : (t110 == 0) = true := beq_iff_eq.mpr c3
  have c3b1 : (t110 != 0) = false := bne_eq_false_iff_eq.mpr c3
  clear c3
  by_cases c4 : t109 = 3
  ·rw [if_pos c4] at H
   have c4b0 : (t109 == 3) = true := beq_iff_eq.mpr c4
   have c4b1 : (t109 != 3) = false := bne_eq_false_iff_eq.mpr c4
   clear c4
   by_cases c5 : (t106.toList == ([97] : List UInt8) && (t107 == 3 && (!t108))) = true
   ·rw [if_pos c5] at H
    have c5b0 : (t106.toList == ([97] : List UInt8) && (t107 == 3 && (!t108))) = true := c5
    (try (have c5b1 : decide (t106.toList = ([97] : List UInt8) && (t107 == 3 && (!t108))) = true := by simpa using c5))
    (try (have c5b2 : (t106.toList == ([97] : List UInt8) && (t107 == 3 && (!t108))) = true := by simpa using c5))
    clear c5
    by_cases c6 : t116 = 2
    ·rw [if_pos c6] at H
     have c6b0 : (t116 == 2) = true := beq_iff_eq.mpr c6
     have c6b1 : (t116 != 2) = false := bne_eq_false_iff_eq.mpr c6
     clear c6
     by_cases c7 : t115 = 2
     ·rw [if_pos c7] at H
      have c7b0 : (t115 == 2) = true := beq_iff_eq.mpr c7
      have c7b1 : (t115 != 2) = false := bne_eq_false_iff_eq.mpr c7
      clear c7
      replace H := Option.bind_eq_some_iff.mp H
      obtain ⟨t118, A80, H⟩ := H
      replace H : (some (t118.toList == ([98, 42] : List UInt8))) = some r := H
      have A8 := Aside0.mk A80
      clear A80
      obtain rfl := Option.some.inj H
      go_enter Tryd.func9, Tryd.ntmps9
      go_wp2_with (first | ((with_reducible refine gate_callee (f := 10) rfl ?_); refine goesL_ (some 8) rfl rfl Tryd.func10 (by kernel_rfl) rfl #[.string (⟨#[97, 58, 51]⟩ : ByteArray)] rfl (by (try simp only [List.map_toArray, List.map_cons, List.map_nil]); first | done | rfl) ?_; (with_reducible refine (spec_Take.calls (⟨#[97, 58, 51]⟩ : ByteArray) t106 t107 t108 t109 t110 _ A1.out (X.Gl.below hG.out (by repeat (with_reducible first | exact HB.out | apply lA | apply pw_below_drewN | apply lD | refine below_set ?_ (Aside0.out (by assumption)))))).mono ?_); rintro e w9 ⟨rfl, hb⟩; refine ⟨_, rfl, ?_⟩; have n0_ := Aside0.mk (below_step (by repeat (with_reducible first | exact HB.out | apply lA | apply pw_below_drewN | apply lD)) hb); clear HB; have HB := n0_; clear n0_; (try clear hb); (try clear hb2); (try clear hk); (try clear hi)) | ((with_reducible refine gate_dst (N := 1) rfl ?_); refine box_event ?hg (N := 1) ?hd (cs := #[.string (⟨#[]⟩ : ByteArray), .int .i64 0, .bool false]) (t := 23) ?hr ?_; (case hd => rfl); (case hg => rfl); (case hr => first | (go_simp; done) | (go_simp; rfl)); intro gb111 hg w10 hbox hb; have n0_ := Aside0.mk (below_step (by repeat (with_reducible first | exact HB.out | apply lA | apply pw_below_drewN | apply lD)) hb); have n1_ := Aside0.mk (hbox); have n2_ := Aside0.mk ((by rw [hg]; exact (below_size (by repeat (with_reducible first | exact HB.out | apply lA | apply pw_below_drewN | apply lD))) : w.heap.size ≤ gb111)); have n3_ := Aside0.mk ((by rw [hg]; exact (below_size (by repeat (with_reducible first | exact HB.out | apply lA | apply pw_below_drewN | apply lD))) : w.heap.size ≤ gb111)); clear HB; have HB := n0_; have BK111 := n1_; have GW111 := n2_; have GE111 := n3_; clear n0_ n1_ n2_ n3_; clear hb hbox hg; have hcz11_0 : w10.cell? ⟨gb111, 0, none⟩ = some (.string (⟨#[]⟩ : ByteArray)) := (blk_cell BK111.out 0).trans rfl; have hcz11_1 : w10.cell? ⟨gb111, 1, none⟩ = some (.int .i64 0) := (blk_cell BK111.out 1).trans rfl; have hcz11_2 : w10.cell? ⟨gb111, 2, none⟩ = some (.bool false) := (blk_cell BK111.out 2).trans rfl; have hfz11_0 := blk_frozen BK111.out 0; have hfz11_1 := blk_frozen BK111.out 1; have hfz11_2 := blk_frozen BK111.out 2) | ((with_reducible refine gate_callee (f := 10) rfl ?_); refine goesL_ (some 13) rfl rfl Tryd.func10 (by kernel_rfl) rfl #[.string (⟨#[97, 58, 48]⟩ : ByteArray)] rfl (by (try simp only [List.map_toArray, List.map_cons, List.map_nil]); first | done | rfl) ?_; (with_reducible refine (spec_Take.calls (⟨#[97, 58, 48]⟩ : ByteArray) t112 t113 t114 t115 t116 _ A2.out (X.Gl.below hG.out (by repeat (with_reducible first | exact HB.out | apply lA | apply pw_below_drewN | apply lD | refine below_set ?_ (Aside0.out (by assumption)))))).mono ?_); rintro e w12 ⟨rfl, hb⟩; refine ⟨_, rfl, ?_⟩; have n0_ := Aside0.mk (blk_below (g := gb111) (o := .cells #[.string t106, .int .i64 t107, .bool t108] 23 (0, 0)) (by (with_reducible repeat first | apply bN | apply bD | apply bA); refine blk_put (cs := #[.string t106, .int .i64 t107, .bool false]) ?_ 2 _ rfl; (with_reducible repeat first | apply bN | apply bD | apply bA); refine blk_put (cs := #[.string t106, .int .i64 0, .bool false]) ?_ 1 _ rfl; (with_reducible repeat first | apply bN | apply bD | apply bA); refine blk_put (cs := #[.string (⟨#[]⟩ : ByteArray), .int .i64 0, .bool false]) ?_ 0 _ rfl; (with_reducible repeat first | apply bN | apply bD | apply bA); exact BK111.out) hb); have n1_ := Aside0.mk (below_step (by repeat (with_reducible first | exact HB.out | apply lA | apply pw_below_drewN | apply lD | refine below_set ?_ GE111.out)) hb); clear BK111; clear HB; have BK111 := n0_; have HB := n1_; clear n0_ n1_; (try clear hb); (try clear hb2); (try clear hk); (try clear hi)) | ((with_reducible refine gate_dst (N := 4) rfl ?_); refine box_event ?hg (N := 4) ?hd (cs := #[.string (⟨#[]⟩ : ByteArray), .int .i64 0, .bool false]) (t := 23) ?hr ?_; (case hd => rfl); (case hg => rfl); (case hr => first | (go_simp; done) | (go_simp; rfl)); intro gb117 hg w13 hbox hb; have n0_ := Aside0.mk (blk_below (g := gb111) (o := .cells #[.string t106, .int .i64 t107, .bool t108] 23 (0, 0)) (by (with_reducible repeat first | apply bN | apply bD | apply bA); exact BK111.out) hb); have n1_ := Aside0.mk (below_step (by repeat (with_reducible first | exact HB.out | apply lA | apply pw_below_drewN | apply lD | refine below_set ?_ GE111.out)) hb); have n2_ := Aside0.mk (hbox); have n3_ := Aside0.mk ((by rw [hg]; exact (below_size (by repeat (with_reducible first | exact HB.out | apply lA | apply pw_below_drewN | apply lD | refine below_set ?_ GE111.out))) : w.heap.size ≤ gb117)); have n4_ := Aside0.mk ((by rw [hg]; exact (below_size (by repeat (with_reducible first | exact HB.out | apply lA | apply pw_below_drewN | apply lD | refine below_set ?_ GE111.out))) : w.heap.size ≤ gb117)); have n5_ := Aside0.mk ((by rw [hg]; exact Nat.ne_of_lt (blk_lt (g := gb111) (o := .cells #[.string t106, .int .i64 t107, .bool t108] 23 (0, 0)) (by (with_reducible repeat first | apply bN | apply bD | apply bA); exact BK111.out)) : gb111 ≠ gb117)); have n6_ := Aside0.mk ((by rw [hg]; exact Nat.ne_of_gt (blk_lt (g := gb111) (o := .cells #[.string t106, .int .i64 t107, .bool t108] 23 (0, 0)) (by (with_reducible repeat first | apply bN | apply bD | apply bA); exact BK111.out)) : gb117 ≠ gb111)); clear BK111; clear HB; have BK111 := n0_; have HB := n1_; have BK117 := n2_; have GW117 := n3_; have GE117 := n4_; have NB111_117 := n5_; have NB117_111 := n6_; clear n0_ n1_ n2_ n3_ n4_ n5_ n6_; clear hb hbox hg; have hnb14 := NB117_111.out; have hnc14 := NB111_117.out; have hcz15_0 : w13.cell? ⟨gb117, 0, none⟩ = some (.string (⟨#[]⟩ : ByteArray)) := (blk_cell BK117.out 0).trans rfl; have hcz15_1 : w13.cell? ⟨gb117, 1, none⟩ = some (.int .i64 0) := (blk_cell BK117.out 1).trans rfl; have hcz15_2 : w13.cell? ⟨gb117, 2, none⟩ = some (.bool false) := (blk_cell BK117.out 2).trans rfl; have hfz15_0 := blk_frozen BK117.out 0; have hfz15_1 := blk_frozen BK117.out 1; have hfz15_2 := blk_frozen BK117.out 2; have hcz16_0 : w13.cell? ⟨gb111, 0, none⟩ = some (.string t106) := (blk_cell BK111.out 0).trans rfl; have hcz16_1 : w13.cell? ⟨gb111, 1, none⟩ = some (.int .i64 t107) := (blk_cell BK111.out 1).trans rfl; have hcz16_2 : w13.cell? ⟨gb111, 2, none⟩ = some (.bool t108) := (blk_cell BK111.out 2).trans rfl; have hfz16_0 := blk_frozen BK111.out 0; have hfz16_1 := blk_frozen BK111.out 1; have hfz16_2 := blk_frozen BK111.out 2) | (go_at_call 14; (with_reducible refine (spec_Put.calls (⟨#[98]⟩ : ByteArray) 0 true t118 _ A8.out (X.Gl.below hG.out (by repeat (with_reducible first | exact HB.out | apply lA | apply pw_below_drewN | apply lD | refine below_set ?_ (Aside0.out (by assumption)))))).mono ?_); rintro e w17 ⟨rfl, hb⟩; have n0_ := Aside0.mk (blk_below (g := gb111) (o := .cells #[.string t106, .int .i64 t107, .bool t108] 23 (0, 0)) (by (with_reducible repeat first | apply bN | apply bD | apply bA); refine blk_far ?_ NB111_117.out _; (with_reducible repeat first | apply bN | apply bD | apply bA); refine blk_far ?_ NB111_117.out _; (with_reducible repeat first | apply bN | apply bD | apply bA); refine blk_far ?_ NB111_117.out _; (with_reducible repeat first | apply bN | apply bD | apply bA); exact BK111.out) hb); have n1_ := Aside0.mk (blk_below (g := gb117) (o := .cells #[.string t112, .int .i64 t113, .bool t114] 23 (0, 0)) (by (with_reducible repeat first | apply bN | apply bD | apply bA); refine blk_put (cs := #[.string t112, .int .i64 t113, .bool false]) ?_ 2 _ rfl; (with_reducible repeat first | apply bN | apply bD | apply bA); refine blk_put (cs := #[.string t112, .int .i64 0, .bool false]) ?_ 1 _ rfl; (with_reducible repeat first | apply bN | apply bD | apply bA); refine blk_put (cs := #[.string (⟨#[]⟩ : ByteArray), .int .i64 0, .bool false]) ?_ 0 _ rfl; (with_reducible repeat first | apply bN | apply bD | apply bA); exact BK117.out) hb); have n2_ := Aside0.mk (below_step (by repeat (with_reducible first | exact HB.out | apply lA | apply pw_below_drewN | apply lD | refine below_set ?_ GE111.out | refine below_set ?_ GE117.out)) hb); clear BK111; clear BK117; clear HB; have BK111 := n0_; have BK117 := n1_; have HB := n2_; clear n0_ n1_ n2_; (try clear hb); (try clear hb2); (try clear hk); (try clear hi)))
      go_ret
      exact ⟨by first | rfl | (simp [errW_none, errW_some] <;> rfl) | (simp [*, errW_none, errW_some] <;> rfl), by repeat (with_reducible first | exact HB.out | apply lA | apply pw_below_drewN | apply lD | refine below_set ?_ GE111.out | refine below_set ?_ GE117.out)⟩
     ·rw [if_neg c7] at H
      have c7b0 : (t115 == 2) = false := beq_eq_false_iff_ne.mpr c7
      have c7b1 : (t115 != 2) = true := bne_iff_ne.mpr c7
      obtain rfl := Option.some.inj H
      go_enter Tryd.func9, Tryd.ntmps9
      go_wp2_with (first | ((with_reducible refine gate_callee (f := 10) rfl ?_); refine goesL_ (some 8) rfl rfl Tryd.func10 (by kernel_rfl) rfl #[.string (⟨#[97, 58, 51]⟩ : ByteArray)] rfl (by (try simp only [List.map_toArray, List.map_cons, List.map_nil]); first | done | rfl) ?_; (with_reducible refine (spec_Take.calls (⟨#[97, 58, 51]⟩ : ByteArray) t106 t107 t108 t109 t110 _ A1.out (X.Gl.below hG.out (by repeat (with_reducible first | exact HB.out | apply lA | apply pw_below_drewN | apply lD | refine below_set ?_ (Aside0.out (by assumption)))))).mono ?_); rintro e w18 ⟨rfl, hb⟩; refine ⟨_, rfl, ?_⟩; have n0_ := Aside0.mk (below_step (by repeat (with_reducible first | exact HB.out | apply lA | apply pw_below_drewN | apply lD)) hb); clear HB; have HB := n0_; clear n0_; (try clear hb); (try clear hb2); (try clear hk); (try clear hi)) | ((with_reducible refine gate_dst (N := 1) rfl ?_); refine box_event ?hg (N := 1) ?hd (cs := #[.string (⟨#[]⟩ : ByteArray), .int .i64 0, .bool false]) (t := 23) ?hr ?_; (case hd => rfl); (case hg => rfl); (case hr => first | (go_simp; done) | (go_simp; rfl)); intro gb111 hg w19 hbox hb; have n0_ := Aside0.mk (below_step (by repeat (with_reducible first | exact HB.out | apply lA | apply pw_below_drewN | apply lD)) hb); have n1_ := Aside0.mk (hbox); have n2_ := Aside0.mk ((by rw [hg]; exact (below_size (by repeat (with_reducible first | exact HB.out | apply lA | apply pw_below_drewN | apply lD))) : w.heap.size ≤ gb111)); have n3_ := Aside0.mk ((by rw [hg]; exact (below_size (by repeat (with_reducible first | exact HB.out | apply lA | apply pw_below_drewN | apply lD))) : w.heap.size ≤ gb111)); clear HB; have HB := n0_; have BK111 := n1_; have GW111 := n2_; have GE111 := n3_; clear n0_ n1_ n2_ n3_; clear hb hbox hg; have hcz20_0 : w19.cell? ⟨gb111, 0, none⟩ = some (.string (⟨#[]⟩ : ByteArray)) := (blk_cell BK111.out 0).trans rfl; have hcz20_1 : w19.cell? ⟨gb111, 1, none⟩ = some (.int .i64 0) := (blk_cell BK111.out 1).trans rfl; have hcz20_2 : w19.cell? ⟨gb111, 2, none⟩ = some (.bool false) := (blk_cell BK111.out 2).trans rfl; have hfz20_0 := blk_frozen BK111.out 0; have hfz20_1 := blk_frozen BK111.out 1; have hfz20_2 := blk_frozen BK111.out 2) | ((with_reducible refine gate_callee (f := 10) rfl ?_); refine goesL_ (some 13) rfl rfl Tryd.func10 (by kernel_rfl) rfl #[.string (⟨#[97, 58, 48]⟩ : ByteArray)] rfl (by (try simp only [List.map_toArray, List.map_cons, List.map_nil]); first | done | rfl) ?_; (with_reducible refine (spec_Take.calls (⟨#[97, 58, 48]⟩ : ByteArray) t112 t113 t114 t115 t116 _ A2.out (X.Gl.below hG.out (by repeat (with_reducible first | exact HB.out | apply lA | apply pw_below_drewN | apply lD | refine below_set ?_ (Aside0.out (by assumption)))))).mono ?_); rintro e w21 ⟨rfl, hb⟩; refine ⟨_, rfl, ?_⟩; have n0_ := Aside0.mk (blk_below (g := gb111) (o := .cells #[.string t106, .int .i64 t107, .bool t108] 23 (0, 0)) (by (with_reducible repeat first | apply bN | apply bD | apply bA); refine blk_put (cs := #[.string t106, .int .i64 t107, .bool false]) ?_ 2 _ rfl; (with_reducible repeat first | apply bN | apply bD | apply bA); refine blk_put (cs := #[.string t106, .int .i64 0, .bool false]) ?_ 1 _ rfl; (with_reducible repeat first | apply bN | apply bD | apply bA); refine blk_put (cs := #[.string (⟨#[]⟩ : ByteArray), .int .i64 0, .bool false]) ?_ 0 _ rfl; (with_reducible repeat first | apply bN | apply bD | apply bA); exact BK111.out) hb); have n1_ := Aside0.mk (below_step (by repeat (with_reducible first | exact HB.out | apply lA | apply pw_below_drewN | apply lD | refine below_set ?_ GE111.out)) hb); clear BK111; clear HB; have BK111 := n0_; have HB := n1_; clear n0_ n1_; (try clear hb); (try clear hb2); (try clear hk); (try clear hi)) | ((with_reducible refine gate_dst (N := 4) rfl ?_); refine box_event ?hg (N := 4) ?hd (cs := #[.string (⟨#[]⟩ : ByteArray), .int .i64 0, .bool false]) (t := 23) ?hr ?_; (case hd => rfl); (case hg => rfl); (case hr => first | (go_simp; done) | (go_simp; rfl)); intro gb117 hg w22 hbox hb; have n0_ := Aside0.mk (blk_below (g := gb111) (o := .cells #[.string t106, .int .i64 t107, .bool t108] 23 (0, 0)) (by (with_reducible repeat first | apply bN | apply bD | apply bA); exact BK111.out) hb); have n1_ := Aside0.mk (below_step (by repeat (with_reducible first | exact HB.out | apply lA | apply pw_below_drewN | apply lD | refine below_set ?_ GE111.out)) hb); have n2_ := Aside0.mk (hbox); have n3_ := Aside0.mk ((by rw [hg]; exact (below_size (by repeat (with_reducible first | exact HB.out | apply lA | apply pw_below_drewN | apply lD | refine below_set ?_ GE111.out))) : w.heap.size ≤ gb117)); have n4_ := Aside0.mk ((by rw [hg]; exact (below_size (by repeat (with_reducible first | exact HB.out | apply lA | apply pw_below_drewN | apply lD | refine below_set ?_ GE111.out))) : w.heap.size ≤ gb117)); have n5_ := Aside0.mk ((by rw [hg]; exact Nat.ne_of_lt (blk_lt (g := gb111) (o := .cells #[.string t106, .int .i64 t107, .bool t108] 23 (0, 0)) (by (with_reducible repeat first | apply bN | apply bD | apply bA); exact BK111.out)) : gb111 ≠ gb117)); have n6_ := Aside0.mk ((by rw [hg]; exact Nat.ne_of_gt (blk_lt (g := gb111) (o := .cells #[.string t106, .int .i64 t107, .bool t108] 23 (0, 0)) (by (with_reducible repeat first | apply bN | apply bD | apply bA); exact BK111.out)) : gb117 ≠ gb111)); clear BK111; clear HB; have BK111 := n0_; have HB := n1_; have BK117 := n2_; have GW117 := n3_; have GE117 := n4_; have NB111_117 := n5_; have NB117_111 := n6_; clear n0_ n1_ n2_ n3_ n4_ n5_ n6_; clear hb hbox hg; have hnb23 := NB117_111.out; have hnc23 := NB111_117.out; have hcz24_0 : w22.cell? ⟨gb117, 0, none⟩ = some (.string (⟨#[]⟩ : ByteArray)) := (blk_cell BK117.out 0).trans rfl; have hcz24_1 : w22.cell? ⟨gb117, 1, none⟩ = some (.int .i64 0) := (blk_cell BK117.out 1).trans rfl; have hcz24_2 : w22.cell? ⟨gb117, 2, none⟩ = some (.bool false) := (blk_cell BK117.out 2).trans rfl; have hfz24_0 := blk_frozen BK117.out 0; have hfz24_1 := blk_frozen BK117.out 1; have hfz24_2 := blk_frozen BK117.out 2; have hcz25_0 : w22.cell? ⟨gb111, 0, none⟩ = some (.string t106) := (blk_cell BK111.out 0).trans rfl; have hcz25_1 : w22.cell? ⟨gb111, 1, none⟩ = some (.int .i64 t107) := (blk_cell BK111.out 1).trans rfl; have hcz25_2 : w22.cell? ⟨gb111, 2, none⟩ = some (.bool t108) := (blk_cell BK111.out 2).trans rfl; have hfz25_0 := blk_frozen BK111.out 0; have hfz25_1 := blk_frozen BK111.out 1; have hfz25_2 := blk_frozen BK111.out 2))
      go_ret
      exact ⟨by first | rfl | (simp [errW_none, errW_some] <;> rfl) | (simp [*, errW_none, errW_some] <;> rfl), by repeat (with_reducible first | exact HB.out | apply lA | apply pw_below_drewN | apply lD | refine below_set ?_ GE111.out | refine below_set ?_ GE117.out)⟩
    ·rw [if_neg c6] at H
     have c6b0 : (t116 == 2) = false := beq_eq_false_iff_ne.mpr c6
     have c6b1 : (t116 != 2) = true := bne_iff_ne.mpr c6
     obtain rfl := Option.some.inj H
     go_enter Tryd.func9, Tryd.ntmps9
     go_wp2_with (first | ((with_reducible refine gate_callee (f := 10) rfl ?_); refine goesL_ (some 8) rfl rfl Tryd.func10 (by kernel_rfl) rfl #[.string (⟨#[97, 58, 51]⟩ : ByteArray)] rfl (by (try simp only [List.map_toArray, List.map_cons, List.map_nil]); first | done | rfl) ?_; (with_reducible refine (spec_Take.calls (⟨#[97, 58, 51]⟩ : ByteArray) t106 t107 t108 t109 t110 _ A1.out (X.Gl.below hG.out (by repeat (with_reducible first | exact HB.out | apply lA | apply pw_below_drewN | apply lD | refine below_set ?_ (Aside0.out (by assumption)))))).mono ?_); rintro e w26 ⟨rfl, hb⟩; refine ⟨_, rfl, ?_⟩; have n0_ := Aside0.mk (below_step (by repeat (with_reducible first | exact HB.out | apply lA | apply pw_below_drewN | apply lD)) hb); clear HB; have HB := n0_; clear n0_; (try clear hb); (try clear hb2); (try clear hk); (try clear hi)) | ((with_reducible refine gate_dst (N := 1) rfl ?_); refine box_event ?hg (N := 1) ?hd (cs := #[.string (⟨#[]⟩ : ByteArray), .int .i64 0, .bool false]) (t := 23) ?hr ?_; (case hd => rfl); (case hg => rfl); (case hr => first | (go_simp; done) | (go_simp; rfl)); intro gb111 hg w27 hbox hb; have n0_ := Aside0.mk (below_step (by repeat (with_reducible first | exact HB.out | apply lA | apply pw_below_drewN | apply lD)) hb); have n1_ := Aside0.mk (hbox); have n2_ := Aside0.mk ((by rw [hg]; exact (below_size (by repeat (with_reducible first | exact HB.out | apply lA | apply pw_below_drewN | apply lD))) : w.heap.size ≤ gb111)); have n3_ := Aside0.mk ((by rw [hg]; exact (below_size (by repeat (with_reducible first | exact HB.out | apply lA | apply pw_below_drewN | apply lD))) : w.heap.size ≤ gb111)); clear HB; have HB := n0_; have BK111 := n1_; have GW111 := n2_; have GE111 := n3_; clear n0_ n1_ n2_ n3_; clear hb hbox hg; have hcz28_0 : w27.cell? ⟨gb111, 0, none⟩ = some (.string (⟨#[]⟩ : ByteArray)) := (blk_cell BK111.out 0).trans rfl; have hcz28_1 : w27.cell? ⟨gb111, 1, none⟩ = some (.int .i64 0) := (blk_cell BK111.out 1).trans rfl; have hcz28_2 : w27.cell? ⟨gb111, 2, none⟩ = some (.bool false) := (blk_cell BK111.out 2).trans rfl; have hfz28_0 := blk_frozen BK111.out 0; have hfz28_1 := blk_frozen BK111.out 1; have hfz28_2 := blk_frozen BK111.out 2) | ((with_reducible refine gate_callee (f := 10) rfl ?_); refine goesL_ (some 13) rfl rfl Tryd.func10 (by kernel_rfl) rfl #[.string (⟨#[97, 58, 48]⟩ : ByteArray)] rfl (by (try simp only [List.map_toArray, List.map_cons, List.map_nil]); first | done | rfl) ?_; (with_reducible refine (spec_Take.calls (⟨#[97, 58, 48]⟩ : ByteArray) t112 t113 t114 t115 t116 _ A2.out (X.Gl.below hG.out (by repeat (with_reducible first | exact HB.out | apply lA | apply pw_below_drewN | apply lD | refine below_set ?_ (Aside0.out (by assumption)))))).mono ?_); rintro e w29 ⟨rfl, hb⟩; refine ⟨_, rfl, ?_⟩; have n0_ := Aside0.mk (blk_below (g := gb111) (o := .cells #[.string t106, .int .i64 t107, .bool t108] 23 (0, 0)) (by (with_reducible repeat first | apply bN | apply bD | apply bA); refine blk_put (cs := #[.string t106, .int .i64 t107, .bool false]) ?_ 2 _ rfl; (with_reducible repeat first | apply bN | apply bD | apply bA); refine blk_put (cs := #[.string t106, .int .i64 0, .bool false]) ?_ 1 _ rfl; (with_reducible repeat first | apply bN | apply bD | apply bA); refine blk_put (cs := #[.string (⟨#[]⟩ : ByteArray), .int .i64 0, .bool false]) ?_ 0 _ rfl; (with_reducible repeat first | apply bN | apply bD | apply bA); exact BK111.out) hb); have n1_ := Aside0.mk (below_step (by repeat (with_reducible first | exact HB.out | apply lA | apply pw_below_drewN | apply lD | refine below_set ?_ GE111.out)) hb); clear BK111; clear HB; have BK111 := n0_; have HB := n1_; clear n0_ n1_; (try clear hb); (try clear hb2); (try clear hk); (try clear hi)) | ((with_reducible refine gate_dst (N := 4) rfl ?_); refine box_event ?hg (N := 4) ?hd (cs := #[.string (⟨#[]⟩ : ByteArray), .int .i64 0, .bool false]) (t := 23) ?hr ?_; (case hd => rfl); (case hg => rfl); (case hr => first | (go_simp; done) | (go_simp; rfl)); intro gb117 hg w30 hbox hb; have n0_ := Aside0.mk (blk_below (g := gb111) (o := .cells #[.string t106, .int .i64 t107, .bool t108] 23 (0, 0)) (by (with_reducible repeat first | apply bN | apply bD | apply bA); exact BK111.out) hb); have n1_ := Aside0.mk (below_step (by repeat (with_reducible first | exact HB.out | apply lA | apply pw_below_drewN | apply lD | refine below_set ?_ GE111.out)) hb); have n2_ := Aside0.mk (hbox); have n3_ := Aside0.mk ((by rw [hg]; exact (below_size (by repeat (with_reducible first | exact HB.out | apply lA | apply pw_below_drewN | apply lD | refine below_set ?_ GE111.out))) : w.heap.size ≤ gb117)); have n4_ := Aside0.mk ((by rw [hg]; exact (below_size (by repeat (with_reducible first | exact HB.out | apply lA | apply pw_below_drewN | apply lD | refine below_set ?_ GE111.out))) : w.heap.size ≤ gb117)); have n5_ := Aside0.mk ((by rw [hg]; exact Nat.ne_of_lt (blk_lt (g := gb111) (o := .cells #[.string t106, .int .i64 t107, .bool t108] 23 (0, 0)) (by (with_reducible repeat first | apply bN | apply bD | apply bA); exact BK111.out)) : gb111 ≠ gb117)); have n6_ := Aside0.mk ((by rw [hg]; exact Nat.ne_of_gt (blk_lt (g := gb111) (o := .cells #[.string t106, .int .i64 t107, .bool t108] 23 (0, 0)) (by (with_reducible repeat first | apply bN | apply bD | apply bA); exact BK111.out)) : gb117 ≠ gb111)); clear BK111; clear HB; have BK111 := n0_; have HB := n1_; have BK117 := n2_; have GW117 := n3_; have GE117 := n4_; have NB111_117 := n5_; have NB117_111 := n6_; clear n0_ n1_ n2_ n3_ n4_ n5_ n6_; clear hb hbox hg; have hnb31 := NB117_111.out; have hnc31 := NB111_117.out; have hcz32_0 : w30.cell? ⟨gb117, 0, none⟩ = some (.string (⟨#[]⟩ : ByteArray)) := (blk_cell BK117.out 0).trans rfl; have hcz32_1 : w30.cell? ⟨gb117, 1, none⟩ = some (.int .i64 0) := (blk_cell BK117.out 1).trans rfl; have hcz32_2 : w30.cell? ⟨gb117, 2, none⟩ = some (.bool false) := (blk_cell BK117.out 2).trans rfl; have hfz32_0 := blk_frozen BK117.out 0; have hfz32_1 := blk_frozen BK117.out 1; have hfz32_2 := blk_frozen BK117.out 2; have hcz33_0 : w30.cell? ⟨gb111, 0, none⟩ = some (.string t106) := (blk_cell BK111.out 0).trans rfl; have hcz33_1 : w30.cell? ⟨gb111, 1, none⟩ = some (.int .i64 t107) := (blk_cell BK111.out 1).trans rfl; have hcz33_2 : w30.cell? ⟨gb111, 2, none⟩ = some (.bool t108) := (blk_cell BK111.out 2).trans rfl; have hfz33_0 := blk_frozen BK111.out 0; have hfz33_1 := blk_frozen BK111.out 1; have hfz33_2 := blk_frozen BK111.out 2))
     go_ret
     exact ⟨by first | rfl | (simp [errW_none, errW_some] <;> rfl) | (simp [*, errW_none, errW_some] <;> rfl), by repeat (with_reducible first | exact HB.out | apply lA | apply pw_below_drewN | apply lD | refine below_set ?_ GE111.out | refine below_set ?_ GE117.out)⟩
   ·rw [if_neg c5] at H
    have c5b0 : (t106.toList == ([97] : List UInt8) && (t107 == 3 && (!t108))) = false := by simpa using c5
    (try (have c5b1 : decide (t106.toList = ([97] : List UInt8) && (t107 == 3 && (!t108))) = false := by simpa using c5))
    (try (have c5b2 : (t106.toList == ([97] : List UInt8) && (t107 == 3 && (!t108))) = false := by simpa using c5))
    (try (have c5b3 : ¬ (t106.toList = ([97] : List UInt8) && (t107 == 3 && (!t108))) := by simpa using c5))
    clear c5
    obtain rfl := Option.some.inj H
    go_enter Tryd.func9, Tryd.ntmps9
    go_wp2_with (first | ((with_reducible refine gate_callee (f := 10) rfl ?_); refine goesL_ (some 8) rfl rfl Tryd.func10 (by kernel_rfl) rfl #[.string (⟨#[97, 58, 51]⟩ : ByteArray)] rfl (by (try simp only [List.map_toArray, List.map_cons, List.map_nil]); first | done | rfl) ?_; (with_reducible refine (spec_Take.calls (⟨#[97, 58, 51]⟩ : ByteArray) t106 t107 t108 t109 t110 _ A1.out (X.Gl.below hG.out (by repeat (with_reducible first | exact HB.out | apply lA | apply pw_below_drewN | apply lD | refine below_set ?_ (Aside0.out (by assumption)))))).mono ?_); rintro e w34 ⟨rfl, hb⟩; refine ⟨_, rfl, ?_⟩; have n0_ := Aside0.mk (below_step (by repeat (with_reducible first | exact HB.out | apply lA | apply pw_below_drewN | apply lD)) hb); clear HB; have HB := n0_; clear n0_; (try clear hb); (try clear hb2); (try clear hk); (try clear hi)) | ((with_reducible refine gate_dst (N := 1) rfl ?_); refine box_event ?hg (N := 1) ?hd (cs := #[.string (⟨#[]⟩ : ByteArray), .int .i64 0, .bool false]) (t := 23) ?hr ?_; (case hd => rfl); (case hg => rfl); (case hr => first | (go_simp; done) | (go_simp; rfl)); intro gb111 hg w35 hbox hb; have n0_ := Aside0.mk (below_step (by repeat (with_reducible first | exact HB.out | apply lA | apply pw_below_drewN | apply lD)) hb); have n1_ := Aside0.mk (hbox); have n2_ := Aside0.mk ((by rw [hg]; exact (below_size (by repeat (with_reducible first | exact HB.out | apply lA | apply pw_below_drewN | apply lD))) : w.heap.size ≤ gb111)); have n3_ := Aside0.mk ((by rw [hg]; exact (below_size (by repeat (with_reducible first | exact HB.out | apply lA | apply pw_below_drewN | apply lD))) : w.heap.size ≤ gb111)); clear HB; have HB := n0_; have BK111 := n1_; have GW111 := n2_; have GE111 := n3_; clear n0_ n1_ n2_ n3_; clear hb hbox hg; have hcz36_0 : w35.cell? ⟨gb111, 0, none⟩ = some (.string (⟨#[]⟩ : ByteArray)) := (blk_cell BK111.out 0).trans rfl; have hcz36_1 : w35.cell? ⟨gb111, 1, none⟩ = some (.int .i64 0) := (blk_cell BK111.out 1).trans rfl; have hcz36_2 : w35.cell? ⟨gb111, 2, none⟩ = some (.bool false) := (blk_cell BK111.out 2).trans rfl; have hfz36_0 := blk_frozen BK111.out 0; have hfz36_1 := blk_frozen BK111.out 1; have hfz36_2 := blk_frozen BK111.out 2) | ((with_reducible refine gate_callee (f := 10) rfl ?_); refine goesL_ (some 13) rfl rfl Tryd.func10 (by kernel_rfl) rfl #[.string (⟨#[97, 58, 48]⟩ : ByteArray)] rfl (by (try simp only [List.map_toArray, List.map_cons, List.map_nil]); first | done | rfl) ?_; (with_reducible refine (spec_Take.calls (⟨#[97, 58, 48]⟩ : ByteArray) t112 t113 t114 t115 t116 _ A2.out (X.Gl.below hG.out (by repeat (with_reducible first | exact HB.out | apply lA | apply pw_below_drewN | apply lD | refine below_set ?_ (Aside0.out (by assumption)))))).mono ?_); rintro e w37 ⟨rfl, hb⟩; refine ⟨_, rfl, ?_⟩; have n0_ := Aside0.mk (blk_below (g := gb111) (o := .cells #[.string t106, .int .i64 t107, .bool t108] 23 (0, 0)) (by (with_reducible repeat first | apply bN | apply bD | apply bA); refine blk_put (cs := #[.string t106, .int .i64 t107, .bool false]) ?_ 2 _ rfl; (with_reducible repeat first | apply bN | apply bD | apply bA); refine blk_put (cs := #[.string t106, .int .i64 0, .bool false]) ?_ 1 _ rfl; (with_reducible repeat first | apply bN | apply bD | apply bA); refine blk_put (cs := #[.string (⟨#[]⟩ : ByteArray), .int .i64 0, .bool false]) ?_ 0 _ rfl; (with_reducible repeat first | apply bN | apply bD | apply bA); exact BK111.out) hb); have n1_ := Aside0.mk (below_step (by repeat (with_reducible first | exact HB.out | apply lA | apply pw_below_drewN | apply lD | refine below_set ?_ GE111.out)) hb); clear BK111; clear HB; have BK111 := n0_; have HB := n1_; clear n0_ n1_; (try clear hb); (try clear hb2); (try clear hk); (try clear hi)) | ((with_reducible refine gate_dst (N := 4) rfl ?_); refine box_event ?hg (N := 4) ?hd (cs := #[.string (⟨#[]⟩ : ByteArray), .int .i64 0, .bool false]) (t := 23) ?hr ?_; (case hd => rfl); (case hg => rfl); (case hr => first | (go_simp; done) | (go_simp; rfl)); intro gb117 hg w38 hbox hb; have n0_ := Aside0.mk (blk_below (g := gb111) (o := .cells #[.string t106, .int .i64 t107, .bool t108] 23 (0, 0)) (by (with_reducible repeat first | apply bN | apply bD | apply bA); exact BK111.out) hb); have n1_ := Aside0.mk (below_step (by repeat (with_reducible first | exact HB.out | apply lA | apply pw_below_drewN | apply lD | refine below_set ?_ GE111.out)) hb); have n2_ := Aside0.mk (hbox); have n3_ := Aside0.mk ((by rw [hg]; exact (below_size (by repeat (with_reducible first | exact HB.out | apply lA | apply pw_below_drewN | apply lD | refine below_set ?_ GE111.out))) : w.heap.size ≤ gb117)); have n4_ := Aside0.mk ((by rw [hg]; exact (below_size (by repeat (with_reducible first | exact HB.out | apply lA | apply pw_below_drewN | apply lD | refine below_set ?_ GE111.out))) : w.heap.size ≤ gb117)); have n5_ := Aside0.mk ((by rw [hg]; exact Nat.ne_of_lt (blk_lt (g := gb111) (o := .cells #[.string t106, .int .i64 t107, .bool t108] 23 (0, 0)) (by (with_reducible repeat first | apply bN | apply bD | apply bA); exact BK111.out)) : gb111 ≠ gb117)); have n6_ := Aside0.mk ((by rw [hg]; exact Nat.ne_of_gt (blk_lt (g := gb111) (o := .cells #[.string t106, .int .i64 t107, .bool t108] 23 (0, 0)) (by (with_reducible repeat first | apply bN | apply bD | apply bA); exact BK111.out)) : gb117 ≠ gb111)); clear BK111; clear HB; have BK111 := n0_; have HB := n1_; have BK117 := n2_; have GW117 := n3_; have GE117 := n4_; have NB111_117 := n5_; have NB117_111 := n6_; clear n0_ n1_ n2_ n3_ n4_ n5_ n6_; clear hb hbox hg; have hnb39 := NB117_111.out; have hnc39 := NB111_117.out; have hcz40_0 : w38.cell? ⟨gb117, 0, none⟩ = some (.string (⟨#[]⟩ : ByteArray)) := (blk_cell BK117.out 0).trans rfl; have hcz40_1 : w38.cell? ⟨gb117, 1, none⟩ = some (.int .i64 0) := (blk_cell BK117.out 1).trans rfl; have hcz40_2 : w38.cell? ⟨gb117, 2, none⟩ = some (.bool false) := (blk_cell BK117.out 2).trans rfl; have hfz40_0 := blk_frozen BK117.out 0; have hfz40_1 := blk_frozen BK117.out 1; have hfz40_2 := blk_frozen BK117.out 2; have hcz41_0 : w38.cell? ⟨gb111, 0, none⟩ = some (.string t106) := (blk_cell BK111.out 0).trans rfl; have hcz41_1 : w38.cell? ⟨gb111, 1, none⟩ = some (.int .i64 t107) := (blk_cell BK111.out 1).trans rfl; have hcz41_2 : w38.cell? ⟨gb111, 2, none⟩ = some (.bool t108) := (blk_cell BK111.out 2).trans rfl; have hfz41_0 := blk_frozen BK111.out 0; have hfz41_1 := blk_frozen BK111.out 1; have hfz41_2 := blk_frozen BK111.out 2))
    go_ret
    exact ⟨by first | rfl | (simp [errW_none, errW_some] <;> rfl) | (simp [*, errW_none, errW_some] <;> rfl), by repeat (with_reducible first | exact HB.out | apply lA | apply pw_below_drewN | apply lD | refine below_set ?_ GE111.out | refine below_set ?_ GE117.out)⟩
  ·rw [if_neg c4] at H
   have c4b0 : (t109 == 3) = false := beq_eq_false_iff_ne.mpr c4
   have c4b1 : (t109 != 3) = true := bne_iff_ne.mpr c4
   obtain rfl := Option.some.inj H
   go_enter Tryd.func9, Tryd.ntmps9
   go_wp2_with (first | ((with_reducible refine gate_callee (f := 10) rfl ?_); refine goesL_ (some 8) rfl rfl Tryd.func10 (by kernel_rfl) rfl #[.string (⟨#[97, 58, 51]⟩ : ByteArray)] rfl (by (try simp only [List.map_toArray, List.map_cons, List.map_nil]); first | done | rfl) ?_; (with_reducible refine (spec_Take.calls (⟨#[97, 58, 51]⟩ : ByteArray) t106 t107 t108 t109 t110 _ A1.out (X.Gl.below hG.out (by repeat (with_reducible first | exact HB.out | apply lA | apply pw_below_drewN | apply lD | refine below_set ?_ (Aside0.out (by assumption)))))).mono ?_); rintro e w42 ⟨rfl, hb⟩; refine ⟨_, rfl, ?_⟩; have n0_ := Aside0.mk (below_step (by repeat (with_reducible first | exact HB.out | apply lA | apply pw_below_drewN | apply lD)) hb); clear HB; have HB := n0_; clear n0_; (try clear hb); (try clear hb2); (try clear hk); (try clear hi)) | ((with_reducible refine gate_dst (N := 1) rfl ?_); refine box_event ?hg (N := 1) ?hd (cs := #[.string (⟨#[]⟩ : ByteArray), .int .i64 0, .bool false]) (t := 23) ?hr ?_; (case hd => rfl); (case hg => rfl); (case hr => first | (go_simp; done) | (go_simp; rfl)); intro gb111 hg w43 hbox hb; have n0_ := Aside0.mk (below_step (by repeat (with_reducible first | exact HB.out | apply lA | apply pw_below_drewN | apply lD)) hb); have n1_ := Aside0.mk (hbox); have n2_ := Aside0.mk ((by rw [hg]; exact (below_size (by repeat (with_reducible first | exact HB.out | apply lA | apply pw_below_drewN | apply lD))) : w.heap.size ≤ gb111)); have n3_ := Aside0.mk ((by rw [hg]; exact (below_size (by repeat (with_reducible first | exact HB.out | apply lA | apply pw_below_drewN | apply lD))) : w.heap.size ≤ gb111)); clear HB; have HB := n0_; have BK111 := n1_; have GW111 := n2_; have GE111 := n3_; clear n0_ n1_ n2_ n3_; clear hb hbox hg; have hcz44_0 : w43.cell? ⟨gb111, 0, none⟩ = some (.string (⟨#[]⟩ : ByteArray)) := (blk_cell BK111.out 0).trans rfl; have hcz44_1 : w43.cell? ⟨gb111, 1, none⟩ = some (.int .i64 0) := (blk_cell BK111.out 1).trans rfl; have hcz44_2 : w43.cell? ⟨gb111, 2, none⟩ = some (.bool false) := (blk_cell BK111.out 2).trans rfl; have hfz44_0 := blk_frozen BK111.out 0; have hfz44_1 := blk_frozen BK111.out 1; have hfz44_2 := blk_frozen BK111.out 2) | ((with_reducible refine gate_callee (f := 10) rfl ?_); refine goesL_ (some 13) rfl rfl Tryd.func10 (by kernel_rfl) rfl #[.string (⟨#[97, 58, 48]⟩ : ByteArray)] rfl (by (try simp only [List.map_toArray, List.map_cons, List.map_nil]); first | done | rfl) ?_; (with_reducible refine (spec_Take.calls (⟨#[97, 58, 48]⟩ : ByteArray) t112 t113 t114 t115 t116 _ A2.out (X.Gl.below hG.out (by repeat (with_reducible first | exact HB.out | apply lA | apply pw_below_drewN | apply lD | refine below_set ?_ (Aside0.out (by assumption)))))).mono ?_); rintro e w45 ⟨rfl, hb⟩; refine ⟨_, rfl, ?_⟩; have n0_ := Aside0.mk (blk_below (g := gb111) (o := .cells #[.string t106, .int .i64 t107, .bool t108] 23 (0, 0)) (by (with_reducible repeat first | apply bN | apply bD | apply bA); refine blk_put (cs := #[.string t106, .int .i64 t107, .bool false]) ?_ 2 _ rfl; (with_reducible repeat first | apply bN | apply bD | apply bA); refine blk_put (cs := #[.string t106, .int .i64 0, .bool false]) ?_ 1 _ rfl; (with_reducible repeat first | apply bN | apply bD | apply bA); refine blk_put (cs := #[.string (⟨#[]⟩ : ByteArray), .int .i64 0, .bool false]) ?_ 0 _ rfl; (with_reducible repeat first | apply bN | apply bD | apply bA); exact BK111.out) hb); have n1_ := Aside0.mk (below_step (by repeat (with_reducible first | exact HB.out | apply lA | apply pw_below_drewN | apply lD | refine below_set ?_ GE111.out)) hb); clear BK111; clear HB; have BK111 := n0_; have HB := n1_; clear n0_ n1_; (try clear hb); (try clear hb2); (try clear hk); (try clear hi)) | ((with_reducible refine gate_dst (N := 4) rfl ?_); refine box_event ?hg (N := 4) ?hd (cs := #[.string (⟨#[]⟩ : ByteArray), .int .i64 0, .bool false]) (t := 23) ?hr ?_; (case hd => rfl); (case hg => rfl); (case hr => first | (go_simp; done) | (go_simp; rfl)); intro gb117 hg w46 hbox hb; have n0_ := Aside0.mk (blk_below (g := gb111) (o := .cells #[.string t106, .int .i64 t107, .bool t108] 23 (0, 0)) (by (with_reducible repeat first | apply bN | apply bD | apply bA); exact BK111.out) hb); have n1_ := Aside0.mk (below_step (by repeat (with_reducible first | exact HB.out | apply lA | apply pw_below_drewN | apply lD | refine below_set ?_ GE111.out)) hb); have n2_ := Aside0.mk (hbox); have n3_ := Aside0.mk ((by rw [hg]; exact (below_size (by repeat (with_reducible first | exact HB.out | apply lA | apply pw_below_drewN | apply lD | refine below_set ?_ GE111.out))) : w.heap.size ≤ gb117)); have n4_ := Aside0.mk ((by rw [hg]; exact (below_size (by repeat (with_reducible first | exact HB.out | apply lA | apply pw_below_drewN | apply lD | refine below_set ?_ GE111.out))) : w.heap.size ≤ gb117)); have n5_ := Aside0.mk ((by rw [hg]; exact Nat.ne_of_lt (blk_lt (g := gb111) (o := .cells #[.string t106, .int .i64 t107, .bool t108] 23 (0, 0)) (by (with_reducible repeat first | apply bN | apply bD | apply bA); exact BK111.out)) : gb111 ≠ gb117)); have n6_ := Aside0.mk ((by rw [hg]; exact Nat.ne_of_gt (blk_lt (g := gb111) (o := .cells #[.string t106, .int .i64 t107, .bool t108] 23 (0, 0)) (by (with_reducible repeat first | apply bN | apply bD | apply bA); exact BK111.out)) : gb117 ≠ gb111)); clear BK111; clear HB; have BK111 := n0_; have HB := n1_; have BK117 := n2_; have GW117 := n3_; have GE117 := n4_; have NB111_117 := n5_; have NB117_111 := n6_; clear n0_ n1_ n2_ n3_ n4_ n5_ n6_; clear hb hbox hg; have hnb47 := NB117_111.out; have hnc47 := NB111_117.out; have hcz48_0 : w46.cell? ⟨gb117, 0, none⟩ = some (.string (⟨#[]⟩ : ByteArray)) := (blk_cell BK117.out 0).trans rfl; have hcz48_1 : w46.cell? ⟨gb117, 1, none⟩ = some (.int .i64 0) := (blk_cell BK117.out 1).trans rfl; have hcz48_2 : w46.cell? ⟨gb117, 2, none⟩ = some (.bool false) := (blk_cell BK117.out 2).trans rfl; have hfz48_0 := blk_frozen BK117.out 0; have hfz48_1 := blk_frozen BK117.out 1; have hfz48_2 := blk_frozen BK117.out 2))
   go_ret
   exact ⟨by first | rfl | (simp [errW_none, errW_some] <;> rfl) | (simp [*, errW_none, errW_some] <;> rfl), by repeat (with_reducible first | exact HB.out | apply lA | apply pw_below_drewN | apply lD | refine below_set ?_ GE111.out | refine below_set ?_ GE117.out)⟩
 ·rw [if_neg c3] at H
  have c3b0 : (t110 == 0) = false := beq_eq_false_iff_ne.mpr c3
  have c3b1 : (t110 != 0) = true := bne_iff_ne.mpr c3
  obtain rfl := Option.some.inj H
  go_enter Tryd.func9, Tryd.ntmps9
  go_wp2_with (first | ((with_reducible refine gate_callee (f := 10) rfl ?_); refine goesL_ (some 8) rfl rfl Tryd.func10 (by kernel_rfl) rfl #[.string (⟨#[97, 58, 51]⟩ : ByteArray)] rfl (by (try simp only [List.map_toArray, List.map_cons, List.map_nil]); first | done | rfl) ?_; (with_reducible refine (spec_Take.calls (⟨#[97, 58, 51]⟩ : ByteArray) t106 t107 t108 t109 t110 _ A1.out (X.Gl.below hG.out (by repeat (with_reducible first | exact HB.out | apply lA | apply pw_below_drewN | apply lD | refine below_set ?_ (Aside0.out (by assumption)))))).mono ?_); rintro e w49 ⟨rfl, hb⟩; refine ⟨_, rfl, ?_⟩; have n0_ := Aside0.mk (below_step (by repeat (with_reducible first | exact HB.out | apply lA | apply pw_below_drewN | apply lD)) hb); clear HB; have HB := n0_; clear n0_; (try clear hb); (try clear hb2); (try clear hk); (try clear hi)) | ((with_reducible refine gate_dst (N := 1) rfl ?_); refine box_event ?hg (N := 1) ?hd (cs := #[.string (⟨#[]⟩ : ByteArray), .int .i64 0, .bool false]) (t := 23) ?hr ?_; (case hd => rfl); (case hg => rfl); (case hr => first | (go_simp; done) | (go_simp; rfl)); intro gb111 hg w50 hbox hb; have n0_ := Aside0.mk (below_step (by repeat (with_reducible first | exact HB.out | apply lA | apply pw_below_drewN | apply lD)) hb); have n1_ := Aside0.mk (hbox); have n2_ := Aside0.mk ((by rw [hg]; exact (below_size (by repeat (with_reducible first | exact HB.out | apply lA | apply pw_below_drewN | apply lD))) : w.heap.size ≤ gb111)); have n3_ := Aside0.mk ((by rw [hg]; exact (below_size (by repeat (with_reducible first | exact HB.out | apply lA | apply pw_below_drewN | apply lD))) : w.heap.size ≤ gb111)); clear HB; have HB := n0_; have BK111 := n1_; have GW111 := n2_; have GE111 := n3_; clear n0_ n1_ n2_ n3_; clear hb hbox hg; have hcz51_0 : w50.cell? ⟨gb111, 0, none⟩ = some (.string (⟨#[]⟩ : ByteArray)) := (blk_cell BK111.out 0).trans rfl; have hcz51_1 : w50.cell? ⟨gb111, 1, none⟩ = some (.int .i64 0) := (blk_cell BK111.out 1).trans rfl; have hcz51_2 : w50.cell? ⟨gb111, 2, none⟩ = some (.bool false) := (blk_cell BK111.out 2).trans rfl; have hfz51_0 := blk_frozen BK111.out 0; have hfz51_1 := blk_frozen BK111.out 1; have hfz51_2 := blk_frozen BK111.out 2) | ((with_reducible refine gate_callee (f := 10) rfl ?_); refine goesL_ (some 13) rfl rfl Tryd.func10 (by kernel_rfl) rfl #[.string (⟨#[97, 58, 48]⟩ : ByteArray)] rfl (by (try simp only [List.map_toArray, List.map_cons, List.map_nil]); first | done | rfl) ?_; (with_reducible refine (spec_Take.calls (⟨#[97, 58, 48]⟩ : ByteArray) t112 t113 t114 t115 t116 _ A2.out (X.Gl.below hG.out (by repeat (with_reducible first | exact HB.out | apply lA | apply pw_below_drewN | apply lD | refine below_set ?_ (Aside0.out (by assumption)))))).mono ?_); rintro e w52 ⟨rfl, hb⟩; refine ⟨_, rfl, ?_⟩; have n0_ := Aside0.mk (blk_below (g := gb111) (o := .cells #[.string t106, .int .i64 t107, .bool t108] 23 (0, 0)) (by (with_reducible repeat first | apply bN | apply bD | apply bA); refine blk_put (cs := #[.string t106, .int .i64 t107, .bool false]) ?_ 2 _ rfl; (with_reducible repeat first | apply bN | apply bD | apply bA); refine blk_put (cs := #[.string t106, .int .i64 0, .bool false]) ?_ 1 _ rfl; (with_reducible repeat first | apply bN | apply bD | apply bA); refine blk_put (cs := #[.string (⟨#[]⟩ : ByteArray), .int .i64 0, .bool false]) ?_ 0 _ rfl; (with_reducible repeat first | apply bN | apply bD | apply bA); exact BK111.out) hb); have n1_ := Aside0.mk (below_step (by repeat (with_reducible first | exact HB.out | apply lA | apply pw_below_drewN | apply lD | refine below_set ?_ GE111.out)) hb); clear BK111; clear HB; have BK111 := n0_; have HB := n1_; clear n0_ n1_; (try clear hb); (try clear hb2); (try clear hk); (try clear hi)) | ((with_reducible refine gate_dst (N := 4) rfl ?_); refine box_event ?hg (N := 4) ?hd (cs := #[.string (⟨#[]⟩ : ByteArray), .int .i64 0, .bool false]) (t := 23) ?hr ?_; (case hd => rfl); (case hg => rfl); (case hr => first | (go_simp; done) | (go_simp; rfl)); intro gb117 hg w53 hbox hb; have n0_ := Aside0.mk (blk_below (g := gb111) (o := .cells #[.string t106, .int .i64 t107, .bool t108] 23 (0, 0)) (by (with_reducible repeat first | apply bN | apply bD | apply bA); exact BK111.out) hb); have n1_ := Aside0.mk (below_step (by repeat (with_reducible first | exact HB.out | apply lA | apply pw_below_drewN | apply lD | refine below_set ?_ GE111.out)) hb); have n2_ := Aside0.mk (hbox); have n3_ := Aside0.mk ((by rw [hg]; exact (below_size (by repeat (with_reducible first | exact HB.out | apply lA | apply pw_below_drewN | apply lD | refine below_set ?_ GE111.out))) : w.heap.size ≤ gb117)); have n4_ := Aside0.mk ((by rw [hg]; exact (below_size (by repeat (with_reducible first | exact HB.out | apply lA | apply pw_below_drewN | apply lD | refine below_set ?_ GE111.out))) : w.heap.size ≤ gb117)); have n5_ := Aside0.mk ((by rw [hg]; exact Nat.ne_of_lt (blk_lt (g := gb111) (o := .cells #[.string t106, .int .i64 t107, .bool t108] 23 (0, 0)) (by (with_reducible repeat first | apply bN | apply bD | apply bA); exact BK111.out)) : gb111 ≠ gb117)); have n6_ := Aside0.mk ((by rw [hg]; exact Nat.ne_of_gt (blk_lt (g := gb111) (o := .cells #[.string t106, .int .i64 t107, .bool t108] 23 (0, 0)) (by (with_reducible repeat first | apply bN | apply bD | apply bA); exact BK111.out)) : gb117 ≠ gb111)); clear BK111; clear HB; have BK111 := n0_; have HB := n1_; have BK117 := n2_; have GW117 := n3_; have GE117 := n4_; have NB111_117 := n5_; have NB117_111 := n6_; clear n0_ n1_ n2_ n3_ n4_ n5_ n6_; clear hb hbox hg; have hnb54 := NB117_111.out; have hnc54 := NB111_117.out; have hcz55_0 : w53.cell? ⟨gb117, 0, none⟩ = some (.string (⟨#[]⟩ : ByteArray)) := (blk_cell BK117.out 0).trans rfl; have hcz55_1 : w53.cell? ⟨gb117, 1, none⟩ = some (.int .i64 0) := (blk_cell BK117.out 1).trans rfl; have hcz55_2 : w53.cell? ⟨gb117, 2, none⟩ = some (.bool false) := (blk_cell BK117.out 2).trans rfl; have hfz55_0 := blk_frozen BK117.out 0; have hfz55_1 := blk_frozen BK117.out 1; have hfz55_2 := blk_frozen BK117.out 2))
  go_ret
  exact ⟨by first | rfl | (simp [errW_none, errW_some] <;> rfl) | (simp [*, errW_none, errW_some] <;> rfl), by repeat (with_reducible first | exact HB.out | apply lA | apply pw_below_drewN | apply lD | refine below_set ?_ GE111.out | refine below_set ?_ GE117.out)⟩
def phalaroperef02_Alpha.f (a0 : Int) : Option (Bool) := if a0 ≥ 65 then (if a0 ≤ 90 then (some true) else (if a0 ≥ 97 then (some (decide (a0 ≤ 122))) else (some false))) else (if a0 ≥ 97 then (some (decide (a0 ≤ 122))) else (some false))
set_option maxHeartbeats 8000000 in
set_option maxRecDepth 100000 in
theorem phalaroperef02_Alpha.calls (a0 : Int) (r : Bool) (w : World) (h : phalaroperef02_Alpha.f a0 = some r) :
  Calls Tryd.prog 43 #[.int .u8 a0] w fun e w' => e = .returned (.bool r) ∧ Drawn0 w w' := by
 have H : (if a0 ≥ 65 then (if a0 ≤ 90 then (some true) else (if a0 ≥ 97 then (some (decide (a0 ≤ 122))) else (some false))) else (if a0 ≥ 97 then (some (decide (a0 ≤ 122))) else (some false))) = some r := h
 clear h
 by_cases c2 : a0 ≥ 65
 ·rw [if_pos c2] at H
  have c2b0 : decide (65 ≤ a0) = true := decide_eq_true c2
  clear c2
  by_cases c3 : a0 ≤ 90
  ·rw [if_pos c3] at H
   have c3b0 : decide (a0 ≤ 90) = true := decide_eq_true c3
   clear c3
   obtain rfl := Option.some.inj H
   go_enter Tryd.func43, Tryd.ntmps43
   go_wp2
   go_ret
   exact ⟨by first | rfl | (simp; done) | (simp [*]; done), by repeat (first | exact Drawn0.refl _ | apply Drawn0.step)⟩
  ·rw [if_neg c3] at H
   have c3b0 : decide (a0 ≤ 90) = false := decide_eq_false c3
   clear c3
   by_cases c4 : a0 ≥ 97
   ·rw [if_pos c4] at H
    have c4b0 : decide (97 ≤ a0) = true := decide_eq_true c4
    clear c4
    obtain rfl := Option.some.inj H
    go_enter Tryd.func43, Tryd.ntmps43
    go_wp2
    go_ret
    exact ⟨by first | rfl | (simp; done) | (simp [*]; done), by repeat (first | exact Drawn0.refl _ | apply Drawn0.step)⟩
   ·rw [if_neg c4] at H
    have c4b0 : decide (97 ≤ a0) = false := decide_eq_false c4
    clear c4
    obtain rfl := Option.some.inj H
    go_enter Tryd.func43, Tryd.ntmps43
    go_wp2
    go_ret
    exact ⟨by first | rfl | (simp; done) | (simp [*]; done), by repeat (first | exact Drawn0.refl _ | apply Drawn0.step)⟩
 ·rw [if_neg c2] at H
  have c2b0 : decide (65 ≤ a0) = false := decide_eq_false c2
  clear c2
  by_cases c5 : a0 ≥ 97
  ·rw [if_pos c5] at H
   have c5b0 : decide (97 ≤ a0) = true := decide_eq_true c5
   clear c5
   obtain rfl := Option.some.inj H
   go_enter Tryd.func43, Tryd.ntmps43
   go_wp2
   go_ret
   exact ⟨by first | rfl | (simp; done) | (simp [*]; done), by repeat (first | exact Drawn0.refl _ | apply Drawn0.step)⟩
  ·rw [if_neg c5] at H
   have c5b0 : decide (97 ≤ a0) = false := decide_eq_false c5
   clear c5
   obtain rfl := Option.some.inj H
   go_enter Tryd.func43, Tryd.ntmps43
   go_wp2
   go_ret
   exact ⟨by first | rfl | (simp; done) | (simp [*]; done), by repeat (first | exact Drawn0.refl _ | apply Drawn0.step)⟩
def phalaroperef02_Digit.f (a0 : Int) : Option (Bool) := if a0 ≥ 48 then (some (decide (a0 ≤ 57))) else (some false)
set_option maxHeartbeats 8000000 in
set_option maxRecDepth 100000 in
theorem phalaroperef02_Digit.calls (a0 : Int) (r : Bool) (w : World) (h : phalaroperef02_Digit.f a0 = some r) :
    Calls Tryd.prog 44 #[.int .u8 a0] w fun e w' => e = .returned (.bool r) ∧ Drawn0 w w' := by
  have H : (if a0 ≥ 48 then (some (decide (a0 ≤ 57))) else (some false)) = some r := h
  clear h
  by_cases c2 : a0 ≥ 48
  · rw [if_pos c2] at H
    have c2b0 : decide (48 ≤ a0) = true := decide_eq_true c2
    clear c2
    obtain rfl := Option.some.inj H
    go_enter Tryd.func44, Tryd.ntmps44
    go_wp2
    go_ret
    exact ⟨by first | rfl | (simp; done) | (simp [*]; done), by repeat (first | exact Drawn0.refl _ | apply Drawn0.step)⟩
  · rw [if_neg c2] at H
    have c2b0 : decide (48 ≤ a0) = false := decide_eq_false c2
    clear c2
    obtain rfl := Option.some.inj H
    go_enter Tryd.func44, Tryd.ntmps44
    go_wp2
    go_ret
    exact ⟨by first | rfl | (simp; done) | (simp [*]; done), by repeat (first | exact Drawn0.refl _ | apply Drawn0.step)⟩
def phalaroperef02_Word.f (a0 : Int) : Option (Bool) := (phalaroperef02_Alpha.f a0).bind fun t119 => (if t119 = true then (some true) else ((phalaroperef02_Digit.f a0).bind fun t120 => (if t120 = true then (some true) else (some (a0 == 95)))))
set_option maxHeartbeats 8000000 in
set_option maxRecDepth 100000 in
theorem phalaroperef02_Word.calls (a0 : Int) (r : Bool) (w : World) (h : phalaroperef02_Word.f a0 = some r) :
  Calls Tryd.prog 33 #[.int .u8 a0] w fun e w' => e = .returned (.bool r) ∧ Drawn0 w w' := by
 have H : ((phalaroperef02_Alpha.f a0).bind fun t119 => (if t119 = true then (some true) else ((phalaroperef02_Digit.f a0).bind fun t120 => (if t120 = true then (some true) else (some (a0 == 95)))))) = some r := h
 clear h
 replace H := Option.bind_eq_some_iff.mp H
 obtain ⟨t119, A20, H⟩ := H
 replace H : (if t119 = true then (some true) else ((phalaroperef02_Digit.f a0).bind fun t120 => (if t120 = true then (some true) else (some (a0 == 95))))) = some r := H
 have A2 := Aside0.mk A20
 clear A20
 by_cases c3 : t119 = true
 ·subst c3
  have H1 : (some true) = some r := by rw [if_pos rfl] at H; exact H
  clear H
  have H := H1
  clear H1
  obtain rfl := Option.some.inj H
  go_enter Tryd.func33, Tryd.ntmps33
  go_wp2_with (first | ((with_reducible refine gate_callee (f := 43) rfl ?_); refine goesL_ (some 4) rfl rfl Tryd.func43 (by kernel_rfl) rfl #[.int .u8 a0] rfl (by (try simp only [List.map_toArray, List.map_cons, List.map_nil]); first | done | rfl) ?_; (with_reducible refine (phalaroperef02_Alpha.calls a0 true _ A2.out).mono ?_); rintro e w' ⟨rfl, ⟨nd, rfl⟩⟩; refine ⟨_, rfl, ?_⟩))
  go_ret
  exact ⟨by first | rfl | (simp; done) | (simp [*]; done), by repeat (first | exact Drawn0.refl _ | apply Drawn0.step)⟩
 ·replace c3 := Bool.eq_false_iff.mpr c3
  subst c3
  have H1 : ((phalaroperef02_Digit.f a0).bind fun t120 => (if t120 = true then (some true) else (some (a0 == 95)))) = some r := by rw [if_neg (show ¬ (false = true) by decide)] at H; exact H
  clear H
  have H := H1
  clear H1
  replace H := Option.bind_eq_some_iff.mp H
  obtain ⟨t120, A40, H⟩ := H
  replace H : (if t120 = true then (some true) else (some (a0 == 95))) = some r := H
  have A4 := Aside0.mk A40
  clear A40
  by_cases c5 : t120 = true
  ·subst c5
   have H1 : (some true) = some r := by rw [if_pos rfl] at H; exact H
   clear H
   have H := H1
   clear H1
   obtain rfl := Option.some.inj H
   go_enter Tryd.func33, Tryd.ntmps33
   go_wp2_with (first | ((with_reducible refine gate_callee (f := 43) rfl ?_); refine goesL_ (some 4) rfl rfl Tryd.func43 (by kernel_rfl) rfl #[.int .u8 a0] rfl (by (try simp only [List.map_toArray, List.map_cons, List.map_nil]); first | done | rfl) ?_; (with_reducible refine (phalaroperef02_Alpha.calls a0 false _ A2.out).mono ?_); rintro e w' ⟨rfl, ⟨nd, rfl⟩⟩; refine ⟨_, rfl, ?_⟩) | (go_at_call 44; (with_reducible refine (phalaroperef02_Digit.calls a0 true _ A4.out).mono ?_); rintro e w' ⟨rfl, ⟨nd, rfl⟩⟩))
   go_ret
   exact ⟨by first | rfl | (simp; done) | (simp [*]; done), by repeat (first | exact Drawn0.refl _ | apply Drawn0.step)⟩
  ·replace c5 := Bool.eq_false_iff.mpr c5
   subst c5
   have H1 : (some (a0 == 95)) = some r := by rw [if_neg (show ¬ (false = true) by decide)] at H; exact H
   clear H
   have H := H1
   clear H1
   obtain rfl := Option.some.inj H
   go_enter Tryd.func33, Tryd.ntmps33
   go_wp2_with (first | ((with_reducible refine gate_callee (f := 43) rfl ?_); refine goesL_ (some 4) rfl rfl Tryd.func43 (by kernel_rfl) rfl #[.int .u8 a0] rfl (by (try simp only [List.map_toArray, List.map_cons, List.map_nil]); first | done | rfl) ?_; (with_reducible refine (phalaroperef02_Alpha.calls a0 false _ A2.out).mono ?_); rintro e w' ⟨rfl, ⟨nd, rfl⟩⟩; refine ⟨_, rfl, ?_⟩) | (go_at_call 44; (with_reducible refine (phalaroperef02_Digit.calls a0 false _ A4.out).mono ?_); rintro e w' ⟨rfl, ⟨nd, rfl⟩⟩))
   go_ret
   exact ⟨by first | rfl | (simp; done) | (simp [*]; done), by repeat (first | exact Drawn0.refl _ | apply Drawn0.step)⟩
def phalaroperef02_Hex.f (a0 : Int) : Option (Bool) := (phalaroperef02_Digit.f a0).bind fun t121 => (if t121 = true then (some true) else (if a0 ≥ 65 then (if a0 ≤ 70 then (some true) else (if a0 ≥ 97 then (some (decide (a0 ≤ 102))) else (some false))) else (if a0 ≥ 97 then (some (decide (a0 ≤ 102))) else (some false))))
set_option maxHeartbeats 8000000 in
set_option maxRecDepth 100000 in
theorem phalaroperef02_Hex.calls (a0 : Int) (r : Bool) (w : World) (h : phalaroperef02_Hex.f a0 = some r) :
  Calls Tryd.prog 45 #[.int .u8 a0] w fun e w' => e = .returned (.bool r) ∧ Drawn0 w w' := by
 have H : ((phalaroperef02_Digit.f a0).bind fun t121 => (if t121 = true then (some true) else (if a0 ≥ 65 then (if a0 ≤ 70 then (some true) else (if a0 ≥ 97 then (some (decide (a0 ≤ 102))) else (some false))) else (if a0 ≥ 97 then (some (decide (a0 ≤ 102))) else (some false))))) = some r := h
 clear h
 replace H := Option.bind_eq_some_iff.mp H
 obtain ⟨t121, A20, H⟩ := H
 replace H : (if t121 = true then (some true) else (if a0 ≥ 65 then (if a0 ≤ 70 then (some true) else (if a0 ≥ 97 then (some (decide (a0 ≤ 102))) else (some false))) else (if a0 ≥ 97 then (some (decide (a0 ≤ 102))) else (some false)))) = some r := H
 have A2 := Aside0.mk A20
 clear A20
 by_cases c3 : t121 = true
 ·subst c3
  have H1 : (some true) = some r := by rw [if_pos rfl] at H; exact H
  clear H
  have H := H1
  clear H1
  obtain rfl := Option.some.inj H
  go_enter Tryd.func45, Tryd.ntmps45
  go_wp2_with (first | ((with_reducible refine gate_callee (f := 44) rfl ?_); refine goesL_ (some 4) rfl rfl Tryd.func44 (by kernel_rfl) rfl #[.int .u8 a0] rfl (by (try simp only [List.map_toArray, List.map_cons, List.map_nil]); first | done | rfl) ?_; (with_reducible refine (phalaroperef02_Digit.calls a0 true _ A2.out).mono ?_); rintro e w' ⟨rfl, ⟨nd, rfl⟩⟩; refine ⟨_, rfl, ?_⟩))
  go_ret
  exact ⟨by first | rfl | (simp; done) | (simp [*]; done), by repeat (first | exact Drawn0.refl _ | apply Drawn0.step)⟩
 ·replace c3 := Bool.eq_false_iff.mpr c3
  subst c3
  have H1 : (if a0 ≥ 65 then (if a0 ≤ 70 then (some true) else (if a0 ≥ 97 then (some (decide (a0 ≤ 102))) else (some false))) else (if a0 ≥ 97 then (some (decide (a0 ≤ 102))) else (some false))) = some r := by rw [if_neg (show ¬ (false = true) by decide)] at H; exact H
  clear H
  have H := H1
  clear H1
  by_cases c4 : a0 ≥ 65
  ·rw [if_pos c4] at H
   have c4b0 : decide (65 ≤ a0) = true := decide_eq_true c4
   clear c4
   by_cases c5 : a0 ≤ 70
   ·rw [if_pos c5] at H
    have c5b0 : decide (a0 ≤ 70) = true := decide_eq_true c5
    clear c5
    obtain rfl := Option.some.inj H
    go_enter Tryd.func45, Tryd.ntmps45
    go_wp2_with (first | ((with_reducible refine gate_callee (f := 44) rfl ?_); refine goesL_ (some 4) rfl rfl Tryd.func44 (by kernel_rfl) rfl #[.int .u8 a0] rfl (by (try simp only [List.map_toArray, List.map_cons, List.map_nil]); first | done | rfl) ?_; (with_reducible refine (phalaroperef02_Digit.calls a0 false _ A2.out).mono ?_); rintro e w' ⟨rfl, ⟨nd, rfl⟩⟩; refine ⟨_, rfl, ?_⟩))
    go_ret
    exact ⟨by first | rfl | (simp; done) | (simp [*]; done), by repeat (first | exact Drawn0.refl _ | apply Drawn0.step)⟩
   ·rw [if_neg c5] at H
    have c5b0 : decide (a0 ≤ 70) = false := decide_eq_false c5
    clear c5
    by_cases c6 : a0 ≥ 97
    ·rw [if_pos c6] at H
     have c6b0 : decide (97 ≤ a0) = true := decide_eq_true c6
     clear c6
     obtain rfl := Option.some.inj H
     go_enter Tryd.func45, Tryd.ntmps45
     go_wp2_with (first | ((with_reducible refine gate_callee (f := 44) rfl ?_); refine goesL_ (some 4) rfl rfl Tryd.func44 (by kernel_rfl) rfl #[.int .u8 a0] rfl (by (try simp only [List.map_toArray, List.map_cons, List.map_nil]); first | done | rfl) ?_; (with_reducible refine (phalaroperef02_Digit.calls a0 false _ A2.out).mono ?_); rintro e w' ⟨rfl, ⟨nd, rfl⟩⟩; refine ⟨_, rfl, ?_⟩))
     go_ret
     exact ⟨by first | rfl | (simp; done) | (simp [*]; done), by repeat (first | exact Drawn0.refl _ | apply Drawn0.step)⟩
    ·rw [if_neg c6] at H
     have c6b0 : decide (97 ≤ a0) = false := decide_eq_false c6
     clear c6
     obtain rfl := Option.some.inj H
     go_enter Tryd.func45, Tryd.ntmps45
     go_wp2_with (first | ((with_reducible refine gate_callee (f := 44) rfl ?_); refine goesL_ (some 4) rfl rfl Tryd.func44 (by kernel_rfl) rfl #[.int .u8 a0] rfl (by (try simp only [List.map_toArray, List.map_cons, List.map_nil]); first | done | rfl) ?_; (with_reducible refine (phalaroperef02_Digit.calls a0 false _ A2.out).mono ?_); rintro e w' ⟨rfl, ⟨nd, rfl⟩⟩; refine ⟨_, rfl, ?_⟩))
     go_ret
     exact ⟨by first | rfl | (simp; done) | (simp [*]; done), by repeat (first | exact Drawn0.refl _ | apply Drawn0.step)⟩
  ·rw [if_neg c4] at H
   have c4b0 : decide (65 ≤ a0) = false := decide_eq_false c4
   clear c4
   by_cases c7 : a0 ≥ 97
   ·rw [if_pos c7] at H
    have c7b0 : decide (97 ≤ a0) = true := decide_eq_true c7
    clear c7
    obtain rfl := Option.some.inj H
    go_enter Tryd.func45, Tryd.ntmps45
    go_wp2_with (first | ((with_reducible refine gate_callee (f := 44) rfl ?_); refine goesL_ (some 4) rfl rfl Tryd.func44 (by kernel_rfl) rfl #[.int .u8 a0] rfl (by (try simp only [List.map_toArray, List.map_cons, List.map_nil]); first | done | rfl) ?_; (with_reducible refine (phalaroperef02_Digit.calls a0 false _ A2.out).mono ?_); rintro e w' ⟨rfl, ⟨nd, rfl⟩⟩; refine ⟨_, rfl, ?_⟩))
    go_ret
    exact ⟨by first | rfl | (simp; done) | (simp [*]; done), by repeat (first | exact Drawn0.refl _ | apply Drawn0.step)⟩
   ·rw [if_neg c7] at H
    have c7b0 : decide (97 ≤ a0) = false := decide_eq_false c7
    clear c7
    obtain rfl := Option.some.inj H
    go_enter Tryd.func45, Tryd.ntmps45
    go_wp2_with (first | ((with_reducible refine gate_callee (f := 44) rfl ?_); refine goesL_ (some 4) rfl rfl Tryd.func44 (by kernel_rfl) rfl #[.int .u8 a0] rfl (by (try simp only [List.map_toArray, List.map_cons, List.map_nil]); first | done | rfl) ?_; (with_reducible refine (phalaroperef02_Digit.calls a0 false _ A2.out).mono ?_); rintro e w' ⟨rfl, ⟨nd, rfl⟩⟩; refine ⟨_, rfl, ?_⟩))
    go_ret
    exact ⟨by first | rfl | (simp; done) | (simp [*]; done), by repeat (first | exact Drawn0.refl _ | apply Drawn0.step)⟩
def phalaroperef03_Triplet.f (a0 : ByteArray) : Option (Bool) := if (a0.size : Int) ≥ 3 then (if 0 < (a0.size : Int) then (if (bt a0 0) = 37 then (if 1 < (a0.size : Int) then ((phalaroperef02_Hex.f (bt a0 1)).bind fun t122 => (if t122 = true then (if 2 < (a0.size : Int) then ((phalaroperef02_Hex.f (bt a0 2)).bind fun t123 => (some t123)) else (none)) else (some false))) else (none)) else (some false)) else (none)) else (some false)
set_option maxHeartbeats 8000000 in
set_option maxRecDepth 100000 in
theorem phalaroperef03_Triplet.calls (a0 : ByteArray) (r : Bool) (w : World) (h : phalaroperef03_Triplet.f a0 = some r) :
  Calls Tryd.prog 34 #[.string a0] w fun e w' => e = .returned (.bool r) ∧ Drawn0 w w' := by
 have H : (if (a0.size : Int) ≥ 3 then (if 0 < (a0.size : Int) then (if (bt a0 0) = 37 then (if 1 < (a0.size : Int) then ((phalaroperef02_Hex.f (bt a0 1)).bind fun t122 => (if t122 = true then (if 2 < (a0.size : Int) then ((phalaroperef02_Hex.f (bt a0 2)).bind fun t123 => (some t123)) else (none)) else (some false))) else (none)) else (some false)) else (none)) else (some false)) = some r := h
 clear h
 by_cases c2 : (a0.size : Int) ≥ 3
 ·rw [if_pos c2] at H
  have c2b0 : decide (3 ≤ (a0.size : Int)) = true := decide_eq_true c2
  have c2b1 : decide (3 ≤ a0.size) = true := decide_eq_true (by omega)
  clear c2
  by_cases c3 : 0 < (a0.size : Int)
  ·rw [if_pos c3] at H
   have c3b0 : decide (0 < (a0.size : Int)) = true := decide_eq_true c3
   have c3b1 : decide (0 < a0.size) = true := decide_eq_true (by omega)
   clear c3
   by_cases c5 : (bt a0 0) = 37
   ·rw [if_pos c5] at H
    have c5b0 : ((bt a0 0) == 37) = true := beq_iff_eq.mpr c5
    have c5b1 : ((bt a0 0) != 37) = false := bne_eq_false_iff_eq.mpr c5
    clear c5
    by_cases c6 : 1 < (a0.size : Int)
    ·rw [if_pos c6] at H
     have c6b0 : decide (1 < (a0.size : Int)) = true := decide_eq_true c6
     have c6b1 : decide (1 < a0.size) = true := decide_eq_true (by omega)
     clear c6
     replace H := Option.bind_eq_some_iff.mp H
     obtain ⟨t122, A80, H⟩ := H
     replace H : (if t122 = true then (if 2 < (a0.size : Int) then ((phalaroperef02_Hex.f (bt a0 2)).bind fun t123 => (some t123)) else (none)) else (some false)) = some r := H
     have A8 := Aside0.mk A80
     clear A80
     by_cases c9 : t122 = true
     ·subst c9
      have H1 : (if 2 < (a0.size : Int) then ((phalaroperef02_Hex.f (bt a0 2)).bind fun t123 => (some t123)) else (none)) = some r := by rw [if_pos rfl] at H; exact H
      clear H
      have H := H1
      clear H1
      by_cases c10 : 2 < (a0.size : Int)
      ·rw [if_pos c10] at H
       have c10b0 : decide (2 < (a0.size : Int)) = true := decide_eq_true c10
       have c10b1 : decide (2 < a0.size) = true := decide_eq_true (by omega)
       clear c10
       replace H := Option.bind_eq_some_iff.mp H
       obtain ⟨t123, A120, H⟩ := H
       replace H : (some t123) = some r := H
       have A12 := Aside0.mk A120
       clear A120
       obtain rfl := Option.some.inj H
       have p4 : 0 ≤ (0 : Int) := (by omega)
       have q4 : 0 < a0.size := (by have : (0 : Int) < (a0.size : Int) := of_decide_eq_true (by first | (with_reducible assumption) | assumption); omega)
       have hx4 : ∀ h : 0 < a0.size, ((a0[0]'h).toNat : Int) = bt a0 0 := bt_at a0 0
       clear p4
       have qi4 : (0 < (a0.size : Int)) = True := eq_true (of_decide_eq_true (by first | (with_reducible assumption) | assumption))
       replace q4 := eq_true q4
       have p7 : 0 ≤ (1 : Int) := (by omega)
       have q7 : 1 < a0.size := (by have : (1 : Int) < (a0.size : Int) := of_decide_eq_true (by first | (with_reducible assumption) | assumption); omega)
       have hx7 : ∀ h : 1 < a0.size, ((a0[1]'h).toNat : Int) = bt a0 1 := bt_at a0 1
       clear p7
       have qi7 : (1 < (a0.size : Int)) = True := eq_true (of_decide_eq_true (by first | (with_reducible assumption) | assumption))
       replace q7 := eq_true q7
       go_enter Tryd.func34, Tryd.ntmps34
       go_wp2_with (first | (go_at_call 45; (with_reducible refine (phalaroperef02_Hex.calls (bt a0 1) true _ A8.out).mono ?_); rintro e w' ⟨rfl, ⟨nd, rfl⟩⟩; have p11 : 0 ≤ (2 : Int) := (by omega); have q11 : 2 < a0.size := (by have : (2 : Int) < (a0.size : Int) := of_decide_eq_true (by first | (with_reducible assumption) | assumption); omega); have hx11 : ∀ h : 2 < a0.size, ((a0[2]'h).toNat : Int) = bt a0 2 := bt_at a0 2; clear p11; have qi11 : (2 < (a0.size : Int)) = True := eq_true (of_decide_eq_true (by first | (with_reducible assumption) | assumption)); replace q11 := eq_true q11) | (go_at_call 45; (with_reducible refine (phalaroperef02_Hex.calls (bt a0 2) t123 _ A12.out).mono ?_); rintro e w' ⟨rfl, ⟨nd, rfl⟩⟩))
       go_ret
       exact ⟨by first | rfl | (simp; done) | (simp [*]; done), by repeat (first | exact Drawn0.refl _ | apply Drawn0.step)⟩
      ·rw [if_neg c10] at H
       exact absurd H (by simp)
     ·replace c9 := Bool.eq_false_iff.mpr c9
      subst c9
      have H1 : (some false) = some r := by rw [if_neg (show ¬ (false = true) by decide)] at H; exact H
      clear H
      have H := H1
      clear H1
      obtain rfl := Option.some.inj H
      have p4 : 0 ≤ (0 : Int) := (by omega)
      have q4 : 0 < a0.size := (by have : (0 : Int) < (a0.size : Int) := of_decide_eq_true (by first | (with_reducible assumption) | assumption); omega)
      have hx4 : ∀ h : 0 < a0.size, ((a0[0]'h).toNat : Int) = bt a0 0 := bt_at a0 0
      clear p4
      have qi4 : (0 < (a0.size : Int)) = True := eq_true (of_decide_eq_true (by first | (with_reducible assumption) | assumption))
      replace q4 := eq_true q4
      have p7 : 0 ≤ (1 : Int) := (by omega)
      have q7 : 1 < a0.size := (by have : (1 : Int) < (a0.size : Int) := of_decide_eq_true (by first | (with_reducible assumption) | assumption); omega)
      have hx7 : ∀ h : 1 < a0.size, ((a0[1]'h).toNat : Int) = bt a0 1 := bt_at a0 1
      clear p7
      have qi7 : (1 < (a0.size : Int)) = True := eq_true (of_decide_eq_true (by first | (with_reducible assumption) | assumption))
      replace q7 := eq_true q7
      go_enter Tryd.func34, Tryd.ntmps34
      go_wp2_with (first | (go_at_call 45; (with_reducible refine (phalaroperef02_Hex.calls (bt a0 1) false _ A8.out).mono ?_); rintro e w' ⟨rfl, ⟨nd, rfl⟩⟩))
      go_ret
      exact ⟨by first | rfl | (simp; done) | (simp [*]; done), by repeat (first | exact Drawn0.refl _ | apply Drawn0.step)⟩
    ·rw [if_neg c6] at H
     exact absurd H (by simp)
   ·rw [if_neg c5] at H
    have c5b0 : ((bt a0 0) == 37) = false := beq_eq_false_iff_ne.mpr c5
    have c5b1 : ((bt a0 0) != 37) = true := bne_iff_ne.mpr c5
    obtain rfl := Option.some.inj H
    have p4 : 0 ≤ (0 : Int) := (by omega)
    have q4 : 0 < a0.size := (by have : (0 : Int) < (a0.size : Int) := of_decide_eq_true (by first | (with_reducible assumption) | assumption); omega)
    have hx4 : ∀ h : 0 < a0.size, ((a0[0]'h).toNat : Int) = bt a0 0 := bt_at a0 0
    clear p4
    have qi4 : (0 < (a0.size : Int)) = True := eq_true (of_decide_eq_true (by first | (with_reducible assumption) | assumption))
    replace q4 := eq_true q4
    go_enter Tryd.func34, Tryd.ntmps34
    go_wp2
    go_ret
    exact ⟨by first | rfl | (simp; done) | (simp [*]; done), by repeat (first | exact Drawn0.refl _ | apply Drawn0.step)⟩
  ·rw [if_neg c3] at H
   exact absurd H (by simp)
 ·rw [if_neg c2] at H
  have c2b0 : decide (3 ≤ (a0.size : Int)) = false := decide_eq_false c2
  have c2b1 : decide (3 ≤ a0.size) = false := decide_eq_false (by omega)
  clear c2
  obtain rfl := Option.some.inj H
  go_enter Tryd.func34, Tryd.ntmps34
  go_wp2
  go_ret
  exact ⟨by first | rfl | (simp; done) | (simp [*]; done), by repeat (first | exact Drawn0.refl _ | apply Drawn0.step)⟩
def phalaroperef05_May2.f : Nat → ByteArray → Bool → Option (Bool)
 | 0, _, _ => none
 | k + 1, a0, a1 => if a0.toList = ([] : List UInt8) then (some a1) else (if 0 < (a0.size : Int) then ((phalaroperef02_Word.f (bt a0 0)).bind fun t124 => (if t124 = true then (if 1 ≤ (a0.size : Int) then ((phalaroperef05_May2.f k (a0.extract 1 a0.size) true).bind fun t125 => (some t125)) else (none)) else ((phalaroperef03_Triplet.f a0).bind fun t126 => (if t126 = true then (if 3 ≤ (a0.size : Int) then ((phalaroperef05_May2.f k (a0.extract 3 a0.size) true).bind fun t127 => (some t127)) else (none)) else (if (bt a0 0) = 46 then (if a1 = true then (if 1 ≤ (a0.size : Int) then ((phalaroperef05_May2.f k (a0.extract 1 a0.size) false).bind fun t128 => (some t128)) else (none)) else (some false)) else (some false)))))) else (none))
set_option maxHeartbeats 8000000 in
set_option maxRecDepth 100000 in
theorem phalaroperef05_May2.calls (k : Nat) : ∀ (a0 : ByteArray) (a1 : Bool) (r : Bool) (w : World) (h : phalaroperef05_May2.f k a0 a1 = some r),
  Calls Tryd.prog 26 #[.string a0, .bool a1] w fun e w' => e = .returned (.bool r) ∧ Drawn0 w w' := by
 induction k using Nat.strongRecOn with
 | _ k ih =>
 intro a0 a1 r w h
 cases k with
 | zero => exact absurd h (by simp [phalaroperef05_May2.f])
 | succ k =>
 simp only [phalaroperef05_May2.f] at h
 have H : (if a0.toList = ([] : List UInt8) then (some a1) else (if 0 < (a0.size : Int) then ((phalaroperef02_Word.f (bt a0 0)).bind fun t124 => (if t124 = true then (if 1 ≤ (a0.size : Int) then ((phalaroperef05_May2.f k (a0.extract 1 a0.size) true).bind fun t125 => (some t125)) else (none)) else ((phalaroperef03_Triplet.f a0).bind fun t126 => (if t126 = true then (if 3 ≤ (a0.size : Int) then ((phalaroperef05_May2.f k (a0.extract 3 a0.size) true).bind fun t127 => (some t127)) else (none)) else (if (bt a0 0) = 46 then (if a1 = true then (if 1 ≤ (a0.size : Int) then ((phalaroperef05_May2.f k (a0.extract 1 a0.size) false).bind fun t128 => (some t128)) else (none)) else (some false)) else (some false)))))) else (none))) = some r := h
 clear h
 by_cases c3 : a0.toList = ([] : List UInt8)
 ·rw [if_pos c3] at H
  have c3b0 : (a0.toList == ([] : List UInt8)) = true := beq_iff_eq.mpr c3
  have c3b1 : (a0.toList != ([] : List UInt8)) = false := bne_eq_false_iff_eq.mpr c3
  clear c3
  obtain rfl := Option.some.inj H
  go_enter Tryd.func26, Tryd.ntmps26
  go_wp2
  go_ret
  exact ⟨by first | rfl | (simp; done) | (simp [*]; done), by repeat (first | exact Drawn0.refl _ | apply Drawn0.step)⟩
 ·rw [if_neg c3] at H
  have c3b0 : (a0.toList == ([] : List UInt8)) = false := beq_eq_false_iff_ne.mpr c3
  have c3b1 : (a0.toList != ([] : List UInt8)) = true := bne_iff_ne.mpr c3
  by_cases c4 : 0 < (a0.size : Int)
  ·rw [if_pos c4] at H
   have c4b0 : decide (0 < (a0.size : Int)) = true := decide_eq_true c4
   have c4b1 : decide (0 < a0.size) = true := decide_eq_true (by omega)
   clear c4
   replace H := Option.bind_eq_some_iff.mp H
   obtain ⟨t124, A60, H⟩ := H
   replace H : (if t124 = true then (if 1 ≤ (a0.size : Int) then ((phalaroperef05_May2.f k (a0.extract 1 a0.size) true).bind fun t125 => (some t125)) else (none)) else ((phalaroperef03_Triplet.f a0).bind fun t126 => (if t126 = true then (if 3 ≤ (a0.size : Int) then ((phalaroperef05_May2.f k (a0.extract 3 a0.size) true).bind fun t127 => (some t127)) else (none)) else (if (bt a0 0) = 46 then (if a1 = true then (if 1 ≤ (a0.size : Int) then ((phalaroperef05_May2.f k (a0.extract 1 a0.size) false).bind fun t128 => (some t128)) else (none)) else (some false)) else (some false))))) = some r := H
   have A6 := Aside0.mk A60
   clear A60
   by_cases c7 : t124 = true
   ·subst c7
    have H1 : (if 1 ≤ (a0.size : Int) then ((phalaroperef05_May2.f k (a0.extract 1 a0.size) true).bind fun t125 => (some t125)) else (none)) = some r := by rw [if_pos rfl] at H; exact H
    clear H
    have H := H1
    clear H1
    by_cases c8 : 1 ≤ (a0.size : Int)
    ·rw [if_pos c8] at H
     have c8b0 := eq_true c8
     have c8b1 : decide (1 ≤ (a0.size : Int)) = true := decide_eq_true c8
     clear c8
     replace H := Option.bind_eq_some_iff.mp H
     obtain ⟨t125, A90, H⟩ := H
     replace H : (some t125) = some r := H
     have A9 := Aside0.mk A90
     clear A90
     obtain rfl := Option.some.inj H
     have p5 : 0 ≤ (0 : Int) := (by omega)
     have q5 : 0 < a0.size := (by have : (0 : Int) < (a0.size : Int) := of_decide_eq_true (by first | (with_reducible assumption) | assumption); omega)
     have hx5 : ∀ h : 0 < a0.size, ((a0[0]'h).toNat : Int) = bt a0 0 := bt_at a0 0
     clear p5
     have qi5 : (0 < (a0.size : Int)) = True := eq_true (of_decide_eq_true (by first | (with_reducible assumption) | assumption))
     replace q5 := eq_true q5
     go_enter Tryd.func26, Tryd.ntmps26
     go_wp2_with (first | ((with_reducible refine gate_callee (f := 33) rfl ?_); refine goesL_ (some 10) rfl rfl Tryd.func33 (by kernel_rfl) rfl #[.int .u8 (bt a0 0)] rfl (by (try simp only [List.map_toArray, List.map_cons, List.map_nil]); first | done | rfl) ?_; (with_reducible refine (phalaroperef02_Word.calls (bt a0 0) true _ A6.out).mono ?_); rintro e w' ⟨rfl, ⟨nd, rfl⟩⟩; refine ⟨_, rfl, ?_⟩) | ((with_reducible refine gate_callee (f := 26) rfl ?_); refine goesL_ (some 13) rfl rfl Tryd.func26 (by kernel_rfl) rfl #[.string (a0.extract 1 a0.size), .bool true] rfl (by (try simp only [List.map_toArray, List.map_cons, List.map_nil]); first | done | rfl) ?_; (with_reducible refine (ih k (by omega) (a0.extract 1 a0.size) true t125 _ A9.out).mono ?_); rintro e w' ⟨rfl, ⟨nd, rfl⟩⟩; refine ⟨_, rfl, ?_⟩))
     go_ret
     exact ⟨by first | rfl | (simp; done) | (simp [*]; done), by repeat (first | exact Drawn0.refl _ | apply Drawn0.step)⟩
    ·rw [if_neg c8] at H
     exact absurd H (by simp)
   ·replace c7 := Bool.eq_false_iff.mpr c7
    subst c7
    have H1 : ((phalaroperef03_Triplet.f a0).bind fun t126 => (if t126 = true then (if 3 ≤ (a0.size : Int) then ((phalaroperef05_May2.f k (a0.extract 3 a0.size) true).bind fun t127 => (some t127)) else (none)) else (if (bt a0 0) = 46 then (if a1 = true then (if 1 ≤ (a0.size : Int) then ((phalaroperef05_May2.f k (a0.extract 1 a0.size) false).bind fun t128 => (some t128)) else (none)) else (some false)) else (some false)))) = some r := by rw [if_neg (show ¬ (false = true) by decide)] at H; exact H
    clear H
    have H := H1
    clear H1
    replace H := Option.bind_eq_some_iff.mp H
    obtain ⟨t126, A100, H⟩ := H
    replace H : (if t126 = true then (if 3 ≤ (a0.size : Int) then ((phalaroperef05_May2.f k (a0.extract 3 a0.size) true).bind fun t127 => (some t127)) else (none)) else (if (bt a0 0) = 46 then (if a1 = true then (if 1 ≤ (a0.size : Int) then ((phalaroperef05_May2.f k (a0.extract 1 a0.size) false).bind fun t128 => (some t128)) else (none)) else (some false)) else (some false))) = some r := H
    have A10 := Aside0.mk A100
    clear A100
    by_cases c11 : t126 = true
    ·subst c11
     have H1 : (if 3 ≤ (a0.size : Int) then ((phalaroperef05_May2.f k (a0.extract 3 a0.size) true).bind fun t127 => (some t127)) else (none)) = some r := by rw [if_pos rfl] at H; exact H
     clear H
     have H := H1
     clear H1
     by_cases c12 : 3 ≤ (a0.size : Int)
     ·rw [if_pos c12] at H
      have c12b0 := eq_true c12
      have c12b1 : decide (3 ≤ (a0.size : Int)) = true := decide_eq_true c12
      clear c12
      replace H := Option.bind_eq_some_iff.mp H
      obtain ⟨t127, A130, H⟩ := H
      replace H : (some t127) = some r := H
      have A13 := Aside0.mk A130
      clear A130
      obtain rfl := Option.some.inj H
      have p5 : 0 ≤ (0 : Int) := (by omega)
      have q5 : 0 < a0.size := (by have : (0 : Int) < (a0.size : Int) := of_decide_eq_true (by first | (with_reducible assumption) | assumption); omega)
      have hx5 : ∀ h : 0 < a0.size, ((a0[0]'h).toNat : Int) = bt a0 0 := bt_at a0 0
      clear p5
      have qi5 : (0 < (a0.size : Int)) = True := eq_true (of_decide_eq_true (by first | (with_reducible assumption) | assumption))
      replace q5 := eq_true q5
      go_enter Tryd.func26, Tryd.ntmps26
      go_wp2_with (first | ((with_reducible refine gate_callee (f := 33) rfl ?_); refine goesL_ (some 10) rfl rfl Tryd.func33 (by kernel_rfl) rfl #[.int .u8 (bt a0 0)] rfl (by (try simp only [List.map_toArray, List.map_cons, List.map_nil]); first | done | rfl) ?_; (with_reducible refine (phalaroperef02_Word.calls (bt a0 0) false _ A6.out).mono ?_); rintro e w' ⟨rfl, ⟨nd, rfl⟩⟩; refine ⟨_, rfl, ?_⟩) | ((with_reducible refine gate_callee (f := 34) rfl ?_); refine goesL_ (some 15) rfl rfl Tryd.func34 (by kernel_rfl) rfl #[.string a0] rfl (by (try simp only [List.map_toArray, List.map_cons, List.map_nil]); first | done | rfl) ?_; (with_reducible refine (phalaroperef03_Triplet.calls a0 true _ A10.out).mono ?_); rintro e w' ⟨rfl, ⟨nd, rfl⟩⟩; refine ⟨_, rfl, ?_⟩) | ((with_reducible refine gate_callee (f := 26) rfl ?_); refine goesL_ (some 18) rfl rfl Tryd.func26 (by kernel_rfl) rfl #[.string (a0.extract 3 a0.size), .bool true] rfl (by (try simp only [List.map_toArray, List.map_cons, List.map_nil]); first | done | rfl) ?_; (with_reducible refine (ih k (by omega) (a0.extract 3 a0.size) true t127 _ A13.out).mono ?_); rintro e w' ⟨rfl, ⟨nd, rfl⟩⟩; refine ⟨_, rfl, ?_⟩))
      go_ret
      exact ⟨by first | rfl | (simp; done) | (simp [*]; done), by repeat (first | exact Drawn0.refl _ | apply Drawn0.step)⟩
     ·rw [if_neg c12] at H
      exact absurd H (by simp)
    ·replace c11 := Bool.eq_false_iff.mpr c11
     subst c11
     have H1 : (if (bt a0 0) = 46 then (if a1 = true then (if 1 ≤ (a0.size : Int) then ((phalaroperef05_May2.f k (a0.extract 1 a0.size) false).bind fun t128 => (some t128)) else (none)) else (some false)) else (some false)) = some r := by rw [if_neg (show ¬ (false = true) by decide)] at H; exact H
     clear H
     have H := H1
     clear H1
     by_cases c15 : (bt a0 0) = 46
     ·rw [if_pos c15] at H
      have c15b0 : ((bt a0 0) == 46) = true := beq_iff_eq.mpr c15
      have c15b1 : ((bt a0 0) != 46) = false := bne_eq_false_iff_eq.mpr c15
      clear c15
      by_cases c16 : a1 = true
      ·subst c16
       have H1 : (if 1 ≤ (a0.size : Int) then ((phalaroperef05_May2.f k (a0.extract 1 a0.size) false).bind fun t128 => (some t128)) else (none)) = some r := by rw [if_pos rfl] at H; exact H
       clear H
       have H := H1
       clear H1
       by_cases c17 : 1 ≤ (a0.size : Int)
       ·rw [if_pos c17] at H
        have c17b0 := eq_true c17
        have c17b1 : decide (1 ≤ (a0.size : Int)) = true := decide_eq_true c17
        clear c17
        replace H := Option.bind_eq_some_iff.mp H
        obtain ⟨t128, A180, H⟩ := H
        replace H : (some t128) = some r := H
        have A18 := Aside0.mk A180
        clear A180
        obtain rfl := Option.some.inj H
        have p5 : 0 ≤ (0 : Int) := (by omega)
        have q5 : 0 < a0.size := (by have : (0 : Int) < (a0.size : Int) := of_decide_eq_true (by first | (with_reducible assumption) | assumption); omega)
        have hx5 : ∀ h : 0 < a0.size, ((a0[0]'h).toNat : Int) = bt a0 0 := bt_at a0 0
        clear p5
        have qi5 : (0 < (a0.size : Int)) = True := eq_true (of_decide_eq_true (by first | (with_reducible assumption) | assumption))
        replace q5 := eq_true q5
        go_enter Tryd.func26, Tryd.ntmps26
        go_wp2_with (first | ((with_reducible refine gate_callee (f := 33) rfl ?_); refine goesL_ (some 10) rfl rfl Tryd.func33 (by kernel_rfl) rfl #[.int .u8 (bt a0 0)] rfl (by (try simp only [List.map_toArray, List.map_cons, List.map_nil]); first | done | rfl) ?_; (with_reducible refine (phalaroperef02_Word.calls (bt a0 0) false _ A6.out).mono ?_); rintro e w' ⟨rfl, ⟨nd, rfl⟩⟩; refine ⟨_, rfl, ?_⟩) | ((with_reducible refine gate_callee (f := 34) rfl ?_); refine goesL_ (some 15) rfl rfl Tryd.func34 (by kernel_rfl) rfl #[.string a0] rfl (by (try simp only [List.map_toArray, List.map_cons, List.map_nil]); first | done | rfl) ?_; (with_reducible refine (phalaroperef03_Triplet.calls a0 false _ A10.out).mono ?_); rintro e w' ⟨rfl, ⟨nd, rfl⟩⟩; refine ⟨_, rfl, ?_⟩; have p14 : 0 ≤ (0 : Int) := (by omega); have q14 : 0 < a0.size := (by have : (0 : Int) < (a0.size : Int) := of_decide_eq_true (by first | (with_reducible assumption) | assumption); omega); have hx14 : ∀ h : 0 < a0.size, ((a0[0]'h).toNat : Int) = bt a0 0 := bt_at a0 0; clear p14; have qi14 : (0 < (a0.size : Int)) = True := eq_true (of_decide_eq_true (by first | (with_reducible assumption) | assumption)); replace q14 := eq_true q14) | (go_at_call 26; (with_reducible refine (ih k (by omega) (a0.extract 1 a0.size) false t128 _ A18.out).mono ?_); rintro e w' ⟨rfl, ⟨nd, rfl⟩⟩))
        go_ret
        exact ⟨by first | rfl | (simp; done) | (simp [*]; done), by repeat (first | exact Drawn0.refl _ | apply Drawn0.step)⟩
       ·rw [if_neg c17] at H
        exact absurd H (by simp)
      ·replace c16 := Bool.eq_false_iff.mpr c16
       subst c16
       have H1 : (some false) = some r := by rw [if_neg (show ¬ (false = true) by decide)] at H; exact H
       clear H
       have H := H1
       clear H1
       obtain rfl := Option.some.inj H
       have p5 : 0 ≤ (0 : Int) := (by omega)
       have q5 : 0 < a0.size := (by have : (0 : Int) < (a0.size : Int) := of_decide_eq_true (by first | (with_reducible assumption) | assumption); omega)
       have hx5 : ∀ h : 0 < a0.size, ((a0[0]'h).toNat : Int) = bt a0 0 := bt_at a0 0
       clear p5
       have qi5 : (0 < (a0.size : Int)) = True := eq_true (of_decide_eq_true (by first | (with_reducible assumption) | assumption))
       replace q5 := eq_true q5
       go_enter Tryd.func26, Tryd.ntmps26
       go_wp2_with (first | ((with_reducible refine gate_callee (f := 33) rfl ?_); refine goesL_ (some 10) rfl rfl Tryd.func33 (by kernel_rfl) rfl #[.int .u8 (bt a0 0)] rfl (by (try simp only [List.map_toArray, List.map_cons, List.map_nil]); first | done | rfl) ?_; (with_reducible refine (phalaroperef02_Word.calls (bt a0 0) false _ A6.out).mono ?_); rintro e w' ⟨rfl, ⟨nd, rfl⟩⟩; refine ⟨_, rfl, ?_⟩) | ((with_reducible refine gate_callee (f := 34) rfl ?_); refine goesL_ (some 15) rfl rfl Tryd.func34 (by kernel_rfl) rfl #[.string a0] rfl (by (try simp only [List.map_toArray, List.map_cons, List.map_nil]); first | done | rfl) ?_; (with_reducible refine (phalaroperef03_Triplet.calls a0 false _ A10.out).mono ?_); rintro e w' ⟨rfl, ⟨nd, rfl⟩⟩; refine ⟨_, rfl, ?_⟩; have p14 : 0 ≤ (0 : Int) := (by omega); have q14 : 0 < a0.size := (by have : (0 : Int) < (a0.size : Int) := of_decide_eq_true (by first | (with_reducible assumption) | assumption); omega); have hx14 : ∀ h : 0 < a0.size, ((a0[0]'h).toNat : Int) = bt a0 0 := bt_at a0 0; clear p14; have qi14 : (0 < (a0.size : Int)) = True := eq_true (of_decide_eq_true (by first | (with_reducible assumption) | assumption)); replace q14 := eq_true q14))
       go_ret
       exact ⟨by first | rfl | (simp; done) | (simp [*]; done), by repeat (first | exact Drawn0.refl _ | apply Drawn0.step)⟩
     ·rw [if_neg c15] at H
      have c15b0 : ((bt a0 0) == 46) = false := beq_eq_false_iff_ne.mpr c15
      have c15b1 : ((bt a0 0) != 46) = true := bne_iff_ne.mpr c15
      obtain rfl := Option.some.inj H
      have p5 : 0 ≤ (0 : Int) := (by omega)
      have q5 : 0 < a0.size := (by have : (0 : Int) < (a0.size : Int) := of_decide_eq_true (by first | (with_reducible assumption) | assumption); omega)
      have hx5 : ∀ h : 0 < a0.size, ((a0[0]'h).toNat : Int) = bt a0 0 := bt_at a0 0
      clear p5
      have qi5 : (0 < (a0.size : Int)) = True := eq_true (of_decide_eq_true (by first | (with_reducible assumption) | assumption))
      replace q5 := eq_true q5
      go_enter Tryd.func26, Tryd.ntmps26
      go_wp2_with (first | ((with_reducible refine gate_callee (f := 33) rfl ?_); refine goesL_ (some 10) rfl rfl Tryd.func33 (by kernel_rfl) rfl #[.int .u8 (bt a0 0)] rfl (by (try simp only [List.map_toArray, List.map_cons, List.map_nil]); first | done | rfl) ?_; (with_reducible refine (phalaroperef02_Word.calls (bt a0 0) false _ A6.out).mono ?_); rintro e w' ⟨rfl, ⟨nd, rfl⟩⟩; refine ⟨_, rfl, ?_⟩) | ((with_reducible refine gate_callee (f := 34) rfl ?_); refine goesL_ (some 15) rfl rfl Tryd.func34 (by kernel_rfl) rfl #[.string a0] rfl (by (try simp only [List.map_toArray, List.map_cons, List.map_nil]); first | done | rfl) ?_; (with_reducible refine (phalaroperef03_Triplet.calls a0 false _ A10.out).mono ?_); rintro e w' ⟨rfl, ⟨nd, rfl⟩⟩; refine ⟨_, rfl, ?_⟩; have p14 : 0 ≤ (0 : Int) := (by omega); have q14 : 0 < a0.size := (by have : (0 : Int) < (a0.size : Int) := of_decide_eq_true (by first | (with_reducible assumption) | assumption); omega); have hx14 : ∀ h : 0 < a0.size, ((a0[0]'h).toNat : Int) = bt a0 0 := bt_at a0 0; clear p14; have qi14 : (0 < (a0.size : Int)) = True := eq_true (of_decide_eq_true (by first | (with_reducible assumption) | assumption)); replace q14 := eq_true q14))
      go_ret
      exact ⟨by first | rfl | (simp; done) | (simp [*]; done), by repeat (first | exact Drawn0.refl _ | apply Drawn0.step)⟩
  ·rw [if_neg c4] at H
   exact absurd H (by simp)
def phalaroperef05_May.f (k : Nat) (a0 : ByteArray) : Option (Bool) := (phalaroperef05_May2.f k a0 false).bind fun t129 => (some t129)
set_option maxHeartbeats 8000000 in
set_option maxRecDepth 100000 in
theorem phalaroperef05_May.calls (k : Nat) (a0 : ByteArray) (r : Bool) (w : World) (h : phalaroperef05_May.f k a0 = some r) :
    Calls Tryd.prog 16 #[.string a0] w fun e w' => e = .returned (.bool r) ∧ Drawn0 w w' := by
  have H : ((phalaroperef05_May2.f k a0 false).bind fun t129 => (some t129)) = some r := h
  clear h
  replace H := Option.bind_eq_some_iff.mp H
  obtain ⟨t129, A20, H⟩ := H
  replace H : (some t129) = some r := H
  have A2 := Aside0.mk A20
  clear A20
  obtain rfl := Option.some.inj H
  go_enter Tryd.func16, Tryd.ntmps16
  go_wp2_with (first | ((with_reducible refine gate_callee (f := 26) rfl ?_); refine goesL_ (some 4) rfl rfl Tryd.func26 (by kernel_rfl) rfl #[.string a0, .bool false] rfl (by (try simp only [List.map_toArray, List.map_cons, List.map_nil]); first | done | rfl | (simp only [List.length_drop, List.length_take]; rfl)) ?_; (with_reducible refine (phalaroperef05_May2.calls k a0 false t129 _ A2.out).mono ?_); rintro e w' ⟨rfl, ⟨nd, rfl⟩⟩; refine ⟨_, rfl, ?_⟩))
  go_ret
  exact ⟨by first | rfl | (simp; done) | (simp [*]; done), by repeat (first | exact Drawn0.refl _ | apply Drawn0.step)⟩
def phalaroperef06_May.f (k : Nat) (a0_0 : ByteArray) (a0_1 : Int) (a0_2 : Bool) : Option (Bool) := (phalaroperef05_May.f k a0_0).bind fun t131 => (if t131 = true then (if a0_1 ≥ 0 then (if a0_1 ≤ 9999 then (if a0_2 = true then (some (a0_1 == 0)) else (some true)) else (some false)) else (some false)) else (some false))
set_option maxHeartbeats 8000000 in
set_option maxRecDepth 100000 in
theorem phalaroperef06_May.calls (k : Nat) (a0_0 : ByteArray) (a0_1 : Int) (a0_2 : Bool) (r : Bool) (w : World) (h : phalaroperef06_May.f k a0_0 a0_1 a0_2 = some r) :
  Calls Tryd.prog 13 #[.agg #[.string a0_0, .int .i64 a0_1, .bool a0_2]] w fun e w' => e = .returned (.bool r) ∧ Below w.heap.size w w' := by
 have hu23 := Tryd.underlying23
 have HB := Aside0.mk (Below.refl w.heap.size w)
 have H : ((phalaroperef05_May.f k a0_0).bind fun t131 => (if t131 = true then (if a0_1 ≥ 0 then (if a0_1 ≤ 9999 then (if a0_2 = true then (some (a0_1 == 0)) else (some true)) else (some false)) else (some false)) else (some false))) = some r := h
 clear h
 replace H := Option.bind_eq_some_iff.mp H
 obtain ⟨t131, A20, H⟩ := H
 replace H : (if t131 = true then (if a0_1 ≥ 0 then (if a0_1 ≤ 9999 then (if a0_2 = true then (some (a0_1 == 0)) else (some true)) else (some false)) else (some false)) else (some false)) = some r := H
 have A2 := Aside0.mk A20
 clear A20
 by_cases c3 : t131 = true
 ·subst c3
  have H1 : (if a0_1 ≥ 0 then (if a0_1 ≤ 9999 then (if a0_2 = true then (some (a0_1 == 0)) else (some true)) else (some false)) else (some false)) = some r := by rw [if_pos rfl] at H; exact H
  clear H
  have H := H1
  clear H1
  by_cases c4 : a0_1 ≥ 0
  ·rw [if_pos c4] at H
   have c4b0 : decide (0 ≤ a0_1) = true := decide_eq_true c4
   clear c4
   by_cases c5 : a0_1 ≤ 9999
   ·rw [if_pos c5] at H
    have c5b0 : decide (a0_1 ≤ 9999) = true := decide_eq_true c5
    clear c5
    by_cases c6 : a0_2 = true
    ·subst c6
     have H1 : (some (a0_1 == 0)) = some r := by rw [if_pos rfl] at H; exact H
     clear H
     have H := H1
     clear H1
     obtain rfl := Option.some.inj H
     go_enter Tryd.func13, Tryd.ntmps13
     go_wp2_with (first | ((with_reducible refine gate_dst (N := 1) rfl ?_); refine box_event ?hg (N := 1) ?hd (cs := #[.string a0_0, .int .i64 a0_1, .bool true]) (t := 23) ?hr ?_; (case hd => rfl); (case hg => rfl); (case hr => first | (go_simp; done) | (go_simp; rfl)); intro gb130 hg w7 hbox hb; have n0_ := Aside0.mk (below_step (by repeat (with_reducible first | exact HB.out | apply lA | apply pw_below_drewN | apply lD)) hb); have n1_ := Aside0.mk (hbox); have n2_ := Aside0.mk ((by rw [hg]; exact (below_size (by repeat (with_reducible first | exact HB.out | apply lA | apply pw_below_drewN | apply lD))) : w.heap.size ≤ gb130)); have n3_ := Aside0.mk ((by rw [hg]; exact (below_size (by repeat (with_reducible first | exact HB.out | apply lA | apply pw_below_drewN | apply lD))) : w.heap.size ≤ gb130)); clear HB; have HB := n0_; have BK130 := n1_; have GW130 := n2_; have GE130 := n3_; clear n0_ n1_ n2_ n3_; clear hb hbox hg; have hcz8_0 : w7.cell? ⟨gb130, 0, none⟩ = some (.string a0_0) := (blk_cell BK130.out 0).trans rfl; have hcz8_1 : w7.cell? ⟨gb130, 1, none⟩ = some (.int .i64 a0_1) := (blk_cell BK130.out 1).trans rfl; have hcz8_2 : w7.cell? ⟨gb130, 2, none⟩ = some (.bool true) := (blk_cell BK130.out 2).trans rfl; have hfz8_0 := blk_frozen BK130.out 0; have hfz8_1 := blk_frozen BK130.out 1; have hfz8_2 := blk_frozen BK130.out 2) | ((with_reducible refine gate_callee (f := 16) rfl ?_); refine goesL_ (some 5) rfl rfl Tryd.func16 (by kernel_rfl) rfl #[.string a0_0] rfl (by (try simp only [List.map_toArray, List.map_cons, List.map_nil]); first | done | rfl) ?_; (with_reducible refine (phalaroperef05_May.calls k a0_0 true _ A2.out).mono ?_); rintro e w' ⟨rfl, ⟨nd, rfl⟩⟩; refine ⟨_, rfl, ?_⟩))
     go_ret
     exact ⟨by first | rfl | (simp [errW_none, errW_some] <;> rfl) | (simp [*, errW_none, errW_some] <;> rfl), by repeat (with_reducible first | exact HB.out | apply lA | apply pw_below_drewN | apply lD | refine below_set ?_ GE130.out)⟩
    ·replace c6 := Bool.eq_false_iff.mpr c6
     subst c6
     have H1 : (some true) = some r := by rw [if_neg (show ¬ (false = true) by decide)] at H; exact H
     clear H
     have H := H1
     clear H1
     obtain rfl := Option.some.inj H
     go_enter Tryd.func13, Tryd.ntmps13
     go_wp2_with (first | ((with_reducible refine gate_dst (N := 1) rfl ?_); refine box_event ?hg (N := 1) ?hd (cs := #[.string a0_0, .int .i64 a0_1, .bool false]) (t := 23) ?hr ?_; (case hd => rfl); (case hg => rfl); (case hr => first | (go_simp; done) | (go_simp; rfl)); intro gb130 hg w9 hbox hb; have n0_ := Aside0.mk (below_step (by repeat (with_reducible first | exact HB.out | apply lA | apply pw_below_drewN | apply lD)) hb); have n1_ := Aside0.mk (hbox); have n2_ := Aside0.mk ((by rw [hg]; exact (below_size (by repeat (with_reducible first | exact HB.out | apply lA | apply pw_below_drewN | apply lD))) : w.heap.size ≤ gb130)); have n3_ := Aside0.mk ((by rw [hg]; exact (below_size (by repeat (with_reducible first | exact HB.out | apply lA | apply pw_below_drewN | apply lD))) : w.heap.size ≤ gb130)); clear HB; have HB := n0_; have BK130 := n1_; have GW130 := n2_; have GE130 := n3_; clear n0_ n1_ n2_ n3_; clear hb hbox hg; have hcz10_0 : w9.cell? ⟨gb130, 0, none⟩ = some (.string a0_0) := (blk_cell BK130.out 0).trans rfl; have hcz10_1 : w9.cell? ⟨gb130, 1, none⟩ = some (.int .i64 a0_1) := (blk_cell BK130.out 1).trans rfl; have hcz10_2 : w9.cell? ⟨gb130, 2, none⟩ = some (.bool false) := (blk_cell BK130.out 2).trans rfl; have hfz10_0 := blk_frozen BK130.out 0; have hfz10_1 := blk_frozen BK130.out 1; have hfz10_2 := blk_frozen BK130.out 2) | ((with_reducible refine gate_callee (f := 16) rfl ?_); refine goesL_ (some 5) rfl rfl Tryd.func16 (by kernel_rfl) rfl #[.string a0_0] rfl (by (try simp only [List.map_toArray, List.map_cons, List.map_nil]); first | done | rfl) ?_; (with_reducible refine (phalaroperef05_May.calls k a0_0 true _ A2.out).mono ?_); rintro e w' ⟨rfl, ⟨nd, rfl⟩⟩; refine ⟨_, rfl, ?_⟩))
     go_ret
     exact ⟨by first | rfl | (simp [errW_none, errW_some] <;> rfl) | (simp [*, errW_none, errW_some] <;> rfl), by repeat (with_reducible first | exact HB.out | apply lA | apply pw_below_drewN | apply lD | refine below_set ?_ GE130.out)⟩
   ·rw [if_neg c5] at H
    have c5b0 : decide (a0_1 ≤ 9999) = false := decide_eq_false c5
    clear c5
    obtain rfl := Option.some.inj H
    go_enter Tryd.func13, Tryd.ntmps13
    go_wp2_with (first | ((with_reducible refine gate_dst (N := 1) rfl ?_); refine box_event ?hg (N := 1) ?hd (cs := #[.string a0_0, .int .i64 a0_1, .bool a0_2]) (t := 23) ?hr ?_; (case hd => rfl); (case hg => rfl); (case hr => first | (go_simp; done) | (go_simp; rfl)); intro gb130 hg w11 hbox hb; have n0_ := Aside0.mk (below_step (by repeat (with_reducible first | exact HB.out | apply lA | apply pw_below_drewN | apply lD)) hb); have n1_ := Aside0.mk (hbox); have n2_ := Aside0.mk ((by rw [hg]; exact (below_size (by repeat (with_reducible first | exact HB.out | apply lA | apply pw_below_drewN | apply lD))) : w.heap.size ≤ gb130)); have n3_ := Aside0.mk ((by rw [hg]; exact (below_size (by repeat (with_reducible first | exact HB.out | apply lA | apply pw_below_drewN | apply lD))) : w.heap.size ≤ gb130)); clear HB; have HB := n0_; have BK130 := n1_; have GW130 := n2_; have GE130 := n3_; clear n0_ n1_ n2_ n3_; clear hb hbox hg; have hcz12_0 : w11.cell? ⟨gb130, 0, none⟩ = some (.string a0_0) := (blk_cell BK130.out 0).trans rfl; have hcz12_1 : w11.cell? ⟨gb130, 1, none⟩ = some (.int .i64 a0_1) := (blk_cell BK130.out 1).trans rfl; have hcz12_2 : w11.cell? ⟨gb130, 2, none⟩ = some (.bool a0_2) := (blk_cell BK130.out 2).trans rfl; have hfz12_0 := blk_frozen BK130.out 0; have hfz12_1 := blk_frozen BK130.out 1; have hfz12_2 := blk_frozen BK130.out 2) | ((with_reducible refine gate_callee (f := 16) rfl ?_); refine goesL_ (some 5) rfl rfl Tryd.func16 (by kernel_rfl) rfl #[.string a0_0] rfl (by (try simp only [List.map_toArray, List.map_cons, List.map_nil]); first | done | rfl) ?_; (with_reducible refine (phalaroperef05_May.calls k a0_0 true _ A2.out).mono ?_); rintro e w' ⟨rfl, ⟨nd, rfl⟩⟩; refine ⟨_, rfl, ?_⟩))
    go_ret
    exact ⟨by first | rfl | (simp [errW_none, errW_some] <;> rfl) | (simp [*, errW_none, errW_some] <;> rfl), by repeat (with_reducible first | exact HB.out | apply lA | apply pw_below_drewN | apply lD | refine below_set ?_ GE130.out)⟩
  ·rw [if_neg c4] at H
   have c4b0 : decide (0 ≤ a0_1) = false := decide_eq_false c4
   clear c4
   obtain rfl := Option.some.inj H
   go_enter Tryd.func13, Tryd.ntmps13
   go_wp2_with (first | ((with_reducible refine gate_dst (N := 1) rfl ?_); refine box_event ?hg (N := 1) ?hd (cs := #[.string a0_0, .int .i64 a0_1, .bool a0_2]) (t := 23) ?hr ?_; (case hd => rfl); (case hg => rfl); (case hr => first | (go_simp; done) | (go_simp; rfl)); intro gb130 hg w13 hbox hb; have n0_ := Aside0.mk (below_step (by repeat (with_reducible first | exact HB.out | apply lA | apply pw_below_drewN | apply lD)) hb); have n1_ := Aside0.mk (hbox); have n2_ := Aside0.mk ((by rw [hg]; exact (below_size (by repeat (with_reducible first | exact HB.out | apply lA | apply pw_below_drewN | apply lD))) : w.heap.size ≤ gb130)); have n3_ := Aside0.mk ((by rw [hg]; exact (below_size (by repeat (with_reducible first | exact HB.out | apply lA | apply pw_below_drewN | apply lD))) : w.heap.size ≤ gb130)); clear HB; have HB := n0_; have BK130 := n1_; have GW130 := n2_; have GE130 := n3_; clear n0_ n1_ n2_ n3_; clear hb hbox hg; have hcz14_0 : w13.cell? ⟨gb130, 0, none⟩ = some (.string a0_0) := (blk_cell BK130.out 0).trans rfl; have hcz14_1 : w13.cell? ⟨gb130, 1, none⟩ = some (.int .i64 a0_1) := (blk_cell BK130.out 1).trans rfl; have hcz14_2 : w13.cell? ⟨gb130, 2, none⟩ = some (.bool a0_2) := (blk_cell BK130.out 2).trans rfl; have hfz14_0 := blk_frozen BK130.out 0; have hfz14_1 := blk_frozen BK130.out 1; have hfz14_2 := blk_frozen BK130.out 2) | ((with_reducible refine gate_callee (f := 16) rfl ?_); refine goesL_ (some 5) rfl rfl Tryd.func16 (by kernel_rfl) rfl #[.string a0_0] rfl (by (try simp only [List.map_toArray, List.map_cons, List.map_nil]); first | done | rfl) ?_; (with_reducible refine (phalaroperef05_May.calls k a0_0 true _ A2.out).mono ?_); rintro e w' ⟨rfl, ⟨nd, rfl⟩⟩; refine ⟨_, rfl, ?_⟩))
   go_ret
   exact ⟨by first | rfl | (simp [errW_none, errW_some] <;> rfl) | (simp [*, errW_none, errW_some] <;> rfl), by repeat (with_reducible first | exact HB.out | apply lA | apply pw_below_drewN | apply lD | refine below_set ?_ GE130.out)⟩
 ·replace c3 := Bool.eq_false_iff.mpr c3
  subst c3
  have H1 : (some false) = some r := by rw [if_neg (show ¬ (false = true) by decide)] at H; exact H
  clear H
  have H := H1
  clear H1
  obtain rfl := Option.some.inj H
  go_enter Tryd.func13, Tryd.ntmps13
  go_wp2_with (first | ((with_reducible refine gate_dst (N := 1) rfl ?_); refine box_event ?hg (N := 1) ?hd (cs := #[.string a0_0, .int .i64 a0_1, .bool a0_2]) (t := 23) ?hr ?_; (case hd => rfl); (case hg => rfl); (case hr => first | (go_simp; done) | (go_simp; rfl)); intro gb130 hg w15 hbox hb; have n0_ := Aside0.mk (below_step (by repeat (with_reducible first | exact HB.out | apply lA | apply pw_below_drewN | apply lD)) hb); have n1_ := Aside0.mk (hbox); have n2_ := Aside0.mk ((by rw [hg]; exact (below_size (by repeat (with_reducible first | exact HB.out | apply lA | apply pw_below_drewN | apply lD))) : w.heap.size ≤ gb130)); have n3_ := Aside0.mk ((by rw [hg]; exact (below_size (by repeat (with_reducible first | exact HB.out | apply lA | apply pw_below_drewN | apply lD))) : w.heap.size ≤ gb130)); clear HB; have HB := n0_; have BK130 := n1_; have GW130 := n2_; have GE130 := n3_; clear n0_ n1_ n2_ n3_; clear hb hbox hg; have hcz16_0 : w15.cell? ⟨gb130, 0, none⟩ = some (.string a0_0) := (blk_cell BK130.out 0).trans rfl; have hcz16_1 : w15.cell? ⟨gb130, 1, none⟩ = some (.int .i64 a0_1) := (blk_cell BK130.out 1).trans rfl; have hcz16_2 : w15.cell? ⟨gb130, 2, none⟩ = some (.bool a0_2) := (blk_cell BK130.out 2).trans rfl; have hfz16_0 := blk_frozen BK130.out 0; have hfz16_1 := blk_frozen BK130.out 1; have hfz16_2 := blk_frozen BK130.out 2) | ((with_reducible refine gate_callee (f := 16) rfl ?_); refine goesL_ (some 5) rfl rfl Tryd.func16 (by kernel_rfl) rfl #[.string a0_0] rfl (by (try simp only [List.map_toArray, List.map_cons, List.map_nil]); first | done | rfl) ?_; (with_reducible refine (phalaroperef05_May.calls k a0_0 false _ A2.out).mono ?_); rintro e w' ⟨rfl, ⟨nd, rfl⟩⟩; refine ⟨_, rfl, ?_⟩))
  go_ret
  exact ⟨by first | rfl | (simp [errW_none, errW_some] <;> rfl) | (simp [*, errW_none, errW_some] <;> rfl), by repeat (with_reducible first | exact HB.out | apply lA | apply pw_below_drewN | apply lD | refine below_set ?_ GE130.out)⟩
end Go.Proofs.YthllgnephigfkaaDoor.PT
