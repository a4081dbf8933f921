-- Printed by wip/xprint.py of this claim's authors, over the kit's print; not trusted: Lean checks it.
import Derived.Test.YthllgnephigfkaaDoorEtPTx0
import Derived.Test.YthllgnephigfkaaDoorEtPTx2
import Derived.Test.YthllgnephigfkaaDoorEtPTx3
namespace Go.Proofs.YthllgnephigfkaaDoor.PT
open Go.RowKit Go.Proofs.YthllgnephigfkaaDoorW.PrintWords Go.Proofs.YthllgnephigfkaaDoorW.PrintLast Go.Proofs.YthllgnephigfkaaDoorW.PrintMore
attribute [local go_sem] max2_int min2_int max_two min_two max_three min_three max_four min_four   -- for this text's walks alone
set_option linter.unusedVariables false
set_option linter.unusedSimpArgs false
mutual
def phalaroperef06_Is.j0 : Nat → ByteArray → Int → ByteArray → ByteArray → Int → Bool → Option (ByteArray × Int × Bool × Bool)
 | 0, _, _, _, _, _, _ => none
 | k + 1, x0, x4, x6, x146000, x146001, x146002 => phalaroperef06_Is.l0 k x0 x4 x6 1 x146000 x146001 x146002
def phalaroperef06_Is.l0 : Nat → ByteArray → Int → ByteArray → Int → ByteArray → Int → Bool → Option (ByteArray × Int × Bool × Bool)
 | 0, _, _, _, _, _, _, _ => none
 | k + 1, x0, x4, x6, x7, x146000, x146001, x146002 => if x7 < (x6.size : Int) then (if x7 < 6 then (if 0 ≤ x7 then (phalaroperef06_Is.l0 k x0 x4 x6 (wrap64 (x7 + 1)) x146000 (wrap64 ((wrap64 ((wrap64 (10 * x146001)) + (wrap64 (bt x6 x7)))) - 48)) x146002) else (none)) else (if x4 > 0 then ((phalaroperef06_May.f k x146000 x146001 x146002).bind fun t146 => (if t146 = true then ((phalaroperef06_Put.f k x146000 x146001 x146002).bind fun t147 => (some (x146000, x146001, x146002, (t147.toList == x0.toList)))) else (some (x146000, x146001, x146002, false)))) else (some (x146000, x146001, x146002, false)))) else (if x4 > 0 then ((phalaroperef06_May.f k x146000 x146001 x146002).bind fun t148 => (if t148 = true then ((phalaroperef06_Put.f k x146000 x146001 x146002).bind fun t149 => (some (x146000, x146001, x146002, (t149.toList == x0.toList)))) else (some (x146000, x146001, x146002, false)))) else (some (x146000, x146001, x146002, false)))
end
def phalaroperef06_Is.f (k : Nat) (a0 : ByteArray) : Option (ByteArray × Int × Bool × Bool) := (phalaroperef05_End.f k a0).bind fun t144 => (if 0 ≤ t144 then (if t144 ≤ (a0.size : Int) then (if (a0.extract (t144 : Int).toNat a0.size).toList = ([42] : List UInt8) then (phalaroperef06_Is.j0 k a0 t144 (a0.extract (t144 : Int).toNat a0.size) (a0.extract 0 (t144 : Int).toNat) 0 true) else (phalaroperef06_Is.j0 k a0 t144 (a0.extract (t144 : Int).toNat a0.size) (a0.extract 0 (t144 : Int).toNat) 0 false)) else (none)) else (none))
def phalaroperef06_Is.T9 : Bool × List (List Nat × List Nat) := (true, [([], []), ([0], [0]), ([1], [1]), ([], []), ([], []), ([3, 4], [3, 4]), ([5], [5]), ([2, 6], [2, 6]), ([7], [7]), ([0, 1, 2, 3, 4, 5, 6, 7, 8], []), ([9, 8, 0, 1, 2, 3, 4, 5, 6, 7, 8], [8, 9])])
def phalaroperef06_Is.B9 : List Nat := [0, 1, 3, 0, 0, 24, 56, 127, 255, 511, 1023]
theorem phalaroperef06_Is.tab9 : rtab .any (opsOf Tryd.f21 9) = phalaroperef06_Is.T9 := by kernel_rfl
theorem phalaroperef06_Is.bits9 : waitsOk phalaroperef06_Is.T9.2 phalaroperef06_Is.B9 = true := by kernel_rfl
def phalaroperef06_Is.T10 : Bool × List (List Nat × List Nat) := (true, [([], []), ([], []), ([1], [1]), ([2], [2]), ([3], [3]), ([4, 3, 3], [3, 4]), ([3, 5], [3, 5]), ([6, 5], [6]), ([7], [7]), ([8, 7, 7], [7, 8]), ([7], [7]), ([9, 10, 7], [7, 9, 10]), ([7, 11], [7, 11]), ([0, 9, 0], [0]), ([12, 13, 0, 1, 2, 3, 4, 5, 6, 7, 8, 9, 10, 11, 12, 13], [12])])
def phalaroperef06_Is.B10 : List Nat := [0, 0, 2, 6, 14, 30, 62, 126, 254, 510, 254, 2046, 4094, 1023, 16383]
theorem phalaroperef06_Is.tab10 : rtab .any (opsOf Tryd.f21 10) = phalaroperef06_Is.T10 := by kernel_rfl
theorem phalaroperef06_Is.bits10 : waitsOk phalaroperef06_Is.T10.2 phalaroperef06_Is.B10 = true := by kernel_rfl
set_option maxHeartbeats 8000000 in
set_option maxRecDepth 100000 in
theorem phalaroperef06_Is.calls (k : Nat) (a0 : ByteArray) (r1 : ByteArray) (r2 : Int) (r3 : Bool) (r4 : Bool) (w : World) (h : phalaroperef06_Is.f k a0 = some (r1, r2, r3, r4)) :
  Calls Tryd.prog 21 #[.string a0] w fun e w' => e = .returned (.tuple #[.agg #[.string r1, .int .i64 r2, .bool r3], .bool r4]) ∧ Below w.heap.size w w' := by
 have hu23 := Tryd.underlying23
 have HB := Aside0.mk (Below.refl w.heap.size w)
 have H : ((phalaroperef05_End.f k a0).bind fun t144 => (if 0 ≤ t144 then (if t144 ≤ (a0.size : Int) then (if (a0.extract (t144 : Int).toNat a0.size).toList = ([42] : List UInt8) then (phalaroperef06_Is.j0 k a0 t144 (a0.extract (t144 : Int).toNat a0.size) (a0.extract 0 (t144 : Int).toNat) 0 true) else (phalaroperef06_Is.j0 k a0 t144 (a0.extract (t144 : Int).toNat a0.size) (a0.extract 0 (t144 : Int).toNat) 0 false)) else (none)) else (none))) = some (r1, r2, r3, r4) := h
 clear h
 replace H := Option.bind_eq_some_iff.mp H
 obtain ⟨t144, A20, H⟩ := H
 replace H : (if 0 ≤ t144 then (if t144 ≤ (a0.size : Int) then (if (a0.extract (t144 : Int).toNat a0.size).toList = ([42] : List UInt8) then (phalaroperef06_Is.j0 k a0 t144 (a0.extract (t144 : Int).toNat a0.size) (a0.extract 0 (t144 : Int).toNat) 0 true) else (phalaroperef06_Is.j0 k a0 t144 (a0.extract (t144 : Int).toNat a0.size) (a0.extract 0 (t144 : Int).toNat) 0 false)) else (none)) else (none)) = some (r1, r2, r3, r4) := H
 have A2 := Aside0.mk A20
 clear A20
 by_cases c3 : 0 ≤ t144
 ·rw [if_pos c3] at H
  have c3b0 := eq_true c3
  have c3b1 : decide (0 ≤ t144) = true := decide_eq_true c3
  clear c3
  by_cases c4 : t144 ≤ (a0.size : Int)
  ·rw [if_pos c4] at H
   have c4b0 := eq_true c4
   have c4b1 : decide (t144 ≤ (a0.size : Int)) = true := decide_eq_true c4
   clear c4
   have c5b0 := eq_true (of_decide_eq_true (by first | (with_reducible assumption) | assumption) : 0 ≤ t144)
   have c6b0 := eq_true (of_decide_eq_true (by first | (with_reducible assumption) | assumption) : t144 ≤ (a0.size : Int))
   have HC7 := Aside0.mk H
   clear H
   go_enter Tryd.func21, Tryd.ntmps21
   go_upto_if 18 with (first | ((with_reducible refine gate_dst (N := 2) rfl ?_); refine box_event ?hg (N := 2) ?hd (cs := #[.string (⟨#[]⟩ : ByteArray), .int .i64 0, .bool false]) (t := 23) ?hr ?_; (case hd => rfl); (case hg => rfl); (case hr => first | (go_simp; done) | (go_simp; rfl)); intro gb143 hg w8 hbox hb; have n0_ := Aside0.mk (below_step (by repeat (with_reducible first | exact HB.out | apply lA | apply pw_below_drewN | apply lD)) hb); have n1_ := Aside0.mk (hbox); have n2_ := Aside0.mk ((by rw [hg]; exact (below_size (by repeat (with_reducible first | exact HB.out | apply lA | apply pw_below_drewN | apply lD))) : w.heap.size ≤ gb143)); have n3_ := Aside0.mk ((by rw [hg]; exact (below_size (by repeat (with_reducible first | exact HB.out | apply lA | apply pw_below_drewN | apply lD))) : w.heap.size ≤ gb143)); clear HB; have HB := n0_; have BK143 := n1_; have GW143 := n2_; have GE143 := n3_; clear n0_ n1_ n2_ n3_; clear hb hbox hg) | ((with_reducible refine gate_callee (f := 31) rfl ?_); refine goesL_ (some 9) rfl rfl Tryd.func31 (by kernel_rfl) rfl #[.string a0] rfl (by (try simp only [List.map_toArray, List.map_cons, List.map_nil]); first | done | rfl) ?_; (with_reducible refine (phalaroperef05_End.calls k a0 t144 _ A2.out).mono ?_); rintro e w' ⟨rfl, ⟨nd, rfl⟩⟩; refine ⟨_, rfl, ?_⟩; (try (rw [drewN_self w8]; generalize hq_ : World.drewN w8 _ = w8; have n0_ : Aside0 (w8.heap[gb143]? = some (.cells #[.string (⟨#[]⟩ : ByteArray), .int .i64 0, .bool false] 23 (0, 0))) := ⟨by rw [← hq_]; exact (by (with_reducible repeat first | apply bN | apply bD | apply bA); exact BK143.out)⟩; have n1_ : Aside0 (Below w.heap.size w w8) := ⟨by rw [← hq_]; exact (by repeat (with_reducible first | exact HB.out | apply lA | apply pw_below_drewN | apply lD | refine below_set ?_ GE143.out))⟩; clear BK143 HB hq_; have BK143 := n0_; have HB := n1_; clear n0_ n1_))) | ((with_reducible refine gate_dst (N := 5) rfl ?_); refine box_event ?hg (N := 5) ?hd (cs := #[.string (⟨#[]⟩ : ByteArray), .int .i64 0, .bool false]) (t := 23) ?hr ?_; (case hd => rfl); (case hg => rfl); (case hr => first | (go_simp; done) | (go_simp; rfl)); intro gb145 hg w9 hbox hb; have n0_ := Aside0.mk (blk_below (g := gb143) (o := .cells #[.string (⟨#[]⟩ : ByteArray), .int .i64 0, .bool false] 23 (0, 0)) (by (with_reducible repeat first | apply bN | apply bD | apply bA); exact BK143.out) hb); have n1_ := Aside0.mk (below_step (by repeat (with_reducible first | exact HB.out | apply lA | apply pw_below_drewN | apply lD | refine below_set ?_ GE143.out)) hb); have n2_ := Aside0.mk (hbox); have n3_ := Aside0.mk ((by rw [hg]; exact (below_size (by repeat (with_reducible first | exact HB.out | apply lA | apply pw_below_drewN | apply lD | refine below_set ?_ GE143.out))) : w.heap.size ≤ gb145)); have n4_ := Aside0.mk ((by rw [hg]; exact (below_size (by repeat (with_reducible first | exact HB.out | apply lA | apply pw_below_drewN | apply lD | refine below_set ?_ GE143.out))) : w.heap.size ≤ gb145)); have n5_ := Aside0.mk ((by rw [hg]; exact Nat.ne_of_lt (blk_lt (g := gb143) (o := .cells #[.string (⟨#[]⟩ : ByteArray), .int .i64 0, .bool false] 23 (0, 0)) (by (with_reducible repeat first | apply bN | apply bD | apply bA); exact BK143.out)) : gb143 ≠ gb145)); have n6_ := Aside0.mk ((by rw [hg]; exact Nat.ne_of_gt (blk_lt (g := gb143) (o := .cells #[.string (⟨#[]⟩ : ByteArray), .int .i64 0, .bool false] 23 (0, 0)) (by (with_reducible repeat first | apply bN | apply bD | apply bA); exact BK143.out)) : gb145 ≠ gb143)); clear BK143; clear HB; have BK143 := n0_; have HB := n1_; have BK145 := n2_; have GW145 := n3_; have GE145 := n4_; have NB143_145 := n5_; have NB145_143 := n6_; clear n0_ n1_ n2_ n3_ n4_ n5_ n6_; clear hb hbox hg; have hnb10 := NB145_143.out; have hnc10 := NB143_145.out; have hcz11_0 : w9.cell? ⟨gb145, 0, none⟩ = some (.string (⟨#[]⟩ : ByteArray)) := (blk_cell BK145.out 0).trans rfl; have hcz11_1 : w9.cell? ⟨gb145, 1, none⟩ = some (.int .i64 0) := (blk_cell BK145.out 1).trans rfl; have hcz11_2 : w9.cell? ⟨gb145, 2, none⟩ = some (.bool false) := (blk_cell BK145.out 2).trans rfl; have hfz11_0 := blk_frozen BK145.out 0; have hfz11_1 := blk_frozen BK145.out 1; have hfz11_2 := blk_frozen BK145.out 2))
   (try simp only [Act.put, List.setIfInBounds_toArray, List.set_cons_zero, List.set_cons_succ])
   go_cut [] (fun wc => ∃ (kq : Nat) (x146002_6 : Bool), Aside0 (phalaroperef06_Is.j0 kq a0 t144 (a0.extract (t144 : Int).toNat a0.size) (a0.extract 0 (t144 : Int).toNat) 0 x146002_6 = some (r1, r2, r3, r4)) ∧ Aside0 (kq ≤ k) ∧ Aside0 (wc.heap[gb143]? = some (.cells #[.string (⟨#[]⟩ : ByteArray), .int .i64 0, .bool false] 23 (0, 0))) ∧ Aside0 (wc.heap[gb145]? = some (.cells #[.string (a0.extract 0 (t144 : Int).toNat), .int .i64 0, .bool x146002_6] 23 (0, 0))) ∧ Aside0 (Below w.heap.size w wc))
   case first =>
    have H := HC7.out
    clear HC7
    by_cases c12 : (a0.extract (t144 : Int).toNat a0.size).toList = ([42] : List UInt8)
    ·rw [if_pos c12] at H
     have c12b0 : ((a0.extract (t144 : Int).toNat a0.size).toList == ([42] : List UInt8)) = true := beq_iff_eq.mpr c12
     have c12b1 : ((a0.extract (t144 : Int).toNat a0.size).toList != ([42] : List UInt8)) = false := bne_eq_false_iff_eq.mpr c12
     clear c12
     (first | rw [c12b0] | (simp only [i64_w, i32_w]; rw [c12b0]) | skip)
     have H' := Aside0.mk H
     clear H
     have hnb13 := NB145_143.out
     have hnc13 := NB143_145.out
     have hcz14_0 : w9.cell? ⟨gb145, 0, none⟩ = some (.string (⟨#[]⟩ : ByteArray)) := (blk_cell BK145.out 0).trans rfl
     have hcz14_1 : w9.cell? ⟨gb145, 1, none⟩ = some (.int .i64 0) := (blk_cell BK145.out 1).trans rfl
     have hcz14_2 : w9.cell? ⟨gb145, 2, none⟩ = some (.bool false) := (blk_cell BK145.out 2).trans rfl
     have hfz14_0 := blk_frozen BK145.out 0
     have hfz14_1 := blk_frozen BK145.out 1
     have hfz14_2 := blk_frozen BK145.out 2
     go_wp2
     go_meet
     case rel => exact ⟨_, (true), H', ⟨by first | omega | exact Nat.le_refl _⟩, ⟨by (with_reducible repeat first | apply bN | apply bD | apply bA); refine blk_far ?_ NB143_145.out _; (with_reducible repeat first | apply bN | apply bD | apply bA); refine blk_far ?_ NB143_145.out _; (with_reducible repeat first | apply bN | apply bD | apply bA); refine blk_far ?_ NB143_145.out _; (with_reducible repeat first | apply bN | apply bD | apply bA); refine blk_far ?_ NB143_145.out _; (with_reducible repeat first | apply bN | apply bD | apply bA); exact BK143.out⟩, ⟨by (with_reducible repeat first | apply bN | apply bD | apply bA); refine blk_put (cs := #[.string (a0.extract 0 (t144 : Int).toNat), .int .i64 0, .bool false]) ?_ 2 _ rfl; (with_reducible repeat first | apply bN | apply bD | apply bA); refine blk_put (cs := #[.string (a0.extract 0 (t144 : Int).toNat), .int .i64 0, .bool false]) ?_ 2 _ rfl; (with_reducible repeat first | apply bN | apply bD | apply bA); refine blk_put (cs := #[.string (a0.extract 0 (t144 : Int).toNat), .int .i64 0, .bool false]) ?_ 1 _ rfl; (with_reducible repeat first | apply bN | apply bD | apply bA); refine blk_put (cs := #[.string (⟨#[]⟩ : ByteArray), .int .i64 0, .bool false]) ?_ 0 _ rfl; (with_reducible repeat first | apply bN | apply bD | apply bA); exact BK145.out⟩, ⟨by repeat (with_reducible first | exact HB.out | apply lA | apply pw_below_drewN | apply lD | refine below_set ?_ GE143.out | refine below_set ?_ GE145.out)⟩⟩
    ·rw [if_neg c12] at H
     have c12b0 : ((a0.extract (t144 : Int).toNat a0.size).toList == ([42] : List UInt8)) = false := beq_eq_false_iff_ne.mpr c12
     have c12b1 : ((a0.extract (t144 : Int).toNat a0.size).toList != ([42] : List UInt8)) = true := bne_iff_ne.mpr c12
     (first | rw [c12b0] | (simp only [i64_w, i32_w]; rw [c12b0]) | skip)
     have H' := Aside0.mk H
     clear H
     go_wp2
     go_meet
     case rel => exact ⟨_, (false), H', ⟨by first | omega | exact Nat.le_refl _⟩, ⟨by (with_reducible repeat first | apply bN | apply bD | apply bA); refine blk_far ?_ NB143_145.out _; (with_reducible repeat first | apply bN | apply bD | apply bA); refine blk_far ?_ NB143_145.out _; (with_reducible repeat first | apply bN | apply bD | apply bA); refine blk_far ?_ NB143_145.out _; (with_reducible repeat first | apply bN | apply bD | apply bA); exact BK143.out⟩, ⟨by (with_reducible repeat first | apply bN | apply bD | apply bA); refine blk_put (cs := #[.string (a0.extract 0 (t144 : Int).toNat), .int .i64 0, .bool false]) ?_ 2 _ rfl; (with_reducible repeat first | apply bN | apply bD | apply bA); refine blk_put (cs := #[.string (a0.extract 0 (t144 : Int).toNat), .int .i64 0, .bool false]) ?_ 1 _ rfl; (with_reducible repeat first | apply bN | apply bD | apply bA); refine blk_put (cs := #[.string (⟨#[]⟩ : ByteArray), .int .i64 0, .bool false]) ?_ 0 _ rfl; (with_reducible repeat first | apply bN | apply bD | apply bA); exact BK145.out⟩, ⟨by repeat (with_reducible first | exact HB.out | apply lA | apply pw_below_drewN | apply lD | refine below_set ?_ GE143.out | refine below_set ?_ GE145.out)⟩⟩
   case rest =>
    clear HC7
    try clear c1
    try clear c2
    try clear p2
    try clear c3
    try clear c3b0
    try clear c3b1
    try clear c4
    try clear c4b0
    try clear c4b1
    try clear c5
    try clear c5b0
    try clear c6
    try clear c6b0
    try clear c10
    try clear c12
    try clear c12b0
    try clear c12b1
    try clear c13
    try clear hcz11_0
    try clear hcz11_1
    try clear hcz11_2
    try clear hcz14_0
    try clear hcz14_1
    try clear hcz14_2
    try clear hfz11_0
    try clear hfz11_1
    try clear hfz11_2
    try clear hfz14_0
    try clear hfz14_1
    try clear hfz14_2
    obtain ⟨kq, x146002_6, HA, HJ6, BK143, BK145, HB⟩ := hcut
    cases kq with
    | zero => exact absurd HA.out (by simp [phalaroperef06_Is.j0])
    | succ kj6 =>
     have H := HA.out
     clear HA
     simp only [phalaroperef06_Is.j0] at H
     have H' := Aside0.mk H
     clear H
     go_wp2
     go_loopg [7] kj6 (fun kq v7 w' => ∃ (x7_2 : Int) (x146001_2 : Int), v7 = .int .i64 x7_2 ∧ Aside0 (phalaroperef06_Is.l0 kq a0 t144 (a0.extract (t144 : Int).toNat a0.size) x7_2 (a0.extract 0 (t144 : Int).toNat) x146001_2 x146002_6 = some (r1, r2, r3, r4)) ∧ Aside0 (kq ≤ kj6) ∧ Aside0 (w'.heap[gb143]? = some (.cells #[.string (⟨#[]⟩ : ByteArray), .int .i64 0, .bool false] 23 (0, 0))) ∧ Aside0 (w'.heap[gb145]? = some (.cells #[.string (a0.extract 0 (t144 : Int).toNat), .int .i64 x146001_2, .bool x146002_6] 23 (0, 0))) ∧ Aside0 (Below w.heap.size w w'))
     case atStart => exact ⟨(1), (0), (by first | rfl | (simp; done) | (simp [*]; done)), H', ⟨Nat.le_refl _⟩, ⟨by (with_reducible repeat first | apply bN | apply bD | apply bA); exact BK143.out⟩, ⟨by (with_reducible repeat first | apply bN | apply bD | apply bA); exact BK145.out⟩, ⟨by repeat (with_reducible first | exact HB.out | apply lA | apply pw_below_drewN | apply lD | refine below_set ?_ GE143.out | refine below_set ?_ GE145.out)⟩⟩
     case round =>
      clear H'
      try clear c1
      try clear c2
      try clear p2
      try clear c3
      try clear c3b0
      try clear c3b1
      try clear c4
      try clear c4b0
      try clear c4b1
      try clear c5
      try clear c5b0
      try clear c6
      try clear c6b0
      try clear c10
      try clear c12
      try clear c12b0
      try clear c12b1
      try clear c13
      try clear hcz11_0
      try clear hcz11_1
      try clear hcz11_2
      try clear hcz14_0
      try clear hcz14_1
      try clear hcz14_2
      try clear hfz11_0
      try clear hfz11_1
      try clear hfz11_2
      try clear hfz14_0
      try clear hfz14_1
      try clear hfz14_2
      try clear p2
      obtain ⟨x7_2, x146001_2, rfl, HA, HK2, BK143, BK145, HB⟩ := hrel
      cases gk with
      | zero => exact absurd HA.out (by simp [phalaroperef06_Is.l0])
      | succ k2 =>
       have H := HA.out
       clear HA
       simp only [phalaroperef06_Is.l0] at H
       by_cases c15 : x7_2 < ((a0.extract (t144 : Int).toNat a0.size).size : Int)
       ·rw [if_pos c15] at H
        have c15b0 : decide (x7_2 < ((a0.extract (t144 : Int).toNat a0.size).size : Int)) = true := decide_eq_true c15
        have c15b3 : decide (x7_2 < ((a0.size - (t144 : Int).toNat : Nat) : Int)) = true := by rw [ByteArray.size_extract, Nat.min_self] at c15b0; exact c15b0
        have c15b4 : (x7_2 < ((a0.size - (t144 : Int).toNat : Nat) : Int)) = True := eq_true (of_decide_eq_true c15b3)
        clear c15
        by_cases c16 : x7_2 < 6
        ·rw [if_pos c16] at H
         have c16b0 : decide (x7_2 < 6) = true := decide_eq_true c16
         clear c16
         by_cases c17 : 0 ≤ x7_2
         ·rw [if_pos c17] at H
          have c17b0 : decide (0 ≤ x7_2) = true := decide_eq_true c17
          clear c17
          have H' := Aside0.mk H
          clear H
          try go_wp2
          have n0_ := Aside0.mk (blk_drew BK143.out)
          have n1_ := Aside0.mk (blk_drew BK145.out)
          have n2_ := Aside0.mk (below_drew1 HB.out)
          clear BK143
          clear BK145
          clear HB
          have BK143 := n0_
          have BK145 := n1_
          have HB := n2_
          clear n0_ n1_ n2_
          have p18 : 0 ≤ (x7_2 : Int) := of_decide_eq_true (by first | (with_reducible assumption) | assumption)
          have q18 : x7_2 < ((a0.extract (t144 : Int).toNat a0.size).size : Int) := of_decide_eq_true (by first | (with_reducible assumption) | assumption)
          have hx18 := bt_at (a0.extract (t144 : Int).toNat a0.size) x7_2
          replace p18 := eq_true p18
          replace q18 := eq_true q18
          refine start_ (n := 11) (S := fun w' => w'.cell? ⟨gb145, 0, none⟩ = some (.string (a0.extract 0 (t144 : Int).toNat)) ∧ w'.cell? ⟨gb145, 1, none⟩ = some (.int .i64 x146001_2) ∧ w'.cell? ⟨gb145, 2, none⟩ = some (.bool x146002_6)) (ds := [10]) #[false,false,false,false,false,false,false,false,false,false,false] (by kernel_rfl) rfl rfl ⟨(blk_cell BK145.out 0).trans rfl, (blk_cell BK145.out 1).trans rfl, (blk_cell BK145.out 2).trans rfl⟩ (fun hHeld => ?_); refine with_tabW phalaroperef06_Is.tab9 phalaroperef06_Is.bits9 (fun HT_ HW_ => ?_)
          generalize wr.drew = w19 at BK143 BK145 HB hHeld ⊢
          refine pure_ (i := 0) (N := some 30) (v := ?_) (a' := ?_) #[true,false,false,false,false,false,false,false,false,false,false] rfl rfl (any_of HT_.out (by kernel_rfl)) (fun _ _ _ h => h) (Or.inl ⟨by rfl, ?_⟩) ?_ ?_
          rotate_left
          ·intro w'
           go_simp
           with_reducible rfl
          rotate_left
          ·(simp only [Act.put, List.setIfInBounds_toArray, List.set_cons_zero, List.set_cons_succ, i64_w, i32_w])
           rfl
          refine pure_ (i := 3) (N := some 33) (v := ?_) (a' := ?_) #[true,false,false,true,false,false,false,false,false,false,false] rfl rfl (any_of HT_.out (by kernel_rfl)) (fun _ _ _ h => h) (Or.inl ⟨by rfl, ?_⟩) ?_ ?_
          rotate_left
          ·intro w'
           go_simp
           with_reducible rfl
          rotate_left
          ·(simp only [Act.put, List.setIfInBounds_toArray, List.set_cons_zero, List.set_cons_succ, i64_w, i32_w])
           rfl
          refine pure_ (i := 4) (N := some 34) (v := ?_) (a' := ?_) #[true,false,false,true,true,false,false,false,false,false,false] rfl rfl (any_of HT_.out (by kernel_rfl)) (fun _ _ _ h => h) (Or.inl ⟨by rfl, ?_⟩) ?_ ?_
          rotate_left
          ·intro w'
           go_simp
           with_reducible rfl
          rotate_left
          ·(simp only [Act.put, List.setIfInBounds_toArray, List.set_cons_zero, List.set_cons_succ, i64_w, i32_w])
           rfl
          refine take_ (i := 1) (N := some 31) (v := ?_) (a' := ?_) #[true,true,false,true,true,false,false,false,false,false,false] rfl rfl (take_ofW HT_.out HW_.out (by kernel_rfl)) (fun _ _ _ h => h) (Or.inl ⟨by rfl, ?_⟩) hHeld ?_ ?_
          rotate_left
          ·rintro w' ⟨s0, s1, s2⟩
           go_simp
           with_reducible rfl
          rotate_left
          ·(simp only [Act.put, List.setIfInBounds_toArray, List.set_cons_zero, List.set_cons_succ, i64_w, i32_w])
           rfl
          refine pure_ (i := 2) (N := some 32) (v := ?_) (a' := ?_) #[true,true,true,true,true,false,false,false,false,false,false] rfl rfl (any_of HT_.out (by kernel_rfl)) (fun _ _ _ h => h) (Or.inl ⟨by rfl, ?_⟩) ?_ ?_
          rotate_left
          ·intro w'
           go_simp
           with_reducible rfl
          rotate_left
          ·(simp only [Act.put, List.setIfInBounds_toArray, List.set_cons_zero, List.set_cons_succ, i64_w, i32_w])
           rfl
          refine take_ (i := 5) (N := some 35) (v := ?_) (a' := ?_) #[true,true,true,true,true,true,false,false,false,false,false] rfl rfl (take_ofW HT_.out HW_.out (by kernel_rfl)) (fun _ _ _ h => h) (Or.inl ⟨by rfl, ?_⟩) hHeld ?_ ?_
          rotate_left
          ·rintro w' ⟨s0, s1, s2⟩
           go_simp
           with_reducible rfl
          rotate_left
          ·(simp only [Act.put, List.setIfInBounds_toArray, List.set_cons_zero, List.set_cons_succ, i64_w, i32_w])
           rfl
          refine pure_ (i := 6) (N := some 36) (v := ?_) (a' := ?_) #[true,true,true,true,true,true,true,false,false,false,false] rfl rfl (any_of HT_.out (by kernel_rfl)) (fun _ _ _ h => h) (Or.inl ⟨by rfl, ?_⟩) ?_ ?_
          rotate_left
          ·intro w'
           go_simp
           with_reducible rfl
          rotate_left
          ·(simp only [Act.put, List.setIfInBounds_toArray, List.set_cons_zero, List.set_cons_succ, i64_w, i32_w])
           rfl
          refine pure_ (i := 7) (N := some 37) (v := ?_) (a' := ?_) #[true,true,true,true,true,true,true,true,false,false,false] rfl rfl (any_of HT_.out (by kernel_rfl)) (fun _ _ _ h => h) (Or.inl ⟨by rfl, ?_⟩) ?_ ?_
          rotate_left
          ·intro w'
           go_simp
           with_reducible rfl
          rotate_left
          ·(simp only [Act.put, List.setIfInBounds_toArray, List.set_cons_zero, List.set_cons_succ, i64_w, i32_w])
           rfl
          refine pure_ (i := 8) (N := some 38) (v := ?_) (a' := ?_) #[true,true,true,true,true,true,true,true,true,false,false] rfl rfl (any_of HT_.out (by kernel_rfl)) (fun _ _ _ h => h) (Or.inl ⟨by rfl, ?_⟩) ?_ ?_
          rotate_left
          ·intro w'
           go_simp
           with_reducible rfl
          rotate_left
          ·(simp only [Act.put, List.setIfInBounds_toArray, List.set_cons_zero, List.set_cons_succ, i64_w, i32_w])
           rfl
          refine pure_ (i := 9) (N := some 39) (v := ?_) (a' := ?_) #[true,true,true,true,true,true,true,true,true,true,false] rfl rfl (any_of HT_.out (by kernel_rfl)) (fun _ _ _ h => h) (Or.inl ⟨by rfl, ?_⟩) ?_ ?_
          rotate_left
          ·intro w'
           go_simp
           with_reducible rfl
          rotate_left
          ·(simp only [Act.put, List.setIfInBounds_toArray, List.set_cons_zero, List.set_cons_succ, i64_w, i32_w])
           rfl
          refine last_ (i := 10) (N := none) #[true,true,true,true,true,true,true,true,true,true,true] rfl rfl (one_of HT_.out (by kernel_rfl)) (by decide) (fun K hK => ?_)
          have hs20 : w19.cell? ⟨gb145, 1, none⟩ = some (.int .i64 x146001_2) := (blk_cell BK145.out 1).trans rfl
          have hfs20 := blk_frozen BK145.out 1
          have hns20_0 := NB143_145.out
          have hms20_0 := NB145_143.out
          refine skip_ (w1 := ?_) (by rfl) rfl ?_ ?_
          rotate_left
          ·go_simp
           rfl
          refine hK.out _ _ ?_
          clear hK K
          refine done_ (done_of HT_.out (by kernel_rfl)) ?_
          try go_wp2
          go_roundg k2
          case measure => have := HJ6.out; have := HK2.out; omega
          case rel => exact ⟨(wrap64 (x7_2 + 1)), (wrap64 ((wrap64 ((wrap64 (10 * x146001_2)) + (wrap64 (bt (a0.extract (t144 : Int).toNat a0.size) x7_2)))) - 48)), (by first | rfl | (simp; done) | (simp [*]; done)), H', ⟨by have := HJ6.out; have := HK2.out; omega⟩, ⟨by (with_reducible repeat first | apply bN | apply bD | apply bA); refine blk_far ?_ NB143_145.out _; (with_reducible repeat first | apply bN | apply bD | apply bA); exact BK143.out⟩, ⟨by (with_reducible repeat first | apply bN | apply bD | apply bA); refine blk_put (cs := #[.string (a0.extract 0 (t144 : Int).toNat), .int .i64 x146001_2, .bool x146002_6]) ?_ 1 _ rfl; (with_reducible repeat first | apply bN | apply bD | apply bA); exact BK145.out⟩, ⟨by repeat (with_reducible first | exact HB.out | apply lA | apply pw_below_drewN | apply lD | refine below_set ?_ GE143.out | refine below_set ?_ GE145.out)⟩⟩
         ·rw [if_neg c17] at H
          exact absurd H (by simp)
        ·rw [if_neg c16] at H
         have c16b0 : decide (x7_2 < 6) = false := decide_eq_false c16
         clear c16
         by_cases c21 : t144 > 0
         ·rw [if_pos c21] at H
          have c21b0 : decide (0 < t144) = true := decide_eq_true c21
          clear c21
          replace H := Option.bind_eq_some_iff.mp H
          obtain ⟨t146, A220, H⟩ := H
          replace H : (if t146 = true then ((phalaroperef06_Put.f k2 (a0.extract 0 (t144 : Int).toNat) x146001_2 x146002_6).bind fun t147 => (some ((a0.extract 0 (t144 : Int).toNat), x146001_2, x146002_6, (t147.toList == a0.toList)))) else (some ((a0.extract 0 (t144 : Int).toNat), x146001_2, x146002_6, false))) = some (r1, r2, r3, r4) := H
          have A22 := Aside0.mk A220
          clear A220
          by_cases c23 : t146 = true
          ·subst c23
           have H1 : ((phalaroperef06_Put.f k2 (a0.extract 0 (t144 : Int).toNat) x146001_2 x146002_6).bind fun t147 => (some ((a0.extract 0 (t144 : Int).toNat), x146001_2, x146002_6, (t147.toList == a0.toList)))) = some (r1, r2, r3, r4) := by rw [if_pos rfl] at H; exact H
           clear H
           have H := H1
           clear H1
           replace H := Option.bind_eq_some_iff.mp H
           obtain ⟨t147, A240, H⟩ := H
           replace H : (some ((a0.extract 0 (t144 : Int).toNat), x146001_2, x146002_6, (t147.toList == a0.toList))) = some (r1, r2, r3, r4) := H
           have A24 := Aside0.mk A240
           clear A240
           simp only [Option.some.injEq, Prod.mk.injEq] at H
           obtain ⟨rfl, rfl, rfl, rfl⟩ := H
           try go_wp2
           have n0_ := Aside0.mk (blk_drew BK143.out)
           have n1_ := Aside0.mk (blk_drew BK145.out)
           have n2_ := Aside0.mk (below_drew1 HB.out)
           clear BK143
           clear BK145
           clear HB
           have BK143 := n0_
           have BK145 := n1_
           have HB := n2_
           clear n0_ n1_ n2_
           refine start_ (n := 15) (S := fun w' => w'.cell? ⟨gb145, 0, none⟩ = some (.string (a0.extract 0 (t144 : Int).toNat)) ∧ w'.cell? ⟨gb145, 1, none⟩ = some (.int .i64 x146001_2) ∧ w'.cell? ⟨gb145, 2, none⟩ = some (.bool x146002_6)) (ds := []) #[false,false,false,false,false,false,false,false,false,false,false,false,false,false,false] (by kernel_rfl) rfl rfl ⟨(blk_cell BK145.out 0).trans rfl, (blk_cell BK145.out 1).trans rfl, (blk_cell BK145.out 2).trans rfl⟩ (fun hHeld => ?_); refine with_tabW phalaroperef06_Is.tab10 phalaroperef06_Is.bits10 (fun HT_ HW_ => ?_)
           generalize wr.drew = w25 at BK143 BK145 HB hHeld ⊢
           refine pure_ (i := 1) (N := some 41) (v := ?_) (a' := ?_) #[false,true,false,false,false,false,false,false,false,false,false,false,false,false,false] rfl rfl (any_of HT_.out (by kernel_rfl)) (fun _ _ _ h => h) (Or.inl ⟨by rfl, ?_⟩) ?_ ?_
           rotate_left
           ·intro w'
            go_simp
            with_reducible rfl
           rotate_left
           ·(simp only [Act.put, List.setIfInBounds_toArray, List.set_cons_zero, List.set_cons_succ, i64_w, i32_w])
            rfl
           refine pure_ (i := 2) (N := some 42) (v := ?_) (a' := ?_) #[false,true,true,false,false,false,false,false,false,false,false,false,false,false,false] rfl rfl (any_of HT_.out (by kernel_rfl)) (fun _ _ _ h => h) (Or.inl ⟨by rfl, ?_⟩) ?_ ?_
           rotate_left
           ·intro w'
            go_simp
            with_reducible rfl
           rotate_left
           ·(simp only [Act.put, List.setIfInBounds_toArray, List.set_cons_zero, List.set_cons_succ, i64_w, i32_w])
            rfl
           refine pure_ (i := 3) (N := some 43) (v := ?_) (a' := ?_) #[false,true,true,true,false,false,false,false,false,false,false,false,false,false,false] rfl rfl (any_of HT_.out (by kernel_rfl)) (fun _ _ _ h => h) (Or.inl ⟨by rfl, ?_⟩) ?_ ?_
           rotate_left
           ·intro w'
            go_simp
            with_reducible rfl
           rotate_left
           ·(simp only [Act.put, List.setIfInBounds_toArray, List.set_cons_zero, List.set_cons_succ, i64_w, i32_w])
            rfl
           refine take_ (i := 0) (N := some 40) (v := ?_) (a' := ?_) #[true,true,true,true,false,false,false,false,false,false,false,false,false,false,false] rfl rfl (take_ofW HT_.out HW_.out (by kernel_rfl)) (fun _ _ _ h => h) (Or.inl ⟨by rfl, ?_⟩) hHeld ?_ ?_
           rotate_left
           ·rintro w' ⟨s0, s1, s2⟩
            go_simp
            with_reducible rfl
           rotate_left
           ·(simp only [Act.put, List.setIfInBounds_toArray, List.set_cons_zero, List.set_cons_succ, i64_w, i32_w])
            rfl
           refine take_ (i := 4) (N := some 44) (v := ?_) (a' := ?_) #[true,true,true,true,true,false,false,false,false,false,false,false,false,false,false] rfl rfl (take_ofW HT_.out HW_.out (by kernel_rfl)) (fun _ _ _ h => h) (Or.inl ⟨by rfl, ?_⟩) hHeld ?_ ?_
           rotate_left
           ·rintro w' ⟨s0, s1, s2⟩
            go_simp
            with_reducible rfl
           rotate_left
           ·(simp only [Act.put, List.setIfInBounds_toArray, List.set_cons_zero, List.set_cons_succ, i64_w, i32_w])
            rfl
           refine one_ (i := 5) (N := some 45) #[true,true,true,true,true,true,false,false,false,false,false,false,false,false,false] rfl rfl (one_of HT_.out (by kernel_rfl)) (by decide) (fun K hK => ?_)
           refine goes_ Tryd.func13 (by kernel_rfl) rfl #[.agg #[.string (a0.extract 0 (t144 : Int).toNat), .int .i64 x146001_2, .bool x146002_6]] (by rfl) rfl rfl (by (try simp only [List.map_toArray, List.map_cons, List.map_nil]); first | done | rfl) ?_
           with_reducible refine (phalaroperef06_May.calls k2 (a0.extract 0 (t144 : Int).toNat) x146001_2 x146002_6 true _ A22.out).mono ?_
           rintro e w26 ⟨rfl, hb⟩
           refine ⟨_, rfl, ?_⟩
           have n0_ := Aside0.mk (blk_below (g := gb143) (o := .cells #[.string (⟨#[]⟩ : ByteArray), .int .i64 0, .bool false] 23 (0, 0)) (by (with_reducible repeat first | apply bN | apply bD | apply bA); exact BK143.out) hb)
           have n1_ := Aside0.mk (blk_below (g := gb145) (o := .cells #[.string (a0.extract 0 (t144 : Int).toNat), .int .i64 x146001_2, .bool x146002_6] 23 (0, 0)) (by (with_reducible repeat first | apply bN | apply bD | apply bA); exact BK145.out) hb)
           have n2_ := Aside0.mk (below_step (by repeat (with_reducible first | exact HB.out | apply lA | apply pw_below_drewN | apply lD | refine below_set ?_ GE143.out | refine below_set ?_ GE145.out)) hb)
           clear BK143
           clear BK145
           clear HB
           have BK143 := n0_
           have BK145 := n1_
           have HB := n2_
           clear n0_ n1_ n2_
           (try clear hb)
           (try clear hb2)
           (try clear hk)
           (try clear hi)
           refine hK.out _ _ ⟨(blk_cell BK145.out 0).trans rfl, (blk_cell BK145.out 1).trans rfl, (blk_cell BK145.out 2).trans rfl⟩ (fun hHeld => ?_)
           clear hK K
           refine norm_ (a' := ?_) ?_ ?_
           rotate_left
           ·show Act.put _ (some 45) _ = _
            (simp only [Act.put, List.setIfInBounds_toArray, List.set_cons_zero, List.set_cons_succ, i64_w, i32_w])
            rfl
           refine pure_ (i := 6) (N := some 46) (v := ?_) (a' := ?_) #[true,true,true,true,true,true,true,false,false,false,false,false,false,false,false] rfl rfl (any_of HT_.out (by kernel_rfl)) (fun _ _ _ h => h) (Or.inl ⟨by rfl, ?_⟩) ?_ ?_
           rotate_left
           ·intro w'
            go_simp
            with_reducible rfl
           rotate_left
           ·(simp only [Act.put, List.setIfInBounds_toArray, List.set_cons_zero, List.set_cons_succ, i64_w, i32_w])
            rfl
           refine pure_ (i := 7) (N := some 47) (v := ?_) (a' := ?_) #[true,true,true,true,true,true,true,true,false,false,false,false,false,false,false] rfl rfl (any_of HT_.out (by kernel_rfl)) (fun _ _ _ h => h) (Or.inl ⟨by rfl, ?_⟩) ?_ ?_
           rotate_left
           ·intro w'
            go_simp
            with_reducible rfl
           rotate_left
           ·(simp only [Act.put, List.setIfInBounds_toArray, List.set_cons_zero, List.set_cons_succ, i64_w, i32_w])
            rfl
           refine pure_ (i := 10) (N := some 50) (v := ?_) (a' := ?_) #[true,true,true,true,true,true,true,true,false,false,true,false,false,false,false] rfl rfl (any_of HT_.out (by kernel_rfl)) (fun _ _ _ h => h) (Or.inl ⟨by rfl, ?_⟩) ?_ ?_
           rotate_left
           ·intro w'
            go_simp
            with_reducible rfl
           rotate_left
           ·(simp only [Act.put, List.setIfInBounds_toArray, List.set_cons_zero, List.set_cons_succ, i64_w, i32_w])
            rfl
           refine take_ (i := 8) (N := some 48) (v := ?_) (a' := ?_) #[true,true,true,true,true,true,true,true,true,false,true,false,false,false,false] rfl rfl (take_ofW HT_.out HW_.out (by kernel_rfl)) (fun _ _ _ h => h) (Or.inl ⟨by rfl, ?_⟩) hHeld ?_ ?_
           rotate_left
           ·rintro w' ⟨s0, s1, s2⟩
            go_simp
            with_reducible rfl
           rotate_left
           ·(simp only [Act.put, List.setIfInBounds_toArray, List.set_cons_zero, List.set_cons_succ, i64_w, i32_w])
            rfl
           refine one_ (i := 9) (N := some 49) #[true,true,true,true,true,true,true,true,true,true,true,false,false,false,false] rfl rfl (one_of HT_.out (by kernel_rfl)) (by decide) (fun K hK => ?_)
           refine goes_ Tryd.func15 (by kernel_rfl) rfl #[.agg #[.string (a0.extract 0 (t144 : Int).toNat), .int .i64 x146001_2, .bool x146002_6]] (by rfl) rfl rfl (by (try simp only [List.map_toArray, List.map_cons, List.map_nil]); first | done | rfl) ?_
           with_reducible refine (phalaroperef06_Put.calls k2 (a0.extract 0 (t144 : Int).toNat) x146001_2 x146002_6 t147 _ A24.out).mono ?_
           rintro e w27 ⟨rfl, hb⟩
           refine ⟨_, rfl, ?_⟩
           have n0_ := Aside0.mk (blk_below (g := gb143) (o := .cells #[.string (⟨#[]⟩ : ByteArray), .int .i64 0, .bool false] 23 (0, 0)) (by (with_reducible repeat first | apply bN | apply bD | apply bA); exact BK143.out) hb)
           have n1_ := Aside0.mk (blk_below (g := gb145) (o := .cells #[.string (a0.extract 0 (t144 : Int).toNat), .int .i64 x146001_2, .bool x146002_6] 23 (0, 0)) (by (with_reducible repeat first | apply bN | apply bD | apply bA); exact BK145.out) hb)
           have n2_ := Aside0.mk (below_step (by repeat (with_reducible first | exact HB.out | apply lA | apply pw_below_drewN | apply lD | refine below_set ?_ GE143.out | refine below_set ?_ GE145.out)) hb)
           clear BK143
           clear BK145
           clear HB
           have BK143 := n0_
           have BK145 := n1_
           have HB := n2_
           clear n0_ n1_ n2_
           (try clear hb)
           (try clear hb2)
           (try clear hk)
           (try clear hi)
           refine hK.out _ _ ⟨(blk_cell BK145.out 0).trans rfl, (blk_cell BK145.out 1).trans rfl, (blk_cell BK145.out 2).trans rfl⟩ (fun hHeld => ?_)
           clear hK K
           refine norm_ (a' := ?_) ?_ ?_
           rotate_left
           ·show Act.put _ (some 49) _ = _
            (simp only [Act.put, List.setIfInBounds_toArray, List.set_cons_zero, List.set_cons_succ, i64_w, i32_w])
            rfl
           refine pure_ (i := 11) (N := some 51) (v := ?_) (a' := ?_) #[true,true,true,true,true,true,true,true,true,true,true,true,false,false,false] rfl rfl (any_of HT_.out (by kernel_rfl)) (fun _ _ _ h => h) (Or.inl ⟨by rfl, ?_⟩) ?_ ?_
           rotate_left
           ·intro w'
            go_simp
            with_reducible rfl
           rotate_left
           ·(simp only [Act.put, List.setIfInBounds_toArray, List.set_cons_zero, List.set_cons_succ, i64_w, i32_w])
            rfl
           refine pure_ (i := 12) (N := some 52) (v := ?_) (a' := ?_) #[true,true,true,true,true,true,true,true,true,true,true,true,true,false,false] rfl rfl (any_of HT_.out (by kernel_rfl)) (fun _ _ _ h => h) (Or.inl ⟨by rfl, ?_⟩) ?_ ?_
           rotate_left
           ·intro w'
            go_simp
            with_reducible rfl
           rotate_left
           ·(simp only [Act.put, List.setIfInBounds_toArray, List.set_cons_zero, List.set_cons_succ, i64_w, i32_w])
            rfl
           refine one_ (i := 13) (N := none) #[true,true,true,true,true,true,true,true,true,true,true,true,true,true,false] rfl rfl (one_of HT_.out (by kernel_rfl)) (by decide) (fun K hK => ?_)
           have hs28 : w27.cell? ⟨gb143, 0, none⟩ = some (.string (⟨#[]⟩ : ByteArray)) := (blk_cell BK143.out 0).trans rfl
           have hfs28 := blk_frozen BK143.out 0
           have hns28_1 := NB145_143.out
           have hms28_1 := NB143_145.out
           have hs29 : w27.cell? ⟨gb143, 1, none⟩ = some (.int .i64 0) := (blk_cell BK143.out 1).trans rfl
           have hfs29 := blk_frozen BK143.out 1
           have hns29_1 := NB145_143.out
           have hms29_1 := NB143_145.out
           have hs30 : w27.cell? ⟨gb143, 2, none⟩ = some (.bool false) := (blk_cell BK143.out 2).trans rfl
           have hfs30 := blk_frozen BK143.out 2
           have hns30_1 := NB145_143.out
           have hms30_1 := NB143_145.out
           refine skip_ (w1 := ?_) (by rfl) rfl ?_ ?_
           rotate_left
           ·go_simp
            rfl
           refine hK.out _ _ ⟨((cell_far (p := ⟨gb143, _, none⟩) NB145_143.out _).trans (((cell_far (p := ⟨gb143, _, none⟩) NB145_143.out _).trans (((cell_far (p := ⟨gb143, _, none⟩) NB145_143.out _).trans (hHeld.1)))))), ((cell_far (p := ⟨gb143, _, none⟩) NB145_143.out _).trans (((cell_far (p := ⟨gb143, _, none⟩) NB145_143.out _).trans (((cell_far (p := ⟨gb143, _, none⟩) NB145_143.out _).trans (hHeld.2.1)))))), ((cell_far (p := ⟨gb143, _, none⟩) NB145_143.out _).trans (((cell_far (p := ⟨gb143, _, none⟩) NB145_143.out _).trans (((cell_far (p := ⟨gb143, _, none⟩) NB145_143.out _).trans (hHeld.2.2))))))⟩ (fun hHeld => ?_)
           clear hK K
           refine pure_ (i := 14) (N := some 3) (v := ?_) (a' := ?_) #[true,true,true,true,true,true,true,true,true,true,true,true,true,true,true] rfl rfl (any_of HT_.out (by kernel_rfl)) (fun _ _ _ h => h) (Or.inl ⟨by rfl, ?_⟩) ?_ ?_
           rotate_left
           ·intro w'
            go_simp
            with_reducible rfl
           rotate_left
           ·(simp only [Act.put, List.setIfInBounds_toArray, List.set_cons_zero, List.set_cons_succ, i64_w, i32_w])
            rfl
           refine done_ (done_of HT_.out (by kernel_rfl)) ?_
           try go_wp2
           refine bodyPost_ret (results_ct rfl _ _ gb143 23 #[.string (a0.extract 0 (t144 : Int).toNat), .int .i64 x146001_2, .bool x146002_6] (0, 0) _ rfl (by (with_reducible repeat first | apply bN | apply bD | apply bA); refine blk_put (cs := #[.string (a0.extract 0 (t144 : Int).toNat), .int .i64 x146001_2, .bool false]) ?_ 2 _ rfl; (with_reducible repeat first | apply bN | apply bD | apply bA); refine blk_put (cs := #[.string (a0.extract 0 (t144 : Int).toNat), .int .i64 0, .bool false]) ?_ 1 _ rfl; (with_reducible repeat first | apply bN | apply bD | apply bA); refine blk_put (cs := #[.string (⟨#[]⟩ : ByteArray), .int .i64 0, .bool false]) ?_ 0 _ rfl; (with_reducible repeat first | apply bN | apply bD | apply bA); exact BK143.out) Tryd.underlying23 rfl (by kernel_rfl)) rfl ?_
           exact ⟨by first | rfl | (simp [errW_none, errW_some] <;> rfl) | (simp [*, errW_none, errW_some] <;> rfl), by repeat (with_reducible first | exact HB.out | apply lA | apply pw_below_drewN | apply lD | refine below_set ?_ GE143.out | refine below_set ?_ GE145.out)⟩
          ·replace c23 := Bool.eq_false_iff.mpr c23
           subst c23
           have H1 : (some ((a0.extract 0 (t144 : Int).toNat), x146001_2, x146002_6, false)) = some (r1, r2, r3, r4) := by rw [if_neg (show ¬ (false = true) by decide)] at H; exact H
           clear H
           have H := H1
           clear H1
           simp only [Option.some.injEq, Prod.mk.injEq] at H
           obtain ⟨rfl, rfl, rfl, rfl⟩ := H
           try go_wp2
           have n0_ := Aside0.mk (blk_drew BK143.out)
           have n1_ := Aside0.mk (blk_drew BK145.out)
           have n2_ := Aside0.mk (below_drew1 HB.out)
           clear BK143
           clear BK145
           clear HB
           have BK143 := n0_
           have BK145 := n1_
           have HB := n2_
           clear n0_ n1_ n2_
           refine start_ (n := 15) (S := fun w' => w'.cell? ⟨gb145, 0, none⟩ = some (.string (a0.extract 0 (t144 : Int).toNat)) ∧ w'.cell? ⟨gb145, 1, none⟩ = some (.int .i64 x146001_2) ∧ w'.cell? ⟨gb145, 2, none⟩ = some (.bool x146002_6)) (ds := []) #[false,false,false,false,false,false,false,false,false,false,false,false,false,false,false] (by kernel_rfl) rfl rfl ⟨(blk_cell BK145.out 0).trans rfl, (blk_cell BK145.out 1).trans rfl, (blk_cell BK145.out 2).trans rfl⟩ (fun hHeld => ?_); refine with_tabW phalaroperef06_Is.tab10 phalaroperef06_Is.bits10 (fun HT_ HW_ => ?_)
           generalize wr.drew = w31 at BK143 BK145 HB hHeld ⊢
           refine pure_ (i := 1) (N := some 41) (v := ?_) (a' := ?_) #[false,true,false,false,false,false,false,false,false,false,false,false,false,false,false] rfl rfl (any_of HT_.out (by kernel_rfl)) (fun _ _ _ h => h) (Or.inl ⟨by rfl, ?_⟩) ?_ ?_
           rotate_left
           ·intro w'
            go_simp
            with_reducible rfl
           rotate_left
           ·(simp only [Act.put, List.setIfInBounds_toArray, List.set_cons_zero, List.set_cons_succ, i64_w, i32_w])
            rfl
           refine pure_ (i := 2) (N := some 42) (v := ?_) (a' := ?_) #[false,true,true,false,false,false,false,false,false,false,false,false,false,false,false] rfl rfl (any_of HT_.out (by kernel_rfl)) (fun _ _ _ h => h) (Or.inl ⟨by rfl, ?_⟩) ?_ ?_
           rotate_left
           ·intro w'
            go_simp
            with_reducible rfl
           rotate_left
           ·(simp only [Act.put, List.setIfInBounds_toArray, List.set_cons_zero, List.set_cons_succ, i64_w, i32_w])
            rfl
           refine pure_ (i := 3) (N := some 43) (v := ?_) (a' := ?_) #[false,true,true,true,false,false,false,false,false,false,false,false,false,false,false] rfl rfl (any_of HT_.out (by kernel_rfl)) (fun _ _ _ h => h) (Or.inl ⟨by rfl, ?_⟩) ?_ ?_
           rotate_left
           ·intro w'
            go_simp
            with_reducible rfl
           rotate_left
           ·(simp only [Act.put, List.setIfInBounds_toArray, List.set_cons_zero, List.set_cons_succ, i64_w, i32_w])
            rfl
           refine take_ (i := 0) (N := some 40) (v := ?_) (a' := ?_) #[true,true,true,true,false,false,false,false,false,false,false,false,false,false,false] rfl rfl (take_ofW HT_.out HW_.out (by kernel_rfl)) (fun _ _ _ h => h) (Or.inl ⟨by rfl, ?_⟩) hHeld ?_ ?_
           rotate_left
           ·rintro w' ⟨s0, s1, s2⟩
            go_simp
            with_reducible rfl
           rotate_left
           ·(simp only [Act.put, List.setIfInBounds_toArray, List.set_cons_zero, List.set_cons_succ, i64_w, i32_w])
            rfl
           refine take_ (i := 4) (N := some 44) (v := ?_) (a' := ?_) #[true,true,true,true,true,false,false,false,false,false,false,false,false,false,false] rfl rfl (take_ofW HT_.out HW_.out (by kernel_rfl)) (fun _ _ _ h => h) (Or.inl ⟨by rfl, ?_⟩) hHeld ?_ ?_
           rotate_left
           ·rintro w' ⟨s0, s1, s2⟩
            go_simp
            with_reducible rfl
           rotate_left
           ·(simp only [Act.put, List.setIfInBounds_toArray, List.set_cons_zero, List.set_cons_succ, i64_w, i32_w])
            rfl
           refine one_ (i := 5) (N := some 45) #[true,true,true,true,true,true,false,false,false,false,false,false,false,false,false] rfl rfl (one_of HT_.out (by kernel_rfl)) (by decide) (fun K hK => ?_)
           refine goes_ Tryd.func13 (by kernel_rfl) rfl #[.agg #[.string (a0.extract 0 (t144 : Int).toNat), .int .i64 x146001_2, .bool x146002_6]] (by rfl) rfl rfl (by (try simp only [List.map_toArray, List.map_cons, List.map_nil]); first | done | rfl) ?_
           with_reducible refine (phalaroperef06_May.calls k2 (a0.extract 0 (t144 : Int).toNat) x146001_2 x146002_6 false _ A22.out).mono ?_
           rintro e w32 ⟨rfl, hb⟩
           refine ⟨_, rfl, ?_⟩
           have n0_ := Aside0.mk (blk_below (g := gb143) (o := .cells #[.string (⟨#[]⟩ : ByteArray), .int .i64 0, .bool false] 23 (0, 0)) (by (with_reducible repeat first | apply bN | apply bD | apply bA); exact BK143.out) hb)
           have n1_ := Aside0.mk (blk_below (g := gb145) (o := .cells #[.string (a0.extract 0 (t144 : Int).toNat), .int .i64 x146001_2, .bool x146002_6] 23 (0, 0)) (by (with_reducible repeat first | apply bN | apply bD | apply bA); exact BK145.out) hb)
           have n2_ := Aside0.mk (below_step (by repeat (with_reducible first | exact HB.out | apply lA | apply pw_below_drewN | apply lD | refine below_set ?_ GE143.out | refine below_set ?_ GE145.out)) hb)
           clear BK143
           clear BK145
           clear HB
           have BK143 := n0_
           have BK145 := n1_
           have HB := n2_
           clear n0_ n1_ n2_
           (try clear hb)
           (try clear hb2)
           (try clear hk)
           (try clear hi)
           refine hK.out _ _ ⟨(blk_cell BK145.out 0).trans rfl, (blk_cell BK145.out 1).trans rfl, (blk_cell BK145.out 2).trans rfl⟩ (fun hHeld => ?_)
           clear hK K
           refine norm_ (a' := ?_) ?_ ?_
           rotate_left
           ·show Act.put _ (some 45) _ = _
            (simp only [Act.put, List.setIfInBounds_toArray, List.set_cons_zero, List.set_cons_succ, i64_w, i32_w])
            rfl
           refine pure_ (i := 6) (N := some 46) (v := ?_) (a' := ?_) #[true,true,true,true,true,true,true,false,false,false,false,false,false,false,false] rfl rfl (any_of HT_.out (by kernel_rfl)) (fun _ _ _ h => h) (Or.inl ⟨by rfl, ?_⟩) ?_ ?_
           rotate_left
           ·intro w'
            go_simp
            with_reducible rfl
           rotate_left
           ·(simp only [Act.put, List.setIfInBounds_toArray, List.set_cons_zero, List.set_cons_succ, i64_w, i32_w])
            rfl
           refine pure_ (i := 7) (N := some 47) (v := ?_) (a' := ?_) #[true,true,true,true,true,true,true,true,false,false,false,false,false,false,false] rfl rfl (any_of HT_.out (by kernel_rfl)) (fun _ _ _ h => h) (Or.inl ⟨by rfl, ?_⟩) ?_ ?_
           rotate_left
           ·intro w'
            go_simp
            with_reducible rfl
           rotate_left
           ·(simp only [Act.put, List.setIfInBounds_toArray, List.set_cons_zero, List.set_cons_succ, i64_w, i32_w])
            rfl
           refine pure_ (i := 8) (N := some 48) (v := undef) (a' := ?_) #[true,true,true,true,true,true,true,true,true,false,false,false,false,false,false] rfl rfl (any_of HT_.out (by kernel_rfl)) (fun _ _ _ h => h) (Or.inr ⟨by rfl, rfl⟩) ?_ ?_
           rotate_left
           ·(simp only [Act.put, List.setIfInBounds_toArray, List.set_cons_zero, List.set_cons_succ, i64_w, i32_w])
            rfl
           refine pure_ (i := 9) (N := some 49) (v := undef) (a' := ?_) #[true,true,true,true,true,true,true,true,true,true,false,false,false,false,false] rfl rfl (any_of HT_.out (by kernel_rfl)) (fun _ _ _ h => h) (Or.inr ⟨by rfl, rfl⟩) ?_ ?_
           rotate_left
           ·(simp only [Act.put, List.setIfInBounds_toArray, List.set_cons_zero, List.set_cons_succ, i64_w, i32_w])
            rfl
           refine pure_ (i := 10) (N := some 50) (v := undef) (a' := ?_) #[true,true,true,true,true,true,true,true,true,true,true,false,false,false,false] rfl rfl (any_of HT_.out (by kernel_rfl)) (fun _ _ _ h => h) (Or.inr ⟨by rfl, rfl⟩) ?_ ?_
           rotate_left
           ·(simp only [Act.put, List.setIfInBounds_toArray, List.set_cons_zero, List.set_cons_succ, i64_w, i32_w])
            rfl
           refine pure_ (i := 11) (N := some 51) (v := undef) (a' := ?_) #[true,true,true,true,true,true,true,true,true,true,true,true,false,false,false] rfl rfl (any_of HT_.out (by kernel_rfl)) (fun _ _ _ h => h) (Or.inr ⟨by rfl, rfl⟩) ?_ ?_
           rotate_left
           ·(simp only [Act.put, List.setIfInBounds_toArray, List.set_cons_zero, List.set_cons_succ, i64_w, i32_w])
            rfl
           refine pure_ (i := 12) (N := some 52) (v := ?_) (a' := ?_) #[true,true,true,true,true,true,true,true,true,true,true,true,true,false,false] rfl rfl (any_of HT_.out (by kernel_rfl)) (fun _ _ _ h => h) (Or.inl ⟨by rfl, ?_⟩) ?_ ?_
           rotate_left
           ·intro w'
            go_simp
            with_reducible rfl
           rotate_left
           ·(simp only [Act.put, List.setIfInBounds_toArray, List.set_cons_zero, List.set_cons_succ, i64_w, i32_w])
            rfl
           refine one_ (i := 13) (N := none) #[true,true,true,true,true,true,true,true,true,true,true,true,true,true,false] rfl rfl (one_of HT_.out (by kernel_rfl)) (by decide) (fun K hK => ?_)
           have hs33 : w32.cell? ⟨gb143, 0, none⟩ = some (.string (⟨#[]⟩ : ByteArray)) := (blk_cell BK143.out 0).trans rfl
           have hfs33 := blk_frozen BK143.out 0
           have hns33_1 := NB145_143.out
           have hms33_1 := NB143_145.out
           have hs34 : w32.cell? ⟨gb143, 1, none⟩ = some (.int .i64 0) := (blk_cell BK143.out 1).trans rfl
           have hfs34 := blk_frozen BK143.out 1
           have hns34_1 := NB145_143.out
           have hms34_1 := NB143_145.out
           have hs35 : w32.cell? ⟨gb143, 2, none⟩ = some (.bool false) := (blk_cell BK143.out 2).trans rfl
           have hfs35 := blk_frozen BK143.out 2
           have hns35_1 := NB145_143.out
           have hms35_1 := NB143_145.out
           refine skip_ (w1 := ?_) (by rfl) rfl ?_ ?_
           rotate_left
           ·go_simp
            rfl
           refine hK.out _ _ ⟨((cell_far (p := ⟨gb143, _, none⟩) NB145_143.out _).trans (((cell_far (p := ⟨gb143, _, none⟩) NB145_143.out _).trans (((cell_far (p := ⟨gb143, _, none⟩) NB145_143.out _).trans (hHeld.1)))))), ((cell_far (p := ⟨gb143, _, none⟩) NB145_143.out _).trans (((cell_far (p := ⟨gb143, _, none⟩) NB145_143.out _).trans (((cell_far (p := ⟨gb143, _, none⟩) NB145_143.out _).trans (hHeld.2.1)))))), ((cell_far (p := ⟨gb143, _, none⟩) NB145_143.out _).trans (((cell_far (p := ⟨gb143, _, none⟩) NB145_143.out _).trans (((cell_far (p := ⟨gb143, _, none⟩) NB145_143.out _).trans (hHeld.2.2))))))⟩ (fun hHeld => ?_)
           clear hK K
           refine pure_ (i := 14) (N := some 3) (v := ?_) (a' := ?_) #[true,true,true,true,true,true,true,true,true,true,true,true,true,true,true] rfl rfl (any_of HT_.out (by kernel_rfl)) (fun _ _ _ h => h) (Or.inl ⟨by rfl, ?_⟩) ?_ ?_
           rotate_left
           ·intro w'
            go_simp
            with_reducible rfl
           rotate_left
           ·(simp only [Act.put, List.setIfInBounds_toArray, List.set_cons_zero, List.set_cons_succ, i64_w, i32_w])
            rfl
           refine done_ (done_of HT_.out (by kernel_rfl)) ?_
           try go_wp2
           refine bodyPost_ret (results_ct rfl _ _ gb143 23 #[.string (a0.extract 0 (t144 : Int).toNat), .int .i64 x146001_2, .bool x146002_6] (0, 0) _ rfl (by (with_reducible repeat first | apply bN | apply bD | apply bA); refine blk_put (cs := #[.string (a0.extract 0 (t144 : Int).toNat), .int .i64 x146001_2, .bool false]) ?_ 2 _ rfl; (with_reducible repeat first | apply bN | apply bD | apply bA); refine blk_put (cs := #[.string (a0.extract 0 (t144 : Int).toNat), .int .i64 0, .bool false]) ?_ 1 _ rfl; (with_reducible repeat first | apply bN | apply bD | apply bA); refine blk_put (cs := #[.string (⟨#[]⟩ : ByteArray), .int .i64 0, .bool false]) ?_ 0 _ rfl; (with_reducible repeat first | apply bN | apply bD | apply bA); exact BK143.out) Tryd.underlying23 rfl (by kernel_rfl)) rfl ?_
           exact ⟨by first | rfl | (simp [errW_none, errW_some] <;> rfl) | (simp [*, errW_none, errW_some] <;> rfl), by repeat (with_reducible first | exact HB.out | apply lA | apply pw_below_drewN | apply lD | refine below_set ?_ GE143.out | refine below_set ?_ GE145.out)⟩
         ·rw [if_neg c21] at H
          have c21b0 : decide (0 < t144) = false := decide_eq_false c21
          clear c21
          simp only [Option.some.injEq, Prod.mk.injEq] at H
          obtain ⟨rfl, rfl, rfl, rfl⟩ := H
          try go_wp2
          have n0_ := Aside0.mk (blk_drew BK143.out)
          have n1_ := Aside0.mk (blk_drew BK145.out)
          have n2_ := Aside0.mk (below_drew1 HB.out)
          clear BK143
          clear BK145
          clear HB
          have BK143 := n0_
          have BK145 := n1_
          have HB := n2_
          clear n0_ n1_ n2_
          refine start_ (n := 15) (S := fun w' => w'.cell? ⟨gb145, 0, none⟩ = some (.string (a0.extract 0 (t144 : Int).toNat)) ∧ w'.cell? ⟨gb145, 1, none⟩ = some (.int .i64 x146001_2) ∧ w'.cell? ⟨gb145, 2, none⟩ = some (.bool x146002_6)) (ds := []) #[false,false,false,false,false,false,false,false,false,false,false,false,false,false,false] (by kernel_rfl) rfl rfl ⟨(blk_cell BK145.out 0).trans rfl, (blk_cell BK145.out 1).trans rfl, (blk_cell BK145.out 2).trans rfl⟩ (fun hHeld => ?_); refine with_tabW phalaroperef06_Is.tab10 phalaroperef06_Is.bits10 (fun HT_ HW_ => ?_)
          generalize wr.drew = w36 at BK143 BK145 HB hHeld ⊢
          refine pure_ (i := 1) (N := some 41) (v := ?_) (a' := ?_) #[false,true,false,false,false,false,false,false,false,false,false,false,false,false,false] rfl rfl (any_of HT_.out (by kernel_rfl)) (fun _ _ _ h => h) (Or.inl ⟨by rfl, ?_⟩) ?_ ?_
          rotate_left
          ·intro w'
           go_simp
           with_reducible rfl
          rotate_left
          ·(simp only [Act.put, List.setIfInBounds_toArray, List.set_cons_zero, List.set_cons_succ, i64_w, i32_w])
           rfl
          refine pure_ (i := 2) (N := some 42) (v := ?_) (a' := ?_) #[false,true,true,false,false,false,false,false,false,false,false,false,false,false,false] rfl rfl (any_of HT_.out (by kernel_rfl)) (fun _ _ _ h => h) (Or.inl ⟨by rfl, ?_⟩) ?_ ?_
          rotate_left
          ·intro w'
           go_simp
           with_reducible rfl
          rotate_left
          ·(simp only [Act.put, List.setIfInBounds_toArray, List.set_cons_zero, List.set_cons_succ, i64_w, i32_w])
           rfl
          refine pure_ (i := 3) (N := some 43) (v := ?_) (a' := ?_) #[false,true,true,true,false,false,false,false,false,false,false,false,false,false,false] rfl rfl (any_of HT_.out (by kernel_rfl)) (fun _ _ _ h => h) (Or.inl ⟨by rfl, ?_⟩) ?_ ?_
          rotate_left
          ·intro w'
           go_simp
           with_reducible rfl
          rotate_left
          ·(simp only [Act.put, List.setIfInBounds_toArray, List.set_cons_zero, List.set_cons_succ, i64_w, i32_w])
           rfl
          refine pure_ (i := 4) (N := some 44) (v := undef) (a' := ?_) #[false,true,true,true,true,false,false,false,false,false,false,false,false,false,false] rfl rfl (any_of HT_.out (by kernel_rfl)) (fun _ _ _ h => h) (Or.inr ⟨by rfl, rfl⟩) ?_ ?_
          rotate_left
          ·(simp only [Act.put, List.setIfInBounds_toArray, List.set_cons_zero, List.set_cons_succ, i64_w, i32_w])
           rfl
          refine pure_ (i := 5) (N := some 45) (v := undef) (a' := ?_) #[false,true,true,true,true,true,false,false,false,false,false,false,false,false,false] rfl rfl (any_of HT_.out (by kernel_rfl)) (fun _ _ _ h => h) (Or.inr ⟨by rfl, rfl⟩) ?_ ?_
          rotate_left
          ·(simp only [Act.put, List.setIfInBounds_toArray, List.set_cons_zero, List.set_cons_succ, i64_w, i32_w])
           rfl
          refine pure_ (i := 6) (N := some 46) (v := ?_) (a' := ?_) #[false,true,true,true,true,true,true,false,false,false,false,false,false,false,false] rfl rfl (any_of HT_.out (by kernel_rfl)) (fun _ _ _ h => h) (Or.inl ⟨by rfl, ?_⟩) ?_ ?_
          rotate_left
          ·intro w'
           go_simp
           with_reducible rfl
          rotate_left
          ·(simp only [Act.put, List.setIfInBounds_toArray, List.set_cons_zero, List.set_cons_succ, i64_w, i32_w])
           rfl
          refine pure_ (i := 7) (N := some 47) (v := ?_) (a' := ?_) #[false,true,true,true,true,true,true,true,false,false,false,false,false,false,false] rfl rfl (any_of HT_.out (by kernel_rfl)) (fun _ _ _ h => h) (Or.inl ⟨by rfl, ?_⟩) ?_ ?_
          rotate_left
          ·intro w'
           go_simp
           with_reducible rfl
          rotate_left
          ·(simp only [Act.put, List.setIfInBounds_toArray, List.set_cons_zero, List.set_cons_succ, i64_w, i32_w])
           rfl
          refine pure_ (i := 8) (N := some 48) (v := undef) (a' := ?_) #[false,true,true,true,true,true,true,true,true,false,false,false,false,false,false] rfl rfl (any_of HT_.out (by kernel_rfl)) (fun _ _ _ h => h) (Or.inr ⟨by rfl, rfl⟩) ?_ ?_
          rotate_left
          ·(simp only [Act.put, List.setIfInBounds_toArray, List.set_cons_zero, List.set_cons_succ, i64_w, i32_w])
           rfl
          refine pure_ (i := 9) (N := some 49) (v := undef) (a' := ?_) #[false,true,true,true,true,true,true,true,true,true,false,false,false,false,false] rfl rfl (any_of HT_.out (by kernel_rfl)) (fun _ _ _ h => h) (Or.inr ⟨by rfl, rfl⟩) ?_ ?_
          rotate_left
          ·(simp only [Act.put, List.setIfInBounds_toArray, List.set_cons_zero, List.set_cons_succ, i64_w, i32_w])
           rfl
          refine pure_ (i := 10) (N := some 50) (v := undef) (a' := ?_) #[false,true,true,true,true,true,true,true,true,true,true,false,false,false,false] rfl rfl (any_of HT_.out (by kernel_rfl)) (fun _ _ _ h => h) (Or.inr ⟨by rfl, rfl⟩) ?_ ?_
          rotate_left
          ·(simp only [Act.put, List.setIfInBounds_toArray, List.set_cons_zero, List.set_cons_succ, i64_w, i32_w])
           rfl
          refine pure_ (i := 11) (N := some 51) (v := undef) (a' := ?_) #[false,true,true,true,true,true,true,true,true,true,true,true,false,false,false] rfl rfl (any_of HT_.out (by kernel_rfl)) (fun _ _ _ h => h) (Or.inr ⟨by rfl, rfl⟩) ?_ ?_
          rotate_left
          ·(simp only [Act.put, List.setIfInBounds_toArray, List.set_cons_zero, List.set_cons_succ, i64_w, i32_w])
           rfl
          refine pure_ (i := 12) (N := some 52) (v := ?_) (a' := ?_) #[false,true,true,true,true,true,true,true,true,true,true,true,true,false,false] rfl rfl (any_of HT_.out (by kernel_rfl)) (fun _ _ _ h => h) (Or.inl ⟨by rfl, ?_⟩) ?_ ?_
          rotate_left
          ·intro w'
           go_simp
           with_reducible rfl
          rotate_left
          ·(simp only [Act.put, List.setIfInBounds_toArray, List.set_cons_zero, List.set_cons_succ, i64_w, i32_w])
           rfl
          refine take_ (i := 0) (N := some 40) (v := ?_) (a' := ?_) #[true,true,true,true,true,true,true,true,true,true,true,true,true,false,false] rfl rfl (take_ofW HT_.out HW_.out (by kernel_rfl)) (fun _ _ _ h => h) (Or.inl ⟨by rfl, ?_⟩) hHeld ?_ ?_
          rotate_left
          ·rintro w' ⟨s0, s1, s2⟩
           go_simp
           with_reducible rfl
          rotate_left
          ·(simp only [Act.put, List.setIfInBounds_toArray, List.set_cons_zero, List.set_cons_succ, i64_w, i32_w])
           rfl
          refine one_ (i := 13) (N := none) #[true,true,true,true,true,true,true,true,true,true,true,true,true,true,false] rfl rfl (one_of HT_.out (by kernel_rfl)) (by decide) (fun K hK => ?_)
          have hs37 : w36.cell? ⟨gb143, 0, none⟩ = some (.string (⟨#[]⟩ : ByteArray)) := (blk_cell BK143.out 0).trans rfl
          have hfs37 := blk_frozen BK143.out 0
          have hns37_1 := NB145_143.out
          have hms37_1 := NB143_145.out
          have hs38 : w36.cell? ⟨gb143, 1, none⟩ = some (.int .i64 0) := (blk_cell BK143.out 1).trans rfl
          have hfs38 := blk_frozen BK143.out 1
          have hns38_1 := NB145_143.out
          have hms38_1 := NB143_145.out
          have hs39 : w36.cell? ⟨gb143, 2, none⟩ = some (.bool false) := (blk_cell BK143.out 2).trans rfl
          have hfs39 := blk_frozen BK143.out 2
          have hns39_1 := NB145_143.out
          have hms39_1 := NB143_145.out
          refine skip_ (w1 := ?_) (by rfl) rfl ?_ ?_
          rotate_left
          ·go_simp
           rfl
          refine hK.out _ _ ⟨((cell_far (p := ⟨gb143, _, none⟩) NB145_143.out _).trans (((cell_far (p := ⟨gb143, _, none⟩) NB145_143.out _).trans (((cell_far (p := ⟨gb143, _, none⟩) NB145_143.out _).trans (hHeld.1)))))), ((cell_far (p := ⟨gb143, _, none⟩) NB145_143.out _).trans (((cell_far (p := ⟨gb143, _, none⟩) NB145_143.out _).trans (((cell_far (p := ⟨gb143, _, none⟩) NB145_143.out _).trans (hHeld.2.1)))))), ((cell_far (p := ⟨gb143, _, none⟩) NB145_143.out _).trans (((cell_far (p := ⟨gb143, _, none⟩) NB145_143.out _).trans (((cell_far (p := ⟨gb143, _, none⟩) NB145_143.out _).trans (hHeld.2.2))))))⟩ (fun hHeld => ?_)
          clear hK K
          refine pure_ (i := 14) (N := some 3) (v := ?_) (a' := ?_) #[true,true,true,true,true,true,true,true,true,true,true,true,true,true,true] rfl rfl (any_of HT_.out (by kernel_rfl)) (fun _ _ _ h => h) (Or.inl ⟨by rfl, ?_⟩) ?_ ?_
          rotate_left
          ·intro w'
           go_simp
           with_reducible rfl
          rotate_left
          ·(simp only [Act.put, List.setIfInBounds_toArray, List.set_cons_zero, List.set_cons_succ, i64_w, i32_w])
           rfl
          refine done_ (done_of HT_.out (by kernel_rfl)) ?_
          try go_wp2
          refine bodyPost_ret (results_ct rfl _ _ gb143 23 #[.string (a0.extract 0 (t144 : Int).toNat), .int .i64 x146001_2, .bool x146002_6] (0, 0) _ rfl (by (with_reducible repeat first | apply bN | apply bD | apply bA); refine blk_put (cs := #[.string (a0.extract 0 (t144 : Int).toNat), .int .i64 x146001_2, .bool false]) ?_ 2 _ rfl; (with_reducible repeat first | apply bN | apply bD | apply bA); refine blk_put (cs := #[.string (a0.extract 0 (t144 : Int).toNat), .int .i64 0, .bool false]) ?_ 1 _ rfl; (with_reducible repeat first | apply bN | apply bD | apply bA); refine blk_put (cs := #[.string (⟨#[]⟩ : ByteArray), .int .i64 0, .bool false]) ?_ 0 _ rfl; (with_reducible repeat first | apply bN | apply bD | apply bA); exact BK143.out) Tryd.underlying23 rfl (by kernel_rfl)) rfl ?_
          exact ⟨by first | rfl | (simp [errW_none, errW_some] <;> rfl) | (simp [*, errW_none, errW_some] <;> rfl), by repeat (with_reducible first | exact HB.out | apply lA | apply pw_below_drewN | apply lD | refine below_set ?_ GE143.out | refine below_set ?_ GE145.out)⟩
       ·rw [if_neg c15] at H
        have c15b0 : decide (x7_2 < ((a0.extract (t144 : Int).toNat a0.size).size : Int)) = false := decide_eq_false c15
        have c15b3 : decide (x7_2 < ((a0.size - (t144 : Int).toNat : Nat) : Int)) = false := by rw [ByteArray.size_extract, Nat.min_self] at c15b0; exact c15b0
        have c15b4 : (x7_2 < ((a0.size - (t144 : Int).toNat : Nat) : Int)) = False := eq_false (of_decide_eq_false c15b3)
        clear c15
        by_cases c40 : t144 > 0
        ·rw [if_pos c40] at H
         have c40b0 : decide (0 < t144) = true := decide_eq_true c40
         clear c40
         replace H := Option.bind_eq_some_iff.mp H
         obtain ⟨t148, A410, H⟩ := H
         replace H : (if t148 = true then ((phalaroperef06_Put.f k2 (a0.extract 0 (t144 : Int).toNat) x146001_2 x146002_6).bind fun t149 => (some ((a0.extract 0 (t144 : Int).toNat), x146001_2, x146002_6, (t149.toList == a0.toList)))) else (some ((a0.extract 0 (t144 : Int).toNat), x146001_2, x146002_6, false))) = some (r1, r2, r3, r4) := H
         have A41 := Aside0.mk A410
         clear A410
         by_cases c42 : t148 = true
         ·subst c42
          have H1 : ((phalaroperef06_Put.f k2 (a0.extract 0 (t144 : Int).toNat) x146001_2 x146002_6).bind fun t149 => (some ((a0.extract 0 (t144 : Int).toNat), x146001_2, x146002_6, (t149.toList == a0.toList)))) = some (r1, r2, r3, r4) := by rw [if_pos rfl] at H; exact H
          clear H
          have H := H1
          clear H1
          replace H := Option.bind_eq_some_iff.mp H
          obtain ⟨t149, A430, H⟩ := H
          replace H : (some ((a0.extract 0 (t144 : Int).toNat), x146001_2, x146002_6, (t149.toList == a0.toList))) = some (r1, r2, r3, r4) := H
          have A43 := Aside0.mk A430
          clear A430
          simp only [Option.some.injEq, Prod.mk.injEq] at H
          obtain ⟨rfl, rfl, rfl, rfl⟩ := H
          try go_wp2
          have n0_ := Aside0.mk (blk_drew BK143.out)
          have n1_ := Aside0.mk (blk_drew BK145.out)
          have n2_ := Aside0.mk (below_drew1 HB.out)
          clear BK143
          clear BK145
          clear HB
          have BK143 := n0_
          have BK145 := n1_
          have HB := n2_
          clear n0_ n1_ n2_
          refine start_ (n := 15) (S := fun w' => w'.cell? ⟨gb145, 0, none⟩ = some (.string (a0.extract 0 (t144 : Int).toNat)) ∧ w'.cell? ⟨gb145, 1, none⟩ = some (.int .i64 x146001_2) ∧ w'.cell? ⟨gb145, 2, none⟩ = some (.bool x146002_6)) (ds := []) #[false,false,false,false,false,false,false,false,false,false,false,false,false,false,false] (by kernel_rfl) rfl rfl ⟨(blk_cell BK145.out 0).trans rfl, (blk_cell BK145.out 1).trans rfl, (blk_cell BK145.out 2).trans rfl⟩ (fun hHeld => ?_); refine with_tabW phalaroperef06_Is.tab10 phalaroperef06_Is.bits10 (fun HT_ HW_ => ?_)
          generalize wr.drew = w44 at BK143 BK145 HB hHeld ⊢
          refine pure_ (i := 1) (N := some 41) (v := ?_) (a' := ?_) #[false,true,false,false,false,false,false,false,false,false,false,false,false,false,false] rfl rfl (any_of HT_.out (by kernel_rfl)) (fun _ _ _ h => h) (Or.inl ⟨by rfl, ?_⟩) ?_ ?_
          rotate_left
          ·intro w'
           go_simp
           with_reducible rfl
          rotate_left
          ·(simp only [Act.put, List.setIfInBounds_toArray, List.set_cons_zero, List.set_cons_succ, i64_w, i32_w])
           rfl
          refine pure_ (i := 2) (N := some 42) (v := ?_) (a' := ?_) #[false,true,true,false,false,false,false,false,false,false,false,false,false,false,false] rfl rfl (any_of HT_.out (by kernel_rfl)) (fun _ _ _ h => h) (Or.inl ⟨by rfl, ?_⟩) ?_ ?_
          rotate_left
          ·intro w'
           go_simp
           with_reducible rfl
          rotate_left
          ·(simp only [Act.put, List.setIfInBounds_toArray, List.set_cons_zero, List.set_cons_succ, i64_w, i32_w])
           rfl
          refine pure_ (i := 3) (N := some 43) (v := ?_) (a' := ?_) #[false,true,true,true,false,false,false,false,false,false,false,false,false,false,false] rfl rfl (any_of HT_.out (by kernel_rfl)) (fun _ _ _ h => h) (Or.inl ⟨by rfl, ?_⟩) ?_ ?_
          rotate_left
          ·intro w'
           go_simp
           with_reducible rfl
          rotate_left
          ·(simp only [Act.put, List.setIfInBounds_toArray, List.set_cons_zero, List.set_cons_succ, i64_w, i32_w])
           rfl
          refine take_ (i := 0) (N := some 40) (v := ?_) (a' := ?_) #[true,true,true,true,false,false,false,false,false,false,false,false,false,false,false] rfl rfl (take_ofW HT_.out HW_.out (by kernel_rfl)) (fun _ _ _ h => h) (Or.inl ⟨by rfl, ?_⟩) hHeld ?_ ?_
          rotate_left
          ·rintro w' ⟨s0, s1, s2⟩
           go_simp
           with_reducible rfl
          rotate_left
          ·(simp only [Act.put, List.setIfInBounds_toArray, List.set_cons_zero, List.set_cons_succ, i64_w, i32_w])
           rfl
          refine take_ (i := 4) (N := some 44) (v := ?_) (a' := ?_) #[true,true,true,true,true,false,false,false,false,false,false,false,false,false,false] rfl rfl (take_ofW HT_.out HW_.out (by kernel_rfl)) (fun _ _ _ h => h) (Or.inl ⟨by rfl, ?_⟩) hHeld ?_ ?_
          rotate_left
          ·rintro w' ⟨s0, s1, s2⟩
           go_simp
           with_reducible rfl
          rotate_left
          ·(simp only [Act.put, List.setIfInBounds_toArray, List.set_cons_zero, List.set_cons_succ, i64_w, i32_w])
           rfl
          refine one_ (i := 5) (N := some 45) #[true,true,true,true,true,true,false,false,false,false,false,false,false,false,false] rfl rfl (one_of HT_.out (by kernel_rfl)) (by decide) (fun K hK => ?_)
          refine goes_ Tryd.func13 (by kernel_rfl) rfl #[.agg #[.string (a0.extract 0 (t144 : Int).toNat), .int .i64 x146001_2, .bool x146002_6]] (by rfl) rfl rfl (by (try simp only [List.map_toArray, List.map_cons, List.map_nil]); first | done | rfl) ?_
          with_reducible refine (phalaroperef06_May.calls k2 (a0.extract 0 (t144 : Int).toNat) x146001_2 x146002_6 true _ A41.out).mono ?_
          rintro e w45 ⟨rfl, hb⟩
          refine ⟨_, rfl, ?_⟩
          have n0_ := Aside0.mk (blk_below (g := gb143) (o := .cells #[.string (⟨#[]⟩ : ByteArray), .int .i64 0, .bool false] 23 (0, 0)) (by (with_reducible repeat first | apply bN | apply bD | apply bA); exact BK143.out) hb)
          have n1_ := Aside0.mk (blk_below (g := gb145) (o := .cells #[.string (a0.extract 0 (t144 : Int).toNat), .int .i64 x146001_2, .bool x146002_6] 23 (0, 0)) (by (with_reducible repeat first | apply bN | apply bD | apply bA); exact BK145.out) hb)
          have n2_ := Aside0.mk (below_step (by repeat (with_reducible first | exact HB.out | apply lA | apply pw_below_drewN | apply lD | refine below_set ?_ GE143.out | refine below_set ?_ GE145.out)) hb)
          clear BK143
          clear BK145
          clear HB
          have BK143 := n0_
          have BK145 := n1_
          have HB := n2_
          clear n0_ n1_ n2_
          (try clear hb)
          (try clear hb2)
          (try clear hk)
          (try clear hi)
          refine hK.out _ _ ⟨(blk_cell BK145.out 0).trans rfl, (blk_cell BK145.out 1).trans rfl, (blk_cell BK145.out 2).trans rfl⟩ (fun hHeld => ?_)
          clear hK K
          refine norm_ (a' := ?_) ?_ ?_
          rotate_left
          ·show Act.put _ (some 45) _ = _
           (simp only [Act.put, List.setIfInBounds_toArray, List.set_cons_zero, List.set_cons_succ, i64_w, i32_w])
           rfl
          refine pure_ (i := 6) (N := some 46) (v := ?_) (a' := ?_) #[true,true,true,true,true,true,true,false,false,false,false,false,false,false,false] rfl rfl (any_of HT_.out (by kernel_rfl)) (fun _ _ _ h => h) (Or.inl ⟨by rfl, ?_⟩) ?_ ?_
          rotate_left
          ·intro w'
           go_simp
           with_reducible rfl
          rotate_left
          ·(simp only [Act.put, List.setIfInBounds_toArray, List.set_cons_zero, List.set_cons_succ, i64_w, i32_w])
           rfl
          refine pure_ (i := 7) (N := some 47) (v := ?_) (a' := ?_) #[true,true,true,true,true,true,true,true,false,false,false,false,false,false,false] rfl rfl (any_of HT_.out (by kernel_rfl)) (fun _ _ _ h => h) (Or.inl ⟨by rfl, ?_⟩) ?_ ?_
          rotate_left
          ·intro w'
           go_simp
           with_reducible rfl
          rotate_left
          ·(simp only [Act.put, List.setIfInBounds_toArray, List.set_cons_zero, List.set_cons_succ, i64_w, i32_w])
           rfl
          refine pure_ (i := 10) (N := some 50) (v := ?_) (a' := ?_) #[true,true,true,true,true,true,true,true,false,false,true,false,false,false,false] rfl rfl (any_of HT_.out (by kernel_rfl)) (fun _ _ _ h => h) (Or.inl ⟨by rfl, ?_⟩) ?_ ?_
          rotate_left
          ·intro w'
           go_simp
           with_reducible rfl
          rotate_left
          ·(simp only [Act.put, List.setIfInBounds_toArray, List.set_cons_zero, List.set_cons_succ, i64_w, i32_w])
           rfl
          refine take_ (i := 8) (N := some 48) (v := ?_) (a' := ?_) #[true,true,true,true,true,true,true,true,true,false,true,false,false,false,false] rfl rfl (take_ofW HT_.out HW_.out (by kernel_rfl)) (fun _ _ _ h => h) (Or.inl ⟨by rfl, ?_⟩) hHeld ?_ ?_
          rotate_left
          ·rintro w' ⟨s0, s1, s2⟩
           go_simp
           with_reducible rfl
          rotate_left
          ·(simp only [Act.put, List.setIfInBounds_toArray, List.set_cons_zero, List.set_cons_succ, i64_w, i32_w])
           rfl
          refine one_ (i := 9) (N := some 49) #[true,true,true,true,true,true,true,true,true,true,true,false,false,false,false] rfl rfl (one_of HT_.out (by kernel_rfl)) (by decide) (fun K hK => ?_)
          refine goes_ Tryd.func15 (by kernel_rfl) rfl #[.agg #[.string (a0.extract 0 (t144 : Int).toNat), .int .i64 x146001_2, .bool x146002_6]] (by rfl) rfl rfl (by (try simp only [List.map_toArray, List.map_cons, List.map_nil]); first | done | rfl) ?_
          with_reducible refine (phalaroperef06_Put.calls k2 (a0.extract 0 (t144 : Int).toNat) x146001_2 x146002_6 t149 _ A43.out).mono ?_
          rintro e w46 ⟨rfl, hb⟩
          refine ⟨_, rfl, ?_⟩
          have n0_ := Aside0.mk (blk_below (g := gb143) (o := .cells #[.string (⟨#[]⟩ : ByteArray), .int .i64 0, .bool false] 23 (0, 0)) (by (with_reducible repeat first | apply bN | apply bD | apply bA); exact BK143.out) hb)
          have n1_ := Aside0.mk (blk_below (g := gb145) (o := .cells #[.string (a0.extract 0 (t144 : Int).toNat), .int .i64 x146001_2, .bool x146002_6] 23 (0, 0)) (by (with_reducible repeat first | apply bN | apply bD | apply bA); exact BK145.out) hb)
          have n2_ := Aside0.mk (below_step (by repeat (with_reducible first | exact HB.out | apply lA | apply pw_below_drewN | apply lD | refine below_set ?_ GE143.out | refine below_set ?_ GE145.out)) hb)
          clear BK143
          clear BK145
          clear HB
          have BK143 := n0_
          have BK145 := n1_
          have HB := n2_
          clear n0_ n1_ n2_
          (try clear hb)
          (try clear hb2)
          (try clear hk)
          (try clear hi)
          refine hK.out _ _ ⟨(blk_cell BK145.out 0).trans rfl, (blk_cell BK145.out 1).trans rfl, (blk_cell BK145.out 2).trans rfl⟩ (fun hHeld => ?_)
          clear hK K
          refine norm_ (a' := ?_) ?_ ?_
          rotate_left
          ·show Act.put _ (some 49) _ = _
           (simp only [Act.put, List.setIfInBounds_toArray, List.set_cons_zero, List.set_cons_succ, i64_w, i32_w])
           rfl
          refine pure_ (i := 11) (N := some 51) (v := ?_) (a' := ?_) #[true,true,true,true,true,true,true,true,true,true,true,true,false,false,false] rfl rfl (any_of HT_.out (by kernel_rfl)) (fun _ _ _ h => h) (Or.inl ⟨by rfl, ?_⟩) ?_ ?_
          rotate_left
          ·intro w'
           go_simp
           with_reducible rfl
          rotate_left
          ·(simp only [Act.put, List.setIfInBounds_toArray, List.set_cons_zero, List.set_cons_succ, i64_w, i32_w])
           rfl
          refine pure_ (i := 12) (N := some 52) (v := ?_) (a' := ?_) #[true,true,true,true,true,true,true,true,true,true,true,true,true,false,false] rfl rfl (any_of HT_.out (by kernel_rfl)) (fun _ _ _ h => h) (Or.inl ⟨by rfl, ?_⟩) ?_ ?_
          rotate_left
          ·intro w'
           go_simp
           with_reducible rfl
          rotate_left
          ·(simp only [Act.put, List.setIfInBounds_toArray, List.set_cons_zero, List.set_cons_succ, i64_w, i32_w])
           rfl
          refine one_ (i := 13) (N := none) #[true,true,true,true,true,true,true,true,true,true,true,true,true,true,false] rfl rfl (one_of HT_.out (by kernel_rfl)) (by decide) (fun K hK => ?_)
          have hs47 : w46.cell? ⟨gb143, 0, none⟩ = some (.string (⟨#[]⟩ : ByteArray)) := (blk_cell BK143.out 0).trans rfl
          have hfs47 := blk_frozen BK143.out 0
          have hns47_1 := NB145_143.out
          have hms47_1 := NB143_145.out
          have hs48 : w46.cell? ⟨gb143, 1, none⟩ = some (.int .i64 0) := (blk_cell BK143.out 1).trans rfl
          have hfs48 := blk_frozen BK143.out 1
          have hns48_1 := NB145_143.out
          have hms48_1 := NB143_145.out
          have hs49 : w46.cell? ⟨gb143, 2, none⟩ = some (.bool false) := (blk_cell BK143.out 2).trans rfl
          have hfs49 := blk_frozen BK143.out 2
          have hns49_1 := NB145_143.out
          have hms49_1 := NB143_145.out
          refine skip_ (w1 := ?_) (by rfl) rfl ?_ ?_
          rotate_left
          ·go_simp
           rfl
          refine hK.out _ _ ⟨((cell_far (p := ⟨gb143, _, none⟩) NB145_143.out _).trans (((cell_far (p := ⟨gb143, _, none⟩) NB145_143.out _).trans (((cell_far (p := ⟨gb143, _, none⟩) NB145_143.out _).trans (hHeld.1)))))), ((cell_far (p := ⟨gb143, _, none⟩) NB145_143.out _).trans (((cell_far (p := ⟨gb143, _, none⟩) NB145_143.out _).trans (((cell_far (p := ⟨gb143, _, none⟩) NB145_143.out _).trans (hHeld.2.1)))))), ((cell_far (p := ⟨gb143, _, none⟩) NB145_143.out _).trans (((cell_far (p := ⟨gb143, _, none⟩) NB145_143.out _).trans (((cell_far (p := ⟨gb143, _, none⟩) NB145_143.out _).trans (hHeld.2.2))))))⟩ (fun hHeld => ?_)
          clear hK K
          refine pure_ (i := 14) (N := some 3) (v := ?_) (a' := ?_) #[true,true,true,true,true,true,true,true,true,true,true,true,true,true,true] rfl rfl (any_of HT_.out (by kernel_rfl)) (fun _ _ _ h => h) (Or.inl ⟨by rfl, ?_⟩) ?_ ?_
          rotate_left
          ·intro w'
           go_simp
           with_reducible rfl
          rotate_left
          ·(simp only [Act.put, List.setIfInBounds_toArray, List.set_cons_zero, List.set_cons_succ, i64_w, i32_w])
           rfl
          refine done_ (done_of HT_.out (by kernel_rfl)) ?_
          try go_wp2
          refine bodyPost_ret (results_ct rfl _ _ gb143 23 #[.string (a0.extract 0 (t144 : Int).toNat), .int .i64 x146001_2, .bool x146002_6] (0, 0) _ rfl (by (with_reducible repeat first | apply bN | apply bD | apply bA); refine blk_put (cs := #[.string (a0.extract 0 (t144 : Int).toNat), .int .i64 x146001_2, .bool false]) ?_ 2 _ rfl; (with_reducible repeat first | apply bN | apply bD | apply bA); refine blk_put (cs := #[.string (a0.extract 0 (t144 : Int).toNat), .int .i64 0, .bool false]) ?_ 1 _ rfl; (with_reducible repeat first | apply bN | apply bD | apply bA); refine blk_put (cs := #[.string (⟨#[]⟩ : ByteArray), .int .i64 0, .bool false]) ?_ 0 _ rfl; (with_reducible repeat first | apply bN | apply bD | apply bA); exact BK143.out) Tryd.underlying23 rfl (by kernel_rfl)) rfl ?_
          exact ⟨by first | rfl | (simp [errW_none, errW_some] <;> rfl) | (simp [*, errW_none, errW_some] <;> rfl), by repeat (with_reducible first | exact HB.out | apply lA | apply pw_below_drewN | apply lD | refine below_set ?_ GE143.out | refine below_set ?_ GE145.out)⟩
         ·replace c42 := Bool.eq_false_iff.mpr c42
          subst c42
          have H1 : (some ((a0.extract 0 (t144 : Int).toNat), x146001_2, x146002_6, false)) = some (r1, r2, r3, r4) := by rw [if_neg (show ¬ (false = true) by decide)] at H; exact H
          clear H
          have H := H1
          clear H1
          simp only [Option.some.injEq, Prod.mk.injEq] at H
          obtain ⟨rfl, rfl, rfl, rfl⟩ := H
          try go_wp2
          have n0_ := Aside0.mk (blk_drew BK143.out)
          have n1_ := Aside0.mk (blk_drew BK145.out)
          have n2_ := Aside0.mk (below_drew1 HB.out)
          clear BK143
          clear BK145
          clear HB
          have BK143 := n0_
          have BK145 := n1_
          have HB := n2_
          clear n0_ n1_ n2_
          refine start_ (n := 15) (S := fun w' => w'.cell? ⟨gb145, 0, none⟩ = some (.string (a0.extract 0 (t144 : Int).toNat)) ∧ w'.cell? ⟨gb145, 1, none⟩ = some (.int .i64 x146001_2) ∧ w'.cell? ⟨gb145, 2, none⟩ = some (.bool x146002_6)) (ds := []) #[false,false,false,false,false,false,false,false,false,false,false,false,false,false,false] (by kernel_rfl) rfl rfl ⟨(blk_cell BK145.out 0).trans rfl, (blk_cell BK145.out 1).trans rfl, (blk_cell BK145.out 2).trans rfl⟩ (fun hHeld => ?_); refine with_tabW phalaroperef06_Is.tab10 phalaroperef06_Is.bits10 (fun HT_ HW_ => ?_)
          generalize wr.drew = w50 at BK143 BK145 HB hHeld ⊢
          refine pure_ (i := 1) (N := some 41) (v := ?_) (a' := ?_) #[false,true,false,false,false,false,false,false,false,false,false,false,false,false,false] rfl rfl (any_of HT_.out (by kernel_rfl)) (fun _ _ _ h => h) (Or.inl ⟨by rfl, ?_⟩) ?_ ?_
          rotate_left
          ·intro w'
           go_simp
           with_reducible rfl
          rotate_left
          ·(simp only [Act.put, List.setIfInBounds_toArray, List.set_cons_zero, List.set_cons_succ, i64_w, i32_w])
           rfl
          refine pure_ (i := 2) (N := some 42) (v := ?_) (a' := ?_) #[false,true,true,false,false,false,false,false,false,false,false,false,false,false,false] rfl rfl (any_of HT_.out (by kernel_rfl)) (fun _ _ _ h => h) (Or.inl ⟨by rfl, ?_⟩) ?_ ?_
          rotate_left
          ·intro w'
           go_simp
           with_reducible rfl
          rotate_left
          ·(simp only [Act.put, List.setIfInBounds_toArray, List.set_cons_zero, List.set_cons_succ, i64_w, i32_w])
           rfl
          refine pure_ (i := 3) (N := some 43) (v := ?_) (a' := ?_) #[false,true,true,true,false,false,false,false,false,false,false,false,false,false,false] rfl rfl (any_of HT_.out (by kernel_rfl)) (fun _ _ _ h => h) (Or.inl ⟨by rfl, ?_⟩) ?_ ?_
          rotate_left
          ·intro w'
           go_simp
           with_reducible rfl
          rotate_left
          ·(simp only [Act.put, List.setIfInBounds_toArray, List.set_cons_zero, List.set_cons_succ, i64_w, i32_w])
           rfl
          refine take_ (i := 0) (N := some 40) (v := ?_) (a' := ?_) #[true,true,true,true,false,false,false,false,false,false,false,false,false,false,false] rfl rfl (take_ofW HT_.out HW_.out (by kernel_rfl)) (fun _ _ _ h => h) (Or.inl ⟨by rfl, ?_⟩) hHeld ?_ ?_
          rotate_left
          ·rintro w' ⟨s0, s1, s2⟩
           go_simp
           with_reducible rfl
          rotate_left
          ·(simp only [Act.put, List.setIfInBounds_toArray, List.set_cons_zero, List.set_cons_succ, i64_w, i32_w])
           rfl
          refine take_ (i := 4) (N := some 44) (v := ?_) (a' := ?_) #[true,true,true,true,true,false,false,false,false,false,false,false,false,false,false] rfl rfl (take_ofW HT_.out HW_.out (by kernel_rfl)) (fun _ _ _ h => h) (Or.inl ⟨by rfl, ?_⟩) hHeld ?_ ?_
          rotate_left
          ·rintro w' ⟨s0, s1, s2⟩
           go_simp
           with_reducible rfl
          rotate_left
          ·(simp only [Act.put, List.setIfInBounds_toArray, List.set_cons_zero, List.set_cons_succ, i64_w, i32_w])
           rfl
          refine one_ (i := 5) (N := some 45) #[true,true,true,true,true,true,false,false,false,false,false,false,false,false,false] rfl rfl (one_of HT_.out (by kernel_rfl)) (by decide) (fun K hK => ?_)
          refine goes_ Tryd.func13 (by kernel_rfl) rfl #[.agg #[.string (a0.extract 0 (t144 : Int).toNat), .int .i64 x146001_2, .bool x146002_6]] (by rfl) rfl rfl (by (try simp only [List.map_toArray, List.map_cons, List.map_nil]); first | done | rfl) ?_
          with_reducible refine (phalaroperef06_May.calls k2 (a0.extract 0 (t144 : Int).toNat) x146001_2 x146002_6 false _ A41.out).mono ?_
          rintro e w51 ⟨rfl, hb⟩
          refine ⟨_, rfl, ?_⟩
          have n0_ := Aside0.mk (blk_below (g := gb143) (o := .cells #[.string (⟨#[]⟩ : ByteArray), .int .i64 0, .bool false] 23 (0, 0)) (by (with_reducible repeat first | apply bN | apply bD | apply bA); exact BK143.out) hb)
          have n1_ := Aside0.mk (blk_below (g := gb145) (o := .cells #[.string (a0.extract 0 (t144 : Int).toNat), .int .i64 x146001_2, .bool x146002_6] 23 (0, 0)) (by (with_reducible repeat first | apply bN | apply bD | apply bA); exact BK145.out) hb)
          have n2_ := Aside0.mk (below_step (by repeat (with_reducible first | exact HB.out | apply lA | apply pw_below_drewN | apply lD | refine below_set ?_ GE143.out | refine below_set ?_ GE145.out)) hb)
          clear BK143
          clear BK145
          clear HB
          have BK143 := n0_
          have BK145 := n1_
          have HB := n2_
          clear n0_ n1_ n2_
          (try clear hb)
          (try clear hb2)
          (try clear hk)
          (try clear hi)
          refine hK.out _ _ ⟨(blk_cell BK145.out 0).trans rfl, (blk_cell BK145.out 1).trans rfl, (blk_cell BK145.out 2).trans rfl⟩ (fun hHeld => ?_)
          clear hK K
          refine norm_ (a' := ?_) ?_ ?_
          rotate_left
          ·show Act.put _ (some 45) _ = _
           (simp only [Act.put, List.setIfInBounds_toArray, List.set_cons_zero, List.set_cons_succ, i64_w, i32_w])
           rfl
          refine pure_ (i := 6) (N := some 46) (v := ?_) (a' := ?_) #[true,true,true,true,true,true,true,false,false,false,false,false,false,false,false] rfl rfl (any_of HT_.out (by kernel_rfl)) (fun _ _ _ h => h) (Or.inl ⟨by rfl, ?_⟩) ?_ ?_
          rotate_left
          ·intro w'
           go_simp
           with_reducible rfl
          rotate_left
          ·(simp only [Act.put, List.setIfInBounds_toArray, List.set_cons_zero, List.set_cons_succ, i64_w, i32_w])
           rfl
          refine pure_ (i := 7) (N := some 47) (v := ?_) (a' := ?_) #[true,true,true,true,true,true,true,true,false,false,false,false,false,false,false] rfl rfl (any_of HT_.out (by kernel_rfl)) (fun _ _ _ h => h) (Or.inl ⟨by rfl, ?_⟩) ?_ ?_
          rotate_left
          ·intro w'
           go_simp
           with_reducible rfl
          rotate_left
          ·(simp only [Act.put, List.setIfInBounds_toArray, List.set_cons_zero, List.set_cons_succ, i64_w, i32_w])
           rfl
          refine pure_ (i := 8) (N := some 48) (v := undef) (a' := ?_) #[true,true,true,true,true,true,true,true,true,false,false,false,false,false,false] rfl rfl (any_of HT_.out (by kernel_rfl)) (fun _ _ _ h => h) (Or.inr ⟨by rfl, rfl⟩) ?_ ?_
          rotate_left
          ·(simp only [Act.put, List.setIfInBounds_toArray, List.set_cons_zero, List.set_cons_succ, i64_w, i32_w])
           rfl
          refine pure_ (i := 9) (N := some 49) (v := undef) (a' := ?_) #[true,true,true,true,true,true,true,true,true,true,false,false,false,false,false] rfl rfl (any_of HT_.out (by kernel_rfl)) (fun _ _ _ h => h) (Or.inr ⟨by rfl, rfl⟩) ?_ ?_
          rotate_left
          ·(simp only [Act.put, List.setIfInBounds_toArray, List.set_cons_zero, List.set_cons_succ, i64_w, i32_w])
           rfl
          refine pure_ (i := 10) (N := some 50) (v := undef) (a' := ?_) #[true,true,true,true,true,true,true,true,true,true,true,false,false,false,false] rfl rfl (any_of HT_.out (by kernel_rfl)) (fun _ _ _ h => h) (Or.inr ⟨by rfl, rfl⟩) ?_ ?_
          rotate_left
          ·(simp only [Act.put, List.setIfInBounds_toArray, List.set_cons_zero, List.set_cons_succ, i64_w, i32_w])
           rfl
          refine pure_ (i := 11) (N := some 51) (v := undef) (a' := ?_) #[true,true,true,true,true,true,true,true,true,true,true,true,false,false,false] rfl rfl (any_of HT_.out (by kernel_rfl)) (fun _ _ _ h => h) (Or.inr ⟨by rfl, rfl⟩) ?_ ?_
          rotate_left
          ·(simp only [Act.put, List.setIfInBounds_toArray, List.set_cons_zero, List.set_cons_succ, i64_w, i32_w])
           rfl
          refine pure_ (i := 12) (N := some 52) (v := ?_) (a' := ?_) #[true,true,true,true,true,true,true,true,true,true,true,true,true,false,false] rfl rfl (any_of HT_.out (by kernel_rfl)) (fun _ _ _ h => h) (Or.inl ⟨by rfl, ?_⟩) ?_ ?_
          rotate_left
          ·intro w'
           go_simp
           with_reducible rfl
          rotate_left
          ·(simp only [Act.put, List.setIfInBounds_toArray, List.set_cons_zero, List.set_cons_succ, i64_w, i32_w])
           rfl
          refine one_ (i := 13) (N := none) #[true,true,true,true,true,true,true,true,true,true,true,true,true,true,false] rfl rfl (one_of HT_.out (by kernel_rfl)) (by decide) (fun K hK => ?_)
          have hs52 : w51.cell? ⟨gb143, 0, none⟩ = some (.string (⟨#[]⟩ : ByteArray)) := (blk_cell BK143.out 0).trans rfl
          have hfs52 := blk_frozen BK143.out 0
          have hns52_1 := NB145_143.out
          have hms52_1 := NB143_145.out
          have hs53 : w51.cell? ⟨gb143, 1, none⟩ = some (.int .i64 0) := (blk_cell BK143.out 1).trans rfl
          have hfs53 := blk_frozen BK143.out 1
          have hns53_1 := NB145_143.out
          have hms53_1 := NB143_145.out
          have hs54 : w51.cell? ⟨gb143, 2, none⟩ = some (.bool false) := (blk_cell BK143.out 2).trans rfl
          have hfs54 := blk_frozen BK143.out 2
          have hns54_1 := NB145_143.out
          have hms54_1 := NB143_145.out
          refine skip_ (w1 := ?_) (by rfl) rfl ?_ ?_
          rotate_left
          ·go_simp
           rfl
          refine hK.out _ _ ⟨((cell_far (p := ⟨gb143, _, none⟩) NB145_143.out _).trans (((cell_far (p := ⟨gb143, _, none⟩) NB145_143.out _).trans (((cell_far (p := ⟨gb143, _, none⟩) NB145_143.out _).trans (hHeld.1)))))), ((cell_far (p := ⟨gb143, _, none⟩) NB145_143.out _).trans (((cell_far (p := ⟨gb143, _, none⟩) NB145_143.out _).trans (((cell_far (p := ⟨gb143, _, none⟩) NB145_143.out _).trans (hHeld.2.1)))))), ((cell_far (p := ⟨gb143, _, none⟩) NB145_143.out _).trans (((cell_far (p := ⟨gb143, _, none⟩) NB145_143.out _).trans (((cell_far (p := ⟨gb143, _, none⟩) NB145_143.out _).trans (hHeld.2.2))))))⟩ (fun hHeld => ?_)
          clear hK K
          refine pure_ (i := 14) (N := some 3) (v := ?_) (a' := ?_) #[true,true,true,true,true,true,true,true,true,true,true,true,true,true,true] rfl rfl (any_of HT_.out (by kernel_rfl)) (fun _ _ _ h => h) (Or.inl ⟨by rfl, ?_⟩) ?_ ?_
          rotate_left
          ·intro w'
           go_simp
           with_reducible rfl
          rotate_left
          ·(simp only [Act.put, List.setIfInBounds_toArray, List.set_cons_zero, List.set_cons_succ, i64_w, i32_w])
           rfl
          refine done_ (done_of HT_.out (by kernel_rfl)) ?_
          try go_wp2
          refine bodyPost_ret (results_ct rfl _ _ gb143 23 #[.string (a0.extract 0 (t144 : Int).toNat), .int .i64 x146001_2, .bool x146002_6] (0, 0) _ rfl (by (with_reducible repeat first | apply bN | apply bD | apply bA); refine blk_put (cs := #[.string (a0.extract 0 (t144 : Int).toNat), .int .i64 x146001_2, .bool false]) ?_ 2 _ rfl; (with_reducible repeat first | apply bN | apply bD | apply bA); refine blk_put (cs := #[.string (a0.extract 0 (t144 : Int).toNat), .int .i64 0, .bool false]) ?_ 1 _ rfl; (with_reducible repeat first | apply bN | apply bD | apply bA); refine blk_put (cs := #[.string (⟨#[]⟩ : ByteArray), .int .i64 0, .bool false]) ?_ 0 _ rfl; (with_reducible repeat first | apply bN | apply bD | apply bA); exact BK143.out) Tryd.underlying23 rfl (by kernel_rfl)) rfl ?_
          exact ⟨by first | rfl | (simp [errW_none, errW_some] <;> rfl) | (simp [*, errW_none, errW_some] <;> rfl), by repeat (with_reducible first | exact HB.out | apply lA | apply pw_below_drewN | apply lD | refine below_set ?_ GE143.out | refine below_set ?_ GE145.out)⟩
        ·rw [if_neg c40] at H
         have c40b0 : decide (0 < t144) = false := decide_eq_false c40
         clear c40
         simp only [Option.some.injEq, Prod.mk.injEq] at H
         obtain ⟨rfl, rfl, rfl, rfl⟩ := H
         try go_wp2
         have n0_ := Aside0.mk (blk_drew BK143.out)
         have n1_ := Aside0.mk (blk_drew BK145.out)
         have n2_ := Aside0.mk (below_drew1 HB.out)
         clear BK143
         clear BK145
         clear HB
         have BK143 := n0_
         have BK145 := n1_
         have HB := n2_
         clear n0_ n1_ n2_
         refine start_ (n := 15) (S := fun w' => w'.cell? ⟨gb145, 0, none⟩ = some (.string (a0.extract 0 (t144 : Int).toNat)) ∧ w'.cell? ⟨gb145, 1, none⟩ = some (.int .i64 x146001_2) ∧ w'.cell? ⟨gb145, 2, none⟩ = some (.bool x146002_6)) (ds := []) #[false,false,false,false,false,false,false,false,false,false,false,false,false,false,false] (by kernel_rfl) rfl rfl ⟨(blk_cell BK145.out 0).trans rfl, (blk_cell BK145.out 1).trans rfl, (blk_cell BK145.out 2).trans rfl⟩ (fun hHeld => ?_); refine with_tabW phalaroperef06_Is.tab10 phalaroperef06_Is.bits10 (fun HT_ HW_ => ?_)
         generalize wr.drew = w55 at BK143 BK145 HB hHeld ⊢
         refine pure_ (i := 1) (N := some 41) (v := ?_) (a' := ?_) #[false,true,false,false,false,false,false,false,false,false,false,false,false,false,false] rfl rfl (any_of HT_.out (by kernel_rfl)) (fun _ _ _ h => h) (Or.inl ⟨by rfl, ?_⟩) ?_ ?_
         rotate_left
         ·intro w'
          go_simp
          with_reducible rfl
         rotate_left
         ·(simp only [Act.put, List.setIfInBounds_toArray, List.set_cons_zero, List.set_cons_succ, i64_w, i32_w])
          rfl
         refine pure_ (i := 2) (N := some 42) (v := ?_) (a' := ?_) #[false,true,true,false,false,false,false,false,false,false,false,false,false,false,false] rfl rfl (any_of HT_.out (by kernel_rfl)) (fun _ _ _ h => h) (Or.inl ⟨by rfl, ?_⟩) ?_ ?_
         rotate_left
         ·intro w'
          go_simp
          with_reducible rfl
         rotate_left
         ·(simp only [Act.put, List.setIfInBounds_toArray, List.set_cons_zero, List.set_cons_succ, i64_w, i32_w])
          rfl
         refine pure_ (i := 3) (N := some 43) (v := ?_) (a' := ?_) #[false,true,true,true,false,false,false,false,false,false,false,false,false,false,false] rfl rfl (any_of HT_.out (by kernel_rfl)) (fun _ _ _ h => h) (Or.inl ⟨by rfl, ?_⟩) ?_ ?_
         rotate_left
         ·intro w'
          go_simp
          with_reducible rfl
         rotate_left
         ·(simp only [Act.put, List.setIfInBounds_toArray, List.set_cons_zero, List.set_cons_succ, i64_w, i32_w])
          rfl
         refine pure_ (i := 4) (N := some 44) (v := undef) (a' := ?_) #[false,true,true,true,true,false,false,false,false,false,false,false,false,false,false] rfl rfl (any_of HT_.out (by kernel_rfl)) (fun _ _ _ h => h) (Or.inr ⟨by rfl, rfl⟩) ?_ ?_
         rotate_left
         ·(simp only [Act.put, List.setIfInBounds_toArray, List.set_cons_zero, List.set_cons_succ, i64_w, i32_w])
          rfl
         refine pure_ (i := 5) (N := some 45) (v := undef) (a' := ?_) #[false,true,true,true,true,true,false,false,false,false,false,false,false,false,false] rfl rfl (any_of HT_.out (by kernel_rfl)) (fun _ _ _ h => h) (Or.inr ⟨by rfl, rfl⟩) ?_ ?_
         rotate_left
         ·(simp only [Act.put, List.setIfInBounds_toArray, List.set_cons_zero, List.set_cons_succ, i64_w, i32_w])
          rfl
         refine pure_ (i := 6) (N := some 46) (v := ?_) (a' := ?_) #[false,true,true,true,true,true,true,false,false,false,false,false,false,false,false] rfl rfl (any_of HT_.out (by kernel_rfl)) (fun _ _ _ h => h) (Or.inl ⟨by rfl, ?_⟩) ?_ ?_
         rotate_left
         ·intro w'
          go_simp
          with_reducible rfl
         rotate_left
         ·(simp only [Act.put, List.setIfInBounds_toArray, List.set_cons_zero, List.set_cons_succ, i64_w, i32_w])
          rfl
         refine pure_ (i := 7) (N := some 47) (v := ?_) (a' := ?_) #[false,true,true,true,true,true,true,true,false,false,false,false,false,false,false] rfl rfl (any_of HT_.out (by kernel_rfl)) (fun _ _ _ h => h) (Or.inl ⟨by rfl, ?_⟩) ?_ ?_
         rotate_left
         ·intro w'
          go_simp
          with_reducible rfl
         rotate_left
         ·(simp only [Act.put, List.setIfInBounds_toArray, List.set_cons_zero, List.set_cons_succ, i64_w, i32_w])
          rfl
         refine pure_ (i := 8) (N := some 48) (v := undef) (a' := ?_) #[false,true,true,true,true,true,true,true,true,false,false,false,false,false,false] rfl rfl (any_of HT_.out (by kernel_rfl)) (fun _ _ _ h => h) (Or.inr ⟨by rfl, rfl⟩) ?_ ?_
         rotate_left
         ·(simp only [Act.put, List.setIfInBounds_toArray, List.set_cons_zero, List.set_cons_succ, i64_w, i32_w])
          rfl
         refine pure_ (i := 9) (N := some 49) (v := undef) (a' := ?_) #[false,true,true,true,true,true,true,true,true,true,false,false,false,false,false] rfl rfl (any_of HT_.out (by kernel_rfl)) (fun _ _ _ h => h) (Or.inr ⟨by rfl, rfl⟩) ?_ ?_
         rotate_left
         ·(simp only [Act.put, List.setIfInBounds_toArray, List.set_cons_zero, List.set_cons_succ, i64_w, i32_w])
          rfl
         refine pure_ (i := 10) (N := some 50) (v := undef) (a' := ?_) #[false,true,true,true,true,true,true,true,true,true,true,false,false,false,false] rfl rfl (any_of HT_.out (by kernel_rfl)) (fun _ _ _ h => h) (Or.inr ⟨by rfl, rfl⟩) ?_ ?_
         rotate_left
         ·(simp only [Act.put, List.setIfInBounds_toArray, List.set_cons_zero, List.set_cons_succ, i64_w, i32_w])
          rfl
         refine pure_ (i := 11) (N := some 51) (v := undef) (a' := ?_) #[false,true,true,true,true,true,true,true,true,true,true,true,false,false,false] rfl rfl (any_of HT_.out (by kernel_rfl)) (fun _ _ _ h => h) (Or.inr ⟨by rfl, rfl⟩) ?_ ?_
         rotate_left
         ·(simp only [Act.put, List.setIfInBounds_toArray, List.set_cons_zero, List.set_cons_succ, i64_w, i32_w])
          rfl
         refine pure_ (i := 12) (N := some 52) (v := ?_) (a' := ?_) #[false,true,true,true,true,true,true,true,true,true,true,true,true,false,false] rfl rfl (any_of HT_.out (by kernel_rfl)) (fun _ _ _ h => h) (Or.inl ⟨by rfl, ?_⟩) ?_ ?_
         rotate_left
         ·intro w'
          go_simp
          with_reducible rfl
         rotate_left
         ·(simp only [Act.put, List.setIfInBounds_toArray, List.set_cons_zero, List.set_cons_succ, i64_w, i32_w])
          rfl
         refine take_ (i := 0) (N := some 40) (v := ?_) (a' := ?_) #[true,true,true,true,true,true,true,true,true,true,true,true,true,false,false] rfl rfl (take_ofW HT_.out HW_.out (by kernel_rfl)) (fun _ _ _ h => h) (Or.inl ⟨by rfl, ?_⟩) hHeld ?_ ?_
         rotate_left
         ·rintro w' ⟨s0, s1, s2⟩
          go_simp
          with_reducible rfl
         rotate_left
         ·(simp only [Act.put, List.setIfInBounds_toArray, List.set_cons_zero, List.set_cons_succ, i64_w, i32_w])
          rfl
         refine one_ (i := 13) (N := none) #[true,true,true,true,true,true,true,true,true,true,true,true,true,true,false] rfl rfl (one_of HT_.out (by kernel_rfl)) (by decide) (fun K hK => ?_)
         have hs56 : w55.cell? ⟨gb143, 0, none⟩ = some (.string (⟨#[]⟩ : ByteArray)) := (blk_cell BK143.out 0).trans rfl
         have hfs56 := blk_frozen BK143.out 0
         have hns56_1 := NB145_143.out
         have hms56_1 := NB143_145.out
         have hs57 : w55.cell? ⟨gb143, 1, none⟩ = some (.int .i64 0) := (blk_cell BK143.out 1).trans rfl
         have hfs57 := blk_frozen BK143.out 1
         have hns57_1 := NB145_143.out
         have hms57_1 := NB143_145.out
         have hs58 : w55.cell? ⟨gb143, 2, none⟩ = some (.bool false) := (blk_cell BK143.out 2).trans rfl
         have hfs58 := blk_frozen BK143.out 2
         have hns58_1 := NB145_143.out
         have hms58_1 := NB143_145.out
         refine skip_ (w1 := ?_) (by rfl) rfl ?_ ?_
         rotate_left
         ·go_simp
          rfl
         refine hK.out _ _ ⟨((cell_far (p := ⟨gb143, _, none⟩) NB145_143.out _).trans (((cell_far (p := ⟨gb143, _, none⟩) NB145_143.out _).trans (((cell_far (p := ⟨gb143, _, none⟩) NB145_143.out _).trans (hHeld.1)))))), ((cell_far (p := ⟨gb143, _, none⟩) NB145_143.out _).trans (((cell_far (p := ⟨gb143, _, none⟩) NB145_143.out _).trans (((cell_far (p := ⟨gb143, _, none⟩) NB145_143.out _).trans (hHeld.2.1)))))), ((cell_far (p := ⟨gb143, _, none⟩) NB145_143.out _).trans (((cell_far (p := ⟨gb143, _, none⟩) NB145_143.out _).trans (((cell_far (p := ⟨gb143, _, none⟩) NB145_143.out _).trans (hHeld.2.2))))))⟩ (fun hHeld => ?_)
         clear hK K
         refine pure_ (i := 14) (N := some 3) (v := ?_) (a' := ?_) #[true,true,true,true,true,true,true,true,true,true,true,true,true,true,true] rfl rfl (any_of HT_.out (by kernel_rfl)) (fun _ _ _ h => h) (Or.inl ⟨by rfl, ?_⟩) ?_ ?_
         rotate_left
         ·intro w'
          go_simp
          with_reducible rfl
         rotate_left
         ·(simp only [Act.put, List.setIfInBounds_toArray, List.set_cons_zero, List.set_cons_succ, i64_w, i32_w])
          rfl
         refine done_ (done_of HT_.out (by kernel_rfl)) ?_
         try go_wp2
         refine bodyPost_ret (results_ct rfl _ _ gb143 23 #[.string (a0.extract 0 (t144 : Int).toNat), .int .i64 x146001_2, .bool x146002_6] (0, 0) _ rfl (by (with_reducible repeat first | apply bN | apply bD | apply bA); refine blk_put (cs := #[.string (a0.extract 0 (t144 : Int).toNat), .int .i64 x146001_2, .bool false]) ?_ 2 _ rfl; (with_reducible repeat first | apply bN | apply bD | apply bA); refine blk_put (cs := #[.string (a0.extract 0 (t144 : Int).toNat), .int .i64 0, .bool false]) ?_ 1 _ rfl; (with_reducible repeat first | apply bN | apply bD | apply bA); refine blk_put (cs := #[.string (⟨#[]⟩ : ByteArray), .int .i64 0, .bool false]) ?_ 0 _ rfl; (with_reducible repeat first | apply bN | apply bD | apply bA); exact BK143.out) Tryd.underlying23 rfl (by kernel_rfl)) rfl ?_
         exact ⟨by first | rfl | (simp [errW_none, errW_some] <;> rfl) | (simp [*, errW_none, errW_some] <;> rfl), by repeat (with_reducible first | exact HB.out | apply lA | apply pw_below_drewN | apply lD | refine below_set ?_ GE143.out | refine below_set ?_ GE145.out)⟩
  ·rw [if_neg c4] at H
   exact absurd H (by simp)
 ·rw [if_neg c3] at H
  exact absurd H (by simp)
end Go.Proofs.YthllgnephigfkaaDoor.PT
