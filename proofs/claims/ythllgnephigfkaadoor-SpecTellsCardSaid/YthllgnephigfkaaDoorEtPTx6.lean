-- Printed by wip/xprint.py of this claim's authors, over the kit's print; not trusted: Lean checks it.
import Derived.Test.YthllgnephigfkaaDoorEtPTx0
import Derived.Test.YthllgnephigfkaaDoorEtPTx1
import Derived.Test.YthllgnephigfkaaDoorEtPTx2
import Derived.Test.YthllgnephigfkaaDoorEtPTx3
import Derived.Test.YthllgnephigfkaaDoorEtPTx5
namespace Go.Proofs.YthllgnephigfkaaDoor.PT
open Go.RowKit Go.Proofs.YthllgnephigfkaaDoorW.PrintWords Go.Proofs.YthllgnephigfkaaDoorW.PrintLast Go.Proofs.YthllgnephigfkaaDoorW.PrintMore
attribute [local go_sem] max2_int min2_int max_two min_two max_three min_three max_four min_four   -- for this text's walks alone
set_option linter.unusedVariables false
set_option linter.unusedSimpArgs false
attribute [local go_sem high] eqA23
def phalaropelaw06_SpecTells.j0 : Nat → ByteArray → Bool → Bool → ByteArray → Int → Bool → Option (Bool)
 | 0, _, _, _, _, _, _ => none
 | k + 1, x1, x5, x21, x178000, x178001, x178002 => if x21 = true then (some x5) else ((spec_Take.f x1).bind fun bt179 => ((phalaroperef06_Take.f k x1).bind fun bt185 => (if x5 = true then ((spec_May.f x178000 x178001 x178002).bind fun t191 => ((phalaroperef06_May.f k x178000 x178001 x178002).bind fun t192 => (if (t191 == t192) = true then ((spec_Put.f x178000 x178001 x178002).bind fun t193 => ((phalaroperef06_Put.f k x178000 x178001 x178002).bind fun t194 => (if t193.toList = t194.toList then (if (bt179.1.toList == bt185.1.toList && (bt179.2.1 == bt185.2.1 && (bt179.2.2.1 == bt185.2.2.1))) = true then (if bt179.2.2.2.1 = bt185.2.2.2.1 then (some (bt179.2.2.2.2 == bt185.2.2.2.2)) else (some false)) else (some false)) else (some false)))) else (some false)))) else (some false))))
def phalaropelaw06_SpecTells.f (k : Nat) (a0_0 : ByteArray) (a0_1 : Int) (a0_2 : Bool) (a1 : ByteArray) : Option (Bool) := (phalaropelaw06_awake.f).bind fun t178 => (if (a0_0.size : Int) > 200 then (phalaropelaw06_SpecTells.j0 k a1 t178 true a0_0 a0_1 a0_2) else (phalaropelaw06_SpecTells.j0 k a1 t178 (decide ((a1.size : Int) > 200)) a0_0 a0_1 a0_2))
def phalaropelaw06_SpecTells.T6 : Bool × List (List Nat × List Nat) := (true, [([], []), ([0], [0]), ([1], [1]), ([2, 1, 1], [1, 2]), ([1], [1]), ([4, 3, 1], [1, 4]), ([3, 5, 1], [1, 3, 5]), ([1, 6], [1, 6]), ([7, 5], [7]), ([8], [8]), ([9, 8, 8], [8, 9]), ([8], [8]), ([11, 10, 8], [8, 11]), ([10, 12, 8], [8, 10, 12]), ([8, 13], [8, 13]), ([14, 12], [14]), ([15], [15]), ([15], [15]), ([16, 17, 15], [15, 16, 17]), ([15, 18], [15, 18]), ([19, 15], [19]), ([20], [20]), ([20], [20]), ([21, 22, 20], [20, 21, 22]), ([20, 23], [20, 23]), ([24, 20], [24]), ([25], [25]), ([25], [25]), ([26, 27, 25], [25, 26, 27]), ([25, 28], [25, 28]), ([29, 25, 0, 1, 2, 3, 4, 5, 6, 7, 8, 9, 10, 11, 12, 13, 14, 15, 16, 17, 18, 19, 20, 21, 22, 23, 24, 25, 26, 27, 28, 29], [29])])
def phalaropelaw06_SpecTells.B6 : List Nat := [0, 1, 3, 7, 3, 31, 63, 127, 255, 511, 1023, 511, 4095, 8191, 16383, 32767, 65535, 65535, 262143, 524287, 1048575, 2097151, 2097151, 8388607, 16777215, 33554431, 67108863, 67108863, 268435455, 536870911, 1073741823]
theorem phalaropelaw06_SpecTells.tab6 : rtab .any (opsOf Tryd.f3 6) = phalaropelaw06_SpecTells.T6 := by kernel_rfl
theorem phalaropelaw06_SpecTells.bits6 : waitsOk phalaropelaw06_SpecTells.T6.2 phalaropelaw06_SpecTells.B6 = true := by kernel_rfl
set_option maxHeartbeats 8000000 in
set_option maxRecDepth 100000 in
theorem phalaropelaw06_SpecTells.calls (k : Nat) (a0_0 : ByteArray) (a0_1 : Int) (a0_2 : Bool) (a1 : ByteArray) (r : Bool) (w : World) (h : phalaropelaw06_SpecTells.f k a0_0 a0_1 a0_2 a1 = some r) (hG : X.Gl w) :
  Calls Tryd.prog 3 #[.agg #[.string a0_0, .int .i64 a0_1, .bool a0_2], .string a1] w fun e w' => e = .returned (.bool r) ∧ Below w.heap.size w w' := by
 have hG := Aside0.mk hG
 have hu23 := Tryd.underlying23
 have HB := Aside0.mk (Below.refl w.heap.size w)
 have H : ((phalaropelaw06_awake.f).bind fun t178 => (if (a0_0.size : Int) > 200 then (phalaropelaw06_SpecTells.j0 k a1 t178 true a0_0 a0_1 a0_2) else (phalaropelaw06_SpecTells.j0 k a1 t178 (decide ((a1.size : Int) > 200)) a0_0 a0_1 a0_2))) = some r := h
 clear h
 replace H := Option.bind_eq_some_iff.mp H
 obtain ⟨t178, A30, H⟩ := H
 replace H : (if (a0_0.size : Int) > 200 then (phalaropelaw06_SpecTells.j0 k a1 t178 true a0_0 a0_1 a0_2) else (phalaropelaw06_SpecTells.j0 k a1 t178 (decide ((a1.size : Int) > 200)) a0_0 a0_1 a0_2)) = some r := H
 have A3 := Aside0.mk A30
 clear A30
 have HC4 := Aside0.mk H
 clear H
 go_enter Tryd.func3, Tryd.ntmps3
 go_upto_region 2 with (first | ((with_reducible refine gate_dst (N := 2) rfl ?_); (try (refine gate_guard (by rfl) ?_; dsimp only)); refine box_event ?hg (N := 2) ?hd (cs := #[.string a0_0, .int .i64 a0_1, .bool a0_2]) (t := 23) ?hr ?_; (case hd => rfl); (case hg => rfl); (case hr => first | (go_simp; done) | (go_simp; rfl)); intro gb177 hg w5 hbox hb; have n0_ := Aside0.mk (below_step (by repeat (with_reducible first | exact HB.out | apply lA | apply pw_below_drewN | apply lD)) hb); have n1_ := Aside0.mk (hbox); have n2_ := Aside0.mk ((by rw [hg]; exact (below_size (by repeat (with_reducible first | exact HB.out | apply lA | apply pw_below_drewN | apply lD))) : w.heap.size ≤ gb177)); have n3_ := Aside0.mk ((by rw [hg]; exact (below_size (by repeat (with_reducible first | exact HB.out | apply lA | apply pw_below_drewN | apply lD))) : w.heap.size ≤ gb177)); clear HB; have HB := n0_; have BK177 := n1_; have GW177 := n2_; have GE177 := n3_; clear n0_ n1_ n2_ n3_; clear hb hbox hg) | ((with_reducible refine gate_callee (f := 9) rfl ?_); refine goesL_ (some 12) rfl rfl Tryd.func9 (by kernel_rfl) rfl #[] rfl (by (try simp only [List.map_toArray, List.map_cons, List.map_nil]); first | done | rfl) ?_; (with_reducible refine (phalaropelaw06_awake.calls  t178 _ A3.out (X.Gl.below hG.out (by repeat (with_reducible first | exact HB.out | apply lA | apply pw_below_drewN | apply lD | refine below_set ?_ (Aside0.out (by assumption)))))).mono ?_); rintro e w6 ⟨rfl, hb⟩; refine ⟨_, rfl, ?_⟩; have n0_ := Aside0.mk (blk_below (g := gb177) (o := .cells #[.string a0_0, .int .i64 a0_1, .bool a0_2] 23 (0, 0)) (by (with_reducible repeat first | apply bN | apply bD | apply bA); exact BK177.out) hb); have n1_ := Aside0.mk (below_step (by repeat (with_reducible first | exact HB.out | apply lA | apply pw_below_drewN | apply lD | refine below_set ?_ GE177.out)) hb); clear BK177; clear HB; have BK177 := n0_; have HB := n1_; clear n0_ n1_; (try clear hb); (try clear hb2); (try clear hk); (try clear hi)))
 (try simp only [Act.put, List.setIfInBounds_toArray, List.set_cons_zero, List.set_cons_succ])
 go_cut [21] (fun v21 wc => ∃ (kq : Nat) (x21_3 : Bool), v21 = .bool x21_3 ∧ Aside0 (phalaropelaw06_SpecTells.j0 kq a1 t178 x21_3 a0_0 a0_1 a0_2 = some r) ∧ Aside0 (kq ≤ k) ∧ Aside0 (wc.heap[gb177]? = some (.cells #[.string a0_0, .int .i64 a0_1, .bool a0_2] 23 (0, 0))) ∧ Aside0 (Below w.heap.size w wc))
 case first =>
  have H := HC4.out
  clear HC4
  by_cases c7 : (a0_0.size : Int) > 200
  ·rw [if_pos c7] at H
   have c7b0 : decide (200 < (a0_0.size : Int)) = true := decide_eq_true c7
   have c7b1 : decide (200 < a0_0.size) = true := decide_eq_true (by omega)
   clear c7
   (first | rw [c7b0] | (simp only [i64_w, i32_w]; rw [c7b0]) | skip)
   have H' := Aside0.mk H
   clear H
   have hcz8_0 : w6.cell? ⟨gb177, 0, none⟩ = some (.string a0_0) := (blk_cell BK177.out 0).trans rfl
   have hcz8_1 : w6.cell? ⟨gb177, 1, none⟩ = some (.int .i64 a0_1) := (blk_cell BK177.out 1).trans rfl
   have hcz8_2 : w6.cell? ⟨gb177, 2, none⟩ = some (.bool a0_2) := (blk_cell BK177.out 2).trans rfl
   have hfz8_0 := blk_frozen BK177.out 0
   have hfz8_1 := blk_frozen BK177.out 1
   have hfz8_2 := blk_frozen BK177.out 2
   go_wp2
   go_meet
   case rel => exact ⟨_, (true), (by first | rfl | (simp; done) | (simp [*]; done)), H', ⟨by first | omega | exact Nat.le_refl _⟩, ⟨by (with_reducible repeat first | apply bN | apply bD | apply bA); exact BK177.out⟩, ⟨by repeat (with_reducible first | exact HB.out | apply lA | apply pw_below_drewN | apply lD | refine below_set ?_ GE177.out)⟩⟩
  ·rw [if_neg c7] at H
   have c7b0 : decide (200 < (a0_0.size : Int)) = false := decide_eq_false c7
   have c7b1 : decide (200 < a0_0.size) = false := decide_eq_false (by omega)
   clear c7
   (first | rw [c7b0] | (simp only [i64_w, i32_w]; rw [c7b0]) | skip)
   have H' := Aside0.mk H
   clear H
   have hcz9_0 : w6.cell? ⟨gb177, 0, none⟩ = some (.string a0_0) := (blk_cell BK177.out 0).trans rfl
   have hcz9_1 : w6.cell? ⟨gb177, 1, none⟩ = some (.int .i64 a0_1) := (blk_cell BK177.out 1).trans rfl
   have hcz9_2 : w6.cell? ⟨gb177, 2, none⟩ = some (.bool a0_2) := (blk_cell BK177.out 2).trans rfl
   have hfz9_0 := blk_frozen BK177.out 0
   have hfz9_1 := blk_frozen BK177.out 1
   have hfz9_2 := blk_frozen BK177.out 2
   go_wp2
   go_meet
   case rel => exact ⟨_, (decide ((a1.size : Int) > 200)), (by first | rfl | (simp; done) | (simp [*]; done)), H', ⟨by first | omega | exact Nat.le_refl _⟩, ⟨by (with_reducible repeat first | apply bN | apply bD | apply bA); exact BK177.out⟩, ⟨by repeat (with_reducible first | exact HB.out | apply lA | apply pw_below_drewN | apply lD | refine below_set ?_ GE177.out)⟩⟩
 case rest =>
  clear HC4
  try clear p2
  try clear c3
  try clear c7
  try clear c7b0
  try clear c7b1
  try clear c9
  try clear hcz8_0
  try clear hcz8_1
  try clear hcz8_2
  try clear hcz9_0
  try clear hcz9_1
  try clear hcz9_2
  try clear hfz8_0
  try clear hfz8_1
  try clear hfz8_2
  try clear hfz9_0
  try clear hfz9_1
  try clear hfz9_2
  obtain ⟨kq, x21_3, rfl, HA, HJ3, BK177, HB⟩ := hcut
  cases kq with
  | zero => exact absurd HA.out (by simp [phalaropelaw06_SpecTells.j0])
  | succ kj3 =>
   have H := HA.out
   clear HA
   simp only [phalaropelaw06_SpecTells.j0] at H
   by_cases c10 : x21_3 = true
   ·subst c10
    have H1 : (some t178) = some r := by rw [if_pos rfl] at H; exact H
    clear H
    have H := H1
    clear H1
    obtain rfl := Option.some.inj H
    go_wp2
    go_ret
    exact ⟨by first | rfl | (simp [errW_none, errW_some] <;> rfl) | (simp [*, errW_none, errW_some] <;> rfl), by repeat (with_reducible first | exact HB.out | apply lA | apply pw_below_drewN | apply lD | refine below_set ?_ GE177.out)⟩
   ·replace c10 := Bool.eq_false_iff.mpr c10
    subst c10
    have H1 : ((spec_Take.f a1).bind fun bt179 => ((phalaroperef06_Take.f kj3 a1).bind fun bt185 => (if t178 = true then ((spec_May.f a0_0 a0_1 a0_2).bind fun t191 => ((phalaroperef06_May.f kj3 a0_0 a0_1 a0_2).bind fun t192 => (if (t191 == t192) = true then ((spec_Put.f a0_0 a0_1 a0_2).bind fun t193 => ((phalaroperef06_Put.f kj3 a0_0 a0_1 a0_2).bind fun t194 => (if t193.toList = t194.toList then (if (bt179.1.toList == bt185.1.toList && (bt179.2.1 == bt185.2.1 && (bt179.2.2.1 == bt185.2.2.1))) = true then (if bt179.2.2.2.1 = bt185.2.2.2.1 then (some (bt179.2.2.2.2 == bt185.2.2.2.2)) else (some false)) else (some false)) else (some false)))) else (some false)))) else (some false)))) = some r := by rw [if_neg (show ¬ (false = true) by decide)] at H; exact H
    clear H
    have H := H1
    clear H1
    replace H := Option.bind_eq_some_iff.mp H
    obtain ⟨⟨t179, t180, t181, t182, t183⟩, A110, H⟩ := H
    replace H : ((phalaroperef06_Take.f kj3 a1).bind fun bt185 => (if t178 = true then ((spec_May.f a0_0 a0_1 a0_2).bind fun t191 => ((phalaroperef06_May.f kj3 a0_0 a0_1 a0_2).bind fun t192 => (if (t191 == t192) = true then ((spec_Put.f a0_0 a0_1 a0_2).bind fun t193 => ((phalaroperef06_Put.f kj3 a0_0 a0_1 a0_2).bind fun t194 => (if t193.toList = t194.toList then (if (t179.toList == bt185.1.toList && (t180 == bt185.2.1 && (t181 == bt185.2.2.1))) = true then (if t182 = bt185.2.2.2.1 then (some (t183 == bt185.2.2.2.2)) else (some false)) else (some false)) else (some false)))) else (some false)))) else (some false))) = some r := H
    have A11 := Aside0.mk A110
    clear A110
    replace H := Option.bind_eq_some_iff.mp H
    obtain ⟨⟨t185, t186, t187, t188, t189⟩, A120, H⟩ := H
    replace H : (if t178 = true then ((spec_May.f a0_0 a0_1 a0_2).bind fun t191 => ((phalaroperef06_May.f kj3 a0_0 a0_1 a0_2).bind fun t192 => (if (t191 == t192) = true then ((spec_Put.f a0_0 a0_1 a0_2).bind fun t193 => ((phalaroperef06_Put.f kj3 a0_0 a0_1 a0_2).bind fun t194 => (if t193.toList = t194.toList then (if (t179.toList == t185.toList && (t180 == t186 && (t181 == t187))) = true then (if t182 = t188 then (some (t183 == t189)) else (some false)) else (some false)) else (some false)))) else (some false)))) else (some false)) = some r := H
    have A12 := Aside0.mk A120
    clear A120
    by_cases c13 : t178 = true
    ·subst c13
     have H1 : ((spec_May.f a0_0 a0_1 a0_2).bind fun t191 => ((phalaroperef06_May.f kj3 a0_0 a0_1 a0_2).bind fun t192 => (if (t191 == t192) = true then ((spec_Put.f a0_0 a0_1 a0_2).bind fun t193 => ((phalaroperef06_Put.f kj3 a0_0 a0_1 a0_2).bind fun t194 => (if t193.toList = t194.toList then (if (t179.toList == t185.toList && (t180 == t186 && (t181 == t187))) = true then (if t182 = t188 then (some (t183 == t189)) else (some false)) else (some false)) else (some false)))) else (some false)))) = some r := by rw [if_pos rfl] at H; exact H
     clear H
     have H := H1
     clear H1
     replace H := Option.bind_eq_some_iff.mp H
     obtain ⟨t191, A140, H⟩ := H
     replace H : ((phalaroperef06_May.f kj3 a0_0 a0_1 a0_2).bind fun t192 => (if (t191 == t192) = true then ((spec_Put.f a0_0 a0_1 a0_2).bind fun t193 => ((phalaroperef06_Put.f kj3 a0_0 a0_1 a0_2).bind fun t194 => (if t193.toList = t194.toList then (if (t179.toList == t185.toList && (t180 == t186 && (t181 == t187))) = true then (if t182 = t188 then (some (t183 == t189)) else (some false)) else (some false)) else (some false)))) else (some false))) = some r := H
     have A14 := Aside0.mk A140
     clear A140
     replace H := Option.bind_eq_some_iff.mp H
     obtain ⟨t192, A150, H⟩ := H
     replace H : (if (t191 == t192) = true then ((spec_Put.f a0_0 a0_1 a0_2).bind fun t193 => ((phalaroperef06_Put.f kj3 a0_0 a0_1 a0_2).bind fun t194 => (if t193.toList = t194.toList then (if (t179.toList == t185.toList && (t180 == t186 && (t181 == t187))) = true then (if t182 = t188 then (some (t183 == t189)) else (some false)) else (some false)) else (some false)))) else (some false)) = some r := H
     have A15 := Aside0.mk A150
     clear A150
     by_cases c16 : (t191 == t192) = true
     ·rw [if_pos c16] at H
      have c16b0 : (t191 == t192) = true := c16
      (try (have c16b1 : decide (t191 = t192) = true := by simpa using c16))
      (try (have c16b2 : (t191 == t192) = true := by simpa using c16))
      clear c16
      replace H := Option.bind_eq_some_iff.mp H
      obtain ⟨t193, A170, H⟩ := H
      replace H : ((phalaroperef06_Put.f kj3 a0_0 a0_1 a0_2).bind fun t194 => (if t193.toList = t194.toList then (if (t179.toList == t185.toList && (t180 == t186 && (t181 == t187))) = true then (if t182 = t188 then (some (t183 == t189)) else (some false)) else (some false)) else (some false))) = some r := H
      have A17 := Aside0.mk A170
      clear A170
      replace H := Option.bind_eq_some_iff.mp H
      obtain ⟨t194, A180, H⟩ := H
      replace H : (if t193.toList = t194.toList then (if (t179.toList == t185.toList && (t180 == t186 && (t181 == t187))) = true then (if t182 = t188 then (some (t183 == t189)) else (some false)) else (some false)) else (some false)) = some r := H
      have A18 := Aside0.mk A180
      clear A180
      by_cases c19 : t193.toList = t194.toList
      ·rw [if_pos c19] at H
       have c19b0 : (t193.toList == t194.toList) = true := beq_iff_eq.mpr c19
       have c19b1 : (t193.toList != t194.toList) = false := bne_eq_false_iff_eq.mpr c19
       clear c19
       by_cases c20 : (t179.toList == t185.toList && (t180 == t186 && (t181 == t187))) = true
       ·rw [if_pos c20] at H
        have c20b0 : (t179.toList == t185.toList && (t180 == t186 && (t181 == t187))) = true := c20
        (try (have c20b1 : decide (t179.toList = t185.toList && (t180 == t186 && (t181 == t187))) = true := by simpa using c20))
        (try (have c20b2 : (t179.toList == t185.toList && (t180 == t186 && (t181 == t187))) = true := by simpa using c20))
        clear c20
        by_cases c21 : t182 = t188
        ·rw [if_pos c21] at H
         have c21b0 : (t182 == t188) = true := beq_iff_eq.mpr c21
         have c21b1 : (t182 != t188) = false := bne_eq_false_iff_eq.mpr c21
         clear c21
         obtain rfl := Option.some.inj H
         try go_wp2_with (first | ((with_reducible refine gate_callee (f := 10) rfl ?_); refine goesL_ (some 25) rfl rfl Tryd.func10 (by kernel_rfl) rfl #[.string a1] rfl (by (try simp only [List.map_toArray, List.map_cons, List.map_nil]); first | done | rfl) ?_; (with_reducible refine (spec_Take.calls a1 t179 t180 t181 t182 t183 _ A11.out (X.Gl.below hG.out (by repeat (with_reducible first | exact HB.out | apply lA | apply pw_below_drewN | apply lD | refine below_set ?_ (Aside0.out (by assumption)))))).mono ?_); rintro e w22 ⟨rfl, hb⟩; refine ⟨_, rfl, ?_⟩; have n0_ := Aside0.mk (blk_below (g := gb177) (o := .cells #[.string a0_0, .int .i64 a0_1, .bool a0_2] 23 (0, 0)) (by (with_reducible repeat first | apply bN | apply bD | apply bA); exact BK177.out) hb); have n1_ := Aside0.mk (below_step (by repeat (with_reducible first | exact HB.out | apply lA | apply pw_below_drewN | apply lD | refine below_set ?_ GE177.out)) hb); clear BK177; clear HB; have BK177 := n0_; have HB := n1_; clear n0_ n1_; (try clear hb); (try clear hb2); (try clear hk); (try clear hi)) | ((with_reducible refine gate_dst (N := 6) rfl ?_); (try (refine gate_guard (by rfl) ?_; dsimp only)); refine box_event ?hg (N := 6) ?hd (cs := #[.string (⟨#[]⟩ : ByteArray), .int .i64 0, .bool false]) (t := 23) ?hr ?_; (case hd => rfl); (case hg => rfl); (case hr => first | (go_simp; done) | (go_simp; rfl)); intro gb184 hg w23 hbox hb; have n0_ := Aside0.mk (blk_below (g := gb177) (o := .cells #[.string a0_0, .int .i64 a0_1, .bool a0_2] 23 (0, 0)) (by (with_reducible repeat first | apply bN | apply bD | apply bA); exact BK177.out) hb); have n1_ := Aside0.mk (below_step (by repeat (with_reducible first | exact HB.out | apply lA | apply pw_below_drewN | apply lD | refine below_set ?_ GE177.out)) hb); have n2_ := Aside0.mk (hbox); have n3_ := Aside0.mk ((by rw [hg]; exact (below_size (by repeat (with_reducible first | exact HB.out | apply lA | apply pw_below_drewN | apply lD | refine below_set ?_ GE177.out))) : w.heap.size ≤ gb184)); have n4_ := Aside0.mk ((by rw [hg]; exact (below_size (by repeat (with_reducible first | exact HB.out | apply lA | apply pw_below_drewN | apply lD | refine below_set ?_ GE177.out))) : w.heap.size ≤ gb184)); have n5_ := Aside0.mk ((by rw [hg]; exact Nat.ne_of_lt (blk_lt (g := gb177) (o := .cells #[.string a0_0, .int .i64 a0_1, .bool a0_2] 23 (0, 0)) (by (with_reducible repeat first | apply bN | apply bD | apply bA); exact BK177.out)) : gb177 ≠ gb184)); have n6_ := Aside0.mk ((by rw [hg]; exact Nat.ne_of_gt (blk_lt (g := gb177) (o := .cells #[.string a0_0, .int .i64 a0_1, .bool a0_2] 23 (0, 0)) (by (with_reducible repeat first | apply bN | apply bD | apply bA); exact BK177.out)) : gb184 ≠ gb177)); clear BK177; clear HB; have BK177 := n0_; have HB := n1_; have BK184 := n2_; have GW184 := n3_; have GE184 := n4_; have NB177_184 := n5_; have NB184_177 := n6_; clear n0_ n1_ n2_ n3_ n4_ n5_ n6_; clear hb hbox hg; have hnb24 := NB184_177.out; have hnc24 := NB177_184.out; have hcz25_0 : w23.cell? ⟨gb184, 0, none⟩ = some (.string (⟨#[]⟩ : ByteArray)) := (blk_cell BK184.out 0).trans rfl; have hcz25_1 : w23.cell? ⟨gb184, 1, none⟩ = some (.int .i64 0) := (blk_cell BK184.out 1).trans rfl; have hcz25_2 : w23.cell? ⟨gb184, 2, none⟩ = some (.bool false) := (blk_cell BK184.out 2).trans rfl; have hfz25_0 := blk_frozen BK184.out 0; have hfz25_1 := blk_frozen BK184.out 1; have hfz25_2 := blk_frozen BK184.out 2) | ((with_reducible refine gate_callee (f := 11) rfl ?_); refine goesL_ (some 31) rfl rfl Tryd.func11 (by kernel_rfl) rfl #[.string a1] rfl (by (try simp only [List.map_toArray, List.map_cons, List.map_nil]); first | done | rfl) ?_; (with_reducible refine (phalaroperef06_Take.calls kj3 a1 t185 t186 t187 t188 t189 _ A12.out).mono ?_); rintro e w26 ⟨rfl, hb⟩; refine ⟨_, rfl, ?_⟩; have n0_ := Aside0.mk (blk_below (g := gb177) (o := .cells #[.string a0_0, .int .i64 a0_1, .bool a0_2] 23 (0, 0)) (by (with_reducible repeat first | apply bN | apply bD | apply bA); refine blk_far ?_ NB177_184.out _; (with_reducible repeat first | apply bN | apply bD | apply bA); refine blk_far ?_ NB177_184.out _; (with_reducible repeat first | apply bN | apply bD | apply bA); refine blk_far ?_ NB177_184.out _; (with_reducible repeat first | apply bN | apply bD | apply bA); exact BK177.out) hb); have n1_ := Aside0.mk (blk_below (g := gb184) (o := .cells #[.string t179, .int .i64 t180, .bool t181] 23 (0, 0)) (by (with_reducible repeat first | apply bN | apply bD | apply bA); refine blk_put (cs := #[.string t179, .int .i64 t180, .bool false]) ?_ 2 _ rfl; (with_reducible repeat first | apply bN | apply bD | apply bA); refine blk_put (cs := #[.string t179, .int .i64 0, .bool false]) ?_ 1 _ rfl; (with_reducible repeat first | apply bN | apply bD | apply bA); refine blk_put (cs := #[.string (⟨#[]⟩ : ByteArray), .int .i64 0, .bool false]) ?_ 0 _ rfl; (with_reducible repeat first | apply bN | apply bD | apply bA); exact BK184.out) hb); have n2_ := Aside0.mk (below_step (by repeat (with_reducible first | exact HB.out | apply lA | apply pw_below_drewN | apply lD | refine below_set ?_ GE177.out | refine below_set ?_ GE184.out)) hb); clear BK177; clear BK184; clear HB; have BK177 := n0_; have BK184 := n1_; have HB := n2_; clear n0_ n1_ n2_; (try clear hb); (try clear hb2); (try clear hk); (try clear hi)) | ((with_reducible refine gate_dst (N := 9) rfl ?_); (try (refine gate_guard (by rfl) ?_; dsimp only)); refine box_event ?hg (N := 9) ?hd (cs := #[.string (⟨#[]⟩ : ByteArray), .int .i64 0, .bool false]) (t := 23) ?hr ?_; (case hd => rfl); (case hg => rfl); (case hr => first | (go_simp; done) | (go_simp; rfl)); intro gb190 hg w27 hbox hb; have n0_ := Aside0.mk (blk_below (g := gb177) (o := .cells #[.string a0_0, .int .i64 a0_1, .bool a0_2] 23 (0, 0)) (by (with_reducible repeat first | apply bN | apply bD | apply bA); exact BK177.out) hb); have n1_ := Aside0.mk (blk_below (g := gb184) (o := .cells #[.string t179, .int .i64 t180, .bool t181] 23 (0, 0)) (by (with_reducible repeat first | apply bN | apply bD | apply bA); exact BK184.out) hb); have n2_ := Aside0.mk (below_step (by repeat (with_reducible first | exact HB.out | apply lA | apply pw_below_drewN | apply lD | refine below_set ?_ GE177.out | refine below_set ?_ GE184.out)) hb); have n3_ := Aside0.mk (hbox); have n4_ := Aside0.mk ((by rw [hg]; exact (below_size (by repeat (with_reducible first | exact HB.out | apply lA | apply pw_below_drewN | apply lD | refine below_set ?_ GE177.out | refine below_set ?_ GE184.out))) : w.heap.size ≤ gb190)); have n5_ := Aside0.mk ((by rw [hg]; exact (below_size (by repeat (with_reducible first | exact HB.out | apply lA | apply pw_below_drewN | apply lD | refine below_set ?_ GE177.out | refine below_set ?_ GE184.out))) : w.heap.size ≤ gb190)); have n6_ := Aside0.mk ((by rw [hg]; exact Nat.ne_of_lt (blk_lt (g := gb177) (o := .cells #[.string a0_0, .int .i64 a0_1, .bool a0_2] 23 (0, 0)) (by (with_reducible repeat first | apply bN | apply bD | apply bA); exact BK177.out)) : gb177 ≠ gb190)); have n7_ := Aside0.mk ((by rw [hg]; exact Nat.ne_of_gt (blk_lt (g := gb177) (o := .cells #[.string a0_0, .int .i64 a0_1, .bool a0_2] 23 (0, 0)) (by (with_reducible repeat first | apply bN | apply bD | apply bA); exact BK177.out)) : gb190 ≠ gb177)); have n8_ := Aside0.mk ((by rw [hg]; exact Nat.ne_of_lt (blk_lt (g := gb184) (o := .cells #[.string t179, .int .i64 t180, .bool t181] 23 (0, 0)) (by (with_reducible repeat first | apply bN | apply bD | apply bA); exact BK184.out)) : gb184 ≠ gb190)); have n9_ := Aside0.mk ((by rw [hg]; exact Nat.ne_of_gt (blk_lt (g := gb184) (o := .cells #[.string t179, .int .i64 t180, .bool t181] 23 (0, 0)) (by (with_reducible repeat first | apply bN | apply bD | apply bA); exact BK184.out)) : gb190 ≠ gb184)); clear BK177; clear BK184; clear HB; have BK177 := n0_; have BK184 := n1_; have HB := n2_; have BK190 := n3_; have GW190 := n4_; have GE190 := n5_; have NB177_190 := n6_; have NB190_177 := n7_; have NB184_190 := n8_; have NB190_184 := n9_; clear n0_ n1_ n2_ n3_ n4_ n5_ n6_ n7_ n8_ n9_; clear hb hbox hg; have hnb28 := NB190_177.out; have hnc28 := NB177_190.out; have hnb29 := NB190_184.out; have hnc29 := NB184_190.out; have hcz30_0 : w27.cell? ⟨gb190, 0, none⟩ = some (.string (⟨#[]⟩ : ByteArray)) := (blk_cell BK190.out 0).trans rfl; have hcz30_1 : w27.cell? ⟨gb190, 1, none⟩ = some (.int .i64 0) := (blk_cell BK190.out 1).trans rfl; have hcz30_2 : w27.cell? ⟨gb190, 2, none⟩ = some (.bool false) := (blk_cell BK190.out 2).trans rfl; have hfz30_0 := blk_frozen BK190.out 0; have hfz30_1 := blk_frozen BK190.out 1; have hfz30_2 := blk_frozen BK190.out 2))
         have n0_ : Aside0 ((((w27.setCell ⟨gb190, 0, none⟩ (.string t185)).setCell ⟨gb190, 1, none⟩ (.int .i64 t186)).setCell ⟨gb190, 2, none⟩ (.bool t187)).heap[gb177]? = some (.cells #[.string a0_0, .int .i64 a0_1, .bool a0_2] 23 (0, 0))) := ⟨by (with_reducible repeat first | apply bN | apply bD | apply bA); refine blk_far ?_ NB177_190.out _; (with_reducible repeat first | apply bN | apply bD | apply bA); refine blk_far ?_ NB177_190.out _; (with_reducible repeat first | apply bN | apply bD | apply bA); refine blk_far ?_ NB177_190.out _; (with_reducible repeat first | apply bN | apply bD | apply bA); exact BK177.out⟩
         have n1_ : Aside0 ((((w27.setCell ⟨gb190, 0, none⟩ (.string t185)).setCell ⟨gb190, 1, none⟩ (.int .i64 t186)).setCell ⟨gb190, 2, none⟩ (.bool t187)).heap[gb184]? = some (.cells #[.string t179, .int .i64 t180, .bool t181] 23 (0, 0))) := ⟨by (with_reducible repeat first | apply bN | apply bD | apply bA); refine blk_far ?_ NB184_190.out _; (with_reducible repeat first | apply bN | apply bD | apply bA); refine blk_far ?_ NB184_190.out _; (with_reducible repeat first | apply bN | apply bD | apply bA); refine blk_far ?_ NB184_190.out _; (with_reducible repeat first | apply bN | apply bD | apply bA); exact BK184.out⟩
         have n2_ : Aside0 ((((w27.setCell ⟨gb190, 0, none⟩ (.string t185)).setCell ⟨gb190, 1, none⟩ (.int .i64 t186)).setCell ⟨gb190, 2, none⟩ (.bool t187)).heap[gb190]? = some (.cells #[.string t185, .int .i64 t186, .bool t187] 23 (0, 0))) := ⟨by (with_reducible repeat first | apply bN | apply bD | apply bA); refine blk_put (cs := #[.string t185, .int .i64 t186, .bool false]) ?_ 2 _ rfl; (with_reducible repeat first | apply bN | apply bD | apply bA); refine blk_put (cs := #[.string t185, .int .i64 0, .bool false]) ?_ 1 _ rfl; (with_reducible repeat first | apply bN | apply bD | apply bA); refine blk_put (cs := #[.string (⟨#[]⟩ : ByteArray), .int .i64 0, .bool false]) ?_ 0 _ rfl; (with_reducible repeat first | apply bN | apply bD | apply bA); exact BK190.out⟩
         have n3_ : Aside0 (Below w.heap.size w (((w27.setCell ⟨gb190, 0, none⟩ (.string t185)).setCell ⟨gb190, 1, none⟩ (.int .i64 t186)).setCell ⟨gb190, 2, none⟩ (.bool t187))) := ⟨by repeat (with_reducible first | exact HB.out | apply lA | apply pw_below_drewN | apply lD | refine below_set ?_ GE177.out | refine below_set ?_ GE184.out | refine below_set ?_ GE190.out)⟩
         (try clear BK177)
         (try clear BK184)
         (try clear BK190)
         (try clear HB)
         generalize (((w27.setCell ⟨gb190, 0, none⟩ (.string t185)).setCell ⟨gb190, 1, none⟩ (.int .i64 t186)).setCell ⟨gb190, 2, none⟩ (.bool t187)) = w31 at n0_ n1_ n2_ n3_ ⊢
         have BK177 := n0_
         have BK184 := n1_
         have BK190 := n2_
         have HB := n3_
         clear n0_ n1_ n2_ n3_
         have n0_ := Aside0.mk (blk_drew BK177.out)
         have n1_ := Aside0.mk (blk_drew BK184.out)
         have n2_ := Aside0.mk (blk_drew BK190.out)
         have n3_ := Aside0.mk (below_drew1 HB.out)
         clear BK177
         clear BK184
         clear BK190
         clear HB
         have BK177 := n0_
         have BK184 := n1_
         have BK190 := n2_
         have HB := n3_
         clear n0_ n1_ n2_ n3_
         refine start_ (n := 31) (S := fun w' => w'.cell? ⟨gb177, 0, none⟩ = some (.string a0_0) ∧ w'.cell? ⟨gb177, 1, none⟩ = some (.int .i64 a0_1) ∧ w'.cell? ⟨gb177, 2, none⟩ = some (.bool a0_2) ∧ w'.cell? ⟨gb184, 0, none⟩ = some (.string t179) ∧ w'.cell? ⟨gb184, 1, none⟩ = some (.int .i64 t180) ∧ w'.cell? ⟨gb184, 2, none⟩ = some (.bool t181) ∧ w'.cell? ⟨gb190, 0, none⟩ = some (.string t185) ∧ w'.cell? ⟨gb190, 1, none⟩ = some (.int .i64 t186) ∧ w'.cell? ⟨gb190, 2, none⟩ = some (.bool t187)) (ds := []) #[false,false,false,false,false,false,false,false,false,false,false,false,false,false,false,false,false,false,false,false,false,false,false,false,false,false,false,false,false,false,false] (by kernel_rfl) rfl rfl ⟨(blk_cell BK177.out 0).trans rfl, (blk_cell BK177.out 1).trans rfl, (blk_cell BK177.out 2).trans rfl, (blk_cell BK184.out 0).trans rfl, (blk_cell BK184.out 1).trans rfl, (blk_cell BK184.out 2).trans rfl, (blk_cell BK190.out 0).trans rfl, (blk_cell BK190.out 1).trans rfl, (blk_cell BK190.out 2).trans rfl⟩ (fun hHeld => ?_); refine with_tabW phalaropelaw06_SpecTells.tab6 phalaropelaw06_SpecTells.bits6 (fun HT_ HW_ => ?_)
         generalize w31.drew = w32 at BK177 BK184 BK190 HB hHeld ⊢
         refine pure_ (i := 0) (N := some 35) (v := ?_) (a' := ?_) #[true,false,false,false,false,false,false,false,false,false,false,false,false,false,false,false,false,false,false,false,false,false,false,false,false,false,false,false,false,false,false] rfl rfl (any_of HT_.out (by kernel_rfl)) (fun _ _ _ h => h) (Or.inl ⟨by rfl, ?_⟩) ?_ ?_
         rotate_left
         ·intro w'
          go_simp
          with_reducible rfl
         rotate_left
         ·(simp only [Act.put, List.setIfInBounds_toArray, List.set_cons_zero, List.set_cons_succ, i64_w, i32_w])
          rfl
         refine pure_ (i := 1) (N := some 36) (v := ?_) (a' := ?_) #[true,true,false,false,false,false,false,false,false,false,false,false,false,false,false,false,false,false,false,false,false,false,false,false,false,false,false,false,false,false,false] rfl rfl (any_of HT_.out (by kernel_rfl)) (fun _ _ _ h => h) (Or.inl ⟨by rfl, ?_⟩) ?_ ?_
         rotate_left
         ·intro w'
          go_simp
          with_reducible rfl
         rotate_left
         ·(simp only [Act.put, List.setIfInBounds_toArray, List.set_cons_zero, List.set_cons_succ, i64_w, i32_w])
          rfl
         refine take_ (i := 2) (N := some 37) (v := ?_) (a' := ?_) #[true,true,true,false,false,false,false,false,false,false,false,false,false,false,false,false,false,false,false,false,false,false,false,false,false,false,false,false,false,false,false] rfl rfl (take_ofW HT_.out HW_.out (by kernel_rfl)) (fun _ _ _ h => h) (Or.inl ⟨by rfl, ?_⟩) hHeld ?_ ?_
         rotate_left
         ·rintro w' ⟨s0, s1, s2, s3, s4, s5, s6, s7, s8⟩
          go_simp
          with_reducible rfl
         rotate_left
         ·(simp only [Act.put, List.setIfInBounds_toArray, List.set_cons_zero, List.set_cons_succ, i64_w, i32_w])
          rfl
         refine take_ (i := 4) (N := some 39) (v := ?_) (a' := ?_) #[true,true,true,false,true,false,false,false,false,false,false,false,false,false,false,false,false,false,false,false,false,false,false,false,false,false,false,false,false,false,false] rfl rfl (take_ofW HT_.out HW_.out (by kernel_rfl)) (fun _ _ _ h => h) (Or.inl ⟨by rfl, ?_⟩) hHeld ?_ ?_
         rotate_left
         ·rintro w' ⟨s0, s1, s2, s3, s4, s5, s6, s7, s8⟩
          go_simp
          with_reducible rfl
         rotate_left
         ·(simp only [Act.put, List.setIfInBounds_toArray, List.set_cons_zero, List.set_cons_succ, i64_w, i32_w])
          rfl
         refine one_ (i := 3) (N := some 38) #[true,true,true,true,true,false,false,false,false,false,false,false,false,false,false,false,false,false,false,false,false,false,false,false,false,false,false,false,false,false,false] rfl rfl (one_of HT_.out (by kernel_rfl)) (by decide) (fun K hK => ?_)
         refine goes_ Tryd.func12 (by kernel_rfl) rfl #[.agg #[.string a0_0, .int .i64 a0_1, .bool a0_2]] (by rfl) rfl rfl (by (try simp only [List.map_toArray, List.map_cons, List.map_nil]); first | done | rfl) ?_
         with_reducible refine (spec_May.calls a0_0 a0_1 a0_2 t191 _ A14.out).mono ?_
         rintro e w33 ⟨rfl, hb⟩
         refine ⟨_, rfl, ?_⟩
         have n0_ := Aside0.mk (blk_below (g := gb177) (o := .cells #[.string a0_0, .int .i64 a0_1, .bool a0_2] 23 (0, 0)) (by (with_reducible repeat first | apply bN | apply bD | apply bA); exact BK177.out) hb)
         have n1_ := Aside0.mk (blk_below (g := gb184) (o := .cells #[.string t179, .int .i64 t180, .bool t181] 23 (0, 0)) (by (with_reducible repeat first | apply bN | apply bD | apply bA); exact BK184.out) hb)
         have n2_ := Aside0.mk (blk_below (g := gb190) (o := .cells #[.string t185, .int .i64 t186, .bool t187] 23 (0, 0)) (by (with_reducible repeat first | apply bN | apply bD | apply bA); exact BK190.out) hb)
         have n3_ := Aside0.mk (below_step (by repeat (with_reducible first | exact HB.out | apply lA | apply pw_below_drewN | apply lD | refine below_set ?_ GE177.out | refine below_set ?_ GE184.out | refine below_set ?_ GE190.out)) hb)
         clear BK177
         clear BK184
         clear BK190
         clear HB
         have BK177 := n0_
         have BK184 := n1_
         have BK190 := n2_
         have HB := n3_
         clear n0_ n1_ n2_ n3_
         (try clear hb)
         (try clear hb2)
         (try clear hk)
         (try clear hi)
         refine hK.out _ _ ⟨(blk_cell BK177.out 0).trans rfl, (blk_cell BK177.out 1).trans rfl, (blk_cell BK177.out 2).trans rfl, (blk_cell BK184.out 0).trans rfl, (blk_cell BK184.out 1).trans rfl, (blk_cell BK184.out 2).trans rfl, (blk_cell BK190.out 0).trans rfl, (blk_cell BK190.out 1).trans rfl, (blk_cell BK190.out 2).trans rfl⟩ (fun hHeld => ?_)
         clear hK K
         refine norm_ (a' := ?_) ?_ ?_
         rotate_left
         ·show Act.put _ (some 38) _ = _
          (simp only [Act.put, List.setIfInBounds_toArray, List.set_cons_zero, List.set_cons_succ, i64_w, i32_w])
          rfl
         refine one_ (i := 5) (N := some 40) #[true,true,true,true,true,true,false,false,false,false,false,false,false,false,false,false,false,false,false,false,false,false,false,false,false,false,false,false,false,false,false] rfl rfl (one_of HT_.out (by kernel_rfl)) (by decide) (fun K hK => ?_)
         refine goes_ Tryd.func13 (by kernel_rfl) rfl #[.agg #[.string a0_0, .int .i64 a0_1, .bool a0_2]] (by rfl) rfl rfl (by (try simp only [List.map_toArray, List.map_cons, List.map_nil]); first | done | rfl) ?_
         with_reducible refine (phalaroperef06_May.calls kj3 a0_0 a0_1 a0_2 t192 _ A15.out).mono ?_
         rintro e w34 ⟨rfl, hb⟩
         refine ⟨_, rfl, ?_⟩
         have n0_ := Aside0.mk (blk_below (g := gb177) (o := .cells #[.string a0_0, .int .i64 a0_1, .bool a0_2] 23 (0, 0)) (by (with_reducible repeat first | apply bN | apply bD | apply bA); exact BK177.out) hb)
         have n1_ := Aside0.mk (blk_below (g := gb184) (o := .cells #[.string t179, .int .i64 t180, .bool t181] 23 (0, 0)) (by (with_reducible repeat first | apply bN | apply bD | apply bA); exact BK184.out) hb)
         have n2_ := Aside0.mk (blk_below (g := gb190) (o := .cells #[.string t185, .int .i64 t186, .bool t187] 23 (0, 0)) (by (with_reducible repeat first | apply bN | apply bD | apply bA); exact BK190.out) hb)
         have n3_ := Aside0.mk (below_step (by repeat (with_reducible first | exact HB.out | apply lA | apply pw_below_drewN | apply lD | refine below_set ?_ GE177.out | refine below_set ?_ GE184.out | refine below_set ?_ GE190.out)) hb)
         clear BK177
         clear BK184
         clear BK190
         clear HB
         have BK177 := n0_
         have BK184 := n1_
         have BK190 := n2_
         have HB := n3_
         clear n0_ n1_ n2_ n3_
         (try clear hb)
         (try clear hb2)
         (try clear hk)
         (try clear hi)
         refine hK.out _ _ ⟨(blk_cell BK177.out 0).trans rfl, (blk_cell BK177.out 1).trans rfl, (blk_cell BK177.out 2).trans rfl, (blk_cell BK184.out 0).trans rfl, (blk_cell BK184.out 1).trans rfl, (blk_cell BK184.out 2).trans rfl, (blk_cell BK190.out 0).trans rfl, (blk_cell BK190.out 1).trans rfl, (blk_cell BK190.out 2).trans rfl⟩ (fun hHeld => ?_)
         clear hK K
         refine norm_ (a' := ?_) ?_ ?_
         rotate_left
         ·show Act.put _ (some 40) _ = _
          (simp only [Act.put, List.setIfInBounds_toArray, List.set_cons_zero, List.set_cons_succ, i64_w, i32_w])
          rfl
         refine pure_ (i := 6) (N := some 41) (v := ?_) (a' := ?_) #[true,true,true,true,true,true,true,false,false,false,false,false,false,false,false,false,false,false,false,false,false,false,false,false,false,false,false,false,false,false,false] rfl rfl (any_of HT_.out (by kernel_rfl)) (fun _ _ _ h => h) (Or.inl ⟨by rfl, ?_⟩) ?_ ?_
         rotate_left
         ·intro w'
          go_simp
          with_reducible rfl
         rotate_left
         ·(simp only [Act.put, List.setIfInBounds_toArray, List.set_cons_zero, List.set_cons_succ, i64_w, i32_w])
          rfl
         refine pure_ (i := 7) (N := some 42) (v := ?_) (a' := ?_) #[true,true,true,true,true,true,true,true,false,false,false,false,false,false,false,false,false,false,false,false,false,false,false,false,false,false,false,false,false,false,false] rfl rfl (any_of HT_.out (by kernel_rfl)) (fun _ _ _ h => h) (Or.inl ⟨by rfl, ?_⟩) ?_ ?_
         rotate_left
         ·intro w'
          go_simp
          with_reducible rfl
         rotate_left
         ·(simp only [Act.put, List.setIfInBounds_toArray, List.set_cons_zero, List.set_cons_succ, i64_w, i32_w])
          rfl
         refine pure_ (i := 8) (N := some 43) (v := ?_) (a' := ?_) #[true,true,true,true,true,true,true,true,true,false,false,false,false,false,false,false,false,false,false,false,false,false,false,false,false,false,false,false,false,false,false] rfl rfl (any_of HT_.out (by kernel_rfl)) (fun _ _ _ h => h) (Or.inl ⟨by rfl, ?_⟩) ?_ ?_
         rotate_left
         ·intro w'
          go_simp
          with_reducible rfl
         rotate_left
         ·(simp only [Act.put, List.setIfInBounds_toArray, List.set_cons_zero, List.set_cons_succ, i64_w, i32_w])
          rfl
         refine take_ (i := 9) (N := some 44) (v := ?_) (a' := ?_) #[true,true,true,true,true,true,true,true,true,true,false,false,false,false,false,false,false,false,false,false,false,false,false,false,false,false,false,false,false,false,false] rfl rfl (take_ofW HT_.out HW_.out (by kernel_rfl)) (fun _ _ _ h => h) (Or.inl ⟨by rfl, ?_⟩) hHeld ?_ ?_
         rotate_left
         ·rintro w' ⟨s0, s1, s2, s3, s4, s5, s6, s7, s8⟩
          go_simp
          with_reducible rfl
         rotate_left
         ·(simp only [Act.put, List.setIfInBounds_toArray, List.set_cons_zero, List.set_cons_succ, i64_w, i32_w])
          rfl
         refine take_ (i := 11) (N := some 46) (v := ?_) (a' := ?_) #[true,true,true,true,true,true,true,true,true,true,false,true,false,false,false,false,false,false,false,false,false,false,false,false,false,false,false,false,false,false,false] rfl rfl (take_ofW HT_.out HW_.out (by kernel_rfl)) (fun _ _ _ h => h) (Or.inl ⟨by rfl, ?_⟩) hHeld ?_ ?_
         rotate_left
         ·rintro w' ⟨s0, s1, s2, s3, s4, s5, s6, s7, s8⟩
          go_simp
          with_reducible rfl
         rotate_left
         ·(simp only [Act.put, List.setIfInBounds_toArray, List.set_cons_zero, List.set_cons_succ, i64_w, i32_w])
          rfl
         refine one_ (i := 10) (N := some 45) #[true,true,true,true,true,true,true,true,true,true,true,true,false,false,false,false,false,false,false,false,false,false,false,false,false,false,false,false,false,false,false] rfl rfl (one_of HT_.out (by kernel_rfl)) (by decide) (fun K hK => ?_)
         refine goes_ Tryd.func14 (by kernel_rfl) rfl #[.agg #[.string a0_0, .int .i64 a0_1, .bool a0_2]] (by rfl) rfl rfl (by (try simp only [List.map_toArray, List.map_cons, List.map_nil]); first | done | rfl) ?_
         with_reducible refine (spec_Put.calls a0_0 a0_1 a0_2 t193 _ A17.out (X.Gl.below hG.out (by repeat (with_reducible first | exact HB.out | apply lA | apply pw_below_drewN | apply lD | refine below_set ?_ (Aside0.out (by assumption)))))).mono ?_
         rintro e w35 ⟨rfl, hb⟩
         refine ⟨_, rfl, ?_⟩
         have n0_ := Aside0.mk (blk_below (g := gb177) (o := .cells #[.string a0_0, .int .i64 a0_1, .bool a0_2] 23 (0, 0)) (by (with_reducible repeat first | apply bN | apply bD | apply bA); exact BK177.out) hb)
         have n1_ := Aside0.mk (blk_below (g := gb184) (o := .cells #[.string t179, .int .i64 t180, .bool t181] 23 (0, 0)) (by (with_reducible repeat first | apply bN | apply bD | apply bA); exact BK184.out) hb)
         have n2_ := Aside0.mk (blk_below (g := gb190) (o := .cells #[.string t185, .int .i64 t186, .bool t187] 23 (0, 0)) (by (with_reducible repeat first | apply bN | apply bD | apply bA); exact BK190.out) hb)
         have n3_ := Aside0.mk (below_step (by repeat (with_reducible first | exact HB.out | apply lA | apply pw_below_drewN | apply lD | refine below_set ?_ GE177.out | refine below_set ?_ GE184.out | refine below_set ?_ GE190.out)) hb)
         clear BK177
         clear BK184
         clear BK190
         clear HB
         have BK177 := n0_
         have BK184 := n1_
         have BK190 := n2_
         have HB := n3_
         clear n0_ n1_ n2_ n3_
         (try clear hb)
         (try clear hb2)
         (try clear hk)
         (try clear hi)
         refine hK.out _ _ ⟨(blk_cell BK177.out 0).trans rfl, (blk_cell BK177.out 1).trans rfl, (blk_cell BK177.out 2).trans rfl, (blk_cell BK184.out 0).trans rfl, (blk_cell BK184.out 1).trans rfl, (blk_cell BK184.out 2).trans rfl, (blk_cell BK190.out 0).trans rfl, (blk_cell BK190.out 1).trans rfl, (blk_cell BK190.out 2).trans rfl⟩ (fun hHeld => ?_)
         clear hK K
         refine norm_ (a' := ?_) ?_ ?_
         rotate_left
         ·show Act.put _ (some 45) _ = _
          (simp only [Act.put, List.setIfInBounds_toArray, List.set_cons_zero, List.set_cons_succ, i64_w, i32_w])
          rfl
         refine one_ (i := 12) (N := some 47) #[true,true,true,true,true,true,true,true,true,true,true,true,true,false,false,false,false,false,false,false,false,false,false,false,false,false,false,false,false,false,false] rfl rfl (one_of HT_.out (by kernel_rfl)) (by decide) (fun K hK => ?_)
         refine goes_ Tryd.func15 (by kernel_rfl) rfl #[.agg #[.string a0_0, .int .i64 a0_1, .bool a0_2]] (by rfl) rfl rfl (by (try simp only [List.map_toArray, List.map_cons, List.map_nil]); first | done | rfl) ?_
         with_reducible refine (phalaroperef06_Put.calls kj3 a0_0 a0_1 a0_2 t194 _ A18.out).mono ?_
         rintro e w36 ⟨rfl, hb⟩
         refine ⟨_, rfl, ?_⟩
         have n0_ := Aside0.mk (blk_below (g := gb177) (o := .cells #[.string a0_0, .int .i64 a0_1, .bool a0_2] 23 (0, 0)) (by (with_reducible repeat first | apply bN | apply bD | apply bA); exact BK177.out) hb)
         have n1_ := Aside0.mk (blk_below (g := gb184) (o := .cells #[.string t179, .int .i64 t180, .bool t181] 23 (0, 0)) (by (with_reducible repeat first | apply bN | apply bD | apply bA); exact BK184.out) hb)
         have n2_ := Aside0.mk (blk_below (g := gb190) (o := .cells #[.string t185, .int .i64 t186, .bool t187] 23 (0, 0)) (by (with_reducible repeat first | apply bN | apply bD | apply bA); exact BK190.out) hb)
         have n3_ := Aside0.mk (below_step (by repeat (with_reducible first | exact HB.out | apply lA | apply pw_below_drewN | apply lD | refine below_set ?_ GE177.out | refine below_set ?_ GE184.out | refine below_set ?_ GE190.out)) hb)
         clear BK177
         clear BK184
         clear BK190
         clear HB
         have BK177 := n0_
         have BK184 := n1_
         have BK190 := n2_
         have HB := n3_
         clear n0_ n1_ n2_ n3_
         (try clear hb)
         (try clear hb2)
         (try clear hk)
         (try clear hi)
         refine hK.out _ _ ⟨(blk_cell BK177.out 0).trans rfl, (blk_cell BK177.out 1).trans rfl, (blk_cell BK177.out 2).trans rfl, (blk_cell BK184.out 0).trans rfl, (blk_cell BK184.out 1).trans rfl, (blk_cell BK184.out 2).trans rfl, (blk_cell BK190.out 0).trans rfl, (blk_cell BK190.out 1).trans rfl, (blk_cell BK190.out 2).trans rfl⟩ (fun hHeld => ?_)
         clear hK K
         refine norm_ (a' := ?_) ?_ ?_
         rotate_left
         ·show Act.put _ (some 47) _ = _
          (simp only [Act.put, List.setIfInBounds_toArray, List.set_cons_zero, List.set_cons_succ, i64_w, i32_w])
          rfl
         refine pure_ (i := 13) (N := some 48) (v := ?_) (a' := ?_) #[true,true,true,true,true,true,true,true,true,true,true,true,true,true,false,false,false,false,false,false,false,false,false,false,false,false,false,false,false,false,false] rfl rfl (any_of HT_.out (by kernel_rfl)) (fun _ _ _ h => h) (Or.inl ⟨by rfl, ?_⟩) ?_ ?_
         rotate_left
         ·intro w'
          go_simp
          with_reducible rfl
         rotate_left
         ·(simp only [Act.put, List.setIfInBounds_toArray, List.set_cons_zero, List.set_cons_succ, i64_w, i32_w])
          rfl
         refine pure_ (i := 14) (N := some 49) (v := ?_) (a' := ?_) #[true,true,true,true,true,true,true,true,true,true,true,true,true,true,true,false,false,false,false,false,false,false,false,false,false,false,false,false,false,false,false] rfl rfl (any_of HT_.out (by kernel_rfl)) (fun _ _ _ h => h) (Or.inl ⟨by rfl, ?_⟩) ?_ ?_
         rotate_left
         ·intro w'
          go_simp
          with_reducible rfl
         rotate_left
         ·(simp only [Act.put, List.setIfInBounds_toArray, List.set_cons_zero, List.set_cons_succ, i64_w, i32_w])
          rfl
         refine pure_ (i := 15) (N := some 50) (v := ?_) (a' := ?_) #[true,true,true,true,true,true,true,true,true,true,true,true,true,true,true,true,false,false,false,false,false,false,false,false,false,false,false,false,false,false,false] rfl rfl (any_of HT_.out (by kernel_rfl)) (fun _ _ _ h => h) (Or.inl ⟨by rfl, ?_⟩) ?_ ?_
         rotate_left
         ·intro w'
          go_simp
          with_reducible rfl
         rotate_left
         ·(simp only [Act.put, List.setIfInBounds_toArray, List.set_cons_zero, List.set_cons_succ, i64_w, i32_w])
          rfl
         refine take_ (i := 16) (N := some 51) (v := ?_) (a' := ?_) #[true,true,true,true,true,true,true,true,true,true,true,true,true,true,true,true,true,false,false,false,false,false,false,false,false,false,false,false,false,false,false] rfl rfl (take_ofW HT_.out HW_.out (by kernel_rfl)) (fun _ _ _ h => h) (Or.inl ⟨by rfl, ?_⟩) hHeld ?_ ?_
         rotate_left
         ·rintro w' ⟨s0, s1, s2, s3, s4, s5, s6, s7, s8⟩
          go_simp
          with_reducible rfl
         rotate_left
         ·(simp only [Act.put, List.setIfInBounds_toArray, List.set_cons_zero, List.set_cons_succ, i64_w, i32_w])
          rfl
         refine take_ (i := 17) (N := some 52) (v := ?_) (a' := ?_) #[true,true,true,true,true,true,true,true,true,true,true,true,true,true,true,true,true,true,false,false,false,false,false,false,false,false,false,false,false,false,false] rfl rfl (take_ofW HT_.out HW_.out (by kernel_rfl)) (fun _ _ _ h => h) (Or.inl ⟨by rfl, ?_⟩) hHeld ?_ ?_
         rotate_left
         ·rintro w' ⟨s0, s1, s2, s3, s4, s5, s6, s7, s8⟩
          go_simp
          with_reducible rfl
         rotate_left
         ·(simp only [Act.put, List.setIfInBounds_toArray, List.set_cons_zero, List.set_cons_succ, i64_w, i32_w])
          rfl
         refine pure_ (i := 18) (N := some 53) (v := ?_) (a' := ?_) #[true,true,true,true,true,true,true,true,true,true,true,true,true,true,true,true,true,true,true,false,false,false,false,false,false,false,false,false,false,false,false] rfl rfl (any_of HT_.out (by kernel_rfl)) (fun _ _ _ h => h) (Or.inl ⟨by rfl, ?_⟩) ?_ ?_
         rotate_left
         ·intro w'
          go_simp
          with_reducible rfl
         rotate_left
         ·(simp only [Act.put, List.setIfInBounds_toArray, List.set_cons_zero, List.set_cons_succ, i64_w, i32_w])
          rfl
         refine pure_ (i := 19) (N := some 54) (v := ?_) (a' := ?_) #[true,true,true,true,true,true,true,true,true,true,true,true,true,true,true,true,true,true,true,true,false,false,false,false,false,false,false,false,false,false,false] rfl rfl (any_of HT_.out (by kernel_rfl)) (fun _ _ _ h => h) (Or.inl ⟨by rfl, ?_⟩) ?_ ?_
         rotate_left
         ·intro w'
          go_simp
          with_reducible rfl
         rotate_left
         ·(simp only [Act.put, List.setIfInBounds_toArray, List.set_cons_zero, List.set_cons_succ, i64_w, i32_w])
          rfl
         refine pure_ (i := 20) (N := some 55) (v := ?_) (a' := ?_) #[true,true,true,true,true,true,true,true,true,true,true,true,true,true,true,true,true,true,true,true,true,false,false,false,false,false,false,false,false,false,false] rfl rfl (any_of HT_.out (by kernel_rfl)) (fun _ _ _ h => h) (Or.inl ⟨by rfl, ?_⟩) ?_ ?_
         rotate_left
         ·intro w'
          go_simp
          with_reducible rfl
         rotate_left
         ·(simp only [Act.put, List.setIfInBounds_toArray, List.set_cons_zero, List.set_cons_succ, i64_w, i32_w])
          rfl
         refine pure_ (i := 21) (N := some 56) (v := ?_) (a' := ?_) #[true,true,true,true,true,true,true,true,true,true,true,true,true,true,true,true,true,true,true,true,true,true,false,false,false,false,false,false,false,false,false] rfl rfl (any_of HT_.out (by kernel_rfl)) (fun _ _ _ h => h) (Or.inl ⟨by rfl, ?_⟩) ?_ ?_
         rotate_left
         ·intro w'
          go_simp
          with_reducible rfl
         rotate_left
         ·(simp only [Act.put, List.setIfInBounds_toArray, List.set_cons_zero, List.set_cons_succ, i64_w, i32_w])
          rfl
         refine pure_ (i := 22) (N := some 57) (v := ?_) (a' := ?_) #[true,true,true,true,true,true,true,true,true,true,true,true,true,true,true,true,true,true,true,true,true,true,true,false,false,false,false,false,false,false,false] rfl rfl (any_of HT_.out (by kernel_rfl)) (fun _ _ _ h => h) (Or.inl ⟨by rfl, ?_⟩) ?_ ?_
         rotate_left
         ·intro w'
          go_simp
          with_reducible rfl
         rotate_left
         ·(simp only [Act.put, List.setIfInBounds_toArray, List.set_cons_zero, List.set_cons_succ, i64_w, i32_w])
          rfl
         refine pure_ (i := 23) (N := some 58) (v := ?_) (a' := ?_) #[true,true,true,true,true,true,true,true,true,true,true,true,true,true,true,true,true,true,true,true,true,true,true,true,false,false,false,false,false,false,false] rfl rfl (any_of HT_.out (by kernel_rfl)) (fun _ _ _ h => h) (Or.inl ⟨by rfl, ?_⟩) ?_ ?_
         rotate_left
         ·intro w'
          go_simp
          with_reducible rfl
         rotate_left
         ·(simp only [Act.put, List.setIfInBounds_toArray, List.set_cons_zero, List.set_cons_succ, i64_w, i32_w])
          rfl
         refine pure_ (i := 24) (N := some 59) (v := ?_) (a' := ?_) #[true,true,true,true,true,true,true,true,true,true,true,true,true,true,true,true,true,true,true,true,true,true,true,true,true,false,false,false,false,false,false] rfl rfl (any_of HT_.out (by kernel_rfl)) (fun _ _ _ h => h) (Or.inl ⟨by rfl, ?_⟩) ?_ ?_
         rotate_left
         ·intro w'
          go_simp
          with_reducible rfl
         rotate_left
         ·(simp only [Act.put, List.setIfInBounds_toArray, List.set_cons_zero, List.set_cons_succ, i64_w, i32_w])
          rfl
         refine pure_ (i := 25) (N := some 60) (v := ?_) (a' := ?_) #[true,true,true,true,true,true,true,true,true,true,true,true,true,true,true,true,true,true,true,true,true,true,true,true,true,true,false,false,false,false,false] rfl rfl (any_of HT_.out (by kernel_rfl)) (fun _ _ _ h => h) (Or.inl ⟨by rfl, ?_⟩) ?_ ?_
         rotate_left
         ·intro w'
          go_simp
          with_reducible rfl
         rotate_left
         ·(simp only [Act.put, List.setIfInBounds_toArray, List.set_cons_zero, List.set_cons_succ, i64_w, i32_w])
          rfl
         refine pure_ (i := 26) (N := some 61) (v := ?_) (a' := ?_) #[true,true,true,true,true,true,true,true,true,true,true,true,true,true,true,true,true,true,true,true,true,true,true,true,true,true,true,false,false,false,false] rfl rfl (any_of HT_.out (by kernel_rfl)) (fun _ _ _ h => h) (Or.inl ⟨by rfl, ?_⟩) ?_ ?_
         rotate_left
         ·intro w'
          go_simp
          with_reducible rfl
         rotate_left
         ·(simp only [Act.put, List.setIfInBounds_toArray, List.set_cons_zero, List.set_cons_succ, i64_w, i32_w])
          rfl
         refine pure_ (i := 27) (N := some 62) (v := ?_) (a' := ?_) #[true,true,true,true,true,true,true,true,true,true,true,true,true,true,true,true,true,true,true,true,true,true,true,true,true,true,true,true,false,false,false] rfl rfl (any_of HT_.out (by kernel_rfl)) (fun _ _ _ h => h) (Or.inl ⟨by rfl, ?_⟩) ?_ ?_
         rotate_left
         ·intro w'
          go_simp
          with_reducible rfl
         rotate_left
         ·(simp only [Act.put, List.setIfInBounds_toArray, List.set_cons_zero, List.set_cons_succ, i64_w, i32_w])
          rfl
         refine pure_ (i := 28) (N := some 63) (v := ?_) (a' := ?_) #[true,true,true,true,true,true,true,true,true,true,true,true,true,true,true,true,true,true,true,true,true,true,true,true,true,true,true,true,true,false,false] rfl rfl (any_of HT_.out (by kernel_rfl)) (fun _ _ _ h => h) (Or.inl ⟨by rfl, ?_⟩) ?_ ?_
         rotate_left
         ·intro w'
          go_simp
          with_reducible rfl
         rotate_left
         ·(simp only [Act.put, List.setIfInBounds_toArray, List.set_cons_zero, List.set_cons_succ, i64_w, i32_w])
          rfl
         refine pure_ (i := 29) (N := some 64) (v := ?_) (a' := ?_) #[true,true,true,true,true,true,true,true,true,true,true,true,true,true,true,true,true,true,true,true,true,true,true,true,true,true,true,true,true,true,false] rfl rfl (any_of HT_.out (by kernel_rfl)) (fun _ _ _ h => h) (Or.inl ⟨by rfl, ?_⟩) ?_ ?_
         rotate_left
         ·intro w'
          go_simp
          with_reducible rfl
         rotate_left
         ·(simp only [Act.put, List.setIfInBounds_toArray, List.set_cons_zero, List.set_cons_succ, i64_w, i32_w])
          rfl
         refine pure_ (i := 30) (N := some 4) (v := ?_) (a' := ?_) #[true,true,true,true,true,true,true,true,true,true,true,true,true,true,true,true,true,true,true,true,true,true,true,true,true,true,true,true,true,true,true] rfl rfl (any_of HT_.out (by kernel_rfl)) (fun _ _ _ h => h) (Or.inl ⟨by rfl, ?_⟩) ?_ ?_
         rotate_left
         ·intro w'
          go_simp
          with_reducible rfl
         rotate_left
         ·(simp only [Act.put, List.setIfInBounds_toArray, List.set_cons_zero, List.set_cons_succ, i64_w, i32_w])
          rfl
         refine done_ (done_of HT_.out (by kernel_rfl)) ?_
         try go_wp2
         go_ret
         exact ⟨by first | rfl | (simp [errW_none, errW_some] <;> rfl) | (simp [*, errW_none, errW_some] <;> rfl), by repeat (with_reducible first | exact HB.out | apply lA | apply pw_below_drewN | apply lD | refine below_set ?_ GE177.out | refine below_set ?_ GE184.out | refine below_set ?_ GE190.out)⟩
        ·rw [if_neg c21] at H
         have c21b0 : (t182 == t188) = false := beq_eq_false_iff_ne.mpr c21
         have c21b1 : (t182 != t188) = true := bne_iff_ne.mpr c21
         obtain rfl := Option.some.inj H
         try go_wp2_with (first | ((with_reducible refine gate_callee (f := 10) rfl ?_); refine goesL_ (some 25) rfl rfl Tryd.func10 (by kernel_rfl) rfl #[.string a1] rfl (by (try simp only [List.map_toArray, List.map_cons, List.map_nil]); first | done | rfl) ?_; (with_reducible refine (spec_Take.calls a1 t179 t180 t181 t182 t183 _ A11.out (X.Gl.below hG.out (by repeat (with_reducible first | exact HB.out | apply lA | apply pw_below_drewN | apply lD | refine below_set ?_ (Aside0.out (by assumption)))))).mono ?_); rintro e w37 ⟨rfl, hb⟩; refine ⟨_, rfl, ?_⟩; have n0_ := Aside0.mk (blk_below (g := gb177) (o := .cells #[.string a0_0, .int .i64 a0_1, .bool a0_2] 23 (0, 0)) (by (with_reducible repeat first | apply bN | apply bD | apply bA); exact BK177.out) hb); have n1_ := Aside0.mk (below_step (by repeat (with_reducible first | exact HB.out | apply lA | apply pw_below_drewN | apply lD | refine below_set ?_ GE177.out)) hb); clear BK177; clear HB; have BK177 := n0_; have HB := n1_; clear n0_ n1_; (try clear hb); (try clear hb2); (try clear hk); (try clear hi)) | ((with_reducible refine gate_dst (N := 6) rfl ?_); (try (refine gate_guard (by rfl) ?_; dsimp only)); refine box_event ?hg (N := 6) ?hd (cs := #[.string (⟨#[]⟩ : ByteArray), .int .i64 0, .bool false]) (t := 23) ?hr ?_; (case hd => rfl); (case hg => rfl); (case hr => first | (go_simp; done) | (go_simp; rfl)); intro gb184 hg w38 hbox hb; have n0_ := Aside0.mk (blk_below (g := gb177) (o := .cells #[.string a0_0, .int .i64 a0_1, .bool a0_2] 23 (0, 0)) (by (with_reducible repeat first | apply bN | apply bD | apply bA); exact BK177.out) hb); have n1_ := Aside0.mk (below_step (by repeat (with_reducible first | exact HB.out | apply lA | apply pw_below_drewN | apply lD | refine below_set ?_ GE177.out)) hb); have n2_ := Aside0.mk (hbox); have n3_ := Aside0.mk ((by rw [hg]; exact (below_size (by repeat (with_reducible first | exact HB.out | apply lA | apply pw_below_drewN | apply lD | refine below_set ?_ GE177.out))) : w.heap.size ≤ gb184)); have n4_ := Aside0.mk ((by rw [hg]; exact (below_size (by repeat (with_reducible first | exact HB.out | apply lA | apply pw_below_drewN | apply lD | refine below_set ?_ GE177.out))) : w.heap.size ≤ gb184)); have n5_ := Aside0.mk ((by rw [hg]; exact Nat.ne_of_lt (blk_lt (g := gb177) (o := .cells #[.string a0_0, .int .i64 a0_1, .bool a0_2] 23 (0, 0)) (by (with_reducible repeat first | apply bN | apply bD | apply bA); exact BK177.out)) : gb177 ≠ gb184)); have n6_ := Aside0.mk ((by rw [hg]; exact Nat.ne_of_gt (blk_lt (g := gb177) (o := .cells #[.string a0_0, .int .i64 a0_1, .bool a0_2] 23 (0, 0)) (by (with_reducible repeat first | apply bN | apply bD | apply bA); exact BK177.out)) : gb184 ≠ gb177)); clear BK177; clear HB; have BK177 := n0_; have HB := n1_; have BK184 := n2_; have GW184 := n3_; have GE184 := n4_; have NB177_184 := n5_; have NB184_177 := n6_; clear n0_ n1_ n2_ n3_ n4_ n5_ n6_; clear hb hbox hg; have hnb39 := NB184_177.out; have hnc39 := NB177_184.out; have hcz40_0 : w38.cell? ⟨gb184, 0, none⟩ = some (.string (⟨#[]⟩ : ByteArray)) := (blk_cell BK184.out 0).trans rfl; have hcz40_1 : w38.cell? ⟨gb184, 1, none⟩ = some (.int .i64 0) := (blk_cell BK184.out 1).trans rfl; have hcz40_2 : w38.cell? ⟨gb184, 2, none⟩ = some (.bool false) := (blk_cell BK184.out 2).trans rfl; have hfz40_0 := blk_frozen BK184.out 0; have hfz40_1 := blk_frozen BK184.out 1; have hfz40_2 := blk_frozen BK184.out 2) | ((with_reducible refine gate_callee (f := 11) rfl ?_); refine goesL_ (some 31) rfl rfl Tryd.func11 (by kernel_rfl) rfl #[.string a1] rfl (by (try simp only [List.map_toArray, List.map_cons, List.map_nil]); first | done | rfl) ?_; (with_reducible refine (phalaroperef06_Take.calls kj3 a1 t185 t186 t187 t188 t189 _ A12.out).mono ?_); rintro e w41 ⟨rfl, hb⟩; refine ⟨_, rfl, ?_⟩; have n0_ := Aside0.mk (blk_below (g := gb177) (o := .cells #[.string a0_0, .int .i64 a0_1, .bool a0_2] 23 (0, 0)) (by (with_reducible repeat first | apply bN | apply bD | apply bA); refine blk_far ?_ NB177_184.out _; (with_reducible repeat first | apply bN | apply bD | apply bA); refine blk_far ?_ NB177_184.out _; (with_reducible repeat first | apply bN | apply bD | apply bA); refine blk_far ?_ NB177_184.out _; (with_reducible repeat first | apply bN | apply bD | apply bA); exact BK177.out) hb); have n1_ := Aside0.mk (blk_below (g := gb184) (o := .cells #[.string t179, .int .i64 t180, .bool t181] 23 (0, 0)) (by (with_reducible repeat first | apply bN | apply bD | apply bA); refine blk_put (cs := #[.string t179, .int .i64 t180, .bool false]) ?_ 2 _ rfl; (with_reducible repeat first | apply bN | apply bD | apply bA); refine blk_put (cs := #[.string t179, .int .i64 0, .bool false]) ?_ 1 _ rfl; (with_reducible repeat first | apply bN | apply bD | apply bA); refine blk_put (cs := #[.string (⟨#[]⟩ : ByteArray), .int .i64 0, .bool false]) ?_ 0 _ rfl; (with_reducible repeat first | apply bN | apply bD | apply bA); exact BK184.out) hb); have n2_ := Aside0.mk (below_step (by repeat (with_reducible first | exact HB.out | apply lA | apply pw_below_drewN | apply lD | refine below_set ?_ GE177.out | refine below_set ?_ GE184.out)) hb); clear BK177; clear BK184; clear HB; have BK177 := n0_; have BK184 := n1_; have HB := n2_; clear n0_ n1_ n2_; (try clear hb); (try clear hb2); (try clear hk); (try clear hi)) | ((with_reducible refine gate_dst (N := 9) rfl ?_); (try (refine gate_guard (by rfl) ?_; dsimp only)); refine box_event ?hg (N := 9) ?hd (cs := #[.string (⟨#[]⟩ : ByteArray), .int .i64 0, .bool false]) (t := 23) ?hr ?_; (case hd => rfl); (case hg => rfl); (case hr => first | (go_simp; done) | (go_simp; rfl)); intro gb190 hg w42 hbox hb; have n0_ := Aside0.mk (blk_below (g := gb177) (o := .cells #[.string a0_0, .int .i64 a0_1, .bool a0_2] 23 (0, 0)) (by (with_reducible repeat first | apply bN | apply bD | apply bA); exact BK177.out) hb); have n1_ := Aside0.mk (blk_below (g := gb184) (o := .cells #[.string t179, .int .i64 t180, .bool t181] 23 (0, 0)) (by (with_reducible repeat first | apply bN | apply bD | apply bA); exact BK184.out) hb); have n2_ := Aside0.mk (below_step (by repeat (with_reducible first | exact HB.out | apply lA | apply pw_below_drewN | apply lD | refine below_set ?_ GE177.out | refine below_set ?_ GE184.out)) hb); have n3_ := Aside0.mk (hbox); have n4_ := Aside0.mk ((by rw [hg]; exact (below_size (by repeat (with_reducible first | exact HB.out | apply lA | apply pw_below_drewN | apply lD | refine below_set ?_ GE177.out | refine below_set ?_ GE184.out))) : w.heap.size ≤ gb190)); have n5_ := Aside0.mk ((by rw [hg]; exact (below_size (by repeat (with_reducible first | exact HB.out | apply lA | apply pw_below_drewN | apply lD | refine below_set ?_ GE177.out | refine below_set ?_ GE184.out))) : w.heap.size ≤ gb190)); have n6_ := Aside0.mk ((by rw [hg]; exact Nat.ne_of_lt (blk_lt (g := gb177) (o := .cells #[.string a0_0, .int .i64 a0_1, .bool a0_2] 23 (0, 0)) (by (with_reducible repeat first | apply bN | apply bD | apply bA); exact BK177.out)) : gb177 ≠ gb190)); have n7_ := Aside0.mk ((by rw [hg]; exact Nat.ne_of_gt (blk_lt (g := gb177) (o := .cells #[.string a0_0, .int .i64 a0_1, .bool a0_2] 23 (0, 0)) (by (with_reducible repeat first | apply bN | apply bD | apply bA); exact BK177.out)) : gb190 ≠ gb177)); have n8_ := Aside0.mk ((by rw [hg]; exact Nat.ne_of_lt (blk_lt (g := gb184) (o := .cells #[.string t179, .int .i64 t180, .bool t181] 23 (0, 0)) (by (with_reducible repeat first | apply bN | apply bD | apply bA); exact BK184.out)) : gb184 ≠ gb190)); have n9_ := Aside0.mk ((by rw [hg]; exact Nat.ne_of_gt (blk_lt (g := gb184) (o := .cells #[.string t179, .int .i64 t180, .bool t181] 23 (0, 0)) (by (with_reducible repeat first | apply bN | apply bD | apply bA); exact BK184.out)) : gb190 ≠ gb184)); clear BK177; clear BK184; clear HB; have BK177 := n0_; have BK184 := n1_; have HB := n2_; have BK190 := n3_; have GW190 := n4_; have GE190 := n5_; have NB177_190 := n6_; have NB190_177 := n7_; have NB184_190 := n8_; have NB190_184 := n9_; clear n0_ n1_ n2_ n3_ n4_ n5_ n6_ n7_ n8_ n9_; clear hb hbox hg; have hnb43 := NB190_177.out; have hnc43 := NB177_190.out; have hnb44 := NB190_184.out; have hnc44 := NB184_190.out; have hcz45_0 : w42.cell? ⟨gb190, 0, none⟩ = some (.string (⟨#[]⟩ : ByteArray)) := (blk_cell BK190.out 0).trans rfl; have hcz45_1 : w42.cell? ⟨gb190, 1, none⟩ = some (.int .i64 0) := (blk_cell BK190.out 1).trans rfl; have hcz45_2 : w42.cell? ⟨gb190, 2, none⟩ = some (.bool false) := (blk_cell BK190.out 2).trans rfl; have hfz45_0 := blk_frozen BK190.out 0; have hfz45_1 := blk_frozen BK190.out 1; have hfz45_2 := blk_frozen BK190.out 2))
         have n0_ : Aside0 ((((w42.setCell ⟨gb190, 0, none⟩ (.string t185)).setCell ⟨gb190, 1, none⟩ (.int .i64 t186)).setCell ⟨gb190, 2, none⟩ (.bool t187)).heap[gb177]? = some (.cells #[.string a0_0, .int .i64 a0_1, .bool a0_2] 23 (0, 0))) := ⟨by (with_reducible repeat first | apply bN | apply bD | apply bA); refine blk_far ?_ NB177_190.out _; (with_reducible repeat first | apply bN | apply bD | apply bA); refine blk_far ?_ NB177_190.out _; (with_reducible repeat first | apply bN | apply bD | apply bA); refine blk_far ?_ NB177_190.out _; (with_reducible repeat first | apply bN | apply bD | apply bA); exact BK177.out⟩
         have n1_ : Aside0 ((((w42.setCell ⟨gb190, 0, none⟩ (.string t185)).setCell ⟨gb190, 1, none⟩ (.int .i64 t186)).setCell ⟨gb190, 2, none⟩ (.bool t187)).heap[gb184]? = some (.cells #[.string t179, .int .i64 t180, .bool t181] 23 (0, 0))) := ⟨by (with_reducible repeat first | apply bN | apply bD | apply bA); refine blk_far ?_ NB184_190.out _; (with_reducible repeat first | apply bN | apply bD | apply bA); refine blk_far ?_ NB184_190.out _; (with_reducible repeat first | apply bN | apply bD | apply bA); refine blk_far ?_ NB184_190.out _; (with_reducible repeat first | apply bN | apply bD | apply bA); exact BK184.out⟩
         have n2_ : Aside0 ((((w42.setCell ⟨gb190, 0, none⟩ (.string t185)).setCell ⟨gb190, 1, none⟩ (.int .i64 t186)).setCell ⟨gb190, 2, none⟩ (.bool t187)).heap[gb190]? = some (.cells #[.string t185, .int .i64 t186, .bool t187] 23 (0, 0))) := ⟨by (with_reducible repeat first | apply bN | apply bD | apply bA); refine blk_put (cs := #[.string t185, .int .i64 t186, .bool false]) ?_ 2 _ rfl; (with_reducible repeat first | apply bN | apply bD | apply bA); refine blk_put (cs := #[.string t185, .int .i64 0, .bool false]) ?_ 1 _ rfl; (with_reducible repeat first | apply bN | apply bD | apply bA); refine blk_put (cs := #[.string (⟨#[]⟩ : ByteArray), .int .i64 0, .bool false]) ?_ 0 _ rfl; (with_reducible repeat first | apply bN | apply bD | apply bA); exact BK190.out⟩
         have n3_ : Aside0 (Below w.heap.size w (((w42.setCell ⟨gb190, 0, none⟩ (.string t185)).setCell ⟨gb190, 1, none⟩ (.int .i64 t186)).setCell ⟨gb190, 2, none⟩ (.bool t187))) := ⟨by repeat (with_reducible first | exact HB.out | apply lA | apply pw_below_drewN | apply lD | refine below_set ?_ GE177.out | refine below_set ?_ GE184.out | refine below_set ?_ GE190.out)⟩
         (try clear BK177)
         (try clear BK184)
         (try clear BK190)
         (try clear HB)
         generalize (((w42.setCell ⟨gb190, 0, none⟩ (.string t185)).setCell ⟨gb190, 1, none⟩ (.int .i64 t186)).setCell ⟨gb190, 2, none⟩ (.bool t187)) = w46 at n0_ n1_ n2_ n3_ ⊢
         have BK177 := n0_
         have BK184 := n1_
         have BK190 := n2_
         have HB := n3_
         clear n0_ n1_ n2_ n3_
         have n0_ := Aside0.mk (blk_drew BK177.out)
         have n1_ := Aside0.mk (blk_drew BK184.out)
         have n2_ := Aside0.mk (blk_drew BK190.out)
         have n3_ := Aside0.mk (below_drew1 HB.out)
         clear BK177
         clear BK184
         clear BK190
         clear HB
         have BK177 := n0_
         have BK184 := n1_
         have BK190 := n2_
         have HB := n3_
         clear n0_ n1_ n2_ n3_
         refine start_ (n := 31) (S := fun w' => w'.cell? ⟨gb177, 0, none⟩ = some (.string a0_0) ∧ w'.cell? ⟨gb177, 1, none⟩ = some (.int .i64 a0_1) ∧ w'.cell? ⟨gb177, 2, none⟩ = some (.bool a0_2) ∧ w'.cell? ⟨gb184, 0, none⟩ = some (.string t179) ∧ w'.cell? ⟨gb184, 1, none⟩ = some (.int .i64 t180) ∧ w'.cell? ⟨gb184, 2, none⟩ = some (.bool t181) ∧ w'.cell? ⟨gb190, 0, none⟩ = some (.string t185) ∧ w'.cell? ⟨gb190, 1, none⟩ = some (.int .i64 t186) ∧ w'.cell? ⟨gb190, 2, none⟩ = some (.bool t187)) (ds := []) #[false,false,false,false,false,false,false,false,false,false,false,false,false,false,false,false,false,false,false,false,false,false,false,false,false,false,false,false,false,false,false] (by kernel_rfl) rfl rfl ⟨(blk_cell BK177.out 0).trans rfl, (blk_cell BK177.out 1).trans rfl, (blk_cell BK177.out 2).trans rfl, (blk_cell BK184.out 0).trans rfl, (blk_cell BK184.out 1).trans rfl, (blk_cell BK184.out 2).trans rfl, (blk_cell BK190.out 0).trans rfl, (blk_cell BK190.out 1).trans rfl, (blk_cell BK190.out 2).trans rfl⟩ (fun hHeld => ?_); refine with_tabW phalaropelaw06_SpecTells.tab6 phalaropelaw06_SpecTells.bits6 (fun HT_ HW_ => ?_)
         generalize w46.drew = w47 at BK177 BK184 BK190 HB hHeld ⊢
         refine pure_ (i := 0) (N := some 35) (v := ?_) (a' := ?_) #[true,false,false,false,false,false,false,false,false,false,false,false,false,false,false,false,false,false,false,false,false,false,false,false,false,false,false,false,false,false,false] rfl rfl (any_of HT_.out (by kernel_rfl)) (fun _ _ _ h => h) (Or.inl ⟨by rfl, ?_⟩) ?_ ?_
         rotate_left
         ·intro w'
          go_simp
          with_reducible rfl
         rotate_left
         ·(simp only [Act.put, List.setIfInBounds_toArray, List.set_cons_zero, List.set_cons_succ, i64_w, i32_w])
          rfl
         refine pure_ (i := 1) (N := some 36) (v := ?_) (a' := ?_) #[true,true,false,false,false,false,false,false,false,false,false,false,false,false,false,false,false,false,false,false,false,false,false,false,false,false,false,false,false,false,false] rfl rfl (any_of HT_.out (by kernel_rfl)) (fun _ _ _ h => h) (Or.inl ⟨by rfl, ?_⟩) ?_ ?_
         rotate_left
         ·intro w'
          go_simp
          with_reducible rfl
         rotate_left
         ·(simp only [Act.put, List.setIfInBounds_toArray, List.set_cons_zero, List.set_cons_succ, i64_w, i32_w])
          rfl
         refine take_ (i := 2) (N := some 37) (v := ?_) (a' := ?_) #[true,true,true,false,false,false,false,false,false,false,false,false,false,false,false,false,false,false,false,false,false,false,false,false,false,false,false,false,false,false,false] rfl rfl (take_ofW HT_.out HW_.out (by kernel_rfl)) (fun _ _ _ h => h) (Or.inl ⟨by rfl, ?_⟩) hHeld ?_ ?_
         rotate_left
         ·rintro w' ⟨s0, s1, s2, s3, s4, s5, s6, s7, s8⟩
          go_simp
          with_reducible rfl
         rotate_left
         ·(simp only [Act.put, List.setIfInBounds_toArray, List.set_cons_zero, List.set_cons_succ, i64_w, i32_w])
          rfl
         refine take_ (i := 4) (N := some 39) (v := ?_) (a' := ?_) #[true,true,true,false,true,false,false,false,false,false,false,false,false,false,false,false,false,false,false,false,false,false,false,false,false,false,false,false,false,false,false] rfl rfl (take_ofW HT_.out HW_.out (by kernel_rfl)) (fun _ _ _ h => h) (Or.inl ⟨by rfl, ?_⟩) hHeld ?_ ?_
         rotate_left
         ·rintro w' ⟨s0, s1, s2, s3, s4, s5, s6, s7, s8⟩
          go_simp
          with_reducible rfl
         rotate_left
         ·(simp only [Act.put, List.setIfInBounds_toArray, List.set_cons_zero, List.set_cons_succ, i64_w, i32_w])
          rfl
         refine one_ (i := 3) (N := some 38) #[true,true,true,true,true,false,false,false,false,false,false,false,false,false,false,false,false,false,false,false,false,false,false,false,false,false,false,false,false,false,false] rfl rfl (one_of HT_.out (by kernel_rfl)) (by decide) (fun K hK => ?_)
         refine goes_ Tryd.func12 (by kernel_rfl) rfl #[.agg #[.string a0_0, .int .i64 a0_1, .bool a0_2]] (by rfl) rfl rfl (by (try simp only [List.map_toArray, List.map_cons, List.map_nil]); first | done | rfl) ?_
         with_reducible refine (spec_May.calls a0_0 a0_1 a0_2 t191 _ A14.out).mono ?_
         rintro e w48 ⟨rfl, hb⟩
         refine ⟨_, rfl, ?_⟩
         have n0_ := Aside0.mk (blk_below (g := gb177) (o := .cells #[.string a0_0, .int .i64 a0_1, .bool a0_2] 23 (0, 0)) (by (with_reducible repeat first | apply bN | apply bD | apply bA); exact BK177.out) hb)
         have n1_ := Aside0.mk (blk_below (g := gb184) (o := .cells #[.string t179, .int .i64 t180, .bool t181] 23 (0, 0)) (by (with_reducible repeat first | apply bN | apply bD | apply bA); exact BK184.out) hb)
         have n2_ := Aside0.mk (blk_below (g := gb190) (o := .cells #[.string t185, .int .i64 t186, .bool t187] 23 (0, 0)) (by (with_reducible repeat first | apply bN | apply bD | apply bA); exact BK190.out) hb)
         have n3_ := Aside0.mk (below_step (by repeat (with_reducible first | exact HB.out | apply lA | apply pw_below_drewN | apply lD | refine below_set ?_ GE177.out | refine below_set ?_ GE184.out | refine below_set ?_ GE190.out)) hb)
         clear BK177
         clear BK184
         clear BK190
         clear HB
         have BK177 := n0_
         have BK184 := n1_
         have BK190 := n2_
         have HB := n3_
         clear n0_ n1_ n2_ n3_
         (try clear hb)
         (try clear hb2)
         (try clear hk)
         (try clear hi)
         refine hK.out _ _ ⟨(blk_cell BK177.out 0).trans rfl, (blk_cell BK177.out 1).trans rfl, (blk_cell BK177.out 2).trans rfl, (blk_cell BK184.out 0).trans rfl, (blk_cell BK184.out 1).trans rfl, (blk_cell BK184.out 2).trans rfl, (blk_cell BK190.out 0).trans rfl, (blk_cell BK190.out 1).trans rfl, (blk_cell BK190.out 2).trans rfl⟩ (fun hHeld => ?_)
         clear hK K
         refine norm_ (a' := ?_) ?_ ?_
         rotate_left
         ·show Act.put _ (some 38) _ = _
          (simp only [Act.put, List.setIfInBounds_toArray, List.set_cons_zero, List.set_cons_succ, i64_w, i32_w])
          rfl
         refine one_ (i := 5) (N := some 40) #[true,true,true,true,true,true,false,false,false,false,false,false,false,false,false,false,false,false,false,false,false,false,false,false,false,false,false,false,false,false,false] rfl rfl (one_of HT_.out (by kernel_rfl)) (by decide) (fun K hK => ?_)
         refine goes_ Tryd.func13 (by kernel_rfl) rfl #[.agg #[.string a0_0, .int .i64 a0_1, .bool a0_2]] (by rfl) rfl rfl (by (try simp only [List.map_toArray, List.map_cons, List.map_nil]); first | done | rfl) ?_
         with_reducible refine (phalaroperef06_May.calls kj3 a0_0 a0_1 a0_2 t192 _ A15.out).mono ?_
         rintro e w49 ⟨rfl, hb⟩
         refine ⟨_, rfl, ?_⟩
         have n0_ := Aside0.mk (blk_below (g := gb177) (o := .cells #[.string a0_0, .int .i64 a0_1, .bool a0_2] 23 (0, 0)) (by (with_reducible repeat first | apply bN | apply bD | apply bA); exact BK177.out) hb)
         have n1_ := Aside0.mk (blk_below (g := gb184) (o := .cells #[.string t179, .int .i64 t180, .bool t181] 23 (0, 0)) (by (with_reducible repeat first | apply bN | apply bD | apply bA); exact BK184.out) hb)
         have n2_ := Aside0.mk (blk_below (g := gb190) (o := .cells #[.string t185, .int .i64 t186, .bool t187] 23 (0, 0)) (by (with_reducible repeat first | apply bN | apply bD | apply bA); exact BK190.out) hb)
         have n3_ := Aside0.mk (below_step (by repeat (with_reducible first | exact HB.out | apply lA | apply pw_below_drewN | apply lD | refine below_set ?_ GE177.out | refine below_set ?_ GE184.out | refine below_set ?_ GE190.out)) hb)
         clear BK177
         clear BK184
         clear BK190
         clear HB
         have BK177 := n0_
         have BK184 := n1_
         have BK190 := n2_
         have HB := n3_
         clear n0_ n1_ n2_ n3_
         (try clear hb)
         (try clear hb2)
         (try clear hk)
         (try clear hi)
         refine hK.out _ _ ⟨(blk_cell BK177.out 0).trans rfl, (blk_cell BK177.out 1).trans rfl, (blk_cell BK177.out 2).trans rfl, (blk_cell BK184.out 0).trans rfl, (blk_cell BK184.out 1).trans rfl, (blk_cell BK184.out 2).trans rfl, (blk_cell BK190.out 0).trans rfl, (blk_cell BK190.out 1).trans rfl, (blk_cell BK190.out 2).trans rfl⟩ (fun hHeld => ?_)
         clear hK K
         refine norm_ (a' := ?_) ?_ ?_
         rotate_left
         ·show Act.put _ (some 40) _ = _
          (simp only [Act.put, List.setIfInBounds_toArray, List.set_cons_zero, List.set_cons_succ, i64_w, i32_w])
          rfl
         refine pure_ (i := 6) (N := some 41) (v := ?_) (a' := ?_) #[true,true,true,true,true,true,true,false,false,false,false,false,false,false,false,false,false,false,false,false,false,false,false,false,false,false,false,false,false,false,false] rfl rfl (any_of HT_.out (by kernel_rfl)) (fun _ _ _ h => h) (Or.inl ⟨by rfl, ?_⟩) ?_ ?_
         rotate_left
         ·intro w'
          go_simp
          with_reducible rfl
         rotate_left
         ·(simp only [Act.put, List.setIfInBounds_toArray, List.set_cons_zero, List.set_cons_succ, i64_w, i32_w])
          rfl
         refine pure_ (i := 7) (N := some 42) (v := ?_) (a' := ?_) #[true,true,true,true,true,true,true,true,false,false,false,false,false,false,false,false,false,false,false,false,false,false,false,false,false,false,false,false,false,false,false] rfl rfl (any_of HT_.out (by kernel_rfl)) (fun _ _ _ h => h) (Or.inl ⟨by rfl, ?_⟩) ?_ ?_
         rotate_left
         ·intro w'
          go_simp
          with_reducible rfl
         rotate_left
         ·(simp only [Act.put, List.setIfInBounds_toArray, List.set_cons_zero, List.set_cons_succ, i64_w, i32_w])
          rfl
         refine pure_ (i := 8) (N := some 43) (v := ?_) (a' := ?_) #[true,true,true,true,true,true,true,true,true,false,false,false,false,false,false,false,false,false,false,false,false,false,false,false,false,false,false,false,false,false,false] rfl rfl (any_of HT_.out (by kernel_rfl)) (fun _ _ _ h => h) (Or.inl ⟨by rfl, ?_⟩) ?_ ?_
         rotate_left
         ·intro w'
          go_simp
          with_reducible rfl
         rotate_left
         ·(simp only [Act.put, List.setIfInBounds_toArray, List.set_cons_zero, List.set_cons_succ, i64_w, i32_w])
          rfl
         refine take_ (i := 9) (N := some 44) (v := ?_) (a' := ?_) #[true,true,true,true,true,true,true,true,true,true,false,false,false,false,false,false,false,false,false,false,false,false,false,false,false,false,false,false,false,false,false] rfl rfl (take_ofW HT_.out HW_.out (by kernel_rfl)) (fun _ _ _ h => h) (Or.inl ⟨by rfl, ?_⟩) hHeld ?_ ?_
         rotate_left
         ·rintro w' ⟨s0, s1, s2, s3, s4, s5, s6, s7, s8⟩
          go_simp
          with_reducible rfl
         rotate_left
         ·(simp only [Act.put, List.setIfInBounds_toArray, List.set_cons_zero, List.set_cons_succ, i64_w, i32_w])
          rfl
         refine take_ (i := 11) (N := some 46) (v := ?_) (a' := ?_) #[true,true,true,true,true,true,true,true,true,true,false,true,false,false,false,false,false,false,false,false,false,false,false,false,false,false,false,false,false,false,false] rfl rfl (take_ofW HT_.out HW_.out (by kernel_rfl)) (fun _ _ _ h => h) (Or.inl ⟨by rfl, ?_⟩) hHeld ?_ ?_
         rotate_left
         ·rintro w' ⟨s0, s1, s2, s3, s4, s5, s6, s7, s8⟩
          go_simp
          with_reducible rfl
         rotate_left
         ·(simp only [Act.put, List.setIfInBounds_toArray, List.set_cons_zero, List.set_cons_succ, i64_w, i32_w])
          rfl
         refine one_ (i := 10) (N := some 45) #[true,true,true,true,true,true,true,true,true,true,true,true,false,false,false,false,false,false,false,false,false,false,false,false,false,false,false,false,false,false,false] rfl rfl (one_of HT_.out (by kernel_rfl)) (by decide) (fun K hK => ?_)
         refine goes_ Tryd.func14 (by kernel_rfl) rfl #[.agg #[.string a0_0, .int .i64 a0_1, .bool a0_2]] (by rfl) rfl rfl (by (try simp only [List.map_toArray, List.map_cons, List.map_nil]); first | done | rfl) ?_
         with_reducible refine (spec_Put.calls a0_0 a0_1 a0_2 t193 _ A17.out (X.Gl.below hG.out (by repeat (with_reducible first | exact HB.out | apply lA | apply pw_below_drewN | apply lD | refine below_set ?_ (Aside0.out (by assumption)))))).mono ?_
         rintro e w50 ⟨rfl, hb⟩
         refine ⟨_, rfl, ?_⟩
         have n0_ := Aside0.mk (blk_below (g := gb177) (o := .cells #[.string a0_0, .int .i64 a0_1, .bool a0_2] 23 (0, 0)) (by (with_reducible repeat first | apply bN | apply bD | apply bA); exact BK177.out) hb)
         have n1_ := Aside0.mk (blk_below (g := gb184) (o := .cells #[.string t179, .int .i64 t180, .bool t181] 23 (0, 0)) (by (with_reducible repeat first | apply bN | apply bD | apply bA); exact BK184.out) hb)
         have n2_ := Aside0.mk (blk_below (g := gb190) (o := .cells #[.string t185, .int .i64 t186, .bool t187] 23 (0, 0)) (by (with_reducible repeat first | apply bN | apply bD | apply bA); exact BK190.out) hb)
         have n3_ := Aside0.mk (below_step (by repeat (with_reducible first | exact HB.out | apply lA | apply pw_below_drewN | apply lD | refine below_set ?_ GE177.out | refine below_set ?_ GE184.out | refine below_set ?_ GE190.out)) hb)
         clear BK177
         clear BK184
         clear BK190
         clear HB
         have BK177 := n0_
         have BK184 := n1_
         have BK190 := n2_
         have HB := n3_
         clear n0_ n1_ n2_ n3_
         (try clear hb)
         (try clear hb2)
         (try clear hk)
         (try clear hi)
         refine hK.out _ _ ⟨(blk_cell BK177.out 0).trans rfl, (blk_cell BK177.out 1).trans rfl, (blk_cell BK177.out 2).trans rfl, (blk_cell BK184.out 0).trans rfl, (blk_cell BK184.out 1).trans rfl, (blk_cell BK184.out 2).trans rfl, (blk_cell BK190.out 0).trans rfl, (blk_cell BK190.out 1).trans rfl, (blk_cell BK190.out 2).trans rfl⟩ (fun hHeld => ?_)
         clear hK K
         refine norm_ (a' := ?_) ?_ ?_
         rotate_left
         ·show Act.put _ (some 45) _ = _
          (simp only [Act.put, List.setIfInBounds_toArray, List.set_cons_zero, List.set_cons_succ, i64_w, i32_w])
          rfl
         refine one_ (i := 12) (N := some 47) #[true,true,true,true,true,true,true,true,true,true,true,true,true,false,false,false,false,false,false,false,false,false,false,false,false,false,false,false,false,false,false] rfl rfl (one_of HT_.out (by kernel_rfl)) (by decide) (fun K hK => ?_)
         refine goes_ Tryd.func15 (by kernel_rfl) rfl #[.agg #[.string a0_0, .int .i64 a0_1, .bool a0_2]] (by rfl) rfl rfl (by (try simp only [List.map_toArray, List.map_cons, List.map_nil]); first | done | rfl) ?_
         with_reducible refine (phalaroperef06_Put.calls kj3 a0_0 a0_1 a0_2 t194 _ A18.out).mono ?_
         rintro e w51 ⟨rfl, hb⟩
         refine ⟨_, rfl, ?_⟩
         have n0_ := Aside0.mk (blk_below (g := gb177) (o := .cells #[.string a0_0, .int .i64 a0_1, .bool a0_2] 23 (0, 0)) (by (with_reducible repeat first | apply bN | apply bD | apply bA); exact BK177.out) hb)
         have n1_ := Aside0.mk (blk_below (g := gb184) (o := .cells #[.string t179, .int .i64 t180, .bool t181] 23 (0, 0)) (by (with_reducible repeat first | apply bN | apply bD | apply bA); exact BK184.out) hb)
         have n2_ := Aside0.mk (blk_below (g := gb190) (o := .cells #[.string t185, .int .i64 t186, .bool t187] 23 (0, 0)) (by (with_reducible repeat first | apply bN | apply bD | apply bA); exact BK190.out) hb)
         have n3_ := Aside0.mk (below_step (by repeat (with_reducible first | exact HB.out | apply lA | apply pw_below_drewN | apply lD | refine below_set ?_ GE177.out | refine below_set ?_ GE184.out | refine below_set ?_ GE190.out)) hb)
         clear BK177
         clear BK184
         clear BK190
         clear HB
         have BK177 := n0_
         have BK184 := n1_
         have BK190 := n2_
         have HB := n3_
         clear n0_ n1_ n2_ n3_
         (try clear hb)
         (try clear hb2)
         (try clear hk)
         (try clear hi)
         refine hK.out _ _ ⟨(blk_cell BK177.out 0).trans rfl, (blk_cell BK177.out 1).trans rfl, (blk_cell BK177.out 2).trans rfl, (blk_cell BK184.out 0).trans rfl, (blk_cell BK184.out 1).trans rfl, (blk_cell BK184.out 2).trans rfl, (blk_cell BK190.out 0).trans rfl, (blk_cell BK190.out 1).trans rfl, (blk_cell BK190.out 2).trans rfl⟩ (fun hHeld => ?_)
         clear hK K
         refine norm_ (a' := ?_) ?_ ?_
         rotate_left
         ·show Act.put _ (some 47) _ = _
          (simp only [Act.put, List.setIfInBounds_toArray, List.set_cons_zero, List.set_cons_succ, i64_w, i32_w])
          rfl
         refine pure_ (i := 13) (N := some 48) (v := ?_) (a' := ?_) #[true,true,true,true,true,true,true,true,true,true,true,true,true,true,false,false,false,false,false,false,false,false,false,false,false,false,false,false,false,false,false] rfl rfl (any_of HT_.out (by kernel_rfl)) (fun _ _ _ h => h) (Or.inl ⟨by rfl, ?_⟩) ?_ ?_
         rotate_left
         ·intro w'
          go_simp
          with_reducible rfl
         rotate_left
         ·(simp only [Act.put, List.setIfInBounds_toArray, List.set_cons_zero, List.set_cons_succ, i64_w, i32_w])
          rfl
         refine pure_ (i := 14) (N := some 49) (v := ?_) (a' := ?_) #[true,true,true,true,true,true,true,true,true,true,true,true,true,true,true,false,false,false,false,false,false,false,false,false,false,false,false,false,false,false,false] rfl rfl (any_of HT_.out (by kernel_rfl)) (fun _ _ _ h => h) (Or.inl ⟨by rfl, ?_⟩) ?_ ?_
         rotate_left
         ·intro w'
          go_simp
          with_reducible rfl
         rotate_left
         ·(simp only [Act.put, List.setIfInBounds_toArray, List.set_cons_zero, List.set_cons_succ, i64_w, i32_w])
          rfl
         refine pure_ (i := 15) (N := some 50) (v := ?_) (a' := ?_) #[true,true,true,true,true,true,true,true,true,true,true,true,true,true,true,true,false,false,false,false,false,false,false,false,false,false,false,false,false,false,false] rfl rfl (any_of HT_.out (by kernel_rfl)) (fun _ _ _ h => h) (Or.inl ⟨by rfl, ?_⟩) ?_ ?_
         rotate_left
         ·intro w'
          go_simp
          with_reducible rfl
         rotate_left
         ·(simp only [Act.put, List.setIfInBounds_toArray, List.set_cons_zero, List.set_cons_succ, i64_w, i32_w])
          rfl
         refine take_ (i := 16) (N := some 51) (v := ?_) (a' := ?_) #[true,true,true,true,true,true,true,true,true,true,true,true,true,true,true,true,true,false,false,false,false,false,false,false,false,false,false,false,false,false,false] rfl rfl (take_ofW HT_.out HW_.out (by kernel_rfl)) (fun _ _ _ h => h) (Or.inl ⟨by rfl, ?_⟩) hHeld ?_ ?_
         rotate_left
         ·rintro w' ⟨s0, s1, s2, s3, s4, s5, s6, s7, s8⟩
          go_simp
          with_reducible rfl
         rotate_left
         ·(simp only [Act.put, List.setIfInBounds_toArray, List.set_cons_zero, List.set_cons_succ, i64_w, i32_w])
          rfl
         refine take_ (i := 17) (N := some 52) (v := ?_) (a' := ?_) #[true,true,true,true,true,true,true,true,true,true,true,true,true,true,true,true,true,true,false,false,false,false,false,false,false,false,false,false,false,false,false] rfl rfl (take_ofW HT_.out HW_.out (by kernel_rfl)) (fun _ _ _ h => h) (Or.inl ⟨by rfl, ?_⟩) hHeld ?_ ?_
         rotate_left
         ·rintro w' ⟨s0, s1, s2, s3, s4, s5, s6, s7, s8⟩
          go_simp
          with_reducible rfl
         rotate_left
         ·(simp only [Act.put, List.setIfInBounds_toArray, List.set_cons_zero, List.set_cons_succ, i64_w, i32_w])
          rfl
         refine pure_ (i := 18) (N := some 53) (v := ?_) (a' := ?_) #[true,true,true,true,true,true,true,true,true,true,true,true,true,true,true,true,true,true,true,false,false,false,false,false,false,false,false,false,false,false,false] rfl rfl (any_of HT_.out (by kernel_rfl)) (fun _ _ _ h => h) (Or.inl ⟨by rfl, ?_⟩) ?_ ?_
         rotate_left
         ·intro w'
          go_simp
          with_reducible rfl
         rotate_left
         ·(simp only [Act.put, List.setIfInBounds_toArray, List.set_cons_zero, List.set_cons_succ, i64_w, i32_w])
          rfl
         refine pure_ (i := 19) (N := some 54) (v := ?_) (a' := ?_) #[true,true,true,true,true,true,true,true,true,true,true,true,true,true,true,true,true,true,true,true,false,false,false,false,false,false,false,false,false,false,false] rfl rfl (any_of HT_.out (by kernel_rfl)) (fun _ _ _ h => h) (Or.inl ⟨by rfl, ?_⟩) ?_ ?_
         rotate_left
         ·intro w'
          go_simp
          with_reducible rfl
         rotate_left
         ·(simp only [Act.put, List.setIfInBounds_toArray, List.set_cons_zero, List.set_cons_succ, i64_w, i32_w])
          rfl
         refine pure_ (i := 20) (N := some 55) (v := ?_) (a' := ?_) #[true,true,true,true,true,true,true,true,true,true,true,true,true,true,true,true,true,true,true,true,true,false,false,false,false,false,false,false,false,false,false] rfl rfl (any_of HT_.out (by kernel_rfl)) (fun _ _ _ h => h) (Or.inl ⟨by rfl, ?_⟩) ?_ ?_
         rotate_left
         ·intro w'
          go_simp
          with_reducible rfl
         rotate_left
         ·(simp only [Act.put, List.setIfInBounds_toArray, List.set_cons_zero, List.set_cons_succ, i64_w, i32_w])
          rfl
         refine pure_ (i := 21) (N := some 56) (v := ?_) (a' := ?_) #[true,true,true,true,true,true,true,true,true,true,true,true,true,true,true,true,true,true,true,true,true,true,false,false,false,false,false,false,false,false,false] rfl rfl (any_of HT_.out (by kernel_rfl)) (fun _ _ _ h => h) (Or.inl ⟨by rfl, ?_⟩) ?_ ?_
         rotate_left
         ·intro w'
          go_simp
          with_reducible rfl
         rotate_left
         ·(simp only [Act.put, List.setIfInBounds_toArray, List.set_cons_zero, List.set_cons_succ, i64_w, i32_w])
          rfl
         refine pure_ (i := 22) (N := some 57) (v := ?_) (a' := ?_) #[true,true,true,true,true,true,true,true,true,true,true,true,true,true,true,true,true,true,true,true,true,true,true,false,false,false,false,false,false,false,false] rfl rfl (any_of HT_.out (by kernel_rfl)) (fun _ _ _ h => h) (Or.inl ⟨by rfl, ?_⟩) ?_ ?_
         rotate_left
         ·intro w'
          go_simp
          with_reducible rfl
         rotate_left
         ·(simp only [Act.put, List.setIfInBounds_toArray, List.set_cons_zero, List.set_cons_succ, i64_w, i32_w])
          rfl
         refine pure_ (i := 23) (N := some 58) (v := ?_) (a' := ?_) #[true,true,true,true,true,true,true,true,true,true,true,true,true,true,true,true,true,true,true,true,true,true,true,true,false,false,false,false,false,false,false] rfl rfl (any_of HT_.out (by kernel_rfl)) (fun _ _ _ h => h) (Or.inl ⟨by rfl, ?_⟩) ?_ ?_
         rotate_left
         ·intro w'
          go_simp
          with_reducible rfl
         rotate_left
         ·(simp only [Act.put, List.setIfInBounds_toArray, List.set_cons_zero, List.set_cons_succ, i64_w, i32_w])
          rfl
         refine pure_ (i := 24) (N := some 59) (v := ?_) (a' := ?_) #[true,true,true,true,true,true,true,true,true,true,true,true,true,true,true,true,true,true,true,true,true,true,true,true,true,false,false,false,false,false,false] rfl rfl (any_of HT_.out (by kernel_rfl)) (fun _ _ _ h => h) (Or.inl ⟨by rfl, ?_⟩) ?_ ?_
         rotate_left
         ·intro w'
          go_simp
          with_reducible rfl
         rotate_left
         ·(simp only [Act.put, List.setIfInBounds_toArray, List.set_cons_zero, List.set_cons_succ, i64_w, i32_w])
          rfl
         refine pure_ (i := 25) (N := some 60) (v := ?_) (a' := ?_) #[true,true,true,true,true,true,true,true,true,true,true,true,true,true,true,true,true,true,true,true,true,true,true,true,true,true,false,false,false,false,false] rfl rfl (any_of HT_.out (by kernel_rfl)) (fun _ _ _ h => h) (Or.inl ⟨by rfl, ?_⟩) ?_ ?_
         rotate_left
         ·intro w'
          go_simp
          with_reducible rfl
         rotate_left
         ·(simp only [Act.put, List.setIfInBounds_toArray, List.set_cons_zero, List.set_cons_succ, i64_w, i32_w])
          rfl
         refine pure_ (i := 26) (N := some 61) (v := undef) (a' := ?_) #[true,true,true,true,true,true,true,true,true,true,true,true,true,true,true,true,true,true,true,true,true,true,true,true,true,true,true,false,false,false,false] rfl rfl (any_of HT_.out (by kernel_rfl)) (fun _ _ _ h => h) (Or.inr ⟨by rfl, rfl⟩) ?_ ?_
         rotate_left
         ·(simp only [Act.put, List.setIfInBounds_toArray, List.set_cons_zero, List.set_cons_succ, i64_w, i32_w])
          rfl
         refine pure_ (i := 27) (N := some 62) (v := undef) (a' := ?_) #[true,true,true,true,true,true,true,true,true,true,true,true,true,true,true,true,true,true,true,true,true,true,true,true,true,true,true,true,false,false,false] rfl rfl (any_of HT_.out (by kernel_rfl)) (fun _ _ _ h => h) (Or.inr ⟨by rfl, rfl⟩) ?_ ?_
         rotate_left
         ·(simp only [Act.put, List.setIfInBounds_toArray, List.set_cons_zero, List.set_cons_succ, i64_w, i32_w])
          rfl
         refine pure_ (i := 28) (N := some 63) (v := undef) (a' := ?_) #[true,true,true,true,true,true,true,true,true,true,true,true,true,true,true,true,true,true,true,true,true,true,true,true,true,true,true,true,true,false,false] rfl rfl (any_of HT_.out (by kernel_rfl)) (fun _ _ _ h => h) (Or.inr ⟨by rfl, rfl⟩) ?_ ?_
         rotate_left
         ·(simp only [Act.put, List.setIfInBounds_toArray, List.set_cons_zero, List.set_cons_succ, i64_w, i32_w])
          rfl
         refine pure_ (i := 29) (N := some 64) (v := ?_) (a' := ?_) #[true,true,true,true,true,true,true,true,true,true,true,true,true,true,true,true,true,true,true,true,true,true,true,true,true,true,true,true,true,true,false] rfl rfl (any_of HT_.out (by kernel_rfl)) (fun _ _ _ h => h) (Or.inl ⟨by rfl, ?_⟩) ?_ ?_
         rotate_left
         ·intro w'
          go_simp
          with_reducible rfl
         rotate_left
         ·(simp only [Act.put, List.setIfInBounds_toArray, List.set_cons_zero, List.set_cons_succ, i64_w, i32_w])
          rfl
         refine pure_ (i := 30) (N := some 4) (v := ?_) (a' := ?_) #[true,true,true,true,true,true,true,true,true,true,true,true,true,true,true,true,true,true,true,true,true,true,true,true,true,true,true,true,true,true,true] rfl rfl (any_of HT_.out (by kernel_rfl)) (fun _ _ _ h => h) (Or.inl ⟨by rfl, ?_⟩) ?_ ?_
         rotate_left
         ·intro w'
          go_simp
          with_reducible rfl
         rotate_left
         ·(simp only [Act.put, List.setIfInBounds_toArray, List.set_cons_zero, List.set_cons_succ, i64_w, i32_w])
          rfl
         refine done_ (done_of HT_.out (by kernel_rfl)) ?_
         try go_wp2
         go_ret
         exact ⟨by first | rfl | (simp [errW_none, errW_some] <;> rfl) | (simp [*, errW_none, errW_some] <;> rfl), by repeat (with_reducible first | exact HB.out | apply lA | apply pw_below_drewN | apply lD | refine below_set ?_ GE177.out | refine below_set ?_ GE184.out | refine below_set ?_ GE190.out)⟩
       ·rw [if_neg c20] at H
        have c20b0 : (t179.toList == t185.toList && (t180 == t186 && (t181 == t187))) = false := by simpa using c20
        (try (have c20b1 : decide (t179.toList = t185.toList && (t180 == t186 && (t181 == t187))) = false := by simpa using c20))
        (try (have c20b2 : (t179.toList == t185.toList && (t180 == t186 && (t181 == t187))) = false := by simpa using c20))
        (try (have c20b3 : ¬ (t179.toList = t185.toList && (t180 == t186 && (t181 == t187))) := by simpa using c20))
        clear c20
        obtain rfl := Option.some.inj H
        try go_wp2_with (first | ((with_reducible refine gate_callee (f := 10) rfl ?_); refine goesL_ (some 25) rfl rfl Tryd.func10 (by kernel_rfl) rfl #[.string a1] rfl (by (try simp only [List.map_toArray, List.map_cons, List.map_nil]); first | done | rfl) ?_; (with_reducible refine (spec_Take.calls a1 t179 t180 t181 t182 t183 _ A11.out (X.Gl.below hG.out (by repeat (with_reducible first | exact HB.out | apply lA | apply pw_below_drewN | apply lD | refine below_set ?_ (Aside0.out (by assumption)))))).mono ?_); rintro e w52 ⟨rfl, hb⟩; refine ⟨_, rfl, ?_⟩; have n0_ := Aside0.mk (blk_below (g := gb177) (o := .cells #[.string a0_0, .int .i64 a0_1, .bool a0_2] 23 (0, 0)) (by (with_reducible repeat first | apply bN | apply bD | apply bA); exact BK177.out) hb); have n1_ := Aside0.mk (below_step (by repeat (with_reducible first | exact HB.out | apply lA | apply pw_below_drewN | apply lD | refine below_set ?_ GE177.out)) hb); clear BK177; clear HB; have BK177 := n0_; have HB := n1_; clear n0_ n1_; (try clear hb); (try clear hb2); (try clear hk); (try clear hi)) | ((with_reducible refine gate_dst (N := 6) rfl ?_); (try (refine gate_guard (by rfl) ?_; dsimp only)); refine box_event ?hg (N := 6) ?hd (cs := #[.string (⟨#[]⟩ : ByteArray), .int .i64 0, .bool false]) (t := 23) ?hr ?_; (case hd => rfl); (case hg => rfl); (case hr => first | (go_simp; done) | (go_simp; rfl)); intro gb184 hg w53 hbox hb; have n0_ := Aside0.mk (blk_below (g := gb177) (o := .cells #[.string a0_0, .int .i64 a0_1, .bool a0_2] 23 (0, 0)) (by (with_reducible repeat first | apply bN | apply bD | apply bA); exact BK177.out) hb); have n1_ := Aside0.mk (below_step (by repeat (with_reducible first | exact HB.out | apply lA | apply pw_below_drewN | apply lD | refine below_set ?_ GE177.out)) hb); have n2_ := Aside0.mk (hbox); have n3_ := Aside0.mk ((by rw [hg]; exact (below_size (by repeat (with_reducible first | exact HB.out | apply lA | apply pw_below_drewN | apply lD | refine below_set ?_ GE177.out))) : w.heap.size ≤ gb184)); have n4_ := Aside0.mk ((by rw [hg]; exact (below_size (by repeat (with_reducible first | exact HB.out | apply lA | apply pw_below_drewN | apply lD | refine below_set ?_ GE177.out))) : w.heap.size ≤ gb184)); have n5_ := Aside0.mk ((by rw [hg]; exact Nat.ne_of_lt (blk_lt (g := gb177) (o := .cells #[.string a0_0, .int .i64 a0_1, .bool a0_2] 23 (0, 0)) (by (with_reducible repeat first | apply bN | apply bD | apply bA); exact BK177.out)) : gb177 ≠ gb184)); have n6_ := Aside0.mk ((by rw [hg]; exact Nat.ne_of_gt (blk_lt (g := gb177) (o := .cells #[.string a0_0, .int .i64 a0_1, .bool a0_2] 23 (0, 0)) (by (with_reducible repeat first | apply bN | apply bD | apply bA); exact BK177.out)) : gb184 ≠ gb177)); clear BK177; clear HB; have BK177 := n0_; have HB := n1_; have BK184 := n2_; have GW184 := n3_; have GE184 := n4_; have NB177_184 := n5_; have NB184_177 := n6_; clear n0_ n1_ n2_ n3_ n4_ n5_ n6_; clear hb hbox hg; have hnb54 := NB184_177.out; have hnc54 := NB177_184.out; have hcz55_0 : w53.cell? ⟨gb184, 0, none⟩ = some (.string (⟨#[]⟩ : ByteArray)) := (blk_cell BK184.out 0).trans rfl; have hcz55_1 : w53.cell? ⟨gb184, 1, none⟩ = some (.int .i64 0) := (blk_cell BK184.out 1).trans rfl; have hcz55_2 : w53.cell? ⟨gb184, 2, none⟩ = some (.bool false) := (blk_cell BK184.out 2).trans rfl; have hfz55_0 := blk_frozen BK184.out 0; have hfz55_1 := blk_frozen BK184.out 1; have hfz55_2 := blk_frozen BK184.out 2) | ((with_reducible refine gate_callee (f := 11) rfl ?_); refine goesL_ (some 31) rfl rfl Tryd.func11 (by kernel_rfl) rfl #[.string a1] rfl (by (try simp only [List.map_toArray, List.map_cons, List.map_nil]); first | done | rfl) ?_; (with_reducible refine (phalaroperef06_Take.calls kj3 a1 t185 t186 t187 t188 t189 _ A12.out).mono ?_); rintro e w56 ⟨rfl, hb⟩; refine ⟨_, rfl, ?_⟩; have n0_ := Aside0.mk (blk_below (g := gb177) (o := .cells #[.string a0_0, .int .i64 a0_1, .bool a0_2] 23 (0, 0)) (by (with_reducible repeat first | apply bN | apply bD | apply bA); refine blk_far ?_ NB177_184.out _; (with_reducible repeat first | apply bN | apply bD | apply bA); refine blk_far ?_ NB177_184.out _; (with_reducible repeat first | apply bN | apply bD | apply bA); refine blk_far ?_ NB177_184.out _; (with_reducible repeat first | apply bN | apply bD | apply bA); exact BK177.out) hb); have n1_ := Aside0.mk (blk_below (g := gb184) (o := .cells #[.string t179, .int .i64 t180, .bool t181] 23 (0, 0)) (by (with_reducible repeat first | apply bN | apply bD | apply bA); refine blk_put (cs := #[.string t179, .int .i64 t180, .bool false]) ?_ 2 _ rfl; (with_reducible repeat first | apply bN | apply bD | apply bA); refine blk_put (cs := #[.string t179, .int .i64 0, .bool false]) ?_ 1 _ rfl; (with_reducible repeat first | apply bN | apply bD | apply bA); refine blk_put (cs := #[.string (⟨#[]⟩ : ByteArray), .int .i64 0, .bool false]) ?_ 0 _ rfl; (with_reducible repeat first | apply bN | apply bD | apply bA); exact BK184.out) hb); have n2_ := Aside0.mk (below_step (by repeat (with_reducible first | exact HB.out | apply lA | apply pw_below_drewN | apply lD | refine below_set ?_ GE177.out | refine below_set ?_ GE184.out)) hb); clear BK177; clear BK184; clear HB; have BK177 := n0_; have BK184 := n1_; have HB := n2_; clear n0_ n1_ n2_; (try clear hb); (try clear hb2); (try clear hk); (try clear hi)) | ((with_reducible refine gate_dst (N := 9) rfl ?_); (try (refine gate_guard (by rfl) ?_; dsimp only)); refine box_event ?hg (N := 9) ?hd (cs := #[.string (⟨#[]⟩ : ByteArray), .int .i64 0, .bool false]) (t := 23) ?hr ?_; (case hd => rfl); (case hg => rfl); (case hr => first | (go_simp; done) | (go_simp; rfl)); intro gb190 hg w57 hbox hb; have n0_ := Aside0.mk (blk_below (g := gb177) (o := .cells #[.string a0_0, .int .i64 a0_1, .bool a0_2] 23 (0, 0)) (by (with_reducible repeat first | apply bN | apply bD | apply bA); exact BK177.out) hb); have n1_ := Aside0.mk (blk_below (g := gb184) (o := .cells #[.string t179, .int .i64 t180, .bool t181] 23 (0, 0)) (by (with_reducible repeat first | apply bN | apply bD | apply bA); exact BK184.out) hb); have n2_ := Aside0.mk (below_step (by repeat (with_reducible first | exact HB.out | apply lA | apply pw_below_drewN | apply lD | refine below_set ?_ GE177.out | refine below_set ?_ GE184.out)) hb); have n3_ := Aside0.mk (hbox); have n4_ := Aside0.mk ((by rw [hg]; exact (below_size (by repeat (with_reducible first | exact HB.out | apply lA | apply pw_below_drewN | apply lD | refine below_set ?_ GE177.out | refine below_set ?_ GE184.out))) : w.heap.size ≤ gb190)); have n5_ := Aside0.mk ((by rw [hg]; exact (below_size (by repeat (with_reducible first | exact HB.out | apply lA | apply pw_below_drewN | apply lD | refine below_set ?_ GE177.out | refine below_set ?_ GE184.out))) : w.heap.size ≤ gb190)); have n6_ := Aside0.mk ((by rw [hg]; exact Nat.ne_of_lt (blk_lt (g := gb177) (o := .cells #[.string a0_0, .int .i64 a0_1, .bool a0_2] 23 (0, 0)) (by (with_reducible repeat first | apply bN | apply bD | apply bA); exact BK177.out)) : gb177 ≠ gb190)); have n7_ := Aside0.mk ((by rw [hg]; exact Nat.ne_of_gt (blk_lt (g := gb177) (o := .cells #[.string a0_0, .int .i64 a0_1, .bool a0_2] 23 (0, 0)) (by (with_reducible repeat first | apply bN | apply bD | apply bA); exact BK177.out)) : gb190 ≠ gb177)); have n8_ := Aside0.mk ((by rw [hg]; exact Nat.ne_of_lt (blk_lt (g := gb184) (o := .cells #[.string t179, .int .i64 t180, .bool t181] 23 (0, 0)) (by (with_reducible repeat first | apply bN | apply bD | apply bA); exact BK184.out)) : gb184 ≠ gb190)); have n9_ := Aside0.mk ((by rw [hg]; exact Nat.ne_of_gt (blk_lt (g := gb184) (o := .cells #[.string t179, .int .i64 t180, .bool t181] 23 (0, 0)) (by (with_reducible repeat first | apply bN | apply bD | apply bA); exact BK184.out)) : gb190 ≠ gb184)); clear BK177; clear BK184; clear HB; have BK177 := n0_; have BK184 := n1_; have HB := n2_; have BK190 := n3_; have GW190 := n4_; have GE190 := n5_; have NB177_190 := n6_; have NB190_177 := n7_; have NB184_190 := n8_; have NB190_184 := n9_; clear n0_ n1_ n2_ n3_ n4_ n5_ n6_ n7_ n8_ n9_; clear hb hbox hg; have hnb58 := NB190_177.out; have hnc58 := NB177_190.out; have hnb59 := NB190_184.out; have hnc59 := NB184_190.out; have hcz60_0 : w57.cell? ⟨gb190, 0, none⟩ = some (.string (⟨#[]⟩ : ByteArray)) := (blk_cell BK190.out 0).trans rfl; have hcz60_1 : w57.cell? ⟨gb190, 1, none⟩ = some (.int .i64 0) := (blk_cell BK190.out 1).trans rfl; have hcz60_2 : w57.cell? ⟨gb190, 2, none⟩ = some (.bool false) := (blk_cell BK190.out 2).trans rfl; have hfz60_0 := blk_frozen BK190.out 0; have hfz60_1 := blk_frozen BK190.out 1; have hfz60_2 := blk_frozen BK190.out 2))
        have n0_ : Aside0 ((((w57.setCell ⟨gb190, 0, none⟩ (.string t185)).setCell ⟨gb190, 1, none⟩ (.int .i64 t186)).setCell ⟨gb190, 2, none⟩ (.bool t187)).heap[gb177]? = some (.cells #[.string a0_0, .int .i64 a0_1, .bool a0_2] 23 (0, 0))) := ⟨by (with_reducible repeat first | apply bN | apply bD | apply bA); refine blk_far ?_ NB177_190.out _; (with_reducible repeat first | apply bN | apply bD | apply bA); refine blk_far ?_ NB177_190.out _; (with_reducible repeat first | apply bN | apply bD | apply bA); refine blk_far ?_ NB177_190.out _; (with_reducible repeat first | apply bN | apply bD | apply bA); exact BK177.out⟩
        have n1_ : Aside0 ((((w57.setCell ⟨gb190, 0, none⟩ (.string t185)).setCell ⟨gb190, 1, none⟩ (.int .i64 t186)).setCell ⟨gb190, 2, none⟩ (.bool t187)).heap[gb184]? = some (.cells #[.string t179, .int .i64 t180, .bool t181] 23 (0, 0))) := ⟨by (with_reducible repeat first | apply bN | apply bD | apply bA); refine blk_far ?_ NB184_190.out _; (with_reducible repeat first | apply bN | apply bD | apply bA); refine blk_far ?_ NB184_190.out _; (with_reducible repeat first | apply bN | apply bD | apply bA); refine blk_far ?_ NB184_190.out _; (with_reducible repeat first | apply bN | apply bD | apply bA); exact BK184.out⟩
        have n2_ : Aside0 ((((w57.setCell ⟨gb190, 0, none⟩ (.string t185)).setCell ⟨gb190, 1, none⟩ (.int .i64 t186)).setCell ⟨gb190, 2, none⟩ (.bool t187)).heap[gb190]? = some (.cells #[.string t185, .int .i64 t186, .bool t187] 23 (0, 0))) := ⟨by (with_reducible repeat first | apply bN | apply bD | apply bA); refine blk_put (cs := #[.string t185, .int .i64 t186, .bool false]) ?_ 2 _ rfl; (with_reducible repeat first | apply bN | apply bD | apply bA); refine blk_put (cs := #[.string t185, .int .i64 0, .bool false]) ?_ 1 _ rfl; (with_reducible repeat first | apply bN | apply bD | apply bA); refine blk_put (cs := #[.string (⟨#[]⟩ : ByteArray), .int .i64 0, .bool false]) ?_ 0 _ rfl; (with_reducible repeat first | apply bN | apply bD | apply bA); exact BK190.out⟩
        have n3_ : Aside0 (Below w.heap.size w (((w57.setCell ⟨gb190, 0, none⟩ (.string t185)).setCell ⟨gb190, 1, none⟩ (.int .i64 t186)).setCell ⟨gb190, 2, none⟩ (.bool t187))) := ⟨by repeat (with_reducible first | exact HB.out | apply lA | apply pw_below_drewN | apply lD | refine below_set ?_ GE177.out | refine below_set ?_ GE184.out | refine below_set ?_ GE190.out)⟩
        (try clear BK177)
        (try clear BK184)
        (try clear BK190)
        (try clear HB)
        generalize (((w57.setCell ⟨gb190, 0, none⟩ (.string t185)).setCell ⟨gb190, 1, none⟩ (.int .i64 t186)).setCell ⟨gb190, 2, none⟩ (.bool t187)) = w61 at n0_ n1_ n2_ n3_ ⊢
        have BK177 := n0_
        have BK184 := n1_
        have BK190 := n2_
        have HB := n3_
        clear n0_ n1_ n2_ n3_
        have n0_ := Aside0.mk (blk_drew BK177.out)
        have n1_ := Aside0.mk (blk_drew BK184.out)
        have n2_ := Aside0.mk (blk_drew BK190.out)
        have n3_ := Aside0.mk (below_drew1 HB.out)
        clear BK177
        clear BK184
        clear BK190
        clear HB
        have BK177 := n0_
        have BK184 := n1_
        have BK190 := n2_
        have HB := n3_
        clear n0_ n1_ n2_ n3_
        refine start_ (n := 31) (S := fun w' => w'.cell? ⟨gb177, 0, none⟩ = some (.string a0_0) ∧ w'.cell? ⟨gb177, 1, none⟩ = some (.int .i64 a0_1) ∧ w'.cell? ⟨gb177, 2, none⟩ = some (.bool a0_2) ∧ w'.cell? ⟨gb184, 0, none⟩ = some (.string t179) ∧ w'.cell? ⟨gb184, 1, none⟩ = some (.int .i64 t180) ∧ w'.cell? ⟨gb184, 2, none⟩ = some (.bool t181) ∧ w'.cell? ⟨gb190, 0, none⟩ = some (.string t185) ∧ w'.cell? ⟨gb190, 1, none⟩ = some (.int .i64 t186) ∧ w'.cell? ⟨gb190, 2, none⟩ = some (.bool t187)) (ds := []) #[false,false,false,false,false,false,false,false,false,false,false,false,false,false,false,false,false,false,false,false,false,false,false,false,false,false,false,false,false,false,false] (by kernel_rfl) rfl rfl ⟨(blk_cell BK177.out 0).trans rfl, (blk_cell BK177.out 1).trans rfl, (blk_cell BK177.out 2).trans rfl, (blk_cell BK184.out 0).trans rfl, (blk_cell BK184.out 1).trans rfl, (blk_cell BK184.out 2).trans rfl, (blk_cell BK190.out 0).trans rfl, (blk_cell BK190.out 1).trans rfl, (blk_cell BK190.out 2).trans rfl⟩ (fun hHeld => ?_); refine with_tabW phalaropelaw06_SpecTells.tab6 phalaropelaw06_SpecTells.bits6 (fun HT_ HW_ => ?_)
        generalize w61.drew = w62 at BK177 BK184 BK190 HB hHeld ⊢
        refine pure_ (i := 0) (N := some 35) (v := ?_) (a' := ?_) #[true,false,false,false,false,false,false,false,false,false,false,false,false,false,false,false,false,false,false,false,false,false,false,false,false,false,false,false,false,false,false] rfl rfl (any_of HT_.out (by kernel_rfl)) (fun _ _ _ h => h) (Or.inl ⟨by rfl, ?_⟩) ?_ ?_
        rotate_left
        ·intro w'
         go_simp
         with_reducible rfl
        rotate_left
        ·(simp only [Act.put, List.setIfInBounds_toArray, List.set_cons_zero, List.set_cons_succ, i64_w, i32_w])
         rfl
        refine pure_ (i := 1) (N := some 36) (v := ?_) (a' := ?_) #[true,true,false,false,false,false,false,false,false,false,false,false,false,false,false,false,false,false,false,false,false,false,false,false,false,false,false,false,false,false,false] rfl rfl (any_of HT_.out (by kernel_rfl)) (fun _ _ _ h => h) (Or.inl ⟨by rfl, ?_⟩) ?_ ?_
        rotate_left
        ·intro w'
         go_simp
         with_reducible rfl
        rotate_left
        ·(simp only [Act.put, List.setIfInBounds_toArray, List.set_cons_zero, List.set_cons_succ, i64_w, i32_w])
         rfl
        refine take_ (i := 2) (N := some 37) (v := ?_) (a' := ?_) #[true,true,true,false,false,false,false,false,false,false,false,false,false,false,false,false,false,false,false,false,false,false,false,false,false,false,false,false,false,false,false] rfl rfl (take_ofW HT_.out HW_.out (by kernel_rfl)) (fun _ _ _ h => h) (Or.inl ⟨by rfl, ?_⟩) hHeld ?_ ?_
        rotate_left
        ·rintro w' ⟨s0, s1, s2, s3, s4, s5, s6, s7, s8⟩
         go_simp
         with_reducible rfl
        rotate_left
        ·(simp only [Act.put, List.setIfInBounds_toArray, List.set_cons_zero, List.set_cons_succ, i64_w, i32_w])
         rfl
        refine take_ (i := 4) (N := some 39) (v := ?_) (a' := ?_) #[true,true,true,false,true,false,false,false,false,false,false,false,false,false,false,false,false,false,false,false,false,false,false,false,false,false,false,false,false,false,false] rfl rfl (take_ofW HT_.out HW_.out (by kernel_rfl)) (fun _ _ _ h => h) (Or.inl ⟨by rfl, ?_⟩) hHeld ?_ ?_
        rotate_left
        ·rintro w' ⟨s0, s1, s2, s3, s4, s5, s6, s7, s8⟩
         go_simp
         with_reducible rfl
        rotate_left
        ·(simp only [Act.put, List.setIfInBounds_toArray, List.set_cons_zero, List.set_cons_succ, i64_w, i32_w])
         rfl
        refine one_ (i := 3) (N := some 38) #[true,true,true,true,true,false,false,false,false,false,false,false,false,false,false,false,false,false,false,false,false,false,false,false,false,false,false,false,false,false,false] rfl rfl (one_of HT_.out (by kernel_rfl)) (by decide) (fun K hK => ?_)
        refine goes_ Tryd.func12 (by kernel_rfl) rfl #[.agg #[.string a0_0, .int .i64 a0_1, .bool a0_2]] (by rfl) rfl rfl (by (try simp only [List.map_toArray, List.map_cons, List.map_nil]); first | done | rfl) ?_
        with_reducible refine (spec_May.calls a0_0 a0_1 a0_2 t191 _ A14.out).mono ?_
        rintro e w63 ⟨rfl, hb⟩
        refine ⟨_, rfl, ?_⟩
        have n0_ := Aside0.mk (blk_below (g := gb177) (o := .cells #[.string a0_0, .int .i64 a0_1, .bool a0_2] 23 (0, 0)) (by (with_reducible repeat first | apply bN | apply bD | apply bA); exact BK177.out) hb)
        have n1_ := Aside0.mk (blk_below (g := gb184) (o := .cells #[.string t179, .int .i64 t180, .bool t181] 23 (0, 0)) (by (with_reducible repeat first | apply bN | apply bD | apply bA); exact BK184.out) hb)
        have n2_ := Aside0.mk (blk_below (g := gb190) (o := .cells #[.string t185, .int .i64 t186, .bool t187] 23 (0, 0)) (by (with_reducible repeat first | apply bN | apply bD | apply bA); exact BK190.out) hb)
        have n3_ := Aside0.mk (below_step (by repeat (with_reducible first | exact HB.out | apply lA | apply pw_below_drewN | apply lD | refine below_set ?_ GE177.out | refine below_set ?_ GE184.out | refine below_set ?_ GE190.out)) hb)
        clear BK177
        clear BK184
        clear BK190
        clear HB
        have BK177 := n0_
        have BK184 := n1_
        have BK190 := n2_
        have HB := n3_
        clear n0_ n1_ n2_ n3_
        (try clear hb)
        (try clear hb2)
        (try clear hk)
        (try clear hi)
        refine hK.out _ _ ⟨(blk_cell BK177.out 0).trans rfl, (blk_cell BK177.out 1).trans rfl, (blk_cell BK177.out 2).trans rfl, (blk_cell BK184.out 0).trans rfl, (blk_cell BK184.out 1).trans rfl, (blk_cell BK184.out 2).trans rfl, (blk_cell BK190.out 0).trans rfl, (blk_cell BK190.out 1).trans rfl, (blk_cell BK190.out 2).trans rfl⟩ (fun hHeld => ?_)
        clear hK K
        refine norm_ (a' := ?_) ?_ ?_
        rotate_left
        ·show Act.put _ (some 38) _ = _
         (simp only [Act.put, List.setIfInBounds_toArray, List.set_cons_zero, List.set_cons_succ, i64_w, i32_w])
         rfl
        refine one_ (i := 5) (N := some 40) #[true,true,true,true,true,true,false,false,false,false,false,false,false,false,false,false,false,false,false,false,false,false,false,false,false,false,false,false,false,false,false] rfl rfl (one_of HT_.out (by kernel_rfl)) (by decide) (fun K hK => ?_)
        refine goes_ Tryd.func13 (by kernel_rfl) rfl #[.agg #[.string a0_0, .int .i64 a0_1, .bool a0_2]] (by rfl) rfl rfl (by (try simp only [List.map_toArray, List.map_cons, List.map_nil]); first | done | rfl) ?_
        with_reducible refine (phalaroperef06_May.calls kj3 a0_0 a0_1 a0_2 t192 _ A15.out).mono ?_
        rintro e w64 ⟨rfl, hb⟩
        refine ⟨_, rfl, ?_⟩
        have n0_ := Aside0.mk (blk_below (g := gb177) (o := .cells #[.string a0_0, .int .i64 a0_1, .bool a0_2] 23 (0, 0)) (by (with_reducible repeat first | apply bN | apply bD | apply bA); exact BK177.out) hb)
        have n1_ := Aside0.mk (blk_below (g := gb184) (o := .cells #[.string t179, .int .i64 t180, .bool t181] 23 (0, 0)) (by (with_reducible repeat first | apply bN | apply bD | apply bA); exact BK184.out) hb)
        have n2_ := Aside0.mk (blk_below (g := gb190) (o := .cells #[.string t185, .int .i64 t186, .bool t187] 23 (0, 0)) (by (with_reducible repeat first | apply bN | apply bD | apply bA); exact BK190.out) hb)
        have n3_ := Aside0.mk (below_step (by repeat (with_reducible first | exact HB.out | apply lA | apply pw_below_drewN | apply lD | refine below_set ?_ GE177.out | refine below_set ?_ GE184.out | refine below_set ?_ GE190.out)) hb)
        clear BK177
        clear BK184
        clear BK190
        clear HB
        have BK177 := n0_
        have BK184 := n1_
        have BK190 := n2_
        have HB := n3_
        clear n0_ n1_ n2_ n3_
        (try clear hb)
        (try clear hb2)
        (try clear hk)
        (try clear hi)
        refine hK.out _ _ ⟨(blk_cell BK177.out 0).trans rfl, (blk_cell BK177.out 1).trans rfl, (blk_cell BK177.out 2).trans rfl, (blk_cell BK184.out 0).trans rfl, (blk_cell BK184.out 1).trans rfl, (blk_cell BK184.out 2).trans rfl, (blk_cell BK190.out 0).trans rfl, (blk_cell BK190.out 1).trans rfl, (blk_cell BK190.out 2).trans rfl⟩ (fun hHeld => ?_)
        clear hK K
        refine norm_ (a' := ?_) ?_ ?_
        rotate_left
        ·show Act.put _ (some 40) _ = _
         (simp only [Act.put, List.setIfInBounds_toArray, List.set_cons_zero, List.set_cons_succ, i64_w, i32_w])
         rfl
        refine pure_ (i := 6) (N := some 41) (v := ?_) (a' := ?_) #[true,true,true,true,true,true,true,false,false,false,false,false,false,false,false,false,false,false,false,false,false,false,false,false,false,false,false,false,false,false,false] rfl rfl (any_of HT_.out (by kernel_rfl)) (fun _ _ _ h => h) (Or.inl ⟨by rfl, ?_⟩) ?_ ?_
        rotate_left
        ·intro w'
         go_simp
         with_reducible rfl
        rotate_left
        ·(simp only [Act.put, List.setIfInBounds_toArray, List.set_cons_zero, List.set_cons_succ, i64_w, i32_w])
         rfl
        refine pure_ (i := 7) (N := some 42) (v := ?_) (a' := ?_) #[true,true,true,true,true,true,true,true,false,false,false,false,false,false,false,false,false,false,false,false,false,false,false,false,false,false,false,false,false,false,false] rfl rfl (any_of HT_.out (by kernel_rfl)) (fun _ _ _ h => h) (Or.inl ⟨by rfl, ?_⟩) ?_ ?_
        rotate_left
        ·intro w'
         go_simp
         with_reducible rfl
        rotate_left
        ·(simp only [Act.put, List.setIfInBounds_toArray, List.set_cons_zero, List.set_cons_succ, i64_w, i32_w])
         rfl
        refine pure_ (i := 8) (N := some 43) (v := ?_) (a' := ?_) #[true,true,true,true,true,true,true,true,true,false,false,false,false,false,false,false,false,false,false,false,false,false,false,false,false,false,false,false,false,false,false] rfl rfl (any_of HT_.out (by kernel_rfl)) (fun _ _ _ h => h) (Or.inl ⟨by rfl, ?_⟩) ?_ ?_
        rotate_left
        ·intro w'
         go_simp
         with_reducible rfl
        rotate_left
        ·(simp only [Act.put, List.setIfInBounds_toArray, List.set_cons_zero, List.set_cons_succ, i64_w, i32_w])
         rfl
        refine take_ (i := 9) (N := some 44) (v := ?_) (a' := ?_) #[true,true,true,true,true,true,true,true,true,true,false,false,false,false,false,false,false,false,false,false,false,false,false,false,false,false,false,false,false,false,false] rfl rfl (take_ofW HT_.out HW_.out (by kernel_rfl)) (fun _ _ _ h => h) (Or.inl ⟨by rfl, ?_⟩) hHeld ?_ ?_
        rotate_left
        ·rintro w' ⟨s0, s1, s2, s3, s4, s5, s6, s7, s8⟩
         go_simp
         with_reducible rfl
        rotate_left
        ·(simp only [Act.put, List.setIfInBounds_toArray, List.set_cons_zero, List.set_cons_succ, i64_w, i32_w])
         rfl
        refine take_ (i := 11) (N := some 46) (v := ?_) (a' := ?_) #[true,true,true,true,true,true,true,true,true,true,false,true,false,false,false,false,false,false,false,false,false,false,false,false,false,false,false,false,false,false,false] rfl rfl (take_ofW HT_.out HW_.out (by kernel_rfl)) (fun _ _ _ h => h) (Or.inl ⟨by rfl, ?_⟩) hHeld ?_ ?_
        rotate_left
        ·rintro w' ⟨s0, s1, s2, s3, s4, s5, s6, s7, s8⟩
         go_simp
         with_reducible rfl
        rotate_left
        ·(simp only [Act.put, List.setIfInBounds_toArray, List.set_cons_zero, List.set_cons_succ, i64_w, i32_w])
         rfl
        refine one_ (i := 10) (N := some 45) #[true,true,true,true,true,true,true,true,true,true,true,true,false,false,false,false,false,false,false,false,false,false,false,false,false,false,false,false,false,false,false] rfl rfl (one_of HT_.out (by kernel_rfl)) (by decide) (fun K hK => ?_)
        refine goes_ Tryd.func14 (by kernel_rfl) rfl #[.agg #[.string a0_0, .int .i64 a0_1, .bool a0_2]] (by rfl) rfl rfl (by (try simp only [List.map_toArray, List.map_cons, List.map_nil]); first | done | rfl) ?_
        with_reducible refine (spec_Put.calls a0_0 a0_1 a0_2 t193 _ A17.out (X.Gl.below hG.out (by repeat (with_reducible first | exact HB.out | apply lA | apply pw_below_drewN | apply lD | refine below_set ?_ (Aside0.out (by assumption)))))).mono ?_
        rintro e w65 ⟨rfl, hb⟩
        refine ⟨_, rfl, ?_⟩
        have n0_ := Aside0.mk (blk_below (g := gb177) (o := .cells #[.string a0_0, .int .i64 a0_1, .bool a0_2] 23 (0, 0)) (by (with_reducible repeat first | apply bN | apply bD | apply bA); exact BK177.out) hb)
        have n1_ := Aside0.mk (blk_below (g := gb184) (o := .cells #[.string t179, .int .i64 t180, .bool t181] 23 (0, 0)) (by (with_reducible repeat first | apply bN | apply bD | apply bA); exact BK184.out) hb)
        have n2_ := Aside0.mk (blk_below (g := gb190) (o := .cells #[.string t185, .int .i64 t186, .bool t187] 23 (0, 0)) (by (with_reducible repeat first | apply bN | apply bD | apply bA); exact BK190.out) hb)
        have n3_ := Aside0.mk (below_step (by repeat (with_reducible first | exact HB.out | apply lA | apply pw_below_drewN | apply lD | refine below_set ?_ GE177.out | refine below_set ?_ GE184.out | refine below_set ?_ GE190.out)) hb)
        clear BK177
        clear BK184
        clear BK190
        clear HB
        have BK177 := n0_
        have BK184 := n1_
        have BK190 := n2_
        have HB := n3_
        clear n0_ n1_ n2_ n3_
        (try clear hb)
        (try clear hb2)
        (try clear hk)
        (try clear hi)
        refine hK.out _ _ ⟨(blk_cell BK177.out 0).trans rfl, (blk_cell BK177.out 1).trans rfl, (blk_cell BK177.out 2).trans rfl, (blk_cell BK184.out 0).trans rfl, (blk_cell BK184.out 1).trans rfl, (blk_cell BK184.out 2).trans rfl, (blk_cell BK190.out 0).trans rfl, (blk_cell BK190.out 1).trans rfl, (blk_cell BK190.out 2).trans rfl⟩ (fun hHeld => ?_)
        clear hK K
        refine norm_ (a' := ?_) ?_ ?_
        rotate_left
        ·show Act.put _ (some 45) _ = _
         (simp only [Act.put, List.setIfInBounds_toArray, List.set_cons_zero, List.set_cons_succ, i64_w, i32_w])
         rfl
        refine one_ (i := 12) (N := some 47) #[true,true,true,true,true,true,true,true,true,true,true,true,true,false,false,false,false,false,false,false,false,false,false,false,false,false,false,false,false,false,false] rfl rfl (one_of HT_.out (by kernel_rfl)) (by decide) (fun K hK => ?_)
        refine goes_ Tryd.func15 (by kernel_rfl) rfl #[.agg #[.string a0_0, .int .i64 a0_1, .bool a0_2]] (by rfl) rfl rfl (by (try simp only [List.map_toArray, List.map_cons, List.map_nil]); first | done | rfl) ?_
        with_reducible refine (phalaroperef06_Put.calls kj3 a0_0 a0_1 a0_2 t194 _ A18.out).mono ?_
        rintro e w66 ⟨rfl, hb⟩
        refine ⟨_, rfl, ?_⟩
        have n0_ := Aside0.mk (blk_below (g := gb177) (o := .cells #[.string a0_0, .int .i64 a0_1, .bool a0_2] 23 (0, 0)) (by (with_reducible repeat first | apply bN | apply bD | apply bA); exact BK177.out) hb)
        have n1_ := Aside0.mk (blk_below (g := gb184) (o := .cells #[.string t179, .int .i64 t180, .bool t181] 23 (0, 0)) (by (with_reducible repeat first | apply bN | apply bD | apply bA); exact BK184.out) hb)
        have n2_ := Aside0.mk (blk_below (g := gb190) (o := .cells #[.string t185, .int .i64 t186, .bool t187] 23 (0, 0)) (by (with_reducible repeat first | apply bN | apply bD | apply bA); exact BK190.out) hb)
        have n3_ := Aside0.mk (below_step (by repeat (with_reducible first | exact HB.out | apply lA | apply pw_below_drewN | apply lD | refine below_set ?_ GE177.out | refine below_set ?_ GE184.out | refine below_set ?_ GE190.out)) hb)
        clear BK177
        clear BK184
        clear BK190
        clear HB
        have BK177 := n0_
        have BK184 := n1_
        have BK190 := n2_
        have HB := n3_
        clear n0_ n1_ n2_ n3_
        (try clear hb)
        (try clear hb2)
        (try clear hk)
        (try clear hi)
        refine hK.out _ _ ⟨(blk_cell BK177.out 0).trans rfl, (blk_cell BK177.out 1).trans rfl, (blk_cell BK177.out 2).trans rfl, (blk_cell BK184.out 0).trans rfl, (blk_cell BK184.out 1).trans rfl, (blk_cell BK184.out 2).trans rfl, (blk_cell BK190.out 0).trans rfl, (blk_cell BK190.out 1).trans rfl, (blk_cell BK190.out 2).trans rfl⟩ (fun hHeld => ?_)
        clear hK K
        refine norm_ (a' := ?_) ?_ ?_
        rotate_left
        ·show Act.put _ (some 47) _ = _
         (simp only [Act.put, List.setIfInBounds_toArray, List.set_cons_zero, List.set_cons_succ, i64_w, i32_w])
         rfl
        refine pure_ (i := 13) (N := some 48) (v := ?_) (a' := ?_) #[true,true,true,true,true,true,true,true,true,true,true,true,true,true,false,false,false,false,false,false,false,false,false,false,false,false,false,false,false,false,false] rfl rfl (any_of HT_.out (by kernel_rfl)) (fun _ _ _ h => h) (Or.inl ⟨by rfl, ?_⟩) ?_ ?_
        rotate_left
        ·intro w'
         go_simp
         with_reducible rfl
        rotate_left
        ·(simp only [Act.put, List.setIfInBounds_toArray, List.set_cons_zero, List.set_cons_succ, i64_w, i32_w])
         rfl
        refine pure_ (i := 14) (N := some 49) (v := ?_) (a' := ?_) #[true,true,true,true,true,true,true,true,true,true,true,true,true,true,true,false,false,false,false,false,false,false,false,false,false,false,false,false,false,false,false] rfl rfl (any_of HT_.out (by kernel_rfl)) (fun _ _ _ h => h) (Or.inl ⟨by rfl, ?_⟩) ?_ ?_
        rotate_left
        ·intro w'
         go_simp
         with_reducible rfl
        rotate_left
        ·(simp only [Act.put, List.setIfInBounds_toArray, List.set_cons_zero, List.set_cons_succ, i64_w, i32_w])
         rfl
        refine pure_ (i := 15) (N := some 50) (v := ?_) (a' := ?_) #[true,true,true,true,true,true,true,true,true,true,true,true,true,true,true,true,false,false,false,false,false,false,false,false,false,false,false,false,false,false,false] rfl rfl (any_of HT_.out (by kernel_rfl)) (fun _ _ _ h => h) (Or.inl ⟨by rfl, ?_⟩) ?_ ?_
        rotate_left
        ·intro w'
         go_simp
         with_reducible rfl
        rotate_left
        ·(simp only [Act.put, List.setIfInBounds_toArray, List.set_cons_zero, List.set_cons_succ, i64_w, i32_w])
         rfl
        refine take_ (i := 16) (N := some 51) (v := ?_) (a' := ?_) #[true,true,true,true,true,true,true,true,true,true,true,true,true,true,true,true,true,false,false,false,false,false,false,false,false,false,false,false,false,false,false] rfl rfl (take_ofW HT_.out HW_.out (by kernel_rfl)) (fun _ _ _ h => h) (Or.inl ⟨by rfl, ?_⟩) hHeld ?_ ?_
        rotate_left
        ·rintro w' ⟨s0, s1, s2, s3, s4, s5, s6, s7, s8⟩
         go_simp
         with_reducible rfl
        rotate_left
        ·(simp only [Act.put, List.setIfInBounds_toArray, List.set_cons_zero, List.set_cons_succ, i64_w, i32_w])
         rfl
        refine take_ (i := 17) (N := some 52) (v := ?_) (a' := ?_) #[true,true,true,true,true,true,true,true,true,true,true,true,true,true,true,true,true,true,false,false,false,false,false,false,false,false,false,false,false,false,false] rfl rfl (take_ofW HT_.out HW_.out (by kernel_rfl)) (fun _ _ _ h => h) (Or.inl ⟨by rfl, ?_⟩) hHeld ?_ ?_
        rotate_left
        ·rintro w' ⟨s0, s1, s2, s3, s4, s5, s6, s7, s8⟩
         go_simp
         with_reducible rfl
        rotate_left
        ·(simp only [Act.put, List.setIfInBounds_toArray, List.set_cons_zero, List.set_cons_succ, i64_w, i32_w])
         rfl
        refine pure_ (i := 18) (N := some 53) (v := ?_) (a' := ?_) #[true,true,true,true,true,true,true,true,true,true,true,true,true,true,true,true,true,true,true,false,false,false,false,false,false,false,false,false,false,false,false] rfl rfl (any_of HT_.out (by kernel_rfl)) (fun _ _ _ h => h) (Or.inl ⟨by rfl, ?_⟩) ?_ ?_
        rotate_left
        ·intro w'
         go_simp
         with_reducible rfl
        rotate_left
        ·(simp only [Act.put, List.setIfInBounds_toArray, List.set_cons_zero, List.set_cons_succ, i64_w, i32_w])
         rfl
        refine pure_ (i := 19) (N := some 54) (v := ?_) (a' := ?_) #[true,true,true,true,true,true,true,true,true,true,true,true,true,true,true,true,true,true,true,true,false,false,false,false,false,false,false,false,false,false,false] rfl rfl (any_of HT_.out (by kernel_rfl)) (fun _ _ _ h => h) (Or.inl ⟨by rfl, ?_⟩) ?_ ?_
        rotate_left
        ·intro w'
         go_simp
         with_reducible rfl
        rotate_left
        ·(simp only [Act.put, List.setIfInBounds_toArray, List.set_cons_zero, List.set_cons_succ, i64_w, i32_w])
         rfl
        refine pure_ (i := 20) (N := some 55) (v := ?_) (a' := ?_) #[true,true,true,true,true,true,true,true,true,true,true,true,true,true,true,true,true,true,true,true,true,false,false,false,false,false,false,false,false,false,false] rfl rfl (any_of HT_.out (by kernel_rfl)) (fun _ _ _ h => h) (Or.inl ⟨by rfl, ?_⟩) ?_ ?_
        rotate_left
        ·intro w'
         go_simp
         with_reducible rfl
        rotate_left
        ·(simp only [Act.put, List.setIfInBounds_toArray, List.set_cons_zero, List.set_cons_succ, i64_w, i32_w])
         rfl
        refine pure_ (i := 21) (N := some 56) (v := undef) (a' := ?_) #[true,true,true,true,true,true,true,true,true,true,true,true,true,true,true,true,true,true,true,true,true,true,false,false,false,false,false,false,false,false,false] rfl rfl (any_of HT_.out (by kernel_rfl)) (fun _ _ _ h => h) (Or.inr ⟨by rfl, rfl⟩) ?_ ?_
        rotate_left
        ·(simp only [Act.put, List.setIfInBounds_toArray, List.set_cons_zero, List.set_cons_succ, i64_w, i32_w])
         rfl
        refine pure_ (i := 22) (N := some 57) (v := undef) (a' := ?_) #[true,true,true,true,true,true,true,true,true,true,true,true,true,true,true,true,true,true,true,true,true,true,true,false,false,false,false,false,false,false,false] rfl rfl (any_of HT_.out (by kernel_rfl)) (fun _ _ _ h => h) (Or.inr ⟨by rfl, rfl⟩) ?_ ?_
        rotate_left
        ·(simp only [Act.put, List.setIfInBounds_toArray, List.set_cons_zero, List.set_cons_succ, i64_w, i32_w])
         rfl
        refine pure_ (i := 23) (N := some 58) (v := undef) (a' := ?_) #[true,true,true,true,true,true,true,true,true,true,true,true,true,true,true,true,true,true,true,true,true,true,true,true,false,false,false,false,false,false,false] rfl rfl (any_of HT_.out (by kernel_rfl)) (fun _ _ _ h => h) (Or.inr ⟨by rfl, rfl⟩) ?_ ?_
        rotate_left
        ·(simp only [Act.put, List.setIfInBounds_toArray, List.set_cons_zero, List.set_cons_succ, i64_w, i32_w])
         rfl
        refine pure_ (i := 24) (N := some 59) (v := ?_) (a' := ?_) #[true,true,true,true,true,true,true,true,true,true,true,true,true,true,true,true,true,true,true,true,true,true,true,true,true,false,false,false,false,false,false] rfl rfl (any_of HT_.out (by kernel_rfl)) (fun _ _ _ h => h) (Or.inl ⟨by rfl, ?_⟩) ?_ ?_
        rotate_left
        ·intro w'
         go_simp
         with_reducible rfl
        rotate_left
        ·(simp only [Act.put, List.setIfInBounds_toArray, List.set_cons_zero, List.set_cons_succ, i64_w, i32_w])
         rfl
        refine pure_ (i := 25) (N := some 60) (v := ?_) (a' := ?_) #[true,true,true,true,true,true,true,true,true,true,true,true,true,true,true,true,true,true,true,true,true,true,true,true,true,true,false,false,false,false,false] rfl rfl (any_of HT_.out (by kernel_rfl)) (fun _ _ _ h => h) (Or.inl ⟨by rfl, ?_⟩) ?_ ?_
        rotate_left
        ·intro w'
         go_simp
         with_reducible rfl
        rotate_left
        ·(simp only [Act.put, List.setIfInBounds_toArray, List.set_cons_zero, List.set_cons_succ, i64_w, i32_w])
         rfl
        refine pure_ (i := 26) (N := some 61) (v := undef) (a' := ?_) #[true,true,true,true,true,true,true,true,true,true,true,true,true,true,true,true,true,true,true,true,true,true,true,true,true,true,true,false,false,false,false] rfl rfl (any_of HT_.out (by kernel_rfl)) (fun _ _ _ h => h) (Or.inr ⟨by rfl, rfl⟩) ?_ ?_
        rotate_left
        ·(simp only [Act.put, List.setIfInBounds_toArray, List.set_cons_zero, List.set_cons_succ, i64_w, i32_w])
         rfl
        refine pure_ (i := 27) (N := some 62) (v := undef) (a' := ?_) #[true,true,true,true,true,true,true,true,true,true,true,true,true,true,true,true,true,true,true,true,true,true,true,true,true,true,true,true,false,false,false] rfl rfl (any_of HT_.out (by kernel_rfl)) (fun _ _ _ h => h) (Or.inr ⟨by rfl, rfl⟩) ?_ ?_
        rotate_left
        ·(simp only [Act.put, List.setIfInBounds_toArray, List.set_cons_zero, List.set_cons_succ, i64_w, i32_w])
         rfl
        refine pure_ (i := 28) (N := some 63) (v := undef) (a' := ?_) #[true,true,true,true,true,true,true,true,true,true,true,true,true,true,true,true,true,true,true,true,true,true,true,true,true,true,true,true,true,false,false] rfl rfl (any_of HT_.out (by kernel_rfl)) (fun _ _ _ h => h) (Or.inr ⟨by rfl, rfl⟩) ?_ ?_
        rotate_left
        ·(simp only [Act.put, List.setIfInBounds_toArray, List.set_cons_zero, List.set_cons_succ, i64_w, i32_w])
         rfl
        refine pure_ (i := 29) (N := some 64) (v := ?_) (a' := ?_) #[true,true,true,true,true,true,true,true,true,true,true,true,true,true,true,true,true,true,true,true,true,true,true,true,true,true,true,true,true,true,false] rfl rfl (any_of HT_.out (by kernel_rfl)) (fun _ _ _ h => h) (Or.inl ⟨by rfl, ?_⟩) ?_ ?_
        rotate_left
        ·intro w'
         go_simp
         with_reducible rfl
        rotate_left
        ·(simp only [Act.put, List.setIfInBounds_toArray, List.set_cons_zero, List.set_cons_succ, i64_w, i32_w])
         rfl
        refine pure_ (i := 30) (N := some 4) (v := ?_) (a' := ?_) #[true,true,true,true,true,true,true,true,true,true,true,true,true,true,true,true,true,true,true,true,true,true,true,true,true,true,true,true,true,true,true] rfl rfl (any_of HT_.out (by kernel_rfl)) (fun _ _ _ h => h) (Or.inl ⟨by rfl, ?_⟩) ?_ ?_
        rotate_left
        ·intro w'
         go_simp
         with_reducible rfl
        rotate_left
        ·(simp only [Act.put, List.setIfInBounds_toArray, List.set_cons_zero, List.set_cons_succ, i64_w, i32_w])
         rfl
        refine done_ (done_of HT_.out (by kernel_rfl)) ?_
        try go_wp2
        go_ret
        exact ⟨by first | rfl | (simp [errW_none, errW_some] <;> rfl) | (simp [*, errW_none, errW_some] <;> rfl), by repeat (with_reducible first | exact HB.out | apply lA | apply pw_below_drewN | apply lD | refine below_set ?_ GE177.out | refine below_set ?_ GE184.out | refine below_set ?_ GE190.out)⟩
      ·rw [if_neg c19] at H
       have c19b0 : (t193.toList == t194.toList) = false := beq_eq_false_iff_ne.mpr c19
       have c19b1 : (t193.toList != t194.toList) = true := bne_iff_ne.mpr c19
       obtain rfl := Option.some.inj H
       try go_wp2_with (first | ((with_reducible refine gate_callee (f := 10) rfl ?_); refine goesL_ (some 25) rfl rfl Tryd.func10 (by kernel_rfl) rfl #[.string a1] rfl (by (try simp only [List.map_toArray, List.map_cons, List.map_nil]); first | done | rfl) ?_; (with_reducible refine (spec_Take.calls a1 t179 t180 t181 t182 t183 _ A11.out (X.Gl.below hG.out (by repeat (with_reducible first | exact HB.out | apply lA | apply pw_below_drewN | apply lD | refine below_set ?_ (Aside0.out (by assumption)))))).mono ?_); rintro e w67 ⟨rfl, hb⟩; refine ⟨_, rfl, ?_⟩; have n0_ := Aside0.mk (blk_below (g := gb177) (o := .cells #[.string a0_0, .int .i64 a0_1, .bool a0_2] 23 (0, 0)) (by (with_reducible repeat first | apply bN | apply bD | apply bA); exact BK177.out) hb); have n1_ := Aside0.mk (below_step (by repeat (with_reducible first | exact HB.out | apply lA | apply pw_below_drewN | apply lD | refine below_set ?_ GE177.out)) hb); clear BK177; clear HB; have BK177 := n0_; have HB := n1_; clear n0_ n1_; (try clear hb); (try clear hb2); (try clear hk); (try clear hi)) | ((with_reducible refine gate_dst (N := 6) rfl ?_); (try (refine gate_guard (by rfl) ?_; dsimp only)); refine box_event ?hg (N := 6) ?hd (cs := #[.string (⟨#[]⟩ : ByteArray), .int .i64 0, .bool false]) (t := 23) ?hr ?_; (case hd => rfl); (case hg => rfl); (case hr => first | (go_simp; done) | (go_simp; rfl)); intro gb184 hg w68 hbox hb; have n0_ := Aside0.mk (blk_below (g := gb177) (o := .cells #[.string a0_0, .int .i64 a0_1, .bool a0_2] 23 (0, 0)) (by (with_reducible repeat first | apply bN | apply bD | apply bA); exact BK177.out) hb); have n1_ := Aside0.mk (below_step (by repeat (with_reducible first | exact HB.out | apply lA | apply pw_below_drewN | apply lD | refine below_set ?_ GE177.out)) hb); have n2_ := Aside0.mk (hbox); have n3_ := Aside0.mk ((by rw [hg]; exact (below_size (by repeat (with_reducible first | exact HB.out | apply lA | apply pw_below_drewN | apply lD | refine below_set ?_ GE177.out))) : w.heap.size ≤ gb184)); have n4_ := Aside0.mk ((by rw [hg]; exact (below_size (by repeat (with_reducible first | exact HB.out | apply lA | apply pw_below_drewN | apply lD | refine below_set ?_ GE177.out))) : w.heap.size ≤ gb184)); have n5_ := Aside0.mk ((by rw [hg]; exact Nat.ne_of_lt (blk_lt (g := gb177) (o := .cells #[.string a0_0, .int .i64 a0_1, .bool a0_2] 23 (0, 0)) (by (with_reducible repeat first | apply bN | apply bD | apply bA); exact BK177.out)) : gb177 ≠ gb184)); have n6_ := Aside0.mk ((by rw [hg]; exact Nat.ne_of_gt (blk_lt (g := gb177) (o := .cells #[.string a0_0, .int .i64 a0_1, .bool a0_2] 23 (0, 0)) (by (with_reducible repeat first | apply bN | apply bD | apply bA); exact BK177.out)) : gb184 ≠ gb177)); clear BK177; clear HB; have BK177 := n0_; have HB := n1_; have BK184 := n2_; have GW184 := n3_; have GE184 := n4_; have NB177_184 := n5_; have NB184_177 := n6_; clear n0_ n1_ n2_ n3_ n4_ n5_ n6_; clear hb hbox hg; have hnb69 := NB184_177.out; have hnc69 := NB177_184.out; have hcz70_0 : w68.cell? ⟨gb184, 0, none⟩ = some (.string (⟨#[]⟩ : ByteArray)) := (blk_cell BK184.out 0).trans rfl; have hcz70_1 : w68.cell? ⟨gb184, 1, none⟩ = some (.int .i64 0) := (blk_cell BK184.out 1).trans rfl; have hcz70_2 : w68.cell? ⟨gb184, 2, none⟩ = some (.bool false) := (blk_cell BK184.out 2).trans rfl; have hfz70_0 := blk_frozen BK184.out 0; have hfz70_1 := blk_frozen BK184.out 1; have hfz70_2 := blk_frozen BK184.out 2) | ((with_reducible refine gate_callee (f := 11) rfl ?_); refine goesL_ (some 31) rfl rfl Tryd.func11 (by kernel_rfl) rfl #[.string a1] rfl (by (try simp only [List.map_toArray, List.map_cons, List.map_nil]); first | done | rfl) ?_; (with_reducible refine (phalaroperef06_Take.calls kj3 a1 t185 t186 t187 t188 t189 _ A12.out).mono ?_); rintro e w71 ⟨rfl, hb⟩; refine ⟨_, rfl, ?_⟩; have n0_ := Aside0.mk (blk_below (g := gb177) (o := .cells #[.string a0_0, .int .i64 a0_1, .bool a0_2] 23 (0, 0)) (by (with_reducible repeat first | apply bN | apply bD | apply bA); refine blk_far ?_ NB177_184.out _; (with_reducible repeat first | apply bN | apply bD | apply bA); refine blk_far ?_ NB177_184.out _; (with_reducible repeat first | apply bN | apply bD | apply bA); refine blk_far ?_ NB177_184.out _; (with_reducible repeat first | apply bN | apply bD | apply bA); exact BK177.out) hb); have n1_ := Aside0.mk (blk_below (g := gb184) (o := .cells #[.string t179, .int .i64 t180, .bool t181] 23 (0, 0)) (by (with_reducible repeat first | apply bN | apply bD | apply bA); refine blk_put (cs := #[.string t179, .int .i64 t180, .bool false]) ?_ 2 _ rfl; (with_reducible repeat first | apply bN | apply bD | apply bA); refine blk_put (cs := #[.string t179, .int .i64 0, .bool false]) ?_ 1 _ rfl; (with_reducible repeat first | apply bN | apply bD | apply bA); refine blk_put (cs := #[.string (⟨#[]⟩ : ByteArray), .int .i64 0, .bool false]) ?_ 0 _ rfl; (with_reducible repeat first | apply bN | apply bD | apply bA); exact BK184.out) hb); have n2_ := Aside0.mk (below_step (by repeat (with_reducible first | exact HB.out | apply lA | apply pw_below_drewN | apply lD | refine below_set ?_ GE177.out | refine below_set ?_ GE184.out)) hb); clear BK177; clear BK184; clear HB; have BK177 := n0_; have BK184 := n1_; have HB := n2_; clear n0_ n1_ n2_; (try clear hb); (try clear hb2); (try clear hk); (try clear hi)) | ((with_reducible refine gate_dst (N := 9) rfl ?_); (try (refine gate_guard (by rfl) ?_; dsimp only)); refine box_event ?hg (N := 9) ?hd (cs := #[.string (⟨#[]⟩ : ByteArray), .int .i64 0, .bool false]) (t := 23) ?hr ?_; (case hd => rfl); (case hg => rfl); (case hr => first | (go_simp; done) | (go_simp; rfl)); intro gb190 hg w72 hbox hb; have n0_ := Aside0.mk (blk_below (g := gb177) (o := .cells #[.string a0_0, .int .i64 a0_1, .bool a0_2] 23 (0, 0)) (by (with_reducible repeat first | apply bN | apply bD | apply bA); exact BK177.out) hb); have n1_ := Aside0.mk (blk_below (g := gb184) (o := .cells #[.string t179, .int .i64 t180, .bool t181] 23 (0, 0)) (by (with_reducible repeat first | apply bN | apply bD | apply bA); exact BK184.out) hb); have n2_ := Aside0.mk (below_step (by repeat (with_reducible first | exact HB.out | apply lA | apply pw_below_drewN | apply lD | refine below_set ?_ GE177.out | refine below_set ?_ GE184.out)) hb); have n3_ := Aside0.mk (hbox); have n4_ := Aside0.mk ((by rw [hg]; exact (below_size (by repeat (with_reducible first | exact HB.out | apply lA | apply pw_below_drewN | apply lD | refine below_set ?_ GE177.out | refine below_set ?_ GE184.out))) : w.heap.size ≤ gb190)); have n5_ := Aside0.mk ((by rw [hg]; exact (below_size (by repeat (with_reducible first | exact HB.out | apply lA | apply pw_below_drewN | apply lD | refine below_set ?_ GE177.out | refine below_set ?_ GE184.out))) : w.heap.size ≤ gb190)); have n6_ := Aside0.mk ((by rw [hg]; exact Nat.ne_of_lt (blk_lt (g := gb177) (o := .cells #[.string a0_0, .int .i64 a0_1, .bool a0_2] 23 (0, 0)) (by (with_reducible repeat first | apply bN | apply bD | apply bA); exact BK177.out)) : gb177 ≠ gb190)); have n7_ := Aside0.mk ((by rw [hg]; exact Nat.ne_of_gt (blk_lt (g := gb177) (o := .cells #[.string a0_0, .int .i64 a0_1, .bool a0_2] 23 (0, 0)) (by (with_reducible repeat first | apply bN | apply bD | apply bA); exact BK177.out)) : gb190 ≠ gb177)); have n8_ := Aside0.mk ((by rw [hg]; exact Nat.ne_of_lt (blk_lt (g := gb184) (o := .cells #[.string t179, .int .i64 t180, .bool t181] 23 (0, 0)) (by (with_reducible repeat first | apply bN | apply bD | apply bA); exact BK184.out)) : gb184 ≠ gb190)); have n9_ := Aside0.mk ((by rw [hg]; exact Nat.ne_of_gt (blk_lt (g := gb184) (o := .cells #[.string t179, .int .i64 t180, .bool t181] 23 (0, 0)) (by (with_reducible repeat first | apply bN | apply bD | apply bA); exact BK184.out)) : gb190 ≠ gb184)); clear BK177; clear BK184; clear HB; have BK177 := n0_; have BK184 := n1_; have HB := n2_; have BK190 := n3_; have GW190 := n4_; have GE190 := n5_; have NB177_190 := n6_; have NB190_177 := n7_; have NB184_190 := n8_; have NB190_184 := n9_; clear n0_ n1_ n2_ n3_ n4_ n5_ n6_ n7_ n8_ n9_; clear hb hbox hg; have hnb73 := NB190_177.out; have hnc73 := NB177_190.out; have hnb74 := NB190_184.out; have hnc74 := NB184_190.out; have hcz75_0 : w72.cell? ⟨gb190, 0, none⟩ = some (.string (⟨#[]⟩ : ByteArray)) := (blk_cell BK190.out 0).trans rfl; have hcz75_1 : w72.cell? ⟨gb190, 1, none⟩ = some (.int .i64 0) := (blk_cell BK190.out 1).trans rfl; have hcz75_2 : w72.cell? ⟨gb190, 2, none⟩ = some (.bool false) := (blk_cell BK190.out 2).trans rfl; have hfz75_0 := blk_frozen BK190.out 0; have hfz75_1 := blk_frozen BK190.out 1; have hfz75_2 := blk_frozen BK190.out 2))
       have n0_ : Aside0 ((((w72.setCell ⟨gb190, 0, none⟩ (.string t185)).setCell ⟨gb190, 1, none⟩ (.int .i64 t186)).setCell ⟨gb190, 2, none⟩ (.bool t187)).heap[gb177]? = some (.cells #[.string a0_0, .int .i64 a0_1, .bool a0_2] 23 (0, 0))) := ⟨by (with_reducible repeat first | apply bN | apply bD | apply bA); refine blk_far ?_ NB177_190.out _; (with_reducible repeat first | apply bN | apply bD | apply bA); refine blk_far ?_ NB177_190.out _; (with_reducible repeat first | apply bN | apply bD | apply bA); refine blk_far ?_ NB177_190.out _; (with_reducible repeat first | apply bN | apply bD | apply bA); exact BK177.out⟩
       have n1_ : Aside0 ((((w72.setCell ⟨gb190, 0, none⟩ (.string t185)).setCell ⟨gb190, 1, none⟩ (.int .i64 t186)).setCell ⟨gb190, 2, none⟩ (.bool t187)).heap[gb184]? = some (.cells #[.string t179, .int .i64 t180, .bool t181] 23 (0, 0))) := ⟨by (with_reducible repeat first | apply bN | apply bD | apply bA); refine blk_far ?_ NB184_190.out _; (with_reducible repeat first | apply bN | apply bD | apply bA); refine blk_far ?_ NB184_190.out _; (with_reducible repeat first | apply bN | apply bD | apply bA); refine blk_far ?_ NB184_190.out _; (with_reducible repeat first | apply bN | apply bD | apply bA); exact BK184.out⟩
       have n2_ : Aside0 ((((w72.setCell ⟨gb190, 0, none⟩ (.string t185)).setCell ⟨gb190, 1, none⟩ (.int .i64 t186)).setCell ⟨gb190, 2, none⟩ (.bool t187)).heap[gb190]? = some (.cells #[.string t185, .int .i64 t186, .bool t187] 23 (0, 0))) := ⟨by (with_reducible repeat first | apply bN | apply bD | apply bA); refine blk_put (cs := #[.string t185, .int .i64 t186, .bool false]) ?_ 2 _ rfl; (with_reducible repeat first | apply bN | apply bD | apply bA); refine blk_put (cs := #[.string t185, .int .i64 0, .bool false]) ?_ 1 _ rfl; (with_reducible repeat first | apply bN | apply bD | apply bA); refine blk_put (cs := #[.string (⟨#[]⟩ : ByteArray), .int .i64 0, .bool false]) ?_ 0 _ rfl; (with_reducible repeat first | apply bN | apply bD | apply bA); exact BK190.out⟩
       have n3_ : Aside0 (Below w.heap.size w (((w72.setCell ⟨gb190, 0, none⟩ (.string t185)).setCell ⟨gb190, 1, none⟩ (.int .i64 t186)).setCell ⟨gb190, 2, none⟩ (.bool t187))) := ⟨by repeat (with_reducible first | exact HB.out | apply lA | apply pw_below_drewN | apply lD | refine below_set ?_ GE177.out | refine below_set ?_ GE184.out | refine below_set ?_ GE190.out)⟩
       (try clear BK177)
       (try clear BK184)
       (try clear BK190)
       (try clear HB)
       generalize (((w72.setCell ⟨gb190, 0, none⟩ (.string t185)).setCell ⟨gb190, 1, none⟩ (.int .i64 t186)).setCell ⟨gb190, 2, none⟩ (.bool t187)) = w76 at n0_ n1_ n2_ n3_ ⊢
       have BK177 := n0_
       have BK184 := n1_
       have BK190 := n2_
       have HB := n3_
       clear n0_ n1_ n2_ n3_
       have n0_ := Aside0.mk (blk_drew BK177.out)
       have n1_ := Aside0.mk (blk_drew BK184.out)
       have n2_ := Aside0.mk (blk_drew BK190.out)
       have n3_ := Aside0.mk (below_drew1 HB.out)
       clear BK177
       clear BK184
       clear BK190
       clear HB
       have BK177 := n0_
       have BK184 := n1_
       have BK190 := n2_
       have HB := n3_
       clear n0_ n1_ n2_ n3_
       refine start_ (n := 31) (S := fun w' => w'.cell? ⟨gb177, 0, none⟩ = some (.string a0_0) ∧ w'.cell? ⟨gb177, 1, none⟩ = some (.int .i64 a0_1) ∧ w'.cell? ⟨gb177, 2, none⟩ = some (.bool a0_2)) (ds := []) #[false,false,false,false,false,false,false,false,false,false,false,false,false,false,false,false,false,false,false,false,false,false,false,false,false,false,false,false,false,false,false] (by kernel_rfl) rfl rfl ⟨(blk_cell BK177.out 0).trans rfl, (blk_cell BK177.out 1).trans rfl, (blk_cell BK177.out 2).trans rfl⟩ (fun hHeld => ?_); refine with_tabW phalaropelaw06_SpecTells.tab6 phalaropelaw06_SpecTells.bits6 (fun HT_ HW_ => ?_)
       generalize w76.drew = w77 at BK177 BK184 BK190 HB hHeld ⊢
       refine pure_ (i := 0) (N := some 35) (v := ?_) (a' := ?_) #[true,false,false,false,false,false,false,false,false,false,false,false,false,false,false,false,false,false,false,false,false,false,false,false,false,false,false,false,false,false,false] rfl rfl (any_of HT_.out (by kernel_rfl)) (fun _ _ _ h => h) (Or.inl ⟨by rfl, ?_⟩) ?_ ?_
       rotate_left
       ·intro w'
        go_simp
        with_reducible rfl
       rotate_left
       ·(simp only [Act.put, List.setIfInBounds_toArray, List.set_cons_zero, List.set_cons_succ, i64_w, i32_w])
        rfl
       refine pure_ (i := 1) (N := some 36) (v := ?_) (a' := ?_) #[true,true,false,false,false,false,false,false,false,false,false,false,false,false,false,false,false,false,false,false,false,false,false,false,false,false,false,false,false,false,false] rfl rfl (any_of HT_.out (by kernel_rfl)) (fun _ _ _ h => h) (Or.inl ⟨by rfl, ?_⟩) ?_ ?_
       rotate_left
       ·intro w'
        go_simp
        with_reducible rfl
       rotate_left
       ·(simp only [Act.put, List.setIfInBounds_toArray, List.set_cons_zero, List.set_cons_succ, i64_w, i32_w])
        rfl
       refine take_ (i := 2) (N := some 37) (v := ?_) (a' := ?_) #[true,true,true,false,false,false,false,false,false,false,false,false,false,false,false,false,false,false,false,false,false,false,false,false,false,false,false,false,false,false,false] rfl rfl (take_ofW HT_.out HW_.out (by kernel_rfl)) (fun _ _ _ h => h) (Or.inl ⟨by rfl, ?_⟩) hHeld ?_ ?_
       rotate_left
       ·rintro w' ⟨s0, s1, s2⟩
        go_simp
        with_reducible rfl
       rotate_left
       ·(simp only [Act.put, List.setIfInBounds_toArray, List.set_cons_zero, List.set_cons_succ, i64_w, i32_w])
        rfl
       refine take_ (i := 4) (N := some 39) (v := ?_) (a' := ?_) #[true,true,true,false,true,false,false,false,false,false,false,false,false,false,false,false,false,false,false,false,false,false,false,false,false,false,false,false,false,false,false] rfl rfl (take_ofW HT_.out HW_.out (by kernel_rfl)) (fun _ _ _ h => h) (Or.inl ⟨by rfl, ?_⟩) hHeld ?_ ?_
       rotate_left
       ·rintro w' ⟨s0, s1, s2⟩
        go_simp
        with_reducible rfl
       rotate_left
       ·(simp only [Act.put, List.setIfInBounds_toArray, List.set_cons_zero, List.set_cons_succ, i64_w, i32_w])
        rfl
       refine one_ (i := 3) (N := some 38) #[true,true,true,true,true,false,false,false,false,false,false,false,false,false,false,false,false,false,false,false,false,false,false,false,false,false,false,false,false,false,false] rfl rfl (one_of HT_.out (by kernel_rfl)) (by decide) (fun K hK => ?_)
       refine goes_ Tryd.func12 (by kernel_rfl) rfl #[.agg #[.string a0_0, .int .i64 a0_1, .bool a0_2]] (by rfl) rfl rfl (by (try simp only [List.map_toArray, List.map_cons, List.map_nil]); first | done | rfl) ?_
       with_reducible refine (spec_May.calls a0_0 a0_1 a0_2 t191 _ A14.out).mono ?_
       rintro e w78 ⟨rfl, hb⟩
       refine ⟨_, rfl, ?_⟩
       have n0_ := Aside0.mk (blk_below (g := gb177) (o := .cells #[.string a0_0, .int .i64 a0_1, .bool a0_2] 23 (0, 0)) (by (with_reducible repeat first | apply bN | apply bD | apply bA); exact BK177.out) hb)
       have n1_ := Aside0.mk (blk_below (g := gb184) (o := .cells #[.string t179, .int .i64 t180, .bool t181] 23 (0, 0)) (by (with_reducible repeat first | apply bN | apply bD | apply bA); exact BK184.out) hb)
       have n2_ := Aside0.mk (blk_below (g := gb190) (o := .cells #[.string t185, .int .i64 t186, .bool t187] 23 (0, 0)) (by (with_reducible repeat first | apply bN | apply bD | apply bA); exact BK190.out) hb)
       have n3_ := Aside0.mk (below_step (by repeat (with_reducible first | exact HB.out | apply lA | apply pw_below_drewN | apply lD | refine below_set ?_ GE177.out | refine below_set ?_ GE184.out | refine below_set ?_ GE190.out)) hb)
       clear BK177
       clear BK184
       clear BK190
       clear HB
       have BK177 := n0_
       have BK184 := n1_
       have BK190 := n2_
       have HB := n3_
       clear n0_ n1_ n2_ n3_
       (try clear hb)
       (try clear hb2)
       (try clear hk)
       (try clear hi)
       refine hK.out _ _ ⟨(blk_cell BK177.out 0).trans rfl, (blk_cell BK177.out 1).trans rfl, (blk_cell BK177.out 2).trans rfl⟩ (fun hHeld => ?_)
       clear hK K
       refine norm_ (a' := ?_) ?_ ?_
       rotate_left
       ·show Act.put _ (some 38) _ = _
        (simp only [Act.put, List.setIfInBounds_toArray, List.set_cons_zero, List.set_cons_succ, i64_w, i32_w])
        rfl
       refine one_ (i := 5) (N := some 40) #[true,true,true,true,true,true,false,false,false,false,false,false,false,false,false,false,false,false,false,false,false,false,false,false,false,false,false,false,false,false,false] rfl rfl (one_of HT_.out (by kernel_rfl)) (by decide) (fun K hK => ?_)
       refine goes_ Tryd.func13 (by kernel_rfl) rfl #[.agg #[.string a0_0, .int .i64 a0_1, .bool a0_2]] (by rfl) rfl rfl (by (try simp only [List.map_toArray, List.map_cons, List.map_nil]); first | done | rfl) ?_
       with_reducible refine (phalaroperef06_May.calls kj3 a0_0 a0_1 a0_2 t192 _ A15.out).mono ?_
       rintro e w79 ⟨rfl, hb⟩
       refine ⟨_, rfl, ?_⟩
       have n0_ := Aside0.mk (blk_below (g := gb177) (o := .cells #[.string a0_0, .int .i64 a0_1, .bool a0_2] 23 (0, 0)) (by (with_reducible repeat first | apply bN | apply bD | apply bA); exact BK177.out) hb)
       have n1_ := Aside0.mk (blk_below (g := gb184) (o := .cells #[.string t179, .int .i64 t180, .bool t181] 23 (0, 0)) (by (with_reducible repeat first | apply bN | apply bD | apply bA); exact BK184.out) hb)
       have n2_ := Aside0.mk (blk_below (g := gb190) (o := .cells #[.string t185, .int .i64 t186, .bool t187] 23 (0, 0)) (by (with_reducible repeat first | apply bN | apply bD | apply bA); exact BK190.out) hb)
       have n3_ := Aside0.mk (below_step (by repeat (with_reducible first | exact HB.out | apply lA | apply pw_below_drewN | apply lD | refine below_set ?_ GE177.out | refine below_set ?_ GE184.out | refine below_set ?_ GE190.out)) hb)
       clear BK177
       clear BK184
       clear BK190
       clear HB
       have BK177 := n0_
       have BK184 := n1_
       have BK190 := n2_
       have HB := n3_
       clear n0_ n1_ n2_ n3_
       (try clear hb)
       (try clear hb2)
       (try clear hk)
       (try clear hi)
       refine hK.out _ _ ⟨(blk_cell BK177.out 0).trans rfl, (blk_cell BK177.out 1).trans rfl, (blk_cell BK177.out 2).trans rfl⟩ (fun hHeld => ?_)
       clear hK K
       refine norm_ (a' := ?_) ?_ ?_
       rotate_left
       ·show Act.put _ (some 40) _ = _
        (simp only [Act.put, List.setIfInBounds_toArray, List.set_cons_zero, List.set_cons_succ, i64_w, i32_w])
        rfl
       refine pure_ (i := 6) (N := some 41) (v := ?_) (a' := ?_) #[true,true,true,true,true,true,true,false,false,false,false,false,false,false,false,false,false,false,false,false,false,false,false,false,false,false,false,false,false,false,false] rfl rfl (any_of HT_.out (by kernel_rfl)) (fun _ _ _ h => h) (Or.inl ⟨by rfl, ?_⟩) ?_ ?_
       rotate_left
       ·intro w'
        go_simp
        with_reducible rfl
       rotate_left
       ·(simp only [Act.put, List.setIfInBounds_toArray, List.set_cons_zero, List.set_cons_succ, i64_w, i32_w])
        rfl
       refine pure_ (i := 7) (N := some 42) (v := ?_) (a' := ?_) #[true,true,true,true,true,true,true,true,false,false,false,false,false,false,false,false,false,false,false,false,false,false,false,false,false,false,false,false,false,false,false] rfl rfl (any_of HT_.out (by kernel_rfl)) (fun _ _ _ h => h) (Or.inl ⟨by rfl, ?_⟩) ?_ ?_
       rotate_left
       ·intro w'
        go_simp
        with_reducible rfl
       rotate_left
       ·(simp only [Act.put, List.setIfInBounds_toArray, List.set_cons_zero, List.set_cons_succ, i64_w, i32_w])
        rfl
       refine pure_ (i := 8) (N := some 43) (v := ?_) (a' := ?_) #[true,true,true,true,true,true,true,true,true,false,false,false,false,false,false,false,false,false,false,false,false,false,false,false,false,false,false,false,false,false,false] rfl rfl (any_of HT_.out (by kernel_rfl)) (fun _ _ _ h => h) (Or.inl ⟨by rfl, ?_⟩) ?_ ?_
       rotate_left
       ·intro w'
        go_simp
        with_reducible rfl
       rotate_left
       ·(simp only [Act.put, List.setIfInBounds_toArray, List.set_cons_zero, List.set_cons_succ, i64_w, i32_w])
        rfl
       refine take_ (i := 9) (N := some 44) (v := ?_) (a' := ?_) #[true,true,true,true,true,true,true,true,true,true,false,false,false,false,false,false,false,false,false,false,false,false,false,false,false,false,false,false,false,false,false] rfl rfl (take_ofW HT_.out HW_.out (by kernel_rfl)) (fun _ _ _ h => h) (Or.inl ⟨by rfl, ?_⟩) hHeld ?_ ?_
       rotate_left
       ·rintro w' ⟨s0, s1, s2⟩
        go_simp
        with_reducible rfl
       rotate_left
       ·(simp only [Act.put, List.setIfInBounds_toArray, List.set_cons_zero, List.set_cons_succ, i64_w, i32_w])
        rfl
       refine take_ (i := 11) (N := some 46) (v := ?_) (a' := ?_) #[true,true,true,true,true,true,true,true,true,true,false,true,false,false,false,false,false,false,false,false,false,false,false,false,false,false,false,false,false,false,false] rfl rfl (take_ofW HT_.out HW_.out (by kernel_rfl)) (fun _ _ _ h => h) (Or.inl ⟨by rfl, ?_⟩) hHeld ?_ ?_
       rotate_left
       ·rintro w' ⟨s0, s1, s2⟩
        go_simp
        with_reducible rfl
       rotate_left
       ·(simp only [Act.put, List.setIfInBounds_toArray, List.set_cons_zero, List.set_cons_succ, i64_w, i32_w])
        rfl
       refine one_ (i := 10) (N := some 45) #[true,true,true,true,true,true,true,true,true,true,true,true,false,false,false,false,false,false,false,false,false,false,false,false,false,false,false,false,false,false,false] rfl rfl (one_of HT_.out (by kernel_rfl)) (by decide) (fun K hK => ?_)
       refine goes_ Tryd.func14 (by kernel_rfl) rfl #[.agg #[.string a0_0, .int .i64 a0_1, .bool a0_2]] (by rfl) rfl rfl (by (try simp only [List.map_toArray, List.map_cons, List.map_nil]); first | done | rfl) ?_
       with_reducible refine (spec_Put.calls a0_0 a0_1 a0_2 t193 _ A17.out (X.Gl.below hG.out (by repeat (with_reducible first | exact HB.out | apply lA | apply pw_below_drewN | apply lD | refine below_set ?_ (Aside0.out (by assumption)))))).mono ?_
       rintro e w80 ⟨rfl, hb⟩
       refine ⟨_, rfl, ?_⟩
       have n0_ := Aside0.mk (blk_below (g := gb177) (o := .cells #[.string a0_0, .int .i64 a0_1, .bool a0_2] 23 (0, 0)) (by (with_reducible repeat first | apply bN | apply bD | apply bA); exact BK177.out) hb)
       have n1_ := Aside0.mk (blk_below (g := gb184) (o := .cells #[.string t179, .int .i64 t180, .bool t181] 23 (0, 0)) (by (with_reducible repeat first | apply bN | apply bD | apply bA); exact BK184.out) hb)
       have n2_ := Aside0.mk (blk_below (g := gb190) (o := .cells #[.string t185, .int .i64 t186, .bool t187] 23 (0, 0)) (by (with_reducible repeat first | apply bN | apply bD | apply bA); exact BK190.out) hb)
       have n3_ := Aside0.mk (below_step (by repeat (with_reducible first | exact HB.out | apply lA | apply pw_below_drewN | apply lD | refine below_set ?_ GE177.out | refine below_set ?_ GE184.out | refine below_set ?_ GE190.out)) hb)
       clear BK177
       clear BK184
       clear BK190
       clear HB
       have BK177 := n0_
       have BK184 := n1_
       have BK190 := n2_
       have HB := n3_
       clear n0_ n1_ n2_ n3_
       (try clear hb)
       (try clear hb2)
       (try clear hk)
       (try clear hi)
       refine hK.out _ _ ⟨(blk_cell BK177.out 0).trans rfl, (blk_cell BK177.out 1).trans rfl, (blk_cell BK177.out 2).trans rfl⟩ (fun hHeld => ?_)
       clear hK K
       refine norm_ (a' := ?_) ?_ ?_
       rotate_left
       ·show Act.put _ (some 45) _ = _
        (simp only [Act.put, List.setIfInBounds_toArray, List.set_cons_zero, List.set_cons_succ, i64_w, i32_w])
        rfl
       refine one_ (i := 12) (N := some 47) #[true,true,true,true,true,true,true,true,true,true,true,true,true,false,false,false,false,false,false,false,false,false,false,false,false,false,false,false,false,false,false] rfl rfl (one_of HT_.out (by kernel_rfl)) (by decide) (fun K hK => ?_)
       refine goes_ Tryd.func15 (by kernel_rfl) rfl #[.agg #[.string a0_0, .int .i64 a0_1, .bool a0_2]] (by rfl) rfl rfl (by (try simp only [List.map_toArray, List.map_cons, List.map_nil]); first | done | rfl) ?_
       with_reducible refine (phalaroperef06_Put.calls kj3 a0_0 a0_1 a0_2 t194 _ A18.out).mono ?_
       rintro e w81 ⟨rfl, hb⟩
       refine ⟨_, rfl, ?_⟩
       have n0_ := Aside0.mk (blk_below (g := gb177) (o := .cells #[.string a0_0, .int .i64 a0_1, .bool a0_2] 23 (0, 0)) (by (with_reducible repeat first | apply bN | apply bD | apply bA); exact BK177.out) hb)
       have n1_ := Aside0.mk (blk_below (g := gb184) (o := .cells #[.string t179, .int .i64 t180, .bool t181] 23 (0, 0)) (by (with_reducible repeat first | apply bN | apply bD | apply bA); exact BK184.out) hb)
       have n2_ := Aside0.mk (blk_below (g := gb190) (o := .cells #[.string t185, .int .i64 t186, .bool t187] 23 (0, 0)) (by (with_reducible repeat first | apply bN | apply bD | apply bA); exact BK190.out) hb)
       have n3_ := Aside0.mk (below_step (by repeat (with_reducible first | exact HB.out | apply lA | apply pw_below_drewN | apply lD | refine below_set ?_ GE177.out | refine below_set ?_ GE184.out | refine below_set ?_ GE190.out)) hb)
       clear BK177
       clear BK184
       clear BK190
       clear HB
       have BK177 := n0_
       have BK184 := n1_
       have BK190 := n2_
       have HB := n3_
       clear n0_ n1_ n2_ n3_
       (try clear hb)
       (try clear hb2)
       (try clear hk)
       (try clear hi)
       refine hK.out _ _ ⟨(blk_cell BK177.out 0).trans rfl, (blk_cell BK177.out 1).trans rfl, (blk_cell BK177.out 2).trans rfl⟩ (fun hHeld => ?_)
       clear hK K
       refine norm_ (a' := ?_) ?_ ?_
       rotate_left
       ·show Act.put _ (some 47) _ = _
        (simp only [Act.put, List.setIfInBounds_toArray, List.set_cons_zero, List.set_cons_succ, i64_w, i32_w])
        rfl
       refine pure_ (i := 13) (N := some 48) (v := ?_) (a' := ?_) #[true,true,true,true,true,true,true,true,true,true,true,true,true,true,false,false,false,false,false,false,false,false,false,false,false,false,false,false,false,false,false] rfl rfl (any_of HT_.out (by kernel_rfl)) (fun _ _ _ h => h) (Or.inl ⟨by rfl, ?_⟩) ?_ ?_
       rotate_left
       ·intro w'
        go_simp
        with_reducible rfl
       rotate_left
       ·(simp only [Act.put, List.setIfInBounds_toArray, List.set_cons_zero, List.set_cons_succ, i64_w, i32_w])
        rfl
       refine pure_ (i := 14) (N := some 49) (v := ?_) (a' := ?_) #[true,true,true,true,true,true,true,true,true,true,true,true,true,true,true,false,false,false,false,false,false,false,false,false,false,false,false,false,false,false,false] rfl rfl (any_of HT_.out (by kernel_rfl)) (fun _ _ _ h => h) (Or.inl ⟨by rfl, ?_⟩) ?_ ?_
       rotate_left
       ·intro w'
        go_simp
        with_reducible rfl
       rotate_left
       ·(simp only [Act.put, List.setIfInBounds_toArray, List.set_cons_zero, List.set_cons_succ, i64_w, i32_w])
        rfl
       refine pure_ (i := 15) (N := some 50) (v := ?_) (a' := ?_) #[true,true,true,true,true,true,true,true,true,true,true,true,true,true,true,true,false,false,false,false,false,false,false,false,false,false,false,false,false,false,false] rfl rfl (any_of HT_.out (by kernel_rfl)) (fun _ _ _ h => h) (Or.inl ⟨by rfl, ?_⟩) ?_ ?_
       rotate_left
       ·intro w'
        go_simp
        with_reducible rfl
       rotate_left
       ·(simp only [Act.put, List.setIfInBounds_toArray, List.set_cons_zero, List.set_cons_succ, i64_w, i32_w])
        rfl
       refine pure_ (i := 16) (N := some 51) (v := undef) (a' := ?_) #[true,true,true,true,true,true,true,true,true,true,true,true,true,true,true,true,true,false,false,false,false,false,false,false,false,false,false,false,false,false,false] rfl rfl (any_of HT_.out (by kernel_rfl)) (fun _ _ _ h => h) (Or.inr ⟨by rfl, rfl⟩) ?_ ?_
       rotate_left
       ·(simp only [Act.put, List.setIfInBounds_toArray, List.set_cons_zero, List.set_cons_succ, i64_w, i32_w])
        rfl
       refine pure_ (i := 17) (N := some 52) (v := undef) (a' := ?_) #[true,true,true,true,true,true,true,true,true,true,true,true,true,true,true,true,true,true,false,false,false,false,false,false,false,false,false,false,false,false,false] rfl rfl (any_of HT_.out (by kernel_rfl)) (fun _ _ _ h => h) (Or.inr ⟨by rfl, rfl⟩) ?_ ?_
       rotate_left
       ·(simp only [Act.put, List.setIfInBounds_toArray, List.set_cons_zero, List.set_cons_succ, i64_w, i32_w])
        rfl
       refine pure_ (i := 18) (N := some 53) (v := undef) (a' := ?_) #[true,true,true,true,true,true,true,true,true,true,true,true,true,true,true,true,true,true,true,false,false,false,false,false,false,false,false,false,false,false,false] rfl rfl (any_of HT_.out (by kernel_rfl)) (fun _ _ _ h => h) (Or.inr ⟨by rfl, rfl⟩) ?_ ?_
       rotate_left
       ·(simp only [Act.put, List.setIfInBounds_toArray, List.set_cons_zero, List.set_cons_succ, i64_w, i32_w])
        rfl
       refine pure_ (i := 19) (N := some 54) (v := ?_) (a' := ?_) #[true,true,true,true,true,true,true,true,true,true,true,true,true,true,true,true,true,true,true,true,false,false,false,false,false,false,false,false,false,false,false] rfl rfl (any_of HT_.out (by kernel_rfl)) (fun _ _ _ h => h) (Or.inl ⟨by rfl, ?_⟩) ?_ ?_
       rotate_left
       ·intro w'
        go_simp
        with_reducible rfl
       rotate_left
       ·(simp only [Act.put, List.setIfInBounds_toArray, List.set_cons_zero, List.set_cons_succ, i64_w, i32_w])
        rfl
       refine pure_ (i := 20) (N := some 55) (v := ?_) (a' := ?_) #[true,true,true,true,true,true,true,true,true,true,true,true,true,true,true,true,true,true,true,true,true,false,false,false,false,false,false,false,false,false,false] rfl rfl (any_of HT_.out (by kernel_rfl)) (fun _ _ _ h => h) (Or.inl ⟨by rfl, ?_⟩) ?_ ?_
       rotate_left
       ·intro w'
        go_simp
        with_reducible rfl
       rotate_left
       ·(simp only [Act.put, List.setIfInBounds_toArray, List.set_cons_zero, List.set_cons_succ, i64_w, i32_w])
        rfl
       refine pure_ (i := 21) (N := some 56) (v := undef) (a' := ?_) #[true,true,true,true,true,true,true,true,true,true,true,true,true,true,true,true,true,true,true,true,true,true,false,false,false,false,false,false,false,false,false] rfl rfl (any_of HT_.out (by kernel_rfl)) (fun _ _ _ h => h) (Or.inr ⟨by rfl, rfl⟩) ?_ ?_
       rotate_left
       ·(simp only [Act.put, List.setIfInBounds_toArray, List.set_cons_zero, List.set_cons_succ, i64_w, i32_w])
        rfl
       refine pure_ (i := 22) (N := some 57) (v := undef) (a' := ?_) #[true,true,true,true,true,true,true,true,true,true,true,true,true,true,true,true,true,true,true,true,true,true,true,false,false,false,false,false,false,false,false] rfl rfl (any_of HT_.out (by kernel_rfl)) (fun _ _ _ h => h) (Or.inr ⟨by rfl, rfl⟩) ?_ ?_
       rotate_left
       ·(simp only [Act.put, List.setIfInBounds_toArray, List.set_cons_zero, List.set_cons_succ, i64_w, i32_w])
        rfl
       refine pure_ (i := 23) (N := some 58) (v := undef) (a' := ?_) #[true,true,true,true,true,true,true,true,true,true,true,true,true,true,true,true,true,true,true,true,true,true,true,true,false,false,false,false,false,false,false] rfl rfl (any_of HT_.out (by kernel_rfl)) (fun _ _ _ h => h) (Or.inr ⟨by rfl, rfl⟩) ?_ ?_
       rotate_left
       ·(simp only [Act.put, List.setIfInBounds_toArray, List.set_cons_zero, List.set_cons_succ, i64_w, i32_w])
        rfl
       refine pure_ (i := 24) (N := some 59) (v := ?_) (a' := ?_) #[true,true,true,true,true,true,true,true,true,true,true,true,true,true,true,true,true,true,true,true,true,true,true,true,true,false,false,false,false,false,false] rfl rfl (any_of HT_.out (by kernel_rfl)) (fun _ _ _ h => h) (Or.inl ⟨by rfl, ?_⟩) ?_ ?_
       rotate_left
       ·intro w'
        go_simp
        with_reducible rfl
       rotate_left
       ·(simp only [Act.put, List.setIfInBounds_toArray, List.set_cons_zero, List.set_cons_succ, i64_w, i32_w])
        rfl
       refine pure_ (i := 25) (N := some 60) (v := ?_) (a' := ?_) #[true,true,true,true,true,true,true,true,true,true,true,true,true,true,true,true,true,true,true,true,true,true,true,true,true,true,false,false,false,false,false] rfl rfl (any_of HT_.out (by kernel_rfl)) (fun _ _ _ h => h) (Or.inl ⟨by rfl, ?_⟩) ?_ ?_
       rotate_left
       ·intro w'
        go_simp
        with_reducible rfl
       rotate_left
       ·(simp only [Act.put, List.setIfInBounds_toArray, List.set_cons_zero, List.set_cons_succ, i64_w, i32_w])
        rfl
       refine pure_ (i := 26) (N := some 61) (v := undef) (a' := ?_) #[true,true,true,true,true,true,true,true,true,true,true,true,true,true,true,true,true,true,true,true,true,true,true,true,true,true,true,false,false,false,false] rfl rfl (any_of HT_.out (by kernel_rfl)) (fun _ _ _ h => h) (Or.inr ⟨by rfl, rfl⟩) ?_ ?_
       rotate_left
       ·(simp only [Act.put, List.setIfInBounds_toArray, List.set_cons_zero, List.set_cons_succ, i64_w, i32_w])
        rfl
       refine pure_ (i := 27) (N := some 62) (v := undef) (a' := ?_) #[true,true,true,true,true,true,true,true,true,true,true,true,true,true,true,true,true,true,true,true,true,true,true,true,true,true,true,true,false,false,false] rfl rfl (any_of HT_.out (by kernel_rfl)) (fun _ _ _ h => h) (Or.inr ⟨by rfl, rfl⟩) ?_ ?_
       rotate_left
       ·(simp only [Act.put, List.setIfInBounds_toArray, List.set_cons_zero, List.set_cons_succ, i64_w, i32_w])
        rfl
       refine pure_ (i := 28) (N := some 63) (v := undef) (a' := ?_) #[true,true,true,true,true,true,true,true,true,true,true,true,true,true,true,true,true,true,true,true,true,true,true,true,true,true,true,true,true,false,false] rfl rfl (any_of HT_.out (by kernel_rfl)) (fun _ _ _ h => h) (Or.inr ⟨by rfl, rfl⟩) ?_ ?_
       rotate_left
       ·(simp only [Act.put, List.setIfInBounds_toArray, List.set_cons_zero, List.set_cons_succ, i64_w, i32_w])
        rfl
       refine pure_ (i := 29) (N := some 64) (v := ?_) (a' := ?_) #[true,true,true,true,true,true,true,true,true,true,true,true,true,true,true,true,true,true,true,true,true,true,true,true,true,true,true,true,true,true,false] rfl rfl (any_of HT_.out (by kernel_rfl)) (fun _ _ _ h => h) (Or.inl ⟨by rfl, ?_⟩) ?_ ?_
       rotate_left
       ·intro w'
        go_simp
        with_reducible rfl
       rotate_left
       ·(simp only [Act.put, List.setIfInBounds_toArray, List.set_cons_zero, List.set_cons_succ, i64_w, i32_w])
        rfl
       refine pure_ (i := 30) (N := some 4) (v := ?_) (a' := ?_) #[true,true,true,true,true,true,true,true,true,true,true,true,true,true,true,true,true,true,true,true,true,true,true,true,true,true,true,true,true,true,true] rfl rfl (any_of HT_.out (by kernel_rfl)) (fun _ _ _ h => h) (Or.inl ⟨by rfl, ?_⟩) ?_ ?_
       rotate_left
       ·intro w'
        go_simp
        with_reducible rfl
       rotate_left
       ·(simp only [Act.put, List.setIfInBounds_toArray, List.set_cons_zero, List.set_cons_succ, i64_w, i32_w])
        rfl
       refine done_ (done_of HT_.out (by kernel_rfl)) ?_
       try go_wp2
       go_ret
       exact ⟨by first | rfl | (simp [errW_none, errW_some] <;> rfl) | (simp [*, errW_none, errW_some] <;> rfl), by repeat (with_reducible first | exact HB.out | apply lA | apply pw_below_drewN | apply lD | refine below_set ?_ GE177.out | refine below_set ?_ GE184.out | refine below_set ?_ GE190.out)⟩
     ·rw [if_neg c16] at H
      have c16b0 : (t191 == t192) = false := by simpa using c16
      (try (have c16b1 : decide (t191 = t192) = false := by simpa using c16))
      (try (have c16b2 : (t191 == t192) = false := by simpa using c16))
      (try (have c16b3 : ¬ (t191 = t192) := by simpa using c16))
      clear c16
      obtain rfl := Option.some.inj H
      try go_wp2_with (first | ((with_reducible refine gate_callee (f := 10) rfl ?_); refine goesL_ (some 25) rfl rfl Tryd.func10 (by kernel_rfl) rfl #[.string a1] rfl (by (try simp only [List.map_toArray, List.map_cons, List.map_nil]); first | done | rfl) ?_; (with_reducible refine (spec_Take.calls a1 t179 t180 t181 t182 t183 _ A11.out (X.Gl.below hG.out (by repeat (with_reducible first | exact HB.out | apply lA | apply pw_below_drewN | apply lD | refine below_set ?_ (Aside0.out (by assumption)))))).mono ?_); rintro e w82 ⟨rfl, hb⟩; refine ⟨_, rfl, ?_⟩; have n0_ := Aside0.mk (blk_below (g := gb177) (o := .cells #[.string a0_0, .int .i64 a0_1, .bool a0_2] 23 (0, 0)) (by (with_reducible repeat first | apply bN | apply bD | apply bA); exact BK177.out) hb); have n1_ := Aside0.mk (below_step (by repeat (with_reducible first | exact HB.out | apply lA | apply pw_below_drewN | apply lD | refine below_set ?_ GE177.out)) hb); clear BK177; clear HB; have BK177 := n0_; have HB := n1_; clear n0_ n1_; (try clear hb); (try clear hb2); (try clear hk); (try clear hi)) | ((with_reducible refine gate_dst (N := 6) rfl ?_); (try (refine gate_guard (by rfl) ?_; dsimp only)); refine box_event ?hg (N := 6) ?hd (cs := #[.string (⟨#[]⟩ : ByteArray), .int .i64 0, .bool false]) (t := 23) ?hr ?_; (case hd => rfl); (case hg => rfl); (case hr => first | (go_simp; done) | (go_simp; rfl)); intro gb184 hg w83 hbox hb; have n0_ := Aside0.mk (blk_below (g := gb177) (o := .cells #[.string a0_0, .int .i64 a0_1, .bool a0_2] 23 (0, 0)) (by (with_reducible repeat first | apply bN | apply bD | apply bA); exact BK177.out) hb); have n1_ := Aside0.mk (below_step (by repeat (with_reducible first | exact HB.out | apply lA | apply pw_below_drewN | apply lD | refine below_set ?_ GE177.out)) hb); have n2_ := Aside0.mk (hbox); have n3_ := Aside0.mk ((by rw [hg]; exact (below_size (by repeat (with_reducible first | exact HB.out | apply lA | apply pw_below_drewN | apply lD | refine below_set ?_ GE177.out))) : w.heap.size ≤ gb184)); have n4_ := Aside0.mk ((by rw [hg]; exact (below_size (by repeat (with_reducible first | exact HB.out | apply lA | apply pw_below_drewN | apply lD | refine below_set ?_ GE177.out))) : w.heap.size ≤ gb184)); have n5_ := Aside0.mk ((by rw [hg]; exact Nat.ne_of_lt (blk_lt (g := gb177) (o := .cells #[.string a0_0, .int .i64 a0_1, .bool a0_2] 23 (0, 0)) (by (with_reducible repeat first | apply bN | apply bD | apply bA); exact BK177.out)) : gb177 ≠ gb184)); have n6_ := Aside0.mk ((by rw [hg]; exact Nat.ne_of_gt (blk_lt (g := gb177) (o := .cells #[.string a0_0, .int .i64 a0_1, .bool a0_2] 23 (0, 0)) (by (with_reducible repeat first | apply bN | apply bD | apply bA); exact BK177.out)) : gb184 ≠ gb177)); clear BK177; clear HB; have BK177 := n0_; have HB := n1_; have BK184 := n2_; have GW184 := n3_; have GE184 := n4_; have NB177_184 := n5_; have NB184_177 := n6_; clear n0_ n1_ n2_ n3_ n4_ n5_ n6_; clear hb hbox hg; have hnb84 := NB184_177.out; have hnc84 := NB177_184.out; have hcz85_0 : w83.cell? ⟨gb184, 0, none⟩ = some (.string (⟨#[]⟩ : ByteArray)) := (blk_cell BK184.out 0).trans rfl; have hcz85_1 : w83.cell? ⟨gb184, 1, none⟩ = some (.int .i64 0) := (blk_cell BK184.out 1).trans rfl; have hcz85_2 : w83.cell? ⟨gb184, 2, none⟩ = some (.bool false) := (blk_cell BK184.out 2).trans rfl; have hfz85_0 := blk_frozen BK184.out 0; have hfz85_1 := blk_frozen BK184.out 1; have hfz85_2 := blk_frozen BK184.out 2) | ((with_reducible refine gate_callee (f := 11) rfl ?_); refine goesL_ (some 31) rfl rfl Tryd.func11 (by kernel_rfl) rfl #[.string a1] rfl (by (try simp only [List.map_toArray, List.map_cons, List.map_nil]); first | done | rfl) ?_; (with_reducible refine (phalaroperef06_Take.calls kj3 a1 t185 t186 t187 t188 t189 _ A12.out).mono ?_); rintro e w86 ⟨rfl, hb⟩; refine ⟨_, rfl, ?_⟩; have n0_ := Aside0.mk (blk_below (g := gb177) (o := .cells #[.string a0_0, .int .i64 a0_1, .bool a0_2] 23 (0, 0)) (by (with_reducible repeat first | apply bN | apply bD | apply bA); refine blk_far ?_ NB177_184.out _; (with_reducible repeat first | apply bN | apply bD | apply bA); refine blk_far ?_ NB177_184.out _; (with_reducible repeat first | apply bN | apply bD | apply bA); refine blk_far ?_ NB177_184.out _; (with_reducible repeat first | apply bN | apply bD | apply bA); exact BK177.out) hb); have n1_ := Aside0.mk (blk_below (g := gb184) (o := .cells #[.string t179, .int .i64 t180, .bool t181] 23 (0, 0)) (by (with_reducible repeat first | apply bN | apply bD | apply bA); refine blk_put (cs := #[.string t179, .int .i64 t180, .bool false]) ?_ 2 _ rfl; (with_reducible repeat first | apply bN | apply bD | apply bA); refine blk_put (cs := #[.string t179, .int .i64 0, .bool false]) ?_ 1 _ rfl; (with_reducible repeat first | apply bN | apply bD | apply bA); refine blk_put (cs := #[.string (⟨#[]⟩ : ByteArray), .int .i64 0, .bool false]) ?_ 0 _ rfl; (with_reducible repeat first | apply bN | apply bD | apply bA); exact BK184.out) hb); have n2_ := Aside0.mk (below_step (by repeat (with_reducible first | exact HB.out | apply lA | apply pw_below_drewN | apply lD | refine below_set ?_ GE177.out | refine below_set ?_ GE184.out)) hb); clear BK177; clear BK184; clear HB; have BK177 := n0_; have BK184 := n1_; have HB := n2_; clear n0_ n1_ n2_; (try clear hb); (try clear hb2); (try clear hk); (try clear hi)) | ((with_reducible refine gate_dst (N := 9) rfl ?_); (try (refine gate_guard (by rfl) ?_; dsimp only)); refine box_event ?hg (N := 9) ?hd (cs := #[.string (⟨#[]⟩ : ByteArray), .int .i64 0, .bool false]) (t := 23) ?hr ?_; (case hd => rfl); (case hg => rfl); (case hr => first | (go_simp; done) | (go_simp; rfl)); intro gb190 hg w87 hbox hb; have n0_ := Aside0.mk (blk_below (g := gb177) (o := .cells #[.string a0_0, .int .i64 a0_1, .bool a0_2] 23 (0, 0)) (by (with_reducible repeat first | apply bN | apply bD | apply bA); exact BK177.out) hb); have n1_ := Aside0.mk (blk_below (g := gb184) (o := .cells #[.string t179, .int .i64 t180, .bool t181] 23 (0, 0)) (by (with_reducible repeat first | apply bN | apply bD | apply bA); exact BK184.out) hb); have n2_ := Aside0.mk (below_step (by repeat (with_reducible first | exact HB.out | apply lA | apply pw_below_drewN | apply lD | refine below_set ?_ GE177.out | refine below_set ?_ GE184.out)) hb); have n3_ := Aside0.mk (hbox); have n4_ := Aside0.mk ((by rw [hg]; exact (below_size (by repeat (with_reducible first | exact HB.out | apply lA | apply pw_below_drewN | apply lD | refine below_set ?_ GE177.out | refine below_set ?_ GE184.out))) : w.heap.size ≤ gb190)); have n5_ := Aside0.mk ((by rw [hg]; exact (below_size (by repeat (with_reducible first | exact HB.out | apply lA | apply pw_below_drewN | apply lD | refine below_set ?_ GE177.out | refine below_set ?_ GE184.out))) : w.heap.size ≤ gb190)); have n6_ := Aside0.mk ((by rw [hg]; exact Nat.ne_of_lt (blk_lt (g := gb177) (o := .cells #[.string a0_0, .int .i64 a0_1, .bool a0_2] 23 (0, 0)) (by (with_reducible repeat first | apply bN | apply bD | apply bA); exact BK177.out)) : gb177 ≠ gb190)); have n7_ := Aside0.mk ((by rw [hg]; exact Nat.ne_of_gt (blk_lt (g := gb177) (o := .cells #[.string a0_0, .int .i64 a0_1, .bool a0_2] 23 (0, 0)) (by (with_reducible repeat first | apply bN | apply bD | apply bA); exact BK177.out)) : gb190 ≠ gb177)); have n8_ := Aside0.mk ((by rw [hg]; exact Nat.ne_of_lt (blk_lt (g := gb184) (o := .cells #[.string t179, .int .i64 t180, .bool t181] 23 (0, 0)) (by (with_reducible repeat first | apply bN | apply bD | apply bA); exact BK184.out)) : gb184 ≠ gb190)); have n9_ := Aside0.mk ((by rw [hg]; exact Nat.ne_of_gt (blk_lt (g := gb184) (o := .cells #[.string t179, .int .i64 t180, .bool t181] 23 (0, 0)) (by (with_reducible repeat first | apply bN | apply bD | apply bA); exact BK184.out)) : gb190 ≠ gb184)); clear BK177; clear BK184; clear HB; have BK177 := n0_; have BK184 := n1_; have HB := n2_; have BK190 := n3_; have GW190 := n4_; have GE190 := n5_; have NB177_190 := n6_; have NB190_177 := n7_; have NB184_190 := n8_; have NB190_184 := n9_; clear n0_ n1_ n2_ n3_ n4_ n5_ n6_ n7_ n8_ n9_; clear hb hbox hg; have hnb88 := NB190_177.out; have hnc88 := NB177_190.out; have hnb89 := NB190_184.out; have hnc89 := NB184_190.out; have hcz90_0 : w87.cell? ⟨gb190, 0, none⟩ = some (.string (⟨#[]⟩ : ByteArray)) := (blk_cell BK190.out 0).trans rfl; have hcz90_1 : w87.cell? ⟨gb190, 1, none⟩ = some (.int .i64 0) := (blk_cell BK190.out 1).trans rfl; have hcz90_2 : w87.cell? ⟨gb190, 2, none⟩ = some (.bool false) := (blk_cell BK190.out 2).trans rfl; have hfz90_0 := blk_frozen BK190.out 0; have hfz90_1 := blk_frozen BK190.out 1; have hfz90_2 := blk_frozen BK190.out 2))
      have n0_ : Aside0 ((((w87.setCell ⟨gb190, 0, none⟩ (.string t185)).setCell ⟨gb190, 1, none⟩ (.int .i64 t186)).setCell ⟨gb190, 2, none⟩ (.bool t187)).heap[gb177]? = some (.cells #[.string a0_0, .int .i64 a0_1, .bool a0_2] 23 (0, 0))) := ⟨by (with_reducible repeat first | apply bN | apply bD | apply bA); refine blk_far ?_ NB177_190.out _; (with_reducible repeat first | apply bN | apply bD | apply bA); refine blk_far ?_ NB177_190.out _; (with_reducible repeat first | apply bN | apply bD | apply bA); refine blk_far ?_ NB177_190.out _; (with_reducible repeat first | apply bN | apply bD | apply bA); exact BK177.out⟩
      have n1_ : Aside0 ((((w87.setCell ⟨gb190, 0, none⟩ (.string t185)).setCell ⟨gb190, 1, none⟩ (.int .i64 t186)).setCell ⟨gb190, 2, none⟩ (.bool t187)).heap[gb184]? = some (.cells #[.string t179, .int .i64 t180, .bool t181] 23 (0, 0))) := ⟨by (with_reducible repeat first | apply bN | apply bD | apply bA); refine blk_far ?_ NB184_190.out _; (with_reducible repeat first | apply bN | apply bD | apply bA); refine blk_far ?_ NB184_190.out _; (with_reducible repeat first | apply bN | apply bD | apply bA); refine blk_far ?_ NB184_190.out _; (with_reducible repeat first | apply bN | apply bD | apply bA); exact BK184.out⟩
      have n2_ : Aside0 ((((w87.setCell ⟨gb190, 0, none⟩ (.string t185)).setCell ⟨gb190, 1, none⟩ (.int .i64 t186)).setCell ⟨gb190, 2, none⟩ (.bool t187)).heap[gb190]? = some (.cells #[.string t185, .int .i64 t186, .bool t187] 23 (0, 0))) := ⟨by (with_reducible repeat first | apply bN | apply bD | apply bA); refine blk_put (cs := #[.string t185, .int .i64 t186, .bool false]) ?_ 2 _ rfl; (with_reducible repeat first | apply bN | apply bD | apply bA); refine blk_put (cs := #[.string t185, .int .i64 0, .bool false]) ?_ 1 _ rfl; (with_reducible repeat first | apply bN | apply bD | apply bA); refine blk_put (cs := #[.string (⟨#[]⟩ : ByteArray), .int .i64 0, .bool false]) ?_ 0 _ rfl; (with_reducible repeat first | apply bN | apply bD | apply bA); exact BK190.out⟩
      have n3_ : Aside0 (Below w.heap.size w (((w87.setCell ⟨gb190, 0, none⟩ (.string t185)).setCell ⟨gb190, 1, none⟩ (.int .i64 t186)).setCell ⟨gb190, 2, none⟩ (.bool t187))) := ⟨by repeat (with_reducible first | exact HB.out | apply lA | apply pw_below_drewN | apply lD | refine below_set ?_ GE177.out | refine below_set ?_ GE184.out | refine below_set ?_ GE190.out)⟩
      (try clear BK177)
      (try clear BK184)
      (try clear BK190)
      (try clear HB)
      generalize (((w87.setCell ⟨gb190, 0, none⟩ (.string t185)).setCell ⟨gb190, 1, none⟩ (.int .i64 t186)).setCell ⟨gb190, 2, none⟩ (.bool t187)) = w91 at n0_ n1_ n2_ n3_ ⊢
      have BK177 := n0_
      have BK184 := n1_
      have BK190 := n2_
      have HB := n3_
      clear n0_ n1_ n2_ n3_
      have n0_ := Aside0.mk (blk_drew BK177.out)
      have n1_ := Aside0.mk (blk_drew BK184.out)
      have n2_ := Aside0.mk (blk_drew BK190.out)
      have n3_ := Aside0.mk (below_drew1 HB.out)
      clear BK177
      clear BK184
      clear BK190
      clear HB
      have BK177 := n0_
      have BK184 := n1_
      have BK190 := n2_
      have HB := n3_
      clear n0_ n1_ n2_ n3_
      refine start_ (n := 31) (S := fun w' => w'.cell? ⟨gb177, 0, none⟩ = some (.string a0_0) ∧ w'.cell? ⟨gb177, 1, none⟩ = some (.int .i64 a0_1) ∧ w'.cell? ⟨gb177, 2, none⟩ = some (.bool a0_2)) (ds := []) #[false,false,false,false,false,false,false,false,false,false,false,false,false,false,false,false,false,false,false,false,false,false,false,false,false,false,false,false,false,false,false] (by kernel_rfl) rfl rfl ⟨(blk_cell BK177.out 0).trans rfl, (blk_cell BK177.out 1).trans rfl, (blk_cell BK177.out 2).trans rfl⟩ (fun hHeld => ?_); refine with_tabW phalaropelaw06_SpecTells.tab6 phalaropelaw06_SpecTells.bits6 (fun HT_ HW_ => ?_)
      generalize w91.drew = w92 at BK177 BK184 BK190 HB hHeld ⊢
      refine pure_ (i := 0) (N := some 35) (v := ?_) (a' := ?_) #[true,false,false,false,false,false,false,false,false,false,false,false,false,false,false,false,false,false,false,false,false,false,false,false,false,false,false,false,false,false,false] rfl rfl (any_of HT_.out (by kernel_rfl)) (fun _ _ _ h => h) (Or.inl ⟨by rfl, ?_⟩) ?_ ?_
      rotate_left
      ·intro w'
       go_simp
       with_reducible rfl
      rotate_left
      ·(simp only [Act.put, List.setIfInBounds_toArray, List.set_cons_zero, List.set_cons_succ, i64_w, i32_w])
       rfl
      refine pure_ (i := 1) (N := some 36) (v := ?_) (a' := ?_) #[true,true,false,false,false,false,false,false,false,false,false,false,false,false,false,false,false,false,false,false,false,false,false,false,false,false,false,false,false,false,false] rfl rfl (any_of HT_.out (by kernel_rfl)) (fun _ _ _ h => h) (Or.inl ⟨by rfl, ?_⟩) ?_ ?_
      rotate_left
      ·intro w'
       go_simp
       with_reducible rfl
      rotate_left
      ·(simp only [Act.put, List.setIfInBounds_toArray, List.set_cons_zero, List.set_cons_succ, i64_w, i32_w])
       rfl
      refine take_ (i := 2) (N := some 37) (v := ?_) (a' := ?_) #[true,true,true,false,false,false,false,false,false,false,false,false,false,false,false,false,false,false,false,false,false,false,false,false,false,false,false,false,false,false,false] rfl rfl (take_ofW HT_.out HW_.out (by kernel_rfl)) (fun _ _ _ h => h) (Or.inl ⟨by rfl, ?_⟩) hHeld ?_ ?_
      rotate_left
      ·rintro w' ⟨s0, s1, s2⟩
       go_simp
       with_reducible rfl
      rotate_left
      ·(simp only [Act.put, List.setIfInBounds_toArray, List.set_cons_zero, List.set_cons_succ, i64_w, i32_w])
       rfl
      refine take_ (i := 4) (N := some 39) (v := ?_) (a' := ?_) #[true,true,true,false,true,false,false,false,false,false,false,false,false,false,false,false,false,false,false,false,false,false,false,false,false,false,false,false,false,false,false] rfl rfl (take_ofW HT_.out HW_.out (by kernel_rfl)) (fun _ _ _ h => h) (Or.inl ⟨by rfl, ?_⟩) hHeld ?_ ?_
      rotate_left
      ·rintro w' ⟨s0, s1, s2⟩
       go_simp
       with_reducible rfl
      rotate_left
      ·(simp only [Act.put, List.setIfInBounds_toArray, List.set_cons_zero, List.set_cons_succ, i64_w, i32_w])
       rfl
      refine one_ (i := 3) (N := some 38) #[true,true,true,true,true,false,false,false,false,false,false,false,false,false,false,false,false,false,false,false,false,false,false,false,false,false,false,false,false,false,false] rfl rfl (one_of HT_.out (by kernel_rfl)) (by decide) (fun K hK => ?_)
      refine goes_ Tryd.func12 (by kernel_rfl) rfl #[.agg #[.string a0_0, .int .i64 a0_1, .bool a0_2]] (by rfl) rfl rfl (by (try simp only [List.map_toArray, List.map_cons, List.map_nil]); first | done | rfl) ?_
      with_reducible refine (spec_May.calls a0_0 a0_1 a0_2 t191 _ A14.out).mono ?_
      rintro e w93 ⟨rfl, hb⟩
      refine ⟨_, rfl, ?_⟩
      have n0_ := Aside0.mk (blk_below (g := gb177) (o := .cells #[.string a0_0, .int .i64 a0_1, .bool a0_2] 23 (0, 0)) (by (with_reducible repeat first | apply bN | apply bD | apply bA); exact BK177.out) hb)
      have n1_ := Aside0.mk (blk_below (g := gb184) (o := .cells #[.string t179, .int .i64 t180, .bool t181] 23 (0, 0)) (by (with_reducible repeat first | apply bN | apply bD | apply bA); exact BK184.out) hb)
      have n2_ := Aside0.mk (blk_below (g := gb190) (o := .cells #[.string t185, .int .i64 t186, .bool t187] 23 (0, 0)) (by (with_reducible repeat first | apply bN | apply bD | apply bA); exact BK190.out) hb)
      have n3_ := Aside0.mk (below_step (by repeat (with_reducible first | exact HB.out | apply lA | apply pw_below_drewN | apply lD | refine below_set ?_ GE177.out | refine below_set ?_ GE184.out | refine below_set ?_ GE190.out)) hb)
      clear BK177
      clear BK184
      clear BK190
      clear HB
      have BK177 := n0_
      have BK184 := n1_
      have BK190 := n2_
      have HB := n3_
      clear n0_ n1_ n2_ n3_
      (try clear hb)
      (try clear hb2)
      (try clear hk)
      (try clear hi)
      refine hK.out _ _ ⟨(blk_cell BK177.out 0).trans rfl, (blk_cell BK177.out 1).trans rfl, (blk_cell BK177.out 2).trans rfl⟩ (fun hHeld => ?_)
      clear hK K
      refine norm_ (a' := ?_) ?_ ?_
      rotate_left
      ·show Act.put _ (some 38) _ = _
       (simp only [Act.put, List.setIfInBounds_toArray, List.set_cons_zero, List.set_cons_succ, i64_w, i32_w])
       rfl
      refine one_ (i := 5) (N := some 40) #[true,true,true,true,true,true,false,false,false,false,false,false,false,false,false,false,false,false,false,false,false,false,false,false,false,false,false,false,false,false,false] rfl rfl (one_of HT_.out (by kernel_rfl)) (by decide) (fun K hK => ?_)
      refine goes_ Tryd.func13 (by kernel_rfl) rfl #[.agg #[.string a0_0, .int .i64 a0_1, .bool a0_2]] (by rfl) rfl rfl (by (try simp only [List.map_toArray, List.map_cons, List.map_nil]); first | done | rfl) ?_
      with_reducible refine (phalaroperef06_May.calls kj3 a0_0 a0_1 a0_2 t192 _ A15.out).mono ?_
      rintro e w94 ⟨rfl, hb⟩
      refine ⟨_, rfl, ?_⟩
      have n0_ := Aside0.mk (blk_below (g := gb177) (o := .cells #[.string a0_0, .int .i64 a0_1, .bool a0_2] 23 (0, 0)) (by (with_reducible repeat first | apply bN | apply bD | apply bA); exact BK177.out) hb)
      have n1_ := Aside0.mk (blk_below (g := gb184) (o := .cells #[.string t179, .int .i64 t180, .bool t181] 23 (0, 0)) (by (with_reducible repeat first | apply bN | apply bD | apply bA); exact BK184.out) hb)
      have n2_ := Aside0.mk (blk_below (g := gb190) (o := .cells #[.string t185, .int .i64 t186, .bool t187] 23 (0, 0)) (by (with_reducible repeat first | apply bN | apply bD | apply bA); exact BK190.out) hb)
      have n3_ := Aside0.mk (below_step (by repeat (with_reducible first | exact HB.out | apply lA | apply pw_below_drewN | apply lD | refine below_set ?_ GE177.out | refine below_set ?_ GE184.out | refine below_set ?_ GE190.out)) hb)
      clear BK177
      clear BK184
      clear BK190
      clear HB
      have BK177 := n0_
      have BK184 := n1_
      have BK190 := n2_
      have HB := n3_
      clear n0_ n1_ n2_ n3_
      (try clear hb)
      (try clear hb2)
      (try clear hk)
      (try clear hi)
      refine hK.out _ _ ⟨(blk_cell BK177.out 0).trans rfl, (blk_cell BK177.out 1).trans rfl, (blk_cell BK177.out 2).trans rfl⟩ (fun hHeld => ?_)
      clear hK K
      refine norm_ (a' := ?_) ?_ ?_
      rotate_left
      ·show Act.put _ (some 40) _ = _
       (simp only [Act.put, List.setIfInBounds_toArray, List.set_cons_zero, List.set_cons_succ, i64_w, i32_w])
       rfl
      refine pure_ (i := 6) (N := some 41) (v := ?_) (a' := ?_) #[true,true,true,true,true,true,true,false,false,false,false,false,false,false,false,false,false,false,false,false,false,false,false,false,false,false,false,false,false,false,false] rfl rfl (any_of HT_.out (by kernel_rfl)) (fun _ _ _ h => h) (Or.inl ⟨by rfl, ?_⟩) ?_ ?_
      rotate_left
      ·intro w'
       go_simp
       with_reducible rfl
      rotate_left
      ·(simp only [Act.put, List.setIfInBounds_toArray, List.set_cons_zero, List.set_cons_succ, i64_w, i32_w])
       rfl
      refine pure_ (i := 7) (N := some 42) (v := ?_) (a' := ?_) #[true,true,true,true,true,true,true,true,false,false,false,false,false,false,false,false,false,false,false,false,false,false,false,false,false,false,false,false,false,false,false] rfl rfl (any_of HT_.out (by kernel_rfl)) (fun _ _ _ h => h) (Or.inl ⟨by rfl, ?_⟩) ?_ ?_
      rotate_left
      ·intro w'
       go_simp
       with_reducible rfl
      rotate_left
      ·(simp only [Act.put, List.setIfInBounds_toArray, List.set_cons_zero, List.set_cons_succ, i64_w, i32_w])
       rfl
      refine pure_ (i := 8) (N := some 43) (v := ?_) (a' := ?_) #[true,true,true,true,true,true,true,true,true,false,false,false,false,false,false,false,false,false,false,false,false,false,false,false,false,false,false,false,false,false,false] rfl rfl (any_of HT_.out (by kernel_rfl)) (fun _ _ _ h => h) (Or.inl ⟨by rfl, ?_⟩) ?_ ?_
      rotate_left
      ·intro w'
       go_simp
       with_reducible rfl
      rotate_left
      ·(simp only [Act.put, List.setIfInBounds_toArray, List.set_cons_zero, List.set_cons_succ, i64_w, i32_w])
       rfl
      refine pure_ (i := 9) (N := some 44) (v := undef) (a' := ?_) #[true,true,true,true,true,true,true,true,true,true,false,false,false,false,false,false,false,false,false,false,false,false,false,false,false,false,false,false,false,false,false] rfl rfl (any_of HT_.out (by kernel_rfl)) (fun _ _ _ h => h) (Or.inr ⟨by rfl, rfl⟩) ?_ ?_
      rotate_left
      ·(simp only [Act.put, List.setIfInBounds_toArray, List.set_cons_zero, List.set_cons_succ, i64_w, i32_w])
       rfl
      refine pure_ (i := 10) (N := some 45) (v := undef) (a' := ?_) #[true,true,true,true,true,true,true,true,true,true,true,false,false,false,false,false,false,false,false,false,false,false,false,false,false,false,false,false,false,false,false] rfl rfl (any_of HT_.out (by kernel_rfl)) (fun _ _ _ h => h) (Or.inr ⟨by rfl, rfl⟩) ?_ ?_
      rotate_left
      ·(simp only [Act.put, List.setIfInBounds_toArray, List.set_cons_zero, List.set_cons_succ, i64_w, i32_w])
       rfl
      refine pure_ (i := 11) (N := some 46) (v := undef) (a' := ?_) #[true,true,true,true,true,true,true,true,true,true,true,true,false,false,false,false,false,false,false,false,false,false,false,false,false,false,false,false,false,false,false] rfl rfl (any_of HT_.out (by kernel_rfl)) (fun _ _ _ h => h) (Or.inr ⟨by rfl, rfl⟩) ?_ ?_
      rotate_left
      ·(simp only [Act.put, List.setIfInBounds_toArray, List.set_cons_zero, List.set_cons_succ, i64_w, i32_w])
       rfl
      refine pure_ (i := 12) (N := some 47) (v := undef) (a' := ?_) #[true,true,true,true,true,true,true,true,true,true,true,true,true,false,false,false,false,false,false,false,false,false,false,false,false,false,false,false,false,false,false] rfl rfl (any_of HT_.out (by kernel_rfl)) (fun _ _ _ h => h) (Or.inr ⟨by rfl, rfl⟩) ?_ ?_
      rotate_left
      ·(simp only [Act.put, List.setIfInBounds_toArray, List.set_cons_zero, List.set_cons_succ, i64_w, i32_w])
       rfl
      refine pure_ (i := 13) (N := some 48) (v := undef) (a' := ?_) #[true,true,true,true,true,true,true,true,true,true,true,true,true,true,false,false,false,false,false,false,false,false,false,false,false,false,false,false,false,false,false] rfl rfl (any_of HT_.out (by kernel_rfl)) (fun _ _ _ h => h) (Or.inr ⟨by rfl, rfl⟩) ?_ ?_
      rotate_left
      ·(simp only [Act.put, List.setIfInBounds_toArray, List.set_cons_zero, List.set_cons_succ, i64_w, i32_w])
       rfl
      refine pure_ (i := 14) (N := some 49) (v := ?_) (a' := ?_) #[true,true,true,true,true,true,true,true,true,true,true,true,true,true,true,false,false,false,false,false,false,false,false,false,false,false,false,false,false,false,false] rfl rfl (any_of HT_.out (by kernel_rfl)) (fun _ _ _ h => h) (Or.inl ⟨by rfl, ?_⟩) ?_ ?_
      rotate_left
      ·intro w'
       go_simp
       with_reducible rfl
      rotate_left
      ·(simp only [Act.put, List.setIfInBounds_toArray, List.set_cons_zero, List.set_cons_succ, i64_w, i32_w])
       rfl
      refine pure_ (i := 15) (N := some 50) (v := ?_) (a' := ?_) #[true,true,true,true,true,true,true,true,true,true,true,true,true,true,true,true,false,false,false,false,false,false,false,false,false,false,false,false,false,false,false] rfl rfl (any_of HT_.out (by kernel_rfl)) (fun _ _ _ h => h) (Or.inl ⟨by rfl, ?_⟩) ?_ ?_
      rotate_left
      ·intro w'
       go_simp
       with_reducible rfl
      rotate_left
      ·(simp only [Act.put, List.setIfInBounds_toArray, List.set_cons_zero, List.set_cons_succ, i64_w, i32_w])
       rfl
      refine pure_ (i := 16) (N := some 51) (v := undef) (a' := ?_) #[true,true,true,true,true,true,true,true,true,true,true,true,true,true,true,true,true,false,false,false,false,false,false,false,false,false,false,false,false,false,false] rfl rfl (any_of HT_.out (by kernel_rfl)) (fun _ _ _ h => h) (Or.inr ⟨by rfl, rfl⟩) ?_ ?_
      rotate_left
      ·(simp only [Act.put, List.setIfInBounds_toArray, List.set_cons_zero, List.set_cons_succ, i64_w, i32_w])
       rfl
      refine pure_ (i := 17) (N := some 52) (v := undef) (a' := ?_) #[true,true,true,true,true,true,true,true,true,true,true,true,true,true,true,true,true,true,false,false,false,false,false,false,false,false,false,false,false,false,false] rfl rfl (any_of HT_.out (by kernel_rfl)) (fun _ _ _ h => h) (Or.inr ⟨by rfl, rfl⟩) ?_ ?_
      rotate_left
      ·(simp only [Act.put, List.setIfInBounds_toArray, List.set_cons_zero, List.set_cons_succ, i64_w, i32_w])
       rfl
      refine pure_ (i := 18) (N := some 53) (v := undef) (a' := ?_) #[true,true,true,true,true,true,true,true,true,true,true,true,true,true,true,true,true,true,true,false,false,false,false,false,false,false,false,false,false,false,false] rfl rfl (any_of HT_.out (by kernel_rfl)) (fun _ _ _ h => h) (Or.inr ⟨by rfl, rfl⟩) ?_ ?_
      rotate_left
      ·(simp only [Act.put, List.setIfInBounds_toArray, List.set_cons_zero, List.set_cons_succ, i64_w, i32_w])
       rfl
      refine pure_ (i := 19) (N := some 54) (v := ?_) (a' := ?_) #[true,true,true,true,true,true,true,true,true,true,true,true,true,true,true,true,true,true,true,true,false,false,false,false,false,false,false,false,false,false,false] rfl rfl (any_of HT_.out (by kernel_rfl)) (fun _ _ _ h => h) (Or.inl ⟨by rfl, ?_⟩) ?_ ?_
      rotate_left
      ·intro w'
       go_simp
       with_reducible rfl
      rotate_left
      ·(simp only [Act.put, List.setIfInBounds_toArray, List.set_cons_zero, List.set_cons_succ, i64_w, i32_w])
       rfl
      refine pure_ (i := 20) (N := some 55) (v := ?_) (a' := ?_) #[true,true,true,true,true,true,true,true,true,true,true,true,true,true,true,true,true,true,true,true,true,false,false,false,false,false,false,false,false,false,false] rfl rfl (any_of HT_.out (by kernel_rfl)) (fun _ _ _ h => h) (Or.inl ⟨by rfl, ?_⟩) ?_ ?_
      rotate_left
      ·intro w'
       go_simp
       with_reducible rfl
      rotate_left
      ·(simp only [Act.put, List.setIfInBounds_toArray, List.set_cons_zero, List.set_cons_succ, i64_w, i32_w])
       rfl
      refine pure_ (i := 21) (N := some 56) (v := undef) (a' := ?_) #[true,true,true,true,true,true,true,true,true,true,true,true,true,true,true,true,true,true,true,true,true,true,false,false,false,false,false,false,false,false,false] rfl rfl (any_of HT_.out (by kernel_rfl)) (fun _ _ _ h => h) (Or.inr ⟨by rfl, rfl⟩) ?_ ?_
      rotate_left
      ·(simp only [Act.put, List.setIfInBounds_toArray, List.set_cons_zero, List.set_cons_succ, i64_w, i32_w])
       rfl
      refine pure_ (i := 22) (N := some 57) (v := undef) (a' := ?_) #[true,true,true,true,true,true,true,true,true,true,true,true,true,true,true,true,true,true,true,true,true,true,true,false,false,false,false,false,false,false,false] rfl rfl (any_of HT_.out (by kernel_rfl)) (fun _ _ _ h => h) (Or.inr ⟨by rfl, rfl⟩) ?_ ?_
      rotate_left
      ·(simp only [Act.put, List.setIfInBounds_toArray, List.set_cons_zero, List.set_cons_succ, i64_w, i32_w])
       rfl
      refine pure_ (i := 23) (N := some 58) (v := undef) (a' := ?_) #[true,true,true,true,true,true,true,true,true,true,true,true,true,true,true,true,true,true,true,true,true,true,true,true,false,false,false,false,false,false,false] rfl rfl (any_of HT_.out (by kernel_rfl)) (fun _ _ _ h => h) (Or.inr ⟨by rfl, rfl⟩) ?_ ?_
      rotate_left
      ·(simp only [Act.put, List.setIfInBounds_toArray, List.set_cons_zero, List.set_cons_succ, i64_w, i32_w])
       rfl
      refine pure_ (i := 24) (N := some 59) (v := ?_) (a' := ?_) #[true,true,true,true,true,true,true,true,true,true,true,true,true,true,true,true,true,true,true,true,true,true,true,true,true,false,false,false,false,false,false] rfl rfl (any_of HT_.out (by kernel_rfl)) (fun _ _ _ h => h) (Or.inl ⟨by rfl, ?_⟩) ?_ ?_
      rotate_left
      ·intro w'
       go_simp
       with_reducible rfl
      rotate_left
      ·(simp only [Act.put, List.setIfInBounds_toArray, List.set_cons_zero, List.set_cons_succ, i64_w, i32_w])
       rfl
      refine pure_ (i := 25) (N := some 60) (v := ?_) (a' := ?_) #[true,true,true,true,true,true,true,true,true,true,true,true,true,true,true,true,true,true,true,true,true,true,true,true,true,true,false,false,false,false,false] rfl rfl (any_of HT_.out (by kernel_rfl)) (fun _ _ _ h => h) (Or.inl ⟨by rfl, ?_⟩) ?_ ?_
      rotate_left
      ·intro w'
       go_simp
       with_reducible rfl
      rotate_left
      ·(simp only [Act.put, List.setIfInBounds_toArray, List.set_cons_zero, List.set_cons_succ, i64_w, i32_w])
       rfl
      refine pure_ (i := 26) (N := some 61) (v := undef) (a' := ?_) #[true,true,true,true,true,true,true,true,true,true,true,true,true,true,true,true,true,true,true,true,true,true,true,true,true,true,true,false,false,false,false] rfl rfl (any_of HT_.out (by kernel_rfl)) (fun _ _ _ h => h) (Or.inr ⟨by rfl, rfl⟩) ?_ ?_
      rotate_left
      ·(simp only [Act.put, List.setIfInBounds_toArray, List.set_cons_zero, List.set_cons_succ, i64_w, i32_w])
       rfl
      refine pure_ (i := 27) (N := some 62) (v := undef) (a' := ?_) #[true,true,true,true,true,true,true,true,true,true,true,true,true,true,true,true,true,true,true,true,true,true,true,true,true,true,true,true,false,false,false] rfl rfl (any_of HT_.out (by kernel_rfl)) (fun _ _ _ h => h) (Or.inr ⟨by rfl, rfl⟩) ?_ ?_
      rotate_left
      ·(simp only [Act.put, List.setIfInBounds_toArray, List.set_cons_zero, List.set_cons_succ, i64_w, i32_w])
       rfl
      refine pure_ (i := 28) (N := some 63) (v := undef) (a' := ?_) #[true,true,true,true,true,true,true,true,true,true,true,true,true,true,true,true,true,true,true,true,true,true,true,true,true,true,true,true,true,false,false] rfl rfl (any_of HT_.out (by kernel_rfl)) (fun _ _ _ h => h) (Or.inr ⟨by rfl, rfl⟩) ?_ ?_
      rotate_left
      ·(simp only [Act.put, List.setIfInBounds_toArray, List.set_cons_zero, List.set_cons_succ, i64_w, i32_w])
       rfl
      refine pure_ (i := 29) (N := some 64) (v := ?_) (a' := ?_) #[true,true,true,true,true,true,true,true,true,true,true,true,true,true,true,true,true,true,true,true,true,true,true,true,true,true,true,true,true,true,false] rfl rfl (any_of HT_.out (by kernel_rfl)) (fun _ _ _ h => h) (Or.inl ⟨by rfl, ?_⟩) ?_ ?_
      rotate_left
      ·intro w'
       go_simp
       with_reducible rfl
      rotate_left
      ·(simp only [Act.put, List.setIfInBounds_toArray, List.set_cons_zero, List.set_cons_succ, i64_w, i32_w])
       rfl
      refine pure_ (i := 30) (N := some 4) (v := ?_) (a' := ?_) #[true,true,true,true,true,true,true,true,true,true,true,true,true,true,true,true,true,true,true,true,true,true,true,true,true,true,true,true,true,true,true] rfl rfl (any_of HT_.out (by kernel_rfl)) (fun _ _ _ h => h) (Or.inl ⟨by rfl, ?_⟩) ?_ ?_
      rotate_left
      ·intro w'
       go_simp
       with_reducible rfl
      rotate_left
      ·(simp only [Act.put, List.setIfInBounds_toArray, List.set_cons_zero, List.set_cons_succ, i64_w, i32_w])
       rfl
      refine done_ (done_of HT_.out (by kernel_rfl)) ?_
      try go_wp2
      go_ret
      exact ⟨by first | rfl | (simp [errW_none, errW_some] <;> rfl) | (simp [*, errW_none, errW_some] <;> rfl), by repeat (with_reducible first | exact HB.out | apply lA | apply pw_below_drewN | apply lD | refine below_set ?_ GE177.out | refine below_set ?_ GE184.out | refine below_set ?_ GE190.out)⟩
    ·replace c13 := Bool.eq_false_iff.mpr c13
     subst c13
     have H1 : (some false) = some r := by rw [if_neg (show ¬ (false = true) by decide)] at H; exact H
     clear H
     have H := H1
     clear H1
     obtain rfl := Option.some.inj H
     try go_wp2_with (first | ((with_reducible refine gate_callee (f := 10) rfl ?_); refine goesL_ (some 25) rfl rfl Tryd.func10 (by kernel_rfl) rfl #[.string a1] rfl (by (try simp only [List.map_toArray, List.map_cons, List.map_nil]); first | done | rfl) ?_; (with_reducible refine (spec_Take.calls a1 t179 t180 t181 t182 t183 _ A11.out (X.Gl.below hG.out (by repeat (with_reducible first | exact HB.out | apply lA | apply pw_below_drewN | apply lD | refine below_set ?_ (Aside0.out (by assumption)))))).mono ?_); rintro e w95 ⟨rfl, hb⟩; refine ⟨_, rfl, ?_⟩; have n0_ := Aside0.mk (blk_below (g := gb177) (o := .cells #[.string a0_0, .int .i64 a0_1, .bool a0_2] 23 (0, 0)) (by (with_reducible repeat first | apply bN | apply bD | apply bA); exact BK177.out) hb); have n1_ := Aside0.mk (below_step (by repeat (with_reducible first | exact HB.out | apply lA | apply pw_below_drewN | apply lD | refine below_set ?_ GE177.out)) hb); clear BK177; clear HB; have BK177 := n0_; have HB := n1_; clear n0_ n1_; (try clear hb); (try clear hb2); (try clear hk); (try clear hi)) | ((with_reducible refine gate_dst (N := 6) rfl ?_); (try (refine gate_guard (by rfl) ?_; dsimp only)); refine box_event ?hg (N := 6) ?hd (cs := #[.string (⟨#[]⟩ : ByteArray), .int .i64 0, .bool false]) (t := 23) ?hr ?_; (case hd => rfl); (case hg => rfl); (case hr => first | (go_simp; done) | (go_simp; rfl)); intro gb184 hg w96 hbox hb; have n0_ := Aside0.mk (blk_below (g := gb177) (o := .cells #[.string a0_0, .int .i64 a0_1, .bool a0_2] 23 (0, 0)) (by (with_reducible repeat first | apply bN | apply bD | apply bA); exact BK177.out) hb); have n1_ := Aside0.mk (below_step (by repeat (with_reducible first | exact HB.out | apply lA | apply pw_below_drewN | apply lD | refine below_set ?_ GE177.out)) hb); have n2_ := Aside0.mk (hbox); have n3_ := Aside0.mk ((by rw [hg]; exact (below_size (by repeat (with_reducible first | exact HB.out | apply lA | apply pw_below_drewN | apply lD | refine below_set ?_ GE177.out))) : w.heap.size ≤ gb184)); have n4_ := Aside0.mk ((by rw [hg]; exact (below_size (by repeat (with_reducible first | exact HB.out | apply lA | apply pw_below_drewN | apply lD | refine below_set ?_ GE177.out))) : w.heap.size ≤ gb184)); have n5_ := Aside0.mk ((by rw [hg]; exact Nat.ne_of_lt (blk_lt (g := gb177) (o := .cells #[.string a0_0, .int .i64 a0_1, .bool a0_2] 23 (0, 0)) (by (with_reducible repeat first | apply bN | apply bD | apply bA); exact BK177.out)) : gb177 ≠ gb184)); have n6_ := Aside0.mk ((by rw [hg]; exact Nat.ne_of_gt (blk_lt (g := gb177) (o := .cells #[.string a0_0, .int .i64 a0_1, .bool a0_2] 23 (0, 0)) (by (with_reducible repeat first | apply bN | apply bD | apply bA); exact BK177.out)) : gb184 ≠ gb177)); clear BK177; clear HB; have BK177 := n0_; have HB := n1_; have BK184 := n2_; have GW184 := n3_; have GE184 := n4_; have NB177_184 := n5_; have NB184_177 := n6_; clear n0_ n1_ n2_ n3_ n4_ n5_ n6_; clear hb hbox hg; have hnb97 := NB184_177.out; have hnc97 := NB177_184.out; have hcz98_0 : w96.cell? ⟨gb184, 0, none⟩ = some (.string (⟨#[]⟩ : ByteArray)) := (blk_cell BK184.out 0).trans rfl; have hcz98_1 : w96.cell? ⟨gb184, 1, none⟩ = some (.int .i64 0) := (blk_cell BK184.out 1).trans rfl; have hcz98_2 : w96.cell? ⟨gb184, 2, none⟩ = some (.bool false) := (blk_cell BK184.out 2).trans rfl; have hfz98_0 := blk_frozen BK184.out 0; have hfz98_1 := blk_frozen BK184.out 1; have hfz98_2 := blk_frozen BK184.out 2) | ((with_reducible refine gate_callee (f := 11) rfl ?_); refine goesL_ (some 31) rfl rfl Tryd.func11 (by kernel_rfl) rfl #[.string a1] rfl (by (try simp only [List.map_toArray, List.map_cons, List.map_nil]); first | done | rfl) ?_; (with_reducible refine (phalaroperef06_Take.calls kj3 a1 t185 t186 t187 t188 t189 _ A12.out).mono ?_); rintro e w99 ⟨rfl, hb⟩; refine ⟨_, rfl, ?_⟩; have n0_ := Aside0.mk (blk_below (g := gb177) (o := .cells #[.string a0_0, .int .i64 a0_1, .bool a0_2] 23 (0, 0)) (by (with_reducible repeat first | apply bN | apply bD | apply bA); refine blk_far ?_ NB177_184.out _; (with_reducible repeat first | apply bN | apply bD | apply bA); refine blk_far ?_ NB177_184.out _; (with_reducible repeat first | apply bN | apply bD | apply bA); refine blk_far ?_ NB177_184.out _; (with_reducible repeat first | apply bN | apply bD | apply bA); exact BK177.out) hb); have n1_ := Aside0.mk (blk_below (g := gb184) (o := .cells #[.string t179, .int .i64 t180, .bool t181] 23 (0, 0)) (by (with_reducible repeat first | apply bN | apply bD | apply bA); refine blk_put (cs := #[.string t179, .int .i64 t180, .bool false]) ?_ 2 _ rfl; (with_reducible repeat first | apply bN | apply bD | apply bA); refine blk_put (cs := #[.string t179, .int .i64 0, .bool false]) ?_ 1 _ rfl; (with_reducible repeat first | apply bN | apply bD | apply bA); refine blk_put (cs := #[.string (⟨#[]⟩ : ByteArray), .int .i64 0, .bool false]) ?_ 0 _ rfl; (with_reducible repeat first | apply bN | apply bD | apply bA); exact BK184.out) hb); have n2_ := Aside0.mk (below_step (by repeat (with_reducible first | exact HB.out | apply lA | apply pw_below_drewN | apply lD | refine below_set ?_ GE177.out | refine below_set ?_ GE184.out)) hb); clear BK177; clear BK184; clear HB; have BK177 := n0_; have BK184 := n1_; have HB := n2_; clear n0_ n1_ n2_; (try clear hb); (try clear hb2); (try clear hk); (try clear hi)) | ((with_reducible refine gate_dst (N := 9) rfl ?_); (try (refine gate_guard (by rfl) ?_; dsimp only)); refine box_event ?hg (N := 9) ?hd (cs := #[.string (⟨#[]⟩ : ByteArray), .int .i64 0, .bool false]) (t := 23) ?hr ?_; (case hd => rfl); (case hg => rfl); (case hr => first | (go_simp; done) | (go_simp; rfl)); intro gb190 hg w100 hbox hb; have n0_ := Aside0.mk (blk_below (g := gb177) (o := .cells #[.string a0_0, .int .i64 a0_1, .bool a0_2] 23 (0, 0)) (by (with_reducible repeat first | apply bN | apply bD | apply bA); exact BK177.out) hb); have n1_ := Aside0.mk (blk_below (g := gb184) (o := .cells #[.string t179, .int .i64 t180, .bool t181] 23 (0, 0)) (by (with_reducible repeat first | apply bN | apply bD | apply bA); exact BK184.out) hb); have n2_ := Aside0.mk (below_step (by repeat (with_reducible first | exact HB.out | apply lA | apply pw_below_drewN | apply lD | refine below_set ?_ GE177.out | refine below_set ?_ GE184.out)) hb); have n3_ := Aside0.mk (hbox); have n4_ := Aside0.mk ((by rw [hg]; exact (below_size (by repeat (with_reducible first | exact HB.out | apply lA | apply pw_below_drewN | apply lD | refine below_set ?_ GE177.out | refine below_set ?_ GE184.out))) : w.heap.size ≤ gb190)); have n5_ := Aside0.mk ((by rw [hg]; exact (below_size (by repeat (with_reducible first | exact HB.out | apply lA | apply pw_below_drewN | apply lD | refine below_set ?_ GE177.out | refine below_set ?_ GE184.out))) : w.heap.size ≤ gb190)); have n6_ := Aside0.mk ((by rw [hg]; exact Nat.ne_of_lt (blk_lt (g := gb177) (o := .cells #[.string a0_0, .int .i64 a0_1, .bool a0_2] 23 (0, 0)) (by (with_reducible repeat first | apply bN | apply bD | apply bA); exact BK177.out)) : gb177 ≠ gb190)); have n7_ := Aside0.mk ((by rw [hg]; exact Nat.ne_of_gt (blk_lt (g := gb177) (o := .cells #[.string a0_0, .int .i64 a0_1, .bool a0_2] 23 (0, 0)) (by (with_reducible repeat first | apply bN | apply bD | apply bA); exact BK177.out)) : gb190 ≠ gb177)); have n8_ := Aside0.mk ((by rw [hg]; exact Nat.ne_of_lt (blk_lt (g := gb184) (o := .cells #[.string t179, .int .i64 t180, .bool t181] 23 (0, 0)) (by (with_reducible repeat first | apply bN | apply bD | apply bA); exact BK184.out)) : gb184 ≠ gb190)); have n9_ := Aside0.mk ((by rw [hg]; exact Nat.ne_of_gt (blk_lt (g := gb184) (o := .cells #[.string t179, .int .i64 t180, .bool t181] 23 (0, 0)) (by (with_reducible repeat first | apply bN | apply bD | apply bA); exact BK184.out)) : gb190 ≠ gb184)); clear BK177; clear BK184; clear HB; have BK177 := n0_; have BK184 := n1_; have HB := n2_; have BK190 := n3_; have GW190 := n4_; have GE190 := n5_; have NB177_190 := n6_; have NB190_177 := n7_; have NB184_190 := n8_; have NB190_184 := n9_; clear n0_ n1_ n2_ n3_ n4_ n5_ n6_ n7_ n8_ n9_; clear hb hbox hg; have hnb101 := NB190_177.out; have hnc101 := NB177_190.out; have hnb102 := NB190_184.out; have hnc102 := NB184_190.out; have hcz103_0 : w100.cell? ⟨gb190, 0, none⟩ = some (.string (⟨#[]⟩ : ByteArray)) := (blk_cell BK190.out 0).trans rfl; have hcz103_1 : w100.cell? ⟨gb190, 1, none⟩ = some (.int .i64 0) := (blk_cell BK190.out 1).trans rfl; have hcz103_2 : w100.cell? ⟨gb190, 2, none⟩ = some (.bool false) := (blk_cell BK190.out 2).trans rfl; have hfz103_0 := blk_frozen BK190.out 0; have hfz103_1 := blk_frozen BK190.out 1; have hfz103_2 := blk_frozen BK190.out 2))
     have n0_ : Aside0 ((((w100.setCell ⟨gb190, 0, none⟩ (.string t185)).setCell ⟨gb190, 1, none⟩ (.int .i64 t186)).setCell ⟨gb190, 2, none⟩ (.bool t187)).heap[gb177]? = some (.cells #[.string a0_0, .int .i64 a0_1, .bool a0_2] 23 (0, 0))) := ⟨by (with_reducible repeat first | apply bN | apply bD | apply bA); refine blk_far ?_ NB177_190.out _; (with_reducible repeat first | apply bN | apply bD | apply bA); refine blk_far ?_ NB177_190.out _; (with_reducible repeat first | apply bN | apply bD | apply bA); refine blk_far ?_ NB177_190.out _; (with_reducible repeat first | apply bN | apply bD | apply bA); exact BK177.out⟩
     have n1_ : Aside0 ((((w100.setCell ⟨gb190, 0, none⟩ (.string t185)).setCell ⟨gb190, 1, none⟩ (.int .i64 t186)).setCell ⟨gb190, 2, none⟩ (.bool t187)).heap[gb184]? = some (.cells #[.string t179, .int .i64 t180, .bool t181] 23 (0, 0))) := ⟨by (with_reducible repeat first | apply bN | apply bD | apply bA); refine blk_far ?_ NB184_190.out _; (with_reducible repeat first | apply bN | apply bD | apply bA); refine blk_far ?_ NB184_190.out _; (with_reducible repeat first | apply bN | apply bD | apply bA); refine blk_far ?_ NB184_190.out _; (with_reducible repeat first | apply bN | apply bD | apply bA); exact BK184.out⟩
     have n2_ : Aside0 ((((w100.setCell ⟨gb190, 0, none⟩ (.string t185)).setCell ⟨gb190, 1, none⟩ (.int .i64 t186)).setCell ⟨gb190, 2, none⟩ (.bool t187)).heap[gb190]? = some (.cells #[.string t185, .int .i64 t186, .bool t187] 23 (0, 0))) := ⟨by (with_reducible repeat first | apply bN | apply bD | apply bA); refine blk_put (cs := #[.string t185, .int .i64 t186, .bool false]) ?_ 2 _ rfl; (with_reducible repeat first | apply bN | apply bD | apply bA); refine blk_put (cs := #[.string t185, .int .i64 0, .bool false]) ?_ 1 _ rfl; (with_reducible repeat first | apply bN | apply bD | apply bA); refine blk_put (cs := #[.string (⟨#[]⟩ : ByteArray), .int .i64 0, .bool false]) ?_ 0 _ rfl; (with_reducible repeat first | apply bN | apply bD | apply bA); exact BK190.out⟩
     have n3_ : Aside0 (Below w.heap.size w (((w100.setCell ⟨gb190, 0, none⟩ (.string t185)).setCell ⟨gb190, 1, none⟩ (.int .i64 t186)).setCell ⟨gb190, 2, none⟩ (.bool t187))) := ⟨by repeat (with_reducible first | exact HB.out | apply lA | apply pw_below_drewN | apply lD | refine below_set ?_ GE177.out | refine below_set ?_ GE184.out | refine below_set ?_ GE190.out)⟩
     (try clear BK177)
     (try clear BK184)
     (try clear BK190)
     (try clear HB)
     generalize (((w100.setCell ⟨gb190, 0, none⟩ (.string t185)).setCell ⟨gb190, 1, none⟩ (.int .i64 t186)).setCell ⟨gb190, 2, none⟩ (.bool t187)) = w104 at n0_ n1_ n2_ n3_ ⊢
     have BK177 := n0_
     have BK184 := n1_
     have BK190 := n2_
     have HB := n3_
     clear n0_ n1_ n2_ n3_
     have n0_ := Aside0.mk (blk_drew BK177.out)
     have n1_ := Aside0.mk (blk_drew BK184.out)
     have n2_ := Aside0.mk (blk_drew BK190.out)
     have n3_ := Aside0.mk (below_drew1 HB.out)
     clear BK177
     clear BK184
     clear BK190
     clear HB
     have BK177 := n0_
     have BK184 := n1_
     have BK190 := n2_
     have HB := n3_
     clear n0_ n1_ n2_ n3_
     refine start_ (n := 31) (S := fun w' => True) (ds := []) #[false,false,false,false,false,false,false,false,false,false,false,false,false,false,false,false,false,false,false,false,false,false,false,false,false,false,false,false,false,false,false] (by kernel_rfl) rfl rfl trivial (fun hHeld => ?_); refine with_tabW phalaropelaw06_SpecTells.tab6 phalaropelaw06_SpecTells.bits6 (fun HT_ HW_ => ?_)
     generalize w104.drew = w105 at BK177 BK184 BK190 HB hHeld ⊢
     refine pure_ (i := 0) (N := some 35) (v := ?_) (a' := ?_) #[true,false,false,false,false,false,false,false,false,false,false,false,false,false,false,false,false,false,false,false,false,false,false,false,false,false,false,false,false,false,false] rfl rfl (any_of HT_.out (by kernel_rfl)) (fun _ _ _ h => h) (Or.inl ⟨by rfl, ?_⟩) ?_ ?_
     rotate_left
     ·intro w'
      go_simp
      with_reducible rfl
     rotate_left
     ·(simp only [Act.put, List.setIfInBounds_toArray, List.set_cons_zero, List.set_cons_succ, i64_w, i32_w])
      rfl
     refine pure_ (i := 1) (N := some 36) (v := ?_) (a' := ?_) #[true,true,false,false,false,false,false,false,false,false,false,false,false,false,false,false,false,false,false,false,false,false,false,false,false,false,false,false,false,false,false] rfl rfl (any_of HT_.out (by kernel_rfl)) (fun _ _ _ h => h) (Or.inl ⟨by rfl, ?_⟩) ?_ ?_
     rotate_left
     ·intro w'
      go_simp
      with_reducible rfl
     rotate_left
     ·(simp only [Act.put, List.setIfInBounds_toArray, List.set_cons_zero, List.set_cons_succ, i64_w, i32_w])
      rfl
     refine pure_ (i := 2) (N := some 37) (v := undef) (a' := ?_) #[true,true,true,false,false,false,false,false,false,false,false,false,false,false,false,false,false,false,false,false,false,false,false,false,false,false,false,false,false,false,false] rfl rfl (any_of HT_.out (by kernel_rfl)) (fun _ _ _ h => h) (Or.inr ⟨by rfl, rfl⟩) ?_ ?_
     rotate_left
     ·(simp only [Act.put, List.setIfInBounds_toArray, List.set_cons_zero, List.set_cons_succ, i64_w, i32_w])
      rfl
     refine pure_ (i := 3) (N := some 38) (v := undef) (a' := ?_) #[true,true,true,true,false,false,false,false,false,false,false,false,false,false,false,false,false,false,false,false,false,false,false,false,false,false,false,false,false,false,false] rfl rfl (any_of HT_.out (by kernel_rfl)) (fun _ _ _ h => h) (Or.inr ⟨by rfl, rfl⟩) ?_ ?_
     rotate_left
     ·(simp only [Act.put, List.setIfInBounds_toArray, List.set_cons_zero, List.set_cons_succ, i64_w, i32_w])
      rfl
     refine pure_ (i := 4) (N := some 39) (v := undef) (a' := ?_) #[true,true,true,true,true,false,false,false,false,false,false,false,false,false,false,false,false,false,false,false,false,false,false,false,false,false,false,false,false,false,false] rfl rfl (any_of HT_.out (by kernel_rfl)) (fun _ _ _ h => h) (Or.inr ⟨by rfl, rfl⟩) ?_ ?_
     rotate_left
     ·(simp only [Act.put, List.setIfInBounds_toArray, List.set_cons_zero, List.set_cons_succ, i64_w, i32_w])
      rfl
     refine pure_ (i := 5) (N := some 40) (v := undef) (a' := ?_) #[true,true,true,true,true,true,false,false,false,false,false,false,false,false,false,false,false,false,false,false,false,false,false,false,false,false,false,false,false,false,false] rfl rfl (any_of HT_.out (by kernel_rfl)) (fun _ _ _ h => h) (Or.inr ⟨by rfl, rfl⟩) ?_ ?_
     rotate_left
     ·(simp only [Act.put, List.setIfInBounds_toArray, List.set_cons_zero, List.set_cons_succ, i64_w, i32_w])
      rfl
     refine pure_ (i := 6) (N := some 41) (v := undef) (a' := ?_) #[true,true,true,true,true,true,true,false,false,false,false,false,false,false,false,false,false,false,false,false,false,false,false,false,false,false,false,false,false,false,false] rfl rfl (any_of HT_.out (by kernel_rfl)) (fun _ _ _ h => h) (Or.inr ⟨by rfl, rfl⟩) ?_ ?_
     rotate_left
     ·(simp only [Act.put, List.setIfInBounds_toArray, List.set_cons_zero, List.set_cons_succ, i64_w, i32_w])
      rfl
     refine pure_ (i := 7) (N := some 42) (v := ?_) (a' := ?_) #[true,true,true,true,true,true,true,true,false,false,false,false,false,false,false,false,false,false,false,false,false,false,false,false,false,false,false,false,false,false,false] rfl rfl (any_of HT_.out (by kernel_rfl)) (fun _ _ _ h => h) (Or.inl ⟨by rfl, ?_⟩) ?_ ?_
     rotate_left
     ·intro w'
      go_simp
      with_reducible rfl
     rotate_left
     ·(simp only [Act.put, List.setIfInBounds_toArray, List.set_cons_zero, List.set_cons_succ, i64_w, i32_w])
      rfl
     refine pure_ (i := 8) (N := some 43) (v := ?_) (a' := ?_) #[true,true,true,true,true,true,true,true,true,false,false,false,false,false,false,false,false,false,false,false,false,false,false,false,false,false,false,false,false,false,false] rfl rfl (any_of HT_.out (by kernel_rfl)) (fun _ _ _ h => h) (Or.inl ⟨by rfl, ?_⟩) ?_ ?_
     rotate_left
     ·intro w'
      go_simp
      with_reducible rfl
     rotate_left
     ·(simp only [Act.put, List.setIfInBounds_toArray, List.set_cons_zero, List.set_cons_succ, i64_w, i32_w])
      rfl
     refine pure_ (i := 9) (N := some 44) (v := undef) (a' := ?_) #[true,true,true,true,true,true,true,true,true,true,false,false,false,false,false,false,false,false,false,false,false,false,false,false,false,false,false,false,false,false,false] rfl rfl (any_of HT_.out (by kernel_rfl)) (fun _ _ _ h => h) (Or.inr ⟨by rfl, rfl⟩) ?_ ?_
     rotate_left
     ·(simp only [Act.put, List.setIfInBounds_toArray, List.set_cons_zero, List.set_cons_succ, i64_w, i32_w])
      rfl
     refine pure_ (i := 10) (N := some 45) (v := undef) (a' := ?_) #[true,true,true,true,true,true,true,true,true,true,true,false,false,false,false,false,false,false,false,false,false,false,false,false,false,false,false,false,false,false,false] rfl rfl (any_of HT_.out (by kernel_rfl)) (fun _ _ _ h => h) (Or.inr ⟨by rfl, rfl⟩) ?_ ?_
     rotate_left
     ·(simp only [Act.put, List.setIfInBounds_toArray, List.set_cons_zero, List.set_cons_succ, i64_w, i32_w])
      rfl
     refine pure_ (i := 11) (N := some 46) (v := undef) (a' := ?_) #[true,true,true,true,true,true,true,true,true,true,true,true,false,false,false,false,false,false,false,false,false,false,false,false,false,false,false,false,false,false,false] rfl rfl (any_of HT_.out (by kernel_rfl)) (fun _ _ _ h => h) (Or.inr ⟨by rfl, rfl⟩) ?_ ?_
     rotate_left
     ·(simp only [Act.put, List.setIfInBounds_toArray, List.set_cons_zero, List.set_cons_succ, i64_w, i32_w])
      rfl
     refine pure_ (i := 12) (N := some 47) (v := undef) (a' := ?_) #[true,true,true,true,true,true,true,true,true,true,true,true,true,false,false,false,false,false,false,false,false,false,false,false,false,false,false,false,false,false,false] rfl rfl (any_of HT_.out (by kernel_rfl)) (fun _ _ _ h => h) (Or.inr ⟨by rfl, rfl⟩) ?_ ?_
     rotate_left
     ·(simp only [Act.put, List.setIfInBounds_toArray, List.set_cons_zero, List.set_cons_succ, i64_w, i32_w])
      rfl
     refine pure_ (i := 13) (N := some 48) (v := undef) (a' := ?_) #[true,true,true,true,true,true,true,true,true,true,true,true,true,true,false,false,false,false,false,false,false,false,false,false,false,false,false,false,false,false,false] rfl rfl (any_of HT_.out (by kernel_rfl)) (fun _ _ _ h => h) (Or.inr ⟨by rfl, rfl⟩) ?_ ?_
     rotate_left
     ·(simp only [Act.put, List.setIfInBounds_toArray, List.set_cons_zero, List.set_cons_succ, i64_w, i32_w])
      rfl
     refine pure_ (i := 14) (N := some 49) (v := ?_) (a' := ?_) #[true,true,true,true,true,true,true,true,true,true,true,true,true,true,true,false,false,false,false,false,false,false,false,false,false,false,false,false,false,false,false] rfl rfl (any_of HT_.out (by kernel_rfl)) (fun _ _ _ h => h) (Or.inl ⟨by rfl, ?_⟩) ?_ ?_
     rotate_left
     ·intro w'
      go_simp
      with_reducible rfl
     rotate_left
     ·(simp only [Act.put, List.setIfInBounds_toArray, List.set_cons_zero, List.set_cons_succ, i64_w, i32_w])
      rfl
     refine pure_ (i := 15) (N := some 50) (v := ?_) (a' := ?_) #[true,true,true,true,true,true,true,true,true,true,true,true,true,true,true,true,false,false,false,false,false,false,false,false,false,false,false,false,false,false,false] rfl rfl (any_of HT_.out (by kernel_rfl)) (fun _ _ _ h => h) (Or.inl ⟨by rfl, ?_⟩) ?_ ?_
     rotate_left
     ·intro w'
      go_simp
      with_reducible rfl
     rotate_left
     ·(simp only [Act.put, List.setIfInBounds_toArray, List.set_cons_zero, List.set_cons_succ, i64_w, i32_w])
      rfl
     refine pure_ (i := 16) (N := some 51) (v := undef) (a' := ?_) #[true,true,true,true,true,true,true,true,true,true,true,true,true,true,true,true,true,false,false,false,false,false,false,false,false,false,false,false,false,false,false] rfl rfl (any_of HT_.out (by kernel_rfl)) (fun _ _ _ h => h) (Or.inr ⟨by rfl, rfl⟩) ?_ ?_
     rotate_left
     ·(simp only [Act.put, List.setIfInBounds_toArray, List.set_cons_zero, List.set_cons_succ, i64_w, i32_w])
      rfl
     refine pure_ (i := 17) (N := some 52) (v := undef) (a' := ?_) #[true,true,true,true,true,true,true,true,true,true,true,true,true,true,true,true,true,true,false,false,false,false,false,false,false,false,false,false,false,false,false] rfl rfl (any_of HT_.out (by kernel_rfl)) (fun _ _ _ h => h) (Or.inr ⟨by rfl, rfl⟩) ?_ ?_
     rotate_left
     ·(simp only [Act.put, List.setIfInBounds_toArray, List.set_cons_zero, List.set_cons_succ, i64_w, i32_w])
      rfl
     refine pure_ (i := 18) (N := some 53) (v := undef) (a' := ?_) #[true,true,true,true,true,true,true,true,true,true,true,true,true,true,true,true,true,true,true,false,false,false,false,false,false,false,false,false,false,false,false] rfl rfl (any_of HT_.out (by kernel_rfl)) (fun _ _ _ h => h) (Or.inr ⟨by rfl, rfl⟩) ?_ ?_
     rotate_left
     ·(simp only [Act.put, List.setIfInBounds_toArray, List.set_cons_zero, List.set_cons_succ, i64_w, i32_w])
      rfl
     refine pure_ (i := 19) (N := some 54) (v := ?_) (a' := ?_) #[true,true,true,true,true,true,true,true,true,true,true,true,true,true,true,true,true,true,true,true,false,false,false,false,false,false,false,false,false,false,false] rfl rfl (any_of HT_.out (by kernel_rfl)) (fun _ _ _ h => h) (Or.inl ⟨by rfl, ?_⟩) ?_ ?_
     rotate_left
     ·intro w'
      go_simp
      with_reducible rfl
     rotate_left
     ·(simp only [Act.put, List.setIfInBounds_toArray, List.set_cons_zero, List.set_cons_succ, i64_w, i32_w])
      rfl
     refine pure_ (i := 20) (N := some 55) (v := ?_) (a' := ?_) #[true,true,true,true,true,true,true,true,true,true,true,true,true,true,true,true,true,true,true,true,true,false,false,false,false,false,false,false,false,false,false] rfl rfl (any_of HT_.out (by kernel_rfl)) (fun _ _ _ h => h) (Or.inl ⟨by rfl, ?_⟩) ?_ ?_
     rotate_left
     ·intro w'
      go_simp
      with_reducible rfl
     rotate_left
     ·(simp only [Act.put, List.setIfInBounds_toArray, List.set_cons_zero, List.set_cons_succ, i64_w, i32_w])
      rfl
     refine pure_ (i := 21) (N := some 56) (v := undef) (a' := ?_) #[true,true,true,true,true,true,true,true,true,true,true,true,true,true,true,true,true,true,true,true,true,true,false,false,false,false,false,false,false,false,false] rfl rfl (any_of HT_.out (by kernel_rfl)) (fun _ _ _ h => h) (Or.inr ⟨by rfl, rfl⟩) ?_ ?_
     rotate_left
     ·(simp only [Act.put, List.setIfInBounds_toArray, List.set_cons_zero, List.set_cons_succ, i64_w, i32_w])
      rfl
     refine pure_ (i := 22) (N := some 57) (v := undef) (a' := ?_) #[true,true,true,true,true,true,true,true,true,true,true,true,true,true,true,true,true,true,true,true,true,true,true,false,false,false,false,false,false,false,false] rfl rfl (any_of HT_.out (by kernel_rfl)) (fun _ _ _ h => h) (Or.inr ⟨by rfl, rfl⟩) ?_ ?_
     rotate_left
     ·(simp only [Act.put, List.setIfInBounds_toArray, List.set_cons_zero, List.set_cons_succ, i64_w, i32_w])
      rfl
     refine pure_ (i := 23) (N := some 58) (v := undef) (a' := ?_) #[true,true,true,true,true,true,true,true,true,true,true,true,true,true,true,true,true,true,true,true,true,true,true,true,false,false,false,false,false,false,false] rfl rfl (any_of HT_.out (by kernel_rfl)) (fun _ _ _ h => h) (Or.inr ⟨by rfl, rfl⟩) ?_ ?_
     rotate_left
     ·(simp only [Act.put, List.setIfInBounds_toArray, List.set_cons_zero, List.set_cons_succ, i64_w, i32_w])
      rfl
     refine pure_ (i := 24) (N := some 59) (v := ?_) (a' := ?_) #[true,true,true,true,true,true,true,true,true,true,true,true,true,true,true,true,true,true,true,true,true,true,true,true,true,false,false,false,false,false,false] rfl rfl (any_of HT_.out (by kernel_rfl)) (fun _ _ _ h => h) (Or.inl ⟨by rfl, ?_⟩) ?_ ?_
     rotate_left
     ·intro w'
      go_simp
      with_reducible rfl
     rotate_left
     ·(simp only [Act.put, List.setIfInBounds_toArray, List.set_cons_zero, List.set_cons_succ, i64_w, i32_w])
      rfl
     refine pure_ (i := 25) (N := some 60) (v := ?_) (a' := ?_) #[true,true,true,true,true,true,true,true,true,true,true,true,true,true,true,true,true,true,true,true,true,true,true,true,true,true,false,false,false,false,false] rfl rfl (any_of HT_.out (by kernel_rfl)) (fun _ _ _ h => h) (Or.inl ⟨by rfl, ?_⟩) ?_ ?_
     rotate_left
     ·intro w'
      go_simp
      with_reducible rfl
     rotate_left
     ·(simp only [Act.put, List.setIfInBounds_toArray, List.set_cons_zero, List.set_cons_succ, i64_w, i32_w])
      rfl
     refine pure_ (i := 26) (N := some 61) (v := undef) (a' := ?_) #[true,true,true,true,true,true,true,true,true,true,true,true,true,true,true,true,true,true,true,true,true,true,true,true,true,true,true,false,false,false,false] rfl rfl (any_of HT_.out (by kernel_rfl)) (fun _ _ _ h => h) (Or.inr ⟨by rfl, rfl⟩) ?_ ?_
     rotate_left
     ·(simp only [Act.put, List.setIfInBounds_toArray, List.set_cons_zero, List.set_cons_succ, i64_w, i32_w])
      rfl
     refine pure_ (i := 27) (N := some 62) (v := undef) (a' := ?_) #[true,true,true,true,true,true,true,true,true,true,true,true,true,true,true,true,true,true,true,true,true,true,true,true,true,true,true,true,false,false,false] rfl rfl (any_of HT_.out (by kernel_rfl)) (fun _ _ _ h => h) (Or.inr ⟨by rfl, rfl⟩) ?_ ?_
     rotate_left
     ·(simp only [Act.put, List.setIfInBounds_toArray, List.set_cons_zero, List.set_cons_succ, i64_w, i32_w])
      rfl
     refine pure_ (i := 28) (N := some 63) (v := undef) (a' := ?_) #[true,true,true,true,true,true,true,true,true,true,true,true,true,true,true,true,true,true,true,true,true,true,true,true,true,true,true,true,true,false,false] rfl rfl (any_of HT_.out (by kernel_rfl)) (fun _ _ _ h => h) (Or.inr ⟨by rfl, rfl⟩) ?_ ?_
     rotate_left
     ·(simp only [Act.put, List.setIfInBounds_toArray, List.set_cons_zero, List.set_cons_succ, i64_w, i32_w])
      rfl
     refine pure_ (i := 29) (N := some 64) (v := ?_) (a' := ?_) #[true,true,true,true,true,true,true,true,true,true,true,true,true,true,true,true,true,true,true,true,true,true,true,true,true,true,true,true,true,true,false] rfl rfl (any_of HT_.out (by kernel_rfl)) (fun _ _ _ h => h) (Or.inl ⟨by rfl, ?_⟩) ?_ ?_
     rotate_left
     ·intro w'
      go_simp
      with_reducible rfl
     rotate_left
     ·(simp only [Act.put, List.setIfInBounds_toArray, List.set_cons_zero, List.set_cons_succ, i64_w, i32_w])
      rfl
     refine pure_ (i := 30) (N := some 4) (v := ?_) (a' := ?_) #[true,true,true,true,true,true,true,true,true,true,true,true,true,true,true,true,true,true,true,true,true,true,true,true,true,true,true,true,true,true,true] rfl rfl (any_of HT_.out (by kernel_rfl)) (fun _ _ _ h => h) (Or.inl ⟨by rfl, ?_⟩) ?_ ?_
     rotate_left
     ·intro w'
      go_simp
      with_reducible rfl
     rotate_left
     ·(simp only [Act.put, List.setIfInBounds_toArray, List.set_cons_zero, List.set_cons_succ, i64_w, i32_w])
      rfl
     refine done_ (done_of HT_.out (by kernel_rfl)) ?_
     try go_wp2
     go_ret
     exact ⟨by first | rfl | (simp [errW_none, errW_some] <;> rfl) | (simp [*, errW_none, errW_some] <;> rfl), by repeat (with_reducible first | exact HB.out | apply lA | apply pw_below_drewN | apply lD | refine below_set ?_ GE177.out | refine below_set ?_ GE184.out | refine below_set ?_ GE190.out)⟩
end Go.Proofs.YthllgnephigfkaaDoor.PT
