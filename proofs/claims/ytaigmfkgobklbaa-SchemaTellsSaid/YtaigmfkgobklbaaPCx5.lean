-- Printed by wip/xprint.py of this claim's authors, over the kit's print; not trusted: Lean checks it.
import Derived.Test.YtaigmfkgobklbaaPCx0
import Derived.Test.YtaigmfkgobklbaaPCx1
import Derived.Test.YtaigmfkgobklbaaPCx2
import Derived.Test.YtaigmfkgobklbaaPCx3
import Derived.Test.YtaigmfkgobklbaaPCx4
namespace Go.Proofs.Ytaigmfkgobklbaa.PC
open Go.RowKit Go.Proofs.YtaigmfkgobklbaaW.PrintWords Go.Proofs.YtaigmfkgobklbaaW.PrintLast Go.Proofs.YtaigmfkgobklbaaW.PrintMore
attribute [local go_sem] max2_int min2_int max_two min_two max_three min_three max_four min_four   -- for this text's walks alone
set_option linter.unusedVariables false
set_option linter.unusedSimpArgs false

/-! ### phalaroperef14_Has: function 18 -/
def phalaroperef14_Has.j0 : Nat → Int → Int → Bool → Option (Bool)
  | 0, _, _, _ => none
  | k + 1, x0, x1, x15 => if x15 = true then (some false) else (if x0 = 1 then (if x1 < 256 then ((phalaroperef02_Digit.f ((x1) % 256)).bind fun t136 => (some t136)) else (some false)) else (if x0 = 2 then (if x1 < 256 then ((phalaroperef02_Word.f ((x1) % 256)).bind fun t137 => (some t137)) else (some false)) else (if x0 = 4 then (some true) else (some (x1 != 37)))))
def phalaroperef14_Has.f (k : Nat) (a0 : Int) (a1 : Int) : Option (Bool) := (phalaroperef01_May.f a1).bind fun t135 => (if t135 = true then (if a0 < 1 then (phalaroperef14_Has.j0 k a0 a1 true) else (phalaroperef14_Has.j0 k a0 a1 (decide (a0 > 4)))) else (phalaroperef14_Has.j0 k a0 a1 true))
theorem phalaroperef14_Has.mono_l : ∀ k, (∀ y0 y1 y2, LeO (phalaroperef14_Has.j0 k y0 y1 y2) (phalaroperef14_Has.j0 (k + 1) y0 y1 y2))
  | 0 => fun _ _ _ r h => by simp [phalaroperef14_Has.j0] at h
  | k + 1 => by
    have ih0 := phalaroperef14_Has.mono_l k
    · intro y0 y1 y2
      unfold phalaroperef14_Has.j0
      repeat' first
      | (with_reducible exact ih0 _ _ _)
      | (with_reducible exact LeO.refl _)
      | (with_reducible exact LeO.none _)
      | (with_reducible refine LeO.ite ?_ ?_)
      | (with_reducible refine LeO.bind ?_ (fun _ => ?_))
      | exact ih0 _ _ _
      | exact LeO.none _
      | refine LeO.ite ?_ ?_
      | refine LeO.bind ?_ (fun _ => ?_)
theorem phalaroperef14_Has.mono : ∀ a0 a1 k, LeO (phalaroperef14_Has.f k a0 a1) (phalaroperef14_Has.f (k + 1) a0 a1) := by
  intro a0 a1 k
  have ih0 := phalaroperef14_Has.mono_l k
  unfold phalaroperef14_Has.f
  repeat' first
      | (with_reducible exact ih0 _ _ _)
      | (with_reducible exact LeO.refl _)
      | (with_reducible exact LeO.none _)
      | (with_reducible refine LeO.ite ?_ ?_)
      | (with_reducible refine LeO.bind ?_ (fun _ => ?_))
      | exact ih0 _ _ _
      | exact LeO.none _
      | refine LeO.ite ?_ ?_
      | refine LeO.bind ?_ (fun _ => ?_)
set_option maxHeartbeats 8000000 in
set_option maxRecDepth 100000 in
theorem phalaroperef14_Has.calls (k : Nat) (a0 : Int) (a1 : Int) (r : Bool) (w : World) (h : phalaroperef14_Has.f k a0 a1 = some r) :
    Calls Try.prog 18 #[.int .i64 a0, .int .i64 a1] w fun e w' => e = .returned (.bool r) ∧ Drawn0 w w' := by
  have H : ((phalaroperef01_May.f a1).bind fun t135 => (if t135 = true then (if a0 < 1 then (phalaroperef14_Has.j0 k a0 a1 true) else (phalaroperef14_Has.j0 k a0 a1 (decide (a0 > 4)))) else (phalaroperef14_Has.j0 k a0 a1 true))) = some r := h
  clear h
  have HC3 := Aside0.mk H
  clear H
  go_enter Try.func18, Try.ntmps18
  go_upto_region 1 with (fail)
  go_cut [15] (fun v15 wc => ∃ (kq : Nat) (x15_2 : Bool), v15 = .bool x15_2 ∧ Aside0 (phalaroperef14_Has.j0 kq a0 a1 x15_2 = some r) ∧ Aside0 (kq ≤ k) ∧ Drawn0 w wc)
  case first =>
    have H := HC3.out
    clear HC3
    replace H := Option.bind_eq_some_iff.mp H
    obtain ⟨t135, A40, H⟩ := H
    replace H : (if t135 = true then (if a0 < 1 then (phalaroperef14_Has.j0 k a0 a1 true) else (phalaroperef14_Has.j0 k a0 a1 (decide (a0 > 4)))) else (phalaroperef14_Has.j0 k a0 a1 true)) = some r := H
    have A4 := Aside0.mk A40
    clear A40
    by_cases c5 : t135 = true
    · subst c5
      have H1 : (if a0 < 1 then (phalaroperef14_Has.j0 k a0 a1 true) else (phalaroperef14_Has.j0 k a0 a1 (decide (a0 > 4)))) = some r := by rw [if_pos rfl] at H; exact H
      clear H
      have H := H1
      clear H1
      by_cases c6 : a0 < 1
      · rw [if_pos c6] at H
        have c6b0 : decide (a0 < 1) = true := decide_eq_true c6
        clear c6
        (first | rw [c6b0] | (simp only [i64_w, i32_w]; rw [c6b0]) | skip)
        have H' := Aside0.mk H
        clear H
        go_wp2_with (first | ((with_reducible refine gate_callee (f := 36) rfl ?_); refine goesL_ (some 6) rfl rfl Try.func36 (by kernel_rfl) rfl #[.int .i64 a1] rfl (by (try simp only [List.map_toArray, List.map_cons, List.map_nil]); first | done | rfl | (simp only [List.length_drop, List.length_take]; rfl)) ?_; (with_reducible refine (phalaroperef01_May.calls a1 true _ A4.out).mono ?_); rintro e w' ⟨rfl, ⟨nd, rfl⟩⟩; refine ⟨_, rfl, ?_⟩))
        go_meet
        case rel => exact ⟨_, (true), (by first | rfl | (simp; done) | (simp [*]; done)), H', ⟨by first | omega | exact Nat.le_refl _⟩, by repeat (first | exact Drawn0.refl _ | apply Drawn0.step)⟩
      · rw [if_neg c6] at H
        have c6b0 : decide (a0 < 1) = false := decide_eq_false c6
        clear c6
        (first | rw [c6b0] | (simp only [i64_w, i32_w]; rw [c6b0]) | skip)
        have H' := Aside0.mk H
        clear H
        go_wp2_with (first | ((with_reducible refine gate_callee (f := 36) rfl ?_); refine goesL_ (some 6) rfl rfl Try.func36 (by kernel_rfl) rfl #[.int .i64 a1] rfl (by (try simp only [List.map_toArray, List.map_cons, List.map_nil]); first | done | rfl | (simp only [List.length_drop, List.length_take]; rfl)) ?_; (with_reducible refine (phalaroperef01_May.calls a1 true _ A4.out).mono ?_); rintro e w' ⟨rfl, ⟨nd, rfl⟩⟩; refine ⟨_, rfl, ?_⟩))
        go_meet
        case rel => exact ⟨_, (decide (a0 > 4)), (by first | rfl | (simp; done) | (simp [*]; done)), H', ⟨by first | omega | exact Nat.le_refl _⟩, by repeat (first | exact Drawn0.refl _ | apply Drawn0.step)⟩
    · replace c5 := Bool.eq_false_iff.mpr c5
      subst c5
      have H1 : (phalaroperef14_Has.j0 k a0 a1 true) = some r := by rw [if_neg (show ¬ (false = true) by decide)] at H; exact H
      clear H
      have H := H1
      clear H1
      have H' := Aside0.mk H
      clear H
      go_wp2_with (first | ((with_reducible refine gate_callee (f := 36) rfl ?_); refine goesL_ (some 6) rfl rfl Try.func36 (by kernel_rfl) rfl #[.int .i64 a1] rfl (by (try simp only [List.map_toArray, List.map_cons, List.map_nil]); first | done | rfl | (simp only [List.length_drop, List.length_take]; rfl)) ?_; (with_reducible refine (phalaroperef01_May.calls a1 false _ A4.out).mono ?_); rintro e w' ⟨rfl, ⟨nd, rfl⟩⟩; refine ⟨_, rfl, ?_⟩))
      go_meet
      case rel => exact ⟨_, (true), (by first | rfl | (simp; done) | (simp [*]; done)), H', ⟨by first | omega | exact Nat.le_refl _⟩, by repeat (first | exact Drawn0.refl _ | apply Drawn0.step)⟩
  case rest =>
    clear HC3
    try clear c1
    try clear p2
    try clear c3
    try clear c5
    try clear c6
    try clear c6b0
    obtain ⟨kq, x15_2, rfl, HA, HJ2, ⟨mc2, rfl⟩⟩ := hcut
    cases kq with
    | zero => exact absurd HA.out (by simp [phalaroperef14_Has.j0])
    | succ kj2 =>
      have H := HA.out
      clear HA
      simp only [phalaroperef14_Has.j0] at H
      by_cases c7 : x15_2 = true
      · subst c7
        have H1 : (some false) = some r := by rw [if_pos rfl] at H; exact H
        clear H
        have H := H1
        clear H1
        obtain rfl := Option.some.inj H
        go_wp2
        go_ret
        exact ⟨by first | rfl | (simp; done) | (simp [*]; done), by repeat (first | exact Drawn0.refl _ | apply Drawn0.step)⟩
      · replace c7 := Bool.eq_false_iff.mpr c7
        subst c7
        have H1 : (if a0 = 1 then (if a1 < 256 then ((phalaroperef02_Digit.f ((a1) % 256)).bind fun t136 => (some t136)) else (some false)) else (if a0 = 2 then (if a1 < 256 then ((phalaroperef02_Word.f ((a1) % 256)).bind fun t137 => (some t137)) else (some false)) else (if a0 = 4 then (some true) else (some (a1 != 37))))) = some r := by rw [if_neg (show ¬ (false = true) by decide)] at H; exact H
        clear H
        have H := H1
        clear H1
        by_cases c8 : a0 = 1
        · rw [if_pos c8] at H
          have c8b0 : (a0 == 1) = true := beq_iff_eq.mpr c8
          have c8b1 : (a0 != 1) = false := bne_eq_false_iff_eq.mpr c8
          clear c8
          by_cases c9 : a1 < 256
          · rw [if_pos c9] at H
            have c9b0 : decide (a1 < 256) = true := decide_eq_true c9
            clear c9
            replace H := Option.bind_eq_some_iff.mp H
            obtain ⟨t136, A100, H⟩ := H
            replace H : (some t136) = some r := H
            have A10 := Aside0.mk A100
            clear A100
            obtain rfl := Option.some.inj H
            go_wp2_with (first | (go_at_call 37; (with_reducible refine (phalaroperef02_Digit.calls ((a1) % 256) t136 _ A10.out).mono ?_); rintro e w' ⟨rfl, ⟨nd, rfl⟩⟩))
            go_ret
            exact ⟨by first | rfl | (simp; done) | (simp [*]; done), by repeat (first | exact Drawn0.refl _ | apply Drawn0.step)⟩
          · rw [if_neg c9] at H
            have c9b0 : decide (a1 < 256) = false := decide_eq_false c9
            clear c9
            obtain rfl := Option.some.inj H
            go_wp2
            go_ret
            exact ⟨by first | rfl | (simp; done) | (simp [*]; done), by repeat (first | exact Drawn0.refl _ | apply Drawn0.step)⟩
        · rw [if_neg c8] at H
          have c8b0 : (a0 == 1) = false := beq_eq_false_iff_ne.mpr c8
          have c8b1 : (a0 != 1) = true := bne_iff_ne.mpr c8
          by_cases c11 : a0 = 2
          · rw [if_pos c11] at H
            have c11b0 : (a0 == 2) = true := beq_iff_eq.mpr c11
            have c11b1 : (a0 != 2) = false := bne_eq_false_iff_eq.mpr c11
            clear c11
            by_cases c12 : a1 < 256
            · rw [if_pos c12] at H
              have c12b0 : decide (a1 < 256) = true := decide_eq_true c12
              clear c12
              replace H := Option.bind_eq_some_iff.mp H
              obtain ⟨t137, A130, H⟩ := H
              replace H : (some t137) = some r := H
              have A13 := Aside0.mk A130
              clear A130
              obtain rfl := Option.some.inj H
              go_wp2_with (first | (go_at_call 38; (with_reducible refine (phalaroperef02_Word.calls ((a1) % 256) t137 _ A13.out).mono ?_); rintro e w' ⟨rfl, ⟨nd, rfl⟩⟩))
              go_ret
              exact ⟨by first | rfl | (simp; done) | (simp [*]; done), by repeat (first | exact Drawn0.refl _ | apply Drawn0.step)⟩
            · rw [if_neg c12] at H
              have c12b0 : decide (a1 < 256) = false := decide_eq_false c12
              clear c12
              obtain rfl := Option.some.inj H
              go_wp2
              go_ret
              exact ⟨by first | rfl | (simp; done) | (simp [*]; done), by repeat (first | exact Drawn0.refl _ | apply Drawn0.step)⟩
          · rw [if_neg c11] at H
            have c11b0 : (a0 == 2) = false := beq_eq_false_iff_ne.mpr c11
            have c11b1 : (a0 != 2) = true := bne_iff_ne.mpr c11
            by_cases c14 : a0 = 4
            · rw [if_pos c14] at H
              have c14b0 : (a0 == 4) = true := beq_iff_eq.mpr c14
              have c14b1 : (a0 != 4) = false := bne_eq_false_iff_eq.mpr c14
              clear c14
              obtain rfl := Option.some.inj H
              go_wp2
              go_ret
              exact ⟨by first | rfl | (simp; done) | (simp [*]; done), by repeat (first | exact Drawn0.refl _ | apply Drawn0.step)⟩
            · rw [if_neg c14] at H
              have c14b0 : (a0 == 4) = false := beq_eq_false_iff_ne.mpr c14
              have c14b1 : (a0 != 4) = true := bne_iff_ne.mpr c14
              obtain rfl := Option.some.inj H
              go_wp2
              go_ret
              exact ⟨by first | rfl | (simp; done) | (simp [*]; done), by repeat (first | exact Drawn0.refl _ | apply Drawn0.step)⟩

/-! ### phalaropelaw14_SchemaTells: function 6 (ours) -/
set_option maxHeartbeats 8000000 in
theorem tells_calls (A0 : Option Addr) (c0 : Nat) (l0 : List S23) (nm : ByteArray) (ca cb : Int) (w : World) (hr0 : Kd.C k23 w A0 l0.length l0) (hc0 : l0.length ≤ c0) (b : Bool)
    (hfew : phalaroperef14_Few.f Y.bigK l0 = some b) (hsm : b = true → smallV l0 ∧ ∀ x ∈ l0, phalaroperef05_May.f Y.bigK x.f0 = some (Y.nameMay x.f0)) (hhas : phalaroperef14_Has.f Y.bigK ca cb = some (Y.hasC ca cb)) :
    Calls Try.prog 6 #[.slice A0 l0.length c0, .string nm, .agg #[.int .i64 ca, .int .i64 cb]] w fun e w' => e = .returned (.bool true) ∧ Below w.heap.size w w' := by
  have HR := Aside0.mk hr0
  have HC0 := Aside0.mk hc0
  have HF := Aside0.mk hfew
  have HH := Aside0.mk hhas
  have HSM := Aside0.mk hsm
  clear hr0 hc0 hfew hhas hsm
  go_enter Try.func6, Try.ntmps6
  go_wp2_with fail
  refine (phalaropelaw14_awake.calls true _ rfl).mono ?_
  rintro e w1 ⟨rfl, hb⟩
  have HX := Aside0.mk (blk_below (blk_new w _) hb)
  have HB := Aside0.mk (below_step (w := w) (X.below_new1 w _) hb)
  clear hb
  go_wp2_with fail
  refine (phalaroperef14_Few.calls Y.bigK A0 c0 l0 b _ (Kd.C_below HR.out HB.out) HC0.out HF.out).mono ?_
  rintro e w2 ⟨rfl, hd⟩
  have hb2 := hd.below
  have HX2 := Aside0.mk (blk_below HX.out hb2)
  have HB2 := Aside0.mk (below_step HB.out hb2)
  clear hd hb2 HX HB
  cases b with
  | false =>
    go_wp2_with fail
    go_ret
    exact ⟨rfl, HB2.out⟩
  | true =>
    by_cases hn : nm.size ≤ 200
    · have hn' : decide (200 < (nm.size : Int)) = false := decide_eq_false (by omega)
      clear hn
      have HL := Aside0.mk (HSM.out rfl).1.1
      obtain ⟨⟨⟨x0, x1, x2, x3, x4⟩, is⟩, hv⟩ : ∃ v, findV l0 nm = v := ⟨_, rfl⟩
      have HV1 := Aside0.mk (show schema_Find.f l0 nm = some (x0, x1, x2, x3, x4, is) by unfold schema_Find.f; rw [if_pos (by have := HL.out; omega), hv])
      have HV2 := Aside0.mk (show phalaroperef14_Find.f Y.bigK l0 nm = some (x0, x1, x2, x3, x4, is) by rw [rfind_f nm l0 (by have := HL.out; omega) Y.bigK (by have := HL.out; unfold Y.bigK; omega), hv])
      obtain ⟨m, hm⟩ : ∃ m : Bool, (mayFrom [] l0 && decide (l0.length ≤ 8)) = m := ⟨_, rfl⟩
      have HM1 := Aside0.mk (show schema_May.f l0 = some m by unfold schema_May.f; rw [if_pos (HSM.out rfl).1, hm])
      have HM2 := Aside0.mk (show phalaroperef14_May.f l0 = some m by unfold phalaroperef14_May.f; rw [if_pos (HSM.out rfl), hm])
      clear hv hm
      go_wp2_with fail
      refine (schema_Find.calls A0 c0 l0 nm _ _ _ _ _ _ _ (Kd.C_below HR.out HB2.out) HC0.out HV1.out).mono ?_
      rintro e w3 ⟨rfl, hb3⟩
      have HX3 := Aside0.mk (blk_below HX2.out hb3)
      have HB3 := Aside0.mk (below_step HB2.out hb3)
      clear hb3 HX2 HB2
      go_wp2_with fail
      refine (phalaroperef14_Find.calls Y.bigK A0 c0 l0 nm _ _ _ _ _ _ _ (Kd.C_below HR.out (below_alloc HB3.out _)) HC0.out HV2.out).mono ?_
      rintro e w4 ⟨rfl, hb4⟩
      have HX4 := Aside0.mk (blk_below (blk_alloc HX3.out _) hb4)
      have HY4 := Aside0.mk (blk_below (blk_new w3 _) hb4)
      have HB4 := Aside0.mk (below_step (below_alloc HB3.out _) hb4)
      clear hb4 HX3 HB3
      go_wp2_with fail
      have HB5 : Aside0 (Below w.heap.size w (w4.alloc (.cells #[.string x0, .int .i64 x1, .bool x2, .int .i64 x3, .int .i64 x4] 23 (0, 0)))) := ⟨below_alloc HB4.out _⟩
      obtain ⟨p0, p1, p2, p3, p4⟩ := cells5 (blk_alloc HY4.out (.cells #[.string x0, .int .i64 x1, .bool x2, .int .i64 x3, .int .i64 x4] 23 (0, 0)))
      obtain ⟨q0, q1, q2, q3, q4⟩ := cells5 (blk_new w4 (.cells #[.string x0, .int .i64 x1, .bool x2, .int .i64 x3, .int .i64 x4] 23 (0, 0)))
      have r0 := (blk_cell (blk_alloc HX4.out (.cells #[.string x0, .int .i64 x1, .bool x2, .int .i64 x3, .int .i64 x4] 23 (0, 0))) 0)
      have r1 := (blk_cell (blk_alloc HX4.out (.cells #[.string x0, .int .i64 x1, .bool x2, .int .i64 x3, .int .i64 x4] 23 (0, 0))) 1)
      simp only [List.getElem?_toArray, List.getElem?_cons_zero, List.getElem?_cons_succ] at r0 r1
      generalize w4.alloc (.cells #[.string x0, .int .i64 x1, .bool x2, .int .i64 x3, .int .i64 x4] 23 (0, 0)) = W5 at *
      clear HX4 HY4 HB4 HV1 HV2
      go_region_held3 (fun w' => Aside0 (Below w.heap.size w w') ∧ w'.cell? ⟨w3.heap.size, 0, none⟩ = some (.string x0) ∧ w'.cell? ⟨w3.heap.size, 1, none⟩ = some (.int .i64 x1) ∧ w'.cell? ⟨w3.heap.size, 2, none⟩ = some (.bool x2) ∧ w'.cell? ⟨w3.heap.size, 3, none⟩ = some (.int .i64 x3) ∧ w'.cell? ⟨w3.heap.size, 4, none⟩ = some (.int .i64 x4) ∧ w'.cell? ⟨w4.heap.size, 0, none⟩ = some (.string x0) ∧ w'.cell? ⟨w4.heap.size, 1, none⟩ = some (.int .i64 x1) ∧ w'.cell? ⟨w4.heap.size, 2, none⟩ = some (.bool x2) ∧ w'.cell? ⟨w4.heap.size, 3, none⟩ = some (.int .i64 x3) ∧ w'.cell? ⟨w4.heap.size, 4, none⟩ = some (.int .i64 x4) ∧ w'.cell? ⟨w.heap.size, 0, none⟩ = some (.int .i64 ca) ∧ w'.cell? ⟨w.heap.size, 1, none⟩ = some (.int .i64 cb)) (((try dsimp only); (try go_split_ands); (repeat' apply And.intro) <;> first | assumption | exact X.cell_keep hb (by assumption) | exact ⟨below_step (Aside0.out (by assumption)) hb⟩ | exact ⟨below_step (Below.drew (Aside0.out (by assumption))) hb⟩ | exact ⟨Below.drew (Aside0.out (by assumption))⟩))
        (first
        | (go_at_call 16; refine (schema_May.calls A0 c0 l0 m _ (Kd.C_below HR.out (Aside0.out (And.left (by assumption)))) HC0.out HM1.out).mono ?_; rintro e w' ⟨rfl, hb⟩)
        | (go_at_call 17; refine (phalaroperef14_May.calls A0 c0 l0 m _ (Kd.C_below HR.out (Aside0.out (And.left (by assumption)))) HC0.out HM2.out).mono ?_; rintro e w' ⟨rfl, hb⟩)
        | (go_at_call 11; refine (schema_Has.calls ca cb (Y.hasC ca cb) _ rfl).mono ?_; rintro e w' ⟨rfl, hb⟩)
        | (go_at_call 18; refine (phalaroperef14_Has.calls Y.bigK ca cb (Y.hasC ca cb) _ HH.out).mono ?_; rintro e w' ⟨rfl, hd⟩; have hb := hd.below; clear hd))
      all_goals go_wp2
      go_ret
      exact ⟨rfl, Aside0.out (And.left (by assumption))⟩
    · have hn' : decide (200 < (nm.size : Int)) = true := decide_eq_true (by omega)
      clear hn
      go_wp2_with fail
      go_ret
      exact ⟨rfl, HB2.out⟩
end Go.Proofs.Ytaigmfkgobklbaa.PC
