/- Texts of this claim, those that nothing needs left out: PAx18. -/
import Derived.Test.YtfaiplbogchgjaaBtG16
import Derived.Test.YtfaiplbogchgjaaBtG20
import Derived.Test.YtfaiplbogchgjaaBtG24
section
namespace Go.Proofs.Ytfaiplbogchgjaa.PA
open Go.RowKit Go.Proofs.YtfaiplbogchgjaaW.PrintWords Go.Proofs.YtfaiplbogchgjaaW.PrintLast Go.Proofs.YtfaiplbogchgjaaW.PrintMore
attribute [local go_sem] max2_int min2_int max_two min_two max_three min_three max_four min_four   -- for this text's walks alone
set_option linter.unusedVariables false
set_option linter.unusedSimpArgs false
def phalaroperef09_Same.l0 : Nat → List (S38) → List (S38) → Int → Option (Bool)
  | 0, _, _, _ => none
  | k + 1, x5, x6, x7 => if x7 < (x5.length : Int) then (if 0 ≤ x7 then (if x7 < (x6.length : Int) then (if ((rd_T38 x5 x7).f0).toList = ((rd_T38 x6 x7).f0).toList then ((phalaroperef08_Very.f k ((rd_T38 x5 x7).f1.f0) ((rd_T38 x5 x7).f1.f1) ((rd_T38 x5 x7).f1.f2) ((rd_T38 x5 x7).f1.f3) ((rd_T38 x6 x7).f1.f0) ((rd_T38 x6 x7).f1.f1) ((rd_T38 x6 x7).f1.f2) ((rd_T38 x6 x7).f1.f3)).bind fun t358 => (if t358 = true then (phalaroperef09_Same.l0 k x5 x6 (wrap64 (x7 + 1))) else (some false))) else (some false)) else (none)) else (none)) else (some true)
def phalaroperef09_Same.f (k : Nat) (l0 : List (S38)) (l1 : List (S38)) : Option (Bool) := (phalaroperef09_Canon.f k l0).bind fun t348 => ((phalaroperef09_Canon.f k l1).bind fun t351 => (if (t348.length : Int) = (t351.length : Int) then (phalaroperef09_Same.l0 k t348 t351 0) else (some false)))
def phalaroperef09_Same.T8 : Bool × List (List Nat × List Nat) := (true, [([], []), ([], []), ([0, 1], [0, 1]), ([2], [2]), ([3], [3]), ([], []), ([], []), ([5, 6], [5, 6]), ([7], [7]), ([8], [8]), ([4, 9], [4, 9]), ([10], [10]), ([11], [11]), ([11], [11]), ([12, 13, 11], [11, 12, 13]), ([14, 11], [11, 14]), ([15, 11], [11, 15]), ([11], [11]), ([11], [11]), ([17, 18, 11], [11, 17, 18]), ([19, 11], [11, 19]), ([20, 11], [11, 20]), ([16, 21, 11, 11], [11, 16, 21]), ([22, 11], [11, 22]), ([11, 23], [11, 23])])
def phalaroperef09_Same.B8 : List Nat := [0, 0, 3, 7, 15, 0, 0, 96, 224, 480, 1023, 2047, 4095, 4095, 16383, 32767, 65535, 4095, 4095, 397311, 921599, 1970175, 4194303, 8388607, 16777215]
theorem phalaroperef09_Same.tab8 : rtab .any (opsOf Try.f21 8) = phalaroperef09_Same.T8 := by kernel_rfl
theorem phalaroperef09_Same.bits8 : waitsOk phalaroperef09_Same.T8.2 phalaroperef09_Same.B8 = true := by kernel_rfl
set_option maxHeartbeats 8000000 in
set_option maxRecDepth 100000 in
theorem phalaroperef09_Same.calls (k : Nat) (A0 : Option Addr) (c0 : Nat) (l0 : List (S38)) (A1 : Option Addr) (c1 : Nat) (l1 : List (S38)) (r : Bool) (w : World) (hr0 : Kd.C k38 w A0 l0.length l0) (hc0 : l0.length ≤ c0) (hr1 : Kd.C k38 w A1 l1.length l1) (hc1 : l1.length ≤ c1) (h : phalaroperef09_Same.f k l0 l1 = some r) :
    Calls Try.prog 21 #[.slice A0 l0.length c0, .slice A1 l1.length c1] w fun e w' => e = .returned (.bool r) ∧ Below w.heap.size w w' := by
  have hu28 := Try.underlying28
  have HR0 := Aside0.mk hr0
  have HC0 := Aside0.mk hc0
  clear hr0 hc0
  have HR1 := Aside0.mk hr1
  have HC1 := Aside0.mk hc1
  clear hr1 hc1
  have HB := Aside0.mk (Below.refl w.heap.size w)
  have H : ((phalaroperef09_Canon.f k l0).bind fun t348 => ((phalaroperef09_Canon.f k l1).bind fun t351 => (if (t348.length : Int) = (t351.length : Int) then (phalaroperef09_Same.l0 k t348 t351 0) else (some false)))) = some r := h
  clear h
  replace H := Option.bind_eq_some_iff.mp H
  obtain ⟨t348, A30, H⟩ := H
  replace H : ((phalaroperef09_Canon.f k l1).bind fun t351 => (if (t348.length : Int) = (t351.length : Int) then (phalaroperef09_Same.l0 k t348 t351 0) else (some false))) = some r := H
  have A3 := Aside0.mk A30
  clear A30
  replace H := Option.bind_eq_some_iff.mp H
  obtain ⟨t351, A40, H⟩ := H
  replace H : (if (t348.length : Int) = (t351.length : Int) then (phalaroperef09_Same.l0 k t348 t351 0) else (some false)) = some r := H
  have A4 := Aside0.mk A40
  clear A40
  by_cases c5 : (t348.length : Int) = (t351.length : Int)
  · rw [if_pos c5] at H
    have c5b0 : ((t348.length : Int) == (t351.length : Int)) = true := beq_iff_eq.mpr c5
    have c5b1 : ((t348.length : Int) != (t351.length : Int)) = false := bne_eq_false_iff_eq.mpr c5
    have c5b2 : (t348.length == t351.length) = true := by first | simpa using c5 | (simp at c5 ⊢; omega)
    clear c5
    have H' := Aside0.mk H
    clear H
    go_enter Try.func21, Try.ntmps21
    go_wp2_with (first | ((with_reducible refine gate_callee (f := 19) rfl ?_); refine goesL_ (some 9) rfl rfl Try.func19 (by kernel_rfl) rfl #[.slice A0 l0.length c0] rfl (by (try simp only [List.map_toArray, List.map_cons, List.map_nil]); first | done | rfl | (simp only [List.length_drop, List.length_take]; rfl)) ?_; (with_reducible refine (phalaroperef09_Canon.calls k _ _ l0 t348 _ ?side1 ?side2 A3.out).mono ?_); (case side1 => repeat (first | exact HR0.out | (with_reducible refine Kd.C_alloc ?_ _) | (with_reducible refine Kd.C_drewN ?_ _) | (with_reducible refine Kd.C_drew ?_))); (case side2 => exact HC0.out); rintro e w6 ⟨v349, rfl, ho0, hb⟩; refine ⟨_, rfl, ?_⟩; have n0_ := Aside0.mk (Kd.R_lower ho0 (below_size (by repeat (first | (with_reducible first | exact HB.out | apply below_alloc | apply pw_below_drewN | apply below_drew1) | exact HB.out)))); have n1_ := Aside0.mk (below_step (by repeat (first | (with_reducible first | exact HB.out | apply below_alloc | apply pw_below_drewN | apply below_drew1) | exact HB.out)) hb); clear HB; have HO350 := n0_; have HB := n1_; clear n0_ n1_; (try clear hb); (try clear hb2); (try clear hk); (try clear hi); (try clear ho0)) | ((with_reducible refine gate_callee (f := 19) rfl ?_); refine goesL_ (some 11) rfl rfl Try.func19 (by kernel_rfl) rfl #[.slice A1 l1.length c1] rfl (by (try simp only [List.map_toArray, List.map_cons, List.map_nil]); first | done | rfl | (simp only [List.length_drop, List.length_take]; rfl)) ?_; (with_reducible refine (phalaroperef09_Canon.calls k _ _ l1 t351 _ ?side1 ?side2 A4.out).mono ?_); (case side1 => repeat (first | exact (Kd.C_below HR1.out HB.out) | (with_reducible refine Kd.C_alloc ?_ _) | (with_reducible refine Kd.C_drewN ?_ _) | (with_reducible refine Kd.C_drew ?_))); (case side2 => exact HC1.out); rintro e w7 ⟨v352, rfl, ho0, hb⟩; refine ⟨_, rfl, ?_⟩; have n0_ := Aside0.mk (Kd.R_elder' (by (with_reducible repeat (first | apply Kd.R_alloc | apply Kd.R_drewN | apply Kd.R_drew)); exact HO350.out) (Kd.R_base ho0) hb); have n1_ := Aside0.mk (Kd.R_lower (Kd.R_new' ho0 (Kd.R_lt (by (with_reducible repeat (first | apply Kd.R_alloc | apply Kd.R_drewN | apply Kd.R_drew)); exact HO350.out))) (below_size (by repeat (first | (with_reducible first | exact HB.out | apply below_alloc | apply pw_below_drewN | apply below_drew1) | exact HB.out)))); have n2_ := Aside0.mk (below_step (by repeat (first | (with_reducible first | exact HB.out | apply below_alloc | apply pw_below_drewN | apply below_drew1) | exact HB.out)) hb); clear HO350; clear HB; have HO350 := n0_; have HO353 := n1_; have HB := n2_; clear n0_ n1_ n2_; (try clear hb); (try clear hb2); (try clear hk); (try clear hi); (try clear ho0); obtain ⟨Ao8, co8, eo8⟩ := Kd.R_slice HO350.out; subst eo8; obtain ⟨Ao9, co9, eo9⟩ := Kd.R_slice HO353.out; subst eo9))
    go_loopg [7] k (fun kq v7 w' => ∃ (x7_1 : Int), v7 = .int .i64 x7_1 ∧ Aside0 (phalaroperef09_Same.l0 kq t348 t351 x7_1 = some r) ∧ Aside0 (kq ≤ k) ∧ Aside0 (Kd.R k38 38 w' w.heap.size (fun k_ => some k_ ≠ ((.slice Ao9 t351.length co9) : Value).ownBlock) (.slice Ao8 t348.length co8) t348) ∧ Aside0 (Kd.R k38 38 w' w.heap.size (fun k_ => some k_ ≠ ((.slice Ao8 t348.length co8) : Value).ownBlock) (.slice Ao9 t351.length co9) t351) ∧ Aside0 (Below w.heap.size w w'))
    case atStart => exact ⟨(0), (by first | rfl | (simp; done) | (simp [*]; done)), H', ⟨Nat.le_refl _⟩, ⟨by (with_reducible repeat (first | apply Kd.R_alloc | apply Kd.R_drewN | apply Kd.R_drew)); exact Kd.R_mono HO350.out (fun _ hk => hk.2)⟩, ⟨by (with_reducible repeat (first | apply Kd.R_alloc | apply Kd.R_drewN | apply Kd.R_drew)); exact Kd.R_mono HO353.out (fun _ hk => hk.2)⟩, ⟨by repeat (first | (with_reducible first | exact HB.out | apply below_alloc | apply pw_below_drewN | apply below_drew1) | exact HB.out)⟩⟩
    case round =>
      clear H'
      try clear c1
      try clear c2
      try clear p2
      try clear c5
      try clear c5b0
      try clear c5b1
      try clear c5b2
      obtain ⟨x7_1, rfl, HA, HK1, HO_5, HO_6, HB⟩ := hrel
      cases gk with
      | zero => exact absurd HA.out (by simp [phalaroperef09_Same.l0])
      | succ k1 =>
        have H := HA.out
        clear HA
        simp only [phalaroperef09_Same.l0] at H
        by_cases c10 : x7_1 < (t348.length : Int)
        · rw [if_pos c10] at H
          have c10b0 : decide (x7_1 < (t348.length : Int)) = true := decide_eq_true c10
          clear c10
          by_cases c11 : 0 ≤ x7_1
          · rw [if_pos c11] at H
            have c11b0 : decide (0 ≤ x7_1) = true := decide_eq_true c11
            clear c11
            by_cases c12 : x7_1 < (t351.length : Int)
            · rw [if_pos c12] at H
              have c12b0 : decide (x7_1 < (t351.length : Int)) = true := decide_eq_true c12
              clear c12
              by_cases c13 : ((rd_T38 t348 x7_1).f0).toList = ((rd_T38 t351 x7_1).f0).toList
              · rw [if_pos c13] at H
                have c13b0 : (((rd_T38 t348 x7_1).f0).toList == ((rd_T38 t351 x7_1).f0).toList) = true := beq_iff_eq.mpr c13
                have c13b1 : (((rd_T38 t348 x7_1).f0).toList != ((rd_T38 t351 x7_1).f0).toList) = false := bne_eq_false_iff_eq.mpr c13
                clear c13
                replace H := Option.bind_eq_some_iff.mp H
                obtain ⟨t358, A140, H⟩ := H
                replace H : (if t358 = true then (phalaroperef09_Same.l0 k1 t348 t351 (wrap64 (x7_1 + 1))) else (some false)) = some r := H
                have A14 := Aside0.mk A140
                clear A140
                by_cases c15 : t358 = true
                · subst c15
                  have H1 : (phalaroperef09_Same.l0 k1 t348 t351 (wrap64 (x7_1 + 1))) = some r := by rw [if_pos rfl] at H; exact H
                  clear H
                  have H := H1
                  clear H1
                  have H' := Aside0.mk H
                  clear H
                  try go_wp2
                  have n0_ := Aside0.mk (Kd.R_drew HO_5.out)
                  have n1_ := Aside0.mk (Kd.R_drew HO_6.out)
                  have n2_ := Aside0.mk (below_drew1 HB.out)
                  clear HO_5
                  clear HO_6
                  clear HB
                  have HO_5 := n0_
                  have HO_6 := n1_
                  have HB := n2_
                  clear n0_ n1_ n2_
                  have p354 : 0 ≤ (x7_1 : Int) := of_decide_eq_true (by first | (with_reducible assumption) | assumption)
                  have q354 : x7_1 < (t348.length : Int) := of_decide_eq_true (by first | (with_reducible assumption) | assumption)
                  obtain ⟨ad354, A354_3, c354_3, A354_4, c354_4, e354, hx354_0, hx354_1, hx354_2, hx354_3, hx354_4, hl354_3, hi354_3, hl354_4, hi354_4⟩ := at_T38 (Kd.R_reads' HO_5.out).2.2 x7_1 p354 q354
                  cases e354
                  obtain ⟨ce354, hce354, hMe354, hcc354⟩ := Kd.R_get HO_5.out z38 x7_1 p354 (by first | exact q354 | exact of_decide_eq_true (by first | (with_reducible assumption) | assumption) | (have e_ := (Kd.R_reads' HO_5.out).1; omega))
                  obtain ⟨ve354_3, ve354_4, rfl, ge354_3, ge354_4⟩ := k38_openM hMe354
                  have hv354_3 := hcc354 3 _ rfl
                  rw [add_field _ _ 3 (by omega)] at hv354_3
                  replace hv354_3 := Option.some.inj (hv354_3.symm.trans hx354_3)
                  rw [hv354_3] at ge354_3
                  have HL354_3 := Aside0.mk (show Kd.R Kd.string 9 _ _ _ _ ((rd_T38 t348 x7_1).f1.f2) from ge354_3)
                  clear hv354_3 ge354_3
                  have hv354_4 := hcc354 4 _ rfl
                  rw [add_field _ _ 4 (by omega)] at hv354_4
                  replace hv354_4 := Option.some.inj (hv354_4.symm.trans hx354_4)
                  rw [hv354_4] at ge354_4
                  have HL354_4 := Aside0.mk (show Kd.R k50 50 _ _ _ _ ((rd_T38 t348 x7_1).f1.f3) from ge354_4)
                  clear hv354_4 ge354_4
                  clear hcc354 hce354
                  have HR354_3 := Aside0.mk hi354_3
                  have HC354_3 := Aside0.mk hl354_3
                  clear hi354_3 hl354_3
                  have HR354_4 := Aside0.mk hi354_4
                  have HC354_4 := Aside0.mk hl354_4
                  clear hi354_4 hl354_4
                  replace p354 := eq_true p354
                  replace q354 := eq_true q354
                  have p355 : 0 ≤ (x7_1 : Int) := of_decide_eq_true (by first | (with_reducible assumption) | assumption)
                  have q355 : x7_1 < (t351.length : Int) := of_decide_eq_true (by first | (with_reducible assumption) | assumption)
                  obtain ⟨ad355, A355_3, c355_3, A355_4, c355_4, e355, hx355_0, hx355_1, hx355_2, hx355_3, hx355_4, hl355_3, hi355_3, hl355_4, hi355_4⟩ := at_T38 (Kd.R_reads' HO_6.out).2.2 x7_1 p355 q355
                  cases e355
                  obtain ⟨ce355, hce355, hMe355, hcc355⟩ := Kd.R_get HO_6.out z38 x7_1 p355 (by first | exact q355 | exact of_decide_eq_true (by first | (with_reducible assumption) | assumption) | (have e_ := (Kd.R_reads' HO_6.out).1; omega))
                  obtain ⟨ve355_3, ve355_4, rfl, ge355_3, ge355_4⟩ := k38_openM hMe355
                  have hv355_3 := hcc355 3 _ rfl
                  rw [add_field _ _ 3 (by omega)] at hv355_3
                  replace hv355_3 := Option.some.inj (hv355_3.symm.trans hx355_3)
                  rw [hv355_3] at ge355_3
                  have HL355_3 := Aside0.mk (show Kd.R Kd.string 9 _ _ _ _ ((rd_T38 t351 x7_1).f1.f2) from ge355_3)
                  clear hv355_3 ge355_3
                  have hv355_4 := hcc355 4 _ rfl
                  rw [add_field _ _ 4 (by omega)] at hv355_4
                  replace hv355_4 := Option.some.inj (hv355_4.symm.trans hx355_4)
                  rw [hv355_4] at ge355_4
                  have HL355_4 := Aside0.mk (show Kd.R k50 50 _ _ _ _ ((rd_T38 t351 x7_1).f1.f3) from ge355_4)
                  clear hv355_4 ge355_4
                  clear hcc355 hce355
                  have HR355_3 := Aside0.mk hi355_3
                  have HC355_3 := Aside0.mk hl355_3
                  clear hi355_3 hl355_3
                  have HR355_4 := Aside0.mk hi355_4
                  have HC355_4 := Aside0.mk hl355_4
                  clear hi355_4 hl355_4
                  replace p355 := eq_true p355
                  replace q355 := eq_true q355
                  have p356 : 0 ≤ (x7_1 : Int) := of_decide_eq_true (by first | (with_reducible assumption) | assumption)
                  have q356 : x7_1 < (t348.length : Int) := of_decide_eq_true (by first | (with_reducible assumption) | assumption)
                  obtain ⟨ad356, A356_3, c356_3, A356_4, c356_4, e356, hx356_0, hx356_1, hx356_2, hx356_3, hx356_4, hl356_3, hi356_3, hl356_4, hi356_4⟩ := at_T38 (Kd.R_reads' HO_5.out).2.2 x7_1 p356 q356
                  obtain rfl : ad354 = ad356 := (by injection e356)
                  obtain ⟨ce356, hce356, hMe356, hcc356⟩ := Kd.R_get HO_5.out z38 x7_1 p356 (by first | exact q356 | exact of_decide_eq_true (by first | (with_reducible assumption) | assumption) | (have e_ := (Kd.R_reads' HO_5.out).1; omega))
                  obtain ⟨ve356_3, ve356_4, rfl, ge356_3, ge356_4⟩ := k38_openM hMe356
                  have hv356_3 := hcc356 3 _ rfl
                  rw [add_field _ _ 3 (by omega)] at hv356_3
                  replace hv356_3 := Option.some.inj (hv356_3.symm.trans hx356_3)
                  rw [hv356_3] at ge356_3
                  have HL356_3 := Aside0.mk (show Kd.R Kd.string 9 _ _ _ _ ((rd_T38 t348 x7_1).f1.f2) from ge356_3)
                  clear hv356_3 ge356_3
                  have hv356_4 := hcc356 4 _ rfl
                  rw [add_field _ _ 4 (by omega)] at hv356_4
                  replace hv356_4 := Option.some.inj (hv356_4.symm.trans hx356_4)
                  rw [hv356_4] at ge356_4
                  have HL356_4 := Aside0.mk (show Kd.R k50 50 _ _ _ _ ((rd_T38 t348 x7_1).f1.f3) from ge356_4)
                  clear hv356_4 ge356_4
                  clear hcc356 hce356
                  have HR356_3 := Aside0.mk hi356_3
                  have HC356_3 := Aside0.mk hl356_3
                  clear hi356_3 hl356_3
                  have HR356_4 := Aside0.mk hi356_4
                  have HC356_4 := Aside0.mk hl356_4
                  clear hi356_4 hl356_4
                  replace p356 := eq_true p356
                  replace q356 := eq_true q356
                  have ea_ := Option.some.inj (hx354_3.symm.trans hx356_3)
                  injection ea_ with ea_ en_ ec_
                  subst ea_
                  subst ec_
                  clear en_
                  have ea_ := Option.some.inj (hx354_4.symm.trans hx356_4)
                  injection ea_ with ea_ en_ ec_
                  subst ea_
                  subst ec_
                  clear en_
                  have p357 : 0 ≤ (x7_1 : Int) := of_decide_eq_true (by first | (with_reducible assumption) | assumption)
                  have q357 : x7_1 < (t351.length : Int) := of_decide_eq_true (by first | (with_reducible assumption) | assumption)
                  obtain ⟨ad357, A357_3, c357_3, A357_4, c357_4, e357, hx357_0, hx357_1, hx357_2, hx357_3, hx357_4, hl357_3, hi357_3, hl357_4, hi357_4⟩ := at_T38 (Kd.R_reads' HO_6.out).2.2 x7_1 p357 q357
                  obtain rfl : ad355 = ad357 := (by injection e357)
                  obtain ⟨ce357, hce357, hMe357, hcc357⟩ := Kd.R_get HO_6.out z38 x7_1 p357 (by first | exact q357 | exact of_decide_eq_true (by first | (with_reducible assumption) | assumption) | (have e_ := (Kd.R_reads' HO_6.out).1; omega))
                  obtain ⟨ve357_3, ve357_4, rfl, ge357_3, ge357_4⟩ := k38_openM hMe357
                  have hv357_3 := hcc357 3 _ rfl
                  rw [add_field _ _ 3 (by omega)] at hv357_3
                  replace hv357_3 := Option.some.inj (hv357_3.symm.trans hx357_3)
                  rw [hv357_3] at ge357_3
                  have HL357_3 := Aside0.mk (show Kd.R Kd.string 9 _ _ _ _ ((rd_T38 t351 x7_1).f1.f2) from ge357_3)
                  clear hv357_3 ge357_3
                  have hv357_4 := hcc357 4 _ rfl
                  rw [add_field _ _ 4 (by omega)] at hv357_4
                  replace hv357_4 := Option.some.inj (hv357_4.symm.trans hx357_4)
                  rw [hv357_4] at ge357_4
                  have HL357_4 := Aside0.mk (show Kd.R k50 50 _ _ _ _ ((rd_T38 t351 x7_1).f1.f3) from ge357_4)
                  clear hv357_4 ge357_4
                  clear hcc357 hce357
                  have HR357_3 := Aside0.mk hi357_3
                  have HC357_3 := Aside0.mk hl357_3
                  clear hi357_3 hl357_3
                  have HR357_4 := Aside0.mk hi357_4
                  have HC357_4 := Aside0.mk hl357_4
                  clear hi357_4 hl357_4
                  replace p357 := eq_true p357
                  replace q357 := eq_true q357
                  have ea_ := Option.some.inj (hx355_3.symm.trans hx357_3)
                  injection ea_ with ea_ en_ ec_
                  subst ea_
                  subst ec_
                  clear en_
                  have ea_ := Option.some.inj (hx355_4.symm.trans hx357_4)
                  injection ea_ with ea_ en_ ec_
                  subst ea_
                  subst ec_
                  clear en_
                  refine start_ (n := 25) (S := fun w' => w'.cell? (ad354.add ((x7_1).toNat * 5)) = some (.string ((rd_T38 t348 x7_1).f0)) ∧ w'.cell? ⟨(ad354.add ((x7_1).toNat * 5)).block, (ad354.add ((x7_1).toNat * 5)).off + 1, none⟩ = some (.int .i64 ((rd_T38 t348 x7_1).f1.f0)) ∧ w'.cell? ⟨(ad354.add ((x7_1).toNat * 5)).block, (ad354.add ((x7_1).toNat * 5)).off + 2, none⟩ = some (.string ((rd_T38 t348 x7_1).f1.f1)) ∧ w'.cell? ⟨(ad354.add ((x7_1).toNat * 5)).block, (ad354.add ((x7_1).toNat * 5)).off + 3, none⟩ = some (.slice A354_3 ((rd_T38 t348 x7_1).f1.f2).length c354_3) ∧ w'.cell? ⟨(ad354.add ((x7_1).toNat * 5)).block, (ad354.add ((x7_1).toNat * 5)).off + 4, none⟩ = some (.slice A354_4 ((rd_T38 t348 x7_1).f1.f3).length c354_4) ∧ w'.cell? (ad355.add ((x7_1).toNat * 5)) = some (.string ((rd_T38 t351 x7_1).f0)) ∧ w'.cell? ⟨(ad355.add ((x7_1).toNat * 5)).block, (ad355.add ((x7_1).toNat * 5)).off + 1, none⟩ = some (.int .i64 ((rd_T38 t351 x7_1).f1.f0)) ∧ w'.cell? ⟨(ad355.add ((x7_1).toNat * 5)).block, (ad355.add ((x7_1).toNat * 5)).off + 2, none⟩ = some (.string ((rd_T38 t351 x7_1).f1.f1)) ∧ w'.cell? ⟨(ad355.add ((x7_1).toNat * 5)).block, (ad355.add ((x7_1).toNat * 5)).off + 3, none⟩ = some (.slice A355_3 ((rd_T38 t351 x7_1).f1.f2).length c355_3) ∧ w'.cell? ⟨(ad355.add ((x7_1).toNat * 5)).block, (ad355.add ((x7_1).toNat * 5)).off + 4, none⟩ = some (.slice A355_4 ((rd_T38 t351 x7_1).f1.f3).length c355_4) ∧ w'.cell? (ad354.add ((x7_1).toNat * 5)) = some (.string ((rd_T38 t348 x7_1).f0)) ∧ w'.cell? ⟨(ad354.add ((x7_1).toNat * 5)).block, (ad354.add ((x7_1).toNat * 5)).off + 1, none⟩ = some (.int .i64 ((rd_T38 t348 x7_1).f1.f0)) ∧ w'.cell? ⟨(ad354.add ((x7_1).toNat * 5)).block, (ad354.add ((x7_1).toNat * 5)).off + 2, none⟩ = some (.string ((rd_T38 t348 x7_1).f1.f1)) ∧ w'.cell? ⟨(ad354.add ((x7_1).toNat * 5)).block, (ad354.add ((x7_1).toNat * 5)).off + 3, none⟩ = some (.slice A354_3 ((rd_T38 t348 x7_1).f1.f2).length c354_3) ∧ w'.cell? ⟨(ad354.add ((x7_1).toNat * 5)).block, (ad354.add ((x7_1).toNat * 5)).off + 4, none⟩ = some (.slice A354_4 ((rd_T38 t348 x7_1).f1.f3).length c354_4) ∧ w'.cell? (ad355.add ((x7_1).toNat * 5)) = some (.string ((rd_T38 t351 x7_1).f0)) ∧ w'.cell? ⟨(ad355.add ((x7_1).toNat * 5)).block, (ad355.add ((x7_1).toNat * 5)).off + 1, none⟩ = some (.int .i64 ((rd_T38 t351 x7_1).f1.f0)) ∧ w'.cell? ⟨(ad355.add ((x7_1).toNat * 5)).block, (ad355.add ((x7_1).toNat * 5)).off + 2, none⟩ = some (.string ((rd_T38 t351 x7_1).f1.f1)) ∧ w'.cell? ⟨(ad355.add ((x7_1).toNat * 5)).block, (ad355.add ((x7_1).toNat * 5)).off + 3, none⟩ = some (.slice A355_3 ((rd_T38 t351 x7_1).f1.f2).length c355_3) ∧ w'.cell? ⟨(ad355.add ((x7_1).toNat * 5)).block, (ad355.add ((x7_1).toNat * 5)).off + 4, none⟩ = some (.slice A355_4 ((rd_T38 t351 x7_1).f1.f3).length c355_4)) (ds := []) #[false, false, false, false, false, false, false, false, false, false, false, false, false, false, false, false, false, false, false, false, false, false, false, false, false] (by kernel_rfl) rfl rfl ⟨hx354_0, hx354_1, hx354_2, hx354_3, hx354_4, hx355_0, hx355_1, hx355_2, hx355_3, hx355_4, hx356_0, hx356_1, hx356_2, hx356_3, hx356_4, hx357_0, hx357_1, hx357_2, hx357_3, hx357_4⟩ (fun hHeld => ?_); refine with_tabW phalaroperef09_Same.tab8 phalaroperef09_Same.bits8 (fun HT_ HW_ => ?_)
                  generalize wr.drew = w16 at HO_5 HO_6 HB HL354_3 HL354_4 HL355_3 HL355_4 HL356_3 HL356_4 HL357_3 HL357_4 HR354_3 HR354_4 HR355_3 HR355_4 HR356_3 HR356_4 HR357_3 HR357_4 hx354_0 hx354_1 hx354_2 hx354_3 hx354_4 hx355_0 hx355_1 hx355_2 hx355_3 hx355_4 hx356_0 hx356_1 hx356_2 hx356_3 hx356_4 hx357_0 hx357_1 hx357_2 hx357_3 hx357_4 hHeld ⊢
                  refine pure_ (i := 0) (N := some 23) (v := ?_) (a' := ?_) #[true, false, false, false, false, false, false, false, false, false, false, false, false, false, false, false, false, false, false, false, false, false, false, false, false] rfl rfl (any_of HT_.out (by kernel_rfl)) (fun _ _ _ h => h) (Or.inl ⟨by rfl, ?_⟩) ?_ ?_
                  rotate_left
                  · intro w'
                    go_simp
                    with_reducible rfl
                  rotate_left
                  · simp only [Act.put, List.setIfInBounds_toArray, List.set_cons_zero, List.set_cons_succ, i64_w, i32_w]
                    rfl
                  refine pure_ (i := 1) (N := some 24) (v := ?_) (a' := ?_) #[true, true, false, false, false, false, false, false, false, false, false, false, false, false, false, false, false, false, false, false, false, false, false, false, false] rfl rfl (any_of HT_.out (by kernel_rfl)) (fun _ _ _ h => h) (Or.inl ⟨by rfl, ?_⟩) ?_ ?_
                  rotate_left
                  · intro w'
                    go_simp
                    with_reducible rfl
                  rotate_left
                  · simp only [Act.put, List.setIfInBounds_toArray, List.set_cons_zero, List.set_cons_succ, i64_w, i32_w]
                    rfl
                  refine pure_ (i := 2) (N := some 25) (v := ?_) (a' := ?_) #[true, true, true, false, false, false, false, false, false, false, false, false, false, false, false, false, false, false, false, false, false, false, false, false, false] rfl rfl (any_of HT_.out (by kernel_rfl)) (fun _ _ _ h => h) (Or.inl ⟨by rfl, ?_⟩) ?_ ?_
                  rotate_left
                  · intro w'
                    go_simp
                    with_reducible rfl
                  rotate_left
                  · simp only [Act.put, List.setIfInBounds_toArray, List.set_cons_zero, List.set_cons_succ, i64_w, i32_w]
                    rfl
                  refine pure_ (i := 3) (N := some 26) (v := ?_) (a' := ?_) #[true, true, true, true, false, false, false, false, false, false, false, false, false, false, false, false, false, false, false, false, false, false, false, false, false] rfl rfl (any_of HT_.out (by kernel_rfl)) (fun _ _ _ h => h) (Or.inl ⟨by rfl, ?_⟩) ?_ ?_
                  rotate_left
                  · intro w'
                    go_simp
                    with_reducible rfl
                  rotate_left
                  · simp only [Act.put, List.setIfInBounds_toArray, List.set_cons_zero, List.set_cons_succ, i64_w, i32_w]
                    rfl
                  refine pure_ (i := 5) (N := some 28) (v := ?_) (a' := ?_) #[true, true, true, true, false, true, false, false, false, false, false, false, false, false, false, false, false, false, false, false, false, false, false, false, false] rfl rfl (any_of HT_.out (by kernel_rfl)) (fun _ _ _ h => h) (Or.inl ⟨by rfl, ?_⟩) ?_ ?_
                  rotate_left
                  · intro w'
                    go_simp
                    with_reducible rfl
                  rotate_left
                  · simp only [Act.put, List.setIfInBounds_toArray, List.set_cons_zero, List.set_cons_succ, i64_w, i32_w]
                    rfl
                  refine pure_ (i := 6) (N := some 29) (v := ?_) (a' := ?_) #[true, true, true, true, false, true, true, false, false, false, false, false, false, false, false, false, false, false, false, false, false, false, false, false, false] rfl rfl (any_of HT_.out (by kernel_rfl)) (fun _ _ _ h => h) (Or.inl ⟨by rfl, ?_⟩) ?_ ?_
                  rotate_left
                  · intro w'
                    go_simp
                    with_reducible rfl
                  rotate_left
                  · simp only [Act.put, List.setIfInBounds_toArray, List.set_cons_zero, List.set_cons_succ, i64_w, i32_w]
                    rfl
                  refine pure_ (i := 7) (N := some 30) (v := ?_) (a' := ?_) #[true, true, true, true, false, true, true, true, false, false, false, false, false, false, false, false, false, false, false, false, false, false, false, false, false] rfl rfl (any_of HT_.out (by kernel_rfl)) (fun _ _ _ h => h) (Or.inl ⟨by rfl, ?_⟩) ?_ ?_
                  rotate_left
                  · intro w'
                    go_simp
                    with_reducible rfl
                  rotate_left
                  · simp only [Act.put, List.setIfInBounds_toArray, List.set_cons_zero, List.set_cons_succ, i64_w, i32_w]
                    rfl
                  refine pure_ (i := 8) (N := some 31) (v := ?_) (a' := ?_) #[true, true, true, true, false, true, true, true, true, false, false, false, false, false, false, false, false, false, false, false, false, false, false, false, false] rfl rfl (any_of HT_.out (by kernel_rfl)) (fun _ _ _ h => h) (Or.inl ⟨by rfl, ?_⟩) ?_ ?_
                  rotate_left
                  · intro w'
                    go_simp
                    with_reducible rfl
                  rotate_left
                  · simp only [Act.put, List.setIfInBounds_toArray, List.set_cons_zero, List.set_cons_succ, i64_w, i32_w]
                    rfl
                  refine take_ (i := 4) (N := some 27) (v := ?_) (a' := ?_) #[true, true, true, true, true, true, true, true, true, false, false, false, false, false, false, false, false, false, false, false, false, false, false, false, false] rfl rfl (take_ofW HT_.out HW_.out (by kernel_rfl)) (fun _ _ _ h => h) (Or.inl ⟨by rfl, ?_⟩) hHeld ?_ ?_
                  rotate_left
                  · rintro w' ⟨s0, s1, s2, s3, s4, s5, s6, s7, s8, s9, s10, s11, s12, s13, s14, s15, s16, s17, s18, s19⟩
                    go_simp
                    with_reducible rfl
                  rotate_left
                  · simp only [Act.put, List.setIfInBounds_toArray, List.set_cons_zero, List.set_cons_succ, i64_w, i32_w]
                    rfl
                  refine take_ (i := 9) (N := some 32) (v := ?_) (a' := ?_) #[true, true, true, true, true, true, true, true, true, true, false, false, false, false, false, false, false, false, false, false, false, false, false, false, false] rfl rfl (take_ofW HT_.out HW_.out (by kernel_rfl)) (fun _ _ _ h => h) (Or.inl ⟨by rfl, ?_⟩) hHeld ?_ ?_
                  rotate_left
                  · rintro w' ⟨s0, s1, s2, s3, s4, s5, s6, s7, s8, s9, s10, s11, s12, s13, s14, s15, s16, s17, s18, s19⟩
                    go_simp
                    with_reducible rfl
                  rotate_left
                  · simp only [Act.put, List.setIfInBounds_toArray, List.set_cons_zero, List.set_cons_succ, i64_w, i32_w]
                    rfl
                  refine pure_ (i := 10) (N := some 33) (v := ?_) (a' := ?_) #[true, true, true, true, true, true, true, true, true, true, true, false, false, false, false, false, false, false, false, false, false, false, false, false, false] rfl rfl (any_of HT_.out (by kernel_rfl)) (fun _ _ _ h => h) (Or.inl ⟨by rfl, ?_⟩) ?_ ?_
                  rotate_left
                  · intro w'
                    go_simp
                    with_reducible rfl
                  rotate_left
                  · simp only [Act.put, List.setIfInBounds_toArray, List.set_cons_zero, List.set_cons_succ, i64_w, i32_w]
                    rfl
                  refine pure_ (i := 11) (N := some 34) (v := ?_) (a' := ?_) #[true, true, true, true, true, true, true, true, true, true, true, true, false, false, false, false, false, false, false, false, false, false, false, false, false] rfl rfl (any_of HT_.out (by kernel_rfl)) (fun _ _ _ h => h) (Or.inl ⟨by rfl, ?_⟩) ?_ ?_
                  rotate_left
                  · intro w'
                    go_simp
                    with_reducible rfl
                  rotate_left
                  · simp only [Act.put, List.setIfInBounds_toArray, List.set_cons_zero, List.set_cons_succ, i64_w, i32_w]
                    rfl
                  refine pure_ (i := 12) (N := some 35) (v := ?_) (a' := ?_) #[true, true, true, true, true, true, true, true, true, true, true, true, true, false, false, false, false, false, false, false, false, false, false, false, false] rfl rfl (any_of HT_.out (by kernel_rfl)) (fun _ _ _ h => h) (Or.inl ⟨by rfl, ?_⟩) ?_ ?_
                  rotate_left
                  · intro w'
                    go_simp
                    with_reducible rfl
                  rotate_left
                  · simp only [Act.put, List.setIfInBounds_toArray, List.set_cons_zero, List.set_cons_succ, i64_w, i32_w]
                    rfl
                  refine pure_ (i := 13) (N := some 36) (v := ?_) (a' := ?_) #[true, true, true, true, true, true, true, true, true, true, true, true, true, true, false, false, false, false, false, false, false, false, false, false, false] rfl rfl (any_of HT_.out (by kernel_rfl)) (fun _ _ _ h => h) (Or.inl ⟨by rfl, ?_⟩) ?_ ?_
                  rotate_left
                  · intro w'
                    go_simp
                    with_reducible rfl
                  rotate_left
                  · simp only [Act.put, List.setIfInBounds_toArray, List.set_cons_zero, List.set_cons_succ, i64_w, i32_w]
                    rfl
                  refine pure_ (i := 14) (N := some 37) (v := ?_) (a' := ?_) #[true, true, true, true, true, true, true, true, true, true, true, true, true, true, true, false, false, false, false, false, false, false, false, false, false] rfl rfl (any_of HT_.out (by kernel_rfl)) (fun _ _ _ h => h) (Or.inl ⟨by rfl, ?_⟩) ?_ ?_
                  rotate_left
                  · intro w'
                    go_simp
                    with_reducible rfl
                  rotate_left
                  · simp only [Act.put, List.setIfInBounds_toArray, List.set_cons_zero, List.set_cons_succ, i64_w, i32_w]
                    rfl
                  refine pure_ (i := 15) (N := some 38) (v := ?_) (a' := ?_) #[true, true, true, true, true, true, true, true, true, true, true, true, true, true, true, true, false, false, false, false, false, false, false, false, false] rfl rfl (any_of HT_.out (by kernel_rfl)) (fun _ _ _ h => h) (Or.inl ⟨by rfl, ?_⟩) ?_ ?_
                  rotate_left
                  · intro w'
                    go_simp
                    with_reducible rfl
                  rotate_left
                  · simp only [Act.put, List.setIfInBounds_toArray, List.set_cons_zero, List.set_cons_succ, i64_w, i32_w]
                    rfl
                  refine pure_ (i := 17) (N := some 40) (v := ?_) (a' := ?_) #[true, true, true, true, true, true, true, true, true, true, true, true, true, true, true, true, false, true, false, false, false, false, false, false, false] rfl rfl (any_of HT_.out (by kernel_rfl)) (fun _ _ _ h => h) (Or.inl ⟨by rfl, ?_⟩) ?_ ?_
                  rotate_left
                  · intro w'
                    go_simp
                    with_reducible rfl
                  rotate_left
                  · simp only [Act.put, List.setIfInBounds_toArray, List.set_cons_zero, List.set_cons_succ, i64_w, i32_w]
                    rfl
                  refine pure_ (i := 18) (N := some 41) (v := ?_) (a' := ?_) #[true, true, true, true, true, true, true, true, true, true, true, true, true, true, true, true, false, true, true, false, false, false, false, false, false] rfl rfl (any_of HT_.out (by kernel_rfl)) (fun _ _ _ h => h) (Or.inl ⟨by rfl, ?_⟩) ?_ ?_
                  rotate_left
                  · intro w'
                    go_simp
                    with_reducible rfl
                  rotate_left
                  · simp only [Act.put, List.setIfInBounds_toArray, List.set_cons_zero, List.set_cons_succ, i64_w, i32_w]
                    rfl
                  refine pure_ (i := 19) (N := some 42) (v := ?_) (a' := ?_) #[true, true, true, true, true, true, true, true, true, true, true, true, true, true, true, true, false, true, true, true, false, false, false, false, false] rfl rfl (any_of HT_.out (by kernel_rfl)) (fun _ _ _ h => h) (Or.inl ⟨by rfl, ?_⟩) ?_ ?_
                  rotate_left
                  · intro w'
                    go_simp
                    with_reducible rfl
                  rotate_left
                  · simp only [Act.put, List.setIfInBounds_toArray, List.set_cons_zero, List.set_cons_succ, i64_w, i32_w]
                    rfl
                  refine pure_ (i := 20) (N := some 43) (v := ?_) (a' := ?_) #[true, true, true, true, true, true, true, true, true, true, true, true, true, true, true, true, false, true, true, true, true, false, false, false, false] rfl rfl (any_of HT_.out (by kernel_rfl)) (fun _ _ _ h => h) (Or.inl ⟨by rfl, ?_⟩) ?_ ?_
                  rotate_left
                  · intro w'
                    go_simp
                    with_reducible rfl
                  rotate_left
                  · simp only [Act.put, List.setIfInBounds_toArray, List.set_cons_zero, List.set_cons_succ, i64_w, i32_w]
                    rfl
                  refine take_ (i := 16) (N := some 39) (v := ?_) (a' := ?_) #[true, true, true, true, true, true, true, true, true, true, true, true, true, true, true, true, true, true, true, true, true, false, false, false, false] rfl rfl (take_ofW HT_.out HW_.out (by kernel_rfl)) (fun _ _ _ h => h) (Or.inl ⟨by rfl, ?_⟩) hHeld ?_ ?_
                  rotate_left
                  · rintro w' ⟨s0, s1, s2, s3, s4, s5, s6, s7, s8, s9, s10, s11, s12, s13, s14, s15, s16, s17, s18, s19⟩
                    go_simp
                    with_reducible rfl
                  rotate_left
                  · simp only [Act.put, List.setIfInBounds_toArray, List.set_cons_zero, List.set_cons_succ, i64_w, i32_w]
                    rfl
                  refine take_ (i := 21) (N := some 44) (v := ?_) (a' := ?_) #[true, true, true, true, true, true, true, true, true, true, true, true, true, true, true, true, true, true, true, true, true, true, false, false, false] rfl rfl (take_ofW HT_.out HW_.out (by kernel_rfl)) (fun _ _ _ h => h) (Or.inl ⟨by rfl, ?_⟩) hHeld ?_ ?_
                  rotate_left
                  · rintro w' ⟨s0, s1, s2, s3, s4, s5, s6, s7, s8, s9, s10, s11, s12, s13, s14, s15, s16, s17, s18, s19⟩
                    go_simp
                    with_reducible rfl
                  rotate_left
                  · simp only [Act.put, List.setIfInBounds_toArray, List.set_cons_zero, List.set_cons_succ, i64_w, i32_w]
                    rfl
                  refine one_ (i := 22) (N := some 45) #[true, true, true, true, true, true, true, true, true, true, true, true, true, true, true, true, true, true, true, true, true, true, true, false, false] rfl rfl (one_of HT_.out (by kernel_rfl)) (by decide) (fun K hK => ?_)
                  refine goes_ Try.func13 (by kernel_rfl) rfl #[.agg #[.int .i64 ((rd_T38 t348 x7_1).f1.f0), .string ((rd_T38 t348 x7_1).f1.f1), .slice A354_3 ((rd_T38 t348 x7_1).f1.f2).length c354_3, .slice A354_4 ((rd_T38 t348 x7_1).f1.f3).length c354_4], .agg #[.int .i64 ((rd_T38 t351 x7_1).f1.f0), .string ((rd_T38 t351 x7_1).f1.f1), .slice A355_3 ((rd_T38 t351 x7_1).f1.f2).length c355_3, .slice A355_4 ((rd_T38 t351 x7_1).f1.f3).length c355_4]] (by rfl) rfl rfl (by (try simp only [List.map_toArray, List.map_cons, List.map_nil]); first | done | rfl | (simp only [List.length_drop, List.length_take]; rfl)) ?_
                  with_reducible refine (phalaroperef08_Very.calls k1 ((rd_T38 t348 x7_1).f1.f0) ((rd_T38 t348 x7_1).f1.f1) _ _ ((rd_T38 t348 x7_1).f1.f2) _ _ ((rd_T38 t348 x7_1).f1.f3) ((rd_T38 t351 x7_1).f1.f0) ((rd_T38 t351 x7_1).f1.f1) _ _ ((rd_T38 t351 x7_1).f1.f2) _ _ ((rd_T38 t351 x7_1).f1.f3) true _ ?side1 ?side2 ?side3 ?side4 ?side5 ?side6 ?side7 ?side8 A14.out).mono ?_
                  (case side1 => repeat (first | exact (by repeat (first | (with_reducible exact HR356_3.out) | (with_reducible refine Kd.C_alloc ?_ _) | (with_reducible refine Kd.C_drewN ?_ _) | (with_reducible refine Kd.C_drew ?_) | exact HR356_3.out)) | (with_reducible refine Kd.C_alloc ?_ _) | (with_reducible refine Kd.C_drewN ?_ _) | (with_reducible refine Kd.C_drew ?_)))
                  (case side2 => exact HC356_3.out)
                  (case side3 => repeat (first | exact (by repeat (first | (with_reducible exact HR356_4.out) | (with_reducible refine Kd.C_alloc ?_ _) | (with_reducible refine Kd.C_drewN ?_ _) | (with_reducible refine Kd.C_drew ?_) | exact HR356_4.out)) | (with_reducible refine Kd.C_alloc ?_ _) | (with_reducible refine Kd.C_drewN ?_ _) | (with_reducible refine Kd.C_drew ?_)))
                  (case side4 => exact HC356_4.out)
                  (case side5 => repeat (first | exact (by repeat (first | (with_reducible exact HR357_3.out) | (with_reducible refine Kd.C_alloc ?_ _) | (with_reducible refine Kd.C_drewN ?_ _) | (with_reducible refine Kd.C_drew ?_) | exact HR357_3.out)) | (with_reducible refine Kd.C_alloc ?_ _) | (with_reducible refine Kd.C_drewN ?_ _) | (with_reducible refine Kd.C_drew ?_)))
                  (case side6 => exact HC357_3.out)
                  (case side7 => repeat (first | exact (by repeat (first | (with_reducible exact HR357_4.out) | (with_reducible refine Kd.C_alloc ?_ _) | (with_reducible refine Kd.C_drewN ?_ _) | (with_reducible refine Kd.C_drew ?_) | exact HR357_4.out)) | (with_reducible refine Kd.C_alloc ?_ _) | (with_reducible refine Kd.C_drewN ?_ _) | (with_reducible refine Kd.C_drew ?_)))
                  (case side8 => exact HC357_4.out)
                  rintro e w17 ⟨rfl, hb⟩
                  have HS0_ := (hb.cell (World.block_lt_of_cell? _ _ (hHeld.1))).trans (hHeld.1)
                  have HS1_ := (hb.cell (World.block_lt_of_cell? _ _ (hHeld.2.1))).trans (hHeld.2.1)
                  have HS2_ := (hb.cell (World.block_lt_of_cell? _ _ (hHeld.2.2.1))).trans (hHeld.2.2.1)
                  have HS3_ := (hb.cell (World.block_lt_of_cell? _ _ (hHeld.2.2.2.1))).trans (hHeld.2.2.2.1)
                  have HS4_ := (hb.cell (World.block_lt_of_cell? _ _ (hHeld.2.2.2.2.1))).trans (hHeld.2.2.2.2.1)
                  have HS5_ := (hb.cell (World.block_lt_of_cell? _ _ (hHeld.2.2.2.2.2.1))).trans (hHeld.2.2.2.2.2.1)
                  have HS6_ := (hb.cell (World.block_lt_of_cell? _ _ (hHeld.2.2.2.2.2.2.1))).trans (hHeld.2.2.2.2.2.2.1)
                  have HS7_ := (hb.cell (World.block_lt_of_cell? _ _ (hHeld.2.2.2.2.2.2.2.1))).trans (hHeld.2.2.2.2.2.2.2.1)
                  have HS8_ := (hb.cell (World.block_lt_of_cell? _ _ (hHeld.2.2.2.2.2.2.2.2.1))).trans (hHeld.2.2.2.2.2.2.2.2.1)
                  have HS9_ := (hb.cell (World.block_lt_of_cell? _ _ (hHeld.2.2.2.2.2.2.2.2.2.1))).trans (hHeld.2.2.2.2.2.2.2.2.2.1)
                  have HS10_ := (hb.cell (World.block_lt_of_cell? _ _ (hHeld.2.2.2.2.2.2.2.2.2.2.1))).trans (hHeld.2.2.2.2.2.2.2.2.2.2.1)
                  have HS11_ := (hb.cell (World.block_lt_of_cell? _ _ (hHeld.2.2.2.2.2.2.2.2.2.2.2.1))).trans (hHeld.2.2.2.2.2.2.2.2.2.2.2.1)
                  have HS12_ := (hb.cell (World.block_lt_of_cell? _ _ (hHeld.2.2.2.2.2.2.2.2.2.2.2.2.1))).trans (hHeld.2.2.2.2.2.2.2.2.2.2.2.2.1)
                  have HS13_ := (hb.cell (World.block_lt_of_cell? _ _ (hHeld.2.2.2.2.2.2.2.2.2.2.2.2.2.1))).trans (hHeld.2.2.2.2.2.2.2.2.2.2.2.2.2.1)
                  have HS14_ := (hb.cell (World.block_lt_of_cell? _ _ (hHeld.2.2.2.2.2.2.2.2.2.2.2.2.2.2.1))).trans (hHeld.2.2.2.2.2.2.2.2.2.2.2.2.2.2.1)
                  have HS15_ := (hb.cell (World.block_lt_of_cell? _ _ (hHeld.2.2.2.2.2.2.2.2.2.2.2.2.2.2.2.1))).trans (hHeld.2.2.2.2.2.2.2.2.2.2.2.2.2.2.2.1)
                  have HS16_ := (hb.cell (World.block_lt_of_cell? _ _ (hHeld.2.2.2.2.2.2.2.2.2.2.2.2.2.2.2.2.1))).trans (hHeld.2.2.2.2.2.2.2.2.2.2.2.2.2.2.2.2.1)
                  have HS17_ := (hb.cell (World.block_lt_of_cell? _ _ (hHeld.2.2.2.2.2.2.2.2.2.2.2.2.2.2.2.2.2.1))).trans (hHeld.2.2.2.2.2.2.2.2.2.2.2.2.2.2.2.2.2.1)
                  have HS18_ := (hb.cell (World.block_lt_of_cell? _ _ (hHeld.2.2.2.2.2.2.2.2.2.2.2.2.2.2.2.2.2.2.1))).trans (hHeld.2.2.2.2.2.2.2.2.2.2.2.2.2.2.2.2.2.2.1)
                  have HS19_ := (hb.cell (World.block_lt_of_cell? _ _ (hHeld.2.2.2.2.2.2.2.2.2.2.2.2.2.2.2.2.2.2.2))).trans (hHeld.2.2.2.2.2.2.2.2.2.2.2.2.2.2.2.2.2.2.2)
                  refine ⟨_, rfl, ?_⟩
                  have n0_ := Aside0.mk (Kd.R_below (by (with_reducible repeat (first | apply Kd.R_alloc | apply Kd.R_drewN | apply Kd.R_drew)); exact HO_5.out) hb)
                  have n1_ := Aside0.mk (Kd.R_below (by (with_reducible repeat (first | apply Kd.R_alloc | apply Kd.R_drewN | apply Kd.R_drew)); exact HO_6.out) hb)
                  have n2_ := Aside0.mk (Kd.R_below (by (with_reducible repeat (first | apply Kd.R_alloc | apply Kd.R_drewN | apply Kd.R_drew)); exact HL354_3.out) hb)
                  have n3_ := Aside0.mk (Kd.R_below (by (with_reducible repeat (first | apply Kd.R_alloc | apply Kd.R_drewN | apply Kd.R_drew)); exact HL354_4.out) hb)
                  have n4_ := Aside0.mk (Kd.R_below (by (with_reducible repeat (first | apply Kd.R_alloc | apply Kd.R_drewN | apply Kd.R_drew)); exact HL355_3.out) hb)
                  have n5_ := Aside0.mk (Kd.R_below (by (with_reducible repeat (first | apply Kd.R_alloc | apply Kd.R_drewN | apply Kd.R_drew)); exact HL355_4.out) hb)
                  have n6_ := Aside0.mk (Kd.R_below (by (with_reducible repeat (first | apply Kd.R_alloc | apply Kd.R_drewN | apply Kd.R_drew)); exact HL356_3.out) hb)
                  have n7_ := Aside0.mk (Kd.R_below (by (with_reducible repeat (first | apply Kd.R_alloc | apply Kd.R_drewN | apply Kd.R_drew)); exact HL356_4.out) hb)
                  have n8_ := Aside0.mk (Kd.R_below (by (with_reducible repeat (first | apply Kd.R_alloc | apply Kd.R_drewN | apply Kd.R_drew)); exact HL357_3.out) hb)
                  have n9_ := Aside0.mk (Kd.R_below (by (with_reducible repeat (first | apply Kd.R_alloc | apply Kd.R_drewN | apply Kd.R_drew)); exact HL357_4.out) hb)
                  have n10_ := Aside0.mk (Kd.C_below (by repeat (first | (with_reducible exact HR354_3.out) | (with_reducible refine Kd.C_alloc ?_ _) | (with_reducible refine Kd.C_drewN ?_ _) | (with_reducible refine Kd.C_drew ?_) | exact HR354_3.out)) hb)
                  have n11_ := Aside0.mk (Kd.C_below (by repeat (first | (with_reducible exact HR354_4.out) | (with_reducible refine Kd.C_alloc ?_ _) | (with_reducible refine Kd.C_drewN ?_ _) | (with_reducible refine Kd.C_drew ?_) | exact HR354_4.out)) hb)
                  have n12_ := Aside0.mk (Kd.C_below (by repeat (first | (with_reducible exact HR355_3.out) | (with_reducible refine Kd.C_alloc ?_ _) | (with_reducible refine Kd.C_drewN ?_ _) | (with_reducible refine Kd.C_drew ?_) | exact HR355_3.out)) hb)
                  have n13_ := Aside0.mk (Kd.C_below (by repeat (first | (with_reducible exact HR355_4.out) | (with_reducible refine Kd.C_alloc ?_ _) | (with_reducible refine Kd.C_drewN ?_ _) | (with_reducible refine Kd.C_drew ?_) | exact HR355_4.out)) hb)
                  have n14_ := Aside0.mk (Kd.C_below (by repeat (first | (with_reducible exact HR356_3.out) | (with_reducible refine Kd.C_alloc ?_ _) | (with_reducible refine Kd.C_drewN ?_ _) | (with_reducible refine Kd.C_drew ?_) | exact HR356_3.out)) hb)
                  have n15_ := Aside0.mk (Kd.C_below (by repeat (first | (with_reducible exact HR356_4.out) | (with_reducible refine Kd.C_alloc ?_ _) | (with_reducible refine Kd.C_drewN ?_ _) | (with_reducible refine Kd.C_drew ?_) | exact HR356_4.out)) hb)
                  have n16_ := Aside0.mk (Kd.C_below (by repeat (first | (with_reducible exact HR357_3.out) | (with_reducible refine Kd.C_alloc ?_ _) | (with_reducible refine Kd.C_drewN ?_ _) | (with_reducible refine Kd.C_drew ?_) | exact HR357_3.out)) hb)
                  have n17_ := Aside0.mk (Kd.C_below (by repeat (first | (with_reducible exact HR357_4.out) | (with_reducible refine Kd.C_alloc ?_ _) | (with_reducible refine Kd.C_drewN ?_ _) | (with_reducible refine Kd.C_drew ?_) | exact HR357_4.out)) hb)
                  have n18_ := Aside0.mk (below_step (by repeat (first | (with_reducible first | exact HB.out | apply below_alloc | apply pw_below_drewN | apply below_drew1) | exact HB.out)) hb)
                  clear HO_5
                  clear HO_6
                  clear HL354_3
                  clear HL354_4
                  clear HL355_3
                  clear HL355_4
                  clear HL356_3
                  clear HL356_4
                  clear HL357_3
                  clear HL357_4
                  clear HR354_3
                  clear HR354_4
                  clear HR355_3
                  clear HR355_4
                  clear HR356_3
                  clear HR356_4
                  clear HR357_3
                  clear HR357_4
                  clear HB
                  have HO_5 := n0_
                  have HO_6 := n1_
                  have HL354_3 := n2_
                  have HL354_4 := n3_
                  have HL355_3 := n4_
                  have HL355_4 := n5_
                  have HL356_3 := n6_
                  have HL356_4 := n7_
                  have HL357_3 := n8_
                  have HL357_4 := n9_
                  have HR354_3 := n10_
                  have HR354_4 := n11_
                  have HR355_3 := n12_
                  have HR355_4 := n13_
                  have HR356_3 := n14_
                  have HR356_4 := n15_
                  have HR357_3 := n16_
                  have HR357_4 := n17_
                  have HB := n18_
                  clear n0_ n1_ n2_ n3_ n4_ n5_ n6_ n7_ n8_ n9_ n10_ n11_ n12_ n13_ n14_ n15_ n16_ n17_ n18_
                  (try clear hb)
                  (try clear hb2)
                  (try clear hk)
                  (try clear hi)
                  refine hK.out _ _ ⟨HS0_, HS1_, HS2_, HS3_, HS4_, HS5_, HS6_, HS7_, HS8_, HS9_, HS10_, HS11_, HS12_, HS13_, HS14_, HS15_, HS16_, HS17_, HS18_, HS19_⟩ (fun hHeld => ?_)
                  clear hK K
                  refine norm_ (a' := ?_) ?_ ?_
                  rotate_left
                  · show Act.put _ (some 45) _ = _
                    simp only [Act.put, List.setIfInBounds_toArray, List.set_cons_zero, List.set_cons_succ, i64_w, i32_w]
                    rfl
                  refine pure_ (i := 23) (N := some 46) (v := ?_) (a' := ?_) #[true, true, true, true, true, true, true, true, true, true, true, true, true, true, true, true, true, true, true, true, true, true, true, true, false] rfl rfl (any_of HT_.out (by kernel_rfl)) (fun _ _ _ h => h) (Or.inl ⟨by rfl, ?_⟩) ?_ ?_
                  rotate_left
                  · intro w'
                    go_simp
                    with_reducible rfl
                  rotate_left
                  · simp only [Act.put, List.setIfInBounds_toArray, List.set_cons_zero, List.set_cons_succ, i64_w, i32_w]
                    rfl
                  refine pure_ (i := 24) (N := some 47) (v := ?_) (a' := ?_) #[true, true, true, true, true, true, true, true, true, true, true, true, true, true, true, true, true, true, true, true, true, true, true, true, true] rfl rfl (any_of HT_.out (by kernel_rfl)) (fun _ _ _ h => h) (Or.inl ⟨by rfl, ?_⟩) ?_ ?_
                  rotate_left
                  · intro w'
                    go_simp
                    with_reducible rfl
                  rotate_left
                  · simp only [Act.put, List.setIfInBounds_toArray, List.set_cons_zero, List.set_cons_succ, i64_w, i32_w]
                    rfl
                  refine done_ (done_of HT_.out (by kernel_rfl)) ?_
                  try go_wp2
                  go_roundg k1
                  case measure => have := HK1.out; omega
                  case rel => exact ⟨(wrap64 (x7_1 + 1)), (by first | rfl | (simp; done) | (simp [*]; done)), H', ⟨by have := HK1.out; omega⟩, ⟨by (with_reducible repeat (first | apply Kd.R_alloc | apply Kd.R_drewN | apply Kd.R_drew)); exact HO_5.out⟩, ⟨by (with_reducible repeat (first | apply Kd.R_alloc | apply Kd.R_drewN | apply Kd.R_drew)); exact HO_6.out⟩, ⟨by repeat (first | (with_reducible first | exact HB.out | apply below_alloc | apply pw_below_drewN | apply below_drew1) | exact HB.out)⟩⟩
                · replace c15 := Bool.eq_false_iff.mpr c15
                  subst c15
                  have H1 : (some false) = some r := by rw [if_neg (show ¬ (false = true) by decide)] at H; exact H
                  clear H
                  have H := H1
                  clear H1
                  obtain rfl := Option.some.inj H
                  try go_wp2
                  have n0_ := Aside0.mk (Kd.R_drew HO_5.out)
                  have n1_ := Aside0.mk (Kd.R_drew HO_6.out)
                  have n2_ := Aside0.mk (below_drew1 HB.out)
                  clear HO_5
                  clear HO_6
                  clear HB
                  have HO_5 := n0_
                  have HO_6 := n1_
                  have HB := n2_
                  clear n0_ n1_ n2_
                  have p354 : 0 ≤ (x7_1 : Int) := of_decide_eq_true (by first | (with_reducible assumption) | assumption)
                  have q354 : x7_1 < (t348.length : Int) := of_decide_eq_true (by first | (with_reducible assumption) | assumption)
                  obtain ⟨ad354, A354_3, c354_3, A354_4, c354_4, e354, hx354_0, hx354_1, hx354_2, hx354_3, hx354_4, hl354_3, hi354_3, hl354_4, hi354_4⟩ := at_T38 (Kd.R_reads' HO_5.out).2.2 x7_1 p354 q354
                  cases e354
                  obtain ⟨ce354, hce354, hMe354, hcc354⟩ := Kd.R_get HO_5.out z38 x7_1 p354 (by first | exact q354 | exact of_decide_eq_true (by first | (with_reducible assumption) | assumption) | (have e_ := (Kd.R_reads' HO_5.out).1; omega))
                  obtain ⟨ve354_3, ve354_4, rfl, ge354_3, ge354_4⟩ := k38_openM hMe354
                  have hv354_3 := hcc354 3 _ rfl
                  rw [add_field _ _ 3 (by omega)] at hv354_3
                  replace hv354_3 := Option.some.inj (hv354_3.symm.trans hx354_3)
                  rw [hv354_3] at ge354_3
                  have HL354_3 := Aside0.mk (show Kd.R Kd.string 9 _ _ _ _ ((rd_T38 t348 x7_1).f1.f2) from ge354_3)
                  clear hv354_3 ge354_3
                  have hv354_4 := hcc354 4 _ rfl
                  rw [add_field _ _ 4 (by omega)] at hv354_4
                  replace hv354_4 := Option.some.inj (hv354_4.symm.trans hx354_4)
                  rw [hv354_4] at ge354_4
                  have HL354_4 := Aside0.mk (show Kd.R k50 50 _ _ _ _ ((rd_T38 t348 x7_1).f1.f3) from ge354_4)
                  clear hv354_4 ge354_4
                  clear hcc354 hce354
                  have HR354_3 := Aside0.mk hi354_3
                  have HC354_3 := Aside0.mk hl354_3
                  clear hi354_3 hl354_3
                  have HR354_4 := Aside0.mk hi354_4
                  have HC354_4 := Aside0.mk hl354_4
                  clear hi354_4 hl354_4
                  replace p354 := eq_true p354
                  replace q354 := eq_true q354
                  have p355 : 0 ≤ (x7_1 : Int) := of_decide_eq_true (by first | (with_reducible assumption) | assumption)
                  have q355 : x7_1 < (t351.length : Int) := of_decide_eq_true (by first | (with_reducible assumption) | assumption)
                  obtain ⟨ad355, A355_3, c355_3, A355_4, c355_4, e355, hx355_0, hx355_1, hx355_2, hx355_3, hx355_4, hl355_3, hi355_3, hl355_4, hi355_4⟩ := at_T38 (Kd.R_reads' HO_6.out).2.2 x7_1 p355 q355
                  cases e355
                  obtain ⟨ce355, hce355, hMe355, hcc355⟩ := Kd.R_get HO_6.out z38 x7_1 p355 (by first | exact q355 | exact of_decide_eq_true (by first | (with_reducible assumption) | assumption) | (have e_ := (Kd.R_reads' HO_6.out).1; omega))
                  obtain ⟨ve355_3, ve355_4, rfl, ge355_3, ge355_4⟩ := k38_openM hMe355
                  have hv355_3 := hcc355 3 _ rfl
                  rw [add_field _ _ 3 (by omega)] at hv355_3
                  replace hv355_3 := Option.some.inj (hv355_3.symm.trans hx355_3)
                  rw [hv355_3] at ge355_3
                  have HL355_3 := Aside0.mk (show Kd.R Kd.string 9 _ _ _ _ ((rd_T38 t351 x7_1).f1.f2) from ge355_3)
                  clear hv355_3 ge355_3
                  have hv355_4 := hcc355 4 _ rfl
                  rw [add_field _ _ 4 (by omega)] at hv355_4
                  replace hv355_4 := Option.some.inj (hv355_4.symm.trans hx355_4)
                  rw [hv355_4] at ge355_4
                  have HL355_4 := Aside0.mk (show Kd.R k50 50 _ _ _ _ ((rd_T38 t351 x7_1).f1.f3) from ge355_4)
                  clear hv355_4 ge355_4
                  clear hcc355 hce355
                  have HR355_3 := Aside0.mk hi355_3
                  have HC355_3 := Aside0.mk hl355_3
                  clear hi355_3 hl355_3
                  have HR355_4 := Aside0.mk hi355_4
                  have HC355_4 := Aside0.mk hl355_4
                  clear hi355_4 hl355_4
                  replace p355 := eq_true p355
                  replace q355 := eq_true q355
                  have p356 : 0 ≤ (x7_1 : Int) := of_decide_eq_true (by first | (with_reducible assumption) | assumption)
                  have q356 : x7_1 < (t348.length : Int) := of_decide_eq_true (by first | (with_reducible assumption) | assumption)
                  obtain ⟨ad356, A356_3, c356_3, A356_4, c356_4, e356, hx356_0, hx356_1, hx356_2, hx356_3, hx356_4, hl356_3, hi356_3, hl356_4, hi356_4⟩ := at_T38 (Kd.R_reads' HO_5.out).2.2 x7_1 p356 q356
                  obtain rfl : ad354 = ad356 := (by injection e356)
                  obtain ⟨ce356, hce356, hMe356, hcc356⟩ := Kd.R_get HO_5.out z38 x7_1 p356 (by first | exact q356 | exact of_decide_eq_true (by first | (with_reducible assumption) | assumption) | (have e_ := (Kd.R_reads' HO_5.out).1; omega))
                  obtain ⟨ve356_3, ve356_4, rfl, ge356_3, ge356_4⟩ := k38_openM hMe356
                  have hv356_3 := hcc356 3 _ rfl
                  rw [add_field _ _ 3 (by omega)] at hv356_3
                  replace hv356_3 := Option.some.inj (hv356_3.symm.trans hx356_3)
                  rw [hv356_3] at ge356_3
                  have HL356_3 := Aside0.mk (show Kd.R Kd.string 9 _ _ _ _ ((rd_T38 t348 x7_1).f1.f2) from ge356_3)
                  clear hv356_3 ge356_3
                  have hv356_4 := hcc356 4 _ rfl
                  rw [add_field _ _ 4 (by omega)] at hv356_4
                  replace hv356_4 := Option.some.inj (hv356_4.symm.trans hx356_4)
                  rw [hv356_4] at ge356_4
                  have HL356_4 := Aside0.mk (show Kd.R k50 50 _ _ _ _ ((rd_T38 t348 x7_1).f1.f3) from ge356_4)
                  clear hv356_4 ge356_4
                  clear hcc356 hce356
                  have HR356_3 := Aside0.mk hi356_3
                  have HC356_3 := Aside0.mk hl356_3
                  clear hi356_3 hl356_3
                  have HR356_4 := Aside0.mk hi356_4
                  have HC356_4 := Aside0.mk hl356_4
                  clear hi356_4 hl356_4
                  replace p356 := eq_true p356
                  replace q356 := eq_true q356
                  have ea_ := Option.some.inj (hx354_3.symm.trans hx356_3)
                  injection ea_ with ea_ en_ ec_
                  subst ea_
                  subst ec_
                  clear en_
                  have ea_ := Option.some.inj (hx354_4.symm.trans hx356_4)
                  injection ea_ with ea_ en_ ec_
                  subst ea_
                  subst ec_
                  clear en_
                  have p357 : 0 ≤ (x7_1 : Int) := of_decide_eq_true (by first | (with_reducible assumption) | assumption)
                  have q357 : x7_1 < (t351.length : Int) := of_decide_eq_true (by first | (with_reducible assumption) | assumption)
                  obtain ⟨ad357, A357_3, c357_3, A357_4, c357_4, e357, hx357_0, hx357_1, hx357_2, hx357_3, hx357_4, hl357_3, hi357_3, hl357_4, hi357_4⟩ := at_T38 (Kd.R_reads' HO_6.out).2.2 x7_1 p357 q357
                  obtain rfl : ad355 = ad357 := (by injection e357)
                  obtain ⟨ce357, hce357, hMe357, hcc357⟩ := Kd.R_get HO_6.out z38 x7_1 p357 (by first | exact q357 | exact of_decide_eq_true (by first | (with_reducible assumption) | assumption) | (have e_ := (Kd.R_reads' HO_6.out).1; omega))
                  obtain ⟨ve357_3, ve357_4, rfl, ge357_3, ge357_4⟩ := k38_openM hMe357
                  have hv357_3 := hcc357 3 _ rfl
                  rw [add_field _ _ 3 (by omega)] at hv357_3
                  replace hv357_3 := Option.some.inj (hv357_3.symm.trans hx357_3)
                  rw [hv357_3] at ge357_3
                  have HL357_3 := Aside0.mk (show Kd.R Kd.string 9 _ _ _ _ ((rd_T38 t351 x7_1).f1.f2) from ge357_3)
                  clear hv357_3 ge357_3
                  have hv357_4 := hcc357 4 _ rfl
                  rw [add_field _ _ 4 (by omega)] at hv357_4
                  replace hv357_4 := Option.some.inj (hv357_4.symm.trans hx357_4)
                  rw [hv357_4] at ge357_4
                  have HL357_4 := Aside0.mk (show Kd.R k50 50 _ _ _ _ ((rd_T38 t351 x7_1).f1.f3) from ge357_4)
                  clear hv357_4 ge357_4
                  clear hcc357 hce357
                  have HR357_3 := Aside0.mk hi357_3
                  have HC357_3 := Aside0.mk hl357_3
                  clear hi357_3 hl357_3
                  have HR357_4 := Aside0.mk hi357_4
                  have HC357_4 := Aside0.mk hl357_4
                  clear hi357_4 hl357_4
                  replace p357 := eq_true p357
                  replace q357 := eq_true q357
                  have ea_ := Option.some.inj (hx355_3.symm.trans hx357_3)
                  injection ea_ with ea_ en_ ec_
                  subst ea_
                  subst ec_
                  clear en_
                  have ea_ := Option.some.inj (hx355_4.symm.trans hx357_4)
                  injection ea_ with ea_ en_ ec_
                  subst ea_
                  subst ec_
                  clear en_
                  refine start_ (n := 25) (S := fun w' => w'.cell? (ad354.add ((x7_1).toNat * 5)) = some (.string ((rd_T38 t348 x7_1).f0)) ∧ w'.cell? ⟨(ad354.add ((x7_1).toNat * 5)).block, (ad354.add ((x7_1).toNat * 5)).off + 1, none⟩ = some (.int .i64 ((rd_T38 t348 x7_1).f1.f0)) ∧ w'.cell? ⟨(ad354.add ((x7_1).toNat * 5)).block, (ad354.add ((x7_1).toNat * 5)).off + 2, none⟩ = some (.string ((rd_T38 t348 x7_1).f1.f1)) ∧ w'.cell? ⟨(ad354.add ((x7_1).toNat * 5)).block, (ad354.add ((x7_1).toNat * 5)).off + 3, none⟩ = some (.slice A354_3 ((rd_T38 t348 x7_1).f1.f2).length c354_3) ∧ w'.cell? ⟨(ad354.add ((x7_1).toNat * 5)).block, (ad354.add ((x7_1).toNat * 5)).off + 4, none⟩ = some (.slice A354_4 ((rd_T38 t348 x7_1).f1.f3).length c354_4) ∧ w'.cell? (ad355.add ((x7_1).toNat * 5)) = some (.string ((rd_T38 t351 x7_1).f0)) ∧ w'.cell? ⟨(ad355.add ((x7_1).toNat * 5)).block, (ad355.add ((x7_1).toNat * 5)).off + 1, none⟩ = some (.int .i64 ((rd_T38 t351 x7_1).f1.f0)) ∧ w'.cell? ⟨(ad355.add ((x7_1).toNat * 5)).block, (ad355.add ((x7_1).toNat * 5)).off + 2, none⟩ = some (.string ((rd_T38 t351 x7_1).f1.f1)) ∧ w'.cell? ⟨(ad355.add ((x7_1).toNat * 5)).block, (ad355.add ((x7_1).toNat * 5)).off + 3, none⟩ = some (.slice A355_3 ((rd_T38 t351 x7_1).f1.f2).length c355_3) ∧ w'.cell? ⟨(ad355.add ((x7_1).toNat * 5)).block, (ad355.add ((x7_1).toNat * 5)).off + 4, none⟩ = some (.slice A355_4 ((rd_T38 t351 x7_1).f1.f3).length c355_4) ∧ w'.cell? (ad354.add ((x7_1).toNat * 5)) = some (.string ((rd_T38 t348 x7_1).f0)) ∧ w'.cell? ⟨(ad354.add ((x7_1).toNat * 5)).block, (ad354.add ((x7_1).toNat * 5)).off + 1, none⟩ = some (.int .i64 ((rd_T38 t348 x7_1).f1.f0)) ∧ w'.cell? ⟨(ad354.add ((x7_1).toNat * 5)).block, (ad354.add ((x7_1).toNat * 5)).off + 2, none⟩ = some (.string ((rd_T38 t348 x7_1).f1.f1)) ∧ w'.cell? ⟨(ad354.add ((x7_1).toNat * 5)).block, (ad354.add ((x7_1).toNat * 5)).off + 3, none⟩ = some (.slice A354_3 ((rd_T38 t348 x7_1).f1.f2).length c354_3) ∧ w'.cell? ⟨(ad354.add ((x7_1).toNat * 5)).block, (ad354.add ((x7_1).toNat * 5)).off + 4, none⟩ = some (.slice A354_4 ((rd_T38 t348 x7_1).f1.f3).length c354_4) ∧ w'.cell? (ad355.add ((x7_1).toNat * 5)) = some (.string ((rd_T38 t351 x7_1).f0)) ∧ w'.cell? ⟨(ad355.add ((x7_1).toNat * 5)).block, (ad355.add ((x7_1).toNat * 5)).off + 1, none⟩ = some (.int .i64 ((rd_T38 t351 x7_1).f1.f0)) ∧ w'.cell? ⟨(ad355.add ((x7_1).toNat * 5)).block, (ad355.add ((x7_1).toNat * 5)).off + 2, none⟩ = some (.string ((rd_T38 t351 x7_1).f1.f1)) ∧ w'.cell? ⟨(ad355.add ((x7_1).toNat * 5)).block, (ad355.add ((x7_1).toNat * 5)).off + 3, none⟩ = some (.slice A355_3 ((rd_T38 t351 x7_1).f1.f2).length c355_3) ∧ w'.cell? ⟨(ad355.add ((x7_1).toNat * 5)).block, (ad355.add ((x7_1).toNat * 5)).off + 4, none⟩ = some (.slice A355_4 ((rd_T38 t351 x7_1).f1.f3).length c355_4)) (ds := []) #[false, false, false, false, false, false, false, false, false, false, false, false, false, false, false, false, false, false, false, false, false, false, false, false, false] (by kernel_rfl) rfl rfl ⟨hx354_0, hx354_1, hx354_2, hx354_3, hx354_4, hx355_0, hx355_1, hx355_2, hx355_3, hx355_4, hx356_0, hx356_1, hx356_2, hx356_3, hx356_4, hx357_0, hx357_1, hx357_2, hx357_3, hx357_4⟩ (fun hHeld => ?_); refine with_tabW phalaroperef09_Same.tab8 phalaroperef09_Same.bits8 (fun HT_ HW_ => ?_)
                  generalize wr.drew = w18 at HO_5 HO_6 HB HL354_3 HL354_4 HL355_3 HL355_4 HL356_3 HL356_4 HL357_3 HL357_4 HR354_3 HR354_4 HR355_3 HR355_4 HR356_3 HR356_4 HR357_3 HR357_4 hx354_0 hx354_1 hx354_2 hx354_3 hx354_4 hx355_0 hx355_1 hx355_2 hx355_3 hx355_4 hx356_0 hx356_1 hx356_2 hx356_3 hx356_4 hx357_0 hx357_1 hx357_2 hx357_3 hx357_4 hHeld ⊢
                  refine pure_ (i := 0) (N := some 23) (v := ?_) (a' := ?_) #[true, false, false, false, false, false, false, false, false, false, false, false, false, false, false, false, false, false, false, false, false, false, false, false, false] rfl rfl (any_of HT_.out (by kernel_rfl)) (fun _ _ _ h => h) (Or.inl ⟨by rfl, ?_⟩) ?_ ?_
                  rotate_left
                  · intro w'
                    go_simp
                    with_reducible rfl
                  rotate_left
                  · simp only [Act.put, List.setIfInBounds_toArray, List.set_cons_zero, List.set_cons_succ, i64_w, i32_w]
                    rfl
                  refine pure_ (i := 1) (N := some 24) (v := ?_) (a' := ?_) #[true, true, false, false, false, false, false, false, false, false, false, false, false, false, false, false, false, false, false, false, false, false, false, false, false] rfl rfl (any_of HT_.out (by kernel_rfl)) (fun _ _ _ h => h) (Or.inl ⟨by rfl, ?_⟩) ?_ ?_
                  rotate_left
                  · intro w'
                    go_simp
                    with_reducible rfl
                  rotate_left
                  · simp only [Act.put, List.setIfInBounds_toArray, List.set_cons_zero, List.set_cons_succ, i64_w, i32_w]
                    rfl
                  refine pure_ (i := 2) (N := some 25) (v := ?_) (a' := ?_) #[true, true, true, false, false, false, false, false, false, false, false, false, false, false, false, false, false, false, false, false, false, false, false, false, false] rfl rfl (any_of HT_.out (by kernel_rfl)) (fun _ _ _ h => h) (Or.inl ⟨by rfl, ?_⟩) ?_ ?_
                  rotate_left
                  · intro w'
                    go_simp
                    with_reducible rfl
                  rotate_left
                  · simp only [Act.put, List.setIfInBounds_toArray, List.set_cons_zero, List.set_cons_succ, i64_w, i32_w]
                    rfl
                  refine pure_ (i := 3) (N := some 26) (v := ?_) (a' := ?_) #[true, true, true, true, false, false, false, false, false, false, false, false, false, false, false, false, false, false, false, false, false, false, false, false, false] rfl rfl (any_of HT_.out (by kernel_rfl)) (fun _ _ _ h => h) (Or.inl ⟨by rfl, ?_⟩) ?_ ?_
                  rotate_left
                  · intro w'
                    go_simp
                    with_reducible rfl
                  rotate_left
                  · simp only [Act.put, List.setIfInBounds_toArray, List.set_cons_zero, List.set_cons_succ, i64_w, i32_w]
                    rfl
                  refine pure_ (i := 5) (N := some 28) (v := ?_) (a' := ?_) #[true, true, true, true, false, true, false, false, false, false, false, false, false, false, false, false, false, false, false, false, false, false, false, false, false] rfl rfl (any_of HT_.out (by kernel_rfl)) (fun _ _ _ h => h) (Or.inl ⟨by rfl, ?_⟩) ?_ ?_
                  rotate_left
                  · intro w'
                    go_simp
                    with_reducible rfl
                  rotate_left
                  · simp only [Act.put, List.setIfInBounds_toArray, List.set_cons_zero, List.set_cons_succ, i64_w, i32_w]
                    rfl
                  refine pure_ (i := 6) (N := some 29) (v := ?_) (a' := ?_) #[true, true, true, true, false, true, true, false, false, false, false, false, false, false, false, false, false, false, false, false, false, false, false, false, false] rfl rfl (any_of HT_.out (by kernel_rfl)) (fun _ _ _ h => h) (Or.inl ⟨by rfl, ?_⟩) ?_ ?_
                  rotate_left
                  · intro w'
                    go_simp
                    with_reducible rfl
                  rotate_left
                  · simp only [Act.put, List.setIfInBounds_toArray, List.set_cons_zero, List.set_cons_succ, i64_w, i32_w]
                    rfl
                  refine pure_ (i := 7) (N := some 30) (v := ?_) (a' := ?_) #[true, true, true, true, false, true, true, true, false, false, false, false, false, false, false, false, false, false, false, false, false, false, false, false, false] rfl rfl (any_of HT_.out (by kernel_rfl)) (fun _ _ _ h => h) (Or.inl ⟨by rfl, ?_⟩) ?_ ?_
                  rotate_left
                  · intro w'
                    go_simp
                    with_reducible rfl
                  rotate_left
                  · simp only [Act.put, List.setIfInBounds_toArray, List.set_cons_zero, List.set_cons_succ, i64_w, i32_w]
                    rfl
                  refine pure_ (i := 8) (N := some 31) (v := ?_) (a' := ?_) #[true, true, true, true, false, true, true, true, true, false, false, false, false, false, false, false, false, false, false, false, false, false, false, false, false] rfl rfl (any_of HT_.out (by kernel_rfl)) (fun _ _ _ h => h) (Or.inl ⟨by rfl, ?_⟩) ?_ ?_
                  rotate_left
                  · intro w'
                    go_simp
                    with_reducible rfl
                  rotate_left
                  · simp only [Act.put, List.setIfInBounds_toArray, List.set_cons_zero, List.set_cons_succ, i64_w, i32_w]
                    rfl
                  refine take_ (i := 4) (N := some 27) (v := ?_) (a' := ?_) #[true, true, true, true, true, true, true, true, true, false, false, false, false, false, false, false, false, false, false, false, false, false, false, false, false] rfl rfl (take_ofW HT_.out HW_.out (by kernel_rfl)) (fun _ _ _ h => h) (Or.inl ⟨by rfl, ?_⟩) hHeld ?_ ?_
                  rotate_left
                  · rintro w' ⟨s0, s1, s2, s3, s4, s5, s6, s7, s8, s9, s10, s11, s12, s13, s14, s15, s16, s17, s18, s19⟩
                    go_simp
                    with_reducible rfl
                  rotate_left
                  · simp only [Act.put, List.setIfInBounds_toArray, List.set_cons_zero, List.set_cons_succ, i64_w, i32_w]
                    rfl
                  refine take_ (i := 9) (N := some 32) (v := ?_) (a' := ?_) #[true, true, true, true, true, true, true, true, true, true, false, false, false, false, false, false, false, false, false, false, false, false, false, false, false] rfl rfl (take_ofW HT_.out HW_.out (by kernel_rfl)) (fun _ _ _ h => h) (Or.inl ⟨by rfl, ?_⟩) hHeld ?_ ?_
                  rotate_left
                  · rintro w' ⟨s0, s1, s2, s3, s4, s5, s6, s7, s8, s9, s10, s11, s12, s13, s14, s15, s16, s17, s18, s19⟩
                    go_simp
                    with_reducible rfl
                  rotate_left
                  · simp only [Act.put, List.setIfInBounds_toArray, List.set_cons_zero, List.set_cons_succ, i64_w, i32_w]
                    rfl
                  refine pure_ (i := 10) (N := some 33) (v := ?_) (a' := ?_) #[true, true, true, true, true, true, true, true, true, true, true, false, false, false, false, false, false, false, false, false, false, false, false, false, false] rfl rfl (any_of HT_.out (by kernel_rfl)) (fun _ _ _ h => h) (Or.inl ⟨by rfl, ?_⟩) ?_ ?_
                  rotate_left
                  · intro w'
                    go_simp
                    with_reducible rfl
                  rotate_left
                  · simp only [Act.put, List.setIfInBounds_toArray, List.set_cons_zero, List.set_cons_succ, i64_w, i32_w]
                    rfl
                  refine pure_ (i := 11) (N := some 34) (v := ?_) (a' := ?_) #[true, true, true, true, true, true, true, true, true, true, true, true, false, false, false, false, false, false, false, false, false, false, false, false, false] rfl rfl (any_of HT_.out (by kernel_rfl)) (fun _ _ _ h => h) (Or.inl ⟨by rfl, ?_⟩) ?_ ?_
                  rotate_left
                  · intro w'
                    go_simp
                    with_reducible rfl
                  rotate_left
                  · simp only [Act.put, List.setIfInBounds_toArray, List.set_cons_zero, List.set_cons_succ, i64_w, i32_w]
                    rfl
                  refine pure_ (i := 12) (N := some 35) (v := ?_) (a' := ?_) #[true, true, true, true, true, true, true, true, true, true, true, true, true, false, false, false, false, false, false, false, false, false, false, false, false] rfl rfl (any_of HT_.out (by kernel_rfl)) (fun _ _ _ h => h) (Or.inl ⟨by rfl, ?_⟩) ?_ ?_
                  rotate_left
                  · intro w'
                    go_simp
                    with_reducible rfl
                  rotate_left
                  · simp only [Act.put, List.setIfInBounds_toArray, List.set_cons_zero, List.set_cons_succ, i64_w, i32_w]
                    rfl
                  refine pure_ (i := 13) (N := some 36) (v := ?_) (a' := ?_) #[true, true, true, true, true, true, true, true, true, true, true, true, true, true, false, false, false, false, false, false, false, false, false, false, false] rfl rfl (any_of HT_.out (by kernel_rfl)) (fun _ _ _ h => h) (Or.inl ⟨by rfl, ?_⟩) ?_ ?_
                  rotate_left
                  · intro w'
                    go_simp
                    with_reducible rfl
                  rotate_left
                  · simp only [Act.put, List.setIfInBounds_toArray, List.set_cons_zero, List.set_cons_succ, i64_w, i32_w]
                    rfl
                  refine pure_ (i := 14) (N := some 37) (v := ?_) (a' := ?_) #[true, true, true, true, true, true, true, true, true, true, true, true, true, true, true, false, false, false, false, false, false, false, false, false, false] rfl rfl (any_of HT_.out (by kernel_rfl)) (fun _ _ _ h => h) (Or.inl ⟨by rfl, ?_⟩) ?_ ?_
                  rotate_left
                  · intro w'
                    go_simp
                    with_reducible rfl
                  rotate_left
                  · simp only [Act.put, List.setIfInBounds_toArray, List.set_cons_zero, List.set_cons_succ, i64_w, i32_w]
                    rfl
                  refine pure_ (i := 15) (N := some 38) (v := ?_) (a' := ?_) #[true, true, true, true, true, true, true, true, true, true, true, true, true, true, true, true, false, false, false, false, false, false, false, false, false] rfl rfl (any_of HT_.out (by kernel_rfl)) (fun _ _ _ h => h) (Or.inl ⟨by rfl, ?_⟩) ?_ ?_
                  rotate_left
                  · intro w'
                    go_simp
                    with_reducible rfl
                  rotate_left
                  · simp only [Act.put, List.setIfInBounds_toArray, List.set_cons_zero, List.set_cons_succ, i64_w, i32_w]
                    rfl
                  refine pure_ (i := 17) (N := some 40) (v := ?_) (a' := ?_) #[true, true, true, true, true, true, true, true, true, true, true, true, true, true, true, true, false, true, false, false, false, false, false, false, false] rfl rfl (any_of HT_.out (by kernel_rfl)) (fun _ _ _ h => h) (Or.inl ⟨by rfl, ?_⟩) ?_ ?_
                  rotate_left
                  · intro w'
                    go_simp
                    with_reducible rfl
                  rotate_left
                  · simp only [Act.put, List.setIfInBounds_toArray, List.set_cons_zero, List.set_cons_succ, i64_w, i32_w]
                    rfl
                  refine pure_ (i := 18) (N := some 41) (v := ?_) (a' := ?_) #[true, true, true, true, true, true, true, true, true, true, true, true, true, true, true, true, false, true, true, false, false, false, false, false, false] rfl rfl (any_of HT_.out (by kernel_rfl)) (fun _ _ _ h => h) (Or.inl ⟨by rfl, ?_⟩) ?_ ?_
                  rotate_left
                  · intro w'
                    go_simp
                    with_reducible rfl
                  rotate_left
                  · simp only [Act.put, List.setIfInBounds_toArray, List.set_cons_zero, List.set_cons_succ, i64_w, i32_w]
                    rfl
                  refine pure_ (i := 19) (N := some 42) (v := ?_) (a' := ?_) #[true, true, true, true, true, true, true, true, true, true, true, true, true, true, true, true, false, true, true, true, false, false, false, false, false] rfl rfl (any_of HT_.out (by kernel_rfl)) (fun _ _ _ h => h) (Or.inl ⟨by rfl, ?_⟩) ?_ ?_
                  rotate_left
                  · intro w'
                    go_simp
                    with_reducible rfl
                  rotate_left
                  · simp only [Act.put, List.setIfInBounds_toArray, List.set_cons_zero, List.set_cons_succ, i64_w, i32_w]
                    rfl
                  refine pure_ (i := 20) (N := some 43) (v := ?_) (a' := ?_) #[true, true, true, true, true, true, true, true, true, true, true, true, true, true, true, true, false, true, true, true, true, false, false, false, false] rfl rfl (any_of HT_.out (by kernel_rfl)) (fun _ _ _ h => h) (Or.inl ⟨by rfl, ?_⟩) ?_ ?_
                  rotate_left
                  · intro w'
                    go_simp
                    with_reducible rfl
                  rotate_left
                  · simp only [Act.put, List.setIfInBounds_toArray, List.set_cons_zero, List.set_cons_succ, i64_w, i32_w]
                    rfl
                  refine take_ (i := 16) (N := some 39) (v := ?_) (a' := ?_) #[true, true, true, true, true, true, true, true, true, true, true, true, true, true, true, true, true, true, true, true, true, false, false, false, false] rfl rfl (take_ofW HT_.out HW_.out (by kernel_rfl)) (fun _ _ _ h => h) (Or.inl ⟨by rfl, ?_⟩) hHeld ?_ ?_
                  rotate_left
                  · rintro w' ⟨s0, s1, s2, s3, s4, s5, s6, s7, s8, s9, s10, s11, s12, s13, s14, s15, s16, s17, s18, s19⟩
                    go_simp
                    with_reducible rfl
                  rotate_left
                  · simp only [Act.put, List.setIfInBounds_toArray, List.set_cons_zero, List.set_cons_succ, i64_w, i32_w]
                    rfl
                  refine take_ (i := 21) (N := some 44) (v := ?_) (a' := ?_) #[true, true, true, true, true, true, true, true, true, true, true, true, true, true, true, true, true, true, true, true, true, true, false, false, false] rfl rfl (take_ofW HT_.out HW_.out (by kernel_rfl)) (fun _ _ _ h => h) (Or.inl ⟨by rfl, ?_⟩) hHeld ?_ ?_
                  rotate_left
                  · rintro w' ⟨s0, s1, s2, s3, s4, s5, s6, s7, s8, s9, s10, s11, s12, s13, s14, s15, s16, s17, s18, s19⟩
                    go_simp
                    with_reducible rfl
                  rotate_left
                  · simp only [Act.put, List.setIfInBounds_toArray, List.set_cons_zero, List.set_cons_succ, i64_w, i32_w]
                    rfl
                  refine one_ (i := 22) (N := some 45) #[true, true, true, true, true, true, true, true, true, true, true, true, true, true, true, true, true, true, true, true, true, true, true, false, false] rfl rfl (one_of HT_.out (by kernel_rfl)) (by decide) (fun K hK => ?_)
                  refine goes_ Try.func13 (by kernel_rfl) rfl #[.agg #[.int .i64 ((rd_T38 t348 x7_1).f1.f0), .string ((rd_T38 t348 x7_1).f1.f1), .slice A354_3 ((rd_T38 t348 x7_1).f1.f2).length c354_3, .slice A354_4 ((rd_T38 t348 x7_1).f1.f3).length c354_4], .agg #[.int .i64 ((rd_T38 t351 x7_1).f1.f0), .string ((rd_T38 t351 x7_1).f1.f1), .slice A355_3 ((rd_T38 t351 x7_1).f1.f2).length c355_3, .slice A355_4 ((rd_T38 t351 x7_1).f1.f3).length c355_4]] (by rfl) rfl rfl (by (try simp only [List.map_toArray, List.map_cons, List.map_nil]); first | done | rfl | (simp only [List.length_drop, List.length_take]; rfl)) ?_
                  with_reducible refine (phalaroperef08_Very.calls k1 ((rd_T38 t348 x7_1).f1.f0) ((rd_T38 t348 x7_1).f1.f1) _ _ ((rd_T38 t348 x7_1).f1.f2) _ _ ((rd_T38 t348 x7_1).f1.f3) ((rd_T38 t351 x7_1).f1.f0) ((rd_T38 t351 x7_1).f1.f1) _ _ ((rd_T38 t351 x7_1).f1.f2) _ _ ((rd_T38 t351 x7_1).f1.f3) false _ ?side1 ?side2 ?side3 ?side4 ?side5 ?side6 ?side7 ?side8 A14.out).mono ?_
                  (case side1 => repeat (first | exact (by repeat (first | (with_reducible exact HR356_3.out) | (with_reducible refine Kd.C_alloc ?_ _) | (with_reducible refine Kd.C_drewN ?_ _) | (with_reducible refine Kd.C_drew ?_) | exact HR356_3.out)) | (with_reducible refine Kd.C_alloc ?_ _) | (with_reducible refine Kd.C_drewN ?_ _) | (with_reducible refine Kd.C_drew ?_)))
                  (case side2 => exact HC356_3.out)
                  (case side3 => repeat (first | exact (by repeat (first | (with_reducible exact HR356_4.out) | (with_reducible refine Kd.C_alloc ?_ _) | (with_reducible refine Kd.C_drewN ?_ _) | (with_reducible refine Kd.C_drew ?_) | exact HR356_4.out)) | (with_reducible refine Kd.C_alloc ?_ _) | (with_reducible refine Kd.C_drewN ?_ _) | (with_reducible refine Kd.C_drew ?_)))
                  (case side4 => exact HC356_4.out)
                  (case side5 => repeat (first | exact (by repeat (first | (with_reducible exact HR357_3.out) | (with_reducible refine Kd.C_alloc ?_ _) | (with_reducible refine Kd.C_drewN ?_ _) | (with_reducible refine Kd.C_drew ?_) | exact HR357_3.out)) | (with_reducible refine Kd.C_alloc ?_ _) | (with_reducible refine Kd.C_drewN ?_ _) | (with_reducible refine Kd.C_drew ?_)))
                  (case side6 => exact HC357_3.out)
                  (case side7 => repeat (first | exact (by repeat (first | (with_reducible exact HR357_4.out) | (with_reducible refine Kd.C_alloc ?_ _) | (with_reducible refine Kd.C_drewN ?_ _) | (with_reducible refine Kd.C_drew ?_) | exact HR357_4.out)) | (with_reducible refine Kd.C_alloc ?_ _) | (with_reducible refine Kd.C_drewN ?_ _) | (with_reducible refine Kd.C_drew ?_)))
                  (case side8 => exact HC357_4.out)
                  rintro e w19 ⟨rfl, hb⟩
                  have HS0_ := (hb.cell (World.block_lt_of_cell? _ _ (hHeld.1))).trans (hHeld.1)
                  have HS1_ := (hb.cell (World.block_lt_of_cell? _ _ (hHeld.2.1))).trans (hHeld.2.1)
                  have HS2_ := (hb.cell (World.block_lt_of_cell? _ _ (hHeld.2.2.1))).trans (hHeld.2.2.1)
                  have HS3_ := (hb.cell (World.block_lt_of_cell? _ _ (hHeld.2.2.2.1))).trans (hHeld.2.2.2.1)
                  have HS4_ := (hb.cell (World.block_lt_of_cell? _ _ (hHeld.2.2.2.2.1))).trans (hHeld.2.2.2.2.1)
                  have HS5_ := (hb.cell (World.block_lt_of_cell? _ _ (hHeld.2.2.2.2.2.1))).trans (hHeld.2.2.2.2.2.1)
                  have HS6_ := (hb.cell (World.block_lt_of_cell? _ _ (hHeld.2.2.2.2.2.2.1))).trans (hHeld.2.2.2.2.2.2.1)
                  have HS7_ := (hb.cell (World.block_lt_of_cell? _ _ (hHeld.2.2.2.2.2.2.2.1))).trans (hHeld.2.2.2.2.2.2.2.1)
                  have HS8_ := (hb.cell (World.block_lt_of_cell? _ _ (hHeld.2.2.2.2.2.2.2.2.1))).trans (hHeld.2.2.2.2.2.2.2.2.1)
                  have HS9_ := (hb.cell (World.block_lt_of_cell? _ _ (hHeld.2.2.2.2.2.2.2.2.2.1))).trans (hHeld.2.2.2.2.2.2.2.2.2.1)
                  have HS10_ := (hb.cell (World.block_lt_of_cell? _ _ (hHeld.2.2.2.2.2.2.2.2.2.2.1))).trans (hHeld.2.2.2.2.2.2.2.2.2.2.1)
                  have HS11_ := (hb.cell (World.block_lt_of_cell? _ _ (hHeld.2.2.2.2.2.2.2.2.2.2.2.1))).trans (hHeld.2.2.2.2.2.2.2.2.2.2.2.1)
                  have HS12_ := (hb.cell (World.block_lt_of_cell? _ _ (hHeld.2.2.2.2.2.2.2.2.2.2.2.2.1))).trans (hHeld.2.2.2.2.2.2.2.2.2.2.2.2.1)
                  have HS13_ := (hb.cell (World.block_lt_of_cell? _ _ (hHeld.2.2.2.2.2.2.2.2.2.2.2.2.2.1))).trans (hHeld.2.2.2.2.2.2.2.2.2.2.2.2.2.1)
                  have HS14_ := (hb.cell (World.block_lt_of_cell? _ _ (hHeld.2.2.2.2.2.2.2.2.2.2.2.2.2.2.1))).trans (hHeld.2.2.2.2.2.2.2.2.2.2.2.2.2.2.1)
                  have HS15_ := (hb.cell (World.block_lt_of_cell? _ _ (hHeld.2.2.2.2.2.2.2.2.2.2.2.2.2.2.2.1))).trans (hHeld.2.2.2.2.2.2.2.2.2.2.2.2.2.2.2.1)
                  have HS16_ := (hb.cell (World.block_lt_of_cell? _ _ (hHeld.2.2.2.2.2.2.2.2.2.2.2.2.2.2.2.2.1))).trans (hHeld.2.2.2.2.2.2.2.2.2.2.2.2.2.2.2.2.1)
                  have HS17_ := (hb.cell (World.block_lt_of_cell? _ _ (hHeld.2.2.2.2.2.2.2.2.2.2.2.2.2.2.2.2.2.1))).trans (hHeld.2.2.2.2.2.2.2.2.2.2.2.2.2.2.2.2.2.1)
                  have HS18_ := (hb.cell (World.block_lt_of_cell? _ _ (hHeld.2.2.2.2.2.2.2.2.2.2.2.2.2.2.2.2.2.2.1))).trans (hHeld.2.2.2.2.2.2.2.2.2.2.2.2.2.2.2.2.2.2.1)
                  have HS19_ := (hb.cell (World.block_lt_of_cell? _ _ (hHeld.2.2.2.2.2.2.2.2.2.2.2.2.2.2.2.2.2.2.2))).trans (hHeld.2.2.2.2.2.2.2.2.2.2.2.2.2.2.2.2.2.2.2)
                  refine ⟨_, rfl, ?_⟩
                  have n0_ := Aside0.mk (Kd.R_below (by (with_reducible repeat (first | apply Kd.R_alloc | apply Kd.R_drewN | apply Kd.R_drew)); exact HO_5.out) hb)
                  have n1_ := Aside0.mk (Kd.R_below (by (with_reducible repeat (first | apply Kd.R_alloc | apply Kd.R_drewN | apply Kd.R_drew)); exact HO_6.out) hb)
                  have n2_ := Aside0.mk (Kd.R_below (by (with_reducible repeat (first | apply Kd.R_alloc | apply Kd.R_drewN | apply Kd.R_drew)); exact HL354_3.out) hb)
                  have n3_ := Aside0.mk (Kd.R_below (by (with_reducible repeat (first | apply Kd.R_alloc | apply Kd.R_drewN | apply Kd.R_drew)); exact HL354_4.out) hb)
                  have n4_ := Aside0.mk (Kd.R_below (by (with_reducible repeat (first | apply Kd.R_alloc | apply Kd.R_drewN | apply Kd.R_drew)); exact HL355_3.out) hb)
                  have n5_ := Aside0.mk (Kd.R_below (by (with_reducible repeat (first | apply Kd.R_alloc | apply Kd.R_drewN | apply Kd.R_drew)); exact HL355_4.out) hb)
                  have n6_ := Aside0.mk (Kd.R_below (by (with_reducible repeat (first | apply Kd.R_alloc | apply Kd.R_drewN | apply Kd.R_drew)); exact HL356_3.out) hb)
                  have n7_ := Aside0.mk (Kd.R_below (by (with_reducible repeat (first | apply Kd.R_alloc | apply Kd.R_drewN | apply Kd.R_drew)); exact HL356_4.out) hb)
                  have n8_ := Aside0.mk (Kd.R_below (by (with_reducible repeat (first | apply Kd.R_alloc | apply Kd.R_drewN | apply Kd.R_drew)); exact HL357_3.out) hb)
                  have n9_ := Aside0.mk (Kd.R_below (by (with_reducible repeat (first | apply Kd.R_alloc | apply Kd.R_drewN | apply Kd.R_drew)); exact HL357_4.out) hb)
                  have n10_ := Aside0.mk (Kd.C_below (by repeat (first | (with_reducible exact HR354_3.out) | (with_reducible refine Kd.C_alloc ?_ _) | (with_reducible refine Kd.C_drewN ?_ _) | (with_reducible refine Kd.C_drew ?_) | exact HR354_3.out)) hb)
                  have n11_ := Aside0.mk (Kd.C_below (by repeat (first | (with_reducible exact HR354_4.out) | (with_reducible refine Kd.C_alloc ?_ _) | (with_reducible refine Kd.C_drewN ?_ _) | (with_reducible refine Kd.C_drew ?_) | exact HR354_4.out)) hb)
                  have n12_ := Aside0.mk (Kd.C_below (by repeat (first | (with_reducible exact HR355_3.out) | (with_reducible refine Kd.C_alloc ?_ _) | (with_reducible refine Kd.C_drewN ?_ _) | (with_reducible refine Kd.C_drew ?_) | exact HR355_3.out)) hb)
                  have n13_ := Aside0.mk (Kd.C_below (by repeat (first | (with_reducible exact HR355_4.out) | (with_reducible refine Kd.C_alloc ?_ _) | (with_reducible refine Kd.C_drewN ?_ _) | (with_reducible refine Kd.C_drew ?_) | exact HR355_4.out)) hb)
                  have n14_ := Aside0.mk (Kd.C_below (by repeat (first | (with_reducible exact HR356_3.out) | (with_reducible refine Kd.C_alloc ?_ _) | (with_reducible refine Kd.C_drewN ?_ _) | (with_reducible refine Kd.C_drew ?_) | exact HR356_3.out)) hb)
                  have n15_ := Aside0.mk (Kd.C_below (by repeat (first | (with_reducible exact HR356_4.out) | (with_reducible refine Kd.C_alloc ?_ _) | (with_reducible refine Kd.C_drewN ?_ _) | (with_reducible refine Kd.C_drew ?_) | exact HR356_4.out)) hb)
                  have n16_ := Aside0.mk (Kd.C_below (by repeat (first | (with_reducible exact HR357_3.out) | (with_reducible refine Kd.C_alloc ?_ _) | (with_reducible refine Kd.C_drewN ?_ _) | (with_reducible refine Kd.C_drew ?_) | exact HR357_3.out)) hb)
                  have n17_ := Aside0.mk (Kd.C_below (by repeat (first | (with_reducible exact HR357_4.out) | (with_reducible refine Kd.C_alloc ?_ _) | (with_reducible refine Kd.C_drewN ?_ _) | (with_reducible refine Kd.C_drew ?_) | exact HR357_4.out)) hb)
                  have n18_ := Aside0.mk (below_step (by repeat (first | (with_reducible first | exact HB.out | apply below_alloc | apply pw_below_drewN | apply below_drew1) | exact HB.out)) hb)
                  clear HO_5
                  clear HO_6
                  clear HL354_3
                  clear HL354_4
                  clear HL355_3
                  clear HL355_4
                  clear HL356_3
                  clear HL356_4
                  clear HL357_3
                  clear HL357_4
                  clear HR354_3
                  clear HR354_4
                  clear HR355_3
                  clear HR355_4
                  clear HR356_3
                  clear HR356_4
                  clear HR357_3
                  clear HR357_4
                  clear HB
                  have HO_5 := n0_
                  have HO_6 := n1_
                  have HL354_3 := n2_
                  have HL354_4 := n3_
                  have HL355_3 := n4_
                  have HL355_4 := n5_
                  have HL356_3 := n6_
                  have HL356_4 := n7_
                  have HL357_3 := n8_
                  have HL357_4 := n9_
                  have HR354_3 := n10_
                  have HR354_4 := n11_
                  have HR355_3 := n12_
                  have HR355_4 := n13_
                  have HR356_3 := n14_
                  have HR356_4 := n15_
                  have HR357_3 := n16_
                  have HR357_4 := n17_
                  have HB := n18_
                  clear n0_ n1_ n2_ n3_ n4_ n5_ n6_ n7_ n8_ n9_ n10_ n11_ n12_ n13_ n14_ n15_ n16_ n17_ n18_
                  (try clear hb)
                  (try clear hb2)
                  (try clear hk)
                  (try clear hi)
                  refine hK.out _ _ ⟨HS0_, HS1_, HS2_, HS3_, HS4_, HS5_, HS6_, HS7_, HS8_, HS9_, HS10_, HS11_, HS12_, HS13_, HS14_, HS15_, HS16_, HS17_, HS18_, HS19_⟩ (fun hHeld => ?_)
                  clear hK K
                  refine norm_ (a' := ?_) ?_ ?_
                  rotate_left
                  · show Act.put _ (some 45) _ = _
                    simp only [Act.put, List.setIfInBounds_toArray, List.set_cons_zero, List.set_cons_succ, i64_w, i32_w]
                    rfl
                  refine pure_ (i := 23) (N := some 46) (v := ?_) (a' := ?_) #[true, true, true, true, true, true, true, true, true, true, true, true, true, true, true, true, true, true, true, true, true, true, true, true, false] rfl rfl (any_of HT_.out (by kernel_rfl)) (fun _ _ _ h => h) (Or.inl ⟨by rfl, ?_⟩) ?_ ?_
                  rotate_left
                  · intro w'
                    go_simp
                    with_reducible rfl
                  rotate_left
                  · simp only [Act.put, List.setIfInBounds_toArray, List.set_cons_zero, List.set_cons_succ, i64_w, i32_w]
                    rfl
                  refine pure_ (i := 24) (N := some 47) (v := ?_) (a' := ?_) #[true, true, true, true, true, true, true, true, true, true, true, true, true, true, true, true, true, true, true, true, true, true, true, true, true] rfl rfl (any_of HT_.out (by kernel_rfl)) (fun _ _ _ h => h) (Or.inl ⟨by rfl, ?_⟩) ?_ ?_
                  rotate_left
                  · intro w'
                    go_simp
                    with_reducible rfl
                  rotate_left
                  · simp only [Act.put, List.setIfInBounds_toArray, List.set_cons_zero, List.set_cons_succ, i64_w, i32_w]
                    rfl
                  refine done_ (done_of HT_.out (by kernel_rfl)) ?_
                  try go_wp2
                  go_ret
                  exact ⟨by first | rfl | (simp [errW_none, errW_some] <;> rfl) | (simp [*, errW_none, errW_some] <;> rfl), by repeat (first | (with_reducible first | exact HB.out | apply below_alloc | apply pw_below_drewN | apply below_drew1) | exact HB.out)⟩
              · rw [if_neg c13] at H
                have c13b0 : (((rd_T38 t348 x7_1).f0).toList == ((rd_T38 t351 x7_1).f0).toList) = false := beq_eq_false_iff_ne.mpr c13
                have c13b1 : (((rd_T38 t348 x7_1).f0).toList != ((rd_T38 t351 x7_1).f0).toList) = true := bne_iff_ne.mpr c13
                obtain rfl := Option.some.inj H
                try go_wp2
                have n0_ := Aside0.mk (Kd.R_drew HO_5.out)
                have n1_ := Aside0.mk (Kd.R_drew HO_6.out)
                have n2_ := Aside0.mk (below_drew1 HB.out)
                clear HO_5
                clear HO_6
                clear HB
                have HO_5 := n0_
                have HO_6 := n1_
                have HB := n2_
                clear n0_ n1_ n2_
                have p354 : 0 ≤ (x7_1 : Int) := of_decide_eq_true (by first | (with_reducible assumption) | assumption)
                have q354 : x7_1 < (t348.length : Int) := of_decide_eq_true (by first | (with_reducible assumption) | assumption)
                obtain ⟨ad354, A354_3, c354_3, A354_4, c354_4, e354, hx354_0, hx354_1, hx354_2, hx354_3, hx354_4, hl354_3, hi354_3, hl354_4, hi354_4⟩ := at_T38 (Kd.R_reads' HO_5.out).2.2 x7_1 p354 q354
                cases e354
                obtain ⟨ce354, hce354, hMe354, hcc354⟩ := Kd.R_get HO_5.out z38 x7_1 p354 (by first | exact q354 | exact of_decide_eq_true (by first | (with_reducible assumption) | assumption) | (have e_ := (Kd.R_reads' HO_5.out).1; omega))
                obtain ⟨ve354_3, ve354_4, rfl, ge354_3, ge354_4⟩ := k38_openM hMe354
                have hv354_3 := hcc354 3 _ rfl
                rw [add_field _ _ 3 (by omega)] at hv354_3
                replace hv354_3 := Option.some.inj (hv354_3.symm.trans hx354_3)
                rw [hv354_3] at ge354_3
                have HL354_3 := Aside0.mk (show Kd.R Kd.string 9 _ _ _ _ ((rd_T38 t348 x7_1).f1.f2) from ge354_3)
                clear hv354_3 ge354_3
                have hv354_4 := hcc354 4 _ rfl
                rw [add_field _ _ 4 (by omega)] at hv354_4
                replace hv354_4 := Option.some.inj (hv354_4.symm.trans hx354_4)
                rw [hv354_4] at ge354_4
                have HL354_4 := Aside0.mk (show Kd.R k50 50 _ _ _ _ ((rd_T38 t348 x7_1).f1.f3) from ge354_4)
                clear hv354_4 ge354_4
                clear hcc354 hce354
                have HR354_3 := Aside0.mk hi354_3
                have HC354_3 := Aside0.mk hl354_3
                clear hi354_3 hl354_3
                have HR354_4 := Aside0.mk hi354_4
                have HC354_4 := Aside0.mk hl354_4
                clear hi354_4 hl354_4
                replace p354 := eq_true p354
                replace q354 := eq_true q354
                have p355 : 0 ≤ (x7_1 : Int) := of_decide_eq_true (by first | (with_reducible assumption) | assumption)
                have q355 : x7_1 < (t351.length : Int) := of_decide_eq_true (by first | (with_reducible assumption) | assumption)
                obtain ⟨ad355, A355_3, c355_3, A355_4, c355_4, e355, hx355_0, hx355_1, hx355_2, hx355_3, hx355_4, hl355_3, hi355_3, hl355_4, hi355_4⟩ := at_T38 (Kd.R_reads' HO_6.out).2.2 x7_1 p355 q355
                cases e355
                obtain ⟨ce355, hce355, hMe355, hcc355⟩ := Kd.R_get HO_6.out z38 x7_1 p355 (by first | exact q355 | exact of_decide_eq_true (by first | (with_reducible assumption) | assumption) | (have e_ := (Kd.R_reads' HO_6.out).1; omega))
                obtain ⟨ve355_3, ve355_4, rfl, ge355_3, ge355_4⟩ := k38_openM hMe355
                have hv355_3 := hcc355 3 _ rfl
                rw [add_field _ _ 3 (by omega)] at hv355_3
                replace hv355_3 := Option.some.inj (hv355_3.symm.trans hx355_3)
                rw [hv355_3] at ge355_3
                have HL355_3 := Aside0.mk (show Kd.R Kd.string 9 _ _ _ _ ((rd_T38 t351 x7_1).f1.f2) from ge355_3)
                clear hv355_3 ge355_3
                have hv355_4 := hcc355 4 _ rfl
                rw [add_field _ _ 4 (by omega)] at hv355_4
                replace hv355_4 := Option.some.inj (hv355_4.symm.trans hx355_4)
                rw [hv355_4] at ge355_4
                have HL355_4 := Aside0.mk (show Kd.R k50 50 _ _ _ _ ((rd_T38 t351 x7_1).f1.f3) from ge355_4)
                clear hv355_4 ge355_4
                clear hcc355 hce355
                have HR355_3 := Aside0.mk hi355_3
                have HC355_3 := Aside0.mk hl355_3
                clear hi355_3 hl355_3
                have HR355_4 := Aside0.mk hi355_4
                have HC355_4 := Aside0.mk hl355_4
                clear hi355_4 hl355_4
                replace p355 := eq_true p355
                replace q355 := eq_true q355
                refine start_ (n := 25) (S := fun w' => w'.cell? (ad354.add ((x7_1).toNat * 5)) = some (.string ((rd_T38 t348 x7_1).f0)) ∧ w'.cell? ⟨(ad354.add ((x7_1).toNat * 5)).block, (ad354.add ((x7_1).toNat * 5)).off + 1, none⟩ = some (.int .i64 ((rd_T38 t348 x7_1).f1.f0)) ∧ w'.cell? ⟨(ad354.add ((x7_1).toNat * 5)).block, (ad354.add ((x7_1).toNat * 5)).off + 2, none⟩ = some (.string ((rd_T38 t348 x7_1).f1.f1)) ∧ w'.cell? ⟨(ad354.add ((x7_1).toNat * 5)).block, (ad354.add ((x7_1).toNat * 5)).off + 3, none⟩ = some (.slice A354_3 ((rd_T38 t348 x7_1).f1.f2).length c354_3) ∧ w'.cell? ⟨(ad354.add ((x7_1).toNat * 5)).block, (ad354.add ((x7_1).toNat * 5)).off + 4, none⟩ = some (.slice A354_4 ((rd_T38 t348 x7_1).f1.f3).length c354_4) ∧ w'.cell? (ad355.add ((x7_1).toNat * 5)) = some (.string ((rd_T38 t351 x7_1).f0)) ∧ w'.cell? ⟨(ad355.add ((x7_1).toNat * 5)).block, (ad355.add ((x7_1).toNat * 5)).off + 1, none⟩ = some (.int .i64 ((rd_T38 t351 x7_1).f1.f0)) ∧ w'.cell? ⟨(ad355.add ((x7_1).toNat * 5)).block, (ad355.add ((x7_1).toNat * 5)).off + 2, none⟩ = some (.string ((rd_T38 t351 x7_1).f1.f1)) ∧ w'.cell? ⟨(ad355.add ((x7_1).toNat * 5)).block, (ad355.add ((x7_1).toNat * 5)).off + 3, none⟩ = some (.slice A355_3 ((rd_T38 t351 x7_1).f1.f2).length c355_3) ∧ w'.cell? ⟨(ad355.add ((x7_1).toNat * 5)).block, (ad355.add ((x7_1).toNat * 5)).off + 4, none⟩ = some (.slice A355_4 ((rd_T38 t351 x7_1).f1.f3).length c355_4)) (ds := []) #[false, false, false, false, false, false, false, false, false, false, false, false, false, false, false, false, false, false, false, false, false, false, false, false, false] (by kernel_rfl) rfl rfl ⟨hx354_0, hx354_1, hx354_2, hx354_3, hx354_4, hx355_0, hx355_1, hx355_2, hx355_3, hx355_4⟩ (fun hHeld => ?_); refine with_tabW phalaroperef09_Same.tab8 phalaroperef09_Same.bits8 (fun HT_ HW_ => ?_)
                generalize wr.drew = w20 at HO_5 HO_6 HB HL354_3 HL354_4 HL355_3 HL355_4 HR354_3 HR354_4 HR355_3 HR355_4 hx354_0 hx354_1 hx354_2 hx354_3 hx354_4 hx355_0 hx355_1 hx355_2 hx355_3 hx355_4 hHeld ⊢
                refine pure_ (i := 0) (N := some 23) (v := ?_) (a' := ?_) #[true, false, false, false, false, false, false, false, false, false, false, false, false, false, false, false, false, false, false, false, false, false, false, false, false] rfl rfl (any_of HT_.out (by kernel_rfl)) (fun _ _ _ h => h) (Or.inl ⟨by rfl, ?_⟩) ?_ ?_
                rotate_left
                · intro w'
                  go_simp
                  with_reducible rfl
                rotate_left
                · simp only [Act.put, List.setIfInBounds_toArray, List.set_cons_zero, List.set_cons_succ, i64_w, i32_w]
                  rfl
                refine pure_ (i := 1) (N := some 24) (v := ?_) (a' := ?_) #[true, true, false, false, false, false, false, false, false, false, false, false, false, false, false, false, false, false, false, false, false, false, false, false, false] rfl rfl (any_of HT_.out (by kernel_rfl)) (fun _ _ _ h => h) (Or.inl ⟨by rfl, ?_⟩) ?_ ?_
                rotate_left
                · intro w'
                  go_simp
                  with_reducible rfl
                rotate_left
                · simp only [Act.put, List.setIfInBounds_toArray, List.set_cons_zero, List.set_cons_succ, i64_w, i32_w]
                  rfl
                refine pure_ (i := 2) (N := some 25) (v := ?_) (a' := ?_) #[true, true, true, false, false, false, false, false, false, false, false, false, false, false, false, false, false, false, false, false, false, false, false, false, false] rfl rfl (any_of HT_.out (by kernel_rfl)) (fun _ _ _ h => h) (Or.inl ⟨by rfl, ?_⟩) ?_ ?_
                rotate_left
                · intro w'
                  go_simp
                  with_reducible rfl
                rotate_left
                · simp only [Act.put, List.setIfInBounds_toArray, List.set_cons_zero, List.set_cons_succ, i64_w, i32_w]
                  rfl
                refine pure_ (i := 3) (N := some 26) (v := ?_) (a' := ?_) #[true, true, true, true, false, false, false, false, false, false, false, false, false, false, false, false, false, false, false, false, false, false, false, false, false] rfl rfl (any_of HT_.out (by kernel_rfl)) (fun _ _ _ h => h) (Or.inl ⟨by rfl, ?_⟩) ?_ ?_
                rotate_left
                · intro w'
                  go_simp
                  with_reducible rfl
                rotate_left
                · simp only [Act.put, List.setIfInBounds_toArray, List.set_cons_zero, List.set_cons_succ, i64_w, i32_w]
                  rfl
                refine pure_ (i := 5) (N := some 28) (v := ?_) (a' := ?_) #[true, true, true, true, false, true, false, false, false, false, false, false, false, false, false, false, false, false, false, false, false, false, false, false, false] rfl rfl (any_of HT_.out (by kernel_rfl)) (fun _ _ _ h => h) (Or.inl ⟨by rfl, ?_⟩) ?_ ?_
                rotate_left
                · intro w'
                  go_simp
                  with_reducible rfl
                rotate_left
                · simp only [Act.put, List.setIfInBounds_toArray, List.set_cons_zero, List.set_cons_succ, i64_w, i32_w]
                  rfl
                refine pure_ (i := 6) (N := some 29) (v := ?_) (a' := ?_) #[true, true, true, true, false, true, true, false, false, false, false, false, false, false, false, false, false, false, false, false, false, false, false, false, false] rfl rfl (any_of HT_.out (by kernel_rfl)) (fun _ _ _ h => h) (Or.inl ⟨by rfl, ?_⟩) ?_ ?_
                rotate_left
                · intro w'
                  go_simp
                  with_reducible rfl
                rotate_left
                · simp only [Act.put, List.setIfInBounds_toArray, List.set_cons_zero, List.set_cons_succ, i64_w, i32_w]
                  rfl
                refine pure_ (i := 7) (N := some 30) (v := ?_) (a' := ?_) #[true, true, true, true, false, true, true, true, false, false, false, false, false, false, false, false, false, false, false, false, false, false, false, false, false] rfl rfl (any_of HT_.out (by kernel_rfl)) (fun _ _ _ h => h) (Or.inl ⟨by rfl, ?_⟩) ?_ ?_
                rotate_left
                · intro w'
                  go_simp
                  with_reducible rfl
                rotate_left
                · simp only [Act.put, List.setIfInBounds_toArray, List.set_cons_zero, List.set_cons_succ, i64_w, i32_w]
                  rfl
                refine pure_ (i := 8) (N := some 31) (v := ?_) (a' := ?_) #[true, true, true, true, false, true, true, true, true, false, false, false, false, false, false, false, false, false, false, false, false, false, false, false, false] rfl rfl (any_of HT_.out (by kernel_rfl)) (fun _ _ _ h => h) (Or.inl ⟨by rfl, ?_⟩) ?_ ?_
                rotate_left
                · intro w'
                  go_simp
                  with_reducible rfl
                rotate_left
                · simp only [Act.put, List.setIfInBounds_toArray, List.set_cons_zero, List.set_cons_succ, i64_w, i32_w]
                  rfl
                refine take_ (i := 4) (N := some 27) (v := ?_) (a' := ?_) #[true, true, true, true, true, true, true, true, true, false, false, false, false, false, false, false, false, false, false, false, false, false, false, false, false] rfl rfl (take_ofW HT_.out HW_.out (by kernel_rfl)) (fun _ _ _ h => h) (Or.inl ⟨by rfl, ?_⟩) hHeld ?_ ?_
                rotate_left
                · rintro w' ⟨s0, s1, s2, s3, s4, s5, s6, s7, s8, s9⟩
                  go_simp
                  with_reducible rfl
                rotate_left
                · simp only [Act.put, List.setIfInBounds_toArray, List.set_cons_zero, List.set_cons_succ, i64_w, i32_w]
                  rfl
                refine take_ (i := 9) (N := some 32) (v := ?_) (a' := ?_) #[true, true, true, true, true, true, true, true, true, true, false, false, false, false, false, false, false, false, false, false, false, false, false, false, false] rfl rfl (take_ofW HT_.out HW_.out (by kernel_rfl)) (fun _ _ _ h => h) (Or.inl ⟨by rfl, ?_⟩) hHeld ?_ ?_
                rotate_left
                · rintro w' ⟨s0, s1, s2, s3, s4, s5, s6, s7, s8, s9⟩
                  go_simp
                  with_reducible rfl
                rotate_left
                · simp only [Act.put, List.setIfInBounds_toArray, List.set_cons_zero, List.set_cons_succ, i64_w, i32_w]
                  rfl
                refine pure_ (i := 10) (N := some 33) (v := ?_) (a' := ?_) #[true, true, true, true, true, true, true, true, true, true, true, false, false, false, false, false, false, false, false, false, false, false, false, false, false] rfl rfl (any_of HT_.out (by kernel_rfl)) (fun _ _ _ h => h) (Or.inl ⟨by rfl, ?_⟩) ?_ ?_
                rotate_left
                · intro w'
                  go_simp
                  with_reducible rfl
                rotate_left
                · simp only [Act.put, List.setIfInBounds_toArray, List.set_cons_zero, List.set_cons_succ, i64_w, i32_w]
                  rfl
                refine pure_ (i := 11) (N := some 34) (v := ?_) (a' := ?_) #[true, true, true, true, true, true, true, true, true, true, true, true, false, false, false, false, false, false, false, false, false, false, false, false, false] rfl rfl (any_of HT_.out (by kernel_rfl)) (fun _ _ _ h => h) (Or.inl ⟨by rfl, ?_⟩) ?_ ?_
                rotate_left
                · intro w'
                  go_simp
                  with_reducible rfl
                rotate_left
                · simp only [Act.put, List.setIfInBounds_toArray, List.set_cons_zero, List.set_cons_succ, i64_w, i32_w]
                  rfl
                refine pure_ (i := 12) (N := some 35) (v := undef) (a' := ?_) #[true, true, true, true, true, true, true, true, true, true, true, true, true, false, false, false, false, false, false, false, false, false, false, false, false] rfl rfl (any_of HT_.out (by kernel_rfl)) (fun _ _ _ h => h) (Or.inr ⟨by rfl, rfl⟩) ?_ ?_
                rotate_left
                · simp only [Act.put, List.setIfInBounds_toArray, List.set_cons_zero, List.set_cons_succ, i64_w, i32_w]
                  rfl
                refine pure_ (i := 13) (N := some 36) (v := undef) (a' := ?_) #[true, true, true, true, true, true, true, true, true, true, true, true, true, true, false, false, false, false, false, false, false, false, false, false, false] rfl rfl (any_of HT_.out (by kernel_rfl)) (fun _ _ _ h => h) (Or.inr ⟨by rfl, rfl⟩) ?_ ?_
                rotate_left
                · simp only [Act.put, List.setIfInBounds_toArray, List.set_cons_zero, List.set_cons_succ, i64_w, i32_w]
                  rfl
                refine pure_ (i := 14) (N := some 37) (v := undef) (a' := ?_) #[true, true, true, true, true, true, true, true, true, true, true, true, true, true, true, false, false, false, false, false, false, false, false, false, false] rfl rfl (any_of HT_.out (by kernel_rfl)) (fun _ _ _ h => h) (Or.inr ⟨by rfl, rfl⟩) ?_ ?_
                rotate_left
                · simp only [Act.put, List.setIfInBounds_toArray, List.set_cons_zero, List.set_cons_succ, i64_w, i32_w]
                  rfl
                refine pure_ (i := 15) (N := some 38) (v := undef) (a' := ?_) #[true, true, true, true, true, true, true, true, true, true, true, true, true, true, true, true, false, false, false, false, false, false, false, false, false] rfl rfl (any_of HT_.out (by kernel_rfl)) (fun _ _ _ h => h) (Or.inr ⟨by rfl, rfl⟩) ?_ ?_
                rotate_left
                · simp only [Act.put, List.setIfInBounds_toArray, List.set_cons_zero, List.set_cons_succ, i64_w, i32_w]
                  rfl
                refine pure_ (i := 16) (N := some 39) (v := undef) (a' := ?_) #[true, true, true, true, true, true, true, true, true, true, true, true, true, true, true, true, true, false, false, false, false, false, false, false, false] rfl rfl (any_of HT_.out (by kernel_rfl)) (fun _ _ _ h => h) (Or.inr ⟨by rfl, rfl⟩) ?_ ?_
                rotate_left
                · simp only [Act.put, List.setIfInBounds_toArray, List.set_cons_zero, List.set_cons_succ, i64_w, i32_w]
                  rfl
                refine pure_ (i := 17) (N := some 40) (v := undef) (a' := ?_) #[true, true, true, true, true, true, true, true, true, true, true, true, true, true, true, true, true, true, false, false, false, false, false, false, false] rfl rfl (any_of HT_.out (by kernel_rfl)) (fun _ _ _ h => h) (Or.inr ⟨by rfl, rfl⟩) ?_ ?_
                rotate_left
                · simp only [Act.put, List.setIfInBounds_toArray, List.set_cons_zero, List.set_cons_succ, i64_w, i32_w]
                  rfl
                refine pure_ (i := 18) (N := some 41) (v := undef) (a' := ?_) #[true, true, true, true, true, true, true, true, true, true, true, true, true, true, true, true, true, true, true, false, false, false, false, false, false] rfl rfl (any_of HT_.out (by kernel_rfl)) (fun _ _ _ h => h) (Or.inr ⟨by rfl, rfl⟩) ?_ ?_
                rotate_left
                · simp only [Act.put, List.setIfInBounds_toArray, List.set_cons_zero, List.set_cons_succ, i64_w, i32_w]
                  rfl
                refine pure_ (i := 19) (N := some 42) (v := undef) (a' := ?_) #[true, true, true, true, true, true, true, true, true, true, true, true, true, true, true, true, true, true, true, true, false, false, false, false, false] rfl rfl (any_of HT_.out (by kernel_rfl)) (fun _ _ _ h => h) (Or.inr ⟨by rfl, rfl⟩) ?_ ?_
                rotate_left
                · simp only [Act.put, List.setIfInBounds_toArray, List.set_cons_zero, List.set_cons_succ, i64_w, i32_w]
                  rfl
                refine pure_ (i := 20) (N := some 43) (v := undef) (a' := ?_) #[true, true, true, true, true, true, true, true, true, true, true, true, true, true, true, true, true, true, true, true, true, false, false, false, false] rfl rfl (any_of HT_.out (by kernel_rfl)) (fun _ _ _ h => h) (Or.inr ⟨by rfl, rfl⟩) ?_ ?_
                rotate_left
                · simp only [Act.put, List.setIfInBounds_toArray, List.set_cons_zero, List.set_cons_succ, i64_w, i32_w]
                  rfl
                refine pure_ (i := 21) (N := some 44) (v := undef) (a' := ?_) #[true, true, true, true, true, true, true, true, true, true, true, true, true, true, true, true, true, true, true, true, true, true, false, false, false] rfl rfl (any_of HT_.out (by kernel_rfl)) (fun _ _ _ h => h) (Or.inr ⟨by rfl, rfl⟩) ?_ ?_
                rotate_left
                · simp only [Act.put, List.setIfInBounds_toArray, List.set_cons_zero, List.set_cons_succ, i64_w, i32_w]
                  rfl
                refine pure_ (i := 22) (N := some 45) (v := undef) (a' := ?_) #[true, true, true, true, true, true, true, true, true, true, true, true, true, true, true, true, true, true, true, true, true, true, true, false, false] rfl rfl (any_of HT_.out (by kernel_rfl)) (fun _ _ _ h => h) (Or.inr ⟨by rfl, rfl⟩) ?_ ?_
                rotate_left
                · simp only [Act.put, List.setIfInBounds_toArray, List.set_cons_zero, List.set_cons_succ, i64_w, i32_w]
                  rfl
                refine pure_ (i := 23) (N := some 46) (v := undef) (a' := ?_) #[true, true, true, true, true, true, true, true, true, true, true, true, true, true, true, true, true, true, true, true, true, true, true, true, false] rfl rfl (any_of HT_.out (by kernel_rfl)) (fun _ _ _ h => h) (Or.inr ⟨by rfl, rfl⟩) ?_ ?_
                rotate_left
                · simp only [Act.put, List.setIfInBounds_toArray, List.set_cons_zero, List.set_cons_succ, i64_w, i32_w]
                  rfl
                refine pure_ (i := 24) (N := some 47) (v := ?_) (a' := ?_) #[true, true, true, true, true, true, true, true, true, true, true, true, true, true, true, true, true, true, true, true, true, true, true, true, true] rfl rfl (any_of HT_.out (by kernel_rfl)) (fun _ _ _ h => h) (Or.inl ⟨by rfl, ?_⟩) ?_ ?_
                rotate_left
                · intro w'
                  go_simp
                  with_reducible rfl
                rotate_left
                · simp only [Act.put, List.setIfInBounds_toArray, List.set_cons_zero, List.set_cons_succ, i64_w, i32_w]
                  rfl
                refine done_ (done_of HT_.out (by kernel_rfl)) ?_
                try go_wp2
                go_ret
                exact ⟨by first | rfl | (simp [errW_none, errW_some] <;> rfl) | (simp [*, errW_none, errW_some] <;> rfl), by repeat (first | (with_reducible first | exact HB.out | apply below_alloc | apply pw_below_drewN | apply below_drew1) | exact HB.out)⟩
            · rw [if_neg c12] at H
              exact absurd H (by simp)
          · rw [if_neg c11] at H
            exact absurd H (by simp)
        · rw [if_neg c10] at H
          have c10b0 : decide (x7_1 < (t348.length : Int)) = false := decide_eq_false c10
          clear c10
          obtain rfl := Option.some.inj H
          go_wp2
          go_ret
          exact ⟨by first | rfl | (simp [errW_none, errW_some] <;> rfl) | (simp [*, errW_none, errW_some] <;> rfl), by repeat (first | (with_reducible first | exact HB.out | apply below_alloc | apply pw_below_drewN | apply below_drew1) | exact HB.out)⟩
  · rw [if_neg c5] at H
    have c5b0 : ((t348.length : Int) == (t351.length : Int)) = false := beq_eq_false_iff_ne.mpr c5
    have c5b1 : ((t348.length : Int) != (t351.length : Int)) = true := bne_iff_ne.mpr c5
    have c5b2 : (t348.length == t351.length) = false := by first | simpa using c5 | (simp at c5 ⊢; omega)
    obtain rfl := Option.some.inj H
    go_enter Try.func21, Try.ntmps21
    go_wp2_with (first | ((with_reducible refine gate_callee (f := 19) rfl ?_); refine goesL_ (some 9) rfl rfl Try.func19 (by kernel_rfl) rfl #[.slice A0 l0.length c0] rfl (by (try simp only [List.map_toArray, List.map_cons, List.map_nil]); first | done | rfl | (simp only [List.length_drop, List.length_take]; rfl)) ?_; (with_reducible refine (phalaroperef09_Canon.calls k _ _ l0 t348 _ ?side1 ?side2 A3.out).mono ?_); (case side1 => repeat (first | exact HR0.out | (with_reducible refine Kd.C_alloc ?_ _) | (with_reducible refine Kd.C_drewN ?_ _) | (with_reducible refine Kd.C_drew ?_))); (case side2 => exact HC0.out); rintro e w21 ⟨v349, rfl, ho0, hb⟩; refine ⟨_, rfl, ?_⟩; have n0_ := Aside0.mk (Kd.R_lower ho0 (below_size (by repeat (first | (with_reducible first | exact HB.out | apply below_alloc | apply pw_below_drewN | apply below_drew1) | exact HB.out)))); have n1_ := Aside0.mk (below_step (by repeat (first | (with_reducible first | exact HB.out | apply below_alloc | apply pw_below_drewN | apply below_drew1) | exact HB.out)) hb); clear HB; have HO350 := n0_; have HB := n1_; clear n0_ n1_; (try clear hb); (try clear hb2); (try clear hk); (try clear hi); (try clear ho0)) | ((with_reducible refine gate_callee (f := 19) rfl ?_); refine goesL_ (some 11) rfl rfl Try.func19 (by kernel_rfl) rfl #[.slice A1 l1.length c1] rfl (by (try simp only [List.map_toArray, List.map_cons, List.map_nil]); first | done | rfl | (simp only [List.length_drop, List.length_take]; rfl)) ?_; (with_reducible refine (phalaroperef09_Canon.calls k _ _ l1 t351 _ ?side1 ?side2 A4.out).mono ?_); (case side1 => repeat (first | exact (Kd.C_below HR1.out HB.out) | (with_reducible refine Kd.C_alloc ?_ _) | (with_reducible refine Kd.C_drewN ?_ _) | (with_reducible refine Kd.C_drew ?_))); (case side2 => exact HC1.out); rintro e w22 ⟨v352, rfl, ho0, hb⟩; refine ⟨_, rfl, ?_⟩; have n0_ := Aside0.mk (Kd.R_elder' (by (with_reducible repeat (first | apply Kd.R_alloc | apply Kd.R_drewN | apply Kd.R_drew)); exact HO350.out) (Kd.R_base ho0) hb); have n1_ := Aside0.mk (Kd.R_lower (Kd.R_new' ho0 (Kd.R_lt (by (with_reducible repeat (first | apply Kd.R_alloc | apply Kd.R_drewN | apply Kd.R_drew)); exact HO350.out))) (below_size (by repeat (first | (with_reducible first | exact HB.out | apply below_alloc | apply pw_below_drewN | apply below_drew1) | exact HB.out)))); have n2_ := Aside0.mk (below_step (by repeat (first | (with_reducible first | exact HB.out | apply below_alloc | apply pw_below_drewN | apply below_drew1) | exact HB.out)) hb); clear HO350; clear HB; have HO350 := n0_; have HO353 := n1_; have HB := n2_; clear n0_ n1_ n2_; (try clear hb); (try clear hb2); (try clear hk); (try clear hi); (try clear ho0); obtain ⟨Ao23, co23, eo23⟩ := Kd.R_slice HO350.out; subst eo23; obtain ⟨Ao24, co24, eo24⟩ := Kd.R_slice HO353.out; subst eo24))
    go_ret
    exact ⟨by first | rfl | (simp [errW_none, errW_some] <;> rfl) | (simp [*, errW_none, errW_some] <;> rfl), by repeat (first | (with_reducible first | exact HB.out | apply below_alloc | apply pw_below_drewN | apply below_drew1) | exact HB.out)⟩
end Go.Proofs.Ytfaiplbogchgjaa.PA
end
