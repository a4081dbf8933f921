/- Texts of this claim, those that nothing needs left out: PAx16 PAx17 PAx18 Zbb Zaw Zbd Zbg. -/
import Derived.Test.YtfaiplbogchgjaaBdG16
import Derived.Test.YtfaiplbogchgjaaBdG19
import Derived.Test.YtfaiplbogchgjaaBdG17
import Derived.Test.YtfaiplbogchgjaaBdG21
import Derived.Test.YtfaiplbogchgjaaBdG11
import Derived.Test.YtfaiplbogchgjaaBdG20
section
namespace Go.Proofs.Ytfaiplbogchgjaa.PA
open Go.RowKit Go.Proofs.YtfaiplbogchgjaaW.PrintWords Go.Proofs.YtfaiplbogchgjaaW.PrintLast Go.Proofs.YtfaiplbogchgjaaW.PrintMore
attribute [local go_sem] max2_int min2_int max_two min_two max_three min_three max_four min_four   -- for this text's walks alone
set_option linter.unusedVariables false
set_option linter.unusedSimpArgs false
def phalaroperef09_Very.l0 : Nat → List (S38) → List (S38) → Int → Option (Bool)
  | 0, _, _, _ => none
  | k + 1, x0, x1, x5 => if x5 < (x0.length : Int) then (if 0 ≤ x5 then (if x5 < (x1.length : Int) then (if ((rd_T38 x0 x5).f0).toList = ((rd_T38 x1 x5).f0).toList then ((phalaroperef08_Very.f k ((rd_T38 x0 x5).f1.f0) ((rd_T38 x0 x5).f1.f1) ((rd_T38 x0 x5).f1.f2) ((rd_T38 x0 x5).f1.f3) ((rd_T38 x1 x5).f1.f0) ((rd_T38 x1 x5).f1.f1) ((rd_T38 x1 x5).f1.f2) ((rd_T38 x1 x5).f1.f3)).bind fun t329 => (if t329 = true then (phalaroperef09_Very.l0 k x0 x1 (wrap64 (x5 + 1))) else (some false))) else (some false)) else (none)) else (none)) else (some true)
def phalaroperef09_Very.f (k : Nat) (l0 : List (S38)) (l1 : List (S38)) : Option (Bool) := if (l0.length : Int) = (l1.length : Int) then (phalaroperef09_Very.l0 k l0 l1 0) else (some false)
def phalaroperef09_Very.T6 : Bool × List (List Nat × List Nat) := (true, [([], []), ([], []), ([0, 1], [0, 1]), ([2], [2]), ([3], [3]), ([], []), ([], []), ([5, 6], [5, 6]), ([7], [7]), ([8], [8]), ([4, 9], [4, 9]), ([10], [10]), ([11], [11]), ([11], [11]), ([12, 13, 11], [11, 12, 13]), ([14, 11], [11, 14]), ([15, 11], [11, 15]), ([11], [11]), ([11], [11]), ([17, 18, 11], [11, 17, 18]), ([19, 11], [11, 19]), ([20, 11], [11, 20]), ([16, 21, 11, 11], [11, 16, 21]), ([22, 11], [11, 22]), ([11, 23], [11, 23])])
def phalaroperef09_Very.B6 : List Nat := [0, 0, 3, 7, 15, 0, 0, 96, 224, 480, 1023, 2047, 4095, 4095, 16383, 32767, 65535, 4095, 4095, 397311, 921599, 1970175, 4194303, 8388607, 16777215]
theorem phalaroperef09_Very.tab6 : rtab .any (opsOf Try.f17 6) = phalaroperef09_Very.T6 := by kernel_rfl
theorem phalaroperef09_Very.bits6 : waitsOk phalaroperef09_Very.T6.2 phalaroperef09_Very.B6 = true := by kernel_rfl
set_option maxHeartbeats 8000000 in
set_option maxRecDepth 100000 in
theorem phalaroperef09_Very.calls (k : Nat) (A0 : Option Addr) (c0 : Nat) (l0 : List (S38)) (A1 : Option Addr) (c1 : Nat) (l1 : List (S38)) (r : Bool) (w : World) (hr0 : Kd.C k38 w A0 l0.length l0) (hc0 : l0.length ≤ c0) (hr1 : Kd.C k38 w A1 l1.length l1) (hc1 : l1.length ≤ c1) (h : phalaroperef09_Very.f k l0 l1 = some r) :
    Calls Try.prog 17 #[.slice A0 l0.length c0, .slice A1 l1.length c1] w fun e w' => e = .returned (.bool r) ∧ Below w.heap.size w w' := by
  have hu28 := Try.underlying28
  have HR0 := Aside0.mk hr0
  have HC0 := Aside0.mk hc0
  clear hr0 hc0
  have HR1 := Aside0.mk hr1
  have HC1 := Aside0.mk hc1
  clear hr1 hc1
  have HB := Aside0.mk (Below.refl w.heap.size w)
  have H : (if (l0.length : Int) = (l1.length : Int) then (phalaroperef09_Very.l0 k l0 l1 0) else (some false)) = some r := h
  clear h
  by_cases c3 : (l0.length : Int) = (l1.length : Int)
  · rw [if_pos c3] at H
    have c3b0 : ((l0.length : Int) == (l1.length : Int)) = true := beq_iff_eq.mpr c3
    have c3b1 : ((l0.length : Int) != (l1.length : Int)) = false := bne_eq_false_iff_eq.mpr c3
    have c3b2 : (l0.length == l1.length) = true := by first | simpa using c3 | (simp at c3 ⊢; omega)
    clear c3
    have H' := Aside0.mk H
    clear H
    go_enter Try.func17, Try.ntmps17
    go_wp2
    go_loopg [5] k (fun kq v5 w' => ∃ (x5_1 : Int), v5 = .int .i64 x5_1 ∧ Aside0 (phalaroperef09_Very.l0 kq l0 l1 x5_1 = some r) ∧ Aside0 (kq ≤ k) ∧ Aside0 (Below w.heap.size w w'))
    case atStart => exact ⟨(0), (by first | rfl | (simp; done) | (simp [*]; done)), H', ⟨Nat.le_refl _⟩, ⟨by repeat (first | (with_reducible first | exact HB.out | apply below_alloc | apply pw_below_drewN | apply below_drew1) | exact HB.out)⟩⟩
    case round =>
      clear H'
      try clear c1
      try clear p2
      try clear c3
      try clear c3b0
      try clear c3b1
      try clear c3b2
      obtain ⟨x5_1, rfl, HA, HK1, HB⟩ := hrel
      cases gk with
      | zero => exact absurd HA.out (by simp [phalaroperef09_Very.l0])
      | succ k1 =>
        have H := HA.out
        clear HA
        simp only [phalaroperef09_Very.l0] at H
        by_cases c4 : x5_1 < (l0.length : Int)
        · rw [if_pos c4] at H
          have c4b0 : decide (x5_1 < (l0.length : Int)) = true := decide_eq_true c4
          clear c4
          by_cases c5 : 0 ≤ x5_1
          · rw [if_pos c5] at H
            have c5b0 : decide (0 ≤ x5_1) = true := decide_eq_true c5
            clear c5
            by_cases c6 : x5_1 < (l1.length : Int)
            · rw [if_pos c6] at H
              have c6b0 : decide (x5_1 < (l1.length : Int)) = true := decide_eq_true c6
              clear c6
              by_cases c7 : ((rd_T38 l0 x5_1).f0).toList = ((rd_T38 l1 x5_1).f0).toList
              · rw [if_pos c7] at H
                have c7b0 : (((rd_T38 l0 x5_1).f0).toList == ((rd_T38 l1 x5_1).f0).toList) = true := beq_iff_eq.mpr c7
                have c7b1 : (((rd_T38 l0 x5_1).f0).toList != ((rd_T38 l1 x5_1).f0).toList) = false := bne_eq_false_iff_eq.mpr c7
                clear c7
                replace H := Option.bind_eq_some_iff.mp H
                obtain ⟨t329, A80, H⟩ := H
                replace H : (if t329 = true then (phalaroperef09_Very.l0 k1 l0 l1 (wrap64 (x5_1 + 1))) else (some false)) = some r := H
                have A8 := Aside0.mk A80
                clear A80
                by_cases c9 : t329 = true
                · subst c9
                  have H1 : (phalaroperef09_Very.l0 k1 l0 l1 (wrap64 (x5_1 + 1))) = some r := by rw [if_pos rfl] at H; exact H
                  clear H
                  have H := H1
                  clear H1
                  have H' := Aside0.mk H
                  clear H
                  try go_wp2
                  have n0_ := Aside0.mk (below_drew1 HB.out)
                  clear HB
                  have HB := n0_
                  clear n0_
                  have p325 : 0 ≤ (x5_1 : Int) := of_decide_eq_true (by first | (with_reducible assumption) | assumption)
                  have q325 : x5_1 < (l0.length : Int) := of_decide_eq_true (by first | (with_reducible assumption) | assumption)
                  obtain ⟨ad325, A325_3, c325_3, A325_4, c325_4, e325, hx325_0, hx325_1, hx325_2, hx325_3, hx325_4, hl325_3, hi325_3, hl325_4, hi325_4⟩ := at_T38 HR0.out x5_1 p325 q325
                  have hw325_4 := hx325_4
                  have hw325_3 := hx325_3
                  have hw325_2 := hx325_2
                  have hw325_1 := hx325_1
                  have hw325_0 := hx325_0
                  cases e325
                  replace hx325_0 := (HB.out.cell (World.block_lt_of_cell? w _ hx325_0)).trans hx325_0
                  replace hx325_1 := (HB.out.cell (World.block_lt_of_cell? w _ hx325_1)).trans hx325_1
                  replace hx325_2 := (HB.out.cell (World.block_lt_of_cell? w _ hx325_2)).trans hx325_2
                  replace hx325_3 := (HB.out.cell (World.block_lt_of_cell? w _ hx325_3)).trans hx325_3
                  replace hx325_4 := (HB.out.cell (World.block_lt_of_cell? w _ hx325_4)).trans hx325_4
                  have HR325_3 := Aside0.mk hi325_3
                  have HC325_3 := Aside0.mk hl325_3
                  clear hi325_3 hl325_3
                  have HR325_4 := Aside0.mk hi325_4
                  have HC325_4 := Aside0.mk hl325_4
                  clear hi325_4 hl325_4
                  replace p325 := eq_true p325
                  replace q325 := eq_true q325
                  have p326 : 0 ≤ (x5_1 : Int) := of_decide_eq_true (by first | (with_reducible assumption) | assumption)
                  have q326 : x5_1 < (l1.length : Int) := of_decide_eq_true (by first | (with_reducible assumption) | assumption)
                  obtain ⟨ad326, A326_3, c326_3, A326_4, c326_4, e326, hx326_0, hx326_1, hx326_2, hx326_3, hx326_4, hl326_3, hi326_3, hl326_4, hi326_4⟩ := at_T38 HR1.out x5_1 p326 q326
                  have hw326_4 := hx326_4
                  have hw326_3 := hx326_3
                  have hw326_2 := hx326_2
                  have hw326_1 := hx326_1
                  have hw326_0 := hx326_0
                  cases e326
                  replace hx326_0 := (HB.out.cell (World.block_lt_of_cell? w _ hx326_0)).trans hx326_0
                  replace hx326_1 := (HB.out.cell (World.block_lt_of_cell? w _ hx326_1)).trans hx326_1
                  replace hx326_2 := (HB.out.cell (World.block_lt_of_cell? w _ hx326_2)).trans hx326_2
                  replace hx326_3 := (HB.out.cell (World.block_lt_of_cell? w _ hx326_3)).trans hx326_3
                  replace hx326_4 := (HB.out.cell (World.block_lt_of_cell? w _ hx326_4)).trans hx326_4
                  have HR326_3 := Aside0.mk hi326_3
                  have HC326_3 := Aside0.mk hl326_3
                  clear hi326_3 hl326_3
                  have HR326_4 := Aside0.mk hi326_4
                  have HC326_4 := Aside0.mk hl326_4
                  clear hi326_4 hl326_4
                  replace p326 := eq_true p326
                  replace q326 := eq_true q326
                  have p327 : 0 ≤ (x5_1 : Int) := of_decide_eq_true (by first | (with_reducible assumption) | assumption)
                  have q327 : x5_1 < (l0.length : Int) := of_decide_eq_true (by first | (with_reducible assumption) | assumption)
                  obtain ⟨ad327, A327_3, c327_3, A327_4, c327_4, e327, hx327_0, hx327_1, hx327_2, hx327_3, hx327_4, hl327_3, hi327_3, hl327_4, hi327_4⟩ := at_T38 HR0.out x5_1 p327 q327
                  have hw327_4 := hx327_4
                  have hw327_3 := hx327_3
                  have hw327_2 := hx327_2
                  have hw327_1 := hx327_1
                  have hw327_0 := hx327_0
                  obtain rfl : ad325 = ad327 := (by injection e327)
                  replace hx327_0 := (HB.out.cell (World.block_lt_of_cell? w _ hx327_0)).trans hx327_0
                  replace hx327_1 := (HB.out.cell (World.block_lt_of_cell? w _ hx327_1)).trans hx327_1
                  replace hx327_2 := (HB.out.cell (World.block_lt_of_cell? w _ hx327_2)).trans hx327_2
                  replace hx327_3 := (HB.out.cell (World.block_lt_of_cell? w _ hx327_3)).trans hx327_3
                  replace hx327_4 := (HB.out.cell (World.block_lt_of_cell? w _ hx327_4)).trans hx327_4
                  have HR327_3 := Aside0.mk hi327_3
                  have HC327_3 := Aside0.mk hl327_3
                  clear hi327_3 hl327_3
                  have HR327_4 := Aside0.mk hi327_4
                  have HC327_4 := Aside0.mk hl327_4
                  clear hi327_4 hl327_4
                  replace p327 := eq_true p327
                  replace q327 := eq_true q327
                  have ea_ := Option.some.inj (hx325_3.symm.trans hx327_3)
                  injection ea_ with ea_ en_ ec_
                  subst ea_
                  subst ec_
                  clear en_
                  have ea_ := Option.some.inj (hx325_4.symm.trans hx327_4)
                  injection ea_ with ea_ en_ ec_
                  subst ea_
                  subst ec_
                  clear en_
                  have p328 : 0 ≤ (x5_1 : Int) := of_decide_eq_true (by first | (with_reducible assumption) | assumption)
                  have q328 : x5_1 < (l1.length : Int) := of_decide_eq_true (by first | (with_reducible assumption) | assumption)
                  obtain ⟨ad328, A328_3, c328_3, A328_4, c328_4, e328, hx328_0, hx328_1, hx328_2, hx328_3, hx328_4, hl328_3, hi328_3, hl328_4, hi328_4⟩ := at_T38 HR1.out x5_1 p328 q328
                  have hw328_4 := hx328_4
                  have hw328_3 := hx328_3
                  have hw328_2 := hx328_2
                  have hw328_1 := hx328_1
                  have hw328_0 := hx328_0
                  obtain rfl : ad326 = ad328 := (by injection e328)
                  replace hx328_0 := (HB.out.cell (World.block_lt_of_cell? w _ hx328_0)).trans hx328_0
                  replace hx328_1 := (HB.out.cell (World.block_lt_of_cell? w _ hx328_1)).trans hx328_1
                  replace hx328_2 := (HB.out.cell (World.block_lt_of_cell? w _ hx328_2)).trans hx328_2
                  replace hx328_3 := (HB.out.cell (World.block_lt_of_cell? w _ hx328_3)).trans hx328_3
                  replace hx328_4 := (HB.out.cell (World.block_lt_of_cell? w _ hx328_4)).trans hx328_4
                  have HR328_3 := Aside0.mk hi328_3
                  have HC328_3 := Aside0.mk hl328_3
                  clear hi328_3 hl328_3
                  have HR328_4 := Aside0.mk hi328_4
                  have HC328_4 := Aside0.mk hl328_4
                  clear hi328_4 hl328_4
                  replace p328 := eq_true p328
                  replace q328 := eq_true q328
                  have ea_ := Option.some.inj (hx326_3.symm.trans hx328_3)
                  injection ea_ with ea_ en_ ec_
                  subst ea_
                  subst ec_
                  clear en_
                  have ea_ := Option.some.inj (hx326_4.symm.trans hx328_4)
                  injection ea_ with ea_ en_ ec_
                  subst ea_
                  subst ec_
                  clear en_
                  refine start_ (n := 25) (S := fun w' => w'.cell? (ad325.add ((x5_1).toNat * 5)) = some (.string ((rd_T38 l0 x5_1).f0)) ∧ w'.cell? ⟨(ad325.add ((x5_1).toNat * 5)).block, (ad325.add ((x5_1).toNat * 5)).off + 1, none⟩ = some (.int .i64 ((rd_T38 l0 x5_1).f1.f0)) ∧ w'.cell? ⟨(ad325.add ((x5_1).toNat * 5)).block, (ad325.add ((x5_1).toNat * 5)).off + 2, none⟩ = some (.string ((rd_T38 l0 x5_1).f1.f1)) ∧ w'.cell? ⟨(ad325.add ((x5_1).toNat * 5)).block, (ad325.add ((x5_1).toNat * 5)).off + 3, none⟩ = some (.slice A325_3 ((rd_T38 l0 x5_1).f1.f2).length c325_3) ∧ w'.cell? ⟨(ad325.add ((x5_1).toNat * 5)).block, (ad325.add ((x5_1).toNat * 5)).off + 4, none⟩ = some (.slice A325_4 ((rd_T38 l0 x5_1).f1.f3).length c325_4) ∧ w'.cell? (ad326.add ((x5_1).toNat * 5)) = some (.string ((rd_T38 l1 x5_1).f0)) ∧ w'.cell? ⟨(ad326.add ((x5_1).toNat * 5)).block, (ad326.add ((x5_1).toNat * 5)).off + 1, none⟩ = some (.int .i64 ((rd_T38 l1 x5_1).f1.f0)) ∧ w'.cell? ⟨(ad326.add ((x5_1).toNat * 5)).block, (ad326.add ((x5_1).toNat * 5)).off + 2, none⟩ = some (.string ((rd_T38 l1 x5_1).f1.f1)) ∧ w'.cell? ⟨(ad326.add ((x5_1).toNat * 5)).block, (ad326.add ((x5_1).toNat * 5)).off + 3, none⟩ = some (.slice A326_3 ((rd_T38 l1 x5_1).f1.f2).length c326_3) ∧ w'.cell? ⟨(ad326.add ((x5_1).toNat * 5)).block, (ad326.add ((x5_1).toNat * 5)).off + 4, none⟩ = some (.slice A326_4 ((rd_T38 l1 x5_1).f1.f3).length c326_4) ∧ w'.cell? (ad325.add ((x5_1).toNat * 5)) = some (.string ((rd_T38 l0 x5_1).f0)) ∧ w'.cell? ⟨(ad325.add ((x5_1).toNat * 5)).block, (ad325.add ((x5_1).toNat * 5)).off + 1, none⟩ = some (.int .i64 ((rd_T38 l0 x5_1).f1.f0)) ∧ w'.cell? ⟨(ad325.add ((x5_1).toNat * 5)).block, (ad325.add ((x5_1).toNat * 5)).off + 2, none⟩ = some (.string ((rd_T38 l0 x5_1).f1.f1)) ∧ w'.cell? ⟨(ad325.add ((x5_1).toNat * 5)).block, (ad325.add ((x5_1).toNat * 5)).off + 3, none⟩ = some (.slice A325_3 ((rd_T38 l0 x5_1).f1.f2).length c325_3) ∧ w'.cell? ⟨(ad325.add ((x5_1).toNat * 5)).block, (ad325.add ((x5_1).toNat * 5)).off + 4, none⟩ = some (.slice A325_4 ((rd_T38 l0 x5_1).f1.f3).length c325_4) ∧ w'.cell? (ad326.add ((x5_1).toNat * 5)) = some (.string ((rd_T38 l1 x5_1).f0)) ∧ w'.cell? ⟨(ad326.add ((x5_1).toNat * 5)).block, (ad326.add ((x5_1).toNat * 5)).off + 1, none⟩ = some (.int .i64 ((rd_T38 l1 x5_1).f1.f0)) ∧ w'.cell? ⟨(ad326.add ((x5_1).toNat * 5)).block, (ad326.add ((x5_1).toNat * 5)).off + 2, none⟩ = some (.string ((rd_T38 l1 x5_1).f1.f1)) ∧ w'.cell? ⟨(ad326.add ((x5_1).toNat * 5)).block, (ad326.add ((x5_1).toNat * 5)).off + 3, none⟩ = some (.slice A326_3 ((rd_T38 l1 x5_1).f1.f2).length c326_3) ∧ w'.cell? ⟨(ad326.add ((x5_1).toNat * 5)).block, (ad326.add ((x5_1).toNat * 5)).off + 4, none⟩ = some (.slice A326_4 ((rd_T38 l1 x5_1).f1.f3).length c326_4)) (ds := []) #[false, false, false, false, false, false, false, false, false, false, false, false, false, false, false, false, false, false, false, false, false, false, false, false, false] (by kernel_rfl) rfl rfl ⟨((HB.out.cell (World.block_lt_of_cell? w _ hw325_0)).trans hw325_0), ((HB.out.cell (World.block_lt_of_cell? w _ hw325_1)).trans hw325_1), ((HB.out.cell (World.block_lt_of_cell? w _ hw325_2)).trans hw325_2), ((HB.out.cell (World.block_lt_of_cell? w _ hw325_3)).trans hw325_3), ((HB.out.cell (World.block_lt_of_cell? w _ hw325_4)).trans hw325_4), ((HB.out.cell (World.block_lt_of_cell? w _ hw326_0)).trans hw326_0), ((HB.out.cell (World.block_lt_of_cell? w _ hw326_1)).trans hw326_1), ((HB.out.cell (World.block_lt_of_cell? w _ hw326_2)).trans hw326_2), ((HB.out.cell (World.block_lt_of_cell? w _ hw326_3)).trans hw326_3), ((HB.out.cell (World.block_lt_of_cell? w _ hw326_4)).trans hw326_4), ((HB.out.cell (World.block_lt_of_cell? w _ hw327_0)).trans hw327_0), ((HB.out.cell (World.block_lt_of_cell? w _ hw327_1)).trans hw327_1), ((HB.out.cell (World.block_lt_of_cell? w _ hw327_2)).trans hw327_2), ((HB.out.cell (World.block_lt_of_cell? w _ hw327_3)).trans hw327_3), ((HB.out.cell (World.block_lt_of_cell? w _ hw327_4)).trans hw327_4), ((HB.out.cell (World.block_lt_of_cell? w _ hw328_0)).trans hw328_0), ((HB.out.cell (World.block_lt_of_cell? w _ hw328_1)).trans hw328_1), ((HB.out.cell (World.block_lt_of_cell? w _ hw328_2)).trans hw328_2), ((HB.out.cell (World.block_lt_of_cell? w _ hw328_3)).trans hw328_3), ((HB.out.cell (World.block_lt_of_cell? w _ hw328_4)).trans hw328_4)⟩ (fun hHeld => ?_); refine with_tabW phalaroperef09_Very.tab6 phalaroperef09_Very.bits6 (fun HT_ HW_ => ?_)
                  generalize wr.drew = w10 at HB HR325_3 HR325_4 HR326_3 HR326_4 HR327_3 HR327_4 HR328_3 HR328_4 hx325_0 hx325_1 hx325_2 hx325_3 hx325_4 hx326_0 hx326_1 hx326_2 hx326_3 hx326_4 hx327_0 hx327_1 hx327_2 hx327_3 hx327_4 hx328_0 hx328_1 hx328_2 hx328_3 hx328_4 hHeld ⊢
                  refine pure_ (i := 0) (N := some 17) (v := ?_) (a' := ?_) #[true, false, false, false, false, false, false, false, false, false, false, false, false, false, false, false, false, false, false, false, false, false, false, false, false] rfl rfl (any_of HT_.out (by kernel_rfl)) (fun _ _ _ h => h) (Or.inl ⟨by rfl, ?_⟩) ?_ ?_
                  rotate_left
                  · intro w'
                    go_simp
                    with_reducible rfl
                  rotate_left
                  · simp only [Act.put, List.setIfInBounds_toArray, List.set_cons_zero, List.set_cons_succ, i64_w, i32_w]
                    rfl
                  refine pure_ (i := 1) (N := some 18) (v := ?_) (a' := ?_) #[true, true, false, false, false, false, false, false, false, false, false, false, false, false, false, false, false, false, false, false, false, false, false, false, false] rfl rfl (any_of HT_.out (by kernel_rfl)) (fun _ _ _ h => h) (Or.inl ⟨by rfl, ?_⟩) ?_ ?_
                  rotate_left
                  · intro w'
                    go_simp
                    with_reducible rfl
                  rotate_left
                  · simp only [Act.put, List.setIfInBounds_toArray, List.set_cons_zero, List.set_cons_succ, i64_w, i32_w]
                    rfl
                  refine pure_ (i := 2) (N := some 19) (v := ?_) (a' := ?_) #[true, true, true, false, false, false, false, false, false, false, false, false, false, false, false, false, false, false, false, false, false, false, false, false, false] rfl rfl (any_of HT_.out (by kernel_rfl)) (fun _ _ _ h => h) (Or.inl ⟨by rfl, ?_⟩) ?_ ?_
                  rotate_left
                  · intro w'
                    go_simp
                    with_reducible rfl
                  rotate_left
                  · simp only [Act.put, List.setIfInBounds_toArray, List.set_cons_zero, List.set_cons_succ, i64_w, i32_w]
                    rfl
                  refine pure_ (i := 3) (N := some 20) (v := ?_) (a' := ?_) #[true, true, true, true, false, false, false, false, false, false, false, false, false, false, false, false, false, false, false, false, false, false, false, false, false] rfl rfl (any_of HT_.out (by kernel_rfl)) (fun _ _ _ h => h) (Or.inl ⟨by rfl, ?_⟩) ?_ ?_
                  rotate_left
                  · intro w'
                    go_simp
                    with_reducible rfl
                  rotate_left
                  · simp only [Act.put, List.setIfInBounds_toArray, List.set_cons_zero, List.set_cons_succ, i64_w, i32_w]
                    rfl
                  refine pure_ (i := 5) (N := some 22) (v := ?_) (a' := ?_) #[true, true, true, true, false, true, false, false, false, false, false, false, false, false, false, false, false, false, false, false, false, false, false, false, false] rfl rfl (any_of HT_.out (by kernel_rfl)) (fun _ _ _ h => h) (Or.inl ⟨by rfl, ?_⟩) ?_ ?_
                  rotate_left
                  · intro w'
                    go_simp
                    with_reducible rfl
                  rotate_left
                  · simp only [Act.put, List.setIfInBounds_toArray, List.set_cons_zero, List.set_cons_succ, i64_w, i32_w]
                    rfl
                  refine pure_ (i := 6) (N := some 23) (v := ?_) (a' := ?_) #[true, true, true, true, false, true, true, false, false, false, false, false, false, false, false, false, false, false, false, false, false, false, false, false, false] rfl rfl (any_of HT_.out (by kernel_rfl)) (fun _ _ _ h => h) (Or.inl ⟨by rfl, ?_⟩) ?_ ?_
                  rotate_left
                  · intro w'
                    go_simp
                    with_reducible rfl
                  rotate_left
                  · simp only [Act.put, List.setIfInBounds_toArray, List.set_cons_zero, List.set_cons_succ, i64_w, i32_w]
                    rfl
                  refine pure_ (i := 7) (N := some 24) (v := ?_) (a' := ?_) #[true, true, true, true, false, true, true, true, false, false, false, false, false, false, false, false, false, false, false, false, false, false, false, false, false] rfl rfl (any_of HT_.out (by kernel_rfl)) (fun _ _ _ h => h) (Or.inl ⟨by rfl, ?_⟩) ?_ ?_
                  rotate_left
                  · intro w'
                    go_simp
                    with_reducible rfl
                  rotate_left
                  · simp only [Act.put, List.setIfInBounds_toArray, List.set_cons_zero, List.set_cons_succ, i64_w, i32_w]
                    rfl
                  refine pure_ (i := 8) (N := some 25) (v := ?_) (a' := ?_) #[true, true, true, true, false, true, true, true, true, false, false, false, false, false, false, false, false, false, false, false, false, false, false, false, false] rfl rfl (any_of HT_.out (by kernel_rfl)) (fun _ _ _ h => h) (Or.inl ⟨by rfl, ?_⟩) ?_ ?_
                  rotate_left
                  · intro w'
                    go_simp
                    with_reducible rfl
                  rotate_left
                  · simp only [Act.put, List.setIfInBounds_toArray, List.set_cons_zero, List.set_cons_succ, i64_w, i32_w]
                    rfl
                  refine take_ (i := 4) (N := some 21) (v := ?_) (a' := ?_) #[true, true, true, true, true, true, true, true, true, false, false, false, false, false, false, false, false, false, false, false, false, false, false, false, false] rfl rfl (take_ofW HT_.out HW_.out (by kernel_rfl)) (fun _ _ _ h => h) (Or.inl ⟨by rfl, ?_⟩) hHeld ?_ ?_
                  rotate_left
                  · rintro w' ⟨s0, s1, s2, s3, s4, s5, s6, s7, s8, s9, s10, s11, s12, s13, s14, s15, s16, s17, s18, s19⟩
                    go_simp
                    with_reducible rfl
                  rotate_left
                  · simp only [Act.put, List.setIfInBounds_toArray, List.set_cons_zero, List.set_cons_succ, i64_w, i32_w]
                    rfl
                  refine take_ (i := 9) (N := some 26) (v := ?_) (a' := ?_) #[true, true, true, true, true, true, true, true, true, true, false, false, false, false, false, false, false, false, false, false, false, false, false, false, false] rfl rfl (take_ofW HT_.out HW_.out (by kernel_rfl)) (fun _ _ _ h => h) (Or.inl ⟨by rfl, ?_⟩) hHeld ?_ ?_
                  rotate_left
                  · rintro w' ⟨s0, s1, s2, s3, s4, s5, s6, s7, s8, s9, s10, s11, s12, s13, s14, s15, s16, s17, s18, s19⟩
                    go_simp
                    with_reducible rfl
                  rotate_left
                  · simp only [Act.put, List.setIfInBounds_toArray, List.set_cons_zero, List.set_cons_succ, i64_w, i32_w]
                    rfl
                  refine pure_ (i := 10) (N := some 27) (v := ?_) (a' := ?_) #[true, true, true, true, true, true, true, true, true, true, true, false, false, false, false, false, false, false, false, false, false, false, false, false, false] rfl rfl (any_of HT_.out (by kernel_rfl)) (fun _ _ _ h => h) (Or.inl ⟨by rfl, ?_⟩) ?_ ?_
                  rotate_left
                  · intro w'
                    go_simp
                    with_reducible rfl
                  rotate_left
                  · simp only [Act.put, List.setIfInBounds_toArray, List.set_cons_zero, List.set_cons_succ, i64_w, i32_w]
                    rfl
                  refine pure_ (i := 11) (N := some 28) (v := ?_) (a' := ?_) #[true, true, true, true, true, true, true, true, true, true, true, true, false, false, false, false, false, false, false, false, false, false, false, false, false] rfl rfl (any_of HT_.out (by kernel_rfl)) (fun _ _ _ h => h) (Or.inl ⟨by rfl, ?_⟩) ?_ ?_
                  rotate_left
                  · intro w'
                    go_simp
                    with_reducible rfl
                  rotate_left
                  · simp only [Act.put, List.setIfInBounds_toArray, List.set_cons_zero, List.set_cons_succ, i64_w, i32_w]
                    rfl
                  refine pure_ (i := 12) (N := some 29) (v := ?_) (a' := ?_) #[true, true, true, true, true, true, true, true, true, true, true, true, true, false, false, false, false, false, false, false, false, false, false, false, false] rfl rfl (any_of HT_.out (by kernel_rfl)) (fun _ _ _ h => h) (Or.inl ⟨by rfl, ?_⟩) ?_ ?_
                  rotate_left
                  · intro w'
                    go_simp
                    with_reducible rfl
                  rotate_left
                  · simp only [Act.put, List.setIfInBounds_toArray, List.set_cons_zero, List.set_cons_succ, i64_w, i32_w]
                    rfl
                  refine pure_ (i := 13) (N := some 30) (v := ?_) (a' := ?_) #[true, true, true, true, true, true, true, true, true, true, true, true, true, true, false, false, false, false, false, false, false, false, false, false, false] rfl rfl (any_of HT_.out (by kernel_rfl)) (fun _ _ _ h => h) (Or.inl ⟨by rfl, ?_⟩) ?_ ?_
                  rotate_left
                  · intro w'
                    go_simp
                    with_reducible rfl
                  rotate_left
                  · simp only [Act.put, List.setIfInBounds_toArray, List.set_cons_zero, List.set_cons_succ, i64_w, i32_w]
                    rfl
                  refine pure_ (i := 14) (N := some 31) (v := ?_) (a' := ?_) #[true, true, true, true, true, true, true, true, true, true, true, true, true, true, true, false, false, false, false, false, false, false, false, false, false] rfl rfl (any_of HT_.out (by kernel_rfl)) (fun _ _ _ h => h) (Or.inl ⟨by rfl, ?_⟩) ?_ ?_
                  rotate_left
                  · intro w'
                    go_simp
                    with_reducible rfl
                  rotate_left
                  · simp only [Act.put, List.setIfInBounds_toArray, List.set_cons_zero, List.set_cons_succ, i64_w, i32_w]
                    rfl
                  refine pure_ (i := 15) (N := some 32) (v := ?_) (a' := ?_) #[true, true, true, true, true, true, true, true, true, true, true, true, true, true, true, true, false, false, false, false, false, false, false, false, false] rfl rfl (any_of HT_.out (by kernel_rfl)) (fun _ _ _ h => h) (Or.inl ⟨by rfl, ?_⟩) ?_ ?_
                  rotate_left
                  · intro w'
                    go_simp
                    with_reducible rfl
                  rotate_left
                  · simp only [Act.put, List.setIfInBounds_toArray, List.set_cons_zero, List.set_cons_succ, i64_w, i32_w]
                    rfl
                  refine pure_ (i := 17) (N := some 34) (v := ?_) (a' := ?_) #[true, true, true, true, true, true, true, true, true, true, true, true, true, true, true, true, false, true, false, false, false, false, false, false, false] rfl rfl (any_of HT_.out (by kernel_rfl)) (fun _ _ _ h => h) (Or.inl ⟨by rfl, ?_⟩) ?_ ?_
                  rotate_left
                  · intro w'
                    go_simp
                    with_reducible rfl
                  rotate_left
                  · simp only [Act.put, List.setIfInBounds_toArray, List.set_cons_zero, List.set_cons_succ, i64_w, i32_w]
                    rfl
                  refine pure_ (i := 18) (N := some 35) (v := ?_) (a' := ?_) #[true, true, true, true, true, true, true, true, true, true, true, true, true, true, true, true, false, true, true, false, false, false, false, false, false] rfl rfl (any_of HT_.out (by kernel_rfl)) (fun _ _ _ h => h) (Or.inl ⟨by rfl, ?_⟩) ?_ ?_
                  rotate_left
                  · intro w'
                    go_simp
                    with_reducible rfl
                  rotate_left
                  · simp only [Act.put, List.setIfInBounds_toArray, List.set_cons_zero, List.set_cons_succ, i64_w, i32_w]
                    rfl
                  refine pure_ (i := 19) (N := some 36) (v := ?_) (a' := ?_) #[true, true, true, true, true, true, true, true, true, true, true, true, true, true, true, true, false, true, true, true, false, false, false, false, false] rfl rfl (any_of HT_.out (by kernel_rfl)) (fun _ _ _ h => h) (Or.inl ⟨by rfl, ?_⟩) ?_ ?_
                  rotate_left
                  · intro w'
                    go_simp
                    with_reducible rfl
                  rotate_left
                  · simp only [Act.put, List.setIfInBounds_toArray, List.set_cons_zero, List.set_cons_succ, i64_w, i32_w]
                    rfl
                  refine pure_ (i := 20) (N := some 37) (v := ?_) (a' := ?_) #[true, true, true, true, true, true, true, true, true, true, true, true, true, true, true, true, false, true, true, true, true, false, false, false, false] rfl rfl (any_of HT_.out (by kernel_rfl)) (fun _ _ _ h => h) (Or.inl ⟨by rfl, ?_⟩) ?_ ?_
                  rotate_left
                  · intro w'
                    go_simp
                    with_reducible rfl
                  rotate_left
                  · simp only [Act.put, List.setIfInBounds_toArray, List.set_cons_zero, List.set_cons_succ, i64_w, i32_w]
                    rfl
                  refine take_ (i := 16) (N := some 33) (v := ?_) (a' := ?_) #[true, true, true, true, true, true, true, true, true, true, true, true, true, true, true, true, true, true, true, true, true, false, false, false, false] rfl rfl (take_ofW HT_.out HW_.out (by kernel_rfl)) (fun _ _ _ h => h) (Or.inl ⟨by rfl, ?_⟩) hHeld ?_ ?_
                  rotate_left
                  · rintro w' ⟨s0, s1, s2, s3, s4, s5, s6, s7, s8, s9, s10, s11, s12, s13, s14, s15, s16, s17, s18, s19⟩
                    go_simp
                    with_reducible rfl
                  rotate_left
                  · simp only [Act.put, List.setIfInBounds_toArray, List.set_cons_zero, List.set_cons_succ, i64_w, i32_w]
                    rfl
                  refine take_ (i := 21) (N := some 38) (v := ?_) (a' := ?_) #[true, true, true, true, true, true, true, true, true, true, true, true, true, true, true, true, true, true, true, true, true, true, false, false, false] rfl rfl (take_ofW HT_.out HW_.out (by kernel_rfl)) (fun _ _ _ h => h) (Or.inl ⟨by rfl, ?_⟩) hHeld ?_ ?_
                  rotate_left
                  · rintro w' ⟨s0, s1, s2, s3, s4, s5, s6, s7, s8, s9, s10, s11, s12, s13, s14, s15, s16, s17, s18, s19⟩
                    go_simp
                    with_reducible rfl
                  rotate_left
                  · simp only [Act.put, List.setIfInBounds_toArray, List.set_cons_zero, List.set_cons_succ, i64_w, i32_w]
                    rfl
                  refine one_ (i := 22) (N := some 39) #[true, true, true, true, true, true, true, true, true, true, true, true, true, true, true, true, true, true, true, true, true, true, true, false, false] rfl rfl (one_of HT_.out (by kernel_rfl)) (by decide) (fun K hK => ?_)
                  refine goes_ Try.func13 (by kernel_rfl) rfl #[.agg #[.int .i64 ((rd_T38 l0 x5_1).f1.f0), .string ((rd_T38 l0 x5_1).f1.f1), .slice A325_3 ((rd_T38 l0 x5_1).f1.f2).length c325_3, .slice A325_4 ((rd_T38 l0 x5_1).f1.f3).length c325_4], .agg #[.int .i64 ((rd_T38 l1 x5_1).f1.f0), .string ((rd_T38 l1 x5_1).f1.f1), .slice A326_3 ((rd_T38 l1 x5_1).f1.f2).length c326_3, .slice A326_4 ((rd_T38 l1 x5_1).f1.f3).length c326_4]] (by rfl) rfl rfl (by (try simp only [List.map_toArray, List.map_cons, List.map_nil]); first | done | rfl | (simp only [List.length_drop, List.length_take]; rfl)) ?_
                  with_reducible refine (phalaroperef08_Very.calls k1 ((rd_T38 l0 x5_1).f1.f0) ((rd_T38 l0 x5_1).f1.f1) _ _ ((rd_T38 l0 x5_1).f1.f2) _ _ ((rd_T38 l0 x5_1).f1.f3) ((rd_T38 l1 x5_1).f1.f0) ((rd_T38 l1 x5_1).f1.f1) _ _ ((rd_T38 l1 x5_1).f1.f2) _ _ ((rd_T38 l1 x5_1).f1.f3) true _ ?side1 ?side2 ?side3 ?side4 ?side5 ?side6 ?side7 ?side8 A8.out).mono ?_
                  (case side1 => repeat (first | exact (Kd.C_below HR327_3.out HB.out) | (with_reducible refine Kd.C_alloc ?_ _) | (with_reducible refine Kd.C_drewN ?_ _) | (with_reducible refine Kd.C_drew ?_)))
                  (case side2 => exact HC327_3.out)
                  (case side3 => repeat (first | exact (Kd.C_below HR327_4.out HB.out) | (with_reducible refine Kd.C_alloc ?_ _) | (with_reducible refine Kd.C_drewN ?_ _) | (with_reducible refine Kd.C_drew ?_)))
                  (case side4 => exact HC327_4.out)
                  (case side5 => repeat (first | exact (Kd.C_below HR328_3.out HB.out) | (with_reducible refine Kd.C_alloc ?_ _) | (with_reducible refine Kd.C_drewN ?_ _) | (with_reducible refine Kd.C_drew ?_)))
                  (case side6 => exact HC328_3.out)
                  (case side7 => repeat (first | exact (Kd.C_below HR328_4.out HB.out) | (with_reducible refine Kd.C_alloc ?_ _) | (with_reducible refine Kd.C_drewN ?_ _) | (with_reducible refine Kd.C_drew ?_)))
                  (case side8 => exact HC328_4.out)
                  rintro e w11 ⟨rfl, hb⟩
                  refine ⟨_, rfl, ?_⟩
                  have n0_ := Aside0.mk (below_step (by repeat (first | (with_reducible first | exact HB.out | apply below_alloc | apply pw_below_drewN | apply below_drew1) | exact HB.out)) hb)
                  clear HB
                  have HB := n0_
                  clear n0_
                  (try clear hb)
                  (try clear hb2)
                  (try clear hk)
                  (try clear hi)
                  refine hK.out _ _ ⟨((HB.out.cell (World.block_lt_of_cell? w _ hw325_0)).trans hw325_0), ((HB.out.cell (World.block_lt_of_cell? w _ hw325_1)).trans hw325_1), ((HB.out.cell (World.block_lt_of_cell? w _ hw325_2)).trans hw325_2), ((HB.out.cell (World.block_lt_of_cell? w _ hw325_3)).trans hw325_3), ((HB.out.cell (World.block_lt_of_cell? w _ hw325_4)).trans hw325_4), ((HB.out.cell (World.block_lt_of_cell? w _ hw326_0)).trans hw326_0), ((HB.out.cell (World.block_lt_of_cell? w _ hw326_1)).trans hw326_1), ((HB.out.cell (World.block_lt_of_cell? w _ hw326_2)).trans hw326_2), ((HB.out.cell (World.block_lt_of_cell? w _ hw326_3)).trans hw326_3), ((HB.out.cell (World.block_lt_of_cell? w _ hw326_4)).trans hw326_4), ((HB.out.cell (World.block_lt_of_cell? w _ hw327_0)).trans hw327_0), ((HB.out.cell (World.block_lt_of_cell? w _ hw327_1)).trans hw327_1), ((HB.out.cell (World.block_lt_of_cell? w _ hw327_2)).trans hw327_2), ((HB.out.cell (World.block_lt_of_cell? w _ hw327_3)).trans hw327_3), ((HB.out.cell (World.block_lt_of_cell? w _ hw327_4)).trans hw327_4), ((HB.out.cell (World.block_lt_of_cell? w _ hw328_0)).trans hw328_0), ((HB.out.cell (World.block_lt_of_cell? w _ hw328_1)).trans hw328_1), ((HB.out.cell (World.block_lt_of_cell? w _ hw328_2)).trans hw328_2), ((HB.out.cell (World.block_lt_of_cell? w _ hw328_3)).trans hw328_3), ((HB.out.cell (World.block_lt_of_cell? w _ hw328_4)).trans hw328_4)⟩ (fun hHeld => ?_)
                  clear hK K
                  refine norm_ (a' := ?_) ?_ ?_
                  rotate_left
                  · show Act.put _ (some 39) _ = _
                    simp only [Act.put, List.setIfInBounds_toArray, List.set_cons_zero, List.set_cons_succ, i64_w, i32_w]
                    rfl
                  refine pure_ (i := 23) (N := some 40) (v := ?_) (a' := ?_) #[true, true, true, true, true, true, true, true, true, true, true, true, true, true, true, true, true, true, true, true, true, true, true, true, false] rfl rfl (any_of HT_.out (by kernel_rfl)) (fun _ _ _ h => h) (Or.inl ⟨by rfl, ?_⟩) ?_ ?_
                  rotate_left
                  · intro w'
                    go_simp
                    with_reducible rfl
                  rotate_left
                  · simp only [Act.put, List.setIfInBounds_toArray, List.set_cons_zero, List.set_cons_succ, i64_w, i32_w]
                    rfl
                  refine pure_ (i := 24) (N := some 41) (v := ?_) (a' := ?_) #[true, true, true, true, true, true, true, true, true, true, true, true, true, true, true, true, true, true, true, true, true, true, true, true, true] rfl rfl (any_of HT_.out (by kernel_rfl)) (fun _ _ _ h => h) (Or.inl ⟨by rfl, ?_⟩) ?_ ?_
                  rotate_left
                  · intro w'
                    go_simp
                    with_reducible rfl
                  rotate_left
                  · simp only [Act.put, List.setIfInBounds_toArray, List.set_cons_zero, List.set_cons_succ, i64_w, i32_w]
                    rfl
                  refine done_ (done_of HT_.out (by kernel_rfl)) ?_
                  try go_wp2
                  go_roundg k1
                  case measure => have := HK1.out; omega
                  case rel => exact ⟨(wrap64 (x5_1 + 1)), (by first | rfl | (simp; done) | (simp [*]; done)), H', ⟨by have := HK1.out; omega⟩, ⟨by repeat (first | (with_reducible first | exact HB.out | apply below_alloc | apply pw_below_drewN | apply below_drew1) | exact HB.out)⟩⟩
                · replace c9 := Bool.eq_false_iff.mpr c9
                  subst c9
                  have H1 : (some false) = some r := by rw [if_neg (show ¬ (false = true) by decide)] at H; exact H
                  clear H
                  have H := H1
                  clear H1
                  obtain rfl := Option.some.inj H
                  try go_wp2
                  have n0_ := Aside0.mk (below_drew1 HB.out)
                  clear HB
                  have HB := n0_
                  clear n0_
                  have p325 : 0 ≤ (x5_1 : Int) := of_decide_eq_true (by first | (with_reducible assumption) | assumption)
                  have q325 : x5_1 < (l0.length : Int) := of_decide_eq_true (by first | (with_reducible assumption) | assumption)
                  obtain ⟨ad325, A325_3, c325_3, A325_4, c325_4, e325, hx325_0, hx325_1, hx325_2, hx325_3, hx325_4, hl325_3, hi325_3, hl325_4, hi325_4⟩ := at_T38 HR0.out x5_1 p325 q325
                  have hw325_4 := hx325_4
                  have hw325_3 := hx325_3
                  have hw325_2 := hx325_2
                  have hw325_1 := hx325_1
                  have hw325_0 := hx325_0
                  cases e325
                  replace hx325_0 := (HB.out.cell (World.block_lt_of_cell? w _ hx325_0)).trans hx325_0
                  replace hx325_1 := (HB.out.cell (World.block_lt_of_cell? w _ hx325_1)).trans hx325_1
                  replace hx325_2 := (HB.out.cell (World.block_lt_of_cell? w _ hx325_2)).trans hx325_2
                  replace hx325_3 := (HB.out.cell (World.block_lt_of_cell? w _ hx325_3)).trans hx325_3
                  replace hx325_4 := (HB.out.cell (World.block_lt_of_cell? w _ hx325_4)).trans hx325_4
                  have HR325_3 := Aside0.mk hi325_3
                  have HC325_3 := Aside0.mk hl325_3
                  clear hi325_3 hl325_3
                  have HR325_4 := Aside0.mk hi325_4
                  have HC325_4 := Aside0.mk hl325_4
                  clear hi325_4 hl325_4
                  replace p325 := eq_true p325
                  replace q325 := eq_true q325
                  have p326 : 0 ≤ (x5_1 : Int) := of_decide_eq_true (by first | (with_reducible assumption) | assumption)
                  have q326 : x5_1 < (l1.length : Int) := of_decide_eq_true (by first | (with_reducible assumption) | assumption)
                  obtain ⟨ad326, A326_3, c326_3, A326_4, c326_4, e326, hx326_0, hx326_1, hx326_2, hx326_3, hx326_4, hl326_3, hi326_3, hl326_4, hi326_4⟩ := at_T38 HR1.out x5_1 p326 q326
                  have hw326_4 := hx326_4
                  have hw326_3 := hx326_3
                  have hw326_2 := hx326_2
                  have hw326_1 := hx326_1
                  have hw326_0 := hx326_0
                  cases e326
                  replace hx326_0 := (HB.out.cell (World.block_lt_of_cell? w _ hx326_0)).trans hx326_0
                  replace hx326_1 := (HB.out.cell (World.block_lt_of_cell? w _ hx326_1)).trans hx326_1
                  replace hx326_2 := (HB.out.cell (World.block_lt_of_cell? w _ hx326_2)).trans hx326_2
                  replace hx326_3 := (HB.out.cell (World.block_lt_of_cell? w _ hx326_3)).trans hx326_3
                  replace hx326_4 := (HB.out.cell (World.block_lt_of_cell? w _ hx326_4)).trans hx326_4
                  have HR326_3 := Aside0.mk hi326_3
                  have HC326_3 := Aside0.mk hl326_3
                  clear hi326_3 hl326_3
                  have HR326_4 := Aside0.mk hi326_4
                  have HC326_4 := Aside0.mk hl326_4
                  clear hi326_4 hl326_4
                  replace p326 := eq_true p326
                  replace q326 := eq_true q326
                  have p327 : 0 ≤ (x5_1 : Int) := of_decide_eq_true (by first | (with_reducible assumption) | assumption)
                  have q327 : x5_1 < (l0.length : Int) := of_decide_eq_true (by first | (with_reducible assumption) | assumption)
                  obtain ⟨ad327, A327_3, c327_3, A327_4, c327_4, e327, hx327_0, hx327_1, hx327_2, hx327_3, hx327_4, hl327_3, hi327_3, hl327_4, hi327_4⟩ := at_T38 HR0.out x5_1 p327 q327
                  have hw327_4 := hx327_4
                  have hw327_3 := hx327_3
                  have hw327_2 := hx327_2
                  have hw327_1 := hx327_1
                  have hw327_0 := hx327_0
                  obtain rfl : ad325 = ad327 := (by injection e327)
                  replace hx327_0 := (HB.out.cell (World.block_lt_of_cell? w _ hx327_0)).trans hx327_0
                  replace hx327_1 := (HB.out.cell (World.block_lt_of_cell? w _ hx327_1)).trans hx327_1
                  replace hx327_2 := (HB.out.cell (World.block_lt_of_cell? w _ hx327_2)).trans hx327_2
                  replace hx327_3 := (HB.out.cell (World.block_lt_of_cell? w _ hx327_3)).trans hx327_3
                  replace hx327_4 := (HB.out.cell (World.block_lt_of_cell? w _ hx327_4)).trans hx327_4
                  have HR327_3 := Aside0.mk hi327_3
                  have HC327_3 := Aside0.mk hl327_3
                  clear hi327_3 hl327_3
                  have HR327_4 := Aside0.mk hi327_4
                  have HC327_4 := Aside0.mk hl327_4
                  clear hi327_4 hl327_4
                  replace p327 := eq_true p327
                  replace q327 := eq_true q327
                  have ea_ := Option.some.inj (hx325_3.symm.trans hx327_3)
                  injection ea_ with ea_ en_ ec_
                  subst ea_
                  subst ec_
                  clear en_
                  have ea_ := Option.some.inj (hx325_4.symm.trans hx327_4)
                  injection ea_ with ea_ en_ ec_
                  subst ea_
                  subst ec_
                  clear en_
                  have p328 : 0 ≤ (x5_1 : Int) := of_decide_eq_true (by first | (with_reducible assumption) | assumption)
                  have q328 : x5_1 < (l1.length : Int) := of_decide_eq_true (by first | (with_reducible assumption) | assumption)
                  obtain ⟨ad328, A328_3, c328_3, A328_4, c328_4, e328, hx328_0, hx328_1, hx328_2, hx328_3, hx328_4, hl328_3, hi328_3, hl328_4, hi328_4⟩ := at_T38 HR1.out x5_1 p328 q328
                  have hw328_4 := hx328_4
                  have hw328_3 := hx328_3
                  have hw328_2 := hx328_2
                  have hw328_1 := hx328_1
                  have hw328_0 := hx328_0
                  obtain rfl : ad326 = ad328 := (by injection e328)
                  replace hx328_0 := (HB.out.cell (World.block_lt_of_cell? w _ hx328_0)).trans hx328_0
                  replace hx328_1 := (HB.out.cell (World.block_lt_of_cell? w _ hx328_1)).trans hx328_1
                  replace hx328_2 := (HB.out.cell (World.block_lt_of_cell? w _ hx328_2)).trans hx328_2
                  replace hx328_3 := (HB.out.cell (World.block_lt_of_cell? w _ hx328_3)).trans hx328_3
                  replace hx328_4 := (HB.out.cell (World.block_lt_of_cell? w _ hx328_4)).trans hx328_4
                  have HR328_3 := Aside0.mk hi328_3
                  have HC328_3 := Aside0.mk hl328_3
                  clear hi328_3 hl328_3
                  have HR328_4 := Aside0.mk hi328_4
                  have HC328_4 := Aside0.mk hl328_4
                  clear hi328_4 hl328_4
                  replace p328 := eq_true p328
                  replace q328 := eq_true q328
                  have ea_ := Option.some.inj (hx326_3.symm.trans hx328_3)
                  injection ea_ with ea_ en_ ec_
                  subst ea_
                  subst ec_
                  clear en_
                  have ea_ := Option.some.inj (hx326_4.symm.trans hx328_4)
                  injection ea_ with ea_ en_ ec_
                  subst ea_
                  subst ec_
                  clear en_
                  refine start_ (n := 25) (S := fun w' => w'.cell? (ad325.add ((x5_1).toNat * 5)) = some (.string ((rd_T38 l0 x5_1).f0)) ∧ w'.cell? ⟨(ad325.add ((x5_1).toNat * 5)).block, (ad325.add ((x5_1).toNat * 5)).off + 1, none⟩ = some (.int .i64 ((rd_T38 l0 x5_1).f1.f0)) ∧ w'.cell? ⟨(ad325.add ((x5_1).toNat * 5)).block, (ad325.add ((x5_1).toNat * 5)).off + 2, none⟩ = some (.string ((rd_T38 l0 x5_1).f1.f1)) ∧ w'.cell? ⟨(ad325.add ((x5_1).toNat * 5)).block, (ad325.add ((x5_1).toNat * 5)).off + 3, none⟩ = some (.slice A325_3 ((rd_T38 l0 x5_1).f1.f2).length c325_3) ∧ w'.cell? ⟨(ad325.add ((x5_1).toNat * 5)).block, (ad325.add ((x5_1).toNat * 5)).off + 4, none⟩ = some (.slice A325_4 ((rd_T38 l0 x5_1).f1.f3).length c325_4) ∧ w'.cell? (ad326.add ((x5_1).toNat * 5)) = some (.string ((rd_T38 l1 x5_1).f0)) ∧ w'.cell? ⟨(ad326.add ((x5_1).toNat * 5)).block, (ad326.add ((x5_1).toNat * 5)).off + 1, none⟩ = some (.int .i64 ((rd_T38 l1 x5_1).f1.f0)) ∧ w'.cell? ⟨(ad326.add ((x5_1).toNat * 5)).block, (ad326.add ((x5_1).toNat * 5)).off + 2, none⟩ = some (.string ((rd_T38 l1 x5_1).f1.f1)) ∧ w'.cell? ⟨(ad326.add ((x5_1).toNat * 5)).block, (ad326.add ((x5_1).toNat * 5)).off + 3, none⟩ = some (.slice A326_3 ((rd_T38 l1 x5_1).f1.f2).length c326_3) ∧ w'.cell? ⟨(ad326.add ((x5_1).toNat * 5)).block, (ad326.add ((x5_1).toNat * 5)).off + 4, none⟩ = some (.slice A326_4 ((rd_T38 l1 x5_1).f1.f3).length c326_4) ∧ w'.cell? (ad325.add ((x5_1).toNat * 5)) = some (.string ((rd_T38 l0 x5_1).f0)) ∧ w'.cell? ⟨(ad325.add ((x5_1).toNat * 5)).block, (ad325.add ((x5_1).toNat * 5)).off + 1, none⟩ = some (.int .i64 ((rd_T38 l0 x5_1).f1.f0)) ∧ w'.cell? ⟨(ad325.add ((x5_1).toNat * 5)).block, (ad325.add ((x5_1).toNat * 5)).off + 2, none⟩ = some (.string ((rd_T38 l0 x5_1).f1.f1)) ∧ w'.cell? ⟨(ad325.add ((x5_1).toNat * 5)).block, (ad325.add ((x5_1).toNat * 5)).off + 3, none⟩ = some (.slice A325_3 ((rd_T38 l0 x5_1).f1.f2).length c325_3) ∧ w'.cell? ⟨(ad325.add ((x5_1).toNat * 5)).block, (ad325.add ((x5_1).toNat * 5)).off + 4, none⟩ = some (.slice A325_4 ((rd_T38 l0 x5_1).f1.f3).length c325_4) ∧ w'.cell? (ad326.add ((x5_1).toNat * 5)) = some (.string ((rd_T38 l1 x5_1).f0)) ∧ w'.cell? ⟨(ad326.add ((x5_1).toNat * 5)).block, (ad326.add ((x5_1).toNat * 5)).off + 1, none⟩ = some (.int .i64 ((rd_T38 l1 x5_1).f1.f0)) ∧ w'.cell? ⟨(ad326.add ((x5_1).toNat * 5)).block, (ad326.add ((x5_1).toNat * 5)).off + 2, none⟩ = some (.string ((rd_T38 l1 x5_1).f1.f1)) ∧ w'.cell? ⟨(ad326.add ((x5_1).toNat * 5)).block, (ad326.add ((x5_1).toNat * 5)).off + 3, none⟩ = some (.slice A326_3 ((rd_T38 l1 x5_1).f1.f2).length c326_3) ∧ w'.cell? ⟨(ad326.add ((x5_1).toNat * 5)).block, (ad326.add ((x5_1).toNat * 5)).off + 4, none⟩ = some (.slice A326_4 ((rd_T38 l1 x5_1).f1.f3).length c326_4)) (ds := []) #[false, false, false, false, false, false, false, false, false, false, false, false, false, false, false, false, false, false, false, false, false, false, false, false, false] (by kernel_rfl) rfl rfl ⟨((HB.out.cell (World.block_lt_of_cell? w _ hw325_0)).trans hw325_0), ((HB.out.cell (World.block_lt_of_cell? w _ hw325_1)).trans hw325_1), ((HB.out.cell (World.block_lt_of_cell? w _ hw325_2)).trans hw325_2), ((HB.out.cell (World.block_lt_of_cell? w _ hw325_3)).trans hw325_3), ((HB.out.cell (World.block_lt_of_cell? w _ hw325_4)).trans hw325_4), ((HB.out.cell (World.block_lt_of_cell? w _ hw326_0)).trans hw326_0), ((HB.out.cell (World.block_lt_of_cell? w _ hw326_1)).trans hw326_1), ((HB.out.cell (World.block_lt_of_cell? w _ hw326_2)).trans hw326_2), ((HB.out.cell (World.block_lt_of_cell? w _ hw326_3)).trans hw326_3), ((HB.out.cell (World.block_lt_of_cell? w _ hw326_4)).trans hw326_4), ((HB.out.cell (World.block_lt_of_cell? w _ hw327_0)).trans hw327_0), ((HB.out.cell (World.block_lt_of_cell? w _ hw327_1)).trans hw327_1), ((HB.out.cell (World.block_lt_of_cell? w _ hw327_2)).trans hw327_2), ((HB.out.cell (World.block_lt_of_cell? w _ hw327_3)).trans hw327_3), ((HB.out.cell (World.block_lt_of_cell? w _ hw327_4)).trans hw327_4), ((HB.out.cell (World.block_lt_of_cell? w _ hw328_0)).trans hw328_0), ((HB.out.cell (World.block_lt_of_cell? w _ hw328_1)).trans hw328_1), ((HB.out.cell (World.block_lt_of_cell? w _ hw328_2)).trans hw328_2), ((HB.out.cell (World.block_lt_of_cell? w _ hw328_3)).trans hw328_3), ((HB.out.cell (World.block_lt_of_cell? w _ hw328_4)).trans hw328_4)⟩ (fun hHeld => ?_); refine with_tabW phalaroperef09_Very.tab6 phalaroperef09_Very.bits6 (fun HT_ HW_ => ?_)
                  generalize wr.drew = w12 at HB HR325_3 HR325_4 HR326_3 HR326_4 HR327_3 HR327_4 HR328_3 HR328_4 hx325_0 hx325_1 hx325_2 hx325_3 hx325_4 hx326_0 hx326_1 hx326_2 hx326_3 hx326_4 hx327_0 hx327_1 hx327_2 hx327_3 hx327_4 hx328_0 hx328_1 hx328_2 hx328_3 hx328_4 hHeld ⊢
                  refine pure_ (i := 0) (N := some 17) (v := ?_) (a' := ?_) #[true, false, false, false, false, false, false, false, false, false, false, false, false, false, false, false, false, false, false, false, false, false, false, false, false] rfl rfl (any_of HT_.out (by kernel_rfl)) (fun _ _ _ h => h) (Or.inl ⟨by rfl, ?_⟩) ?_ ?_
                  rotate_left
                  · intro w'
                    go_simp
                    with_reducible rfl
                  rotate_left
                  · simp only [Act.put, List.setIfInBounds_toArray, List.set_cons_zero, List.set_cons_succ, i64_w, i32_w]
                    rfl
                  refine pure_ (i := 1) (N := some 18) (v := ?_) (a' := ?_) #[true, true, false, false, false, false, false, false, false, false, false, false, false, false, false, false, false, false, false, false, false, false, false, false, false] rfl rfl (any_of HT_.out (by kernel_rfl)) (fun _ _ _ h => h) (Or.inl ⟨by rfl, ?_⟩) ?_ ?_
                  rotate_left
                  · intro w'
                    go_simp
                    with_reducible rfl
                  rotate_left
                  · simp only [Act.put, List.setIfInBounds_toArray, List.set_cons_zero, List.set_cons_succ, i64_w, i32_w]
                    rfl
                  refine pure_ (i := 2) (N := some 19) (v := ?_) (a' := ?_) #[true, true, true, false, false, false, false, false, false, false, false, false, false, false, false, false, false, false, false, false, false, false, false, false, false] rfl rfl (any_of HT_.out (by kernel_rfl)) (fun _ _ _ h => h) (Or.inl ⟨by rfl, ?_⟩) ?_ ?_
                  rotate_left
                  · intro w'
                    go_simp
                    with_reducible rfl
                  rotate_left
                  · simp only [Act.put, List.setIfInBounds_toArray, List.set_cons_zero, List.set_cons_succ, i64_w, i32_w]
                    rfl
                  refine pure_ (i := 3) (N := some 20) (v := ?_) (a' := ?_) #[true, true, true, true, false, false, false, false, false, false, false, false, false, false, false, false, false, false, false, false, false, false, false, false, false] rfl rfl (any_of HT_.out (by kernel_rfl)) (fun _ _ _ h => h) (Or.inl ⟨by rfl, ?_⟩) ?_ ?_
                  rotate_left
                  · intro w'
                    go_simp
                    with_reducible rfl
                  rotate_left
                  · simp only [Act.put, List.setIfInBounds_toArray, List.set_cons_zero, List.set_cons_succ, i64_w, i32_w]
                    rfl
                  refine pure_ (i := 5) (N := some 22) (v := ?_) (a' := ?_) #[true, true, true, true, false, true, false, false, false, false, false, false, false, false, false, false, false, false, false, false, false, false, false, false, false] rfl rfl (any_of HT_.out (by kernel_rfl)) (fun _ _ _ h => h) (Or.inl ⟨by rfl, ?_⟩) ?_ ?_
                  rotate_left
                  · intro w'
                    go_simp
                    with_reducible rfl
                  rotate_left
                  · simp only [Act.put, List.setIfInBounds_toArray, List.set_cons_zero, List.set_cons_succ, i64_w, i32_w]
                    rfl
                  refine pure_ (i := 6) (N := some 23) (v := ?_) (a' := ?_) #[true, true, true, true, false, true, true, false, false, false, false, false, false, false, false, false, false, false, false, false, false, false, false, false, false] rfl rfl (any_of HT_.out (by kernel_rfl)) (fun _ _ _ h => h) (Or.inl ⟨by rfl, ?_⟩) ?_ ?_
                  rotate_left
                  · intro w'
                    go_simp
                    with_reducible rfl
                  rotate_left
                  · simp only [Act.put, List.setIfInBounds_toArray, List.set_cons_zero, List.set_cons_succ, i64_w, i32_w]
                    rfl
                  refine pure_ (i := 7) (N := some 24) (v := ?_) (a' := ?_) #[true, true, true, true, false, true, true, true, false, false, false, false, false, false, false, false, false, false, false, false, false, false, false, false, false] rfl rfl (any_of HT_.out (by kernel_rfl)) (fun _ _ _ h => h) (Or.inl ⟨by rfl, ?_⟩) ?_ ?_
                  rotate_left
                  · intro w'
                    go_simp
                    with_reducible rfl
                  rotate_left
                  · simp only [Act.put, List.setIfInBounds_toArray, List.set_cons_zero, List.set_cons_succ, i64_w, i32_w]
                    rfl
                  refine pure_ (i := 8) (N := some 25) (v := ?_) (a' := ?_) #[true, true, true, true, false, true, true, true, true, false, false, false, false, false, false, false, false, false, false, false, false, false, false, false, false] rfl rfl (any_of HT_.out (by kernel_rfl)) (fun _ _ _ h => h) (Or.inl ⟨by rfl, ?_⟩) ?_ ?_
                  rotate_left
                  · intro w'
                    go_simp
                    with_reducible rfl
                  rotate_left
                  · simp only [Act.put, List.setIfInBounds_toArray, List.set_cons_zero, List.set_cons_succ, i64_w, i32_w]
                    rfl
                  refine take_ (i := 4) (N := some 21) (v := ?_) (a' := ?_) #[true, true, true, true, true, true, true, true, true, false, false, false, false, false, false, false, false, false, false, false, false, false, false, false, false] rfl rfl (take_ofW HT_.out HW_.out (by kernel_rfl)) (fun _ _ _ h => h) (Or.inl ⟨by rfl, ?_⟩) hHeld ?_ ?_
                  rotate_left
                  · rintro w' ⟨s0, s1, s2, s3, s4, s5, s6, s7, s8, s9, s10, s11, s12, s13, s14, s15, s16, s17, s18, s19⟩
                    go_simp
                    with_reducible rfl
                  rotate_left
                  · simp only [Act.put, List.setIfInBounds_toArray, List.set_cons_zero, List.set_cons_succ, i64_w, i32_w]
                    rfl
                  refine take_ (i := 9) (N := some 26) (v := ?_) (a' := ?_) #[true, true, true, true, true, true, true, true, true, true, false, false, false, false, false, false, false, false, false, false, false, false, false, false, false] rfl rfl (take_ofW HT_.out HW_.out (by kernel_rfl)) (fun _ _ _ h => h) (Or.inl ⟨by rfl, ?_⟩) hHeld ?_ ?_
                  rotate_left
                  · rintro w' ⟨s0, s1, s2, s3, s4, s5, s6, s7, s8, s9, s10, s11, s12, s13, s14, s15, s16, s17, s18, s19⟩
                    go_simp
                    with_reducible rfl
                  rotate_left
                  · simp only [Act.put, List.setIfInBounds_toArray, List.set_cons_zero, List.set_cons_succ, i64_w, i32_w]
                    rfl
                  refine pure_ (i := 10) (N := some 27) (v := ?_) (a' := ?_) #[true, true, true, true, true, true, true, true, true, true, true, false, false, false, false, false, false, false, false, false, false, false, false, false, false] rfl rfl (any_of HT_.out (by kernel_rfl)) (fun _ _ _ h => h) (Or.inl ⟨by rfl, ?_⟩) ?_ ?_
                  rotate_left
                  · intro w'
                    go_simp
                    with_reducible rfl
                  rotate_left
                  · simp only [Act.put, List.setIfInBounds_toArray, List.set_cons_zero, List.set_cons_succ, i64_w, i32_w]
                    rfl
                  refine pure_ (i := 11) (N := some 28) (v := ?_) (a' := ?_) #[true, true, true, true, true, true, true, true, true, true, true, true, false, false, false, false, false, false, false, false, false, false, false, false, false] rfl rfl (any_of HT_.out (by kernel_rfl)) (fun _ _ _ h => h) (Or.inl ⟨by rfl, ?_⟩) ?_ ?_
                  rotate_left
                  · intro w'
                    go_simp
                    with_reducible rfl
                  rotate_left
                  · simp only [Act.put, List.setIfInBounds_toArray, List.set_cons_zero, List.set_cons_succ, i64_w, i32_w]
                    rfl
                  refine pure_ (i := 12) (N := some 29) (v := ?_) (a' := ?_) #[true, true, true, true, true, true, true, true, true, true, true, true, true, false, false, false, false, false, false, false, false, false, false, false, false] rfl rfl (any_of HT_.out (by kernel_rfl)) (fun _ _ _ h => h) (Or.inl ⟨by rfl, ?_⟩) ?_ ?_
                  rotate_left
                  · intro w'
                    go_simp
                    with_reducible rfl
                  rotate_left
                  · simp only [Act.put, List.setIfInBounds_toArray, List.set_cons_zero, List.set_cons_succ, i64_w, i32_w]
                    rfl
                  refine pure_ (i := 13) (N := some 30) (v := ?_) (a' := ?_) #[true, true, true, true, true, true, true, true, true, true, true, true, true, true, false, false, false, false, false, false, false, false, false, false, false] rfl rfl (any_of HT_.out (by kernel_rfl)) (fun _ _ _ h => h) (Or.inl ⟨by rfl, ?_⟩) ?_ ?_
                  rotate_left
                  · intro w'
                    go_simp
                    with_reducible rfl
                  rotate_left
                  · simp only [Act.put, List.setIfInBounds_toArray, List.set_cons_zero, List.set_cons_succ, i64_w, i32_w]
                    rfl
                  refine pure_ (i := 14) (N := some 31) (v := ?_) (a' := ?_) #[true, true, true, true, true, true, true, true, true, true, true, true, true, true, true, false, false, false, false, false, false, false, false, false, false] rfl rfl (any_of HT_.out (by kernel_rfl)) (fun _ _ _ h => h) (Or.inl ⟨by rfl, ?_⟩) ?_ ?_
                  rotate_left
                  · intro w'
                    go_simp
                    with_reducible rfl
                  rotate_left
                  · simp only [Act.put, List.setIfInBounds_toArray, List.set_cons_zero, List.set_cons_succ, i64_w, i32_w]
                    rfl
                  refine pure_ (i := 15) (N := some 32) (v := ?_) (a' := ?_) #[true, true, true, true, true, true, true, true, true, true, true, true, true, true, true, true, false, false, false, false, false, false, false, false, false] rfl rfl (any_of HT_.out (by kernel_rfl)) (fun _ _ _ h => h) (Or.inl ⟨by rfl, ?_⟩) ?_ ?_
                  rotate_left
                  · intro w'
                    go_simp
                    with_reducible rfl
                  rotate_left
                  · simp only [Act.put, List.setIfInBounds_toArray, List.set_cons_zero, List.set_cons_succ, i64_w, i32_w]
                    rfl
                  refine pure_ (i := 17) (N := some 34) (v := ?_) (a' := ?_) #[true, true, true, true, true, true, true, true, true, true, true, true, true, true, true, true, false, true, false, false, false, false, false, false, false] rfl rfl (any_of HT_.out (by kernel_rfl)) (fun _ _ _ h => h) (Or.inl ⟨by rfl, ?_⟩) ?_ ?_
                  rotate_left
                  · intro w'
                    go_simp
                    with_reducible rfl
                  rotate_left
                  · simp only [Act.put, List.setIfInBounds_toArray, List.set_cons_zero, List.set_cons_succ, i64_w, i32_w]
                    rfl
                  refine pure_ (i := 18) (N := some 35) (v := ?_) (a' := ?_) #[true, true, true, true, true, true, true, true, true, true, true, true, true, true, true, true, false, true, true, false, false, false, false, false, false] rfl rfl (any_of HT_.out (by kernel_rfl)) (fun _ _ _ h => h) (Or.inl ⟨by rfl, ?_⟩) ?_ ?_
                  rotate_left
                  · intro w'
                    go_simp
                    with_reducible rfl
                  rotate_left
                  · simp only [Act.put, List.setIfInBounds_toArray, List.set_cons_zero, List.set_cons_succ, i64_w, i32_w]
                    rfl
                  refine pure_ (i := 19) (N := some 36) (v := ?_) (a' := ?_) #[true, true, true, true, true, true, true, true, true, true, true, true, true, true, true, true, false, true, true, true, false, false, false, false, false] rfl rfl (any_of HT_.out (by kernel_rfl)) (fun _ _ _ h => h) (Or.inl ⟨by rfl, ?_⟩) ?_ ?_
                  rotate_left
                  · intro w'
                    go_simp
                    with_reducible rfl
                  rotate_left
                  · simp only [Act.put, List.setIfInBounds_toArray, List.set_cons_zero, List.set_cons_succ, i64_w, i32_w]
                    rfl
                  refine pure_ (i := 20) (N := some 37) (v := ?_) (a' := ?_) #[true, true, true, true, true, true, true, true, true, true, true, true, true, true, true, true, false, true, true, true, true, false, false, false, false] rfl rfl (any_of HT_.out (by kernel_rfl)) (fun _ _ _ h => h) (Or.inl ⟨by rfl, ?_⟩) ?_ ?_
                  rotate_left
                  · intro w'
                    go_simp
                    with_reducible rfl
                  rotate_left
                  · simp only [Act.put, List.setIfInBounds_toArray, List.set_cons_zero, List.set_cons_succ, i64_w, i32_w]
                    rfl
                  refine take_ (i := 16) (N := some 33) (v := ?_) (a' := ?_) #[true, true, true, true, true, true, true, true, true, true, true, true, true, true, true, true, true, true, true, true, true, false, false, false, false] rfl rfl (take_ofW HT_.out HW_.out (by kernel_rfl)) (fun _ _ _ h => h) (Or.inl ⟨by rfl, ?_⟩) hHeld ?_ ?_
                  rotate_left
                  · rintro w' ⟨s0, s1, s2, s3, s4, s5, s6, s7, s8, s9, s10, s11, s12, s13, s14, s15, s16, s17, s18, s19⟩
                    go_simp
                    with_reducible rfl
                  rotate_left
                  · simp only [Act.put, List.setIfInBounds_toArray, List.set_cons_zero, List.set_cons_succ, i64_w, i32_w]
                    rfl
                  refine take_ (i := 21) (N := some 38) (v := ?_) (a' := ?_) #[true, true, true, true, true, true, true, true, true, true, true, true, true, true, true, true, true, true, true, true, true, true, false, false, false] rfl rfl (take_ofW HT_.out HW_.out (by kernel_rfl)) (fun _ _ _ h => h) (Or.inl ⟨by rfl, ?_⟩) hHeld ?_ ?_
                  rotate_left
                  · rintro w' ⟨s0, s1, s2, s3, s4, s5, s6, s7, s8, s9, s10, s11, s12, s13, s14, s15, s16, s17, s18, s19⟩
                    go_simp
                    with_reducible rfl
                  rotate_left
                  · simp only [Act.put, List.setIfInBounds_toArray, List.set_cons_zero, List.set_cons_succ, i64_w, i32_w]
                    rfl
                  refine one_ (i := 22) (N := some 39) #[true, true, true, true, true, true, true, true, true, true, true, true, true, true, true, true, true, true, true, true, true, true, true, false, false] rfl rfl (one_of HT_.out (by kernel_rfl)) (by decide) (fun K hK => ?_)
                  refine goes_ Try.func13 (by kernel_rfl) rfl #[.agg #[.int .i64 ((rd_T38 l0 x5_1).f1.f0), .string ((rd_T38 l0 x5_1).f1.f1), .slice A325_3 ((rd_T38 l0 x5_1).f1.f2).length c325_3, .slice A325_4 ((rd_T38 l0 x5_1).f1.f3).length c325_4], .agg #[.int .i64 ((rd_T38 l1 x5_1).f1.f0), .string ((rd_T38 l1 x5_1).f1.f1), .slice A326_3 ((rd_T38 l1 x5_1).f1.f2).length c326_3, .slice A326_4 ((rd_T38 l1 x5_1).f1.f3).length c326_4]] (by rfl) rfl rfl (by (try simp only [List.map_toArray, List.map_cons, List.map_nil]); first | done | rfl | (simp only [List.length_drop, List.length_take]; rfl)) ?_
                  with_reducible refine (phalaroperef08_Very.calls k1 ((rd_T38 l0 x5_1).f1.f0) ((rd_T38 l0 x5_1).f1.f1) _ _ ((rd_T38 l0 x5_1).f1.f2) _ _ ((rd_T38 l0 x5_1).f1.f3) ((rd_T38 l1 x5_1).f1.f0) ((rd_T38 l1 x5_1).f1.f1) _ _ ((rd_T38 l1 x5_1).f1.f2) _ _ ((rd_T38 l1 x5_1).f1.f3) false _ ?side1 ?side2 ?side3 ?side4 ?side5 ?side6 ?side7 ?side8 A8.out).mono ?_
                  (case side1 => repeat (first | exact (Kd.C_below HR327_3.out HB.out) | (with_reducible refine Kd.C_alloc ?_ _) | (with_reducible refine Kd.C_drewN ?_ _) | (with_reducible refine Kd.C_drew ?_)))
                  (case side2 => exact HC327_3.out)
                  (case side3 => repeat (first | exact (Kd.C_below HR327_4.out HB.out) | (with_reducible refine Kd.C_alloc ?_ _) | (with_reducible refine Kd.C_drewN ?_ _) | (with_reducible refine Kd.C_drew ?_)))
                  (case side4 => exact HC327_4.out)
                  (case side5 => repeat (first | exact (Kd.C_below HR328_3.out HB.out) | (with_reducible refine Kd.C_alloc ?_ _) | (with_reducible refine Kd.C_drewN ?_ _) | (with_reducible refine Kd.C_drew ?_)))
                  (case side6 => exact HC328_3.out)
                  (case side7 => repeat (first | exact (Kd.C_below HR328_4.out HB.out) | (with_reducible refine Kd.C_alloc ?_ _) | (with_reducible refine Kd.C_drewN ?_ _) | (with_reducible refine Kd.C_drew ?_)))
                  (case side8 => exact HC328_4.out)
                  rintro e w13 ⟨rfl, hb⟩
                  refine ⟨_, rfl, ?_⟩
                  have n0_ := Aside0.mk (below_step (by repeat (first | (with_reducible first | exact HB.out | apply below_alloc | apply pw_below_drewN | apply below_drew1) | exact HB.out)) hb)
                  clear HB
                  have HB := n0_
                  clear n0_
                  (try clear hb)
                  (try clear hb2)
                  (try clear hk)
                  (try clear hi)
                  refine hK.out _ _ ⟨((HB.out.cell (World.block_lt_of_cell? w _ hw325_0)).trans hw325_0), ((HB.out.cell (World.block_lt_of_cell? w _ hw325_1)).trans hw325_1), ((HB.out.cell (World.block_lt_of_cell? w _ hw325_2)).trans hw325_2), ((HB.out.cell (World.block_lt_of_cell? w _ hw325_3)).trans hw325_3), ((HB.out.cell (World.block_lt_of_cell? w _ hw325_4)).trans hw325_4), ((HB.out.cell (World.block_lt_of_cell? w _ hw326_0)).trans hw326_0), ((HB.out.cell (World.block_lt_of_cell? w _ hw326_1)).trans hw326_1), ((HB.out.cell (World.block_lt_of_cell? w _ hw326_2)).trans hw326_2), ((HB.out.cell (World.block_lt_of_cell? w _ hw326_3)).trans hw326_3), ((HB.out.cell (World.block_lt_of_cell? w _ hw326_4)).trans hw326_4), ((HB.out.cell (World.block_lt_of_cell? w _ hw327_0)).trans hw327_0), ((HB.out.cell (World.block_lt_of_cell? w _ hw327_1)).trans hw327_1), ((HB.out.cell (World.block_lt_of_cell? w _ hw327_2)).trans hw327_2), ((HB.out.cell (World.block_lt_of_cell? w _ hw327_3)).trans hw327_3), ((HB.out.cell (World.block_lt_of_cell? w _ hw327_4)).trans hw327_4), ((HB.out.cell (World.block_lt_of_cell? w _ hw328_0)).trans hw328_0), ((HB.out.cell (World.block_lt_of_cell? w _ hw328_1)).trans hw328_1), ((HB.out.cell (World.block_lt_of_cell? w _ hw328_2)).trans hw328_2), ((HB.out.cell (World.block_lt_of_cell? w _ hw328_3)).trans hw328_3), ((HB.out.cell (World.block_lt_of_cell? w _ hw328_4)).trans hw328_4)⟩ (fun hHeld => ?_)
                  clear hK K
                  refine norm_ (a' := ?_) ?_ ?_
                  rotate_left
                  · show Act.put _ (some 39) _ = _
                    simp only [Act.put, List.setIfInBounds_toArray, List.set_cons_zero, List.set_cons_succ, i64_w, i32_w]
                    rfl
                  refine pure_ (i := 23) (N := some 40) (v := ?_) (a' := ?_) #[true, true, true, true, true, true, true, true, true, true, true, true, true, true, true, true, true, true, true, true, true, true, true, true, false] rfl rfl (any_of HT_.out (by kernel_rfl)) (fun _ _ _ h => h) (Or.inl ⟨by rfl, ?_⟩) ?_ ?_
                  rotate_left
                  · intro w'
                    go_simp
                    with_reducible rfl
                  rotate_left
                  · simp only [Act.put, List.setIfInBounds_toArray, List.set_cons_zero, List.set_cons_succ, i64_w, i32_w]
                    rfl
                  refine pure_ (i := 24) (N := some 41) (v := ?_) (a' := ?_) #[true, true, true, true, true, true, true, true, true, true, true, true, true, true, true, true, true, true, true, true, true, true, true, true, true] rfl rfl (any_of HT_.out (by kernel_rfl)) (fun _ _ _ h => h) (Or.inl ⟨by rfl, ?_⟩) ?_ ?_
                  rotate_left
                  · intro w'
                    go_simp
                    with_reducible rfl
                  rotate_left
                  · simp only [Act.put, List.setIfInBounds_toArray, List.set_cons_zero, List.set_cons_succ, i64_w, i32_w]
                    rfl
                  refine done_ (done_of HT_.out (by kernel_rfl)) ?_
                  try go_wp2
                  go_ret
                  exact ⟨by first | rfl | (simp [errW_none, errW_some] <;> rfl) | (simp [*, errW_none, errW_some] <;> rfl), by repeat (first | (with_reducible first | exact HB.out | apply below_alloc | apply pw_below_drewN | apply below_drew1) | exact HB.out)⟩
              · rw [if_neg c7] at H
                have c7b0 : (((rd_T38 l0 x5_1).f0).toList == ((rd_T38 l1 x5_1).f0).toList) = false := beq_eq_false_iff_ne.mpr c7
                have c7b1 : (((rd_T38 l0 x5_1).f0).toList != ((rd_T38 l1 x5_1).f0).toList) = true := bne_iff_ne.mpr c7
                obtain rfl := Option.some.inj H
                try go_wp2
                have n0_ := Aside0.mk (below_drew1 HB.out)
                clear HB
                have HB := n0_
                clear n0_
                have p325 : 0 ≤ (x5_1 : Int) := of_decide_eq_true (by first | (with_reducible assumption) | assumption)
                have q325 : x5_1 < (l0.length : Int) := of_decide_eq_true (by first | (with_reducible assumption) | assumption)
                obtain ⟨ad325, A325_3, c325_3, A325_4, c325_4, e325, hx325_0, hx325_1, hx325_2, hx325_3, hx325_4, hl325_3, hi325_3, hl325_4, hi325_4⟩ := at_T38 HR0.out x5_1 p325 q325
                have hw325_4 := hx325_4
                have hw325_3 := hx325_3
                have hw325_2 := hx325_2
                have hw325_1 := hx325_1
                have hw325_0 := hx325_0
                cases e325
                replace hx325_0 := (HB.out.cell (World.block_lt_of_cell? w _ hx325_0)).trans hx325_0
                replace hx325_1 := (HB.out.cell (World.block_lt_of_cell? w _ hx325_1)).trans hx325_1
                replace hx325_2 := (HB.out.cell (World.block_lt_of_cell? w _ hx325_2)).trans hx325_2
                replace hx325_3 := (HB.out.cell (World.block_lt_of_cell? w _ hx325_3)).trans hx325_3
                replace hx325_4 := (HB.out.cell (World.block_lt_of_cell? w _ hx325_4)).trans hx325_4
                have HR325_3 := Aside0.mk hi325_3
                have HC325_3 := Aside0.mk hl325_3
                clear hi325_3 hl325_3
                have HR325_4 := Aside0.mk hi325_4
                have HC325_4 := Aside0.mk hl325_4
                clear hi325_4 hl325_4
                replace p325 := eq_true p325
                replace q325 := eq_true q325
                have p326 : 0 ≤ (x5_1 : Int) := of_decide_eq_true (by first | (with_reducible assumption) | assumption)
                have q326 : x5_1 < (l1.length : Int) := of_decide_eq_true (by first | (with_reducible assumption) | assumption)
                obtain ⟨ad326, A326_3, c326_3, A326_4, c326_4, e326, hx326_0, hx326_1, hx326_2, hx326_3, hx326_4, hl326_3, hi326_3, hl326_4, hi326_4⟩ := at_T38 HR1.out x5_1 p326 q326
                have hw326_4 := hx326_4
                have hw326_3 := hx326_3
                have hw326_2 := hx326_2
                have hw326_1 := hx326_1
                have hw326_0 := hx326_0
                cases e326
                replace hx326_0 := (HB.out.cell (World.block_lt_of_cell? w _ hx326_0)).trans hx326_0
                replace hx326_1 := (HB.out.cell (World.block_lt_of_cell? w _ hx326_1)).trans hx326_1
                replace hx326_2 := (HB.out.cell (World.block_lt_of_cell? w _ hx326_2)).trans hx326_2
                replace hx326_3 := (HB.out.cell (World.block_lt_of_cell? w _ hx326_3)).trans hx326_3
                replace hx326_4 := (HB.out.cell (World.block_lt_of_cell? w _ hx326_4)).trans hx326_4
                have HR326_3 := Aside0.mk hi326_3
                have HC326_3 := Aside0.mk hl326_3
                clear hi326_3 hl326_3
                have HR326_4 := Aside0.mk hi326_4
                have HC326_4 := Aside0.mk hl326_4
                clear hi326_4 hl326_4
                replace p326 := eq_true p326
                replace q326 := eq_true q326
                refine start_ (n := 25) (S := fun w' => w'.cell? (ad325.add ((x5_1).toNat * 5)) = some (.string ((rd_T38 l0 x5_1).f0)) ∧ w'.cell? ⟨(ad325.add ((x5_1).toNat * 5)).block, (ad325.add ((x5_1).toNat * 5)).off + 1, none⟩ = some (.int .i64 ((rd_T38 l0 x5_1).f1.f0)) ∧ w'.cell? ⟨(ad325.add ((x5_1).toNat * 5)).block, (ad325.add ((x5_1).toNat * 5)).off + 2, none⟩ = some (.string ((rd_T38 l0 x5_1).f1.f1)) ∧ w'.cell? ⟨(ad325.add ((x5_1).toNat * 5)).block, (ad325.add ((x5_1).toNat * 5)).off + 3, none⟩ = some (.slice A325_3 ((rd_T38 l0 x5_1).f1.f2).length c325_3) ∧ w'.cell? ⟨(ad325.add ((x5_1).toNat * 5)).block, (ad325.add ((x5_1).toNat * 5)).off + 4, none⟩ = some (.slice A325_4 ((rd_T38 l0 x5_1).f1.f3).length c325_4) ∧ w'.cell? (ad326.add ((x5_1).toNat * 5)) = some (.string ((rd_T38 l1 x5_1).f0)) ∧ w'.cell? ⟨(ad326.add ((x5_1).toNat * 5)).block, (ad326.add ((x5_1).toNat * 5)).off + 1, none⟩ = some (.int .i64 ((rd_T38 l1 x5_1).f1.f0)) ∧ w'.cell? ⟨(ad326.add ((x5_1).toNat * 5)).block, (ad326.add ((x5_1).toNat * 5)).off + 2, none⟩ = some (.string ((rd_T38 l1 x5_1).f1.f1)) ∧ w'.cell? ⟨(ad326.add ((x5_1).toNat * 5)).block, (ad326.add ((x5_1).toNat * 5)).off + 3, none⟩ = some (.slice A326_3 ((rd_T38 l1 x5_1).f1.f2).length c326_3) ∧ w'.cell? ⟨(ad326.add ((x5_1).toNat * 5)).block, (ad326.add ((x5_1).toNat * 5)).off + 4, none⟩ = some (.slice A326_4 ((rd_T38 l1 x5_1).f1.f3).length c326_4)) (ds := []) #[false, false, false, false, false, false, false, false, false, false, false, false, false, false, false, false, false, false, false, false, false, false, false, false, false] (by kernel_rfl) rfl rfl ⟨((HB.out.cell (World.block_lt_of_cell? w _ hw325_0)).trans hw325_0), ((HB.out.cell (World.block_lt_of_cell? w _ hw325_1)).trans hw325_1), ((HB.out.cell (World.block_lt_of_cell? w _ hw325_2)).trans hw325_2), ((HB.out.cell (World.block_lt_of_cell? w _ hw325_3)).trans hw325_3), ((HB.out.cell (World.block_lt_of_cell? w _ hw325_4)).trans hw325_4), ((HB.out.cell (World.block_lt_of_cell? w _ hw326_0)).trans hw326_0), ((HB.out.cell (World.block_lt_of_cell? w _ hw326_1)).trans hw326_1), ((HB.out.cell (World.block_lt_of_cell? w _ hw326_2)).trans hw326_2), ((HB.out.cell (World.block_lt_of_cell? w _ hw326_3)).trans hw326_3), ((HB.out.cell (World.block_lt_of_cell? w _ hw326_4)).trans hw326_4)⟩ (fun hHeld => ?_); refine with_tabW phalaroperef09_Very.tab6 phalaroperef09_Very.bits6 (fun HT_ HW_ => ?_)
                generalize wr.drew = w14 at HB HR325_3 HR325_4 HR326_3 HR326_4 hx325_0 hx325_1 hx325_2 hx325_3 hx325_4 hx326_0 hx326_1 hx326_2 hx326_3 hx326_4 hHeld ⊢
                refine pure_ (i := 0) (N := some 17) (v := ?_) (a' := ?_) #[true, false, false, false, false, false, false, false, false, false, false, false, false, false, false, false, false, false, false, false, false, false, false, false, false] rfl rfl (any_of HT_.out (by kernel_rfl)) (fun _ _ _ h => h) (Or.inl ⟨by rfl, ?_⟩) ?_ ?_
                rotate_left
                · intro w'
                  go_simp
                  with_reducible rfl
                rotate_left
                · simp only [Act.put, List.setIfInBounds_toArray, List.set_cons_zero, List.set_cons_succ, i64_w, i32_w]
                  rfl
                refine pure_ (i := 1) (N := some 18) (v := ?_) (a' := ?_) #[true, true, false, false, false, false, false, false, false, false, false, false, false, false, false, false, false, false, false, false, false, false, false, false, false] rfl rfl (any_of HT_.out (by kernel_rfl)) (fun _ _ _ h => h) (Or.inl ⟨by rfl, ?_⟩) ?_ ?_
                rotate_left
                · intro w'
                  go_simp
                  with_reducible rfl
                rotate_left
                · simp only [Act.put, List.setIfInBounds_toArray, List.set_cons_zero, List.set_cons_succ, i64_w, i32_w]
                  rfl
                refine pure_ (i := 2) (N := some 19) (v := ?_) (a' := ?_) #[true, true, true, false, false, false, false, false, false, false, false, false, false, false, false, false, false, false, false, false, false, false, false, false, false] rfl rfl (any_of HT_.out (by kernel_rfl)) (fun _ _ _ h => h) (Or.inl ⟨by rfl, ?_⟩) ?_ ?_
                rotate_left
                · intro w'
                  go_simp
                  with_reducible rfl
                rotate_left
                · simp only [Act.put, List.setIfInBounds_toArray, List.set_cons_zero, List.set_cons_succ, i64_w, i32_w]
                  rfl
                refine pure_ (i := 3) (N := some 20) (v := ?_) (a' := ?_) #[true, true, true, true, false, false, false, false, false, false, false, false, false, false, false, false, false, false, false, false, false, false, false, false, false] rfl rfl (any_of HT_.out (by kernel_rfl)) (fun _ _ _ h => h) (Or.inl ⟨by rfl, ?_⟩) ?_ ?_
                rotate_left
                · intro w'
                  go_simp
                  with_reducible rfl
                rotate_left
                · simp only [Act.put, List.setIfInBounds_toArray, List.set_cons_zero, List.set_cons_succ, i64_w, i32_w]
                  rfl
                refine pure_ (i := 5) (N := some 22) (v := ?_) (a' := ?_) #[true, true, true, true, false, true, false, false, false, false, false, false, false, false, false, false, false, false, false, false, false, false, false, false, false] rfl rfl (any_of HT_.out (by kernel_rfl)) (fun _ _ _ h => h) (Or.inl ⟨by rfl, ?_⟩) ?_ ?_
                rotate_left
                · intro w'
                  go_simp
                  with_reducible rfl
                rotate_left
                · simp only [Act.put, List.setIfInBounds_toArray, List.set_cons_zero, List.set_cons_succ, i64_w, i32_w]
                  rfl
                refine pure_ (i := 6) (N := some 23) (v := ?_) (a' := ?_) #[true, true, true, true, false, true, true, false, false, false, false, false, false, false, false, false, false, false, false, false, false, false, false, false, false] rfl rfl (any_of HT_.out (by kernel_rfl)) (fun _ _ _ h => h) (Or.inl ⟨by rfl, ?_⟩) ?_ ?_
                rotate_left
                · intro w'
                  go_simp
                  with_reducible rfl
                rotate_left
                · simp only [Act.put, List.setIfInBounds_toArray, List.set_cons_zero, List.set_cons_succ, i64_w, i32_w]
                  rfl
                refine pure_ (i := 7) (N := some 24) (v := ?_) (a' := ?_) #[true, true, true, true, false, true, true, true, false, false, false, false, false, false, false, false, false, false, false, false, false, false, false, false, false] rfl rfl (any_of HT_.out (by kernel_rfl)) (fun _ _ _ h => h) (Or.inl ⟨by rfl, ?_⟩) ?_ ?_
                rotate_left
                · intro w'
                  go_simp
                  with_reducible rfl
                rotate_left
                · simp only [Act.put, List.setIfInBounds_toArray, List.set_cons_zero, List.set_cons_succ, i64_w, i32_w]
                  rfl
                refine pure_ (i := 8) (N := some 25) (v := ?_) (a' := ?_) #[true, true, true, true, false, true, true, true, true, false, false, false, false, false, false, false, false, false, false, false, false, false, false, false, false] rfl rfl (any_of HT_.out (by kernel_rfl)) (fun _ _ _ h => h) (Or.inl ⟨by rfl, ?_⟩) ?_ ?_
                rotate_left
                · intro w'
                  go_simp
                  with_reducible rfl
                rotate_left
                · simp only [Act.put, List.setIfInBounds_toArray, List.set_cons_zero, List.set_cons_succ, i64_w, i32_w]
                  rfl
                refine take_ (i := 4) (N := some 21) (v := ?_) (a' := ?_) #[true, true, true, true, true, true, true, true, true, false, false, false, false, false, false, false, false, false, false, false, false, false, false, false, false] rfl rfl (take_ofW HT_.out HW_.out (by kernel_rfl)) (fun _ _ _ h => h) (Or.inl ⟨by rfl, ?_⟩) hHeld ?_ ?_
                rotate_left
                · rintro w' ⟨s0, s1, s2, s3, s4, s5, s6, s7, s8, s9⟩
                  go_simp
                  with_reducible rfl
                rotate_left
                · simp only [Act.put, List.setIfInBounds_toArray, List.set_cons_zero, List.set_cons_succ, i64_w, i32_w]
                  rfl
                refine take_ (i := 9) (N := some 26) (v := ?_) (a' := ?_) #[true, true, true, true, true, true, true, true, true, true, false, false, false, false, false, false, false, false, false, false, false, false, false, false, false] rfl rfl (take_ofW HT_.out HW_.out (by kernel_rfl)) (fun _ _ _ h => h) (Or.inl ⟨by rfl, ?_⟩) hHeld ?_ ?_
                rotate_left
                · rintro w' ⟨s0, s1, s2, s3, s4, s5, s6, s7, s8, s9⟩
                  go_simp
                  with_reducible rfl
                rotate_left
                · simp only [Act.put, List.setIfInBounds_toArray, List.set_cons_zero, List.set_cons_succ, i64_w, i32_w]
                  rfl
                refine pure_ (i := 10) (N := some 27) (v := ?_) (a' := ?_) #[true, true, true, true, true, true, true, true, true, true, true, false, false, false, false, false, false, false, false, false, false, false, false, false, false] rfl rfl (any_of HT_.out (by kernel_rfl)) (fun _ _ _ h => h) (Or.inl ⟨by rfl, ?_⟩) ?_ ?_
                rotate_left
                · intro w'
                  go_simp
                  with_reducible rfl
                rotate_left
                · simp only [Act.put, List.setIfInBounds_toArray, List.set_cons_zero, List.set_cons_succ, i64_w, i32_w]
                  rfl
                refine pure_ (i := 11) (N := some 28) (v := ?_) (a' := ?_) #[true, true, true, true, true, true, true, true, true, true, true, true, false, false, false, false, false, false, false, false, false, false, false, false, false] rfl rfl (any_of HT_.out (by kernel_rfl)) (fun _ _ _ h => h) (Or.inl ⟨by rfl, ?_⟩) ?_ ?_
                rotate_left
                · intro w'
                  go_simp
                  with_reducible rfl
                rotate_left
                · simp only [Act.put, List.setIfInBounds_toArray, List.set_cons_zero, List.set_cons_succ, i64_w, i32_w]
                  rfl
                refine pure_ (i := 12) (N := some 29) (v := undef) (a' := ?_) #[true, true, true, true, true, true, true, true, true, true, true, true, true, false, false, false, false, false, false, false, false, false, false, false, false] rfl rfl (any_of HT_.out (by kernel_rfl)) (fun _ _ _ h => h) (Or.inr ⟨by rfl, rfl⟩) ?_ ?_
                rotate_left
                · simp only [Act.put, List.setIfInBounds_toArray, List.set_cons_zero, List.set_cons_succ, i64_w, i32_w]
                  rfl
                refine pure_ (i := 13) (N := some 30) (v := undef) (a' := ?_) #[true, true, true, true, true, true, true, true, true, true, true, true, true, true, false, false, false, false, false, false, false, false, false, false, false] rfl rfl (any_of HT_.out (by kernel_rfl)) (fun _ _ _ h => h) (Or.inr ⟨by rfl, rfl⟩) ?_ ?_
                rotate_left
                · simp only [Act.put, List.setIfInBounds_toArray, List.set_cons_zero, List.set_cons_succ, i64_w, i32_w]
                  rfl
                refine pure_ (i := 14) (N := some 31) (v := undef) (a' := ?_) #[true, true, true, true, true, true, true, true, true, true, true, true, true, true, true, false, false, false, false, false, false, false, false, false, false] rfl rfl (any_of HT_.out (by kernel_rfl)) (fun _ _ _ h => h) (Or.inr ⟨by rfl, rfl⟩) ?_ ?_
                rotate_left
                · simp only [Act.put, List.setIfInBounds_toArray, List.set_cons_zero, List.set_cons_succ, i64_w, i32_w]
                  rfl
                refine pure_ (i := 15) (N := some 32) (v := undef) (a' := ?_) #[true, true, true, true, true, true, true, true, true, true, true, true, true, true, true, true, false, false, false, false, false, false, false, false, false] rfl rfl (any_of HT_.out (by kernel_rfl)) (fun _ _ _ h => h) (Or.inr ⟨by rfl, rfl⟩) ?_ ?_
                rotate_left
                · simp only [Act.put, List.setIfInBounds_toArray, List.set_cons_zero, List.set_cons_succ, i64_w, i32_w]
                  rfl
                refine pure_ (i := 16) (N := some 33) (v := undef) (a' := ?_) #[true, true, true, true, true, true, true, true, true, true, true, true, true, true, true, true, true, false, false, false, false, false, false, false, false] rfl rfl (any_of HT_.out (by kernel_rfl)) (fun _ _ _ h => h) (Or.inr ⟨by rfl, rfl⟩) ?_ ?_
                rotate_left
                · simp only [Act.put, List.setIfInBounds_toArray, List.set_cons_zero, List.set_cons_succ, i64_w, i32_w]
                  rfl
                refine pure_ (i := 17) (N := some 34) (v := undef) (a' := ?_) #[true, true, true, true, true, true, true, true, true, true, true, true, true, true, true, true, true, true, false, false, false, false, false, false, false] rfl rfl (any_of HT_.out (by kernel_rfl)) (fun _ _ _ h => h) (Or.inr ⟨by rfl, rfl⟩) ?_ ?_
                rotate_left
                · simp only [Act.put, List.setIfInBounds_toArray, List.set_cons_zero, List.set_cons_succ, i64_w, i32_w]
                  rfl
                refine pure_ (i := 18) (N := some 35) (v := undef) (a' := ?_) #[true, true, true, true, true, true, true, true, true, true, true, true, true, true, true, true, true, true, true, false, false, false, false, false, false] rfl rfl (any_of HT_.out (by kernel_rfl)) (fun _ _ _ h => h) (Or.inr ⟨by rfl, rfl⟩) ?_ ?_
                rotate_left
                · simp only [Act.put, List.setIfInBounds_toArray, List.set_cons_zero, List.set_cons_succ, i64_w, i32_w]
                  rfl
                refine pure_ (i := 19) (N := some 36) (v := undef) (a' := ?_) #[true, true, true, true, true, true, true, true, true, true, true, true, true, true, true, true, true, true, true, true, false, false, false, false, false] rfl rfl (any_of HT_.out (by kernel_rfl)) (fun _ _ _ h => h) (Or.inr ⟨by rfl, rfl⟩) ?_ ?_
                rotate_left
                · simp only [Act.put, List.setIfInBounds_toArray, List.set_cons_zero, List.set_cons_succ, i64_w, i32_w]
                  rfl
                refine pure_ (i := 20) (N := some 37) (v := undef) (a' := ?_) #[true, true, true, true, true, true, true, true, true, true, true, true, true, true, true, true, true, true, true, true, true, false, false, false, false] rfl rfl (any_of HT_.out (by kernel_rfl)) (fun _ _ _ h => h) (Or.inr ⟨by rfl, rfl⟩) ?_ ?_
                rotate_left
                · simp only [Act.put, List.setIfInBounds_toArray, List.set_cons_zero, List.set_cons_succ, i64_w, i32_w]
                  rfl
                refine pure_ (i := 21) (N := some 38) (v := undef) (a' := ?_) #[true, true, true, true, true, true, true, true, true, true, true, true, true, true, true, true, true, true, true, true, true, true, false, false, false] rfl rfl (any_of HT_.out (by kernel_rfl)) (fun _ _ _ h => h) (Or.inr ⟨by rfl, rfl⟩) ?_ ?_
                rotate_left
                · simp only [Act.put, List.setIfInBounds_toArray, List.set_cons_zero, List.set_cons_succ, i64_w, i32_w]
                  rfl
                refine pure_ (i := 22) (N := some 39) (v := undef) (a' := ?_) #[true, true, true, true, true, true, true, true, true, true, true, true, true, true, true, true, true, true, true, true, true, true, true, false, false] rfl rfl (any_of HT_.out (by kernel_rfl)) (fun _ _ _ h => h) (Or.inr ⟨by rfl, rfl⟩) ?_ ?_
                rotate_left
                · simp only [Act.put, List.setIfInBounds_toArray, List.set_cons_zero, List.set_cons_succ, i64_w, i32_w]
                  rfl
                refine pure_ (i := 23) (N := some 40) (v := undef) (a' := ?_) #[true, true, true, true, true, true, true, true, true, true, true, true, true, true, true, true, true, true, true, true, true, true, true, true, false] rfl rfl (any_of HT_.out (by kernel_rfl)) (fun _ _ _ h => h) (Or.inr ⟨by rfl, rfl⟩) ?_ ?_
                rotate_left
                · simp only [Act.put, List.setIfInBounds_toArray, List.set_cons_zero, List.set_cons_succ, i64_w, i32_w]
                  rfl
                refine pure_ (i := 24) (N := some 41) (v := ?_) (a' := ?_) #[true, true, true, true, true, true, true, true, true, true, true, true, true, true, true, true, true, true, true, true, true, true, true, true, true] rfl rfl (any_of HT_.out (by kernel_rfl)) (fun _ _ _ h => h) (Or.inl ⟨by rfl, ?_⟩) ?_ ?_
                rotate_left
                · intro w'
                  go_simp
                  with_reducible rfl
                rotate_left
                · simp only [Act.put, List.setIfInBounds_toArray, List.set_cons_zero, List.set_cons_succ, i64_w, i32_w]
                  rfl
                refine done_ (done_of HT_.out (by kernel_rfl)) ?_
                try go_wp2
                go_ret
                exact ⟨by first | rfl | (simp [errW_none, errW_some] <;> rfl) | (simp [*, errW_none, errW_some] <;> rfl), by repeat (first | (with_reducible first | exact HB.out | apply below_alloc | apply pw_below_drewN | apply below_drew1) | exact HB.out)⟩
            · rw [if_neg c6] at H
              exact absurd H (by simp)
          · rw [if_neg c5] at H
            exact absurd H (by simp)
        · rw [if_neg c4] at H
          have c4b0 : decide (x5_1 < (l0.length : Int)) = false := decide_eq_false c4
          clear c4
          obtain rfl := Option.some.inj H
          go_wp2
          go_ret
          exact ⟨by first | rfl | (simp [errW_none, errW_some] <;> rfl) | (simp [*, errW_none, errW_some] <;> rfl), by repeat (first | (with_reducible first | exact HB.out | apply below_alloc | apply pw_below_drewN | apply below_drew1) | exact HB.out)⟩
  · rw [if_neg c3] at H
    have c3b0 : ((l0.length : Int) == (l1.length : Int)) = false := beq_eq_false_iff_ne.mpr c3
    have c3b1 : ((l0.length : Int) != (l1.length : Int)) = true := bne_iff_ne.mpr c3
    have c3b2 : (l0.length == l1.length) = false := by first | simpa using c3 | (simp at c3 ⊢; omega)
    obtain rfl := Option.some.inj H
    go_enter Try.func17, Try.ntmps17
    go_wp2
    go_ret
    exact ⟨by first | rfl | (simp [errW_none, errW_some] <;> rfl) | (simp [*, errW_none, errW_some] <;> rfl), by repeat (first | (with_reducible first | exact HB.out | apply below_alloc | apply pw_below_drewN | apply below_drew1) | exact HB.out)⟩
end Go.Proofs.Ytfaiplbogchgjaa.PA
end
section
namespace Go.Proofs.Ytfaiplbogchgjaa.PA
open Go.RowKit Go.Proofs.YtfaiplbogchgjaaW.PrintWords Go.Proofs.YtfaiplbogchgjaaW.PrintLast Go.Proofs.YtfaiplbogchgjaaW.PrintMore
attribute [local go_sem] max2_int min2_int max_two min_two max_three min_three max_four min_four   -- for this text's walks alone
set_option linter.unusedVariables false
set_option linter.unusedSimpArgs false
end Go.Proofs.Ytfaiplbogchgjaa.PA
end
section
namespace Go.Proofs.Ytfaiplbogchgjaa.PA
open Go.RowKit Go.Proofs.YtfaiplbogchgjaaW.PrintWords Go.Proofs.YtfaiplbogchgjaaW.PrintLast Go.Proofs.YtfaiplbogchgjaaW.PrintMore
attribute [local go_sem] max2_int min2_int max_two min_two max_three min_three max_four min_four   -- for this text's walks alone
set_option linter.unusedVariables false
set_option linter.unusedSimpArgs false
end Go.Proofs.Ytfaiplbogchgjaa.PA
end
section
namespace Go.Proofs.Ytfaiplbogchgjaa.PA
set_option linter.unusedSimpArgs false
set_option linter.unusedVariables false
open Go.RowKit Go.Proofs.YtfaiplbogchgjaaW.PrintWords Go.Proofs.YtfaiplbogchgjaaW.PrintLast
theorem canonB_names (l : List S38) : canonB l = (namesS l).map fun nm => ⟨nm, (getL l nm.data.toList).getD z28⟩ := by
  rw [canonB_eq, names_eq, List.map_map]
  rfl
theorem canonB_len (l : List S38) : (canonB l).length = (namesS l).length := by rw [canonB_names, List.length_map]
theorem names_short (l : List S38) : (namesS l).length ≤ l.length := by rw [names_len]; exact sorted_len l
theorem mem_canonB {l : List S38} {x : S38} (h : x ∈ canonB l) : getL l x.f0.data.toList = some x.f1 := by
  rw [canonB_eq, List.mem_map] at h
  obtain ⟨nm, hn, rfl⟩ := h
  obtain ⟨s, hs⟩ := Option.isSome_iff_exists.1 (mem_keysL.1 (List.mem_mergeSort.1 hn))
  show getL l nm = some ((getL l nm).getD z28)
  rw [hs]; rfl
theorem canonB_modest {l : List S38} (hm : modestB l) : modestB (canonB l) := by
  refine ⟨by rw [canonB_len]; exact Nat.le_trans (names_short l) hm.1, fun x hx => ?_⟩
  have hg := mem_canonB hx
  exact ⟨keys_size hm (mem_keysL.2 (by rw [hg]; rfl)), (getL_canon hg).2 hm⟩
theorem getL_def {l : List S38} {nm : List UInt8} {s : S28} (h : getL l nm = some s) : defS s = true := by
  unfold getL at h
  obtain ⟨x, hx, hs⟩ := Option.bind_eq_some_iff.1 h
  split at hs
  · rename_i hd
    obtain rfl := Option.some.inj hs
    unfold defS
    rw [texts_canon]
    exact hd
  · cases hs
theorem getL_canonB (l : List S38) (nm : List UInt8) : getL (canonB l) nm = getL l nm := by
  cases hg : getL l nm with
  | some s =>
    have hmem : (⟨nmOf nm, s⟩ : S38) ∈ canonB l := by
      rw [canonB_eq, List.mem_map]
      exact ⟨nm, List.mem_mergeSort.2 (mem_keysL.2 (by rw [hg]; rfl)), by rw [hg]; rfl⟩
    have hf : ∃ y, (canonB l).find? (fun x => x.f0.data.toList == nm) = some y := by
      cases h : (canonB l).find? (fun x => x.f0.data.toList == nm) with
      | some y => exact ⟨y, rfl⟩
      | none => have := List.find?_eq_none.1 h _ hmem; simp [nmOf] at this
    obtain ⟨y, hy⟩ := hf
    have h1 : y.f0.data.toList = nm := by simpa using List.find?_some hy
    have h2 := mem_canonB (List.mem_of_find?_eq_some hy)
    rw [h1, hg] at h2
    unfold getL
    rw [hy]
    simp only [Option.bind_some]
    rw [← Option.some.inj h2, if_pos (getL_def hg), (getL_canon hg).1]
  | none =>
    unfold getL
    rw [List.find?_eq_none.2 (fun x hx => by
      have h2 := mem_canonB hx
      intro h
      have : x.f0.data.toList = nm := by simpa using h
      rw [this, hg] at h2; cases h2)]
    rfl
theorem canonB_canonB (l : List S38) : canonB (canonB l) = canonB l := canonB_ext (getL_canonB l)
theorem same_canonB (l : List S38) : sameB l (canonB l) = true := by
  unfold sameB
  rw [canonB_canonB, decide_eq_true_iff]
theorem evVeryB_l0 (a b : List S38) (hl : a.length = b.length) (ha : modestB a) (d : Nat) : ∀ i : Nat, i + d = a.length → a.take i = b.take i → Ev (fun k => phalaroperef09_Very.l0 k a b (i : Int)) (decide (a = b)) := by
  have hla := ha.1
  induction d with
  | zero =>
    intro i hi ht
    refine Ev.step (f := fun _ => some true) (fun k => ?_) ?_
    · simp only [phalaroperef09_Very.l0]
      rw [if_neg (by omega)]
    · rw [List.take_of_length_le (by omega), List.take_of_length_le (by omega)] at ht
      rw [decide_eq_true ht]
      exact Ev.now _
  | succ d ih =>
    intro i hi ht
    have hm := (ha.2 a[i] (List.getElem_mem _)).2
    have hv := evVery a[i].f1 b[i].f1 (by have := hm.2.2.1; omega) (by have := hm.2.1; omega)
    by_cases he : a[i].f0.toList = b[i].f0.toList
    · refine Ev.step (f := fun k => (phalaroperef08_Very.f k a[i].f1.f0 a[i].f1.f1 a[i].f1.f2 a[i].f1.f3 b[i].f1.f0 b[i].f1.f1 b[i].f1.f2 b[i].f1.f3).bind fun t => if t = true then phalaroperef09_Very.l0 k a b ((i + 1 : Nat) : Int) else some false) (fun k => ?_) (Ev.bind hv ?_)
      · simp only [phalaroperef09_Very.l0]
        rw [if_pos (by omega), if_pos (by omega), if_pos (by omega), rdb_at a i (by omega), rdb_at b i (by omega), if_pos he, w1 i (by omega)]
      · by_cases hv' : a[i].f1 = b[i].f1
        · rw [decide_eq_true hv']
          have hx : a[i] = b[i] := by
            have h0 : a[i].f0 = b[i].f0 := ByteArray.ext (Array.ext' (str_eq.1 he))
            rcases hx : a[i] with ⟨x0, x1⟩
            rcases hy : b[i] with ⟨y0, y1⟩
            rw [hx, hy] at h0 hv'
            dsimp only at h0 hv'
            rw [h0, hv']
          exact ih (i + 1) (by omega) (by rw [List.take_succ_eq_append_getElem (by omega), List.take_succ_eq_append_getElem (by omega), ht, hx])
        · rw [decide_eq_false hv', decide_eq_false (fun h => hv' (by subst h; rfl))]
          exact Ev.now _
    · refine Ev.step (f := fun _ => some false) (fun k => ?_) ?_
      · simp only [phalaroperef09_Very.l0]
        rw [if_pos (by omega), if_pos (by omega), if_pos (by omega), rdb_at a i (by omega), rdb_at b i (by omega), if_neg he]
      · rw [decide_eq_false (fun h => he (by subst h; rfl))]
        exact Ev.now _
theorem evVeryB (a b : List S38) (ha : modestB a) : Ev (fun k => phalaroperef09_Very.f k a b) (decide (a = b)) := by
  by_cases hl : a.length = b.length
  · refine Ev.congr (fun k => ?_) (evVeryB_l0 a b hl ha a.length 0 (by omega) (by simp))
    unfold phalaroperef09_Very.f
    rw [if_pos (by omega)]; rfl
  · refine Ev.congr (f := fun _ => some false) (fun k => ?_) ?_
    · unfold phalaroperef09_Very.f
      rw [if_neg (by omega)]
    · rw [decide_eq_false (fun h => hl (by rw [h]))]
      exact Ev.now _
def three : List S38 := [⟨⟨#[98]⟩, ⟨1, ⟨#[49]⟩, [], []⟩⟩, ⟨⟨#[97]⟩, ⟨1, ⟨#[50]⟩, [], []⟩⟩, ⟨⟨#[98]⟩, ⟨1, ⟨#[51]⟩, [], []⟩⟩]
theorem three_a : getL three [97] = some ⟨1, ⟨#[50]⟩, [], []⟩ := by
  unfold getL three
  simp [canonS_eq, defS, textsOf]
theorem three_b : getL three [98] = some ⟨1, ⟨#[49]⟩, [], []⟩ := by
  unfold getL three
  simp [canonS_eq, defS, textsOf]
theorem three_keys : keysL three = [[97], [98]] := by
  have h : (three.map fun x => x.f0.data.toList) = [[98], [97], [98]] := rfl
  unfold keysL
  rw [h]
  simp [three_a, three_b, dedupL]
theorem three_canon : canonB three = [⟨⟨#[97]⟩, ⟨1, ⟨#[50]⟩, [], []⟩⟩, ⟨⟨#[98]⟩, ⟨1, ⟨#[49]⟩, [], []⟩⟩] := by
  have h : sortedL three = [[97], [98]] := by
    unfold sortedL
    rw [three_keys]
    exact List.mergeSort_of_pairwise (by decide)
  rw [canonB_eq, h]
  simp [three_a, three_b, nmOf]
theorem three_modest : modestB three := by
  refine ⟨by decide, fun x hx => ?_⟩
  have : x.f0.size ≤ 1000000 ∧ x.f1.f1.size ≤ 1000000 ∧ x.f1.f2 = [] ∧ x.f1.f3 = [] := by
    unfold three at hx
    simp only [List.mem_cons, List.not_mem_nil, or_false] at hx
    rcases hx with rfl | rfl | rfl <;> exact ⟨by decide, by decide, rfl, rfl⟩
  obtain ⟨h0, h1, h2, h3⟩ := this
  exact ⟨h0, h1, by rw [h2]; decide, by rw [h3]; decide, by rw [h2]; simp, by rw [h3]; simp⟩
end Go.Proofs.Ytfaiplbogchgjaa.PA
end
section
namespace Go.Proofs.Ytfaiplbogchgjaa.PA
set_option linter.unusedSimpArgs false
set_option linter.unusedVariables false
open Go.RowKit Go.Proofs.YtfaiplbogchgjaaW.PrintWords Go.Proofs.YtfaiplbogchgjaaW.PrintLast
set_option maxHeartbeats 8000000 in
set_option maxRecDepth 100000 in
theorem text_any (s : ByteArray) (w : World) : Calls Try.prog 27 #[.string s] w fun e W => e = .returned (.agg #[.int .i64 1, .string s, .slice none 0 0, .slice none 0 0]) ∧ Below w.heap.size w W := by
  go_enter Try.func27, Try.ntmps27
  go_wp2_with fail
  exact bodyPost_ret (results_cell_row rfl _ _ w.heap.size 28 _ (0, 0) _ rfl (blk_new w _) Try.underlying28 rfl (by kernel_rfl)) rfl ⟨rfl, X.below_new1 _ _⟩
theorem C_three {W : World} {b : Nat} (h : W.heap[b]? = some (.cells #[.string ⟨#[98]⟩, .int .i64 1, .string ⟨#[49]⟩, .slice none 0 0, .slice none 0 0, .string ⟨#[97]⟩, .int .i64 1, .string ⟨#[50]⟩, .slice none 0 0, .slice none 0 0, .string ⟨#[98]⟩, .int .i64 1, .string ⟨#[51]⟩, .slice none 0 0, .slice none 0 0] 38 (0, 0))) :
    Kd.C k38 W (some ⟨b, 0, none⟩) 3 three := by
  have hc : ∀ i, W.cell? (Addr.add ⟨b, 0, none⟩ i) = (#[.string ⟨#[98]⟩, .int .i64 1, .string ⟨#[49]⟩, .slice none 0 0, .slice none 0 0, .string ⟨#[97]⟩, .int .i64 1, .string ⟨#[50]⟩, .slice none 0 0, .slice none 0 0, .string ⟨#[98]⟩, .int .i64 1, .string ⟨#[51]⟩, .slice none 0 0, .slice none 0 0] : Array Value)[i]? := fun i => by
    cases i with
    | zero => exact blk_cell h 0
    | succ i =>
      rw [show Addr.add ⟨b, 0, none⟩ (i + 1) = ⟨b, i + 1, none⟩ from by simp [Addr.add]]
      exact blk_cell h (i + 1)
  have hk : ∀ (s t : ByteArray), k38.K W ⟨s, ⟨1, t, [], []⟩⟩ [.string s, .int .i64 1, .string t, .slice none 0 0, .slice none 0 0] := fun s t =>
    k38_mk W ⟨s, ⟨1, t, [], []⟩⟩ (A3 := none) (c3 := 0) (Nat.le_refl _) (Kd.R_reads' (Kd.R_nil Kd.string 9 W 0 (fun _ => True))).2.2 (A4 := none) (c4 := 0) (Nat.le_refl _) (Kd.R_reads' (Kd.R_nil k50 50 W 0 (fun _ => True))).2.2
  refine ⟨rfl, by omega, fun _ => ⟨_, rfl, fun j p hj => ?_⟩⟩
  match j, hj with
  | 0, hj => cases hj; exact ⟨_, rfl, hk _ _, fun i u hu => by rw [hc]; match i, hu with | 0, hu => exact hu | 1, hu => exact hu | 2, hu => exact hu | 3, hu => exact hu | 4, hu => exact hu⟩
  | 1, hj => cases hj; exact ⟨_, rfl, hk _ _, fun i u hu => by rw [hc]; match i, hu with | 0, hu => exact hu | 1, hu => exact hu | 2, hu => exact hu | 3, hu => exact hu | 4, hu => exact hu⟩
  | 2, hj => cases hj; exact ⟨_, rfl, hk _ _, fun i u hu => by rw [hc]; match i, hu with | 0, hu => exact hu | 1, hu => exact hu | 2, hu => exact hu | 3, hu => exact hu | 4, hu => exact hu⟩
set_option maxHeartbeats 8000000 in
set_option maxRecDepth 100000 in
theorem awake_walk (w : World) : Calls Try.prog 9 #[] w fun e W => e = .returned (.bool true) ∧ Below w.heap.size w W := by
  go_enter Try.func9, Try.ntmps9
  go_wp2_with fail
  refine (text_any _ _).mono ?_
  rintro e w1 ⟨rfl, hb1⟩
  go_wp2_with fail
  refine (text_any _ _).mono ?_
  rintro e w2 ⟨rfl, hb2⟩
  go_wp2_with fail
  refine (text_any _ _).mono ?_
  rintro e w3 ⟨rfl, hb3⟩
  have hb := below_step (below_step hb1 hb2) hb3
  clear hb1 hb2 hb3
  go_wp2_with fail
  have h3 := blk_new w3 (.cells #[.string ⟨#[98]⟩, .int .i64 1, .string ⟨#[49]⟩, .slice none 0 0, .slice none 0 0, .string ⟨#[97]⟩, .int .i64 1, .string ⟨#[50]⟩, .slice none 0 0, .slice none 0 0, .string ⟨#[98]⟩, .int .i64 1, .string ⟨#[51]⟩, .slice none 0 0, .slice none 0 0] 38)
  have hC := C_three h3
  refine (canon_of (some ⟨w3.heap.size, 0, none⟩) 3 three _ hC three_modest).mono ?_
  rintro e w4 ⟨v4, rfl, h4, hb4⟩
  have hb' := below_step (below_alloc hb (.cells #[.string ⟨#[98]⟩, .int .i64 1, .string ⟨#[49]⟩, .slice none 0 0, .slice none 0 0, .string ⟨#[97]⟩, .int .i64 1, .string ⟨#[50]⟩, .slice none 0 0, .slice none 0 0, .string ⟨#[98]⟩, .int .i64 1, .string ⟨#[51]⟩, .slice none 0 0, .slice none 0 0] 38)) hb4
  have hC4 := Kd.C_below hC hb4
  obtain ⟨A4, c4, rfl, l4, g4⟩ := Kd.R_reads h4
  have HC := Aside0.mk hC4
  have HB := Aside0.mk hb'
  have HG := Aside0.mk g4
  clear hb h3 hC hb4 hb' hC4 g4 h4
  go_wp2_with fail
  refine (get_of (some ⟨w3.heap.size, 0, none⟩) 3 three ⟨#[98]⟩ _ HC.out three_modest (by decide)).mono ?_
  rintro e w5 ⟨v2, v3, rfl, r2, r3, hb5⟩
  have hg : getL three (ByteArray.mk #[98]).data.toList = some ⟨1, ⟨#[49]⟩, [], []⟩ := three_b
  rw [hg] at r2 r3 ⊢
  obtain ⟨B2, d2, rfl⟩ := Kd.R_slice r2
  obtain ⟨B3, d3, rfl⟩ := Kd.R_slice r3
  have hC5 := Kd.C_below HC.out hb5
  have g5 := Kd.C_below HG.out hb5
  have hb' := below_step HB.out hb5
  have hlen : (canonB three).length = 2 := by rw [three_canon]; rfl
  obtain ⟨ad, E3, f3, E4, f4, ead, x0, _, _, _, _, _⟩ := at_T38 g5 0 (by decide) (by omega)
  obtain ⟨ad', F3, h3, F4, h4, ead', _, _, y2, _, _, _⟩ := at_T38 g5 1 (by decide) (by omega)
  obtain rfl : ad = ad' := by rw [ead] at ead'; injection ead'
  subst ead
  have q0 : (rd_T38 (canonB three) 0).f0 = ⟨#[97]⟩ := by rw [three_canon]; rfl
  have q1 : (rd_T38 (canonB three) 1).f1.f1 = ⟨#[49]⟩ := by rw [three_canon]; rfl
  rw [q0] at x0
  rw [q1] at y2
  have hal := below_alloc (Below.refl w5.heap.size w5) (.cells #[.int .i64 1, .string ⟨#[49]⟩, .slice B2 0 d2, .slice B3 0 d3] 28)
  have x0' := addr_keep hal x0
  have y2' := addr_keep hal y2
  simp only [Int.toNat_zero, Nat.zero_mul, Int.reduceToNat, Nat.reduceMul] at x0' y2'
  have ea : ad.add 0 = ad := by simp [Addr.add]
  rw [ea] at x0'
  have e5 : (⟨(ad.add 5).block, (ad.add 5).off + 2, none⟩ : Addr) = ⟨ad.block, ad.off + 5 + 1 + 1, none⟩ := by simp [Addr.add]
  rw [e5] at y2'
  clear r2 r3 hg q0 q1 x0 y2 hal ea e5
  have HC5 := Aside0.mk hC5
  have HG5 := Aside0.mk g5
  have HB5 := Aside0.mk hb'
  clear hC5 g5 hb' hb5 HC HG HB
  go_wp2_with fail
  have hal := below_alloc (Below.refl w5.heap.size w5) (.cells #[.int .i64 1, .string ⟨#[49]⟩, .slice B2 0 d2, .slice B3 0 d3] 28)
  have hs := same_of (some ⟨w3.heap.size, 0, none⟩) 3 three (some ad) c4 (canonB three) _ (Kd.C_below HC5.out hal) (Kd.C_below HG5.out hal) three_modest (canonB_modest three_modest)
  rw [hlen, same_canonB] at hs
  refine hs.mono ?_
  rintro e w6 ⟨rfl, hb6⟩
  have HB6 := Aside0.mk (below_step (below_alloc HB5.out _) hb6)
  clear hb6 hs hal
  go_wp2_with fail
  go_ret
  exact ⟨rfl, HB6.out⟩
end Go.Proofs.Ytfaiplbogchgjaa.PA
end
section
namespace Go.Proofs.Ytfaiplbogchgjaa.PA
set_option linter.unusedSimpArgs false
set_option linter.unusedVariables false
open Go.RowKit Go.Proofs.YtfaiplbogchgjaaW.PrintWords Go.Proofs.YtfaiplbogchgjaaW.PrintLast
variable {W : World}
theorem few_any (l : List S38) : ∃ b : Bool, (b = true → FewB l) ∧ ∀ (W : World) (A : Option Addr) (c : Nat), Kd.C k38 W A l.length l → l.length ≤ c →
    Calls Try.prog 10 #[.slice A l.length c] W fun e W' => e = .returned (.bool b) ∧ Below W.heap.size W W' := by
  obtain ⟨b, hb, h⟩ := evFew l
  obtain ⟨k, hk⟩ := hb.rounds
  exact ⟨b, h, fun W A c hr hc => phalaroperef09_Few.calls k A c l b W hr hc hk⟩
theorem rvery_any {x y : Value} (a b : S28) (W : World) (hx : OkC W x a) (hy : OkC W y b) (ha : a.f3.length ≤ 1000000) (ha2 : a.f2.length ≤ 1000000) :
    Calls Try.prog 13 #[x, y] W fun e W' => e = .returned (.bool (decide (a = b))) ∧ Below W.heap.size W W' := by
  obtain ⟨A2, c2, A3, c3, rfl, l2, g2, l3, g3⟩ := hx
  obtain ⟨B2, d2, B3, d3, rfl, m2, q2, m3, q3⟩ := hy
  obtain ⟨k, hk⟩ := (evVery a b ha ha2).rounds
  exact phalaroperef08_Very.calls k _ _ _ _ _ _ _ _ _ _ _ _ _ _ _ _ _ W g2 l2 g3 l3 q2 m2 q3 m3 hk
theorem rveryB_any (A : Option Addr) (c : Nat) (l : List S38) (B : Option Addr) (d : Nat) (m : List S38) (W : World) (hr : Kd.C k38 W A l.length l) (hc : l.length ≤ c) (hr' : Kd.C k38 W B m.length m) (hd : m.length ≤ d) (hl : modestB l) :
    Calls Try.prog 17 #[.slice A l.length c, .slice B m.length d] W fun e W' => e = .returned (.bool (decide (l = m))) ∧ Below W.heap.size W W' := by
  obtain ⟨k, hk⟩ := (evVeryB l m hl).rounds
  exact phalaroperef09_Very.calls k A c l B d m _ W hr hc hr' hd hk
end Go.Proofs.Ytfaiplbogchgjaa.PA
end
section
namespace Go.Proofs.Ytfaiplbogchgjaa.PA
set_option linter.unusedSimpArgs false
set_option linter.unusedVariables false
open Go.RowKit Go.Proofs.YtfaiplbogchgjaaW.PrintWords Go.Proofs.YtfaiplbogchgjaaW.PrintLast
def seen {α : Type} (d : Kd α) (w0 : World) : Kd α where
  sz := d.sz
  E := []
  K := fun _ x cs => d.K w0 x cs
  M := fun _ _ _ x cs => d.K w0 x cs
  K_len := fun h => d.K_len h
  K_one := fun h => d.K_one h
  K_below := fun _ h => h
  K_of_M := fun h => h
  M_mono := fun _ h => h
  M_bound := fun h => h
  M_move := fun _ h => h
  M_lower := fun _ h => h
theorem C_seen {α : Type} {d : Kd α} {w0 W : World} {A : Option Addr} {n : Nat} {xs : List α} (h : (seen d w0).C W A n xs) (hb : Below w0.heap.size w0 W) : d.C W A n xs :=
  ReadsRow.imp_ h (Below.refl _ _) (fun _ _ hp => d.K_below hb hp)
def turn.T : Bool × List (List Nat × List Nat) := (true, [([], []), ([], []), ([0, 1], [0, 1]), ([], []), ([3], [3]), ([2, 4, 2], [2, 4]), ([5, 5, 0, 1, 2, 3, 4, 5], [5])])
def turn.B : List Nat := [0, 0, 3, 0, 8, 31, 63]
theorem turn.tab : rtab .any (opsOf Try.f5 16) = turn.T := by kernel_rfl
theorem turn.bits : waitsOk turn.T.2 turn.B = true := by kernel_rfl
theorem R_empty (w W : World) (base : Nat) (hb : base ≤ W.heap.size) : (seen k38 w).R 38 (W.alloc (.cells #[] 38)) base (fun _ => True) (.slice (some ⟨W.heap.size, 0, none⟩) 0 0) [] := by
  have h2 := World.ownsRow_lit (base := base) (e := 38) (size := 5) W #[] 0 hb (by simp [maxLen]) (by simp)
  have h3 : (W.alloc (.cells #[] 38)).ownsRow base 38 5 (.slice (some ⟨W.heap.size, 0, none⟩) 0 0) 0 [] := by simpa using h2
  exact ⟨fun _ _ => trivial, [], h3, Reps.none _ _⟩
end Go.Proofs.Ytfaiplbogchgjaa.PA
end
