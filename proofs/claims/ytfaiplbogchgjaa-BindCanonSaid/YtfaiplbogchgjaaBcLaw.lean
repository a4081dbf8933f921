/- Texts of this claim, those that nothing needs left out: PAx16 PAx17 PAx18 Zbb Zaw Zbd Zbf Xvb LawBindCanon. -/
import Derived.Test.YtfaiplbogchgjaaBcG16
import Derived.Test.YtfaiplbogchgjaaBcG17
import Derived.Test.YtfaiplbogchgjaaBcG19
import Derived.Test.YtfaiplbogchgjaaBcG11
import Derived.Test.YtfaiplbogchgjaaBcG18
import Derived.Test.YtfaiplbogchgjaaBcG5
import Derived.Test.YtfaiplbogchgjaaRows
import Derived.WalkKit
import Derived.ProofKit
import Derived.OpenShut
import Derived.ShutString
import Derived.ChangeOld
import Derived.Below
import Derived.SizedLaws
section
namespace Go.Proofs.Ytfaiplbogchgjaa.PA
open Go.RowKit Go.Proofs.YtfaiplbogchgjaaW.PrintWords Go.Proofs.YtfaiplbogchgjaaW.PrintLast Go.Proofs.YtfaiplbogchgjaaW.PrintMore
attribute [local go_sem] max2_int min2_int max_two min_two max_three min_three max_four min_four   -- for this text's walks alone
set_option linter.unusedVariables false
set_option linter.unusedSimpArgs false
def phalaroperef09_Very.l0 : Nat → List (S38) → List (S38) → Int → Option (Bool)
  | 0, _, _, _ => none
  | k + 1, x0, x1, x5 => if x5 < (x0.length : Int) then (if 0 ≤ x5 then (if x5 < (x1.length : Int) then (if ((rd_T38 x0 x5).f0).toList = ((rd_T38 x1 x5).f0).toList then ((phalaroperef08_Very.f k ((rd_T38 x0 x5).f1.f0) ((rd_T38 x0 x5).f1.f1) ((rd_T38 x0 x5).f1.f2) ((rd_T38 x0 x5).f1.f3) ((rd_T38 x1 x5).f1.f0) ((rd_T38 x1 x5).f1.f1) ((rd_T38 x1 x5).f1.f2) ((rd_T38 x1 x5).f1.f3)).bind fun t329 => (if t329 = true then (phalaroperef09_Very.l0 k x0 x1 (wrap64 (x5 + 1))) else (some false))) else (some false)) else (none)) else (none)) else (some true)
def phalaroperef09_Very.f (k : Nat) (l0 : List (S38)) (l1 : List (S38)) : Option (Bool) := if (l0.length : Int) = (l1.length : Int) then (phalaroperef09_Very.l0 k l0 l1 0) else (some false)
def phalaroperef09_Very.T6 : Bool × List (List Nat × List Nat) := (true, [([], []), ([], []), ([0, 1], [0, 1]), ([2], [2]), ([3], [3]), ([], []), ([], []), ([5, 6], [5, 6]), ([7], [7]), ([8], [8]), ([4, 9], [4, 9]), ([10], [10]), ([11], [11]), ([11], [11]), ([12, 13, 11], [11, 12, 13]), ([14, 11], [11, 14]), ([15, 11], [11, 15]), ([11], [11]), ([11], [11]), ([17, 18, 11], [11, 17, 18]), ([19, 11], [11, 19]), ([20, 11], [11, 20]), ([16, 21, 11, 11], [11, 16, 21]), ([22, 11], [11, 22]), ([11, 23], [11, 23])])
def phalaroperef09_Very.B6 : List Nat := [0, 0, 3, 7, 15, 0, 0, 96, 224, 480, 1023, 2047, 4095, 4095, 16383, 32767, 65535, 4095, 4095, 397311, 921599, 1970175, 4194303, 8388607, 16777215]
theorem phalaroperef09_Very.tab6 : rtab .any (opsOf Try.f17 6) = phalaroperef09_Very.T6 := by kernel_rfl
theorem phalaroperef09_Very.bits6 : waitsOk phalaroperef09_Very.T6.2 phalaroperef09_Very.B6 = true := by kernel_rfl
set_option maxHeartbeats 8000000 in
set_option maxRecDepth 100000 in
theorem phalaroperef09_Very.calls (k : Nat) (A0 : Option Addr) (c0 : Nat) (l0 : List (S38)) (A1 : Option Addr) (c1 : Nat) (l1 : List (S38)) (r : Bool) (w : World) (hr0 : Kd.C k38 w A0 l0.length l0) (hc0 : l0.length ≤ c0) (hr1 : Kd.C k38 w A1 l1.length l1) (hc1 : l1.length ≤ c1) (h : phalaroperef09_Very.f k l0 l1 = some r) :
    Calls Try.prog 17 #[.slice A0 l0.length c0, .slice A1 l1.length c1] w fun e w' => e = .returned (.bool r) ∧ Below w.heap.size w w' := by
  have hu28 := Try.underlying28
  have HR0 := Aside0.mk hr0
  have HC0 := Aside0.mk hc0
  clear hr0 hc0
  have HR1 := Aside0.mk hr1
  have HC1 := Aside0.mk hc1
  clear hr1 hc1
  have HB := Aside0.mk (Below.refl w.heap.size w)
  have H : (if (l0.length : Int) = (l1.length : Int) then (phalaroperef09_Very.l0 k l0 l1 0) else (some false)) = some r := h
  clear h
  by_cases c3 : (l0.length : Int) = (l1.length : Int)
  · rw [if_pos c3] at H
    have c3b0 : ((l0.length : Int) == (l1.length : Int)) = true := beq_iff_eq.mpr c3
    have c3b1 : ((l0.length : Int) != (l1.length : Int)) = false := bne_eq_false_iff_eq.mpr c3
    have c3b2 : (l0.length == l1.length) = true := by first | simpa using c3 | (simp at c3 ⊢; omega)
    clear c3
    have H' := Aside0.mk H
    clear H
    go_enter Try.func17, Try.ntmps17
    go_wp2
    go_loopg [5] k (fun kq v5 w' => ∃ (x5_1 : Int), v5 = .int .i64 x5_1 ∧ Aside0 (phalaroperef09_Very.l0 kq l0 l1 x5_1 = some r) ∧ Aside0 (kq ≤ k) ∧ Aside0 (Below w.heap.size w w'))
    case atStart => exact ⟨(0), (by first | rfl | (simp; done) | (simp [*]; done)), H', ⟨Nat.le_refl _⟩, ⟨by repeat (first | (with_reducible first | exact HB.out | apply below_alloc | apply pw_below_drewN | apply below_drew1) | exact HB.out)⟩⟩
    case round =>
      clear H'
      try clear c1
      try clear p2
      try clear c3
      try clear c3b0
      try clear c3b1
      try clear c3b2
      obtain ⟨x5_1, rfl, HA, HK1, HB⟩ := hrel
      cases gk with
      | zero => exact absurd HA.out (by simp [phalaroperef09_Very.l0])
      | succ k1 =>
        have H := HA.out
        clear HA
        simp only [phalaroperef09_Very.l0] at H
        by_cases c4 : x5_1 < (l0.length : Int)
        · rw [if_pos c4] at H
          have c4b0 : decide (x5_1 < (l0.length : Int)) = true := decide_eq_true c4
          clear c4
          by_cases c5 : 0 ≤ x5_1
          · rw [if_pos c5] at H
            have c5b0 : decide (0 ≤ x5_1) = true := decide_eq_true c5
            clear c5
            by_cases c6 : x5_1 < (l1.length : Int)
            · rw [if_pos c6] at H
              have c6b0 : decide (x5_1 < (l1.length : Int)) = true := decide_eq_true c6
              clear c6
              by_cases c7 : ((rd_T38 l0 x5_1).f0).toList = ((rd_T38 l1 x5_1).f0).toList
              · rw [if_pos c7] at H
                have c7b0 : (((rd_T38 l0 x5_1).f0).toList == ((rd_T38 l1 x5_1).f0).toList) = true := beq_iff_eq.mpr c7
                have c7b1 : (((rd_T38 l0 x5_1).f0).toList != ((rd_T38 l1 x5_1).f0).toList) = false := bne_eq_false_iff_eq.mpr c7
                clear c7
                replace H := Option.bind_eq_some_iff.mp H
                obtain ⟨t329, A80, H⟩ := H
                replace H : (if t329 = true then (phalaroperef09_Very.l0 k1 l0 l1 (wrap64 (x5_1 + 1))) else (some false)) = some r := H
                have A8 := Aside0.mk A80
                clear A80
                by_cases c9 : t329 = true
                · subst c9
                  have H1 : (phalaroperef09_Very.l0 k1 l0 l1 (wrap64 (x5_1 + 1))) = some r := by rw [if_pos rfl] at H; exact H
                  clear H
                  have H := H1
                  clear H1
                  have H' := Aside0.mk H
                  clear H
                  try go_wp2
                  have n0_ := Aside0.mk (below_drew1 HB.out)
                  clear HB
                  have HB := n0_
                  clear n0_
                  have p325 : 0 ≤ (x5_1 : Int) := of_decide_eq_true (by first | (with_reducible assumption) | assumption)
                  have q325 : x5_1 < (l0.length : Int) := of_decide_eq_true (by first | (with_reducible assumption) | assumption)
                  obtain ⟨ad325, A325_3, c325_3, A325_4, c325_4, e325, hx325_0, hx325_1, hx325_2, hx325_3, hx325_4, hl325_3, hi325_3, hl325_4, hi325_4⟩ := at_T38 HR0.out x5_1 p325 q325
                  have hw325_4 := hx325_4
                  have hw325_3 := hx325_3
                  have hw325_2 := hx325_2
                  have hw325_1 := hx325_1
                  have hw325_0 := hx325_0
                  cases e325
                  replace hx325_0 := (HB.out.cell (World.block_lt_of_cell? w _ hx325_0)).trans hx325_0
                  replace hx325_1 := (HB.out.cell (World.block_lt_of_cell? w _ hx325_1)).trans hx325_1
                  replace hx325_2 := (HB.out.cell (World.block_lt_of_cell? w _ hx325_2)).trans hx325_2
                  replace hx325_3 := (HB.out.cell (World.block_lt_of_cell? w _ hx325_3)).trans hx325_3
                  replace hx325_4 := (HB.out.cell (World.block_lt_of_cell? w _ hx325_4)).trans hx325_4
                  have HR325_3 := Aside0.mk hi325_3
                  have HC325_3 := Aside0.mk hl325_3
                  clear hi325_3 hl325_3
                  have HR325_4 := Aside0.mk hi325_4
                  have HC325_4 := Aside0.mk hl325_4
                  clear hi325_4 hl325_4
                  replace p325 := eq_true p325
                  replace q325 := eq_true q325
                  have p326 : 0 ≤ (x5_1 : Int) := of_decide_eq_true (by first | (with_reducible assumption) | assumption)
                  have q326 : x5_1 < (l1.length : Int) := of_decide_eq_true (by first | (with_reducible assumption) | assumption)
                  obtain ⟨ad326, A326_3, c326_3, A326_4, c326_4, e326, hx326_0, hx326_1, hx326_2, hx326_3, hx326_4, hl326_3, hi326_3, hl326_4, hi326_4⟩ := at_T38 HR1.out x5_1 p326 q326
                  have hw326_4 := hx326_4
                  have hw326_3 := hx326_3
                  have hw326_2 := hx326_2
                  have hw326_1 := hx326_1
                  have hw326_0 := hx326_0
                  cases e326
                  replace hx326_0 := (HB.out.cell (World.block_lt_of_cell? w _ hx326_0)).trans hx326_0
                  replace hx326_1 := (HB.out.cell (World.block_lt_of_cell? w _ hx326_1)).trans hx326_1
                  replace hx326_2 := (HB.out.cell (World.block_lt_of_cell? w _ hx326_2)).trans hx326_2
                  replace hx326_3 := (HB.out.cell (World.block_lt_of_cell? w _ hx326_3)).trans hx326_3
                  replace hx326_4 := (HB.out.cell (World.block_lt_of_cell? w _ hx326_4)).trans hx326_4
                  have HR326_3 := Aside0.mk hi326_3
                  have HC326_3 := Aside0.mk hl326_3
                  clear hi326_3 hl326_3
                  have HR326_4 := Aside0.mk hi326_4
                  have HC326_4 := Aside0.mk hl326_4
                  clear hi326_4 hl326_4
                  replace p326 := eq_true p326
                  replace q326 := eq_true q326
                  have p327 : 0 ≤ (x5_1 : Int) := of_decide_eq_true (by first | (with_reducible assumption) | assumption)
                  have q327 : x5_1 < (l0.length : Int) := of_decide_eq_true (by first | (with_reducible assumption) | assumption)
                  obtain ⟨ad327, A327_3, c327_3, A327_4, c327_4, e327, hx327_0, hx327_1, hx327_2, hx327_3, hx327_4, hl327_3, hi327_3, hl327_4, hi327_4⟩ := at_T38 HR0.out x5_1 p327 q327
                  have hw327_4 := hx327_4
                  have hw327_3 := hx327_3
                  have hw327_2 := hx327_2
                  have hw327_1 := hx327_1
                  have hw327_0 := hx327_0
                  obtain rfl : ad325 = ad327 := (by injection e327)
                  replace hx327_0 := (HB.out.cell (World.block_lt_of_cell? w _ hx327_0)).trans hx327_0
                  replace hx327_1 := (HB.out.cell (World.block_lt_of_cell? w _ hx327_1)).trans hx327_1
                  replace hx327_2 := (HB.out.cell (World.block_lt_of_cell? w _ hx327_2)).trans hx327_2
                  replace hx327_3 := (HB.out.cell (World.block_lt_of_cell? w _ hx327_3)).trans hx327_3
                  replace hx327_4 := (HB.out.cell (World.block_lt_of_cell? w _ hx327_4)).trans hx327_4
                  have HR327_3 := Aside0.mk hi327_3
                  have HC327_3 := Aside0.mk hl327_3
                  clear hi327_3 hl327_3
                  have HR327_4 := Aside0.mk hi327_4
                  have HC327_4 := Aside0.mk hl327_4
                  clear hi327_4 hl327_4
                  replace p327 := eq_true p327
                  replace q327 := eq_true q327
                  have ea_ := Option.some.inj (hx325_3.symm.trans hx327_3)
                  injection ea_ with ea_ en_ ec_
                  subst ea_
                  subst ec_
                  clear en_
                  have ea_ := Option.some.inj (hx325_4.symm.trans hx327_4)
                  injection ea_ with ea_ en_ ec_
                  subst ea_
                  subst ec_
                  clear en_
                  have p328 : 0 ≤ (x5_1 : Int) := of_decide_eq_true (by first | (with_reducible assumption) | assumption)
                  have q328 : x5_1 < (l1.length : Int) := of_decide_eq_true (by first | (with_reducible assumption) | assumption)
                  obtain ⟨ad328, A328_3, c328_3, A328_4, c328_4, e328, hx328_0, hx328_1, hx328_2, hx328_3, hx328_4, hl328_3, hi328_3, hl328_4, hi328_4⟩ := at_T38 HR1.out x5_1 p328 q328
                  have hw328_4 := hx328_4
                  have hw328_3 := hx328_3
                  have hw328_2 := hx328_2
                  have hw328_1 := hx328_1
                  have hw328_0 := hx328_0
                  obtain rfl : ad326 = ad328 := (by injection e328)
                  replace hx328_0 := (HB.out.cell (World.block_lt_of_cell? w _ hx328_0)).trans hx328_0
                  replace hx328_1 := (HB.out.cell (World.block_lt_of_cell? w _ hx328_1)).trans hx328_1
                  replace hx328_2 := (HB.out.cell (World.block_lt_of_cell? w _ hx328_2)).trans hx328_2
                  replace hx328_3 := (HB.out.cell (World.block_lt_of_cell? w _ hx328_3)).trans hx328_3
                  replace hx328_4 := (HB.out.cell (World.block_lt_of_cell? w _ hx328_4)).trans hx328_4
                  have HR328_3 := Aside0.mk hi328_3
                  have HC328_3 := Aside0.mk hl328_3
                  clear hi328_3 hl328_3
                  have HR328_4 := Aside0.mk hi328_4
                  have HC328_4 := Aside0.mk hl328_4
                  clear hi328_4 hl328_4
                  replace p328 := eq_true p328
                  replace q328 := eq_true q328
                  have ea_ := Option.some.inj (hx326_3.symm.trans hx328_3)
                  injection ea_ with ea_ en_ ec_
                  subst ea_
                  subst ec_
                  clear en_
                  have ea_ := Option.some.inj (hx326_4.symm.trans hx328_4)
                  injection ea_ with ea_ en_ ec_
                  subst ea_
                  subst ec_
                  clear en_
                  refine start_ (n := 25) (S := fun w' => w'.cell? (ad325.add ((x5_1).toNat * 5)) = some (.string ((rd_T38 l0 x5_1).f0)) ∧ w'.cell? ⟨(ad325.add ((x5_1).toNat * 5)).block, (ad325.add ((x5_1).toNat * 5)).off + 1, none⟩ = some (.int .i64 ((rd_T38 l0 x5_1).f1.f0)) ∧ w'.cell? ⟨(ad325.add ((x5_1).toNat * 5)).block, (ad325.add ((x5_1).toNat * 5)).off + 2, none⟩ = some (.string ((rd_T38 l0 x5_1).f1.f1)) ∧ w'.cell? ⟨(ad325.add ((x5_1).toNat * 5)).block, (ad325.add ((x5_1).toNat * 5)).off + 3, none⟩ = some (.slice A325_3 ((rd_T38 l0 x5_1).f1.f2).length c325_3) ∧ w'.cell? ⟨(ad325.add ((x5_1).toNat * 5)).block, (ad325.add ((x5_1).toNat * 5)).off + 4, none⟩ = some (.slice A325_4 ((rd_T38 l0 x5_1).f1.f3).length c325_4) ∧ w'.cell? (ad326.add ((x5_1).toNat * 5)) = some (.string ((rd_T38 l1 x5_1).f0)) ∧ w'.cell? ⟨(ad326.add ((x5_1).toNat * 5)).block, (ad326.add ((x5_1).toNat * 5)).off + 1, none⟩ = some (.int .i64 ((rd_T38 l1 x5_1).f1.f0)) ∧ w'.cell? ⟨(ad326.add ((x5_1).toNat * 5)).block, (ad326.add ((x5_1).toNat * 5)).off + 2, none⟩ = some (.string ((rd_T38 l1 x5_1).f1.f1)) ∧ w'.cell? ⟨(ad326.add ((x5_1).toNat * 5)).block, (ad326.add ((x5_1).toNat * 5)).off + 3, none⟩ = some (.slice A326_3 ((rd_T38 l1 x5_1).f1.f2).length c326_3) ∧ w'.cell? ⟨(ad326.add ((x5_1).toNat * 5)).block, (ad326.add ((x5_1).toNat * 5)).off + 4, none⟩ = some (.slice A326_4 ((rd_T38 l1 x5_1).f1.f3).length c326_4) ∧ w'.cell? (ad325.add ((x5_1).toNat * 5)) = some (.string ((rd_T38 l0 x5_1).f0)) ∧ w'.cell? ⟨(ad325.add ((x5_1).toNat * 5)).block, (ad325.add ((x5_1).toNat * 5)).off + 1, none⟩ = some (.int .i64 ((rd_T38 l0 x5_1).f1.f0)) ∧ w'.cell? ⟨(ad325.add ((x5_1).toNat * 5)).block, (ad325.add ((x5_1).toNat * 5)).off + 2, none⟩ = some (.string ((rd_T38 l0 x5_1).f1.f1)) ∧ w'.cell? ⟨(ad325.add ((x5_1).toNat * 5)).block, (ad325.add ((x5_1).toNat * 5)).off + 3, none⟩ = some (.slice A325_3 ((rd_T38 l0 x5_1).f1.f2).length c325_3) ∧ w'.cell? ⟨(ad325.add ((x5_1).toNat * 5)).block, (ad325.add ((x5_1).toNat * 5)).off + 4, none⟩ = some (.slice A325_4 ((rd_T38 l0 x5_1).f1.f3).length c325_4) ∧ w'.cell? (ad326.add ((x5_1).toNat * 5)) = some (.string ((rd_T38 l1 x5_1).f0)) ∧ w'.cell? ⟨(ad326.add ((x5_1).toNat * 5)).block, (ad326.add ((x5_1).toNat * 5)).off + 1, none⟩ = some (.int .i64 ((rd_T38 l1 x5_1).f1.f0)) ∧ w'.cell? ⟨(ad326.add ((x5_1).toNat * 5)).block, (ad326.add ((x5_1).toNat * 5)).off + 2, none⟩ = some (.string ((rd_T38 l1 x5_1).f1.f1)) ∧ w'.cell? ⟨(ad326.add ((x5_1).toNat * 5)).block, (ad326.add ((x5_1).toNat * 5)).off + 3, none⟩ = some (.slice A326_3 ((rd_T38 l1 x5_1).f1.f2).length c326_3) ∧ w'.cell? ⟨(ad326.add ((x5_1).toNat * 5)).block, (ad326.add ((x5_1).toNat * 5)).off + 4, none⟩ = some (.slice A326_4 ((rd_T38 l1 x5_1).f1.f3).length c326_4)) (ds := []) #[false, false, false, false, false, false, false, false, false, false, false, false, false, false, false, false, false, false, false, false, false, false, false, false, false] (by kernel_rfl) rfl rfl ⟨((HB.out.cell (World.block_lt_of_cell? w _ hw325_0)).trans hw325_0), ((HB.out.cell (World.block_lt_of_cell? w _ hw325_1)).trans hw325_1), ((HB.out.cell (World.block_lt_of_cell? w _ hw325_2)).trans hw325_2), ((HB.out.cell (World.block_lt_of_cell? w _ hw325_3)).trans hw325_3), ((HB.out.cell (World.block_lt_of_cell? w _ hw325_4)).trans hw325_4), ((HB.out.cell (World.block_lt_of_cell? w _ hw326_0)).trans hw326_0), ((HB.out.cell (World.block_lt_of_cell? w _ hw326_1)).trans hw326_1), ((HB.out.cell (World.block_lt_of_cell? w _ hw326_2)).trans hw326_2), ((HB.out.cell (World.block_lt_of_cell? w _ hw326_3)).trans hw326_3), ((HB.out.cell (World.block_lt_of_cell? w _ hw326_4)).trans hw326_4), ((HB.out.cell (World.block_lt_of_cell? w _ hw327_0)).trans hw327_0), ((HB.out.cell (World.block_lt_of_cell? w _ hw327_1)).trans hw327_1), ((HB.out.cell (World.block_lt_of_cell? w _ hw327_2)).trans hw327_2), ((HB.out.cell (World.block_lt_of_cell? w _ hw327_3)).trans hw327_3), ((HB.out.cell (World.block_lt_of_cell? w _ hw327_4)).trans hw327_4), ((HB.out.cell (World.block_lt_of_cell? w _ hw328_0)).trans hw328_0), ((HB.out.cell (World.block_lt_of_cell? w _ hw328_1)).trans hw328_1), ((HB.out.cell (World.block_lt_of_cell? w _ hw328_2)).trans hw328_2), ((HB.out.cell (World.block_lt_of_cell? w _ hw328_3)).trans hw328_3), ((HB.out.cell (World.block_lt_of_cell? w _ hw328_4)).trans hw328_4)⟩ (fun hHeld => ?_); refine with_tabW phalaroperef09_Very.tab6 phalaroperef09_Very.bits6 (fun HT_ HW_ => ?_)
                  generalize wr.drew = w10 at HB HR325_3 HR325_4 HR326_3 HR326_4 HR327_3 HR327_4 HR328_3 HR328_4 hx325_0 hx325_1 hx325_2 hx325_3 hx325_4 hx326_0 hx326_1 hx326_2 hx326_3 hx326_4 hx327_0 hx327_1 hx327_2 hx327_3 hx327_4 hx328_0 hx328_1 hx328_2 hx328_3 hx328_4 hHeld ⊢
                  refine pure_ (i := 0) (N := some 17) (v := ?_) (a' := ?_) #[true, false, false, false, false, false, false, false, false, false, false, false, false, false, false, false, false, false, false, false, false, false, false, false, false] rfl rfl (any_of HT_.out (by kernel_rfl)) (fun _ _ _ h => h) (Or.inl ⟨by rfl, ?_⟩) ?_ ?_
                  rotate_left
                  · intro w'
                    go_simp
                    with_reducible rfl
                  rotate_left
                  · simp only [Act.put, List.setIfInBounds_toArray, List.set_cons_zero, List.set_cons_succ, i64_w, i32_w]
                    rfl
                  refine pure_ (i := 1) (N := some 18) (v := ?_) (a' := ?_) #[true, true, false, false, false, false, false, false, false, false, false, false, false, false, false, false, false, false, false, false, false, false, false, false, false] rfl rfl (any_of HT_.out (by kernel_rfl)) (fun _ _ _ h => h) (Or.inl ⟨by rfl, ?_⟩) ?_ ?_
                  rotate_left
                  · intro w'
                    go_simp
                    with_reducible rfl
                  rotate_left
                  · simp only [Act.put, List.setIfInBounds_toArray, List.set_cons_zero, List.set_cons_succ, i64_w, i32_w]
                    rfl
                  refine pure_ (i := 2) (N := some 19) (v := ?_) (a' := ?_) #[true, true, true, false, false, false, false, false, false, false, false, false, false, false, false, false, false, false, false, false, false, false, false, false, false] rfl rfl (any_of HT_.out (by kernel_rfl)) (fun _ _ _ h => h) (Or.inl ⟨by rfl, ?_⟩) ?_ ?_
                  rotate_left
                  · intro w'
                    go_simp
                    with_reducible rfl
                  rotate_left
                  · simp only [Act.put, List.setIfInBounds_toArray, List.set_cons_zero, List.set_cons_succ, i64_w, i32_w]
                    rfl
                  refine pure_ (i := 3) (N := some 20) (v := ?_) (a' := ?_) #[true, true, true, true, false, false, false, false, false, false, false, false, false, false, false, false, false, false, false, false, false, false, false, false, false] rfl rfl (any_of HT_.out (by kernel_rfl)) (fun _ _ _ h => h) (Or.inl ⟨by rfl, ?_⟩) ?_ ?_
                  rotate_left
                  · intro w'
                    go_simp
                    with_reducible rfl
                  rotate_left
                  · simp only [Act.put, List.setIfInBounds_toArray, List.set_cons_zero, List.set_cons_succ, i64_w, i32_w]
                    rfl
                  refine pure_ (i := 5) (N := some 22) (v := ?_) (a' := ?_) #[true, true, true, true, false, true, false, false, false, false, false, false, false, false, false, false, false, false, false, false, false, false, false, false, false] rfl rfl (any_of HT_.out (by kernel_rfl)) (fun _ _ _ h => h) (Or.inl ⟨by rfl, ?_⟩) ?_ ?_
                  rotate_left
                  · intro w'
                    go_simp
                    with_reducible rfl
                  rotate_left
                  · simp only [Act.put, List.setIfInBounds_toArray, List.set_cons_zero, List.set_cons_succ, i64_w, i32_w]
                    rfl
                  refine pure_ (i := 6) (N := some 23) (v := ?_) (a' := ?_) #[true, true, true, true, false, true, true, false, false, false, false, false, false, false, false, false, false, false, false, false, false, false, false, false, false] rfl rfl (any_of HT_.out (by kernel_rfl)) (fun _ _ _ h => h) (Or.inl ⟨by rfl, ?_⟩) ?_ ?_
                  rotate_left
                  · intro w'
                    go_simp
                    with_reducible rfl
                  rotate_left
                  · simp only [Act.put, List.setIfInBounds_toArray, List.set_cons_zero, List.set_cons_succ, i64_w, i32_w]
                    rfl
                  refine pure_ (i := 7) (N := some 24) (v := ?_) (a' := ?_) #[true, true, true, true, false, true, true, true, false, false, false, false, false, false, false, false, false, false, false, false, false, false, false, false, false] rfl rfl (any_of HT_.out (by kernel_rfl)) (fun _ _ _ h => h) (Or.inl ⟨by rfl, ?_⟩) ?_ ?_
                  rotate_left
                  · intro w'
                    go_simp
                    with_reducible rfl
                  rotate_left
                  · simp only [Act.put, List.setIfInBounds_toArray, List.set_cons_zero, List.set_cons_succ, i64_w, i32_w]
                    rfl
                  refine pure_ (i := 8) (N := some 25) (v := ?_) (a' := ?_) #[true, true, true, true, false, true, true, true, true, false, false, false, false, false, false, false, false, false, false, false, false, false, false, false, false] rfl rfl (any_of HT_.out (by kernel_rfl)) (fun _ _ _ h => h) (Or.inl ⟨by rfl, ?_⟩) ?_ ?_
                  rotate_left
                  · intro w'
                    go_simp
                    with_reducible rfl
                  rotate_left
                  · simp only [Act.put, List.setIfInBounds_toArray, List.set_cons_zero, List.set_cons_succ, i64_w, i32_w]
                    rfl
                  refine take_ (i := 4) (N := some 21) (v := ?_) (a' := ?_) #[true, true, true, true, true, true, true, true, true, false, false, false, false, false, false, false, false, false, false, false, false, false, false, false, false] rfl rfl (take_ofW HT_.out HW_.out (by kernel_rfl)) (fun _ _ _ h => h) (Or.inl ⟨by rfl, ?_⟩) hHeld ?_ ?_
                  rotate_left
                  · rintro w' ⟨s0, s1, s2, s3, s4, s5, s6, s7, s8, s9, s10, s11, s12, s13, s14, s15, s16, s17, s18, s19⟩
                    go_simp
                    with_reducible rfl
                  rotate_left
                  · simp only [Act.put, List.setIfInBounds_toArray, List.set_cons_zero, List.set_cons_succ, i64_w, i32_w]
                    rfl
                  refine take_ (i := 9) (N := some 26) (v := ?_) (a' := ?_) #[true, true, true, true, true, true, true, true, true, true, false, false, false, false, false, false, false, false, false, false, false, false, false, false, false] rfl rfl (take_ofW HT_.out HW_.out (by kernel_rfl)) (fun _ _ _ h => h) (Or.inl ⟨by rfl, ?_⟩) hHeld ?_ ?_
                  rotate_left
                  · rintro w' ⟨s0, s1, s2, s3, s4, s5, s6, s7, s8, s9, s10, s11, s12, s13, s14, s15, s16, s17, s18, s19⟩
                    go_simp
                    with_reducible rfl
                  rotate_left
                  · simp only [Act.put, List.setIfInBounds_toArray, List.set_cons_zero, List.set_cons_succ, i64_w, i32_w]
                    rfl
                  refine pure_ (i := 10) (N := some 27) (v := ?_) (a' := ?_) #[true, true, true, true, true, true, true, true, true, true, true, false, false, false, false, false, false, false, false, false, false, false, false, false, false] rfl rfl (any_of HT_.out (by kernel_rfl)) (fun _ _ _ h => h) (Or.inl ⟨by rfl, ?_⟩) ?_ ?_
                  rotate_left
                  · intro w'
                    go_simp
                    with_reducible rfl
                  rotate_left
                  · simp only [Act.put, List.setIfInBounds_toArray, List.set_cons_zero, List.set_cons_succ, i64_w, i32_w]
                    rfl
                  refine pure_ (i := 11) (N := some 28) (v := ?_) (a' := ?_) #[true, true, true, true, true, true, true, true, true, true, true, true, false, false, false, false, false, false, false, false, false, false, false, false, false] rfl rfl (any_of HT_.out (by kernel_rfl)) (fun _ _ _ h => h) (Or.inl ⟨by rfl, ?_⟩) ?_ ?_
                  rotate_left
                  · intro w'
                    go_simp
                    with_reducible rfl
                  rotate_left
                  · simp only [Act.put, List.setIfInBounds_toArray, List.set_cons_zero, List.set_cons_succ, i64_w, i32_w]
                    rfl
                  refine pure_ (i := 12) (N := some 29) (v := ?_) (a' := ?_) #[true, true, true, true, true, true, true, true, true, true, true, true, true, false, false, false, false, false, false, false, false, false, false, false, false] rfl rfl (any_of HT_.out (by kernel_rfl)) (fun _ _ _ h => h) (Or.inl ⟨by rfl, ?_⟩) ?_ ?_
                  rotate_left
                  · intro w'
                    go_simp
                    with_reducible rfl
                  rotate_left
                  · simp only [Act.put, List.setIfInBounds_toArray, List.set_cons_zero, List.set_cons_succ, i64_w, i32_w]
                    rfl
                  refine pure_ (i := 13) (N := some 30) (v := ?_) (a' := ?_) #[true, true, true, true, true, true, true, true, true, true, true, true, true, true, false, false, false, false, false, false, false, false, false, false, false] rfl rfl (any_of HT_.out (by kernel_rfl)) (fun _ _ _ h => h) (Or.inl ⟨by rfl, ?_⟩) ?_ ?_
                  rotate_left
                  · intro w'
                    go_simp
                    with_reducible rfl
                  rotate_left
                  · simp only [Act.put, List.setIfInBounds_toArray, List.set_cons_zero, List.set_cons_succ, i64_w, i32_w]
                    rfl
                  refine pure_ (i := 14) (N := some 31) (v := ?_) (a' := ?_) #[true, true, true, true, true, true, true, true, true, true, true, true, true, true, true, false, false, false, false, false, false, false, false, false, false] rfl rfl (any_of HT_.out (by kernel_rfl)) (fun _ _ _ h => h) (Or.inl ⟨by rfl, ?_⟩) ?_ ?_
                  rotate_left
                  · intro w'
                    go_simp
                    with_reducible rfl
                  rotate_left
                  · simp only [Act.put, List.setIfInBounds_toArray, List.set_cons_zero, List.set_cons_succ, i64_w, i32_w]
                    rfl
                  refine pure_ (i := 15) (N := some 32) (v := ?_) (a' := ?_) #[true, true, true, true, true, true, true, true, true, true, true, true, true, true, true, true, false, false, false, false, false, false, false, false, false] rfl rfl (any_of HT_.out (by kernel_rfl)) (fun _ _ _ h => h) (Or.inl ⟨by rfl, ?_⟩) ?_ ?_
                  rotate_left
                  · intro w'
                    go_simp
                    with_reducible rfl
                  rotate_left
                  · simp only [Act.put, List.setIfInBounds_toArray, List.set_cons_zero, List.set_cons_succ, i64_w, i32_w]
                    rfl
                  refine pure_ (i := 17) (N := some 34) (v := ?_) (a' := ?_) #[true, true, true, true, true, true, true, true, true, true, true, true, true, true, true, true, false, true, false, false, false, false, false, false, false] rfl rfl (any_of HT_.out (by kernel_rfl)) (fun _ _ _ h => h) (Or.inl ⟨by rfl, ?_⟩) ?_ ?_
                  rotate_left
                  · intro w'
                    go_simp
                    with_reducible rfl
                  rotate_left
                  · simp only [Act.put, List.setIfInBounds_toArray, List.set_cons_zero, List.set_cons_succ, i64_w, i32_w]
                    rfl
                  refine pure_ (i := 18) (N := some 35) (v := ?_) (a' := ?_) #[true, true, true, true, true, true, true, true, true, true, true, true, true, true, true, true, false, true, true, false, false, false, false, false, false] rfl rfl (any_of HT_.out (by kernel_rfl)) (fun _ _ _ h => h) (Or.inl ⟨by rfl, ?_⟩) ?_ ?_
                  rotate_left
                  · intro w'
                    go_simp
                    with_reducible rfl
                  rotate_left
                  · simp only [Act.put, List.setIfInBounds_toArray, List.set_cons_zero, List.set_cons_succ, i64_w, i32_w]
                    rfl
                  refine pure_ (i := 19) (N := some 36) (v := ?_) (a' := ?_) #[true, true, true, true, true, true, true, true, true, true, true, true, true, true, true, true, false, true, true, true, false, false, false, false, false] rfl rfl (any_of HT_.out (by kernel_rfl)) (fun _ _ _ h => h) (Or.inl ⟨by rfl, ?_⟩) ?_ ?_
                  rotate_left
                  · intro w'
                    go_simp
                    with_reducible rfl
                  rotate_left
                  · simp only [Act.put, List.setIfInBounds_toArray, List.set_cons_zero, List.set_cons_succ, i64_w, i32_w]
                    rfl
                  refine pure_ (i := 20) (N := some 37) (v := ?_) (a' := ?_) #[true, true, true, true, true, true, true, true, true, true, true, true, true, true, true, true, false, true, true, true, true, false, false, false, false] rfl rfl (any_of HT_.out (by kernel_rfl)) (fun _ _ _ h => h) (Or.inl ⟨by rfl, ?_⟩) ?_ ?_
                  rotate_left
                  · intro w'
                    go_simp
                    with_reducible rfl
                  rotate_left
                  · simp only [Act.put, List.setIfInBounds_toArray, List.set_cons_zero, List.set_cons_succ, i64_w, i32_w]
                    rfl
                  refine take_ (i := 16) (N := some 33) (v := ?_) (a' := ?_) #[true, true, true, true, true, true, true, true, true, true, true, true, true, true, true, true, true, true, true, true, true, false, false, false, false] rfl rfl (take_ofW HT_.out HW_.out (by kernel_rfl)) (fun _ _ _ h => h) (Or.inl ⟨by rfl, ?_⟩) hHeld ?_ ?_
                  rotate_left
                  · rintro w' ⟨s0, s1, s2, s3, s4, s5, s6, s7, s8, s9, s10, s11, s12, s13, s14, s15, s16, s17, s18, s19⟩
                    go_simp
                    with_reducible rfl
                  rotate_left
                  · simp only [Act.put, List.setIfInBounds_toArray, List.set_cons_zero, List.set_cons_succ, i64_w, i32_w]
                    rfl
                  refine take_ (i := 21) (N := some 38) (v := ?_) (a' := ?_) #[true, true, true, true, true, true, true, true, true, true, true, true, true, true, true, true, true, true, true, true, true, true, false, false, false] rfl rfl (take_ofW HT_.out HW_.out (by kernel_rfl)) (fun _ _ _ h => h) (Or.inl ⟨by rfl, ?_⟩) hHeld ?_ ?_
                  rotate_left
                  · rintro w' ⟨s0, s1, s2, s3, s4, s5, s6, s7, s8, s9, s10, s11, s12, s13, s14, s15, s16, s17, s18, s19⟩
                    go_simp
                    with_reducible rfl
                  rotate_left
                  · simp only [Act.put, List.setIfInBounds_toArray, List.set_cons_zero, List.set_cons_succ, i64_w, i32_w]
                    rfl
                  refine one_ (i := 22) (N := some 39) #[true, true, true, true, true, true, true, true, true, true, true, true, true, true, true, true, true, true, true, true, true, true, true, false, false] rfl rfl (one_of HT_.out (by kernel_rfl)) (by decide) (fun K hK => ?_)
                  refine goes_ Try.func13 (by kernel_rfl) rfl #[.agg #[.int .i64 ((rd_T38 l0 x5_1).f1.f0), .string ((rd_T38 l0 x5_1).f1.f1), .slice A325_3 ((rd_T38 l0 x5_1).f1.f2).length c325_3, .slice A325_4 ((rd_T38 l0 x5_1).f1.f3).length c325_4], .agg #[.int .i64 ((rd_T38 l1 x5_1).f1.f0), .string ((rd_T38 l1 x5_1).f1.f1), .slice A326_3 ((rd_T38 l1 x5_1).f1.f2).length c326_3, .slice A326_4 ((rd_T38 l1 x5_1).f1.f3).length c326_4]] (by rfl) rfl rfl (by (try simp only [List.map_toArray, List.map_cons, List.map_nil]); first | done | rfl | (simp only [List.length_drop, List.length_take]; rfl)) ?_
                  with_reducible refine (phalaroperef08_Very.calls k1 ((rd_T38 l0 x5_1).f1.f0) ((rd_T38 l0 x5_1).f1.f1) _ _ ((rd_T38 l0 x5_1).f1.f2) _ _ ((rd_T38 l0 x5_1).f1.f3) ((rd_T38 l1 x5_1).f1.f0) ((rd_T38 l1 x5_1).f1.f1) _ _ ((rd_T38 l1 x5_1).f1.f2) _ _ ((rd_T38 l1 x5_1).f1.f3) true _ ?side1 ?side2 ?side3 ?side4 ?side5 ?side6 ?side7 ?side8 A8.out).mono ?_
                  (case side1 => repeat (first | exact (Kd.C_below HR327_3.out HB.out) | (with_reducible refine Kd.C_alloc ?_ _) | (with_reducible refine Kd.C_drewN ?_ _) | (with_reducible refine Kd.C_drew ?_)))
                  (case side2 => exact HC327_3.out)
                  (case side3 => repeat (first | exact (Kd.C_below HR327_4.out HB.out) | (with_reducible refine Kd.C_alloc ?_ _) | (with_reducible refine Kd.C_drewN ?_ _) | (with_reducible refine Kd.C_drew ?_)))
                  (case side4 => exact HC327_4.out)
                  (case side5 => repeat (first | exact (Kd.C_below HR328_3.out HB.out) | (with_reducible refine Kd.C_alloc ?_ _) | (with_reducible refine Kd.C_drewN ?_ _) | (with_reducible refine Kd.C_drew ?_)))
                  (case side6 => exact HC328_3.out)
                  (case side7 => repeat (first | exact (Kd.C_below HR328_4.out HB.out) | (with_reducible refine Kd.C_alloc ?_ _) | (with_reducible refine Kd.C_drewN ?_ _) | (with_reducible refine Kd.C_drew ?_)))
                  (case side8 => exact HC328_4.out)
                  rintro e w11 ⟨rfl, hb⟩
                  refine ⟨_, rfl, ?_⟩
                  have n0_ := Aside0.mk (below_step (by repeat (first | (with_reducible first | exact HB.out | apply below_alloc | apply pw_below_drewN | apply below_drew1) | exact HB.out)) hb)
                  clear HB
                  have HB := n0_
                  clear n0_
                  (try clear hb)
                  (try clear hb2)
                  (try clear hk)
                  (try clear hi)
                  refine hK.out _ _ ⟨((HB.out.cell (World.block_lt_of_cell? w _ hw325_0)).trans hw325_0), ((HB.out.cell (World.block_lt_of_cell? w _ hw325_1)).trans hw325_1), ((HB.out.cell (World.block_lt_of_cell? w _ hw325_2)).trans hw325_2), ((HB.out.cell (World.block_lt_of_cell? w _ hw325_3)).trans hw325_3), ((HB.out.cell (World.block_lt_of_cell? w _ hw325_4)).trans hw325_4), ((HB.out.cell (World.block_lt_of_cell? w _ hw326_0)).trans hw326_0), ((HB.out.cell (World.block_lt_of_cell? w _ hw326_1)).trans hw326_1), ((HB.out.cell (World.block_lt_of_cell? w _ hw326_2)).trans hw326_2), ((HB.out.cell (World.block_lt_of_cell? w _ hw326_3)).trans hw326_3), ((HB.out.cell (World.block_lt_of_cell? w _ hw326_4)).trans hw326_4), ((HB.out.cell (World.block_lt_of_cell? w _ hw327_0)).trans hw327_0), ((HB.out.cell (World.block_lt_of_cell? w _ hw327_1)).trans hw327_1), ((HB.out.cell (World.block_lt_of_cell? w _ hw327_2)).trans hw327_2), ((HB.out.cell (World.block_lt_of_cell? w _ hw327_3)).trans hw327_3), ((HB.out.cell (World.block_lt_of_cell? w _ hw327_4)).trans hw327_4), ((HB.out.cell (World.block_lt_of_cell? w _ hw328_0)).trans hw328_0), ((HB.out.cell (World.block_lt_of_cell? w _ hw328_1)).trans hw328_1), ((HB.out.cell (World.block_lt_of_cell? w _ hw328_2)).trans hw328_2), ((HB.out.cell (World.block_lt_of_cell? w _ hw328_3)).trans hw328_3), ((HB.out.cell (World.block_lt_of_cell? w _ hw328_4)).trans hw328_4)⟩ (fun hHeld => ?_)
                  clear hK K
                  refine norm_ (a' := ?_) ?_ ?_
                  rotate_left
                  · show Act.put _ (some 39) _ = _
                    simp only [Act.put, List.setIfInBounds_toArray, List.set_cons_zero, List.set_cons_succ, i64_w, i32_w]
                    rfl
                  refine pure_ (i := 23) (N := some 40) (v := ?_) (a' := ?_) #[true, true, true, true, true, true, true, true, true, true, true, true, true, true, true, true, true, true, true, true, true, true, true, true, false] rfl rfl (any_of HT_.out (by kernel_rfl)) (fun _ _ _ h => h) (Or.inl ⟨by rfl, ?_⟩) ?_ ?_
                  rotate_left
                  · intro w'
                    go_simp
                    with_reducible rfl
                  rotate_left
                  · simp only [Act.put, List.setIfInBounds_toArray, List.set_cons_zero, List.set_cons_succ, i64_w, i32_w]
                    rfl
                  refine pure_ (i := 24) (N := some 41) (v := ?_) (a' := ?_) #[true, true, true, true, true, true, true, true, true, true, true, true, true, true, true, true, true, true, true, true, true, true, true, true, true] rfl rfl (any_of HT_.out (by kernel_rfl)) (fun _ _ _ h => h) (Or.inl ⟨by rfl, ?_⟩) ?_ ?_
                  rotate_left
                  · intro w'
                    go_simp
                    with_reducible rfl
                  rotate_left
                  · simp only [Act.put, List.setIfInBounds_toArray, List.set_cons_zero, List.set_cons_succ, i64_w, i32_w]
                    rfl
                  refine done_ (done_of HT_.out (by kernel_rfl)) ?_
                  try go_wp2
                  go_roundg k1
                  case measure => have := HK1.out; omega
                  case rel => exact ⟨(wrap64 (x5_1 + 1)), (by first | rfl | (simp; done) | (simp [*]; done)), H', ⟨by have := HK1.out; omega⟩, ⟨by repeat (first | (with_reducible first | exact HB.out | apply below_alloc | apply pw_below_drewN | apply below_drew1) | exact HB.out)⟩⟩
                · replace c9 := Bool.eq_false_iff.mpr c9
                  subst c9
                  have H1 : (some false) = some r := by rw [if_neg (show ¬ (false = true) by decide)] at H; exact H
                  clear H
                  have H := H1
                  clear H1
                  obtain rfl := Option.some.inj H
                  try go_wp2
                  have n0_ := Aside0.mk (below_drew1 HB.out)
                  clear HB
                  have HB := n0_
                  clear n0_
                  have p325 : 0 ≤ (x5_1 : Int) := of_decide_eq_true (by first | (with_reducible assumption) | assumption)
                  have q325 : x5_1 < (l0.length : Int) := of_decide_eq_true (by first | (with_reducible assumption) | assumption)
                  obtain ⟨ad325, A325_3, c325_3, A325_4, c325_4, e325, hx325_0, hx325_1, hx325_2, hx325_3, hx325_4, hl325_3, hi325_3, hl325_4, hi325_4⟩ := at_T38 HR0.out x5_1 p325 q325
                  have hw325_4 := hx325_4
                  have hw325_3 := hx325_3
                  have hw325_2 := hx325_2
                  have hw325_1 := hx325_1
                  have hw325_0 := hx325_0
                  cases e325
                  replace hx325_0 := (HB.out.cell (World.block_lt_of_cell? w _ hx325_0)).trans hx325_0
                  replace hx325_1 := (HB.out.cell (World.block_lt_of_cell? w _ hx325_1)).trans hx325_1
                  replace hx325_2 := (HB.out.cell (World.block_lt_of_cell? w _ hx325_2)).trans hx325_2
                  replace hx325_3 := (HB.out.cell (World.block_lt_of_cell? w _ hx325_3)).trans hx325_3
                  replace hx325_4 := (HB.out.cell (World.block_lt_of_cell? w _ hx325_4)).trans hx325_4
                  have HR325_3 := Aside0.mk hi325_3
                  have HC325_3 := Aside0.mk hl325_3
                  clear hi325_3 hl325_3
                  have HR325_4 := Aside0.mk hi325_4
                  have HC325_4 := Aside0.mk hl325_4
                  clear hi325_4 hl325_4
                  replace p325 := eq_true p325
                  replace q325 := eq_true q325
                  have p326 : 0 ≤ (x5_1 : Int) := of_decide_eq_true (by first | (with_reducible assumption) | assumption)
                  have q326 : x5_1 < (l1.length : Int) := of_decide_eq_true (by first | (with_reducible assumption) | assumption)
                  obtain ⟨ad326, A326_3, c326_3, A326_4, c326_4, e326, hx326_0, hx326_1, hx326_2, hx326_3, hx326_4, hl326_3, hi326_3, hl326_4, hi326_4⟩ := at_T38 HR1.out x5_1 p326 q326
                  have hw326_4 := hx326_4
                  have hw326_3 := hx326_3
                  have hw326_2 := hx326_2
                  have hw326_1 := hx326_1
                  have hw326_0 := hx326_0
                  cases e326
                  replace hx326_0 := (HB.out.cell (World.block_lt_of_cell? w _ hx326_0)).trans hx326_0
                  replace hx326_1 := (HB.out.cell (World.block_lt_of_cell? w _ hx326_1)).trans hx326_1
                  replace hx326_2 := (HB.out.cell (World.block_lt_of_cell? w _ hx326_2)).trans hx326_2
                  replace hx326_3 := (HB.out.cell (World.block_lt_of_cell? w _ hx326_3)).trans hx326_3
                  replace hx326_4 := (HB.out.cell (World.block_lt_of_cell? w _ hx326_4)).trans hx326_4
                  have HR326_3 := Aside0.mk hi326_3
                  have HC326_3 := Aside0.mk hl326_3
                  clear hi326_3 hl326_3
                  have HR326_4 := Aside0.mk hi326_4
                  have HC326_4 := Aside0.mk hl326_4
                  clear hi326_4 hl326_4
                  replace p326 := eq_true p326
                  replace q326 := eq_true q326
                  have p327 : 0 ≤ (x5_1 : Int) := of_decide_eq_true (by first | (with_reducible assumption) | assumption)
                  have q327 : x5_1 < (l0.length : Int) := of_decide_eq_true (by first | (with_reducible assumption) | assumption)
                  obtain ⟨ad327, A327_3, c327_3, A327_4, c327_4, e327, hx327_0, hx327_1, hx327_2, hx327_3, hx327_4, hl327_3, hi327_3, hl327_4, hi327_4⟩ := at_T38 HR0.out x5_1 p327 q327
                  have hw327_4 := hx327_4
                  have hw327_3 := hx327_3
                  have hw327_2 := hx327_2
                  have hw327_1 := hx327_1
                  have hw327_0 := hx327_0
                  obtain rfl : ad325 = ad327 := (by injection e327)
                  replace hx327_0 := (HB.out.cell (World.block_lt_of_cell? w _ hx327_0)).trans hx327_0
                  replace hx327_1 := (HB.out.cell (World.block_lt_of_cell? w _ hx327_1)).trans hx327_1
                  replace hx327_2 := (HB.out.cell (World.block_lt_of_cell? w _ hx327_2)).trans hx327_2
                  replace hx327_3 := (HB.out.cell (World.block_lt_of_cell? w _ hx327_3)).trans hx327_3
                  replace hx327_4 := (HB.out.cell (World.block_lt_of_cell? w _ hx327_4)).trans hx327_4
                  have HR327_3 := Aside0.mk hi327_3
                  have HC327_3 := Aside0.mk hl327_3
                  clear hi327_3 hl327_3
                  have HR327_4 := Aside0.mk hi327_4
                  have HC327_4 := Aside0.mk hl327_4
                  clear hi327_4 hl327_4
                  replace p327 := eq_true p327
                  replace q327 := eq_true q327
                  have ea_ := Option.some.inj (hx325_3.symm.trans hx327_3)
                  injection ea_ with ea_ en_ ec_
                  subst ea_
                  subst ec_
                  clear en_
                  have ea_ := Option.some.inj (hx325_4.symm.trans hx327_4)
                  injection ea_ with ea_ en_ ec_
                  subst ea_
                  subst ec_
                  clear en_
                  have p328 : 0 ≤ (x5_1 : Int) := of_decide_eq_true (by first | (with_reducible assumption) | assumption)
                  have q328 : x5_1 < (l1.length : Int) := of_decide_eq_true (by first | (with_reducible assumption) | assumption)
                  obtain ⟨ad328, A328_3, c328_3, A328_4, c328_4, e328, hx328_0, hx328_1, hx328_2, hx328_3, hx328_4, hl328_3, hi328_3, hl328_4, hi328_4⟩ := at_T38 HR1.out x5_1 p328 q328
                  have hw328_4 := hx328_4
                  have hw328_3 := hx328_3
                  have hw328_2 := hx328_2
                  have hw328_1 := hx328_1
                  have hw328_0 := hx328_0
                  obtain rfl : ad326 = ad328 := (by injection e328)
                  replace hx328_0 := (HB.out.cell (World.block_lt_of_cell? w _ hx328_0)).trans hx328_0
                  replace hx328_1 := (HB.out.cell (World.block_lt_of_cell? w _ hx328_1)).trans hx328_1
                  replace hx328_2 := (HB.out.cell (World.block_lt_of_cell? w _ hx328_2)).trans hx328_2
                  replace hx328_3 := (HB.out.cell (World.block_lt_of_cell? w _ hx328_3)).trans hx328_3
                  replace hx328_4 := (HB.out.cell (World.block_lt_of_cell? w _ hx328_4)).trans hx328_4
                  have HR328_3 := Aside0.mk hi328_3
                  have HC328_3 := Aside0.mk hl328_3
                  clear hi328_3 hl328_3
                  have HR328_4 := Aside0.mk hi328_4
                  have HC328_4 := Aside0.mk hl328_4
                  clear hi328_4 hl328_4
                  replace p328 := eq_true p328
                  replace q328 := eq_true q328
                  have ea_ := Option.some.inj (hx326_3.symm.trans hx328_3)
                  injection ea_ with ea_ en_ ec_
                  subst ea_
                  subst ec_
                  clear en_
                  have ea_ := Option.some.inj (hx326_4.symm.trans hx328_4)
                  injection ea_ with ea_ en_ ec_
                  subst ea_
                  subst ec_
                  clear en_
                  refine start_ (n := 25) (S := fun w' => w'.cell? (ad325.add ((x5_1).toNat * 5)) = some (.string ((rd_T38 l0 x5_1).f0)) ∧ w'.cell? ⟨(ad325.add ((x5_1).toNat * 5)).block, (ad325.add ((x5_1).toNat * 5)).off + 1, none⟩ = some (.int .i64 ((rd_T38 l0 x5_1).f1.f0)) ∧ w'.cell? ⟨(ad325.add ((x5_1).toNat * 5)).block, (ad325.add ((x5_1).toNat * 5)).off + 2, none⟩ = some (.string ((rd_T38 l0 x5_1).f1.f1)) ∧ w'.cell? ⟨(ad325.add ((x5_1).toNat * 5)).block, (ad325.add ((x5_1).toNat * 5)).off + 3, none⟩ = some (.slice A325_3 ((rd_T38 l0 x5_1).f1.f2).length c325_3) ∧ w'.cell? ⟨(ad325.add ((x5_1).toNat * 5)).block, (ad325.add ((x5_1).toNat * 5)).off + 4, none⟩ = some (.slice A325_4 ((rd_T38 l0 x5_1).f1.f3).length c325_4) ∧ w'.cell? (ad326.add ((x5_1).toNat * 5)) = some (.string ((rd_T38 l1 x5_1).f0)) ∧ w'.cell? ⟨(ad326.add ((x5_1).toNat * 5)).block, (ad326.add ((x5_1).toNat * 5)).off + 1, none⟩ = some (.int .i64 ((rd_T38 l1 x5_1).f1.f0)) ∧ w'.cell? ⟨(ad326.add ((x5_1).toNat * 5)).block, (ad326.add ((x5_1).toNat * 5)).off + 2, none⟩ = some (.string ((rd_T38 l1 x5_1).f1.f1)) ∧ w'.cell? ⟨(ad326.add ((x5_1).toNat * 5)).block, (ad326.add ((x5_1).toNat * 5)).off + 3, none⟩ = some (.slice A326_3 ((rd_T38 l1 x5_1).f1.f2).length c326_3) ∧ w'.cell? ⟨(ad326.add ((x5_1).toNat * 5)).block, (ad326.add ((x5_1).toNat * 5)).off + 4, none⟩ = some (.slice A326_4 ((rd_T38 l1 x5_1).f1.f3).length c326_4) ∧ w'.cell? (ad325.add ((x5_1).toNat * 5)) = some (.string ((rd_T38 l0 x5_1).f0)) ∧ w'.cell? ⟨(ad325.add ((x5_1).toNat * 5)).block, (ad325.add ((x5_1).toNat * 5)).off + 1, none⟩ = some (.int .i64 ((rd_T38 l0 x5_1).f1.f0)) ∧ w'.cell? ⟨(ad325.add ((x5_1).toNat * 5)).block, (ad325.add ((x5_1).toNat * 5)).off + 2, none⟩ = some (.string ((rd_T38 l0 x5_1).f1.f1)) ∧ w'.cell? ⟨(ad325.add ((x5_1).toNat * 5)).block, (ad325.add ((x5_1).toNat * 5)).off + 3, none⟩ = some (.slice A325_3 ((rd_T38 l0 x5_1).f1.f2).length c325_3) ∧ w'.cell? ⟨(ad325.add ((x5_1).toNat * 5)).block, (ad325.add ((x5_1).toNat * 5)).off + 4, none⟩ = some (.slice A325_4 ((rd_T38 l0 x5_1).f1.f3).length c325_4) ∧ w'.cell? (ad326.add ((x5_1).toNat * 5)) = some (.string ((rd_T38 l1 x5_1).f0)) ∧ w'.cell? ⟨(ad326.add ((x5_1).toNat * 5)).block, (ad326.add ((x5_1).toNat * 5)).off + 1, none⟩ = some (.int .i64 ((rd_T38 l1 x5_1).f1.f0)) ∧ w'.cell? ⟨(ad326.add ((x5_1).toNat * 5)).block, (ad326.add ((x5_1).toNat * 5)).off + 2, none⟩ = some (.string ((rd_T38 l1 x5_1).f1.f1)) ∧ w'.cell? ⟨(ad326.add ((x5_1).toNat * 5)).block, (ad326.add ((x5_1).toNat * 5)).off + 3, none⟩ = some (.slice A326_3 ((rd_T38 l1 x5_1).f1.f2).length c326_3) ∧ w'.cell? ⟨(ad326.add ((x5_1).toNat * 5)).block, (ad326.add ((x5_1).toNat * 5)).off + 4, none⟩ = some (.slice A326_4 ((rd_T38 l1 x5_1).f1.f3).length c326_4)) (ds := []) #[false, false, false, false, false, false, false, false, false, false, false, false, false, false, false, false, false, false, false, false, false, false, false, false, false] (by kernel_rfl) rfl rfl ⟨((HB.out.cell (World.block_lt_of_cell? w _ hw325_0)).trans hw325_0), ((HB.out.cell (World.block_lt_of_cell? w _ hw325_1)).trans hw325_1), ((HB.out.cell (World.block_lt_of_cell? w _ hw325_2)).trans hw325_2), ((HB.out.cell (World.block_lt_of_cell? w _ hw325_3)).trans hw325_3), ((HB.out.cell (World.block_lt_of_cell? w _ hw325_4)).trans hw325_4), ((HB.out.cell (World.block_lt_of_cell? w _ hw326_0)).trans hw326_0), ((HB.out.cell (World.block_lt_of_cell? w _ hw326_1)).trans hw326_1), ((HB.out.cell (World.block_lt_of_cell? w _ hw326_2)).trans hw326_2), ((HB.out.cell (World.block_lt_of_cell? w _ hw326_3)).trans hw326_3), ((HB.out.cell (World.block_lt_of_cell? w _ hw326_4)).trans hw326_4), ((HB.out.cell (World.block_lt_of_cell? w _ hw327_0)).trans hw327_0), ((HB.out.cell (World.block_lt_of_cell? w _ hw327_1)).trans hw327_1), ((HB.out.cell (World.block_lt_of_cell? w _ hw327_2)).trans hw327_2), ((HB.out.cell (World.block_lt_of_cell? w _ hw327_3)).trans hw327_3), ((HB.out.cell (World.block_lt_of_cell? w _ hw327_4)).trans hw327_4), ((HB.out.cell (World.block_lt_of_cell? w _ hw328_0)).trans hw328_0), ((HB.out.cell (World.block_lt_of_cell? w _ hw328_1)).trans hw328_1), ((HB.out.cell (World.block_lt_of_cell? w _ hw328_2)).trans hw328_2), ((HB.out.cell (World.block_lt_of_cell? w _ hw328_3)).trans hw328_3), ((HB.out.cell (World.block_lt_of_cell? w _ hw328_4)).trans hw328_4)⟩ (fun hHeld => ?_); refine with_tabW phalaroperef09_Very.tab6 phalaroperef09_Very.bits6 (fun HT_ HW_ => ?_)
                  generalize wr.drew = w12 at HB HR325_3 HR325_4 HR326_3 HR326_4 HR327_3 HR327_4 HR328_3 HR328_4 hx325_0 hx325_1 hx325_2 hx325_3 hx325_4 hx326_0 hx326_1 hx326_2 hx326_3 hx326_4 hx327_0 hx327_1 hx327_2 hx327_3 hx327_4 hx328_0 hx328_1 hx328_2 hx328_3 hx328_4 hHeld ⊢
                  refine pure_ (i := 0) (N := some 17) (v := ?_) (a' := ?_) #[true, false, false, false, false, false, false, false, false, false, false, false, false, false, false, false, false, false, false, false, false, false, false, false, false] rfl rfl (any_of HT_.out (by kernel_rfl)) (fun _ _ _ h => h) (Or.inl ⟨by rfl, ?_⟩) ?_ ?_
                  rotate_left
                  · intro w'
                    go_simp
                    with_reducible rfl
                  rotate_left
                  · simp only [Act.put, List.setIfInBounds_toArray, List.set_cons_zero, List.set_cons_succ, i64_w, i32_w]
                    rfl
                  refine pure_ (i := 1) (N := some 18) (v := ?_) (a' := ?_) #[true, true, false, false, false, false, false, false, false, false, false, false, false, false, false, false, false, false, false, false, false, false, false, false, false] rfl rfl (any_of HT_.out (by kernel_rfl)) (fun _ _ _ h => h) (Or.inl ⟨by rfl, ?_⟩) ?_ ?_
                  rotate_left
                  · intro w'
                    go_simp
                    with_reducible rfl
                  rotate_left
                  · simp only [Act.put, List.setIfInBounds_toArray, List.set_cons_zero, List.set_cons_succ, i64_w, i32_w]
                    rfl
                  refine pure_ (i := 2) (N := some 19) (v := ?_) (a' := ?_) #[true, true, true, false, false, false, false, false, false, false, false, false, false, false, false, false, false, false, false, false, false, false, false, false, false] rfl rfl (any_of HT_.out (by kernel_rfl)) (fun _ _ _ h => h) (Or.inl ⟨by rfl, ?_⟩) ?_ ?_
                  rotate_left
                  · intro w'
                    go_simp
                    with_reducible rfl
                  rotate_left
                  · simp only [Act.put, List.setIfInBounds_toArray, List.set_cons_zero, List.set_cons_succ, i64_w, i32_w]
                    rfl
                  refine pure_ (i := 3) (N := some 20) (v := ?_) (a' := ?_) #[true, true, true, true, false, false, false, false, false, false, false, false, false, false, false, false, false, false, false, false, false, false, false, false, false] rfl rfl (any_of HT_.out (by kernel_rfl)) (fun _ _ _ h => h) (Or.inl ⟨by rfl, ?_⟩) ?_ ?_
                  rotate_left
                  · intro w'
                    go_simp
                    with_reducible rfl
                  rotate_left
                  · simp only [Act.put, List.setIfInBounds_toArray, List.set_cons_zero, List.set_cons_succ, i64_w, i32_w]
                    rfl
                  refine pure_ (i := 5) (N := some 22) (v := ?_) (a' := ?_) #[true, true, true, true, false, true, false, false, false, false, false, false, false, false, false, false, false, false, false, false, false, false, false, false, false] rfl rfl (any_of HT_.out (by kernel_rfl)) (fun _ _ _ h => h) (Or.inl ⟨by rfl, ?_⟩) ?_ ?_
                  rotate_left
                  · intro w'
                    go_simp
                    with_reducible rfl
                  rotate_left
                  · simp only [Act.put, List.setIfInBounds_toArray, List.set_cons_zero, List.set_cons_succ, i64_w, i32_w]
                    rfl
                  refine pure_ (i := 6) (N := some 23) (v := ?_) (a' := ?_) #[true, true, true, true, false, true, true, false, false, false, false, false, false, false, false, false, false, false, false, false, false, false, false, false, false] rfl rfl (any_of HT_.out (by kernel_rfl)) (fun _ _ _ h => h) (Or.inl ⟨by rfl, ?_⟩) ?_ ?_
                  rotate_left
                  · intro w'
                    go_simp
                    with_reducible rfl
                  rotate_left
                  · simp only [Act.put, List.setIfInBounds_toArray, List.set_cons_zero, List.set_cons_succ, i64_w, i32_w]
                    rfl
                  refine pure_ (i := 7) (N := some 24) (v := ?_) (a' := ?_) #[true, true, true, true, false, true, true, true, false, false, false, false, false, false, false, false, false, false, false, false, false, false, false, false, false] rfl rfl (any_of HT_.out (by kernel_rfl)) (fun _ _ _ h => h) (Or.inl ⟨by rfl, ?_⟩) ?_ ?_
                  rotate_left
                  · intro w'
                    go_simp
                    with_reducible rfl
                  rotate_left
                  · simp only [Act.put, List.setIfInBounds_toArray, List.set_cons_zero, List.set_cons_succ, i64_w, i32_w]
                    rfl
                  refine pure_ (i := 8) (N := some 25) (v := ?_) (a' := ?_) #[true, true, true, true, false, true, true, true, true, false, false, false, false, false, false, false, false, false, false, false, false, false, false, false, false] rfl rfl (any_of HT_.out (by kernel_rfl)) (fun _ _ _ h => h) (Or.inl ⟨by rfl, ?_⟩) ?_ ?_
                  rotate_left
                  · intro w'
                    go_simp
                    with_reducible rfl
                  rotate_left
                  · simp only [Act.put, List.setIfInBounds_toArray, List.set_cons_zero, List.set_cons_succ, i64_w, i32_w]
                    rfl
                  refine take_ (i := 4) (N := some 21) (v := ?_) (a' := ?_) #[true, true, true, true, true, true, true, true, true, false, false, false, false, false, false, false, false, false, false, false, false, false, false, false, false] rfl rfl (take_ofW HT_.out HW_.out (by kernel_rfl)) (fun _ _ _ h => h) (Or.inl ⟨by rfl, ?_⟩) hHeld ?_ ?_
                  rotate_left
                  · rintro w' ⟨s0, s1, s2, s3, s4, s5, s6, s7, s8, s9, s10, s11, s12, s13, s14, s15, s16, s17, s18, s19⟩
                    go_simp
                    with_reducible rfl
                  rotate_left
                  · simp only [Act.put, List.setIfInBounds_toArray, List.set_cons_zero, List.set_cons_succ, i64_w, i32_w]
                    rfl
                  refine take_ (i := 9) (N := some 26) (v := ?_) (a' := ?_) #[true, true, true, true, true, true, true, true, true, true, false, false, false, false, false, false, false, false, false, false, false, false, false, false, false] rfl rfl (take_ofW HT_.out HW_.out (by kernel_rfl)) (fun _ _ _ h => h) (Or.inl ⟨by rfl, ?_⟩) hHeld ?_ ?_
                  rotate_left
                  · rintro w' ⟨s0, s1, s2, s3, s4, s5, s6, s7, s8, s9, s10, s11, s12, s13, s14, s15, s16, s17, s18, s19⟩
                    go_simp
                    with_reducible rfl
                  rotate_left
                  · simp only [Act.put, List.setIfInBounds_toArray, List.set_cons_zero, List.set_cons_succ, i64_w, i32_w]
                    rfl
                  refine pure_ (i := 10) (N := some 27) (v := ?_) (a' := ?_) #[true, true, true, true, true, true, true, true, true, true, true, false, false, false, false, false, false, false, false, false, false, false, false, false, false] rfl rfl (any_of HT_.out (by kernel_rfl)) (fun _ _ _ h => h) (Or.inl ⟨by rfl, ?_⟩) ?_ ?_
                  rotate_left
                  · intro w'
                    go_simp
                    with_reducible rfl
                  rotate_left
                  · simp only [Act.put, List.setIfInBounds_toArray, List.set_cons_zero, List.set_cons_succ, i64_w, i32_w]
                    rfl
                  refine pure_ (i := 11) (N := some 28) (v := ?_) (a' := ?_) #[true, true, true, true, true, true, true, true, true, true, true, true, false, false, false, false, false, false, false, false, false, false, false, false, false] rfl rfl (any_of HT_.out (by kernel_rfl)) (fun _ _ _ h => h) (Or.inl ⟨by rfl, ?_⟩) ?_ ?_
                  rotate_left
                  · intro w'
                    go_simp
                    with_reducible rfl
                  rotate_left
                  · simp only [Act.put, List.setIfInBounds_toArray, List.set_cons_zero, List.set_cons_succ, i64_w, i32_w]
                    rfl
                  refine pure_ (i := 12) (N := some 29) (v := ?_) (a' := ?_) #[true, true, true, true, true, true, true, true, true, true, true, true, true, false, false, false, false, false, false, false, false, false, false, false, false] rfl rfl (any_of HT_.out (by kernel_rfl)) (fun _ _ _ h => h) (Or.inl ⟨by rfl, ?_⟩) ?_ ?_
                  rotate_left
                  · intro w'
                    go_simp
                    with_reducible rfl
                  rotate_left
                  · simp only [Act.put, List.setIfInBounds_toArray, List.set_cons_zero, List.set_cons_succ, i64_w, i32_w]
                    rfl
                  refine pure_ (i := 13) (N := some 30) (v := ?_) (a' := ?_) #[true, true, true, true, true, true, true, true, true, true, true, true, true, true, false, false, false, false, false, false, false, false, false, false, false] rfl rfl (any_of HT_.out (by kernel_rfl)) (fun _ _ _ h => h) (Or.inl ⟨by rfl, ?_⟩) ?_ ?_
                  rotate_left
                  · intro w'
                    go_simp
                    with_reducible rfl
                  rotate_left
                  · simp only [Act.put, List.setIfInBounds_toArray, List.set_cons_zero, List.set_cons_succ, i64_w, i32_w]
                    rfl
                  refine pure_ (i := 14) (N := some 31) (v := ?_) (a' := ?_) #[true, true, true, true, true, true, true, true, true, true, true, true, true, true, true, false, false, false, false, false, false, false, false, false, false] rfl rfl (any_of HT_.out (by kernel_rfl)) (fun _ _ _ h => h) (Or.inl ⟨by rfl, ?_⟩) ?_ ?_
                  rotate_left
                  · intro w'
                    go_simp
                    with_reducible rfl
                  rotate_left
                  · simp only [Act.put, List.setIfInBounds_toArray, List.set_cons_zero, List.set_cons_succ, i64_w, i32_w]
                    rfl
                  refine pure_ (i := 15) (N := some 32) (v := ?_) (a' := ?_) #[true, true, true, true, true, true, true, true, true, true, true, true, true, true, true, true, false, false, false, false, false, false, false, false, false] rfl rfl (any_of HT_.out (by kernel_rfl)) (fun _ _ _ h => h) (Or.inl ⟨by rfl, ?_⟩) ?_ ?_
                  rotate_left
                  · intro w'
                    go_simp
                    with_reducible rfl
                  rotate_left
                  · simp only [Act.put, List.setIfInBounds_toArray, List.set_cons_zero, List.set_cons_succ, i64_w, i32_w]
                    rfl
                  refine pure_ (i := 17) (N := some 34) (v := ?_) (a' := ?_) #[true, true, true, true, true, true, true, true, true, true, true, true, true, true, true, true, false, true, false, false, false, false, false, false, false] rfl rfl (any_of HT_.out (by kernel_rfl)) (fun _ _ _ h => h) (Or.inl ⟨by rfl, ?_⟩) ?_ ?_
                  rotate_left
                  · intro w'
                    go_simp
                    with_reducible rfl
                  rotate_left
                  · simp only [Act.put, List.setIfInBounds_toArray, List.set_cons_zero, List.set_cons_succ, i64_w, i32_w]
                    rfl
                  refine pure_ (i := 18) (N := some 35) (v := ?_) (a' := ?_) #[true, true, true, true, true, true, true, true, true, true, true, true, true, true, true, true, false, true, true, false, false, false, false, false, false] rfl rfl (any_of HT_.out (by kernel_rfl)) (fun _ _ _ h => h) (Or.inl ⟨by rfl, ?_⟩) ?_ ?_
                  rotate_left
                  · intro w'
                    go_simp
                    with_reducible rfl
                  rotate_left
                  · simp only [Act.put, List.setIfInBounds_toArray, List.set_cons_zero, List.set_cons_succ, i64_w, i32_w]
                    rfl
                  refine pure_ (i := 19) (N := some 36) (v := ?_) (a' := ?_) #[true, true, true, true, true, true, true, true, true, true, true, true, true, true, true, true, false, true, true, true, false, false, false, false, false] rfl rfl (any_of HT_.out (by kernel_rfl)) (fun _ _ _ h => h) (Or.inl ⟨by rfl, ?_⟩) ?_ ?_
                  rotate_left
                  · intro w'
                    go_simp
                    with_reducible rfl
                  rotate_left
                  · simp only [Act.put, List.setIfInBounds_toArray, List.set_cons_zero, List.set_cons_succ, i64_w, i32_w]
                    rfl
                  refine pure_ (i := 20) (N := some 37) (v := ?_) (a' := ?_) #[true, true, true, true, true, true, true, true, true, true, true, true, true, true, true, true, false, true, true, true, true, false, false, false, false] rfl rfl (any_of HT_.out (by kernel_rfl)) (fun _ _ _ h => h) (Or.inl ⟨by rfl, ?_⟩) ?_ ?_
                  rotate_left
                  · intro w'
                    go_simp
                    with_reducible rfl
                  rotate_left
                  · simp only [Act.put, List.setIfInBounds_toArray, List.set_cons_zero, List.set_cons_succ, i64_w, i32_w]
                    rfl
                  refine take_ (i := 16) (N := some 33) (v := ?_) (a' := ?_) #[true, true, true, true, true, true, true, true, true, true, true, true, true, true, true, true, true, true, true, true, true, false, false, false, false] rfl rfl (take_ofW HT_.out HW_.out (by kernel_rfl)) (fun _ _ _ h => h) (Or.inl ⟨by rfl, ?_⟩) hHeld ?_ ?_
                  rotate_left
                  · rintro w' ⟨s0, s1, s2, s3, s4, s5, s6, s7, s8, s9, s10, s11, s12, s13, s14, s15, s16, s17, s18, s19⟩
                    go_simp
                    with_reducible rfl
                  rotate_left
                  · simp only [Act.put, List.setIfInBounds_toArray, List.set_cons_zero, List.set_cons_succ, i64_w, i32_w]
                    rfl
                  refine take_ (i := 21) (N := some 38) (v := ?_) (a' := ?_) #[true, true, true, true, true, true, true, true, true, true, true, true, true, true, true, true, true, true, true, true, true, true, false, false, false] rfl rfl (take_ofW HT_.out HW_.out (by kernel_rfl)) (fun _ _ _ h => h) (Or.inl ⟨by rfl, ?_⟩) hHeld ?_ ?_
                  rotate_left
                  · rintro w' ⟨s0, s1, s2, s3, s4, s5, s6, s7, s8, s9, s10, s11, s12, s13, s14, s15, s16, s17, s18, s19⟩
                    go_simp
                    with_reducible rfl
                  rotate_left
                  · simp only [Act.put, List.setIfInBounds_toArray, List.set_cons_zero, List.set_cons_succ, i64_w, i32_w]
                    rfl
                  refine one_ (i := 22) (N := some 39) #[true, true, true, true, true, true, true, true, true, true, true, true, true, true, true, true, true, true, true, true, true, true, true, false, false] rfl rfl (one_of HT_.out (by kernel_rfl)) (by decide) (fun K hK => ?_)
                  refine goes_ Try.func13 (by kernel_rfl) rfl #[.agg #[.int .i64 ((rd_T38 l0 x5_1).f1.f0), .string ((rd_T38 l0 x5_1).f1.f1), .slice A325_3 ((rd_T38 l0 x5_1).f1.f2).length c325_3, .slice A325_4 ((rd_T38 l0 x5_1).f1.f3).length c325_4], .agg #[.int .i64 ((rd_T38 l1 x5_1).f1.f0), .string ((rd_T38 l1 x5_1).f1.f1), .slice A326_3 ((rd_T38 l1 x5_1).f1.f2).length c326_3, .slice A326_4 ((rd_T38 l1 x5_1).f1.f3).length c326_4]] (by rfl) rfl rfl (by (try simp only [List.map_toArray, List.map_cons, List.map_nil]); first | done | rfl | (simp only [List.length_drop, List.length_take]; rfl)) ?_
                  with_reducible refine (phalaroperef08_Very.calls k1 ((rd_T38 l0 x5_1).f1.f0) ((rd_T38 l0 x5_1).f1.f1) _ _ ((rd_T38 l0 x5_1).f1.f2) _ _ ((rd_T38 l0 x5_1).f1.f3) ((rd_T38 l1 x5_1).f1.f0) ((rd_T38 l1 x5_1).f1.f1) _ _ ((rd_T38 l1 x5_1).f1.f2) _ _ ((rd_T38 l1 x5_1).f1.f3) false _ ?side1 ?side2 ?side3 ?side4 ?side5 ?side6 ?side7 ?side8 A8.out).mono ?_
                  (case side1 => repeat (first | exact (Kd.C_below HR327_3.out HB.out) | (with_reducible refine Kd.C_alloc ?_ _) | (with_reducible refine Kd.C_drewN ?_ _) | (with_reducible refine Kd.C_drew ?_)))
                  (case side2 => exact HC327_3.out)
                  (case side3 => repeat (first | exact (Kd.C_below HR327_4.out HB.out) | (with_reducible refine Kd.C_alloc ?_ _) | (with_reducible refine Kd.C_drewN ?_ _) | (with_reducible refine Kd.C_drew ?_)))
                  (case side4 => exact HC327_4.out)
                  (case side5 => repeat (first | exact (Kd.C_below HR328_3.out HB.out) | (with_reducible refine Kd.C_alloc ?_ _) | (with_reducible refine Kd.C_drewN ?_ _) | (with_reducible refine Kd.C_drew ?_)))
                  (case side6 => exact HC328_3.out)
                  (case side7 => repeat (first | exact (Kd.C_below HR328_4.out HB.out) | (with_reducible refine Kd.C_alloc ?_ _) | (with_reducible refine Kd.C_drewN ?_ _) | (with_reducible refine Kd.C_drew ?_)))
                  (case side8 => exact HC328_4.out)
                  rintro e w13 ⟨rfl, hb⟩
                  refine ⟨_, rfl, ?_⟩
                  have n0_ := Aside0.mk (below_step (by repeat (first | (with_reducible first | exact HB.out | apply below_alloc | apply pw_below_drewN | apply below_drew1) | exact HB.out)) hb)
                  clear HB
                  have HB := n0_
                  clear n0_
                  (try clear hb)
                  (try clear hb2)
                  (try clear hk)
                  (try clear hi)
                  refine hK.out _ _ ⟨((HB.out.cell (World.block_lt_of_cell? w _ hw325_0)).trans hw325_0), ((HB.out.cell (World.block_lt_of_cell? w _ hw325_1)).trans hw325_1), ((HB.out.cell (World.block_lt_of_cell? w _ hw325_2)).trans hw325_2), ((HB.out.cell (World.block_lt_of_cell? w _ hw325_3)).trans hw325_3), ((HB.out.cell (World.block_lt_of_cell? w _ hw325_4)).trans hw325_4), ((HB.out.cell (World.block_lt_of_cell? w _ hw326_0)).trans hw326_0), ((HB.out.cell (World.block_lt_of_cell? w _ hw326_1)).trans hw326_1), ((HB.out.cell (World.block_lt_of_cell? w _ hw326_2)).trans hw326_2), ((HB.out.cell (World.block_lt_of_cell? w _ hw326_3)).trans hw326_3), ((HB.out.cell (World.block_lt_of_cell? w _ hw326_4)).trans hw326_4), ((HB.out.cell (World.block_lt_of_cell? w _ hw327_0)).trans hw327_0), ((HB.out.cell (World.block_lt_of_cell? w _ hw327_1)).trans hw327_1), ((HB.out.cell (World.block_lt_of_cell? w _ hw327_2)).trans hw327_2), ((HB.out.cell (World.block_lt_of_cell? w _ hw327_3)).trans hw327_3), ((HB.out.cell (World.block_lt_of_cell? w _ hw327_4)).trans hw327_4), ((HB.out.cell (World.block_lt_of_cell? w _ hw328_0)).trans hw328_0), ((HB.out.cell (World.block_lt_of_cell? w _ hw328_1)).trans hw328_1), ((HB.out.cell (World.block_lt_of_cell? w _ hw328_2)).trans hw328_2), ((HB.out.cell (World.block_lt_of_cell? w _ hw328_3)).trans hw328_3), ((HB.out.cell (World.block_lt_of_cell? w _ hw328_4)).trans hw328_4)⟩ (fun hHeld => ?_)
                  clear hK K
                  refine norm_ (a' := ?_) ?_ ?_
                  rotate_left
                  · show Act.put _ (some 39) _ = _
                    simp only [Act.put, List.setIfInBounds_toArray, List.set_cons_zero, List.set_cons_succ, i64_w, i32_w]
                    rfl
                  refine pure_ (i := 23) (N := some 40) (v := ?_) (a' := ?_) #[true, true, true, true, true, true, true, true, true, true, true, true, true, true, true, true, true, true, true, true, true, true, true, true, false] rfl rfl (any_of HT_.out (by kernel_rfl)) (fun _ _ _ h => h) (Or.inl ⟨by rfl, ?_⟩) ?_ ?_
                  rotate_left
                  · intro w'
                    go_simp
                    with_reducible rfl
                  rotate_left
                  · simp only [Act.put, List.setIfInBounds_toArray, List.set_cons_zero, List.set_cons_succ, i64_w, i32_w]
                    rfl
                  refine pure_ (i := 24) (N := some 41) (v := ?_) (a' := ?_) #[true, true, true, true, true, true, true, true, true, true, true, true, true, true, true, true, true, true, true, true, true, true, true, true, true] rfl rfl (any_of HT_.out (by kernel_rfl)) (fun _ _ _ h => h) (Or.inl ⟨by rfl, ?_⟩) ?_ ?_
                  rotate_left
                  · intro w'
                    go_simp
                    with_reducible rfl
                  rotate_left
                  · simp only [Act.put, List.setIfInBounds_toArray, List.set_cons_zero, List.set_cons_succ, i64_w, i32_w]
                    rfl
                  refine done_ (done_of HT_.out (by kernel_rfl)) ?_
                  try go_wp2
                  go_ret
                  exact ⟨by first | rfl | (simp [errW_none, errW_some] <;> rfl) | (simp [*, errW_none, errW_some] <;> rfl), by repeat (first | (with_reducible first | exact HB.out | apply below_alloc | apply pw_below_drewN | apply below_drew1) | exact HB.out)⟩
              · rw [if_neg c7] at H
                have c7b0 : (((rd_T38 l0 x5_1).f0).toList == ((rd_T38 l1 x5_1).f0).toList) = false := beq_eq_false_iff_ne.mpr c7
                have c7b1 : (((rd_T38 l0 x5_1).f0).toList != ((rd_T38 l1 x5_1).f0).toList) = true := bne_iff_ne.mpr c7
                obtain rfl := Option.some.inj H
                try go_wp2
                have n0_ := Aside0.mk (below_drew1 HB.out)
                clear HB
                have HB := n0_
                clear n0_
                have p325 : 0 ≤ (x5_1 : Int) := of_decide_eq_true (by first | (with_reducible assumption) | assumption)
                have q325 : x5_1 < (l0.length : Int) := of_decide_eq_true (by first | (with_reducible assumption) | assumption)
                obtain ⟨ad325, A325_3, c325_3, A325_4, c325_4, e325, hx325_0, hx325_1, hx325_2, hx325_3, hx325_4, hl325_3, hi325_3, hl325_4, hi325_4⟩ := at_T38 HR0.out x5_1 p325 q325
                have hw325_4 := hx325_4
                have hw325_3 := hx325_3
                have hw325_2 := hx325_2
                have hw325_1 := hx325_1
                have hw325_0 := hx325_0
                cases e325
                replace hx325_0 := (HB.out.cell (World.block_lt_of_cell? w _ hx325_0)).trans hx325_0
                replace hx325_1 := (HB.out.cell (World.block_lt_of_cell? w _ hx325_1)).trans hx325_1
                replace hx325_2 := (HB.out.cell (World.block_lt_of_cell? w _ hx325_2)).trans hx325_2
                replace hx325_3 := (HB.out.cell (World.block_lt_of_cell? w _ hx325_3)).trans hx325_3
                replace hx325_4 := (HB.out.cell (World.block_lt_of_cell? w _ hx325_4)).trans hx325_4
                have HR325_3 := Aside0.mk hi325_3
                have HC325_3 := Aside0.mk hl325_3
                clear hi325_3 hl325_3
                have HR325_4 := Aside0.mk hi325_4
                have HC325_4 := Aside0.mk hl325_4
                clear hi325_4 hl325_4
                replace p325 := eq_true p325
                replace q325 := eq_true q325
                have p326 : 0 ≤ (x5_1 : Int) := of_decide_eq_true (by first | (with_reducible assumption) | assumption)
                have q326 : x5_1 < (l1.length : Int) := of_decide_eq_true (by first | (with_reducible assumption) | assumption)
                obtain ⟨ad326, A326_3, c326_3, A326_4, c326_4, e326, hx326_0, hx326_1, hx326_2, hx326_3, hx326_4, hl326_3, hi326_3, hl326_4, hi326_4⟩ := at_T38 HR1.out x5_1 p326 q326
                have hw326_4 := hx326_4
                have hw326_3 := hx326_3
                have hw326_2 := hx326_2
                have hw326_1 := hx326_1
                have hw326_0 := hx326_0
                cases e326
                replace hx326_0 := (HB.out.cell (World.block_lt_of_cell? w _ hx326_0)).trans hx326_0
                replace hx326_1 := (HB.out.cell (World.block_lt_of_cell? w _ hx326_1)).trans hx326_1
                replace hx326_2 := (HB.out.cell (World.block_lt_of_cell? w _ hx326_2)).trans hx326_2
                replace hx326_3 := (HB.out.cell (World.block_lt_of_cell? w _ hx326_3)).trans hx326_3
                replace hx326_4 := (HB.out.cell (World.block_lt_of_cell? w _ hx326_4)).trans hx326_4
                have HR326_3 := Aside0.mk hi326_3
                have HC326_3 := Aside0.mk hl326_3
                clear hi326_3 hl326_3
                have HR326_4 := Aside0.mk hi326_4
                have HC326_4 := Aside0.mk hl326_4
                clear hi326_4 hl326_4
                replace p326 := eq_true p326
                replace q326 := eq_true q326
                refine start_ (n := 25) (S := fun w' => w'.cell? (ad325.add ((x5_1).toNat * 5)) = some (.string ((rd_T38 l0 x5_1).f0)) ∧ w'.cell? ⟨(ad325.add ((x5_1).toNat * 5)).block, (ad325.add ((x5_1).toNat * 5)).off + 1, none⟩ = some (.int .i64 ((rd_T38 l0 x5_1).f1.f0)) ∧ w'.cell? ⟨(ad325.add ((x5_1).toNat * 5)).block, (ad325.add ((x5_1).toNat * 5)).off + 2, none⟩ = some (.string ((rd_T38 l0 x5_1).f1.f1)) ∧ w'.cell? ⟨(ad325.add ((x5_1).toNat * 5)).block, (ad325.add ((x5_1).toNat * 5)).off + 3, none⟩ = some (.slice A325_3 ((rd_T38 l0 x5_1).f1.f2).length c325_3) ∧ w'.cell? ⟨(ad325.add ((x5_1).toNat * 5)).block, (ad325.add ((x5_1).toNat * 5)).off + 4, none⟩ = some (.slice A325_4 ((rd_T38 l0 x5_1).f1.f3).length c325_4) ∧ w'.cell? (ad326.add ((x5_1).toNat * 5)) = some (.string ((rd_T38 l1 x5_1).f0)) ∧ w'.cell? ⟨(ad326.add ((x5_1).toNat * 5)).block, (ad326.add ((x5_1).toNat * 5)).off + 1, none⟩ = some (.int .i64 ((rd_T38 l1 x5_1).f1.f0)) ∧ w'.cell? ⟨(ad326.add ((x5_1).toNat * 5)).block, (ad326.add ((x5_1).toNat * 5)).off + 2, none⟩ = some (.string ((rd_T38 l1 x5_1).f1.f1)) ∧ w'.cell? ⟨(ad326.add ((x5_1).toNat * 5)).block, (ad326.add ((x5_1).toNat * 5)).off + 3, none⟩ = some (.slice A326_3 ((rd_T38 l1 x5_1).f1.f2).length c326_3) ∧ w'.cell? ⟨(ad326.add ((x5_1).toNat * 5)).block, (ad326.add ((x5_1).toNat * 5)).off + 4, none⟩ = some (.slice A326_4 ((rd_T38 l1 x5_1).f1.f3).length c326_4)) (ds := []) #[false, false, false, false, false, false, false, false, false, false, false, false, false, false, false, false, false, false, false, false, false, false, false, false, false] (by kernel_rfl) rfl rfl ⟨((HB.out.cell (World.block_lt_of_cell? w _ hw325_0)).trans hw325_0), ((HB.out.cell (World.block_lt_of_cell? w _ hw325_1)).trans hw325_1), ((HB.out.cell (World.block_lt_of_cell? w _ hw325_2)).trans hw325_2), ((HB.out.cell (World.block_lt_of_cell? w _ hw325_3)).trans hw325_3), ((HB.out.cell (World.block_lt_of_cell? w _ hw325_4)).trans hw325_4), ((HB.out.cell (World.block_lt_of_cell? w _ hw326_0)).trans hw326_0), ((HB.out.cell (World.block_lt_of_cell? w _ hw326_1)).trans hw326_1), ((HB.out.cell (World.block_lt_of_cell? w _ hw326_2)).trans hw326_2), ((HB.out.cell (World.block_lt_of_cell? w _ hw326_3)).trans hw326_3), ((HB.out.cell (World.block_lt_of_cell? w _ hw326_4)).trans hw326_4)⟩ (fun hHeld => ?_); refine with_tabW phalaroperef09_Very.tab6 phalaroperef09_Very.bits6 (fun HT_ HW_ => ?_)
                generalize wr.drew = w14 at HB HR325_3 HR325_4 HR326_3 HR326_4 hx325_0 hx325_1 hx325_2 hx325_3 hx325_4 hx326_0 hx326_1 hx326_2 hx326_3 hx326_4 hHeld ⊢
                refine pure_ (i := 0) (N := some 17) (v := ?_) (a' := ?_) #[true, false, false, false, false, false, false, false, false, false, false, false, false, false, false, false, false, false, false, false, false, false, false, false, false] rfl rfl (any_of HT_.out (by kernel_rfl)) (fun _ _ _ h => h) (Or.inl ⟨by rfl, ?_⟩) ?_ ?_
                rotate_left
                · intro w'
                  go_simp
                  with_reducible rfl
                rotate_left
                · simp only [Act.put, List.setIfInBounds_toArray, List.set_cons_zero, List.set_cons_succ, i64_w, i32_w]
                  rfl
                refine pure_ (i := 1) (N := some 18) (v := ?_) (a' := ?_) #[true, true, false, false, false, false, false, false, false, false, false, false, false, false, false, false, false, false, false, false, false, false, false, false, false] rfl rfl (any_of HT_.out (by kernel_rfl)) (fun _ _ _ h => h) (Or.inl ⟨by rfl, ?_⟩) ?_ ?_
                rotate_left
                · intro w'
                  go_simp
                  with_reducible rfl
                rotate_left
                · simp only [Act.put, List.setIfInBounds_toArray, List.set_cons_zero, List.set_cons_succ, i64_w, i32_w]
                  rfl
                refine pure_ (i := 2) (N := some 19) (v := ?_) (a' := ?_) #[true, true, true, false, false, false, false, false, false, false, false, false, false, false, false, false, false, false, false, false, false, false, false, false, false] rfl rfl (any_of HT_.out (by kernel_rfl)) (fun _ _ _ h => h) (Or.inl ⟨by rfl, ?_⟩) ?_ ?_
                rotate_left
                · intro w'
                  go_simp
                  with_reducible rfl
                rotate_left
                · simp only [Act.put, List.setIfInBounds_toArray, List.set_cons_zero, List.set_cons_succ, i64_w, i32_w]
                  rfl
                refine pure_ (i := 3) (N := some 20) (v := ?_) (a' := ?_) #[true, true, true, true, false, false, false, false, false, false, false, false, false, false, false, false, false, false, false, false, false, false, false, false, false] rfl rfl (any_of HT_.out (by kernel_rfl)) (fun _ _ _ h => h) (Or.inl ⟨by rfl, ?_⟩) ?_ ?_
                rotate_left
                · intro w'
                  go_simp
                  with_reducible rfl
                rotate_left
                · simp only [Act.put, List.setIfInBounds_toArray, List.set_cons_zero, List.set_cons_succ, i64_w, i32_w]
                  rfl
                refine pure_ (i := 5) (N := some 22) (v := ?_) (a' := ?_) #[true, true, true, true, false, true, false, false, false, false, false, false, false, false, false, false, false, false, false, false, false, false, false, false, false] rfl rfl (any_of HT_.out (by kernel_rfl)) (fun _ _ _ h => h) (Or.inl ⟨by rfl, ?_⟩) ?_ ?_
                rotate_left
                · intro w'
                  go_simp
                  with_reducible rfl
                rotate_left
                · simp only [Act.put, List.setIfInBounds_toArray, List.set_cons_zero, List.set_cons_succ, i64_w, i32_w]
                  rfl
                refine pure_ (i := 6) (N := some 23) (v := ?_) (a' := ?_) #[true, true, true, true, false, true, true, false, false, false, false, false, false, false, false, false, false, false, false, false, false, false, false, false, false] rfl rfl (any_of HT_.out (by kernel_rfl)) (fun _ _ _ h => h) (Or.inl ⟨by rfl, ?_⟩) ?_ ?_
                rotate_left
                · intro w'
                  go_simp
                  with_reducible rfl
                rotate_left
                · simp only [Act.put, List.setIfInBounds_toArray, List.set_cons_zero, List.set_cons_succ, i64_w, i32_w]
                  rfl
                refine pure_ (i := 7) (N := some 24) (v := ?_) (a' := ?_) #[true, true, true, true, false, true, true, true, false, false, false, false, false, false, false, false, false, false, false, false, false, false, false, false, false] rfl rfl (any_of HT_.out (by kernel_rfl)) (fun _ _ _ h => h) (Or.inl ⟨by rfl, ?_⟩) ?_ ?_
                rotate_left
                · intro w'
                  go_simp
                  with_reducible rfl
                rotate_left
                · simp only [Act.put, List.setIfInBounds_toArray, List.set_cons_zero, List.set_cons_succ, i64_w, i32_w]
                  rfl
                refine pure_ (i := 8) (N := some 25) (v := ?_) (a' := ?_) #[true, true, true, true, false, true, true, true, true, false, false, false, false, false, false, false, false, false, false, false, false, false, false, false, false] rfl rfl (any_of HT_.out (by kernel_rfl)) (fun _ _ _ h => h) (Or.inl ⟨by rfl, ?_⟩) ?_ ?_
                rotate_left
                · intro w'
                  go_simp
                  with_reducible rfl
                rotate_left
                · simp only [Act.put, List.setIfInBounds_toArray, List.set_cons_zero, List.set_cons_succ, i64_w, i32_w]
                  rfl
                refine take_ (i := 4) (N := some 21) (v := ?_) (a' := ?_) #[true, true, true, true, true, true, true, true, true, false, false, false, false, false, false, false, false, false, false, false, false, false, false, false, false] rfl rfl (take_ofW HT_.out HW_.out (by kernel_rfl)) (fun _ _ _ h => h) (Or.inl ⟨by rfl, ?_⟩) hHeld ?_ ?_
                rotate_left
                · rintro w' ⟨s0, s1, s2, s3, s4, s5, s6, s7, s8, s9⟩
                  go_simp
                  with_reducible rfl
                rotate_left
                · simp only [Act.put, List.setIfInBounds_toArray, List.set_cons_zero, List.set_cons_succ, i64_w, i32_w]
                  rfl
                refine take_ (i := 9) (N := some 26) (v := ?_) (a' := ?_) #[true, true, true, true, true, true, true, true, true, true, false, false, false, false, false, false, false, false, false, false, false, false, false, false, false] rfl rfl (take_ofW HT_.out HW_.out (by kernel_rfl)) (fun _ _ _ h => h) (Or.inl ⟨by rfl, ?_⟩) hHeld ?_ ?_
                rotate_left
                · rintro w' ⟨s0, s1, s2, s3, s4, s5, s6, s7, s8, s9⟩
                  go_simp
                  with_reducible rfl
                rotate_left
                · simp only [Act.put, List.setIfInBounds_toArray, List.set_cons_zero, List.set_cons_succ, i64_w, i32_w]
                  rfl
                refine pure_ (i := 10) (N := some 27) (v := ?_) (a' := ?_) #[true, true, true, true, true, true, true, true, true, true, true, false, false, false, false, false, false, false, false, false, false, false, false, false, false] rfl rfl (any_of HT_.out (by kernel_rfl)) (fun _ _ _ h => h) (Or.inl ⟨by rfl, ?_⟩) ?_ ?_
                rotate_left
                · intro w'
                  go_simp
                  with_reducible rfl
                rotate_left
                · simp only [Act.put, List.setIfInBounds_toArray, List.set_cons_zero, List.set_cons_succ, i64_w, i32_w]
                  rfl
                refine pure_ (i := 11) (N := some 28) (v := ?_) (a' := ?_) #[true, true, true, true, true, true, true, true, true, true, true, true, false, false, false, false, false, false, false, false, false, false, false, false, false] rfl rfl (any_of HT_.out (by kernel_rfl)) (fun _ _ _ h => h) (Or.inl ⟨by rfl, ?_⟩) ?_ ?_
                rotate_left
                · intro w'
                  go_simp
                  with_reducible rfl
                rotate_left
                · simp only [Act.put, List.setIfInBounds_toArray, List.set_cons_zero, List.set_cons_succ, i64_w, i32_w]
                  rfl
                refine pure_ (i := 12) (N := some 29) (v := undef) (a' := ?_) #[true, true, true, true, true, true, true, true, true, true, true, true, true, false, false, false, false, false, false, false, false, false, false, false, false] rfl rfl (any_of HT_.out (by kernel_rfl)) (fun _ _ _ h => h) (Or.inr ⟨by rfl, rfl⟩) ?_ ?_
                rotate_left
                · simp only [Act.put, List.setIfInBounds_toArray, List.set_cons_zero, List.set_cons_succ, i64_w, i32_w]
                  rfl
                refine pure_ (i := 13) (N := some 30) (v := undef) (a' := ?_) #[true, true, true, true, true, true, true, true, true, true, true, true, true, true, false, false, false, false, false, false, false, false, false, false, false] rfl rfl (any_of HT_.out (by kernel_rfl)) (fun _ _ _ h => h) (Or.inr ⟨by rfl, rfl⟩) ?_ ?_
                rotate_left
                · simp only [Act.put, List.setIfInBounds_toArray, List.set_cons_zero, List.set_cons_succ, i64_w, i32_w]
                  rfl
                refine pure_ (i := 14) (N := some 31) (v := undef) (a' := ?_) #[true, true, true, true, true, true, true, true, true, true, true, true, true, true, true, false, false, false, false, false, false, false, false, false, false] rfl rfl (any_of HT_.out (by kernel_rfl)) (fun _ _ _ h => h) (Or.inr ⟨by rfl, rfl⟩) ?_ ?_
                rotate_left
                · simp only [Act.put, List.setIfInBounds_toArray, List.set_cons_zero, List.set_cons_succ, i64_w, i32_w]
                  rfl
                refine pure_ (i := 15) (N := some 32) (v := undef) (a' := ?_) #[true, true, true, true, true, true, true, true, true, true, true, true, true, true, true, true, false, false, false, false, false, false, false, false, false] rfl rfl (any_of HT_.out (by kernel_rfl)) (fun _ _ _ h => h) (Or.inr ⟨by rfl, rfl⟩) ?_ ?_
                rotate_left
                · simp only [Act.put, List.setIfInBounds_toArray, List.set_cons_zero, List.set_cons_succ, i64_w, i32_w]
                  rfl
                refine pure_ (i := 16) (N := some 33) (v := undef) (a' := ?_) #[true, true, true, true, true, true, true, true, true, true, true, true, true, true, true, true, true, false, false, false, false, false, false, false, false] rfl rfl (any_of HT_.out (by kernel_rfl)) (fun _ _ _ h => h) (Or.inr ⟨by rfl, rfl⟩) ?_ ?_
                rotate_left
                · simp only [Act.put, List.setIfInBounds_toArray, List.set_cons_zero, List.set_cons_succ, i64_w, i32_w]
                  rfl
                refine pure_ (i := 17) (N := some 34) (v := undef) (a' := ?_) #[true, true, true, true, true, true, true, true, true, true, true, true, true, true, true, true, true, true, false, false, false, false, false, false, false] rfl rfl (any_of HT_.out (by kernel_rfl)) (fun _ _ _ h => h) (Or.inr ⟨by rfl, rfl⟩) ?_ ?_
                rotate_left
                · simp only [Act.put, List.setIfInBounds_toArray, List.set_cons_zero, List.set_cons_succ, i64_w, i32_w]
                  rfl
                refine pure_ (i := 18) (N := some 35) (v := undef) (a' := ?_) #[true, true, true, true, true, true, true, true, true, true, true, true, true, true, true, true, true, true, true, false, false, false, false, false, false] rfl rfl (any_of HT_.out (by kernel_rfl)) (fun _ _ _ h => h) (Or.inr ⟨by rfl, rfl⟩) ?_ ?_
                rotate_left
                · simp only [Act.put, List.setIfInBounds_toArray, List.set_cons_zero, List.set_cons_succ, i64_w, i32_w]
                  rfl
                refine pure_ (i := 19) (N := some 36) (v := undef) (a' := ?_) #[true, true, true, true, true, true, true, true, true, true, true, true, true, true, true, true, true, true, true, true, false, false, false, false, false] rfl rfl (any_of HT_.out (by kernel_rfl)) (fun _ _ _ h => h) (Or.inr ⟨by rfl, rfl⟩) ?_ ?_
                rotate_left
                · simp only [Act.put, List.setIfInBounds_toArray, List.set_cons_zero, List.set_cons_succ, i64_w, i32_w]
                  rfl
                refine pure_ (i := 20) (N := some 37) (v := undef) (a' := ?_) #[true, true, true, true, true, true, true, true, true, true, true, true, true, true, true, true, true, true, true, true, true, false, false, false, false] rfl rfl (any_of HT_.out (by kernel_rfl)) (fun _ _ _ h => h) (Or.inr ⟨by rfl, rfl⟩) ?_ ?_
                rotate_left
                · simp only [Act.put, List.setIfInBounds_toArray, List.set_cons_zero, List.set_cons_succ, i64_w, i32_w]
                  rfl
                refine pure_ (i := 21) (N := some 38) (v := undef) (a' := ?_) #[true, true, true, true, true, true, true, true, true, true, true, true, true, true, true, true, true, true, true, true, true, true, false, false, false] rfl rfl (any_of HT_.out (by kernel_rfl)) (fun _ _ _ h => h) (Or.inr ⟨by rfl, rfl⟩) ?_ ?_
                rotate_left
                · simp only [Act.put, List.setIfInBounds_toArray, List.set_cons_zero, List.set_cons_succ, i64_w, i32_w]
                  rfl
                refine pure_ (i := 22) (N := some 39) (v := undef) (a' := ?_) #[true, true, true, true, true, true, true, true, true, true, true, true, true, true, true, true, true, true, true, true, true, true, true, false, false] rfl rfl (any_of HT_.out (by kernel_rfl)) (fun _ _ _ h => h) (Or.inr ⟨by rfl, rfl⟩) ?_ ?_
                rotate_left
                · simp only [Act.put, List.setIfInBounds_toArray, List.set_cons_zero, List.set_cons_succ, i64_w, i32_w]
                  rfl
                refine pure_ (i := 23) (N := some 40) (v := undef) (a' := ?_) #[true, true, true, true, true, true, true, true, true, true, true, true, true, true, true, true, true, true, true, true, true, true, true, true, false] rfl rfl (any_of HT_.out (by kernel_rfl)) (fun _ _ _ h => h) (Or.inr ⟨by rfl, rfl⟩) ?_ ?_
                rotate_left
                · simp only [Act.put, List.setIfInBounds_toArray, List.set_cons_zero, List.set_cons_succ, i64_w, i32_w]
                  rfl
                refine pure_ (i := 24) (N := some 41) (v := ?_) (a' := ?_) #[true, true, true, true, true, true, true, true, true, true, true, true, true, true, true, true, true, true, true, true, true, true, true, true, true] rfl rfl (any_of HT_.out (by kernel_rfl)) (fun _ _ _ h => h) (Or.inl ⟨by rfl, ?_⟩) ?_ ?_
                rotate_left
                · intro w'
                  go_simp
                  with_reducible rfl
                rotate_left
                · simp only [Act.put, List.setIfInBounds_toArray, List.set_cons_zero, List.set_cons_succ, i64_w, i32_w]
                  rfl
                refine done_ (done_of HT_.out (by kernel_rfl)) ?_
                try go_wp2
                go_ret
                exact ⟨by first | rfl | (simp [errW_none, errW_some] <;> rfl) | (simp [*, errW_none, errW_some] <;> rfl), by repeat (first | (with_reducible first | exact HB.out | apply below_alloc | apply pw_below_drewN | apply below_drew1) | exact HB.out)⟩
            · rw [if_neg c6] at H
              exact absurd H (by simp)
          · rw [if_neg c5] at H
            exact absurd H (by simp)
        · rw [if_neg c4] at H
          have c4b0 : decide (x5_1 < (l0.length : Int)) = false := decide_eq_false c4
          clear c4
          obtain rfl := Option.some.inj H
          go_wp2
          go_ret
          exact ⟨by first | rfl | (simp [errW_none, errW_some] <;> rfl) | (simp [*, errW_none, errW_some] <;> rfl), by repeat (first | (with_reducible first | exact HB.out | apply below_alloc | apply pw_below_drewN | apply below_drew1) | exact HB.out)⟩
  · rw [if_neg c3] at H
    have c3b0 : ((l0.length : Int) == (l1.length : Int)) = false := beq_eq_false_iff_ne.mpr c3
    have c3b1 : ((l0.length : Int) != (l1.length : Int)) = true := bne_iff_ne.mpr c3
    have c3b2 : (l0.length == l1.length) = false := by first | simpa using c3 | (simp at c3 ⊢; omega)
    obtain rfl := Option.some.inj H
    go_enter Try.func17, Try.ntmps17
    go_wp2
    go_ret
    exact ⟨by first | rfl | (simp [errW_none, errW_some] <;> rfl) | (simp [*, errW_none, errW_some] <;> rfl), by repeat (first | (with_reducible first | exact HB.out | apply below_alloc | apply pw_below_drewN | apply below_drew1) | exact HB.out)⟩
end Go.Proofs.Ytfaiplbogchgjaa.PA
end
section
namespace Go.Proofs.Ytfaiplbogchgjaa.PA
open Go.RowKit Go.Proofs.YtfaiplbogchgjaaW.PrintWords Go.Proofs.YtfaiplbogchgjaaW.PrintLast Go.Proofs.YtfaiplbogchgjaaW.PrintMore
attribute [local go_sem] max2_int min2_int max_two min_two max_three min_three max_four min_four   -- for this text's walks alone
set_option linter.unusedVariables false
set_option linter.unusedSimpArgs false
end Go.Proofs.Ytfaiplbogchgjaa.PA
end
section
namespace Go.Proofs.Ytfaiplbogchgjaa.PA
open Go.RowKit Go.Proofs.YtfaiplbogchgjaaW.PrintWords Go.Proofs.YtfaiplbogchgjaaW.PrintLast Go.Proofs.YtfaiplbogchgjaaW.PrintMore
attribute [local go_sem] max2_int min2_int max_two min_two max_three min_three max_four min_four   -- for this text's walks alone
set_option linter.unusedVariables false
set_option linter.unusedSimpArgs false
end Go.Proofs.Ytfaiplbogchgjaa.PA
end
section
namespace Go.Proofs.Ytfaiplbogchgjaa.PA
set_option linter.unusedSimpArgs false
set_option linter.unusedVariables false
open Go.RowKit Go.Proofs.YtfaiplbogchgjaaW.PrintWords Go.Proofs.YtfaiplbogchgjaaW.PrintLast
def ltB (a b : ByteArray) : Prop := a.data.toList < b.data.toList
theorem less_iff {a b : ByteArray} : Op.bytesLess a.toList b.toList = true ↔ ltB a b := by
  rw [Go.Proofs.bytesLess_eq, decide_eq_true_iff, ByteArray.toList_eq, ByteArray.toList_eq]
  rfl
theorem names_sorted (l : List S38) : (sortedL l).Pairwise (· < ·) := by
  have tr : ∀ a b c : List UInt8, leL a b = true → leL b c = true → leL a c = true := fun a b c h1 h2 => by simp only [leL, decide_eq_true_eq] at *; exact List.le_trans h1 h2
  have tt : ∀ a b : List UInt8, (leL a b || leL b a) = true := fun a b => by simp only [leL, Bool.or_eq_true, decide_eq_true_eq]; exact List.le_total a b
  have h1 := List.pairwise_mergeSort tr tt (keysL l)
  have h2 : (sortedL l).Nodup := (List.mergeSort_perm (keysL l) leL).nodup_iff.2 (nodup_keysL l)
  refine (h1.and h2).imp fun {a b} h => ?_
  refine Classical.byContradiction fun h' => h.2 (List.le_antisymm (by simpa [leL] using h.1) h')
theorem canonB_names (l : List S38) : canonB l = (namesS l).map fun nm => ⟨nm, (getL l nm.data.toList).getD z28⟩ := by
  rw [canonB_eq, names_eq, List.map_map]
  rfl
theorem canonB_len (l : List S38) : (canonB l).length = (namesS l).length := by rw [canonB_names, List.length_map]
theorem names_short (l : List S38) : (namesS l).length ≤ l.length := by rw [names_len]; exact sorted_len l
theorem mem_canonB {l : List S38} {x : S38} (h : x ∈ canonB l) : getL l x.f0.data.toList = some x.f1 := by
  rw [canonB_eq, List.mem_map] at h
  obtain ⟨nm, hn, rfl⟩ := h
  obtain ⟨s, hs⟩ := Option.isSome_iff_exists.1 (mem_keysL.1 (List.mem_mergeSort.1 hn))
  show getL l nm = some ((getL l nm).getD z28)
  rw [hs]; rfl
theorem canonB_modest {l : List S38} (hm : modestB l) : modestB (canonB l) := by
  refine ⟨by rw [canonB_len]; exact Nat.le_trans (names_short l) hm.1, fun x hx => ?_⟩
  have hg := mem_canonB hx
  exact ⟨keys_size hm (mem_keysL.2 (by rw [hg]; rfl)), (getL_canon hg).2 hm⟩
theorem getL_def {l : List S38} {nm : List UInt8} {s : S28} (h : getL l nm = some s) : defS s = true := by
  unfold getL at h
  obtain ⟨x, hx, hs⟩ := Option.bind_eq_some_iff.1 h
  split at hs
  · rename_i hd
    obtain rfl := Option.some.inj hs
    unfold defS
    rw [texts_canon]
    exact hd
  · cases hs
theorem getL_canonB (l : List S38) (nm : List UInt8) : getL (canonB l) nm = getL l nm := by
  cases hg : getL l nm with
  | some s =>
    have hmem : (⟨nmOf nm, s⟩ : S38) ∈ canonB l := by
      rw [canonB_eq, List.mem_map]
      exact ⟨nm, List.mem_mergeSort.2 (mem_keysL.2 (by rw [hg]; rfl)), by rw [hg]; rfl⟩
    have hf : ∃ y, (canonB l).find? (fun x => x.f0.data.toList == nm) = some y := by
      cases h : (canonB l).find? (fun x => x.f0.data.toList == nm) with
      | some y => exact ⟨y, rfl⟩
      | none => have := List.find?_eq_none.1 h _ hmem; simp [nmOf] at this
    obtain ⟨y, hy⟩ := hf
    have h1 : y.f0.data.toList = nm := by simpa using List.find?_some hy
    have h2 := mem_canonB (List.mem_of_find?_eq_some hy)
    rw [h1, hg] at h2
    unfold getL
    rw [hy]
    simp only [Option.bind_some]
    rw [← Option.some.inj h2, if_pos (getL_def hg), (getL_canon hg).1]
  | none =>
    unfold getL
    rw [List.find?_eq_none.2 (fun x hx => by
      have h2 := mem_canonB hx
      intro h
      have : x.f0.data.toList = nm := by simpa using h
      rw [this, hg] at h2; cases h2)]
    rfl
theorem canonB_canonB (l : List S38) : canonB (canonB l) = canonB l := canonB_ext (getL_canonB l)
theorem same_canonB (l : List S38) : sameB l (canonB l) = true := by
  unfold sameB
  rw [canonB_canonB, decide_eq_true_iff]
theorem evVeryB_l0 (a b : List S38) (hl : a.length = b.length) (ha : modestB a) (d : Nat) : ∀ i : Nat, i + d = a.length → a.take i = b.take i → Ev (fun k => phalaroperef09_Very.l0 k a b (i : Int)) (decide (a = b)) := by
  have hla := ha.1
  induction d with
  | zero =>
    intro i hi ht
    refine Ev.step (f := fun _ => some true) (fun k => ?_) ?_
    · simp only [phalaroperef09_Very.l0]
      rw [if_neg (by omega)]
    · rw [List.take_of_length_le (by omega), List.take_of_length_le (by omega)] at ht
      rw [decide_eq_true ht]
      exact Ev.now _
  | succ d ih =>
    intro i hi ht
    have hm := (ha.2 a[i] (List.getElem_mem _)).2
    have hv := evVery a[i].f1 b[i].f1 (by have := hm.2.2.1; omega) (by have := hm.2.1; omega)
    by_cases he : a[i].f0.toList = b[i].f0.toList
    · refine Ev.step (f := fun k => (phalaroperef08_Very.f k a[i].f1.f0 a[i].f1.f1 a[i].f1.f2 a[i].f1.f3 b[i].f1.f0 b[i].f1.f1 b[i].f1.f2 b[i].f1.f3).bind fun t => if t = true then phalaroperef09_Very.l0 k a b ((i + 1 : Nat) : Int) else some false) (fun k => ?_) (Ev.bind hv ?_)
      · simp only [phalaroperef09_Very.l0]
        rw [if_pos (by omega), if_pos (by omega), if_pos (by omega), rdb_at a i (by omega), rdb_at b i (by omega), if_pos he, w1 i (by omega)]
      · by_cases hv' : a[i].f1 = b[i].f1
        · rw [decide_eq_true hv']
          have hx : a[i] = b[i] := by
            have h0 : a[i].f0 = b[i].f0 := ByteArray.ext (Array.ext' (str_eq.1 he))
            rcases hx : a[i] with ⟨x0, x1⟩
            rcases hy : b[i] with ⟨y0, y1⟩
            rw [hx, hy] at h0 hv'
            dsimp only at h0 hv'
            rw [h0, hv']
          exact ih (i + 1) (by omega) (by rw [List.take_succ_eq_append_getElem (by omega), List.take_succ_eq_append_getElem (by omega), ht, hx])
        · rw [decide_eq_false hv', decide_eq_false (fun h => hv' (by subst h; rfl))]
          exact Ev.now _
    · refine Ev.step (f := fun _ => some false) (fun k => ?_) ?_
      · simp only [phalaroperef09_Very.l0]
        rw [if_pos (by omega), if_pos (by omega), if_pos (by omega), rdb_at a i (by omega), rdb_at b i (by omega), if_neg he]
      · rw [decide_eq_false (fun h => he (by subst h; rfl))]
        exact Ev.now _
theorem evVeryB (a b : List S38) (ha : modestB a) : Ev (fun k => phalaroperef09_Very.f k a b) (decide (a = b)) := by
  by_cases hl : a.length = b.length
  · refine Ev.congr (fun k => ?_) (evVeryB_l0 a b hl ha a.length 0 (by omega) (by simp))
    unfold phalaroperef09_Very.f
    rw [if_pos (by omega)]; rfl
  · refine Ev.congr (f := fun _ => some false) (fun k => ?_) ?_
    · unfold phalaroperef09_Very.f
      rw [if_neg (by omega)]
    · rw [decide_eq_false (fun h => hl (by rw [h]))]
      exact Ev.now _
def three : List S38 := [⟨⟨#[98]⟩, ⟨1, ⟨#[49]⟩, [], []⟩⟩, ⟨⟨#[97]⟩, ⟨1, ⟨#[50]⟩, [], []⟩⟩, ⟨⟨#[98]⟩, ⟨1, ⟨#[51]⟩, [], []⟩⟩]
theorem three_a : getL three [97] = some ⟨1, ⟨#[50]⟩, [], []⟩ := by
  unfold getL three
  simp [canonS_eq, defS, textsOf]
theorem three_b : getL three [98] = some ⟨1, ⟨#[49]⟩, [], []⟩ := by
  unfold getL three
  simp [canonS_eq, defS, textsOf]
theorem three_keys : keysL three = [[97], [98]] := by
  have h : (three.map fun x => x.f0.data.toList) = [[98], [97], [98]] := rfl
  unfold keysL
  rw [h]
  simp [three_a, three_b, dedupL]
theorem three_canon : canonB three = [⟨⟨#[97]⟩, ⟨1, ⟨#[50]⟩, [], []⟩⟩, ⟨⟨#[98]⟩, ⟨1, ⟨#[49]⟩, [], []⟩⟩] := by
  have h : sortedL three = [[97], [98]] := by
    unfold sortedL
    rw [three_keys]
    exact List.mergeSort_of_pairwise (by decide)
  rw [canonB_eq, h]
  simp [three_a, three_b, nmOf]
theorem three_modest : modestB three := by
  refine ⟨by decide, fun x hx => ?_⟩
  have : x.f0.size ≤ 1000000 ∧ x.f1.f1.size ≤ 1000000 ∧ x.f1.f2 = [] ∧ x.f1.f3 = [] := by
    unfold three at hx
    simp only [List.mem_cons, List.not_mem_nil, or_false] at hx
    rcases hx with rfl | rfl | rfl <;> exact ⟨by decide, by decide, rfl, rfl⟩
  obtain ⟨h0, h1, h2, h3⟩ := this
  exact ⟨h0, h1, by rw [h2]; decide, by rw [h3]; decide, by rw [h2]; simp, by rw [h3]; simp⟩
end Go.Proofs.Ytfaiplbogchgjaa.PA
end
section
namespace Go.Proofs.Ytfaiplbogchgjaa.PA
set_option linter.unusedSimpArgs false
set_option linter.unusedVariables false
open Go.RowKit Go.Proofs.YtfaiplbogchgjaaW.PrintWords Go.Proofs.YtfaiplbogchgjaaW.PrintLast
set_option maxHeartbeats 8000000 in
set_option maxRecDepth 100000 in
theorem text_any (s : ByteArray) (w : World) : Calls Try.prog 27 #[.string s] w fun e W => e = .returned (.agg #[.int .i64 1, .string s, .slice none 0 0, .slice none 0 0]) ∧ Below w.heap.size w W := by
  go_enter Try.func27, Try.ntmps27
  go_wp2_with fail
  exact bodyPost_ret (results_cell_row rfl _ _ w.heap.size 28 _ (0, 0) _ rfl (blk_new w _) Try.underlying28 rfl (by kernel_rfl)) rfl ⟨rfl, X.below_new1 _ _⟩
theorem C_three {W : World} {b : Nat} (h : W.heap[b]? = some (.cells #[.string ⟨#[98]⟩, .int .i64 1, .string ⟨#[49]⟩, .slice none 0 0, .slice none 0 0, .string ⟨#[97]⟩, .int .i64 1, .string ⟨#[50]⟩, .slice none 0 0, .slice none 0 0, .string ⟨#[98]⟩, .int .i64 1, .string ⟨#[51]⟩, .slice none 0 0, .slice none 0 0] 38 (0, 0))) :
    Kd.C k38 W (some ⟨b, 0, none⟩) 3 three := by
  have hc : ∀ i, W.cell? (Addr.add ⟨b, 0, none⟩ i) = (#[.string ⟨#[98]⟩, .int .i64 1, .string ⟨#[49]⟩, .slice none 0 0, .slice none 0 0, .string ⟨#[97]⟩, .int .i64 1, .string ⟨#[50]⟩, .slice none 0 0, .slice none 0 0, .string ⟨#[98]⟩, .int .i64 1, .string ⟨#[51]⟩, .slice none 0 0, .slice none 0 0] : Array Value)[i]? := fun i => by
    cases i with
    | zero => exact blk_cell h 0
    | succ i =>
      rw [show Addr.add ⟨b, 0, none⟩ (i + 1) = ⟨b, i + 1, none⟩ from by simp [Addr.add]]
      exact blk_cell h (i + 1)
  have hk : ∀ (s t : ByteArray), k38.K W ⟨s, ⟨1, t, [], []⟩⟩ [.string s, .int .i64 1, .string t, .slice none 0 0, .slice none 0 0] := fun s t =>
    k38_mk W ⟨s, ⟨1, t, [], []⟩⟩ (A3 := none) (c3 := 0) (Nat.le_refl _) (Kd.R_reads' (Kd.R_nil Kd.string 9 W 0 (fun _ => True))).2.2 (A4 := none) (c4 := 0) (Nat.le_refl _) (Kd.R_reads' (Kd.R_nil k50 50 W 0 (fun _ => True))).2.2
  refine ⟨rfl, by omega, fun _ => ⟨_, rfl, fun j p hj => ?_⟩⟩
  match j, hj with
  | 0, hj => cases hj; exact ⟨_, rfl, hk _ _, fun i u hu => by rw [hc]; match i, hu with | 0, hu => exact hu | 1, hu => exact hu | 2, hu => exact hu | 3, hu => exact hu | 4, hu => exact hu⟩
  | 1, hj => cases hj; exact ⟨_, rfl, hk _ _, fun i u hu => by rw [hc]; match i, hu with | 0, hu => exact hu | 1, hu => exact hu | 2, hu => exact hu | 3, hu => exact hu | 4, hu => exact hu⟩
  | 2, hj => cases hj; exact ⟨_, rfl, hk _ _, fun i u hu => by rw [hc]; match i, hu with | 0, hu => exact hu | 1, hu => exact hu | 2, hu => exact hu | 3, hu => exact hu | 4, hu => exact hu⟩
set_option maxHeartbeats 8000000 in
set_option maxRecDepth 100000 in
theorem awake_walk (w : World) : Calls Try.prog 9 #[] w fun e W => e = .returned (.bool true) ∧ Below w.heap.size w W := by
  go_enter Try.func9, Try.ntmps9
  go_wp2_with fail
  refine (text_any _ _).mono ?_
  rintro e w1 ⟨rfl, hb1⟩
  go_wp2_with fail
  refine (text_any _ _).mono ?_
  rintro e w2 ⟨rfl, hb2⟩
  go_wp2_with fail
  refine (text_any _ _).mono ?_
  rintro e w3 ⟨rfl, hb3⟩
  have hb := below_step (below_step hb1 hb2) hb3
  clear hb1 hb2 hb3
  go_wp2_with fail
  have h3 := blk_new w3 (.cells #[.string ⟨#[98]⟩, .int .i64 1, .string ⟨#[49]⟩, .slice none 0 0, .slice none 0 0, .string ⟨#[97]⟩, .int .i64 1, .string ⟨#[50]⟩, .slice none 0 0, .slice none 0 0, .string ⟨#[98]⟩, .int .i64 1, .string ⟨#[51]⟩, .slice none 0 0, .slice none 0 0] 38)
  have hC := C_three h3
  refine (canon_of (some ⟨w3.heap.size, 0, none⟩) 3 three _ hC three_modest).mono ?_
  rintro e w4 ⟨v4, rfl, h4, hb4⟩
  have hb' := below_step (below_alloc hb (.cells #[.string ⟨#[98]⟩, .int .i64 1, .string ⟨#[49]⟩, .slice none 0 0, .slice none 0 0, .string ⟨#[97]⟩, .int .i64 1, .string ⟨#[50]⟩, .slice none 0 0, .slice none 0 0, .string ⟨#[98]⟩, .int .i64 1, .string ⟨#[51]⟩, .slice none 0 0, .slice none 0 0] 38)) hb4
  have hC4 := Kd.C_below hC hb4
  obtain ⟨A4, c4, rfl, l4, g4⟩ := Kd.R_reads h4
  have HC := Aside0.mk hC4
  have HB := Aside0.mk hb'
  have HG := Aside0.mk g4
  clear hb h3 hC hb4 hb' hC4 g4 h4
  go_wp2_with fail
  refine (get_of (some ⟨w3.heap.size, 0, none⟩) 3 three ⟨#[98]⟩ _ HC.out three_modest (by decide)).mono ?_
  rintro e w5 ⟨v2, v3, rfl, r2, r3, hb5⟩
  have hg : getL three (ByteArray.mk #[98]).data.toList = some ⟨1, ⟨#[49]⟩, [], []⟩ := three_b
  rw [hg] at r2 r3 ⊢
  obtain ⟨B2, d2, rfl⟩ := Kd.R_slice r2
  obtain ⟨B3, d3, rfl⟩ := Kd.R_slice r3
  have hC5 := Kd.C_below HC.out hb5
  have g5 := Kd.C_below HG.out hb5
  have hb' := below_step HB.out hb5
  have hlen : (canonB three).length = 2 := by rw [three_canon]; rfl
  obtain ⟨ad, E3, f3, E4, f4, ead, x0, _, _, _, _, _⟩ := at_T38 g5 0 (by decide) (by omega)
  obtain ⟨ad', F3, h3, F4, h4, ead', _, _, y2, _, _, _⟩ := at_T38 g5 1 (by decide) (by omega)
  obtain rfl : ad = ad' := by rw [ead] at ead'; injection ead'
  subst ead
  have q0 : (rd_T38 (canonB three) 0).f0 = ⟨#[97]⟩ := by rw [three_canon]; rfl
  have q1 : (rd_T38 (canonB three) 1).f1.f1 = ⟨#[49]⟩ := by rw [three_canon]; rfl
  rw [q0] at x0
  rw [q1] at y2
  have hal := below_alloc (Below.refl w5.heap.size w5) (.cells #[.int .i64 1, .string ⟨#[49]⟩, .slice B2 0 d2, .slice B3 0 d3] 28)
  have x0' := addr_keep hal x0
  have y2' := addr_keep hal y2
  simp only [Int.toNat_zero, Nat.zero_mul, Int.reduceToNat, Nat.reduceMul] at x0' y2'
  have ea : ad.add 0 = ad := by simp [Addr.add]
  rw [ea] at x0'
  have e5 : (⟨(ad.add 5).block, (ad.add 5).off + 2, none⟩ : Addr) = ⟨ad.block, ad.off + 5 + 1 + 1, none⟩ := by simp [Addr.add]
  rw [e5] at y2'
  clear r2 r3 hg q0 q1 x0 y2 hal ea e5
  have HC5 := Aside0.mk hC5
  have HG5 := Aside0.mk g5
  have HB5 := Aside0.mk hb'
  clear hC5 g5 hb' hb5 HC HG HB
  go_wp2_with fail
  have hal := below_alloc (Below.refl w5.heap.size w5) (.cells #[.int .i64 1, .string ⟨#[49]⟩, .slice B2 0 d2, .slice B3 0 d3] 28)
  have hs := same_of (some ⟨w3.heap.size, 0, none⟩) 3 three (some ad) c4 (canonB three) _ (Kd.C_below HC5.out hal) (Kd.C_below HG5.out hal) three_modest (canonB_modest three_modest)
  rw [hlen, same_canonB] at hs
  refine hs.mono ?_
  rintro e w6 ⟨rfl, hb6⟩
  have HB6 := Aside0.mk (below_step (below_alloc HB5.out _) hb6)
  clear hb6 hs hal
  go_wp2_with fail
  go_ret
  exact ⟨rfl, HB6.out⟩
end Go.Proofs.Ytfaiplbogchgjaa.PA
end
section
namespace Go.Proofs.Ytfaiplbogchgjaa.PA
set_option linter.unusedSimpArgs false
set_option linter.unusedVariables false
open Go.RowKit Go.Proofs.YtfaiplbogchgjaaW.PrintWords Go.Proofs.YtfaiplbogchgjaaW.PrintLast
variable {W : World}
theorem few_any (l : List S38) : ∃ b : Bool, (b = true → FewB l) ∧ ∀ (W : World) (A : Option Addr) (c : Nat), Kd.C k38 W A l.length l → l.length ≤ c →
    Calls Try.prog 10 #[.slice A l.length c] W fun e W' => e = .returned (.bool b) ∧ Below W.heap.size W W' := by
  obtain ⟨b, hb, h⟩ := evFew l
  obtain ⟨k, hk⟩ := hb.rounds
  exact ⟨b, h, fun W A c hr hc => phalaroperef09_Few.calls k A c l b W hr hc hk⟩
theorem rveryB_any (A : Option Addr) (c : Nat) (l : List S38) (B : Option Addr) (d : Nat) (m : List S38) (W : World) (hr : Kd.C k38 W A l.length l) (hc : l.length ≤ c) (hr' : Kd.C k38 W B m.length m) (hd : m.length ≤ d) (hl : modestB l) :
    Calls Try.prog 17 #[.slice A l.length c, .slice B m.length d] W fun e W' => e = .returned (.bool (decide (l = m))) ∧ Below W.heap.size W W' := by
  obtain ⟨k, hk⟩ := (evVeryB l m hl).rounds
  exact phalaroperef09_Very.calls k A c l B d m _ W hr hc hr' hd hk
end Go.Proofs.Ytfaiplbogchgjaa.PA
end
section
namespace Go.Proofs.Ytfaiplbogchgjaa.PA
set_option linter.unusedSimpArgs false
set_option linter.unusedVariables false
open Go.RowKit Go.Proofs.YtfaiplbogchgjaaW.PrintWords Go.Proofs.YtfaiplbogchgjaaW.PrintLast
theorem canon_rises (l : List S38) (i : Nat) (h : i + 1 < (canonB l).length) : Op.bytesLess (canonB l)[i].f0.toList (canonB l)[i + 1].f0.toList = true := by
  have hs := names_sorted l
  have hl : (canonB l).length = (sortedL l).length := by rw [canonB_eq, List.length_map]
  have e : ∀ j (hj : j < (canonB l).length), (canonB l)[j].f0 = nmOf ((sortedL l)[j]'(by omega)) := fun j hj => by simp [canonB_eq]
  rw [less_iff, e i (by omega), e (i + 1) h]
  exact List.pairwise_iff_getElem.1 hs i (i + 1) (by omega) (by omega) (by omega)
theorem canon_kinds (l : List S38) (i : Nat) (h : i < (canonB l).length) : ((canonB l)[i].f1.f0 == 0) = false := by
  have hg := mem_canonB (List.getElem_mem h)
  have hk := canon_kind (canonB l)[i].f1
  rw [(getL_canon hg).1, getL_def hg] at hk
  simpa using hk
set_option maxHeartbeats 8000000 in
set_option maxRecDepth 100000 in
theorem BindCanon_walk (w : World) {A0 : Option Addr} {c0 : Nat} {l : List S38} {A1 : Option Addr} {c1 : Nat} {m : List S38} (hr0 : Kd.C k38 w A0 l.length l) (hc0 : l.length ≤ c0) (hr1 : Kd.C k38 w A1 m.length m) (hc1 : m.length ≤ c1) :
    Calls Try.prog 4 #[.slice A0 l.length c0, .slice A1 m.length c1] w fun e W' => e = .returned (.bool true) ∧ Below w.heap.size w W' := by
  obtain ⟨b0, f0, h0⟩ := few_any l
  obtain ⟨b1, f1, h1⟩ := few_any m
  have HR0 := Aside0.mk hr0
  have HR1 := Aside0.mk hr1
  have HC0 := Aside0.mk hc0
  have HC1 := Aside0.mk hc1
  have H0 := Aside0.mk h0
  have H1 := Aside0.mk h1
  have F0 := Aside0.mk f0
  have F1 := Aside0.mk f1
  clear hr0 hr1 hc0 hc1 h0 h1 f0 f1
  go_enter Try.func4, Try.ntmps4
  go_wp2_with fail
  refine (awake_walk w).mono ?_
  rintro e w1 ⟨rfl, hb⟩
  have HB := Aside0.mk hb
  clear hb
  go_wp2_with fail
  refine (H0.out w1 A0 c0 (Kd.C_below HR0.out HB.out) HC0.out).mono ?_
  rintro e w2 ⟨rfl, hb⟩
  have HB2 := Aside0.mk (below_step HB.out hb)
  clear hb HB
  cases b0 with
  | false =>
    go_wp2_with fail
    go_ret
    exact ⟨rfl, HB2.out⟩
  | true =>
    go_wp2_with fail
    refine (H1.out w2 A1 c1 (Kd.C_below HR1.out HB2.out) HC1.out).mono ?_
    rintro e w3 ⟨rfl, hb⟩
    have HB3 := Aside0.mk (below_step HB2.out hb)
    clear hb HB2
    cases b1 with
    | false =>
      go_wp2_with fail
      go_ret
      exact ⟨rfl, HB3.out⟩
    | true =>
      have ML := Aside0.mk (F0.out trivial).modest
      have MM := Aside0.mk (F1.out rfl).modest
      go_wp2_with fail
      refine (canon_of A0 c0 l w3 (Kd.C_below HR0.out HB3.out) ML.out).mono ?_
      rintro e w4 ⟨v, rfl, hv, hb⟩
      obtain ⟨A2, c2, rfl, l2, g2⟩ := Kd.R_reads hv
      have HB4 := Aside0.mk (below_step HB3.out hb)
      have G2 := Aside0.mk g2
      have L2 := Aside0.mk l2
      clear hb HB3 hv g2 l2
      go_wp2_with fail
      obtain ⟨n, hn⟩ : ∃ n, n = (canonB l).length := ⟨_, rfl⟩
      have hnl : n ≤ 1000 := by rw [hn, canonB_len]; exact Nat.le_trans (names_short l) ML.out.1
      have HG2 := G2.out
      have HL2 := L2.out
      rw [← hn] at HG2 HL2 ⊢
      have HN := Aside0.mk hn
      have GG := Aside0.mk HG2
      have LL := Aside0.mk HL2
      clear hn HG2 HL2 G2 L2
      go_loopw [7] (fun v7 wr => ∃ k : Nat, k ≤ n ∧ v7 = .int .i64 k ∧ Below w4.heap.size w4 wr) (fun v7 _ => (n - intOf v7).toNat)
      case atStart => exact ⟨0, Nat.zero_le _, rfl, Below.refl _ _⟩
      case round =>
        obtain ⟨k, hk, rfl, hb⟩ := hrel
        have g := Kd.C_below GG.out hb
        have HBR := Aside0.mk hb
        clear hb
        by_cases hlt : k < n
        · obtain ⟨ad, E3, f3, E4, f4, ead, x0, x1, _, _, _, _⟩ := at_T38 g (k : Int) (by omega) (by omega)
          subst ead
          rw [Int.toNat_natCast] at x0 x1
          have hkl : k < (canonB l).length := by rw [← HN.out]; exact hlt
          rw [rdb_at (canonB l) k hkl] at x0 x1
          have hkd := canon_kinds l k hkl
          obtain ⟨kd, hkd'⟩ : ∃ kd, kd = (canonB l)[k].f1.f0 := ⟨_, rfl⟩
          rw [← hkd'] at x1 hkd
          by_cases hk0 : k = 0
          · have hgt : decide ((k : Int) > 0) = false := decide_eq_false (by omega)
            have hgt2 : decide (0 < k) = false := decide_eq_false (by omega)
            have g' := Aside0.mk g
            have HK0 := Aside0.mk hk0
            clear g hkd' hk0
            go_wp2_with fail
            go_quiet (fail)
            go_wp2_with fail
            go_roundw
            case rel => exact ⟨k + 1, by omega, by go_num, pw_below_drewN HBR.out _⟩
            case measure => simp [intOf]; omega
          · obtain ⟨j, hj⟩ : ∃ j, k = j + 1 := ⟨k - 1, by omega⟩
            obtain ⟨ad', E3', f3', E4', f4', ead', y0, _, _, _, _, _⟩ := at_T38 g (j : Int) (by omega) (by omega)
            obtain rfl : ad = ad' := by injection ead'
            rw [Int.toNat_natCast] at y0
            have hjl : j < (canonB l).length := by omega
            rw [rdb_at (canonB l) j hjl] at y0
            have hlt2 : Op.bytesLess (canonB l)[j].f0.toList (canonB l)[k].f0.toList = true := by subst hj; exact canon_rises l j hkl
            obtain ⟨sa, hsa⟩ : ∃ sa, sa = (canonB l)[j].f0 := ⟨_, rfl⟩
            obtain ⟨sb, hsb⟩ : ∃ sb, sb = (canonB l)[k].f0 := ⟨_, rfl⟩
            rw [← hsa] at y0 hlt2
            rw [← hsb] at x0 hlt2
            have hgt : decide ((k : Int) > 0) = true := decide_eq_true (by omega)
            have hgt2 : decide (0 < k) = true := decide_eq_true (by omega)
            have hw : wrap64 ((k : Int) - 1) = (j : Int) := by unfold wrap64; omega
            have hw2 : IntKind.i64.wrap ((k : Int) - 1) = (j : Int) := (i64_w _).trans hw
            have hjn : j < n := by omega
            have HJ := Aside0.mk hj
            clear g hkd' hsa hsb hj hjl hkl hk0
            go_wp2_with fail
            go_quiet (fail)
            go_wp2_with fail
            go_roundw
            case rel => exact ⟨k + 1, by omega, by go_num, pw_below_drewN HBR.out _⟩
            case measure => simp [intOf]; omega
        · have hkn : k = n := by omega
          subst hkn
          have g' := Aside0.mk g
          clear g hlt hk
          go_wp2_with fail
          have ml' := canonB_modest ML.out
          have hcc := canonB_canonB l
          have hg := g'.out
          rw [HN.out] at hg ⊢
          refine (canon_of A2 c2 (canonB l) wr hg ml').mono ?_
          rintro e w5 ⟨v, rfl, hv, hb⟩
          rw [hcc] at hv
          obtain ⟨A3, c3, rfl, l3, g3⟩ := Kd.R_reads hv
          have HBR1 := Aside0.mk (below_step (HB4.out.trans (HBR.out.mono HB4.out.size)) hb)
          have G := Aside0.mk (Kd.C_below hg hb)
          have G3 := Aside0.mk g3
          have L3 := Aside0.mk l3
          clear hb hv g3 l3 hg g' HBR HB4
          go_wp2_with fail
          have hv := rveryB_any A3 c3 (canonB l) A2 c2 (canonB l) w5 G3.out L3.out G.out (by rw [← HN.out]; exact LL.out) (canonB_modest ML.out)
          rw [decide_eq_true rfl] at hv
          refine hv.mono ?_
          rintro e w6 ⟨rfl, hb⟩
          have HB6 := Aside0.mk (below_step HBR1.out hb)
          have G' := Aside0.mk (Kd.C_below G.out hb)
          clear hb hv G G3 HBR1
          go_wp2_with fail
          have hv := same_of A0 c0 l A2 c2 (canonB l) w6 (Kd.C_below HR0.out HB6.out) G'.out ML.out (canonB_modest ML.out)
          rw [same_canonB] at hv
          refine hv.mono ?_
          rintro e w7 ⟨rfl, hb⟩
          have HB7 := Aside0.mk (below_step HB6.out hb)
          have G7 := Aside0.mk (Kd.C_below G'.out hb)
          clear hb hv G' HB6
          go_wp2_with fail
          refine (same_of A0 c0 l A1 c1 m w7 (Kd.C_below HR0.out HB7.out) (Kd.C_below HR1.out HB7.out) ML.out MM.out).mono ?_
          rintro e w8 ⟨rfl, hb⟩
          have HB8 := Aside0.mk (below_step HB7.out hb)
          have G8 := Aside0.mk (Kd.C_below G7.out hb)
          clear hb G7 HB7
          go_wp2_with fail
          refine (canon_of A1 c1 m w8 (Kd.C_below HR1.out HB8.out) MM.out).mono ?_
          rintro e w9 ⟨v, rfl, hv, hb⟩
          obtain ⟨A4, c4, rfl, l4, g4⟩ := Kd.R_reads hv
          have HB9 := Aside0.mk (below_step HB8.out hb)
          have G9 := Aside0.mk (Kd.C_below G8.out hb)
          have G4 := Aside0.mk g4
          have L4 := Aside0.mk l4
          clear hb hv g4 l4 G8 HB8
          go_wp2_with fail
          refine (rveryB_any A2 c2 (canonB l) A4 c4 (canonB m) w9 G9.out (by rw [← HN.out]; exact LL.out) G4.out L4.out (canonB_modest ML.out)).mono ?_
          rintro e w10 ⟨rfl, hb⟩
          have HB10 := Aside0.mk (below_step HB9.out hb)
          clear hb HB9 G9 G4
          have hsb : sameB l m = decide (canonB l = canonB m) := rfl
          have HSB := Aside0.mk hsb
          clear hsb
          rw [← HSB.out]
          go_wp2_with fail
          refine (names_of A0 c0 l w10 (Kd.C_below HR0.out HB10.out) ML.out).mono ?_
          rintro e w11 ⟨v, rfl, hv, hb⟩
          obtain ⟨A5, c5, rfl, _, _⟩ := Kd.R_reads hv
          have HB11 := Aside0.mk (below_step HB10.out hb)
          clear hb hv HB10
          have hln : (namesS l).length = (canonB l).length := (canonB_len l).symm
          rw [hln]
          clear hln
          go_wp2_with fail
          go_ret
          exact ⟨by simp, HB11.out⟩
end Go.Proofs.Ytfaiplbogchgjaa.PA
end
section
namespace Go.Proofs.Ytfaiplbogchgjaa.PA
set_option linter.unusedSimpArgs false
set_option linter.unusedVariables false
open Go.RowKit Go.Joins Go.WideShapes Go.ChangeShapes Go.Proofs.YtfaiplbogchgjaaW.PrintWords X
theorem down_pair : Down Try.prog k50 (fun x => x.f0.size ≤ maxLen ∧ x.f1.size ≤ maxLen) 50 :=
  down_iso (fun p => ⟨p.1, p.2⟩) (fun _ => rfl) (down_struct Try.underlying50 (fdown_cons (down_string Try.underlying9) rfl (by kernel_rfl) (fdown_one (down_string Try.underlying9) rfl (by kernel_rfl))) (by kernel_rfl))
def okV (x : S28) : Prop := (Lit.int .i64 x.f0).wf = true ∧ x.f1.size ≤ maxLen ∧ (∀ y ∈ x.f2, y.size ≤ maxLen) ∧ ∀ y ∈ x.f3, y.f0.size ≤ maxLen ∧ y.f1.size ≤ maxLen
set_option maxRecDepth 100000 in
theorem down_value : Down Try.prog k28 okV 28 :=
  down_iso (fun p => ⟨p.1, p.2.1, p.2.2.1, p.2.2.2⟩) (fun _ => rfl) (down_struct Try.underlying28 (fdown_cons (down_int Try.underlying3) rfl (by kernel_rfl) (fdown_cons (down_string Try.underlying9) rfl (by kernel_rfl) (fdown_cons (down_slice Try.underlying25 (down_string Try.underlying9) (by kernel_rfl)) rfl (by kernel_rfl) (fdown_one (down_slice Try.underlying26 down_pair (by kernel_rfl)) rfl (by kernel_rfl))))) (by kernel_rfl))
set_option maxRecDepth 100000 in
theorem down_bind : Down Try.prog k38 (fun x => x.f0.size ≤ maxLen ∧ okV x.f1) 38 :=
  down_iso (fun p => ⟨p.1, p.2⟩) (fun _ => rfl) (down_struct Try.underlying38 (fdown_cons (down_string Try.underlying9) rfl (by kernel_rfl) (fdown_one down_value rfl (by kernel_rfl))) (by kernel_rfl))
end Go.Proofs.Ytfaiplbogchgjaa.PA
end
section
namespace Go.Proofs.Ytfaiplbogchgjaa.bindCanon
open Go.ChangeShapes Go.WideShapes Go.ChangeAt Go.RowKit
open Go.ChangeMaps (open_string shut_string)
set_option linter.unusedVariables false
theorem own : ownKnob Try.prog.godebug = none := by kernel_rfl
theorem laidOut : laidOutB Try.prog = true := by kernel_rfl
set_option maxRecDepth 100000 in
theorem lifted (os : Os) (started : os.Started) (H : Type) (enc : TypeId × Value → H) :
    ReturnsInHanded {} Try.checked os 4 .any (Rows.bindCanonSpec.pre6 enc Try.prog Try.f4 Rows.bindCanonRow.domain false) (Rows.bindCanonSpec.post enc Try.prog Try.f4 false true false false) := by
  refine returnsInHanded_of_change_sized (C := Try.checked) own started (by kernel_rfl) Try.func4
    (ChangeSpec.witness6 (enc := enc) (C := Try.checked) false ⟨#[], #[.slice none 0 0, .slice none 0 0], []⟩ 8 (by kernel_rfl) (by kernel_rfl) (by kernel_rfl) (by kernel_rfl)) ?_
  intro W base args ds gs before hval0 hW hcnd _ _
  have hval : ∀ (j : Nat) t v, Try.f4.params[j]? = some t → args[j]? = some v → Value.okWide Try.prog W .any base t v := hval0
  have hW' := hW
  obtain ⟨p, q, hA0, hV, rfl, hfz, hnd⟩ := hW
  have hA : DataW.TrodAll enc Try.prog W 0 (fun _ => true) true Try.f4.params.toList args.toList ds p := hA0
  rw [Try.params4] at hA hval
  obtain ⟨v0, vs0, d0, ds0, p0, r0, hargs, rfl, rfl, h0, t0⟩ := trodAll_cons hA
  obtain ⟨v1, vs1, d1, ds1, p1, r1, rfl, rfl, rfl, h1, t1⟩ := trodAll_cons t0
  obtain ⟨rfl, rfl, rfl⟩ := trodAll_nil t1
  obtain rfl : args = #[v0, v1] := by cases args; simp_all
  obtain ⟨rfl, rfl⟩ := trodVars_none hV
  have k0 := h0
  have lt0 : ∀ x ∈ p0, x.block < W.heap.size := by obtain ⟨m, hm⟩ := k0; exact DataW.trod_lt m _ _ _ hm
  obtain ⟨A0, l0, c0, rfl, hc0, hl0, o0⟩ := X.arg_slice Try.underlying22 PA.down_bind (by kernel_rfl) (hval 0 22 v0 rfl rfl) h0
  have k1 := h1
  have lt1 : ∀ x ∈ p1, x.block < W.heap.size := by obtain ⟨m, hm⟩ := k1; exact DataW.trod_lt m _ _ _ hm
  obtain ⟨A1, l1, c1, rfl, hc1, hl1, o1⟩ := X.arg_slice Try.underlying22 PA.down_bind (by kernel_rfl) (hval 1 22 v1 rfl rfl) h1
  refine (PA.BindCanon_walk W hl0 hc0 hl1 hc1).mono fun e W' ⟨he, bel⟩ => ?_
  subst he
  exact ⟨_, rfl, _, _, _, [], _, [], hW', trodAll_mk1 (shut_bool Try.underlying4 _), (trodAll_cons_mk (Below.trod laidOut (by kernel_rfl) (of_decide_eq_true (by kernel_rfl)) k0 bel lt0) (trodAll_cons_mk (Below.trod laidOut (by kernel_rfl) (of_decide_eq_true (by kernel_rfl)) k1 bel lt1) trodAll_mk0)), rfl, bel.frame _, fun h => by cases h⟩
theorem over : Rows.bindCanonRow.holds Try.pinned (OpenSpec.ofChange Rows.bindCanonSpec) :=
  OpenClaim.holds_of_wide 4 Try.f4 rfl rfl rfl rfl rfl rfl rfl ⟨rfl, rfl, rfl, rfl, rfl⟩ rfl rfl rfl rfl rfl (by kernel_rfl) Try.func4 (by kernel_rfl)
    (of_decide_eq_true (by kernel_rfl)) (by unfold Func.isWrapper; first | (rw [if_pos (by decide +kernel)]; kernel_rfl) | (rw [if_neg (by decide +kernel)]; exact ⟨rfl, rfl⟩))
    (fun os started H enc _ => lifted os started H enc)
end Go.Proofs.Ytfaiplbogchgjaa.bindCanon
namespace Go.Proofs.Ytfaiplbogchgjaa
theorem bindCanon_holds : Rows.BindCanonSaid := bindCanon.over
#print axioms bindCanon_holds
end Go.Proofs.Ytfaiplbogchgjaa
end
