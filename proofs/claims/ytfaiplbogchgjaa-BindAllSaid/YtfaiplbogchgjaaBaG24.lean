/- Texts of this claim, those that nothing needs left out: PAx16 PAx17 PAx18. -/
import Derived.Test.YtfaiplbogchgjaaBaG16
import Derived.Test.YtfaiplbogchgjaaBaG20
import Derived.Test.YtfaiplbogchgjaaBaG18
import Derived.Test.YtfaiplbogchgjaaBaG23
section
namespace Go.Proofs.Ytfaiplbogchgjaa.PA
open Go.RowKit Go.Proofs.YtfaiplbogchgjaaW.PrintWords Go.Proofs.YtfaiplbogchgjaaW.PrintLast Go.Proofs.YtfaiplbogchgjaaW.PrintMore
attribute [local go_sem] max2_int min2_int max_two min_two max_three min_three max_four min_four   -- for this text's walks alone
set_option linter.unusedVariables false
set_option linter.unusedSimpArgs false
def phalaroperef09_Very.l0 : Nat → List (S38) → List (S38) → Int → Option (Bool)
  | 0, _, _, _ => none
  | k + 1, x0, x1, x5 => if x5 < (x0.length : Int) then (if 0 ≤ x5 then (if x5 < (x1.length : Int) then (if ((rd_T38 x0 x5).f0).toList = ((rd_T38 x1 x5).f0).toList then ((phalaroperef08_Very.f k ((rd_T38 x0 x5).f1.f0) ((rd_T38 x0 x5).f1.f1) ((rd_T38 x0 x5).f1.f2) ((rd_T38 x0 x5).f1.f3) ((rd_T38 x1 x5).f1.f0) ((rd_T38 x1 x5).f1.f1) ((rd_T38 x1 x5).f1.f2) ((rd_T38 x1 x5).f1.f3)).bind fun t329 => (if t329 = true then (phalaroperef09_Very.l0 k x0 x1 (wrap64 (x5 + 1))) else (some false))) else (some false)) else (none)) else (none)) else (some true)
def phalaroperef09_Very.f (k : Nat) (l0 : List (S38)) (l1 : List (S38)) : Option (Bool) := if (l0.length : Int) = (l1.length : Int) then (phalaroperef09_Very.l0 k l0 l1 0) else (some false)
def phalaroperef09_Very.T6 : Bool × List (List Nat × List Nat) := (true, [([], []), ([], []), ([0, 1], [0, 1]), ([2], [2]), ([3], [3]), ([], []), ([], []), ([5, 6], [5, 6]), ([7], [7]), ([8], [8]), ([4, 9], [4, 9]), ([10], [10]), ([11], [11]), ([11], [11]), ([12, 13, 11], [11, 12, 13]), ([14, 11], [11, 14]), ([15, 11], [11, 15]), ([11], [11]), ([11], [11]), ([17, 18, 11], [11, 17, 18]), ([19, 11], [11, 19]), ([20, 11], [11, 20]), ([16, 21, 11, 11], [11, 16, 21]), ([22, 11], [11, 22]), ([11, 23], [11, 23])])
def phalaroperef09_Very.B6 : List Nat := [0, 0, 3, 7, 15, 0, 0, 96, 224, 480, 1023, 2047, 4095, 4095, 16383, 32767, 65535, 4095, 4095, 397311, 921599, 1970175, 4194303, 8388607, 16777215]
theorem phalaroperef09_Very.tab6 : rtab .any (opsOf Try.f17 6) = phalaroperef09_Very.T6 := by kernel_rfl
theorem phalaroperef09_Very.bits6 : waitsOk phalaroperef09_Very.T6.2 phalaroperef09_Very.B6 = true := by kernel_rfl
set_option maxHeartbeats 8000000 in
set_option maxRecDepth 100000 in
theorem phalaroperef09_Very.calls (k : Nat) (A0 : Option Addr) (c0 : Nat) (l0 : List (S38)) (A1 : Option Addr) (c1 : Nat) (l1 : List (S38)) (r : Bool) (w : World) (hr0 : Kd.C k38 w A0 l0.length l0) (hc0 : l0.length ≤ c0) (hr1 : Kd.C k38 w A1 l1.length l1) (hc1 : l1.length ≤ c1) (h : phalaroperef09_Very.f k l0 l1 = some r) :
    Calls Try.prog 17 #[.slice A0 l0.length c0, .slice A1 l1.length c1] w fun e w' => e = .returned (.bool r) ∧ Below w.heap.size w w' := by
  have hu28 := Try.underlying28
  have HR0 := Aside0.mk hr0
  have HC0 := Aside0.mk hc0
  clear hr0 hc0
  have HR1 := Aside0.mk hr1
  have HC1 := Aside0.mk hc1
  clear hr1 hc1
  have HB := Aside0.mk (Below.refl w.heap.size w)
  have H : (if (l0.length : Int) = (l1.length : Int) then (phalaroperef09_Very.l0 k l0 l1 0) else (some false)) = some r := h
  clear h
  by_cases c3 : (l0.length : Int) = (l1.length : Int)
  · rw [if_pos c3] at H
    have c3b0 : ((l0.length : Int) == (l1.length : Int)) = true := beq_iff_eq.mpr c3
    have c3b1 : ((l0.length : Int) != (l1.length : Int)) = false := bne_eq_false_iff_eq.mpr c3
    have c3b2 : (l0.length == l1.length) = true := by first | simpa using c3 | (simp at c3 ⊢; omega)
    clear c3
    have H' := Aside0.mk H
    clear H
    go_enter Try.func17, Try.ntmps17
    go_wp2
    go_loopg [5] k (fun kq v5 w' => ∃ (x5_1 : Int), v5 = .int .i64 x5_1 ∧ Aside0 (phalaroperef09_Very.l0 kq l0 l1 x5_1 = some r) ∧ Aside0 (kq ≤ k) ∧ Aside0 (Below w.heap.size w w'))
    case atStart => exact ⟨(0), (by first | rfl | (simp; done) | (simp [*]; done)), H', ⟨Nat.le_refl _⟩, ⟨by repeat (first | (with_reducible first | exact HB.out | apply below_alloc | apply pw_below_drewN | apply below_drew1) | exact HB.out)⟩⟩
    case round =>
      clear H'
      try clear c1
      try clear p2
      try clear c3
      try clear c3b0
      try clear c3b1
      try clear c3b2
      obtain ⟨x5_1, rfl, HA, HK1, HB⟩ := hrel
      cases gk with
      | zero => exact absurd HA.out (by simp [phalaroperef09_Very.l0])
      | succ k1 =>
        have H := HA.out
        clear HA
        simp only [phalaroperef09_Very.l0] at H
        by_cases c4 : x5_1 < (l0.length : Int)
        · rw [if_pos c4] at H
          have c4b0 : decide (x5_1 < (l0.length : Int)) = true := decide_eq_true c4
          clear c4
          by_cases c5 : 0 ≤ x5_1
          · rw [if_pos c5] at H
            have c5b0 : decide (0 ≤ x5_1) = true := decide_eq_true c5
            clear c5
            by_cases c6 : x5_1 < (l1.length : Int)
            · rw [if_pos c6] at H
              have c6b0 : decide (x5_1 < (l1.length : Int)) = true := decide_eq_true c6
              clear c6
              by_cases c7 : ((rd_T38 l0 x5_1).f0).toList = ((rd_T38 l1 x5_1).f0).toList
              · rw [if_pos c7] at H
                have c7b0 : (((rd_T38 l0 x5_1).f0).toList == ((rd_T38 l1 x5_1).f0).toList) = true := beq_iff_eq.mpr c7
                have c7b1 : (((rd_T38 l0 x5_1).f0).toList != ((rd_T38 l1 x5_1).f0).toList) = false := bne_eq_false_iff_eq.mpr c7
                clear c7
                replace H := Option.bind_eq_some_iff.mp H
                obtain ⟨t329, A80, H⟩ := H
                replace H : (if t329 = true then (phalaroperef09_Very.l0 k1 l0 l1 (wrap64 (x5_1 + 1))) else (some false)) = some r := H
                have A8 := Aside0.mk A80
                clear A80
                by_cases c9 : t329 = true
                · subst c9
                  have H1 : (phalaroperef09_Very.l0 k1 l0 l1 (wrap64 (x5_1 + 1))) = some r := by rw [if_pos rfl] at H; exact H
                  clear H
                  have H := H1
                  clear H1
                  have H' := Aside0.mk H
                  clear H
                  try go_wp2
                  have n0_ := Aside0.mk (below_drew1 HB.out)
                  clear HB
                  have HB := n0_
                  clear n0_
                  have p325 : 0 ≤ (x5_1 : Int) := of_decide_eq_true (by first | (with_reducible assumption) | assumption)
                  have q325 : x5_1 < (l0.length : Int) := of_decide_eq_true (by first | (with_reducible assumption) | assumption)
                  obtain ⟨ad325, A325_3, c325_3, A325_4, c325_4, e325, hx325_0, hx325_1, hx325_2, hx325_3, hx325_4, hl325_3, hi325_3, hl325_4, hi325_4⟩ := at_T38 HR0.out x5_1 p325 q325
                  have hw325_4 := hx325_4
                  have hw325_3 := hx325_3
                  have hw325_2 := hx325_2
                  have hw325_1 := hx325_1
                  have hw325_0 := hx325_0
                  cases e325
                  replace hx325_0 := (HB.out.cell (World.block_lt_of_cell? w _ hx325_0)).trans hx325_0
                  replace hx325_1 := (HB.out.cell (World.block_lt_of_cell? w _ hx325_1)).trans hx325_1
                  replace hx325_2 := (HB.out.cell (World.block_lt_of_cell? w _ hx325_2)).trans hx325_2
                  replace hx325_3 := (HB.out.cell (World.block_lt_of_cell? w _ hx325_3)).trans hx325_3
                  replace hx325_4 := (HB.out.cell (World.block_lt_of_cell? w _ hx325_4)).trans hx325_4
                  have HR325_3 := Aside0.mk hi325_3
                  have HC325_3 := Aside0.mk hl325_3
                  clear hi325_3 hl325_3
                  have HR325_4 := Aside0.mk hi325_4
                  have HC325_4 := Aside0.mk hl325_4
                  clear hi325_4 hl325_4
                  replace p325 := eq_true p325
                  replace q325 := eq_true q325
                  have p326 : 0 ≤ (x5_1 : Int) := of_decide_eq_true (by first | (with_reducible assumption) | assumption)
                  have q326 : x5_1 < (l1.length : Int) := of_decide_eq_true (by first | (with_reducible assumption) | assumption)
                  obtain ⟨ad326, A326_3, c326_3, A326_4, c326_4, e326, hx326_0, hx326_1, hx326_2, hx326_3, hx326_4, hl326_3, hi326_3, hl326_4, hi326_4⟩ := at_T38 HR1.out x5_1 p326 q326
                  have hw326_4 := hx326_4
                  have hw326_3 := hx326_3
                  have hw326_2 := hx326_2
                  have hw326_1 := hx326_1
                  have hw326_0 := hx326_0
                  cases e326
                  replace hx326_0 := (HB.out.cell (World.block_lt_of_cell? w _ hx326_0)).trans hx326_0
                  replace hx326_1 := (HB.out.cell (World.block_lt_of_cell? w _ hx326_1)).trans hx326_1
                  replace hx326_2 := (HB.out.cell (World.block_lt_of_cell? w _ hx326_2)).trans hx326_2
                  replace hx326_3 := (HB.out.cell (World.block_lt_of_cell? w _ hx326_3)).trans hx326_3
                  replace hx326_4 := (HB.out.cell (World.block_lt_of_cell? w _ hx326_4)).trans hx326_4
                  have HR326_3 := Aside0.mk hi326_3
                  have HC326_3 := Aside0.mk hl326_3
                  clear hi326_3 hl326_3
                  have HR326_4 := Aside0.mk hi326_4
                  have HC326_4 := Aside0.mk hl326_4
                  clear hi326_4 hl326_4
                  replace p326 := eq_true p326
                  replace q326 := eq_true q326
                  have p327 : 0 ≤ (x5_1 : Int) := of_decide_eq_true (by first | (with_reducible assumption) | assumption)
                  have q327 : x5_1 < (l0.length : Int) := of_decide_eq_true (by first | (with_reducible assumption) | assumption)
                  obtain ⟨ad327, A327_3, c327_3, A327_4, c327_4, e327, hx327_0, hx327_1, hx327_2, hx327_3, hx327_4, hl327_3, hi327_3, hl327_4, hi327_4⟩ := at_T38 HR0.out x5_1 p327 q327
                  have hw327_4 := hx327_4
                  have hw327_3 := hx327_3
                  have hw327_2 := hx327_2
                  have hw327_1 := hx327_1
                  have hw327_0 := hx327_0
                  obtain rfl : ad325 = ad327 := (by injection e327)
                  replace hx327_0 := (HB.out.cell (World.block_lt_of_cell? w _ hx327_0)).trans hx327_0
                  replace hx327_1 := (HB.out.cell (World.block_lt_of_cell? w _ hx327_1)).trans hx327_1
                  replace hx327_2 := (HB.out.cell (World.block_lt_of_cell? w _ hx327_2)).trans hx327_2
                  replace hx327_3 := (HB.out.cell (World.block_lt_of_cell? w _ hx327_3)).trans hx327_3
                  replace hx327_4 := (HB.out.cell (World.block_lt_of_cell? w _ hx327_4)).trans hx327_4
                  have HR327_3 := Aside0.mk hi327_3
                  have HC327_3 := Aside0.mk hl327_3
                  clear hi327_3 hl327_3
                  have HR327_4 := Aside0.mk hi327_4
                  have HC327_4 := Aside0.mk hl327_4
                  clear hi327_4 hl327_4
                  replace p327 := eq_true p327
                  replace q327 := eq_true q327
                  have ea_ := Option.some.inj (hx325_3.symm.trans hx327_3)
                  injection ea_ with ea_ en_ ec_
                  subst ea_
                  subst ec_
                  clear en_
                  have ea_ := Option.some.inj (hx325_4.symm.trans hx327_4)
                  injection ea_ with ea_ en_ ec_
                  subst ea_
                  subst ec_
                  clear en_
                  have p328 : 0 ≤ (x5_1 : Int) := of_decide_eq_true (by first | (with_reducible assumption) | assumption)
                  have q328 : x5_1 < (l1.length : Int) := of_decide_eq_true (by first | (with_reducible assumption) | assumption)
                  obtain ⟨ad328, A328_3, c328_3, A328_4, c328_4, e328, hx328_0, hx328_1, hx328_2, hx328_3, hx328_4, hl328_3, hi328_3, hl328_4, hi328_4⟩ := at_T38 HR1.out x5_1 p328 q328
                  have hw328_4 := hx328_4
                  have hw328_3 := hx328_3
                  have hw328_2 := hx328_2
                  have hw328_1 := hx328_1
                  have hw328_0 := hx328_0
                  obtain rfl : ad326 = ad328 := (by injection e328)
                  replace hx328_0 := (HB.out.cell (World.block_lt_of_cell? w _ hx328_0)).trans hx328_0
                  replace hx328_1 := (HB.out.cell (World.block_lt_of_cell? w _ hx328_1)).trans hx328_1
                  replace hx328_2 := (HB.out.cell (World.block_lt_of_cell? w _ hx328_2)).trans hx328_2
                  replace hx328_3 := (HB.out.cell (World.block_lt_of_cell? w _ hx328_3)).trans hx328_3
                  replace hx328_4 := (HB.out.cell (World.block_lt_of_cell? w _ hx328_4)).trans hx328_4
                  have HR328_3 := Aside0.mk hi328_3
                  have HC328_3 := Aside0.mk hl328_3
                  clear hi328_3 hl328_3
                  have HR328_4 := Aside0.mk hi328_4
                  have HC328_4 := Aside0.mk hl328_4
                  clear hi328_4 hl328_4
                  replace p328 := eq_true p328
                  replace q328 := eq_true q328
                  have ea_ := Option.some.inj (hx326_3.symm.trans hx328_3)
                  injection ea_ with ea_ en_ ec_
                  subst ea_
                  subst ec_
                  clear en_
                  have ea_ := Option.some.inj (hx326_4.symm.trans hx328_4)
                  injection ea_ with ea_ en_ ec_
                  subst ea_
                  subst ec_
                  clear en_
                  refine start_ (n := 25) (S := fun w' => w'.cell? (ad325.add ((x5_1).toNat * 5)) = some (.string ((rd_T38 l0 x5_1).f0)) ∧ w'.cell? ⟨(ad325.add ((x5_1).toNat * 5)).block, (ad325.add ((x5_1).toNat * 5)).off + 1, none⟩ = some (.int .i64 ((rd_T38 l0 x5_1).f1.f0)) ∧ w'.cell? ⟨(ad325.add ((x5_1).toNat * 5)).block, (ad325.add ((x5_1).toNat * 5)).off + 2, none⟩ = some (.string ((rd_T38 l0 x5_1).f1.f1)) ∧ w'.cell? ⟨(ad325.add ((x5_1).toNat * 5)).block, (ad325.add ((x5_1).toNat * 5)).off + 3, none⟩ = some (.slice A325_3 ((rd_T38 l0 x5_1).f1.f2).length c325_3) ∧ w'.cell? ⟨(ad325.add ((x5_1).toNat * 5)).block, (ad325.add ((x5_1).toNat * 5)).off + 4, none⟩ = some (.slice A325_4 ((rd_T38 l0 x5_1).f1.f3).length c325_4) ∧ w'.cell? (ad326.add ((x5_1).toNat * 5)) = some (.string ((rd_T38 l1 x5_1).f0)) ∧ w'.cell? ⟨(ad326.add ((x5_1).toNat * 5)).block, (ad326.add ((x5_1).toNat * 5)).off + 1, none⟩ = some (.int .i64 ((rd_T38 l1 x5_1).f1.f0)) ∧ w'.cell? ⟨(ad326.add ((x5_1).toNat * 5)).block, (ad326.add ((x5_1).toNat * 5)).off + 2, none⟩ = some (.string ((rd_T38 l1 x5_1).f1.f1)) ∧ w'.cell? ⟨(ad326.add ((x5_1).toNat * 5)).block, (ad326.add ((x5_1).toNat * 5)).off + 3, none⟩ = some (.slice A326_3 ((rd_T38 l1 x5_1).f1.f2).length c326_3) ∧ w'.cell? ⟨(ad326.add ((x5_1).toNat * 5)).block, (ad326.add ((x5_1).toNat * 5)).off + 4, none⟩ = some (.slice A326_4 ((rd_T38 l1 x5_1).f1.f3).length c326_4) ∧ w'.cell? (ad325.add ((x5_1).toNat * 5)) = some (.string ((rd_T38 l0 x5_1).f0)) ∧ w'.cell? ⟨(ad325.add ((x5_1).toNat * 5)).block, (ad325.add ((x5_1).toNat * 5)).off + 1, none⟩ = some (.int .i64 ((rd_T38 l0 x5_1).f1.f0)) ∧ w'.cell? ⟨(ad325.add ((x5_1).toNat * 5)).block, (ad325.add ((x5_1).toNat * 5)).off + 2, none⟩ = some (.string ((rd_T38 l0 x5_1).f1.f1)) ∧ w'.cell? ⟨(ad325.add ((x5_1).toNat * 5)).block, (ad325.add ((x5_1).toNat * 5)).off + 3, none⟩ = some (.slice A325_3 ((rd_T38 l0 x5_1).f1.f2).length c325_3) ∧ w'.cell? ⟨(ad325.add ((x5_1).toNat * 5)).block, (ad325.add ((x5_1).toNat * 5)).off + 4, none⟩ = some (.slice A325_4 ((rd_T38 l0 x5_1).f1.f3).length c325_4) ∧ w'.cell? (ad326.add ((x5_1).toNat * 5)) = some (.string ((rd_T38 l1 x5_1).f0)) ∧ w'.cell? ⟨(ad326.add ((x5_1).toNat * 5)).block, (ad326.add ((x5_1).toNat * 5)).off + 1, none⟩ = some (.int .i64 ((rd_T38 l1 x5_1).f1.f0)) ∧ w'.cell? ⟨(ad326.add ((x5_1).toNat * 5)).block, (ad326.add ((x5_1).toNat * 5)).off + 2, none⟩ = some (.string ((rd_T38 l1 x5_1).f1.f1)) ∧ w'.cell? ⟨(ad326.add ((x5_1).toNat * 5)).block, (ad326.add ((x5_1).toNat * 5)).off + 3, none⟩ = some (.slice A326_3 ((rd_T38 l1 x5_1).f1.f2).length c326_3) ∧ w'.cell? ⟨(ad326.add ((x5_1).toNat * 5)).block, (ad326.add ((x5_1).toNat * 5)).off + 4, none⟩ = some (.slice A326_4 ((rd_T38 l1 x5_1).f1.f3).length c326_4)) (ds := []) #[false, false, false, false, false, false, false, false, false, false, false, false, false, false, false, false, false, false, false, false, false, false, false, false, false] (by kernel_rfl) rfl rfl ⟨((HB.out.cell (World.block_lt_of_cell? w _ hw325_0)).trans hw325_0), ((HB.out.cell (World.block_lt_of_cell? w _ hw325_1)).trans hw325_1), ((HB.out.cell (World.block_lt_of_cell? w _ hw325_2)).trans hw325_2), ((HB.out.cell (World.block_lt_of_cell? w _ hw325_3)).trans hw325_3), ((HB.out.cell (World.block_lt_of_cell? w _ hw325_4)).trans hw325_4), ((HB.out.cell (World.block_lt_of_cell? w _ hw326_0)).trans hw326_0), ((HB.out.cell (World.block_lt_of_cell? w _ hw326_1)).trans hw326_1), ((HB.out.cell (World.block_lt_of_cell? w _ hw326_2)).trans hw326_2), ((HB.out.cell (World.block_lt_of_cell? w _ hw326_3)).trans hw326_3), ((HB.out.cell (World.block_lt_of_cell? w _ hw326_4)).trans hw326_4), ((HB.out.cell (World.block_lt_of_cell? w _ hw327_0)).trans hw327_0), ((HB.out.cell (World.block_lt_of_cell? w _ hw327_1)).trans hw327_1), ((HB.out.cell (World.block_lt_of_cell? w _ hw327_2)).trans hw327_2), ((HB.out.cell (World.block_lt_of_cell? w _ hw327_3)).trans hw327_3), ((HB.out.cell (World.block_lt_of_cell? w _ hw327_4)).trans hw327_4), ((HB.out.cell (World.block_lt_of_cell? w _ hw328_0)).trans hw328_0), ((HB.out.cell (World.block_lt_of_cell? w _ hw328_1)).trans hw328_1), ((HB.out.cell (World.block_lt_of_cell? w _ hw328_2)).trans hw328_2), ((HB.out.cell (World.block_lt_of_cell? w _ hw328_3)).trans hw328_3), ((HB.out.cell (World.block_lt_of_cell? w _ hw328_4)).trans hw328_4)⟩ (fun hHeld => ?_); refine with_tabW phalaroperef09_Very.tab6 phalaroperef09_Very.bits6 (fun HT_ HW_ => ?_)
                  generalize wr.drew = w10 at HB HR325_3 HR325_4 HR326_3 HR326_4 HR327_3 HR327_4 HR328_3 HR328_4 hx325_0 hx325_1 hx325_2 hx325_3 hx325_4 hx326_0 hx326_1 hx326_2 hx326_3 hx326_4 hx327_0 hx327_1 hx327_2 hx327_3 hx327_4 hx328_0 hx328_1 hx328_2 hx328_3 hx328_4 hHeld ⊢
                  refine pure_ (i := 0) (N := some 17) (v := ?_) (a' := ?_) #[true, false, false, false, false, false, false, false, false, false, false, false, false, false, false, false, false, false, false, false, false, false, false, false, false] rfl rfl (any_of HT_.out (by kernel_rfl)) (fun _ _ _ h => h) (Or.inl ⟨by rfl, ?_⟩) ?_ ?_
                  rotate_left
                  · intro w'
                    go_simp
                    with_reducible rfl
                  rotate_left
                  · simp only [Act.put, List.setIfInBounds_toArray, List.set_cons_zero, List.set_cons_succ, i64_w, i32_w]
                    rfl
                  refine pure_ (i := 1) (N := some 18) (v := ?_) (a' := ?_) #[true, true, false, false, false, false, false, false, false, false, false, false, false, false, false, false, false, false, false, false, false, false, false, false, false] rfl rfl (any_of HT_.out (by kernel_rfl)) (fun _ _ _ h => h) (Or.inl ⟨by rfl, ?_⟩) ?_ ?_
                  rotate_left
                  · intro w'
                    go_simp
                    with_reducible rfl
                  rotate_left
                  · simp only [Act.put, List.setIfInBounds_toArray, List.set_cons_zero, List.set_cons_succ, i64_w, i32_w]
                    rfl
                  refine pure_ (i := 2) (N := some 19) (v := ?_) (a' := ?_) #[true, true, true, false, false, false, false, false, false, false, false, false, false, false, false, false, false, false, false, false, false, false, false, false, false] rfl rfl (any_of HT_.out (by kernel_rfl)) (fun _ _ _ h => h) (Or.inl ⟨by rfl, ?_⟩) ?_ ?_
                  rotate_left
                  · intro w'
                    go_simp
                    with_reducible rfl
                  rotate_left
                  · simp only [Act.put, List.setIfInBounds_toArray, List.set_cons_zero, List.set_cons_succ, i64_w, i32_w]
                    rfl
                  refine pure_ (i := 3) (N := some 20) (v := ?_) (a' := ?_) #[true, true, true, true, false, false, false, false, false, false, false, false, false, false, false, false, false, false, false, false, false, false, false, false, false] rfl rfl (any_of HT_.out (by kernel_rfl)) (fun _ _ _ h => h) (Or.inl ⟨by rfl, ?_⟩) ?_ ?_
                  rotate_left
                  · intro w'
                    go_simp
                    with_reducible rfl
                  rotate_left
                  · simp only [Act.put, List.setIfInBounds_toArray, List.set_cons_zero, List.set_cons_succ, i64_w, i32_w]
                    rfl
                  refine pure_ (i := 5) (N := some 22) (v := ?_) (a' := ?_) #[true, true, true, true, false, true, false, false, false, false, false, false, false, false, false, false, false, false, false, false, false, false, false, false, false] rfl rfl (any_of HT_.out (by kernel_rfl)) (fun _ _ _ h => h) (Or.inl ⟨by rfl, ?_⟩) ?_ ?_
                  rotate_left
                  · intro w'
                    go_simp
                    with_reducible rfl
                  rotate_left
                  · simp only [Act.put, List.setIfInBounds_toArray, List.set_cons_zero, List.set_cons_succ, i64_w, i32_w]
                    rfl
                  refine pure_ (i := 6) (N := some 23) (v := ?_) (a' := ?_) #[true, true, true, true, false, true, true, false, false, false, false, false, false, false, false, false, false, false, false, false, false, false, false, false, false] rfl rfl (any_of HT_.out (by kernel_rfl)) (fun _ _ _ h => h) (Or.inl ⟨by rfl, ?_⟩) ?_ ?_
                  rotate_left
                  · intro w'
                    go_simp
                    with_reducible rfl
                  rotate_left
                  · simp only [Act.put, List.setIfInBounds_toArray, List.set_cons_zero, List.set_cons_succ, i64_w, i32_w]
                    rfl
                  refine pure_ (i := 7) (N := some 24) (v := ?_) (a' := ?_) #[true, true, true, true, false, true, true, true, false, false, false, false, false, false, false, false, false, false, false, false, false, false, false, false, false] rfl rfl (any_of HT_.out (by kernel_rfl)) (fun _ _ _ h => h) (Or.inl ⟨by rfl, ?_⟩) ?_ ?_
                  rotate_left
                  · intro w'
                    go_simp
                    with_reducible rfl
                  rotate_left
                  · simp only [Act.put, List.setIfInBounds_toArray, List.set_cons_zero, List.set_cons_succ, i64_w, i32_w]
                    rfl
                  refine pure_ (i := 8) (N := some 25) (v := ?_) (a' := ?_) #[true, true, true, true, false, true, true, true, true, false, false, false, false, false, false, false, false, false, false, false, false, false, false, false, false] rfl rfl (any_of HT_.out (by kernel_rfl)) (fun _ _ _ h => h) (Or.inl ⟨by rfl, ?_⟩) ?_ ?_
                  rotate_left
                  · intro w'
                    go_simp
                    with_reducible rfl
                  rotate_left
                  · simp only [Act.put, List.setIfInBounds_toArray, List.set_cons_zero, List.set_cons_succ, i64_w, i32_w]
                    rfl
                  refine take_ (i := 4) (N := some 21) (v := ?_) (a' := ?_) #[true, true, true, true, true, true, true, true, true, false, false, false, false, false, false, false, false, false, false, false, false, false, false, false, false] rfl rfl (take_ofW HT_.out HW_.out (by kernel_rfl)) (fun _ _ _ h => h) (Or.inl ⟨by rfl, ?_⟩) hHeld ?_ ?_
                  rotate_left
                  · rintro w' ⟨s0, s1, s2, s3, s4, s5, s6, s7, s8, s9, s10, s11, s12, s13, s14, s15, s16, s17, s18, s19⟩
                    go_simp
                    with_reducible rfl
                  rotate_left
                  · simp only [Act.put, List.setIfInBounds_toArray, List.set_cons_zero, List.set_cons_succ, i64_w, i32_w]
                    rfl
                  refine take_ (i := 9) (N := some 26) (v := ?_) (a' := ?_) #[true, true, true, true, true, true, true, true, true, true, false, false, false, false, false, false, false, false, false, false, false, false, false, false, false] rfl rfl (take_ofW HT_.out HW_.out (by kernel_rfl)) (fun _ _ _ h => h) (Or.inl ⟨by rfl, ?_⟩) hHeld ?_ ?_
                  rotate_left
                  · rintro w' ⟨s0, s1, s2, s3, s4, s5, s6, s7, s8, s9, s10, s11, s12, s13, s14, s15, s16, s17, s18, s19⟩
                    go_simp
                    with_reducible rfl
                  rotate_left
                  · simp only [Act.put, List.setIfInBounds_toArray, List.set_cons_zero, List.set_cons_succ, i64_w, i32_w]
                    rfl
                  refine pure_ (i := 10) (N := some 27) (v := ?_) (a' := ?_) #[true, true, true, true, true, true, true, true, true, true, true, false, false, false, false, false, false, false, false, false, false, false, false, false, false] rfl rfl (any_of HT_.out (by kernel_rfl)) (fun _ _ _ h => h) (Or.inl ⟨by rfl, ?_⟩) ?_ ?_
                  rotate_left
                  · intro w'
                    go_simp
                    with_reducible rfl
                  rotate_left
                  · simp only [Act.put, List.setIfInBounds_toArray, List.set_cons_zero, List.set_cons_succ, i64_w, i32_w]
                    rfl
                  refine pure_ (i := 11) (N := some 28) (v := ?_) (a' := ?_) #[true, true, true, true, true, true, true, true, true, true, true, true, false, false, false, false, false, false, false, false, false, false, false, false, false] rfl rfl (any_of HT_.out (by kernel_rfl)) (fun _ _ _ h => h) (Or.inl ⟨by rfl, ?_⟩) ?_ ?_
                  rotate_left
                  · intro w'
                    go_simp
                    with_reducible rfl
                  rotate_left
                  · simp only [Act.put, List.setIfInBounds_toArray, List.set_cons_zero, List.set_cons_succ, i64_w, i32_w]
                    rfl
                  refine pure_ (i := 12) (N := some 29) (v := ?_) (a' := ?_) #[true, true, true, true, true, true, true, true, true, true, true, true, true, false, false, false, false, false, false, false, false, false, false, false, false] rfl rfl (any_of HT_.out (by kernel_rfl)) (fun _ _ _ h => h) (Or.inl ⟨by rfl, ?_⟩) ?_ ?_
                  rotate_left
                  · intro w'
                    go_simp
                    with_reducible rfl
                  rotate_left
                  · simp only [Act.put, List.setIfInBounds_toArray, List.set_cons_zero, List.set_cons_succ, i64_w, i32_w]
                    rfl
                  refine pure_ (i := 13) (N := some 30) (v := ?_) (a' := ?_) #[true, true, true, true, true, true, true, true, true, true, true, true, true, true, false, false, false, false, false, false, false, false, false, false, false] rfl rfl (any_of HT_.out (by kernel_rfl)) (fun _ _ _ h => h) (Or.inl ⟨by rfl, ?_⟩) ?_ ?_
                  rotate_left
                  · intro w'
                    go_simp
                    with_reducible rfl
                  rotate_left
                  · simp only [Act.put, List.setIfInBounds_toArray, List.set_cons_zero, List.set_cons_succ, i64_w, i32_w]
                    rfl
                  refine pure_ (i := 14) (N := some 31) (v := ?_) (a' := ?_) #[true, true, true, true, true, true, true, true, true, true, true, true, true, true, true, false, false, false, false, false, false, false, false, false, false] rfl rfl (any_of HT_.out (by kernel_rfl)) (fun _ _ _ h => h) (Or.inl ⟨by rfl, ?_⟩) ?_ ?_
                  rotate_left
                  · intro w'
                    go_simp
                    with_reducible rfl
                  rotate_left
                  · simp only [Act.put, List.setIfInBounds_toArray, List.set_cons_zero, List.set_cons_succ, i64_w, i32_w]
                    rfl
                  refine pure_ (i := 15) (N := some 32) (v := ?_) (a' := ?_) #[true, true, true, true, true, true, true, true, true, true, true, true, true, true, true, true, false, false, false, false, false, false, false, false, false] rfl rfl (any_of HT_.out (by kernel_rfl)) (fun _ _ _ h => h) (Or.inl ⟨by rfl, ?_⟩) ?_ ?_
                  rotate_left
                  · intro w'
                    go_simp
                    with_reducible rfl
                  rotate_left
                  · simp only [Act.put, List.setIfInBounds_toArray, List.set_cons_zero, List.set_cons_succ, i64_w, i32_w]
                    rfl
                  refine pure_ (i := 17) (N := some 34) (v := ?_) (a' := ?_) #[true, true, true, true, true, true, true, true, true, true, true, true, true, true, true, true, false, true, false, false, false, false, false, false, false] rfl rfl (any_of HT_.out (by kernel_rfl)) (fun _ _ _ h => h) (Or.inl ⟨by rfl, ?_⟩) ?_ ?_
                  rotate_left
                  · intro w'
                    go_simp
                    with_reducible rfl
                  rotate_left
                  · simp only [Act.put, List.setIfInBounds_toArray, List.set_cons_zero, List.set_cons_succ, i64_w, i32_w]
                    rfl
                  refine pure_ (i := 18) (N := some 35) (v := ?_) (a' := ?_) #[true, true, true, true, true, true, true, true, true, true, true, true, true, true, true, true, false, true, true, false, false, false, false, false, false] rfl rfl (any_of HT_.out (by kernel_rfl)) (fun _ _ _ h => h) (Or.inl ⟨by rfl, ?_⟩) ?_ ?_
                  rotate_left
                  · intro w'
                    go_simp
                    with_reducible rfl
                  rotate_left
                  · simp only [Act.put, List.setIfInBounds_toArray, List.set_cons_zero, List.set_cons_succ, i64_w, i32_w]
                    rfl
                  refine pure_ (i := 19) (N := some 36) (v := ?_) (a' := ?_) #[true, true, true, true, true, true, true, true, true, true, true, true, true, true, true, true, false, true, true, true, false, false, false, false, false] rfl rfl (any_of HT_.out (by kernel_rfl)) (fun _ _ _ h => h) (Or.inl ⟨by rfl, ?_⟩) ?_ ?_
                  rotate_left
                  · intro w'
                    go_simp
                    with_reducible rfl
                  rotate_left
                  · simp only [Act.put, List.setIfInBounds_toArray, List.set_cons_zero, List.set_cons_succ, i64_w, i32_w]
                    rfl
                  refine pure_ (i := 20) (N := some 37) (v := ?_) (a' := ?_) #[true, true, true, true, true, true, true, true, true, true, true, true, true, true, true, true, false, true, true, true, true, false, false, false, false] rfl rfl (any_of HT_.out (by kernel_rfl)) (fun _ _ _ h => h) (Or.inl ⟨by rfl, ?_⟩) ?_ ?_
                  rotate_left
                  · intro w'
                    go_simp
                    with_reducible rfl
                  rotate_left
                  · simp only [Act.put, List.setIfInBounds_toArray, List.set_cons_zero, List.set_cons_succ, i64_w, i32_w]
                    rfl
                  refine take_ (i := 16) (N := some 33) (v := ?_) (a' := ?_) #[true, true, true, true, true, true, true, true, true, true, true, true, true, true, true, true, true, true, true, true, true, false, false, false, false] rfl rfl (take_ofW HT_.out HW_.out (by kernel_rfl)) (fun _ _ _ h => h) (Or.inl ⟨by rfl, ?_⟩) hHeld ?_ ?_
                  rotate_left
                  · rintro w' ⟨s0, s1, s2, s3, s4, s5, s6, s7, s8, s9, s10, s11, s12, s13, s14, s15, s16, s17, s18, s19⟩
                    go_simp
                    with_reducible rfl
                  rotate_left
                  · simp only [Act.put, List.setIfInBounds_toArray, List.set_cons_zero, List.set_cons_succ, i64_w, i32_w]
                    rfl
                  refine take_ (i := 21) (N := some 38) (v := ?_) (a' := ?_) #[true, true, true, true, true, true, true, true, true, true, true, true, true, true, true, true, true, true, true, true, true, true, false, false, false] rfl rfl (take_ofW HT_.out HW_.out (by kernel_rfl)) (fun _ _ _ h => h) (Or.inl ⟨by rfl, ?_⟩) hHeld ?_ ?_
                  rotate_left
                  · rintro w' ⟨s0, s1, s2, s3, s4, s5, s6, s7, s8, s9, s10, s11, s12, s13, s14, s15, s16, s17, s18, s19⟩
                    go_simp
                    with_reducible rfl
                  rotate_left
                  · simp only [Act.put, List.setIfInBounds_toArray, List.set_cons_zero, List.set_cons_succ, i64_w, i32_w]
                    rfl
                  refine one_ (i := 22) (N := some 39) #[true, true, true, true, true, true, true, true, true, true, true, true, true, true, true, true, true, true, true, true, true, true, true, false, false] rfl rfl (one_of HT_.out (by kernel_rfl)) (by decide) (fun K hK => ?_)
                  refine goes_ Try.func13 (by kernel_rfl) rfl #[.agg #[.int .i64 ((rd_T38 l0 x5_1).f1.f0), .string ((rd_T38 l0 x5_1).f1.f1), .slice A325_3 ((rd_T38 l0 x5_1).f1.f2).length c325_3, .slice A325_4 ((rd_T38 l0 x5_1).f1.f3).length c325_4], .agg #[.int .i64 ((rd_T38 l1 x5_1).f1.f0), .string ((rd_T38 l1 x5_1).f1.f1), .slice A326_3 ((rd_T38 l1 x5_1).f1.f2).length c326_3, .slice A326_4 ((rd_T38 l1 x5_1).f1.f3).length c326_4]] (by rfl) rfl rfl (by (try simp only [List.map_toArray, List.map_cons, List.map_nil]); first | done | rfl | (simp only [List.length_drop, List.length_take]; rfl)) ?_
                  with_reducible refine (phalaroperef08_Very.calls k1 ((rd_T38 l0 x5_1).f1.f0) ((rd_T38 l0 x5_1).f1.f1) _ _ ((rd_T38 l0 x5_1).f1.f2) _ _ ((rd_T38 l0 x5_1).f1.f3) ((rd_T38 l1 x5_1).f1.f0) ((rd_T38 l1 x5_1).f1.f1) _ _ ((rd_T38 l1 x5_1).f1.f2) _ _ ((rd_T38 l1 x5_1).f1.f3) true _ ?side1 ?side2 ?side3 ?side4 ?side5 ?side6 ?side7 ?side8 A8.out).mono ?_
                  (case side1 => repeat (first | exact (Kd.C_below HR327_3.out HB.out) | (with_reducible refine Kd.C_alloc ?_ _) | (with_reducible refine Kd.C_drewN ?_ _) | (with_reducible refine Kd.C_drew ?_)))
                  (case side2 => exact HC327_3.out)
                  (case side3 => repeat (first | exact (Kd.C_below HR327_4.out HB.out) | (with_reducible refine Kd.C_alloc ?_ _) | (with_reducible refine Kd.C_drewN ?_ _) | (with_reducible refine Kd.C_drew ?_)))
                  (case side4 => exact HC327_4.out)
                  (case side5 => repeat (first | exact (Kd.C_below HR328_3.out HB.out) | (with_reducible refine Kd.C_alloc ?_ _) | (with_reducible refine Kd.C_drewN ?_ _) | (with_reducible refine Kd.C_drew ?_)))
                  (case side6 => exact HC328_3.out)
                  (case side7 => repeat (first | exact (Kd.C_below HR328_4.out HB.out) | (with_reducible refine Kd.C_alloc ?_ _) | (with_reducible refine Kd.C_drewN ?_ _) | (with_reducible refine Kd.C_drew ?_)))
                  (case side8 => exact HC328_4.out)
                  rintro e w11 ⟨rfl, hb⟩
                  refine ⟨_, rfl, ?_⟩
                  have n0_ := Aside0.mk (below_step (by repeat (first | (with_reducible first | exact HB.out | apply below_alloc | apply pw_below_drewN | apply below_drew1) | exact HB.out)) hb)
                  clear HB
                  have HB := n0_
                  clear n0_
                  (try clear hb)
                  (try clear hb2)
                  (try clear hk)
                  (try clear hi)
                  refine hK.out _ _ ⟨((HB.out.cell (World.block_lt_of_cell? w _ hw325_0)).trans hw325_0), ((HB.out.cell (World.block_lt_of_cell? w _ hw325_1)).trans hw325_1), ((HB.out.cell (World.block_lt_of_cell? w _ hw325_2)).trans hw325_2), ((HB.out.cell (World.block_lt_of_cell? w _ hw325_3)).trans hw325_3), ((HB.out.cell (World.block_lt_of_cell? w _ hw325_4)).trans hw325_4), ((HB.out.cell (World.block_lt_of_cell? w _ hw326_0)).trans hw326_0), ((HB.out.cell (World.block_lt_of_cell? w _ hw326_1)).trans hw326_1), ((HB.out.cell (World.block_lt_of_cell? w _ hw326_2)).trans hw326_2), ((HB.out.cell (World.block_lt_of_cell? w _ hw326_3)).trans hw326_3), ((HB.out.cell (World.block_lt_of_cell? w _ hw326_4)).trans hw326_4), ((HB.out.cell (World.block_lt_of_cell? w _ hw327_0)).trans hw327_0), ((HB.out.cell (World.block_lt_of_cell? w _ hw327_1)).trans hw327_1), ((HB.out.cell (World.block_lt_of_cell? w _ hw327_2)).trans hw327_2), ((HB.out.cell (World.block_lt_of_cell? w _ hw327_3)).trans hw327_3), ((HB.out.cell (World.block_lt_of_cell? w _ hw327_4)).trans hw327_4), ((HB.out.cell (World.block_lt_of_cell? w _ hw328_0)).trans hw328_0), ((HB.out.cell (World.block_lt_of_cell? w _ hw328_1)).trans hw328_1), ((HB.out.cell (World.block_lt_of_cell? w _ hw328_2)).trans hw328_2), ((HB.out.cell (World.block_lt_of_cell? w _ hw328_3)).trans hw328_3), ((HB.out.cell (World.block_lt_of_cell? w _ hw328_4)).trans hw328_4)⟩ (fun hHeld => ?_)
                  clear hK K
                  refine norm_ (a' := ?_) ?_ ?_
                  rotate_left
                  · show Act.put _ (some 39) _ = _
                    simp only [Act.put, List.setIfInBounds_toArray, List.set_cons_zero, List.set_cons_succ, i64_w, i32_w]
                    rfl
                  refine pure_ (i := 23) (N := some 40) (v := ?_) (a' := ?_) #[true, true, true, true, true, true, true, true, true, true, true, true, true, true, true, true, true, true, true, true, true, true, true, true, false] rfl rfl (any_of HT_.out (by kernel_rfl)) (fun _ _ _ h => h) (Or.inl ⟨by rfl, ?_⟩) ?_ ?_
                  rotate_left
                  · intro w'
                    go_simp
                    with_reducible rfl
                  rotate_left
                  · simp only [Act.put, List.setIfInBounds_toArray, List.set_cons_zero, List.set_cons_succ, i64_w, i32_w]
                    rfl
                  refine pure_ (i := 24) (N := some 41) (v := ?_) (a' := ?_) #[true, true, true, true, true, true, true, true, true, true, true, true, true, true, true, true, true, true, true, true, true, true, true, true, true] rfl rfl (any_of HT_.out (by kernel_rfl)) (fun _ _ _ h => h) (Or.inl ⟨by rfl, ?_⟩) ?_ ?_
                  rotate_left
                  · intro w'
                    go_simp
                    with_reducible rfl
                  rotate_left
                  · simp only [Act.put, List.setIfInBounds_toArray, List.set_cons_zero, List.set_cons_succ, i64_w, i32_w]
                    rfl
                  refine done_ (done_of HT_.out (by kernel_rfl)) ?_
                  try go_wp2
                  go_roundg k1
                  case measure => have := HK1.out; omega
                  case rel => exact ⟨(wrap64 (x5_1 + 1)), (by first | rfl | (simp; done) | (simp [*]; done)), H', ⟨by have := HK1.out; omega⟩, ⟨by repeat (first | (with_reducible first | exact HB.out | apply below_alloc | apply pw_below_drewN | apply below_drew1) | exact HB.out)⟩⟩
                · replace c9 := Bool.eq_false_iff.mpr c9
                  subst c9
                  have H1 : (some false) = some r := by rw [if_neg (show ¬ (false = true) by decide)] at H; exact H
                  clear H
                  have H := H1
                  clear H1
                  obtain rfl := Option.some.inj H
                  try go_wp2
                  have n0_ := Aside0.mk (below_drew1 HB.out)
                  clear HB
                  have HB := n0_
                  clear n0_
                  have p325 : 0 ≤ (x5_1 : Int) := of_decide_eq_true (by first | (with_reducible assumption) | assumption)
                  have q325 : x5_1 < (l0.length : Int) := of_decide_eq_true (by first | (with_reducible assumption) | assumption)
                  obtain ⟨ad325, A325_3, c325_3, A325_4, c325_4, e325, hx325_0, hx325_1, hx325_2, hx325_3, hx325_4, hl325_3, hi325_3, hl325_4, hi325_4⟩ := at_T38 HR0.out x5_1 p325 q325
                  have hw325_4 := hx325_4
                  have hw325_3 := hx325_3
                  have hw325_2 := hx325_2
                  have hw325_1 := hx325_1
                  have hw325_0 := hx325_0
                  cases e325
                  replace hx325_0 := (HB.out.cell (World.block_lt_of_cell? w _ hx325_0)).trans hx325_0
                  replace hx325_1 := (HB.out.cell (World.block_lt_of_cell? w _ hx325_1)).trans hx325_1
                  replace hx325_2 := (HB.out.cell (World.block_lt_of_cell? w _ hx325_2)).trans hx325_2
                  replace hx325_3 := (HB.out.cell (World.block_lt_of_cell? w _ hx325_3)).trans hx325_3
                  replace hx325_4 := (HB.out.cell (World.block_lt_of_cell? w _ hx325_4)).trans hx325_4
                  have HR325_3 := Aside0.mk hi325_3
                  have HC325_3 := Aside0.mk hl325_3
                  clear hi325_3 hl325_3
                  have HR325_4 := Aside0.mk hi325_4
                  have HC325_4 := Aside0.mk hl325_4
                  clear hi325_4 hl325_4
                  replace p325 := eq_true p325
                  replace q325 := eq_true q325
                  have p326 : 0 ≤ (x5_1 : Int) := of_decide_eq_true (by first | (with_reducible assumption) | assumption)
                  have q326 : x5_1 < (l1.length : Int) := of_decide_eq_true (by first | (with_reducible assumption) | assumption)
                  obtain ⟨ad326, A326_3, c326_3, A326_4, c326_4, e326, hx326_0, hx326_1, hx326_2, hx326_3, hx326_4, hl326_3, hi326_3, hl326_4, hi326_4⟩ := at_T38 HR1.out x5_1 p326 q326
                  have hw326_4 := hx326_4
                  have hw326_3 := hx326_3
                  have hw326_2 := hx326_2
                  have hw326_1 := hx326_1
                  have hw326_0 := hx326_0
                  cases e326
                  replace hx326_0 := (HB.out.cell (World.block_lt_of_cell? w _ hx326_0)).trans hx326_0
                  replace hx326_1 := (HB.out.cell (World.block_lt_of_cell? w _ hx326_1)).trans hx326_1
                  replace hx326_2 := (HB.out.cell (World.block_lt_of_cell? w _ hx326_2)).trans hx326_2
                  replace hx326_3 := (HB.out.cell (World.block_lt_of_cell? w _ hx326_3)).trans hx326_3
                  replace hx326_4 := (HB.out.cell (World.block_lt_of_cell? w _ hx326_4)).trans hx326_4
                  have HR326_3 := Aside0.mk hi326_3
                  have HC326_3 := Aside0.mk hl326_3
                  clear hi326_3 hl326_3
                  have HR326_4 := Aside0.mk hi326_4
                  have HC326_4 := Aside0.mk hl326_4
                  clear hi326_4 hl326_4
                  replace p326 := eq_true p326
                  replace q326 := eq_true q326
                  have p327 : 0 ≤ (x5_1 : Int) := of_decide_eq_true (by first | (with_reducible assumption) | assumption)
                  have q327 : x5_1 < (l0.length : Int) := of_decide_eq_true (by first | (with_reducible assumption) | assumption)
                  obtain ⟨ad327, A327_3, c327_3, A327_4, c327_4, e327, hx327_0, hx327_1, hx327_2, hx327_3, hx327_4, hl327_3, hi327_3, hl327_4, hi327_4⟩ := at_T38 HR0.out x5_1 p327 q327
                  have hw327_4 := hx327_4
                  have hw327_3 := hx327_3
                  have hw327_2 := hx327_2
                  have hw327_1 := hx327_1
                  have hw327_0 := hx327_0
                  obtain rfl : ad325 = ad327 := (by injection e327)
                  replace hx327_0 := (HB.out.cell (World.block_lt_of_cell? w _ hx327_0)).trans hx327_0
                  replace hx327_1 := (HB.out.cell (World.block_lt_of_cell? w _ hx327_1)).trans hx327_1
                  replace hx327_2 := (HB.out.cell (World.block_lt_of_cell? w _ hx327_2)).trans hx327_2
                  replace hx327_3 := (HB.out.cell (World.block_lt_of_cell? w _ hx327_3)).trans hx327_3
                  replace hx327_4 := (HB.out.cell (World.block_lt_of_cell? w _ hx327_4)).trans hx327_4
                  have HR327_3 := Aside0.mk hi327_3
                  have HC327_3 := Aside0.mk hl327_3
                  clear hi327_3 hl327_3
                  have HR327_4 := Aside0.mk hi327_4
                  have HC327_4 := Aside0.mk hl327_4
                  clear hi327_4 hl327_4
                  replace p327 := eq_true p327
                  replace q327 := eq_true q327
                  have ea_ := Option.some.inj (hx325_3.symm.trans hx327_3)
                  injection ea_ with ea_ en_ ec_
                  subst ea_
                  subst ec_
                  clear en_
                  have ea_ := Option.some.inj (hx325_4.symm.trans hx327_4)
                  injection ea_ with ea_ en_ ec_
                  subst ea_
                  subst ec_
                  clear en_
                  have p328 : 0 ≤ (x5_1 : Int) := of_decide_eq_true (by first | (with_reducible assumption) | assumption)
                  have q328 : x5_1 < (l1.length : Int) := of_decide_eq_true (by first | (with_reducible assumption) | assumption)
                  obtain ⟨ad328, A328_3, c328_3, A328_4, c328_4, e328, hx328_0, hx328_1, hx328_2, hx328_3, hx328_4, hl328_3, hi328_3, hl328_4, hi328_4⟩ := at_T38 HR1.out x5_1 p328 q328
                  have hw328_4 := hx328_4
                  have hw328_3 := hx328_3
                  have hw328_2 := hx328_2
                  have hw328_1 := hx328_1
                  have hw328_0 := hx328_0
                  obtain rfl : ad326 = ad328 := (by injection e328)
                  replace hx328_0 := (HB.out.cell (World.block_lt_of_cell? w _ hx328_0)).trans hx328_0
                  replace hx328_1 := (HB.out.cell (World.block_lt_of_cell? w _ hx328_1)).trans hx328_1
                  replace hx328_2 := (HB.out.cell (World.block_lt_of_cell? w _ hx328_2)).trans hx328_2
                  replace hx328_3 := (HB.out.cell (World.block_lt_of_cell? w _ hx328_3)).trans hx328_3
                  replace hx328_4 := (HB.out.cell (World.block_lt_of_cell? w _ hx328_4)).trans hx328_4
                  have HR328_3 := Aside0.mk hi328_3
                  have HC328_3 := Aside0.mk hl328_3
                  clear hi328_3 hl328_3
                  have HR328_4 := Aside0.mk hi328_4
                  have HC328_4 := Aside0.mk hl328_4
                  clear hi328_4 hl328_4
                  replace p328 := eq_true p328
                  replace q328 := eq_true q328
                  have ea_ := Option.some.inj (hx326_3.symm.trans hx328_3)
                  injection ea_ with ea_ en_ ec_
                  subst ea_
                  subst ec_
                  clear en_
                  have ea_ := Option.some.inj (hx326_4.symm.trans hx328_4)
                  injection ea_ with ea_ en_ ec_
                  subst ea_
                  subst ec_
                  clear en_
                  refine start_ (n := 25) (S := fun w' => w'.cell? (ad325.add ((x5_1).toNat * 5)) = some (.string ((rd_T38 l0 x5_1).f0)) ∧ w'.cell? ⟨(ad325.add ((x5_1).toNat * 5)).block, (ad325.add ((x5_1).toNat * 5)).off + 1, none⟩ = some (.int .i64 ((rd_T38 l0 x5_1).f1.f0)) ∧ w'.cell? ⟨(ad325.add ((x5_1).toNat * 5)).block, (ad325.add ((x5_1).toNat * 5)).off + 2, none⟩ = some (.string ((rd_T38 l0 x5_1).f1.f1)) ∧ w'.cell? ⟨(ad325.add ((x5_1).toNat * 5)).block, (ad325.add ((x5_1).toNat * 5)).off + 3, none⟩ = some (.slice A325_3 ((rd_T38 l0 x5_1).f1.f2).length c325_3) ∧ w'.cell? ⟨(ad325.add ((x5_1).toNat * 5)).block, (ad325.add ((x5_1).toNat * 5)).off + 4, none⟩ = some (.slice A325_4 ((rd_T38 l0 x5_1).f1.f3).length c325_4) ∧ w'.cell? (ad326.add ((x5_1).toNat * 5)) = some (.string ((rd_T38 l1 x5_1).f0)) ∧ w'.cell? ⟨(ad326.add ((x5_1).toNat * 5)).block, (ad326.add ((x5_1).toNat * 5)).off + 1, none⟩ = some (.int .i64 ((rd_T38 l1 x5_1).f1.f0)) ∧ w'.cell? ⟨(ad326.add ((x5_1).toNat * 5)).block, (ad326.add ((x5_1).toNat * 5)).off + 2, none⟩ = some (.string ((rd_T38 l1 x5_1).f1.f1)) ∧ w'.cell? ⟨(ad326.add ((x5_1).toNat * 5)).block, (ad326.add ((x5_1).toNat * 5)).off + 3, none⟩ = some (.slice A326_3 ((rd_T38 l1 x5_1).f1.f2).length c326_3) ∧ w'.cell? ⟨(ad326.add ((x5_1).toNat * 5)).block, (ad326.add ((x5_1).toNat * 5)).off + 4, none⟩ = some (.slice A326_4 ((rd_T38 l1 x5_1).f1.f3).length c326_4) ∧ w'.cell? (ad325.add ((x5_1).toNat * 5)) = some (.string ((rd_T38 l0 x5_1).f0)) ∧ w'.cell? ⟨(ad325.add ((x5_1).toNat * 5)).block, (ad325.add ((x5_1).toNat * 5)).off + 1, none⟩ = some (.int .i64 ((rd_T38 l0 x5_1).f1.f0)) ∧ w'.cell? ⟨(ad325.add ((x5_1).toNat * 5)).block, (ad325.add ((x5_1).toNat * 5)).off + 2, none⟩ = some (.string ((rd_T38 l0 x5_1).f1.f1)) ∧ w'.cell? ⟨(ad325.add ((x5_1).toNat * 5)).block, (ad325.add ((x5_1).toNat * 5)).off + 3, none⟩ = some (.slice A325_3 ((rd_T38 l0 x5_1).f1.f2).length c325_3) ∧ w'.cell? ⟨(ad325.add ((x5_1).toNat * 5)).block, (ad325.add ((x5_1).toNat * 5)).off + 4, none⟩ = some (.slice A325_4 ((rd_T38 l0 x5_1).f1.f3).length c325_4) ∧ w'.cell? (ad326.add ((x5_1).toNat * 5)) = some (.string ((rd_T38 l1 x5_1).f0)) ∧ w'.cell? ⟨(ad326.add ((x5_1).toNat * 5)).block, (ad326.add ((x5_1).toNat * 5)).off + 1, none⟩ = some (.int .i64 ((rd_T38 l1 x5_1).f1.f0)) ∧ w'.cell? ⟨(ad326.add ((x5_1).toNat * 5)).block, (ad326.add ((x5_1).toNat * 5)).off + 2, none⟩ = some (.string ((rd_T38 l1 x5_1).f1.f1)) ∧ w'.cell? ⟨(ad326.add ((x5_1).toNat * 5)).block, (ad326.add ((x5_1).toNat * 5)).off + 3, none⟩ = some (.slice A326_3 ((rd_T38 l1 x5_1).f1.f2).length c326_3) ∧ w'.cell? ⟨(ad326.add ((x5_1).toNat * 5)).block, (ad326.add ((x5_1).toNat * 5)).off + 4, none⟩ = some (.slice A326_4 ((rd_T38 l1 x5_1).f1.f3).length c326_4)) (ds := []) #[false, false, false, false, false, false, false, false, false, false, false, false, false, false, false, false, false, false, false, false, false, false, false, false, false] (by kernel_rfl) rfl rfl ⟨((HB.out.cell (World.block_lt_of_cell? w _ hw325_0)).trans hw325_0), ((HB.out.cell (World.block_lt_of_cell? w _ hw325_1)).trans hw325_1), ((HB.out.cell (World.block_lt_of_cell? w _ hw325_2)).trans hw325_2), ((HB.out.cell (World.block_lt_of_cell? w _ hw325_3)).trans hw325_3), ((HB.out.cell (World.block_lt_of_cell? w _ hw325_4)).trans hw325_4), ((HB.out.cell (World.block_lt_of_cell? w _ hw326_0)).trans hw326_0), ((HB.out.cell (World.block_lt_of_cell? w _ hw326_1)).trans hw326_1), ((HB.out.cell (World.block_lt_of_cell? w _ hw326_2)).trans hw326_2), ((HB.out.cell (World.block_lt_of_cell? w _ hw326_3)).trans hw326_3), ((HB.out.cell (World.block_lt_of_cell? w _ hw326_4)).trans hw326_4), ((HB.out.cell (World.block_lt_of_cell? w _ hw327_0)).trans hw327_0), ((HB.out.cell (World.block_lt_of_cell? w _ hw327_1)).trans hw327_1), ((HB.out.cell (World.block_lt_of_cell? w _ hw327_2)).trans hw327_2), ((HB.out.cell (World.block_lt_of_cell? w _ hw327_3)).trans hw327_3), ((HB.out.cell (World.block_lt_of_cell? w _ hw327_4)).trans hw327_4), ((HB.out.cell (World.block_lt_of_cell? w _ hw328_0)).trans hw328_0), ((HB.out.cell (World.block_lt_of_cell? w _ hw328_1)).trans hw328_1), ((HB.out.cell (World.block_lt_of_cell? w _ hw328_2)).trans hw328_2), ((HB.out.cell (World.block_lt_of_cell? w _ hw328_3)).trans hw328_3), ((HB.out.cell (World.block_lt_of_cell? w _ hw328_4)).trans hw328_4)⟩ (fun hHeld => ?_); refine with_tabW phalaroperef09_Very.tab6 phalaroperef09_Very.bits6 (fun HT_ HW_ => ?_)
                  generalize wr.drew = w12 at HB HR325_3 HR325_4 HR326_3 HR326_4 HR327_3 HR327_4 HR328_3 HR328_4 hx325_0 hx325_1 hx325_2 hx325_3 hx325_4 hx326_0 hx326_1 hx326_2 hx326_3 hx326_4 hx327_0 hx327_1 hx327_2 hx327_3 hx327_4 hx328_0 hx328_1 hx328_2 hx328_3 hx328_4 hHeld ⊢
                  refine pure_ (i := 0) (N := some 17) (v := ?_) (a' := ?_) #[true, false, false, false, false, false, false, false, false, false, false, false, false, false, false, false, false, false, false, false, false, false, false, false, false] rfl rfl (any_of HT_.out (by kernel_rfl)) (fun _ _ _ h => h) (Or.inl ⟨by rfl, ?_⟩) ?_ ?_
                  rotate_left
                  · intro w'
                    go_simp
                    with_reducible rfl
                  rotate_left
                  · simp only [Act.put, List.setIfInBounds_toArray, List.set_cons_zero, List.set_cons_succ, i64_w, i32_w]
                    rfl
                  refine pure_ (i := 1) (N := some 18) (v := ?_) (a' := ?_) #[true, true, false, false, false, false, false, false, false, false, false, false, false, false, false, false, false, false, false, false, false, false, false, false, false] rfl rfl (any_of HT_.out (by kernel_rfl)) (fun _ _ _ h => h) (Or.inl ⟨by rfl, ?_⟩) ?_ ?_
                  rotate_left
                  · intro w'
                    go_simp
                    with_reducible rfl
                  rotate_left
                  · simp only [Act.put, List.setIfInBounds_toArray, List.set_cons_zero, List.set_cons_succ, i64_w, i32_w]
                    rfl
                  refine pure_ (i := 2) (N := some 19) (v := ?_) (a' := ?_) #[true, true, true, false, false, false, false, false, false, false, false, false, false, false, false, false, false, false, false, false, false, false, false, false, false] rfl rfl (any_of HT_.out (by kernel_rfl)) (fun _ _ _ h => h) (Or.inl ⟨by rfl, ?_⟩) ?_ ?_
                  rotate_left
                  · intro w'
                    go_simp
                    with_reducible rfl
                  rotate_left
                  · simp only [Act.put, List.setIfInBounds_toArray, List.set_cons_zero, List.set_cons_succ, i64_w, i32_w]
                    rfl
                  refine pure_ (i := 3) (N := some 20) (v := ?_) (a' := ?_) #[true, true, true, true, false, false, false, false, false, false, false, false, false, false, false, false, false, false, false, false, false, false, false, false, false] rfl rfl (any_of HT_.out (by kernel_rfl)) (fun _ _ _ h => h) (Or.inl ⟨by rfl, ?_⟩) ?_ ?_
                  rotate_left
                  · intro w'
                    go_simp
                    with_reducible rfl
                  rotate_left
                  · simp only [Act.put, List.setIfInBounds_toArray, List.set_cons_zero, List.set_cons_succ, i64_w, i32_w]
                    rfl
                  refine pure_ (i := 5) (N := some 22) (v := ?_) (a' := ?_) #[true, true, true, true, false, true, false, false, false, false, false, false, false, false, false, false, false, false, false, false, false, false, false, false, false] rfl rfl (any_of HT_.out (by kernel_rfl)) (fun _ _ _ h => h) (Or.inl ⟨by rfl, ?_⟩) ?_ ?_
                  rotate_left
                  · intro w'
                    go_simp
                    with_reducible rfl
                  rotate_left
                  · simp only [Act.put, List.setIfInBounds_toArray, List.set_cons_zero, List.set_cons_succ, i64_w, i32_w]
                    rfl
                  refine pure_ (i := 6) (N := some 23) (v := ?_) (a' := ?_) #[true, true, true, true, false, true, true, false, false, false, false, false, false, false, false, false, false, false, false, false, false, false, false, false, false] rfl rfl (any_of HT_.out (by kernel_rfl)) (fun _ _ _ h => h) (Or.inl ⟨by rfl, ?_⟩) ?_ ?_
                  rotate_left
                  · intro w'
                    go_simp
                    with_reducible rfl
                  rotate_left
                  · simp only [Act.put, List.setIfInBounds_toArray, List.set_cons_zero, List.set_cons_succ, i64_w, i32_w]
                    rfl
                  refine pure_ (i := 7) (N := some 24) (v := ?_) (a' := ?_) #[true, true, true, true, false, true, true, true, false, false, false, false, false, false, false, false, false, false, false, false, false, false, false, false, false] rfl rfl (any_of HT_.out (by kernel_rfl)) (fun _ _ _ h => h) (Or.inl ⟨by rfl, ?_⟩) ?_ ?_
                  rotate_left
                  · intro w'
                    go_simp
                    with_reducible rfl
                  rotate_left
                  · simp only [Act.put, List.setIfInBounds_toArray, List.set_cons_zero, List.set_cons_succ, i64_w, i32_w]
                    rfl
                  refine pure_ (i := 8) (N := some 25) (v := ?_) (a' := ?_) #[true, true, true, true, false, true, true, true, true, false, false, false, false, false, false, false, false, false, false, false, false, false, false, false, false] rfl rfl (any_of HT_.out (by kernel_rfl)) (fun _ _ _ h => h) (Or.inl ⟨by rfl, ?_⟩) ?_ ?_
                  rotate_left
                  · intro w'
                    go_simp
                    with_reducible rfl
                  rotate_left
                  · simp only [Act.put, List.setIfInBounds_toArray, List.set_cons_zero, List.set_cons_succ, i64_w, i32_w]
                    rfl
                  refine take_ (i := 4) (N := some 21) (v := ?_) (a' := ?_) #[true, true, true, true, true, true, true, true, true, false, false, false, false, false, false, false, false, false, false, false, false, false, false, false, false] rfl rfl (take_ofW HT_.out HW_.out (by kernel_rfl)) (fun _ _ _ h => h) (Or.inl ⟨by rfl, ?_⟩) hHeld ?_ ?_
                  rotate_left
                  · rintro w' ⟨s0, s1, s2, s3, s4, s5, s6, s7, s8, s9, s10, s11, s12, s13, s14, s15, s16, s17, s18, s19⟩
                    go_simp
                    with_reducible rfl
                  rotate_left
                  · simp only [Act.put, List.setIfInBounds_toArray, List.set_cons_zero, List.set_cons_succ, i64_w, i32_w]
                    rfl
                  refine take_ (i := 9) (N := some 26) (v := ?_) (a' := ?_) #[true, true, true, true, true, true, true, true, true, true, false, false, false, false, false, false, false, false, false, false, false, false, false, false, false] rfl rfl (take_ofW HT_.out HW_.out (by kernel_rfl)) (fun _ _ _ h => h) (Or.inl ⟨by rfl, ?_⟩) hHeld ?_ ?_
                  rotate_left
                  · rintro w' ⟨s0, s1, s2, s3, s4, s5, s6, s7, s8, s9, s10, s11, s12, s13, s14, s15, s16, s17, s18, s19⟩
                    go_simp
                    with_reducible rfl
                  rotate_left
                  · simp only [Act.put, List.setIfInBounds_toArray, List.set_cons_zero, List.set_cons_succ, i64_w, i32_w]
                    rfl
                  refine pure_ (i := 10) (N := some 27) (v := ?_) (a' := ?_) #[true, true, true, true, true, true, true, true, true, true, true, false, false, false, false, false, false, false, false, false, false, false, false, false, false] rfl rfl (any_of HT_.out (by kernel_rfl)) (fun _ _ _ h => h) (Or.inl ⟨by rfl, ?_⟩) ?_ ?_
                  rotate_left
                  · intro w'
                    go_simp
                    with_reducible rfl
                  rotate_left
                  · simp only [Act.put, List.setIfInBounds_toArray, List.set_cons_zero, List.set_cons_succ, i64_w, i32_w]
                    rfl
                  refine pure_ (i := 11) (N := some 28) (v := ?_) (a' := ?_) #[true, true, true, true, true, true, true, true, true, true, true, true, false, false, false, false, false, false, false, false, false, false, false, false, false] rfl rfl (any_of HT_.out (by kernel_rfl)) (fun _ _ _ h => h) (Or.inl ⟨by rfl, ?_⟩) ?_ ?_
                  rotate_left
                  · intro w'
                    go_simp
                    with_reducible rfl
                  rotate_left
                  · simp only [Act.put, List.setIfInBounds_toArray, List.set_cons_zero, List.set_cons_succ, i64_w, i32_w]
                    rfl
                  refine pure_ (i := 12) (N := some 29) (v := ?_) (a' := ?_) #[true, true, true, true, true, true, true, true, true, true, true, true, true, false, false, false, false, false, false, false, false, false, false, false, false] rfl rfl (any_of HT_.out (by kernel_rfl)) (fun _ _ _ h => h) (Or.inl ⟨by rfl, ?_⟩) ?_ ?_
                  rotate_left
                  · intro w'
                    go_simp
                    with_reducible rfl
                  rotate_left
                  · simp only [Act.put, List.setIfInBounds_toArray, List.set_cons_zero, List.set_cons_succ, i64_w, i32_w]
                    rfl
                  refine pure_ (i := 13) (N := some 30) (v := ?_) (a' := ?_) #[true, true, true, true, true, true, true, true, true, true, true, true, true, true, false, false, false, false, false, false, false, false, false, false, false] rfl rfl (any_of HT_.out (by kernel_rfl)) (fun _ _ _ h => h) (Or.inl ⟨by rfl, ?_⟩) ?_ ?_
                  rotate_left
                  · intro w'
                    go_simp
                    with_reducible rfl
                  rotate_left
                  · simp only [Act.put, List.setIfInBounds_toArray, List.set_cons_zero, List.set_cons_succ, i64_w, i32_w]
                    rfl
                  refine pure_ (i := 14) (N := some 31) (v := ?_) (a' := ?_) #[true, true, true, true, true, true, true, true, true, true, true, true, true, true, true, false, false, false, false, false, false, false, false, false, false] rfl rfl (any_of HT_.out (by kernel_rfl)) (fun _ _ _ h => h) (Or.inl ⟨by rfl, ?_⟩) ?_ ?_
                  rotate_left
                  · intro w'
                    go_simp
                    with_reducible rfl
                  rotate_left
                  · simp only [Act.put, List.setIfInBounds_toArray, List.set_cons_zero, List.set_cons_succ, i64_w, i32_w]
                    rfl
                  refine pure_ (i := 15) (N := some 32) (v := ?_) (a' := ?_) #[true, true, true, true, true, true, true, true, true, true, true, true, true, true, true, true, false, false, false, false, false, false, false, false, false] rfl rfl (any_of HT_.out (by kernel_rfl)) (fun _ _ _ h => h) (Or.inl ⟨by rfl, ?_⟩) ?_ ?_
                  rotate_left
                  · intro w'
                    go_simp
                    with_reducible rfl
                  rotate_left
                  · simp only [Act.put, List.setIfInBounds_toArray, List.set_cons_zero, List.set_cons_succ, i64_w, i32_w]
                    rfl
                  refine pure_ (i := 17) (N := some 34) (v := ?_) (a' := ?_) #[true, true, true, true, true, true, true, true, true, true, true, true, true, true, true, true, false, true, false, false, false, false, false, false, false] rfl rfl (any_of HT_.out (by kernel_rfl)) (fun _ _ _ h => h) (Or.inl ⟨by rfl, ?_⟩) ?_ ?_
                  rotate_left
                  · intro w'
                    go_simp
                    with_reducible rfl
                  rotate_left
                  · simp only [Act.put, List.setIfInBounds_toArray, List.set_cons_zero, List.set_cons_succ, i64_w, i32_w]
                    rfl
                  refine pure_ (i := 18) (N := some 35) (v := ?_) (a' := ?_) #[true, true, true, true, true, true, true, true, true, true, true, true, true, true, true, true, false, true, true, false, false, false, false, false, false] rfl rfl (any_of HT_.out (by kernel_rfl)) (fun _ _ _ h => h) (Or.inl ⟨by rfl, ?_⟩) ?_ ?_
                  rotate_left
                  · intro w'
                    go_simp
                    with_reducible rfl
                  rotate_left
                  · simp only [Act.put, List.setIfInBounds_toArray, List.set_cons_zero, List.set_cons_succ, i64_w, i32_w]
                    rfl
                  refine pure_ (i := 19) (N := some 36) (v := ?_) (a' := ?_) #[true, true, true, true, true, true, true, true, true, true, true, true, true, true, true, true, false, true, true, true, false, false, false, false, false] rfl rfl (any_of HT_.out (by kernel_rfl)) (fun _ _ _ h => h) (Or.inl ⟨by rfl, ?_⟩) ?_ ?_
                  rotate_left
                  · intro w'
                    go_simp
                    with_reducible rfl
                  rotate_left
                  · simp only [Act.put, List.setIfInBounds_toArray, List.set_cons_zero, List.set_cons_succ, i64_w, i32_w]
                    rfl
                  refine pure_ (i := 20) (N := some 37) (v := ?_) (a' := ?_) #[true, true, true, true, true, true, true, true, true, true, true, true, true, true, true, true, false, true, true, true, true, false, false, false, false] rfl rfl (any_of HT_.out (by kernel_rfl)) (fun _ _ _ h => h) (Or.inl ⟨by rfl, ?_⟩) ?_ ?_
                  rotate_left
                  · intro w'
                    go_simp
                    with_reducible rfl
                  rotate_left
                  · simp only [Act.put, List.setIfInBounds_toArray, List.set_cons_zero, List.set_cons_succ, i64_w, i32_w]
                    rfl
                  refine take_ (i := 16) (N := some 33) (v := ?_) (a' := ?_) #[true, true, true, true, true, true, true, true, true, true, true, true, true, true, true, true, true, true, true, true, true, false, false, false, false] rfl rfl (take_ofW HT_.out HW_.out (by kernel_rfl)) (fun _ _ _ h => h) (Or.inl ⟨by rfl, ?_⟩) hHeld ?_ ?_
                  rotate_left
                  · rintro w' ⟨s0, s1, s2, s3, s4, s5, s6, s7, s8, s9, s10, s11, s12, s13, s14, s15, s16, s17, s18, s19⟩
                    go_simp
                    with_reducible rfl
                  rotate_left
                  · simp only [Act.put, List.setIfInBounds_toArray, List.set_cons_zero, List.set_cons_succ, i64_w, i32_w]
                    rfl
                  refine take_ (i := 21) (N := some 38) (v := ?_) (a' := ?_) #[true, true, true, true, true, true, true, true, true, true, true, true, true, true, true, true, true, true, true, true, true, true, false, false, false] rfl rfl (take_ofW HT_.out HW_.out (by kernel_rfl)) (fun _ _ _ h => h) (Or.inl ⟨by rfl, ?_⟩) hHeld ?_ ?_
                  rotate_left
                  · rintro w' ⟨s0, s1, s2, s3, s4, s5, s6, s7, s8, s9, s10, s11, s12, s13, s14, s15, s16, s17, s18, s19⟩
                    go_simp
                    with_reducible rfl
                  rotate_left
                  · simp only [Act.put, List.setIfInBounds_toArray, List.set_cons_zero, List.set_cons_succ, i64_w, i32_w]
                    rfl
                  refine one_ (i := 22) (N := some 39) #[true, true, true, true, true, true, true, true, true, true, true, true, true, true, true, true, true, true, true, true, true, true, true, false, false] rfl rfl (one_of HT_.out (by kernel_rfl)) (by decide) (fun K hK => ?_)
                  refine goes_ Try.func13 (by kernel_rfl) rfl #[.agg #[.int .i64 ((rd_T38 l0 x5_1).f1.f0), .string ((rd_T38 l0 x5_1).f1.f1), .slice A325_3 ((rd_T38 l0 x5_1).f1.f2).length c325_3, .slice A325_4 ((rd_T38 l0 x5_1).f1.f3).length c325_4], .agg #[.int .i64 ((rd_T38 l1 x5_1).f1.f0), .string ((rd_T38 l1 x5_1).f1.f1), .slice A326_3 ((rd_T38 l1 x5_1).f1.f2).length c326_3, .slice A326_4 ((rd_T38 l1 x5_1).f1.f3).length c326_4]] (by rfl) rfl rfl (by (try simp only [List.map_toArray, List.map_cons, List.map_nil]); first | done | rfl | (simp only [List.length_drop, List.length_take]; rfl)) ?_
                  with_reducible refine (phalaroperef08_Very.calls k1 ((rd_T38 l0 x5_1).f1.f0) ((rd_T38 l0 x5_1).f1.f1) _ _ ((rd_T38 l0 x5_1).f1.f2) _ _ ((rd_T38 l0 x5_1).f1.f3) ((rd_T38 l1 x5_1).f1.f0) ((rd_T38 l1 x5_1).f1.f1) _ _ ((rd_T38 l1 x5_1).f1.f2) _ _ ((rd_T38 l1 x5_1).f1.f3) false _ ?side1 ?side2 ?side3 ?side4 ?side5 ?side6 ?side7 ?side8 A8.out).mono ?_
                  (case side1 => repeat (first | exact (Kd.C_below HR327_3.out HB.out) | (with_reducible refine Kd.C_alloc ?_ _) | (with_reducible refine Kd.C_drewN ?_ _) | (with_reducible refine Kd.C_drew ?_)))
                  (case side2 => exact HC327_3.out)
                  (case side3 => repeat (first | exact (Kd.C_below HR327_4.out HB.out) | (with_reducible refine Kd.C_alloc ?_ _) | (with_reducible refine Kd.C_drewN ?_ _) | (with_reducible refine Kd.C_drew ?_)))
                  (case side4 => exact HC327_4.out)
                  (case side5 => repeat (first | exact (Kd.C_below HR328_3.out HB.out) | (with_reducible refine Kd.C_alloc ?_ _) | (with_reducible refine Kd.C_drewN ?_ _) | (with_reducible refine Kd.C_drew ?_)))
                  (case side6 => exact HC328_3.out)
                  (case side7 => repeat (first | exact (Kd.C_below HR328_4.out HB.out) | (with_reducible refine Kd.C_alloc ?_ _) | (with_reducible refine Kd.C_drewN ?_ _) | (with_reducible refine Kd.C_drew ?_)))
                  (case side8 => exact HC328_4.out)
                  rintro e w13 ⟨rfl, hb⟩
                  refine ⟨_, rfl, ?_⟩
                  have n0_ := Aside0.mk (below_step (by repeat (first | (with_reducible first | exact HB.out | apply below_alloc | apply pw_below_drewN | apply below_drew1) | exact HB.out)) hb)
                  clear HB
                  have HB := n0_
                  clear n0_
                  (try clear hb)
                  (try clear hb2)
                  (try clear hk)
                  (try clear hi)
                  refine hK.out _ _ ⟨((HB.out.cell (World.block_lt_of_cell? w _ hw325_0)).trans hw325_0), ((HB.out.cell (World.block_lt_of_cell? w _ hw325_1)).trans hw325_1), ((HB.out.cell (World.block_lt_of_cell? w _ hw325_2)).trans hw325_2), ((HB.out.cell (World.block_lt_of_cell? w _ hw325_3)).trans hw325_3), ((HB.out.cell (World.block_lt_of_cell? w _ hw325_4)).trans hw325_4), ((HB.out.cell (World.block_lt_of_cell? w _ hw326_0)).trans hw326_0), ((HB.out.cell (World.block_lt_of_cell? w _ hw326_1)).trans hw326_1), ((HB.out.cell (World.block_lt_of_cell? w _ hw326_2)).trans hw326_2), ((HB.out.cell (World.block_lt_of_cell? w _ hw326_3)).trans hw326_3), ((HB.out.cell (World.block_lt_of_cell? w _ hw326_4)).trans hw326_4), ((HB.out.cell (World.block_lt_of_cell? w _ hw327_0)).trans hw327_0), ((HB.out.cell (World.block_lt_of_cell? w _ hw327_1)).trans hw327_1), ((HB.out.cell (World.block_lt_of_cell? w _ hw327_2)).trans hw327_2), ((HB.out.cell (World.block_lt_of_cell? w _ hw327_3)).trans hw327_3), ((HB.out.cell (World.block_lt_of_cell? w _ hw327_4)).trans hw327_4), ((HB.out.cell (World.block_lt_of_cell? w _ hw328_0)).trans hw328_0), ((HB.out.cell (World.block_lt_of_cell? w _ hw328_1)).trans hw328_1), ((HB.out.cell (World.block_lt_of_cell? w _ hw328_2)).trans hw328_2), ((HB.out.cell (World.block_lt_of_cell? w _ hw328_3)).trans hw328_3), ((HB.out.cell (World.block_lt_of_cell? w _ hw328_4)).trans hw328_4)⟩ (fun hHeld => ?_)
                  clear hK K
                  refine norm_ (a' := ?_) ?_ ?_
                  rotate_left
                  · show Act.put _ (some 39) _ = _
                    simp only [Act.put, List.setIfInBounds_toArray, List.set_cons_zero, List.set_cons_succ, i64_w, i32_w]
                    rfl
                  refine pure_ (i := 23) (N := some 40) (v := ?_) (a' := ?_) #[true, true, true, true, true, true, true, true, true, true, true, true, true, true, true, true, true, true, true, true, true, true, true, true, false] rfl rfl (any_of HT_.out (by kernel_rfl)) (fun _ _ _ h => h) (Or.inl ⟨by rfl, ?_⟩) ?_ ?_
                  rotate_left
                  · intro w'
                    go_simp
                    with_reducible rfl
                  rotate_left
                  · simp only [Act.put, List.setIfInBounds_toArray, List.set_cons_zero, List.set_cons_succ, i64_w, i32_w]
                    rfl
                  refine pure_ (i := 24) (N := some 41) (v := ?_) (a' := ?_) #[true, true, true, true, true, true, true, true, true, true, true, true, true, true, true, true, true, true, true, true, true, true, true, true, true] rfl rfl (any_of HT_.out (by kernel_rfl)) (fun _ _ _ h => h) (Or.inl ⟨by rfl, ?_⟩) ?_ ?_
                  rotate_left
                  · intro w'
                    go_simp
                    with_reducible rfl
                  rotate_left
                  · simp only [Act.put, List.setIfInBounds_toArray, List.set_cons_zero, List.set_cons_succ, i64_w, i32_w]
                    rfl
                  refine done_ (done_of HT_.out (by kernel_rfl)) ?_
                  try go_wp2
                  go_ret
                  exact ⟨by first | rfl | (simp [errW_none, errW_some] <;> rfl) | (simp [*, errW_none, errW_some] <;> rfl), by repeat (first | (with_reducible first | exact HB.out | apply below_alloc | apply pw_below_drewN | apply below_drew1) | exact HB.out)⟩
              · rw [if_neg c7] at H
                have c7b0 : (((rd_T38 l0 x5_1).f0).toList == ((rd_T38 l1 x5_1).f0).toList) = false := beq_eq_false_iff_ne.mpr c7
                have c7b1 : (((rd_T38 l0 x5_1).f0).toList != ((rd_T38 l1 x5_1).f0).toList) = true := bne_iff_ne.mpr c7
                obtain rfl := Option.some.inj H
                try go_wp2
                have n0_ := Aside0.mk (below_drew1 HB.out)
                clear HB
                have HB := n0_
                clear n0_
                have p325 : 0 ≤ (x5_1 : Int) := of_decide_eq_true (by first | (with_reducible assumption) | assumption)
                have q325 : x5_1 < (l0.length : Int) := of_decide_eq_true (by first | (with_reducible assumption) | assumption)
                obtain ⟨ad325, A325_3, c325_3, A325_4, c325_4, e325, hx325_0, hx325_1, hx325_2, hx325_3, hx325_4, hl325_3, hi325_3, hl325_4, hi325_4⟩ := at_T38 HR0.out x5_1 p325 q325
                have hw325_4 := hx325_4
                have hw325_3 := hx325_3
                have hw325_2 := hx325_2
                have hw325_1 := hx325_1
                have hw325_0 := hx325_0
                cases e325
                replace hx325_0 := (HB.out.cell (World.block_lt_of_cell? w _ hx325_0)).trans hx325_0
                replace hx325_1 := (HB.out.cell (World.block_lt_of_cell? w _ hx325_1)).trans hx325_1
                replace hx325_2 := (HB.out.cell (World.block_lt_of_cell? w _ hx325_2)).trans hx325_2
                replace hx325_3 := (HB.out.cell (World.block_lt_of_cell? w _ hx325_3)).trans hx325_3
                replace hx325_4 := (HB.out.cell (World.block_lt_of_cell? w _ hx325_4)).trans hx325_4
                have HR325_3 := Aside0.mk hi325_3
                have HC325_3 := Aside0.mk hl325_3
                clear hi325_3 hl325_3
                have HR325_4 := Aside0.mk hi325_4
                have HC325_4 := Aside0.mk hl325_4
                clear hi325_4 hl325_4
                replace p325 := eq_true p325
                replace q325 := eq_true q325
                have p326 : 0 ≤ (x5_1 : Int) := of_decide_eq_true (by first | (with_reducible assumption) | assumption)
                have q326 : x5_1 < (l1.length : Int) := of_decide_eq_true (by first | (with_reducible assumption) | assumption)
                obtain ⟨ad326, A326_3, c326_3, A326_4, c326_4, e326, hx326_0, hx326_1, hx326_2, hx326_3, hx326_4, hl326_3, hi326_3, hl326_4, hi326_4⟩ := at_T38 HR1.out x5_1 p326 q326
                have hw326_4 := hx326_4
                have hw326_3 := hx326_3
                have hw326_2 := hx326_2
                have hw326_1 := hx326_1
                have hw326_0 := hx326_0
                cases e326
                replace hx326_0 := (HB.out.cell (World.block_lt_of_cell? w _ hx326_0)).trans hx326_0
                replace hx326_1 := (HB.out.cell (World.block_lt_of_cell? w _ hx326_1)).trans hx326_1
                replace hx326_2 := (HB.out.cell (World.block_lt_of_cell? w _ hx326_2)).trans hx326_2
                replace hx326_3 := (HB.out.cell (World.block_lt_of_cell? w _ hx326_3)).trans hx326_3
                replace hx326_4 := (HB.out.cell (World.block_lt_of_cell? w _ hx326_4)).trans hx326_4
                have HR326_3 := Aside0.mk hi326_3
                have HC326_3 := Aside0.mk hl326_3
                clear hi326_3 hl326_3
                have HR326_4 := Aside0.mk hi326_4
                have HC326_4 := Aside0.mk hl326_4
                clear hi326_4 hl326_4
                replace p326 := eq_true p326
                replace q326 := eq_true q326
                refine start_ (n := 25) (S := fun w' => w'.cell? (ad325.add ((x5_1).toNat * 5)) = some (.string ((rd_T38 l0 x5_1).f0)) ∧ w'.cell? ⟨(ad325.add ((x5_1).toNat * 5)).block, (ad325.add ((x5_1).toNat * 5)).off + 1, none⟩ = some (.int .i64 ((rd_T38 l0 x5_1).f1.f0)) ∧ w'.cell? ⟨(ad325.add ((x5_1).toNat * 5)).block, (ad325.add ((x5_1).toNat * 5)).off + 2, none⟩ = some (.string ((rd_T38 l0 x5_1).f1.f1)) ∧ w'.cell? ⟨(ad325.add ((x5_1).toNat * 5)).block, (ad325.add ((x5_1).toNat * 5)).off + 3, none⟩ = some (.slice A325_3 ((rd_T38 l0 x5_1).f1.f2).length c325_3) ∧ w'.cell? ⟨(ad325.add ((x5_1).toNat * 5)).block, (ad325.add ((x5_1).toNat * 5)).off + 4, none⟩ = some (.slice A325_4 ((rd_T38 l0 x5_1).f1.f3).length c325_4) ∧ w'.cell? (ad326.add ((x5_1).toNat * 5)) = some (.string ((rd_T38 l1 x5_1).f0)) ∧ w'.cell? ⟨(ad326.add ((x5_1).toNat * 5)).block, (ad326.add ((x5_1).toNat * 5)).off + 1, none⟩ = some (.int .i64 ((rd_T38 l1 x5_1).f1.f0)) ∧ w'.cell? ⟨(ad326.add ((x5_1).toNat * 5)).block, (ad326.add ((x5_1).toNat * 5)).off + 2, none⟩ = some (.string ((rd_T38 l1 x5_1).f1.f1)) ∧ w'.cell? ⟨(ad326.add ((x5_1).toNat * 5)).block, (ad326.add ((x5_1).toNat * 5)).off + 3, none⟩ = some (.slice A326_3 ((rd_T38 l1 x5_1).f1.f2).length c326_3) ∧ w'.cell? ⟨(ad326.add ((x5_1).toNat * 5)).block, (ad326.add ((x5_1).toNat * 5)).off + 4, none⟩ = some (.slice A326_4 ((rd_T38 l1 x5_1).f1.f3).length c326_4)) (ds := []) #[false, false, false, false, false, false, false, false, false, false, false, false, false, false, false, false, false, false, false, false, false, false, false, false, false] (by kernel_rfl) rfl rfl ⟨((HB.out.cell (World.block_lt_of_cell? w _ hw325_0)).trans hw325_0), ((HB.out.cell (World.block_lt_of_cell? w _ hw325_1)).trans hw325_1), ((HB.out.cell (World.block_lt_of_cell? w _ hw325_2)).trans hw325_2), ((HB.out.cell (World.block_lt_of_cell? w _ hw325_3)).trans hw325_3), ((HB.out.cell (World.block_lt_of_cell? w _ hw325_4)).trans hw325_4), ((HB.out.cell (World.block_lt_of_cell? w _ hw326_0)).trans hw326_0), ((HB.out.cell (World.block_lt_of_cell? w _ hw326_1)).trans hw326_1), ((HB.out.cell (World.block_lt_of_cell? w _ hw326_2)).trans hw326_2), ((HB.out.cell (World.block_lt_of_cell? w _ hw326_3)).trans hw326_3), ((HB.out.cell (World.block_lt_of_cell? w _ hw326_4)).trans hw326_4)⟩ (fun hHeld => ?_); refine with_tabW phalaroperef09_Very.tab6 phalaroperef09_Very.bits6 (fun HT_ HW_ => ?_)
                generalize wr.drew = w14 at HB HR325_3 HR325_4 HR326_3 HR326_4 hx325_0 hx325_1 hx325_2 hx325_3 hx325_4 hx326_0 hx326_1 hx326_2 hx326_3 hx326_4 hHeld ⊢
                refine pure_ (i := 0) (N := some 17) (v := ?_) (a' := ?_) #[true, false, false, false, false, false, false, false, false, false, false, false, false, false, false, false, false, false, false, false, false, false, false, false, false] rfl rfl (any_of HT_.out (by kernel_rfl)) (fun _ _ _ h => h) (Or.inl ⟨by rfl, ?_⟩) ?_ ?_
                rotate_left
                · intro w'
                  go_simp
                  with_reducible rfl
                rotate_left
                · simp only [Act.put, List.setIfInBounds_toArray, List.set_cons_zero, List.set_cons_succ, i64_w, i32_w]
                  rfl
                refine pure_ (i := 1) (N := some 18) (v := ?_) (a' := ?_) #[true, true, false, false, false, false, false, false, false, false, false, false, false, false, false, false, false, false, false, false, false, false, false, false, false] rfl rfl (any_of HT_.out (by kernel_rfl)) (fun _ _ _ h => h) (Or.inl ⟨by rfl, ?_⟩) ?_ ?_
                rotate_left
                · intro w'
                  go_simp
                  with_reducible rfl
                rotate_left
                · simp only [Act.put, List.setIfInBounds_toArray, List.set_cons_zero, List.set_cons_succ, i64_w, i32_w]
                  rfl
                refine pure_ (i := 2) (N := some 19) (v := ?_) (a' := ?_) #[true, true, true, false, false, false, false, false, false, false, false, false, false, false, false, false, false, false, false, false, false, false, false, false, false] rfl rfl (any_of HT_.out (by kernel_rfl)) (fun _ _ _ h => h) (Or.inl ⟨by rfl, ?_⟩) ?_ ?_
                rotate_left
                · intro w'
                  go_simp
                  with_reducible rfl
                rotate_left
                · simp only [Act.put, List.setIfInBounds_toArray, List.set_cons_zero, List.set_cons_succ, i64_w, i32_w]
                  rfl
                refine pure_ (i := 3) (N := some 20) (v := ?_) (a' := ?_) #[true, true, true, true, false, false, false, false, false, false, false, false, false, false, false, false, false, false, false, false, false, false, false, false, false] rfl rfl (any_of HT_.out (by kernel_rfl)) (fun _ _ _ h => h) (Or.inl ⟨by rfl, ?_⟩) ?_ ?_
                rotate_left
                · intro w'
                  go_simp
                  with_reducible rfl
                rotate_left
                · simp only [Act.put, List.setIfInBounds_toArray, List.set_cons_zero, List.set_cons_succ, i64_w, i32_w]
                  rfl
                refine pure_ (i := 5) (N := some 22) (v := ?_) (a' := ?_) #[true, true, true, true, false, true, false, false, false, false, false, false, false, false, false, false, false, false, false, false, false, false, false, false, false] rfl rfl (any_of HT_.out (by kernel_rfl)) (fun _ _ _ h => h) (Or.inl ⟨by rfl, ?_⟩) ?_ ?_
                rotate_left
                · intro w'
                  go_simp
                  with_reducible rfl
                rotate_left
                · simp only [Act.put, List.setIfInBounds_toArray, List.set_cons_zero, List.set_cons_succ, i64_w, i32_w]
                  rfl
                refine pure_ (i := 6) (N := some 23) (v := ?_) (a' := ?_) #[true, true, true, true, false, true, true, false, false, false, false, false, false, false, false, false, false, false, false, false, false, false, false, false, false] rfl rfl (any_of HT_.out (by kernel_rfl)) (fun _ _ _ h => h) (Or.inl ⟨by rfl, ?_⟩) ?_ ?_
                rotate_left
                · intro w'
                  go_simp
                  with_reducible rfl
                rotate_left
                · simp only [Act.put, List.setIfInBounds_toArray, List.set_cons_zero, List.set_cons_succ, i64_w, i32_w]
                  rfl
                refine pure_ (i := 7) (N := some 24) (v := ?_) (a' := ?_) #[true, true, true, true, false, true, true, true, false, false, false, false, false, false, false, false, false, false, false, false, false, false, false, false, false] rfl rfl (any_of HT_.out (by kernel_rfl)) (fun _ _ _ h => h) (Or.inl ⟨by rfl, ?_⟩) ?_ ?_
                rotate_left
                · intro w'
                  go_simp
                  with_reducible rfl
                rotate_left
                · simp only [Act.put, List.setIfInBounds_toArray, List.set_cons_zero, List.set_cons_succ, i64_w, i32_w]
                  rfl
                refine pure_ (i := 8) (N := some 25) (v := ?_) (a' := ?_) #[true, true, true, true, false, true, true, true, true, false, false, false, false, false, false, false, false, false, false, false, false, false, false, false, false] rfl rfl (any_of HT_.out (by kernel_rfl)) (fun _ _ _ h => h) (Or.inl ⟨by rfl, ?_⟩) ?_ ?_
                rotate_left
                · intro w'
                  go_simp
                  with_reducible rfl
                rotate_left
                · simp only [Act.put, List.setIfInBounds_toArray, List.set_cons_zero, List.set_cons_succ, i64_w, i32_w]
                  rfl
                refine take_ (i := 4) (N := some 21) (v := ?_) (a' := ?_) #[true, true, true, true, true, true, true, true, true, false, false, false, false, false, false, false, false, false, false, false, false, false, false, false, false] rfl rfl (take_ofW HT_.out HW_.out (by kernel_rfl)) (fun _ _ _ h => h) (Or.inl ⟨by rfl, ?_⟩) hHeld ?_ ?_
                rotate_left
                · rintro w' ⟨s0, s1, s2, s3, s4, s5, s6, s7, s8, s9⟩
                  go_simp
                  with_reducible rfl
                rotate_left
                · simp only [Act.put, List.setIfInBounds_toArray, List.set_cons_zero, List.set_cons_succ, i64_w, i32_w]
                  rfl
                refine take_ (i := 9) (N := some 26) (v := ?_) (a' := ?_) #[true, true, true, true, true, true, true, true, true, true, false, false, false, false, false, false, false, false, false, false, false, false, false, false, false] rfl rfl (take_ofW HT_.out HW_.out (by kernel_rfl)) (fun _ _ _ h => h) (Or.inl ⟨by rfl, ?_⟩) hHeld ?_ ?_
                rotate_left
                · rintro w' ⟨s0, s1, s2, s3, s4, s5, s6, s7, s8, s9⟩
                  go_simp
                  with_reducible rfl
                rotate_left
                · simp only [Act.put, List.setIfInBounds_toArray, List.set_cons_zero, List.set_cons_succ, i64_w, i32_w]
                  rfl
                refine pure_ (i := 10) (N := some 27) (v := ?_) (a' := ?_) #[true, true, true, true, true, true, true, true, true, true, true, false, false, false, false, false, false, false, false, false, false, false, false, false, false] rfl rfl (any_of HT_.out (by kernel_rfl)) (fun _ _ _ h => h) (Or.inl ⟨by rfl, ?_⟩) ?_ ?_
                rotate_left
                · intro w'
                  go_simp
                  with_reducible rfl
                rotate_left
                · simp only [Act.put, List.setIfInBounds_toArray, List.set_cons_zero, List.set_cons_succ, i64_w, i32_w]
                  rfl
                refine pure_ (i := 11) (N := some 28) (v := ?_) (a' := ?_) #[true, true, true, true, true, true, true, true, true, true, true, true, false, false, false, false, false, false, false, false, false, false, false, false, false] rfl rfl (any_of HT_.out (by kernel_rfl)) (fun _ _ _ h => h) (Or.inl ⟨by rfl, ?_⟩) ?_ ?_
                rotate_left
                · intro w'
                  go_simp
                  with_reducible rfl
                rotate_left
                · simp only [Act.put, List.setIfInBounds_toArray, List.set_cons_zero, List.set_cons_succ, i64_w, i32_w]
                  rfl
                refine pure_ (i := 12) (N := some 29) (v := undef) (a' := ?_) #[true, true, true, true, true, true, true, true, true, true, true, true, true, false, false, false, false, false, false, false, false, false, false, false, false] rfl rfl (any_of HT_.out (by kernel_rfl)) (fun _ _ _ h => h) (Or.inr ⟨by rfl, rfl⟩) ?_ ?_
                rotate_left
                · simp only [Act.put, List.setIfInBounds_toArray, List.set_cons_zero, List.set_cons_succ, i64_w, i32_w]
                  rfl
                refine pure_ (i := 13) (N := some 30) (v := undef) (a' := ?_) #[true, true, true, true, true, true, true, true, true, true, true, true, true, true, false, false, false, false, false, false, false, false, false, false, false] rfl rfl (any_of HT_.out (by kernel_rfl)) (fun _ _ _ h => h) (Or.inr ⟨by rfl, rfl⟩) ?_ ?_
                rotate_left
                · simp only [Act.put, List.setIfInBounds_toArray, List.set_cons_zero, List.set_cons_succ, i64_w, i32_w]
                  rfl
                refine pure_ (i := 14) (N := some 31) (v := undef) (a' := ?_) #[true, true, true, true, true, true, true, true, true, true, true, true, true, true, true, false, false, false, false, false, false, false, false, false, false] rfl rfl (any_of HT_.out (by kernel_rfl)) (fun _ _ _ h => h) (Or.inr ⟨by rfl, rfl⟩) ?_ ?_
                rotate_left
                · simp only [Act.put, List.setIfInBounds_toArray, List.set_cons_zero, List.set_cons_succ, i64_w, i32_w]
                  rfl
                refine pure_ (i := 15) (N := some 32) (v := undef) (a' := ?_) #[true, true, true, true, true, true, true, true, true, true, true, true, true, true, true, true, false, false, false, false, false, false, false, false, false] rfl rfl (any_of HT_.out (by kernel_rfl)) (fun _ _ _ h => h) (Or.inr ⟨by rfl, rfl⟩) ?_ ?_
                rotate_left
                · simp only [Act.put, List.setIfInBounds_toArray, List.set_cons_zero, List.set_cons_succ, i64_w, i32_w]
                  rfl
                refine pure_ (i := 16) (N := some 33) (v := undef) (a' := ?_) #[true, true, true, true, true, true, true, true, true, true, true, true, true, true, true, true, true, false, false, false, false, false, false, false, false] rfl rfl (any_of HT_.out (by kernel_rfl)) (fun _ _ _ h => h) (Or.inr ⟨by rfl, rfl⟩) ?_ ?_
                rotate_left
                · simp only [Act.put, List.setIfInBounds_toArray, List.set_cons_zero, List.set_cons_succ, i64_w, i32_w]
                  rfl
                refine pure_ (i := 17) (N := some 34) (v := undef) (a' := ?_) #[true, true, true, true, true, true, true, true, true, true, true, true, true, true, true, true, true, true, false, false, false, false, false, false, false] rfl rfl (any_of HT_.out (by kernel_rfl)) (fun _ _ _ h => h) (Or.inr ⟨by rfl, rfl⟩) ?_ ?_
                rotate_left
                · simp only [Act.put, List.setIfInBounds_toArray, List.set_cons_zero, List.set_cons_succ, i64_w, i32_w]
                  rfl
                refine pure_ (i := 18) (N := some 35) (v := undef) (a' := ?_) #[true, true, true, true, true, true, true, true, true, true, true, true, true, true, true, true, true, true, true, false, false, false, false, false, false] rfl rfl (any_of HT_.out (by kernel_rfl)) (fun _ _ _ h => h) (Or.inr ⟨by rfl, rfl⟩) ?_ ?_
                rotate_left
                · simp only [Act.put, List.setIfInBounds_toArray, List.set_cons_zero, List.set_cons_succ, i64_w, i32_w]
                  rfl
                refine pure_ (i := 19) (N := some 36) (v := undef) (a' := ?_) #[true, true, true, true, true, true, true, true, true, true, true, true, true, true, true, true, true, true, true, true, false, false, false, false, false] rfl rfl (any_of HT_.out (by kernel_rfl)) (fun _ _ _ h => h) (Or.inr ⟨by rfl, rfl⟩) ?_ ?_
                rotate_left
                · simp only [Act.put, List.setIfInBounds_toArray, List.set_cons_zero, List.set_cons_succ, i64_w, i32_w]
                  rfl
                refine pure_ (i := 20) (N := some 37) (v := undef) (a' := ?_) #[true, true, true, true, true, true, true, true, true, true, true, true, true, true, true, true, true, true, true, true, true, false, false, false, false] rfl rfl (any_of HT_.out (by kernel_rfl)) (fun _ _ _ h => h) (Or.inr ⟨by rfl, rfl⟩) ?_ ?_
                rotate_left
                · simp only [Act.put, List.setIfInBounds_toArray, List.set_cons_zero, List.set_cons_succ, i64_w, i32_w]
                  rfl
                refine pure_ (i := 21) (N := some 38) (v := undef) (a' := ?_) #[true, true, true, true, true, true, true, true, true, true, true, true, true, true, true, true, true, true, true, true, true, true, false, false, false] rfl rfl (any_of HT_.out (by kernel_rfl)) (fun _ _ _ h => h) (Or.inr ⟨by rfl, rfl⟩) ?_ ?_
                rotate_left
                · simp only [Act.put, List.setIfInBounds_toArray, List.set_cons_zero, List.set_cons_succ, i64_w, i32_w]
                  rfl
                refine pure_ (i := 22) (N := some 39) (v := undef) (a' := ?_) #[true, true, true, true, true, true, true, true, true, true, true, true, true, true, true, true, true, true, true, true, true, true, true, false, false] rfl rfl (any_of HT_.out (by kernel_rfl)) (fun _ _ _ h => h) (Or.inr ⟨by rfl, rfl⟩) ?_ ?_
                rotate_left
                · simp only [Act.put, List.setIfInBounds_toArray, List.set_cons_zero, List.set_cons_succ, i64_w, i32_w]
                  rfl
                refine pure_ (i := 23) (N := some 40) (v := undef) (a' := ?_) #[true, true, true, true, true, true, true, true, true, true, true, true, true, true, true, true, true, true, true, true, true, true, true, true, false] rfl rfl (any_of HT_.out (by kernel_rfl)) (fun _ _ _ h => h) (Or.inr ⟨by rfl, rfl⟩) ?_ ?_
                rotate_left
                · simp only [Act.put, List.setIfInBounds_toArray, List.set_cons_zero, List.set_cons_succ, i64_w, i32_w]
                  rfl
                refine pure_ (i := 24) (N := some 41) (v := ?_) (a' := ?_) #[true, true, true, true, true, true, true, true, true, true, true, true, true, true, true, true, true, true, true, true, true, true, true, true, true] rfl rfl (any_of HT_.out (by kernel_rfl)) (fun _ _ _ h => h) (Or.inl ⟨by rfl, ?_⟩) ?_ ?_
                rotate_left
                · intro w'
                  go_simp
                  with_reducible rfl
                rotate_left
                · simp only [Act.put, List.setIfInBounds_toArray, List.set_cons_zero, List.set_cons_succ, i64_w, i32_w]
                  rfl
                refine done_ (done_of HT_.out (by kernel_rfl)) ?_
                try go_wp2
                go_ret
                exact ⟨by first | rfl | (simp [errW_none, errW_some] <;> rfl) | (simp [*, errW_none, errW_some] <;> rfl), by repeat (first | (with_reducible first | exact HB.out | apply below_alloc | apply pw_below_drewN | apply below_drew1) | exact HB.out)⟩
            · rw [if_neg c6] at H
              exact absurd H (by simp)
          · rw [if_neg c5] at H
            exact absurd H (by simp)
        · rw [if_neg c4] at H
          have c4b0 : decide (x5_1 < (l0.length : Int)) = false := decide_eq_false c4
          clear c4
          obtain rfl := Option.some.inj H
          go_wp2
          go_ret
          exact ⟨by first | rfl | (simp [errW_none, errW_some] <;> rfl) | (simp [*, errW_none, errW_some] <;> rfl), by repeat (first | (with_reducible first | exact HB.out | apply below_alloc | apply pw_below_drewN | apply below_drew1) | exact HB.out)⟩
  · rw [if_neg c3] at H
    have c3b0 : ((l0.length : Int) == (l1.length : Int)) = false := beq_eq_false_iff_ne.mpr c3
    have c3b1 : ((l0.length : Int) != (l1.length : Int)) = true := bne_iff_ne.mpr c3
    have c3b2 : (l0.length == l1.length) = false := by first | simpa using c3 | (simp at c3 ⊢; omega)
    obtain rfl := Option.some.inj H
    go_enter Try.func17, Try.ntmps17
    go_wp2
    go_ret
    exact ⟨by first | rfl | (simp [errW_none, errW_some] <;> rfl) | (simp [*, errW_none, errW_some] <;> rfl), by repeat (first | (with_reducible first | exact HB.out | apply below_alloc | apply pw_below_drewN | apply below_drew1) | exact HB.out)⟩
end Go.Proofs.Ytfaiplbogchgjaa.PA
end
section
namespace Go.Proofs.Ytfaiplbogchgjaa.PA
open Go.RowKit Go.Proofs.YtfaiplbogchgjaaW.PrintWords Go.Proofs.YtfaiplbogchgjaaW.PrintLast Go.Proofs.YtfaiplbogchgjaaW.PrintMore
attribute [local go_sem] max2_int min2_int max_two min_two max_three min_three max_four min_four   -- for this text's walks alone
set_option linter.unusedVariables false
set_option linter.unusedSimpArgs false
def phalaroperef09_Canon.l0 : Nat → List (S38) → List (S38) → List ByteArray → Int → Option ((List (S38)))
  | 0, _, _, _, _ => none
  | k + 1, x0, x3, x4, x5 => if x5 < (x4.length : Int) then (if 0 ≤ x5 then ((phalaroperef09_Get.f k x0 (rdOf ByteArray.empty x4 x5)).bind fun bt334 => (if x3.length < 1599289640401 then (phalaroperef09_Canon.l0 k x0 (x3 ++ [(⟨rdOf ByteArray.empty x4 x5, (⟨bt334.1, bt334.2.1, bt334.2.2.1, bt334.2.2.2.1⟩ : S28)⟩ : S38)]) x4 (wrap64 (x5 + 1))) else (none))) else (none)) else (some x3)
def phalaroperef09_Canon.f (k : Nat) (l0 : List (S38)) : Option ((List (S38))) := (phalaroperef09_Names.f k l0).bind fun t330 => (phalaroperef09_Canon.l0 k l0 ([] : List (S38)) t330 0)
def phalaroperef09_Canon.T7 : Bool × List (List Nat × List Nat) := (true, [([], []), ([], []), ([], []), ([1, 2], [1, 2]), ([3], [3]), ([], []), ([4, 5], [4, 5]), ([6], [6]), ([0, 7], [0, 7]), ([8, 8, 0, 1, 2, 3, 4, 5, 6, 7, 8], [0, 8])])
def phalaroperef09_Canon.B7 : List Nat := [0, 0, 0, 6, 14, 0, 62, 126, 255, 511]
theorem phalaroperef09_Canon.tab7 : rtab .any (opsOf Try.f19 7) = phalaroperef09_Canon.T7 := by kernel_rfl
theorem phalaroperef09_Canon.bits7 : waitsOk phalaroperef09_Canon.T7.2 phalaroperef09_Canon.B7 = true := by kernel_rfl
set_option maxHeartbeats 8000000 in
set_option maxRecDepth 100000 in
theorem phalaroperef09_Canon.calls (k : Nat) (A0 : Option Addr) (c0 : Nat) (l0 : List (S38)) (r : List (S38)) (w : World) (hr0 : Kd.C k38 w A0 l0.length l0) (hc0 : l0.length ≤ c0) (h : phalaroperef09_Canon.f k l0 = some r) :
    Calls Try.prog 19 #[.slice A0 l0.length c0] w fun e w' => ∃ v0_ : Value, e = .returned (v0_) ∧ Kd.R k38 38 w' w.heap.size (fun _ => True) v0_ r ∧ Below w.heap.size w w' := by
  have hu28 := Try.underlying28
  have hu38 := Try.underlying38
  have HR0 := Aside0.mk hr0
  have HC0 := Aside0.mk hc0
  clear hr0 hc0
  have HB := Aside0.mk (Below.refl w.heap.size w)
  have H : ((phalaroperef09_Names.f k l0).bind fun t330 => (phalaroperef09_Canon.l0 k l0 ([] : List (S38)) t330 0)) = some r := h
  clear h
  replace H := Option.bind_eq_some_iff.mp H
  obtain ⟨t330, A20, H⟩ := H
  replace H : (phalaroperef09_Canon.l0 k l0 ([] : List (S38)) t330 0) = some r := H
  have A2 := Aside0.mk A20
  clear A20
  have H' := Aside0.mk H
  clear H
  go_enter Try.func19, Try.ntmps19
  go_wp2_with (first | ((with_reducible refine gate_callee (f := 16) rfl ?_); refine goesL_ (some 9) rfl rfl Try.func16 (by kernel_rfl) rfl #[.slice A0 l0.length c0] rfl (by (try simp only [List.map_toArray, List.map_cons, List.map_nil]); first | done | rfl | (simp only [List.length_drop, List.length_take]; rfl)) ?_; (with_reducible refine (phalaroperef09_Names.calls k _ _ l0 t330 _ ?side1 ?side2 A2.out).mono ?_); (case side1 => repeat (first | exact HR0.out | (with_reducible refine Kd.C_alloc ?_ _) | (with_reducible refine Kd.C_drewN ?_ _) | (with_reducible refine Kd.C_drew ?_))); (case side2 => exact HC0.out); rintro e w3 ⟨v331, rfl, ho0, hb⟩; refine ⟨_, rfl, ?_⟩; have n0_ := Aside0.mk (Kd.R_lower ho0 (below_size (by repeat (first | (with_reducible first | exact HB.out | apply below_alloc | apply pw_below_drewN | apply below_drew1) | exact HB.out)))); have n1_ := Aside0.mk (below_step (by repeat (first | (with_reducible first | exact HB.out | apply below_alloc | apply pw_below_drewN | apply below_drew1) | exact HB.out)) hb); clear HB; have HO332 := n0_; have HB := n1_; clear n0_ n1_; (try clear hb); (try clear hb2); (try clear hk); (try clear hi); (try clear ho0)))
  go_loopg [3, 5] k (fun kq v3 v5 w' => ∃ (x3_1 : List (S38)) (x5_1 : Int), v5 = .int .i64 x5_1 ∧ Aside0 (phalaroperef09_Canon.l0 kq l0 x3_1 t330 x5_1 = some r) ∧ Aside0 (kq ≤ k) ∧ Aside0 (Kd.R k38 38 w' w.heap.size (fun k_ => some k_ ≠ (v331 : Value).ownBlock) v3 x3_1) ∧ Aside0 (Kd.R Kd.string 9 w' w.heap.size (fun _ => True) v331 t330) ∧ Aside0 (Below w.heap.size w w'))
  case atStart => exact ⟨(([] : List (S38))), (0), (by first | rfl | (simp; done) | (simp [*]; done)), H', ⟨Nat.le_refl _⟩, ⟨by first | exact Kd.R_nil _ _ _ _ _ | exact Kd.N_nil _ _ _ _ _ | exact Kd.V_nil _ _ _ _ _ | exact Kd.Q_nil _ _ _ _ _ | exact Kd.S_nil _ _ _ _ _⟩, ⟨by (with_reducible repeat (first | apply Kd.R_alloc | apply Kd.R_drewN | apply Kd.R_drew)); exact HO332.out⟩, ⟨by repeat (first | (with_reducible first | exact HB.out | apply below_alloc | apply pw_below_drewN | apply below_drew1) | exact HB.out)⟩⟩
  case round =>
    clear H'
    try clear c1
    try clear p2
    obtain ⟨x3_1, x5_1, rfl, HA, HK1, HO_3, HO_4, HB⟩ := hrel
    cases gk with
    | zero => exact absurd HA.out (by simp [phalaroperef09_Canon.l0])
    | succ k1 =>
      have H := HA.out
      clear HA
      simp only [phalaroperef09_Canon.l0] at H
      by_cases c4 : x5_1 < (t330.length : Int)
      · rw [if_pos c4] at H
        have c4b0 : decide (x5_1 < (t330.length : Int)) = true := decide_eq_true c4
        clear c4
        by_cases c5 : 0 ≤ x5_1
        · rw [if_pos c5] at H
          have c5b0 : decide (0 ≤ x5_1) = true := decide_eq_true c5
          clear c5
          replace H := Option.bind_eq_some_iff.mp H
          obtain ⟨⟨t334, t335, t336, t339, t342⟩, A60, H⟩ := H
          replace H : (if x3_1.length < 1599289640401 then (phalaroperef09_Canon.l0 k1 l0 (x3_1 ++ [(⟨rdOf ByteArray.empty t330 x5_1, (⟨t334, t335, t336, t339⟩ : S28)⟩ : S38)]) t330 (wrap64 (x5_1 + 1))) else (none)) = some r := H
          have A6 := Aside0.mk A60
          clear A60
          by_cases c7 : x3_1.length < 1599289640401
          · rw [if_pos c7] at H
            have LMc7 := Aside0.mk c7
            clear c7
            obtain ⟨y345, hy345⟩ : ∃ y_ : List (S38), y_ = (x3_1 ++ [(⟨rdOf ByteArray.empty t330 x5_1, (⟨t334, t335, t336, t339⟩ : S28)⟩ : S38)]) := ⟨_, rfl⟩
            replace H : (phalaroperef09_Canon.l0 k1 l0 y345 t330 (wrap64 (x5_1 + 1))) = some r := by first | (rw [hy345]; with_reducible exact H) | (have H2_ := (Option.bind_some _ _).symm.trans H; rw [hy345]; with_reducible exact H2_) | (have H2_ := (Option.bind_some _ _).symm.trans H; with_reducible exact H2_) | with_reducible exact H | (rw [hy345]; exact H) | exact H
            have Ny345 := Aside0.mk hy345
            clear hy345
            have H' := Aside0.mk H
            clear H
            obtain ⟨Ao8, co8, eo8⟩ := Kd.R_slice HO_4.out
            subst eo8
            have p333 : 0 ≤ (x5_1 : Int) := of_decide_eq_true (by first | (with_reducible assumption) | assumption)
            have q333 : x5_1 < (t330.length : Int) := of_decide_eq_true (by first | (with_reducible assumption) | assumption)
            obtain ⟨ad333, e333, hx333_0⟩ := Kd.at_string (Kd.R_reads' HO_4.out).2.2 x5_1 p333 q333
            cases e333
            replace p333 := eq_true p333
            replace q333 := eq_true q333
            try go_wp2_with (first | ((with_reducible refine gate_callee (f := 12) rfl ?_); refine goesL_ (some 22) rfl rfl Try.func12 (by kernel_rfl) rfl #[.slice A0 l0.length c0, .string (rdOf ByteArray.empty t330 x5_1)] rfl (by (try simp only [List.map_toArray, List.map_cons, List.map_nil]); first | done | rfl | (simp only [List.length_drop, List.length_take]; rfl)) ?_; (with_reducible refine (phalaroperef09_Get.calls k1 _ _ l0 (rdOf ByteArray.empty t330 x5_1) t334 t335 t336 t339 t342 _ ?side1 ?side2 A6.out).mono ?_); (case side1 => repeat (first | exact (Kd.C_below HR0.out HB.out) | (with_reducible refine Kd.C_alloc ?_ _) | (with_reducible refine Kd.C_drewN ?_ _) | (with_reducible refine Kd.C_drew ?_))); (case side2 => exact HC0.out); rintro e w9 ⟨v337, v340, rfl, ho0, ho1, hb⟩; refine ⟨_, rfl, ?_⟩; have n0_ := Aside0.mk (Kd.R_mono (Kd.R_told (Kd.R_told (Kd.R_old (by (with_reducible repeat (first | apply Kd.R_alloc | apply Kd.R_drewN | apply Kd.R_drew)); exact HO_3.out) hb) (Kd.R_base ho0)) (Kd.R_base ho1)) (fun _ h_ => h_.1)); have n1_ := Aside0.mk (Kd.R_elder' (by (with_reducible repeat (first | apply Kd.R_alloc | apply Kd.R_drewN | apply Kd.R_drew)); exact HO_4.out) (Kd.R_base ho0) hb); have n2_ := Aside0.mk (Kd.R_lower (Kd.R_new' ho0 (Kd.R_lt (by (with_reducible repeat (first | apply Kd.R_alloc | apply Kd.R_drewN | apply Kd.R_drew)); exact HO_4.out))) (below_size (by repeat (first | (with_reducible first | exact HB.out | apply below_alloc | apply pw_below_drewN | apply below_drew1) | exact HB.out)))); have n3_ := Aside0.mk (Kd.R_lower ho1 (below_size (by repeat (first | (with_reducible first | exact HB.out | apply below_alloc | apply pw_below_drewN | apply below_drew1) | exact HB.out)))); have n4_ := Aside0.mk (below_step (by repeat (first | (with_reducible first | exact HB.out | apply below_alloc | apply pw_below_drewN | apply below_drew1) | exact HB.out)) hb); clear HO_3; clear HO_4; clear HB; have HO_3 := n0_; have HO_4 := n1_; have HO338 := n2_; have HO341 := n3_; have HB := n4_; clear n0_ n1_ n2_ n3_ n4_; (try clear hb); (try clear hb2); (try clear hk); (try clear hi); (try clear ho0); (try clear ho1)) | ((with_reducible refine gate_dst (N := 6) rfl ?_); refine box_event ?hg (N := 6) ?hd (cs := #[.int .i64 0, .string (⟨#[]⟩ : ByteArray), .slice none 0 0, .slice none 0 0]) (t := 28) ?hr ?_; (case hd => rfl); (case hg => rfl); (case hr => first | (go_simp; done) | (go_simp; rfl)); intro gb343 hg w10 hbox hb; have n0_ := Aside0.mk (Kd.R_below (by (with_reducible repeat (first | apply Kd.R_alloc | apply Kd.R_drewN | apply Kd.R_drew)); exact HO_3.out) hb); have n1_ := Aside0.mk (Kd.R_below (by (with_reducible repeat (first | apply Kd.R_alloc | apply Kd.R_drewN | apply Kd.R_drew)); exact HO_4.out) hb); have n2_ := Aside0.mk (Kd.R_below (by (with_reducible repeat (first | apply Kd.R_alloc | apply Kd.R_drewN | apply Kd.R_drew)); exact HO338.out) hb); have n3_ := Aside0.mk (Kd.R_below (by (with_reducible repeat (first | apply Kd.R_alloc | apply Kd.R_drewN | apply Kd.R_drew)); exact HO341.out) hb); have n4_ := Aside0.mk (below_step (by repeat (first | (with_reducible first | exact HB.out | apply below_alloc | apply pw_below_drewN | apply below_drew1) | exact HB.out)) hb); have n5_ := Aside0.mk (hbox); have n6_ := Aside0.mk ((by rw [hg]; exact (below_size (by repeat (first | (with_reducible first | exact HB.out | apply below_alloc | apply pw_below_drewN | apply below_drew1) | exact HB.out))) : w.heap.size ≤ gb343)); have n7_ := Aside0.mk ((by rw [hg]; exact (below_size (by repeat (first | (with_reducible first | exact HB.out | apply below_alloc | apply pw_below_drewN | apply below_drew1) | exact HB.out))) : w.heap.size ≤ gb343)); clear HO_3; clear HO_4; clear HO338; clear HO341; clear HB; have HO_3 := n0_; have HO_4 := n1_; have HO338 := n2_; have HO341 := n3_; have HB := n4_; have BK343 := n5_; have GW343 := n6_; have GE343 := n7_; clear n0_ n1_ n2_ n3_ n4_ n5_ n6_ n7_; clear hb hbox hg; have hcz11_0 : w10.cell? ⟨gb343, 0, none⟩ = some (.int .i64 0) := (blk_cell BK343.out 0).trans rfl; have hcz11_1 : w10.cell? ⟨gb343, 1, none⟩ = some (.string (⟨#[]⟩ : ByteArray)) := (blk_cell BK343.out 1).trans rfl; have hcz11_2 : w10.cell? ⟨gb343, 2, none⟩ = some (.slice none 0 0) := (blk_cell BK343.out 2).trans rfl; have hcz11_3 : w10.cell? ⟨gb343, 3, none⟩ = some (.slice none 0 0) := (blk_cell BK343.out 3).trans rfl; have hfz11_0 := blk_frozen BK343.out 0; have hfz11_1 := blk_frozen BK343.out 1; have hfz11_2 := blk_frozen BK343.out 2; have hfz11_3 := blk_frozen BK343.out 3; obtain ⟨Ao12, co12, eo12⟩ := Kd.R_slice HO338.out; subst eo12; obtain ⟨Ao13, co13, eo13⟩ := Kd.R_slice HO341.out; subst eo13))
            have n0_ : Aside0 (Kd.R k38 38 ((((w10.setCell ⟨gb343, 0, none⟩ (.int .i64 t334)).setCell ⟨gb343, 1, none⟩ (.string t335)).setCell ⟨gb343, 2, none⟩ (.slice Ao12 t336.length co12)).setCell ⟨gb343, 3, none⟩ (.slice Ao13 t339.length co13)) w.heap.size (fun k_ => some k_ ≠ (.slice (some ad333) t330.length co8 : Value).ownBlock ∧ some k_ ≠ (.slice Ao12 t336.length co12 : Value).ownBlock ∧ some k_ ≠ (.slice Ao13 t339.length co13 : Value).ownBlock) u3 x3_1) := ⟨by (with_reducible repeat (first | apply Kd.R_alloc | apply Kd.R_drewN | apply Kd.R_drew)); exact Kd.R_mono (Kd.R_far (p := ⟨gb343, 3, none⟩) (Kd.R_far (p := ⟨gb343, 2, none⟩) (Kd.R_far (p := ⟨gb343, 1, none⟩) (Kd.R_far (p := ⟨gb343, 0, none⟩) (Kd.R_types HO_3.out BK343.out (by decide)) (fun _ hk => hk.2) (.int .i64 t334)) (fun _ hk => hk.2) (.string t335)) (fun _ hk => hk.2) (.slice Ao12 t336.length co12)) (fun _ hk => hk.2) (.slice Ao13 t339.length co13)) (fun _ hk => ⟨hk.1.1.1, ⟨hk.1.1.2, hk.1.2⟩⟩)⟩
            have n1_ : Aside0 (Kd.R Kd.string 9 ((((w10.setCell ⟨gb343, 0, none⟩ (.int .i64 t334)).setCell ⟨gb343, 1, none⟩ (.string t335)).setCell ⟨gb343, 2, none⟩ (.slice Ao12 t336.length co12)).setCell ⟨gb343, 3, none⟩ (.slice Ao13 t339.length co13)) w.heap.size (fun k_ => some k_ ≠ (.slice Ao12 t336.length co12 : Value).ownBlock) (.slice (some ad333) t330.length co8) t330) := ⟨by (with_reducible repeat (first | apply Kd.R_alloc | apply Kd.R_drewN | apply Kd.R_drew)); exact Kd.R_mono (Kd.R_far (p := ⟨gb343, 3, none⟩) (Kd.R_far (p := ⟨gb343, 2, none⟩) (Kd.R_far (p := ⟨gb343, 1, none⟩) (Kd.R_far (p := ⟨gb343, 0, none⟩) (Kd.R_types HO_4.out BK343.out (by decide)) (fun _ hk => hk.2) (.int .i64 t334)) (fun _ hk => hk.2) (.string t335)) (fun _ hk => hk.2) (.slice Ao12 t336.length co12)) (fun _ hk => hk.2) (.slice Ao13 t339.length co13)) (fun _ hk => hk.1.2)⟩
            have n2_ : Aside0 (Kd.R Kd.string 9 ((((w10.setCell ⟨gb343, 0, none⟩ (.int .i64 t334)).setCell ⟨gb343, 1, none⟩ (.string t335)).setCell ⟨gb343, 2, none⟩ (.slice Ao12 t336.length co12)).setCell ⟨gb343, 3, none⟩ (.slice Ao13 t339.length co13)) w.heap.size (fun k_ => some k_ ≠ (.slice (some ad333) t330.length co8 : Value).ownBlock) (.slice Ao12 t336.length co12) t336) := ⟨by (with_reducible repeat (first | apply Kd.R_alloc | apply Kd.R_drewN | apply Kd.R_drew)); exact Kd.R_mono (Kd.R_far (p := ⟨gb343, 3, none⟩) (Kd.R_far (p := ⟨gb343, 2, none⟩) (Kd.R_far (p := ⟨gb343, 1, none⟩) (Kd.R_far (p := ⟨gb343, 0, none⟩) (Kd.R_types HO338.out BK343.out (by decide)) (fun _ hk => hk.2) (.int .i64 t334)) (fun _ hk => hk.2) (.string t335)) (fun _ hk => hk.2) (.slice Ao12 t336.length co12)) (fun _ hk => hk.2) (.slice Ao13 t339.length co13)) (fun _ hk => hk.1.2)⟩
            have n3_ : Aside0 (Kd.R k50 50 ((((w10.setCell ⟨gb343, 0, none⟩ (.int .i64 t334)).setCell ⟨gb343, 1, none⟩ (.string t335)).setCell ⟨gb343, 2, none⟩ (.slice Ao12 t336.length co12)).setCell ⟨gb343, 3, none⟩ (.slice Ao13 t339.length co13)) w.heap.size (fun _ => True) (.slice Ao13 t339.length co13) t339) := ⟨by (with_reducible repeat (first | apply Kd.R_alloc | apply Kd.R_drewN | apply Kd.R_drew)); exact Kd.R_mono (Kd.R_far (p := ⟨gb343, 3, none⟩) (Kd.R_far (p := ⟨gb343, 2, none⟩) (Kd.R_far (p := ⟨gb343, 1, none⟩) (Kd.R_far (p := ⟨gb343, 0, none⟩) (Kd.R_types HO341.out BK343.out (by decide)) (fun _ hk => hk.2) (.int .i64 t334)) (fun _ hk => hk.2) (.string t335)) (fun _ hk => hk.2) (.slice Ao12 t336.length co12)) (fun _ hk => hk.2) (.slice Ao13 t339.length co13)) (fun _ hk => trivial)⟩
            have n4_ : Aside0 (((((w10.setCell ⟨gb343, 0, none⟩ (.int .i64 t334)).setCell ⟨gb343, 1, none⟩ (.string t335)).setCell ⟨gb343, 2, none⟩ (.slice Ao12 t336.length co12)).setCell ⟨gb343, 3, none⟩ (.slice Ao13 t339.length co13)).heap[gb343]? = some (.cells #[.int .i64 t334, .string t335, .slice Ao12 t336.length co12, .slice Ao13 t339.length co13] 28 (0, 0))) := ⟨by (with_reducible repeat (first | refine blk_drewN ?_ _ | refine blk_drew ?_ | refine blk_alloc ?_ _)); refine blk_put (cs := #[.int .i64 t334, .string t335, .slice Ao12 t336.length co12, .slice none 0 0]) ?_ 3 _ rfl; (with_reducible repeat (first | refine blk_drewN ?_ _ | refine blk_drew ?_ | refine blk_alloc ?_ _)); refine blk_put (cs := #[.int .i64 t334, .string t335, .slice none 0 0, .slice none 0 0]) ?_ 2 _ rfl; (with_reducible repeat (first | refine blk_drewN ?_ _ | refine blk_drew ?_ | refine blk_alloc ?_ _)); refine blk_put (cs := #[.int .i64 t334, .string (⟨#[]⟩ : ByteArray), .slice none 0 0, .slice none 0 0]) ?_ 1 _ rfl; (with_reducible repeat (first | refine blk_drewN ?_ _ | refine blk_drew ?_ | refine blk_alloc ?_ _)); refine blk_put (cs := #[.int .i64 0, .string (⟨#[]⟩ : ByteArray), .slice none 0 0, .slice none 0 0]) ?_ 0 _ rfl; (with_reducible repeat (first | refine blk_drewN ?_ _ | refine blk_drew ?_ | refine blk_alloc ?_ _)); exact BK343.out⟩
            have n5_ : Aside0 (Below w.heap.size w ((((w10.setCell ⟨gb343, 0, none⟩ (.int .i64 t334)).setCell ⟨gb343, 1, none⟩ (.string t335)).setCell ⟨gb343, 2, none⟩ (.slice Ao12 t336.length co12)).setCell ⟨gb343, 3, none⟩ (.slice Ao13 t339.length co13))) := ⟨by repeat (first | (with_reducible first | exact HB.out | apply below_alloc | apply pw_below_drewN | apply below_drew1 | refine below_set ?_ GE343.out) | exact HB.out)⟩
            (try clear HO_3)
            (try clear HO_4)
            (try clear HO338)
            (try clear HO341)
            (try clear BK343)
            (try clear HB)
            generalize ((((w10.setCell ⟨gb343, 0, none⟩ (.int .i64 t334)).setCell ⟨gb343, 1, none⟩ (.string t335)).setCell ⟨gb343, 2, none⟩ (.slice Ao12 t336.length co12)).setCell ⟨gb343, 3, none⟩ (.slice Ao13 t339.length co13)) = w14 at n0_ n1_ n2_ n3_ n4_ n5_ ⊢
            have HO_3 := n0_
            have HO_4 := n1_
            have HO338 := n2_
            have HO341 := n3_
            have BK343 := n4_
            have HB := n5_
            clear n0_ n1_ n2_ n3_ n4_ n5_
            have n0_ := Aside0.mk (Kd.R_drew HO_3.out)
            have n1_ := Aside0.mk (Kd.R_drew HO_4.out)
            have n2_ := Aside0.mk (Kd.R_drew HO338.out)
            have n3_ := Aside0.mk (Kd.R_drew HO341.out)
            have n4_ := Aside0.mk (blk_drew BK343.out)
            have n5_ := Aside0.mk (below_drew1 HB.out)
            clear HO_3
            clear HO_4
            clear HO338
            clear HO341
            clear BK343
            clear HB
            have HO_3 := n0_
            have HO_4 := n1_
            have HO338 := n2_
            have HO341 := n3_
            have BK343 := n4_
            have HB := n5_
            clear n0_ n1_ n2_ n3_ n4_ n5_
            have p344 : 0 ≤ (x5_1 : Int) := of_decide_eq_true (by first | (with_reducible assumption) | assumption)
            have q344 : x5_1 < (t330.length : Int) := of_decide_eq_true (by first | (with_reducible assumption) | assumption)
            obtain ⟨ad344, e344, hx344_0⟩ := Kd.at_string (Kd.R_reads' HO_4.out).2.2 x5_1 p344 q344
            obtain rfl : ad333 = ad344 := (by injection e344)
            replace p344 := eq_true p344
            replace q344 := eq_true q344
            refine start_ (n := 10) (S := fun w' => w'.cell? ⟨gb343, 0, none⟩ = some (.int .i64 t334) ∧ w'.cell? ⟨gb343, 1, none⟩ = some (.string t335) ∧ w'.cell? ⟨gb343, 2, none⟩ = some (.slice Ao12 t336.length co12) ∧ w'.cell? ⟨gb343, 3, none⟩ = some (.slice Ao13 t339.length co13) ∧ w'.cell? (ad333.add (x5_1).toNat) = some (.string (rdOf ByteArray.empty t330 x5_1))) (ds := [7, 8]) #[false, false, false, false, false, false, false, false, false, false] (by kernel_rfl) rfl rfl ⟨(blk_cell BK343.out 0).trans rfl, (blk_cell BK343.out 1).trans rfl, (blk_cell BK343.out 2).trans rfl, (blk_cell BK343.out 3).trans rfl, hx344_0⟩ (fun hHeld => ?_); refine with_tabW phalaroperef09_Canon.tab7 phalaroperef09_Canon.bits7 (fun HT_ HW_ => ?_)
            generalize w14.drew = w15 at HO_3 HO_4 HO338 HO341 BK343 HB hx344_0 hHeld ⊢
            refine pure_ (i := 0) (N := some 25) (v := ?_) (a' := ?_) #[true, false, false, false, false, false, false, false, false, false] rfl rfl (any_of HT_.out (by kernel_rfl)) (fun _ _ _ h => h) (Or.inl ⟨by rfl, ?_⟩) ?_ ?_
            rotate_left
            · intro w'
              go_simp
              with_reducible rfl
            rotate_left
            · simp only [Act.put, List.setIfInBounds_toArray, List.set_cons_zero, List.set_cons_succ, i64_w, i32_w]
              rfl
            refine pure_ (i := 1) (N := some 26) (v := ?_) (a' := ?_) #[true, true, false, false, false, false, false, false, false, false] rfl rfl (any_of HT_.out (by kernel_rfl)) (fun _ _ _ h => h) (Or.inl ⟨by rfl, ?_⟩) ?_ ?_
            rotate_left
            · intro w'
              go_simp
              with_reducible rfl
            rotate_left
            · simp only [Act.put, List.setIfInBounds_toArray, List.set_cons_zero, List.set_cons_succ, i64_w, i32_w]
              rfl
            refine pure_ (i := 2) (N := some 27) (v := ?_) (a' := ?_) #[true, true, true, false, false, false, false, false, false, false] rfl rfl (any_of HT_.out (by kernel_rfl)) (fun _ _ _ h => h) (Or.inl ⟨by rfl, ?_⟩) ?_ ?_
            rotate_left
            · intro w'
              go_simp
              with_reducible rfl
            rotate_left
            · simp only [Act.put, List.setIfInBounds_toArray, List.set_cons_zero, List.set_cons_succ, i64_w, i32_w]
              rfl
            refine pure_ (i := 3) (N := some 28) (v := ?_) (a' := ?_) #[true, true, true, true, false, false, false, false, false, false] rfl rfl (any_of HT_.out (by kernel_rfl)) (fun _ _ _ h => h) (Or.inl ⟨by rfl, ?_⟩) ?_ ?_
            rotate_left
            · intro w'
              go_simp
              with_reducible rfl
            rotate_left
            · simp only [Act.put, List.setIfInBounds_toArray, List.set_cons_zero, List.set_cons_succ, i64_w, i32_w]
              rfl
            refine take_ (i := 4) (N := some 29) (v := ?_) (a' := ?_) #[true, true, true, true, true, false, false, false, false, false] rfl rfl (take_ofW HT_.out HW_.out (by kernel_rfl)) (fun _ _ _ h => h) (Or.inl ⟨by rfl, ?_⟩) hHeld ?_ ?_
            rotate_left
            · rintro w' ⟨s0, s1, s2, s3, s4⟩
              go_simp
              with_reducible rfl
            rotate_left
            · simp only [Act.put, List.setIfInBounds_toArray, List.set_cons_zero, List.set_cons_succ, i64_w, i32_w]
              rfl
            refine take_ (i := 5) (N := some 30) (v := ?_) (a' := ?_) #[true, true, true, true, true, true, false, false, false, false] rfl rfl (take_ofW HT_.out HW_.out (by kernel_rfl)) (fun _ _ _ h => h) (Or.inl ⟨by rfl, ?_⟩) hHeld ?_ ?_
            rotate_left
            · rintro w' ⟨s0, s1, s2, s3, s4⟩
              go_simp
              with_reducible rfl
            rotate_left
            · simp only [Act.put, List.setIfInBounds_toArray, List.set_cons_zero, List.set_cons_succ, i64_w, i32_w]
              rfl
            refine pure_ (i := 6) (N := some 31) (v := ?_) (a' := ?_) #[true, true, true, true, true, true, true, false, false, false] rfl rfl (any_of HT_.out (by kernel_rfl)) (fun _ _ _ h => h) (Or.inl ⟨by rfl, ?_⟩) ?_ ?_
            rotate_left
            · intro w'
              go_simp
              with_reducible rfl
            rotate_left
            · simp only [Act.put, List.setIfInBounds_toArray, List.set_cons_zero, List.set_cons_succ, i64_w, i32_w]
              rfl
            refine last_ (i := 7) (N := some 32) #[true, true, true, true, true, true, true, true, false, false] rfl rfl (one_of HT_.out (by kernel_rfl)) (by decide) (fun K hK => ?_)
            refine value_ (w1 := ?_) (v := ?_) (by rfl) rfl ?_ ?_
            rotate_left 2
            · go_simp
              constructor
              · rfl
              · rfl
            refine hK.out _ _ ?_
            clear hK K
            refine norm_ (a' := ?_) ?_ ?_
            rotate_left
            · show Act.put _ (some 32) _ = _
              simp only [Act.put, List.setIfInBounds_toArray, List.set_cons_zero, List.set_cons_succ, i64_w, i32_w]
              rfl
            refine last_ (i := 8) (N := some 33) #[true, true, true, true, true, true, true, true, true, false] rfl rfl (one_of HT_.out (by kernel_rfl)) (by decide) (fun K hK => ?_)
            refine Kd.R_append_step k38 (w0 := w) w.heap.size (by rfl) (.tmp 25) (.tmp 32) 22 38 (.agg #[(.string ⟨#[]⟩), (.int .i64 0), (.string ⟨#[]⟩), (.slice none 0 0), (.slice none 0 0)]) 88 rfl Try.underlying22 info38 rfl (by decide) (by omega) u3 x3_1 (⟨rdOf ByteArray.empty t330 x5_1, (⟨t334, t335, t336, t339⟩ : S28)⟩ : S38) [.string (rdOf ByteArray.empty t330 x5_1), .int .i64 t334, .string t335, .slice Ao12 t336.length co12, .slice Ao13 t339.length co13] (fun k_ => some k_ ≠ (.slice (some ad333) t330.length co8 : Value).ownBlock) (fun k_ => ((fun k_ => some k_ ≠ (.slice (some ad333) t330.length co8 : Value).ownBlock)) k_ ∧ some k_ ≠ (u3 : Value).ownBlock) rfl rfl ?aP (fun _ hk => hk) ?aF ?aO ?aB ?aS ?aL ?_
            (case aP => exact k38_mkM _ _ _ (⟨rdOf ByteArray.empty t330 x5_1, (⟨t334, t335, t336, t339⟩ : S28)⟩ : S38) (Kd.R_mono (Kd.R_apart' (HO338.out) (Kd.R_typed HO_3.out) (by decide)) (fun k_ hk => ⟨hk.1, hk.2⟩)) (Kd.R_mono (Kd.R_apart' (Kd.R_apart' (HO341.out) (Kd.R_typed HO_4.out) (by decide)) (Kd.R_typed HO_3.out) (by decide)) (fun k_ hk => ⟨hk.1.2, hk.2⟩)))
            (case aB => exact (by repeat (first | (with_reducible first | exact HB.out | apply below_alloc | apply pw_below_drewN | apply below_drew1 | refine below_set ?_ GE343.out) | exact HB.out)))
            (case aF => exact (fun k_ hk => Kd.fresh' (Kd.R_lt (by (with_reducible repeat (first | apply Kd.R_alloc | apply Kd.R_drewN | apply Kd.R_drew)); exact HO_4.out)) k_ hk))
            (case aO => exact (by (with_reducible repeat (first | apply Kd.R_alloc | apply Kd.R_drewN | apply Kd.R_drew)); exact Kd.R_mono HO_3.out (fun _ hk => hk.1)))
            (case aS => exact (below_size (by repeat (first | (with_reducible first | exact HB.out | apply below_alloc | apply pw_below_drewN | apply below_drew1 | refine below_set ?_ GE343.out) | exact HB.out))))
            (case aL => have := LMc7.out; omega)
            intro v346 w16 ho hb hg hat
            rw [← Ny345.out] at ho
            have n0_ := Aside0.mk (Kd.R_over' (by (with_reducible repeat (first | apply Kd.R_alloc | apply Kd.R_drewN | apply Kd.R_drew)); exact HO_4.out) (Kd.R_typed (by (with_reducible repeat (first | apply Kd.R_alloc | apply Kd.R_drewN | apply Kd.R_drew)); exact HO_3.out)) (by decide) hg)
            have n1_ := Aside0.mk (blk_grown (g := gb343) (o := .cells #[.int .i64 t334, .string t335, .slice Ao12 t336.length co12, .slice Ao13 t339.length co13] 28 (0, 0)) (by (with_reducible repeat (first | refine blk_drewN ?_ _ | refine blk_drew ?_ | refine blk_alloc ?_ _)); exact BK343.out) hg (Kd.R_ne HO_3.out BK343.out (by decide)))
            have n2_ := Aside0.mk (hb)
            have n3_ := Aside0.mk (ho)
            clear HO_4
            clear BK343
            clear HB
            clear HO_3
            clear HO338
            clear HO341
            have HO_4 := n0_
            have BK343 := n1_
            have HB := n2_
            have HO347 := n3_
            clear n0_ n1_ n2_ n3_
            clear ho hb hg hat
            refine hK.out _ _ ?_
            clear hK K
            refine norm_ (a' := ?_) ?_ ?_
            rotate_left
            · show Act.put _ (some 33) _ = _
              simp only [Act.put, List.setIfInBounds_toArray, List.set_cons_zero, List.set_cons_succ, i64_w, i32_w]
              rfl
            refine pure_ (i := 9) (N := some 3) (v := ?_) (a' := ?_) #[true, true, true, true, true, true, true, true, true, true] rfl rfl (any_of HT_.out (by kernel_rfl)) (fun _ _ _ h => h) (Or.inl ⟨by rfl, ?_⟩) ?_ ?_
            rotate_left
            · intro w'
              go_simp
              with_reducible rfl
            rotate_left
            · simp only [Act.put, List.setIfInBounds_toArray, List.set_cons_zero, List.set_cons_succ, i64_w, i32_w]
              rfl
            refine done_ (done_of HT_.out (by kernel_rfl)) ?_
            try go_wp2
            go_roundg k1
            case measure => have := HK1.out; omega
            case rel => exact ⟨(y345), (wrap64 (x5_1 + 1)), (by first | rfl | (simp; done) | (simp [*]; done)), H', ⟨by have := HK1.out; omega⟩, ⟨by (with_reducible repeat (first | apply Kd.R_alloc | apply Kd.R_drewN | apply Kd.R_drew)); exact HO347.out⟩, ⟨by (with_reducible repeat (first | apply Kd.R_alloc | apply Kd.R_drewN | apply Kd.R_drew)); exact Kd.R_mono HO_4.out (fun _ hk => trivial)⟩, ⟨by repeat (first | (with_reducible first | exact HB.out | apply below_alloc | apply pw_below_drewN | apply below_drew1 | refine below_set ?_ GE343.out) | exact HB.out)⟩⟩
          · rw [if_neg c7] at H
            exact absurd H (by simp)
        · rw [if_neg c5] at H
          exact absurd H (by simp)
      · rw [if_neg c4] at H
        have c4b0 : decide (x5_1 < (t330.length : Int)) = false := decide_eq_false c4
        clear c4
        obtain rfl := Option.some.inj H
        obtain ⟨Ao17, co17, eo17⟩ := Kd.R_slice HO_4.out
        subst eo17
        go_wp2
        go_ret
        exact ⟨_, by first | rfl | (simp [errW_none, errW_some] <;> rfl) | (simp [*, errW_none, errW_some] <;> rfl), by (with_reducible repeat (first | apply Kd.R_alloc | apply Kd.R_drewN | apply Kd.R_drew)); exact Kd.R_mono HO_3.out (fun _ hk => trivial), by repeat (first | (with_reducible first | exact HB.out | apply below_alloc | apply pw_below_drewN | apply below_drew1) | exact HB.out)⟩
end Go.Proofs.Ytfaiplbogchgjaa.PA
end
section
namespace Go.Proofs.Ytfaiplbogchgjaa.PA
open Go.RowKit Go.Proofs.YtfaiplbogchgjaaW.PrintWords Go.Proofs.YtfaiplbogchgjaaW.PrintLast Go.Proofs.YtfaiplbogchgjaaW.PrintMore
attribute [local go_sem] max2_int min2_int max_two min_two max_three min_three max_four min_four   -- for this text's walks alone
set_option linter.unusedVariables false
set_option linter.unusedSimpArgs false
end Go.Proofs.Ytfaiplbogchgjaa.PA
end
