/- Texts of this claim, those that nothing needs left out: PEx3 PEx4. -/
import Derived.Test.YtbjeegkmafbejaaErG4
section
namespace Go.Proofs.Ytbjeegkmafbejaa.PE
open Go.RowKit Go.Proofs.YtbjeegkmafbejaaW.PrintWords Go.Proofs.YtbjeegkmafbejaaW.PrintLast Go.Proofs.YtbjeegkmafbejaaW.PrintMore
attribute [local go_sem] max2_int min2_int max_two min_two max_three min_three max_four min_four   -- for this text's walks alone
set_option linter.unusedVariables false
set_option linter.unusedSimpArgs false
mutual
def phalaroperef08_Few.l0 : Nat → Int → Int → ByteArray → List ByteArray → List (S69) → Option (Bool)
  | 0, _, _, _, _, _ => none
  | k + 1, x3, x131000, x131001, x131002, x131003 => if x3 < (x131002.length : Int) then (phalaroperef08_Few.j1 k x3 (decide (x3 < 31)) x131000 x131001 x131002 x131003) else (phalaroperef08_Few.j1 k x3 false x131000 x131001 x131002 x131003)
def phalaroperef08_Few.j1 : Nat → Int → Bool → Int → ByteArray → List ByteArray → List (S69) → Option (Bool)
  | 0, _, _, _, _, _, _ => none
  | k + 1, x3, x13, x131000, x131001, x131002, x131003 => if x13 = true then (if 0 ≤ x3 then (if x3 < (x131002.length : Int) then (if ((rdOf ByteArray.empty x131002 x3).size : Int) > 200 then (some false) else (phalaroperef08_Few.l0 k (wrap64 (x3 + 1)) x131000 x131001 x131002 x131003)) else (none)) else (none)) else (phalaroperef08_Few.l1 k 0 x131000 x131001 x131002 x131003)
def phalaroperef08_Few.l1 : Nat → Int → Int → ByteArray → List ByteArray → List (S69) → Option (Bool)
  | 0, _, _, _, _, _ => none
  | k + 1, x4, x131000, x131001, x131002, x131003 => if x4 < (x131003.length : Int) then (phalaroperef08_Few.j3 k x4 (decide (x4 < 31)) x131000 x131001 x131002 x131003) else (phalaroperef08_Few.j3 k x4 false x131000 x131001 x131002 x131003)
def phalaroperef08_Few.j3 : Nat → Int → Bool → Int → ByteArray → List ByteArray → List (S69) → Option (Bool)
  | 0, _, _, _, _, _, _ => none
  | k + 1, x4, x31, x131000, x131001, x131002, x131003 => if x31 = true then (if 0 ≤ x4 then (if x4 < (x131003.length : Int) then (if (((rd_T69 x131003 x4).f0).size : Int) > 200 then (some false) else (if (((rd_T69 x131003 x4).f1).size : Int) > 200 then (some false) else (phalaroperef08_Few.l1 k (wrap64 (x4 + 1)) x131000 x131001 x131002 x131003))) else (none)) else (none)) else (if (x131001.size : Int) ≤ 200 then (if (x131002.length : Int) ≤ 30 then (some (decide ((x131003.length : Int) ≤ 30))) else (some false)) else (some false))
end
def phalaroperef08_Few.f (k : Nat) (a0_0 : Int) (a0_1 : ByteArray) (l0_2 : List ByteArray) (l0_3 : List (S69)) : Option (Bool) := phalaroperef08_Few.l0 k 0 a0_0 a0_1 l0_2 l0_3
theorem phalaroperef08_Few.mono_l : ∀ k, (∀ y0 y1 y2 y3 y4, LeO (phalaroperef08_Few.l0 k y0 y1 y2 y3 y4) (phalaroperef08_Few.l0 (k + 1) y0 y1 y2 y3 y4)) ∧ (∀ y0 y1 y2 y3 y4 y5, LeO (phalaroperef08_Few.j1 k y0 y1 y2 y3 y4 y5) (phalaroperef08_Few.j1 (k + 1) y0 y1 y2 y3 y4 y5)) ∧ (∀ y0 y1 y2 y3 y4, LeO (phalaroperef08_Few.l1 k y0 y1 y2 y3 y4) (phalaroperef08_Few.l1 (k + 1) y0 y1 y2 y3 y4)) ∧ (∀ y0 y1 y2 y3 y4 y5, LeO (phalaroperef08_Few.j3 k y0 y1 y2 y3 y4 y5) (phalaroperef08_Few.j3 (k + 1) y0 y1 y2 y3 y4 y5))
  | 0 => ⟨fun _ _ _ _ _ r h => by simp [phalaroperef08_Few.l0] at h, fun _ _ _ _ _ _ r h => by simp [phalaroperef08_Few.j1] at h, fun _ _ _ _ _ r h => by simp [phalaroperef08_Few.l1] at h, fun _ _ _ _ _ _ r h => by simp [phalaroperef08_Few.j3] at h⟩
  | k + 1 => by
    obtain ⟨ih0, ih1, ih2, ih3⟩ := phalaroperef08_Few.mono_l k
    refine ⟨?_, ?_, ?_, ?_⟩
    · intro y0 y1 y2 y3 y4
      unfold phalaroperef08_Few.l0
      repeat' first
      | (with_reducible exact ih0 _ _ _ _ _)
      | (with_reducible exact ih1 _ _ _ _ _ _)
      | (with_reducible exact ih2 _ _ _ _ _)
      | (with_reducible exact ih3 _ _ _ _ _ _)
      | (with_reducible exact LeO.refl _)
      | (with_reducible exact LeO.none _)
      | (with_reducible refine LeO.ite ?_ ?_)
      | (with_reducible refine LeO.bind ?_ (fun _ => ?_))
      | exact ih0 _ _ _ _ _
      | exact ih1 _ _ _ _ _ _
      | exact ih2 _ _ _ _ _
      | exact ih3 _ _ _ _ _ _
      | exact LeO.none _
      | refine LeO.ite ?_ ?_
      | refine LeO.bind ?_ (fun _ => ?_)
    · intro y0 y1 y2 y3 y4 y5
      unfold phalaroperef08_Few.j1
      repeat' first
      | (with_reducible exact ih0 _ _ _ _ _)
      | (with_reducible exact ih1 _ _ _ _ _ _)
      | (with_reducible exact ih2 _ _ _ _ _)
      | (with_reducible exact ih3 _ _ _ _ _ _)
      | (with_reducible exact LeO.refl _)
      | (with_reducible exact LeO.none _)
      | (with_reducible refine LeO.ite ?_ ?_)
      | (with_reducible refine LeO.bind ?_ (fun _ => ?_))
      | exact ih0 _ _ _ _ _
      | exact ih1 _ _ _ _ _ _
      | exact ih2 _ _ _ _ _
      | exact ih3 _ _ _ _ _ _
      | exact LeO.none _
      | refine LeO.ite ?_ ?_
      | refine LeO.bind ?_ (fun _ => ?_)
    · intro y0 y1 y2 y3 y4
      unfold phalaroperef08_Few.l1
      repeat' first
      | (with_reducible exact ih0 _ _ _ _ _)
      | (with_reducible exact ih1 _ _ _ _ _ _)
      | (with_reducible exact ih2 _ _ _ _ _)
      | (with_reducible exact ih3 _ _ _ _ _ _)
      | (with_reducible exact LeO.refl _)
      | (with_reducible exact LeO.none _)
      | (with_reducible refine LeO.ite ?_ ?_)
      | (with_reducible refine LeO.bind ?_ (fun _ => ?_))
      | exact ih0 _ _ _ _ _
      | exact ih1 _ _ _ _ _ _
      | exact ih2 _ _ _ _ _
      | exact ih3 _ _ _ _ _ _
      | exact LeO.none _
      | refine LeO.ite ?_ ?_
      | refine LeO.bind ?_ (fun _ => ?_)
    · intro y0 y1 y2 y3 y4 y5
      unfold phalaroperef08_Few.j3
      repeat' first
      | (with_reducible exact ih0 _ _ _ _ _)
      | (with_reducible exact ih1 _ _ _ _ _ _)
      | (with_reducible exact ih2 _ _ _ _ _)
      | (with_reducible exact ih3 _ _ _ _ _ _)
      | (with_reducible exact LeO.refl _)
      | (with_reducible exact LeO.none _)
      | (with_reducible refine LeO.ite ?_ ?_)
      | (with_reducible refine LeO.bind ?_ (fun _ => ?_))
      | exact ih0 _ _ _ _ _
      | exact ih1 _ _ _ _ _ _
      | exact ih2 _ _ _ _ _
      | exact ih3 _ _ _ _ _ _
      | exact LeO.none _
      | refine LeO.ite ?_ ?_
      | refine LeO.bind ?_ (fun _ => ?_)
theorem phalaroperef08_Few.mono : ∀ a0 a1 a2 a3 k, LeO (phalaroperef08_Few.f k a0 a1 a2 a3) (phalaroperef08_Few.f (k + 1) a0 a1 a2 a3) := by
  intro a0 a1 a2 a3 k
  obtain ⟨ih0, ih1, ih2, ih3⟩ := phalaroperef08_Few.mono_l k
  unfold phalaroperef08_Few.f
  repeat' first
      | (with_reducible exact ih0 _ _ _ _ _)
      | (with_reducible exact ih1 _ _ _ _ _ _)
      | (with_reducible exact ih2 _ _ _ _ _)
      | (with_reducible exact ih3 _ _ _ _ _ _)
      | (with_reducible exact LeO.refl _)
      | (with_reducible exact LeO.none _)
      | (with_reducible refine LeO.ite ?_ ?_)
      | (with_reducible refine LeO.bind ?_ (fun _ => ?_))
      | exact ih0 _ _ _ _ _
      | exact ih1 _ _ _ _ _ _
      | exact ih2 _ _ _ _ _
      | exact ih3 _ _ _ _ _ _
      | exact LeO.none _
      | refine LeO.ite ?_ ?_
      | refine LeO.bind ?_ (fun _ => ?_)
set_option maxHeartbeats 8000000 in
set_option maxRecDepth 100000 in
theorem phalaroperef08_Few.calls (k : Nat) (a0_0 : Int) (a0_1 : ByteArray) (A0_2 : Option Addr) (c0_2 : Nat) (l0_2 : List ByteArray) (A0_3 : Option Addr) (c0_3 : Nat) (l0_3 : List (S69)) (r : Bool) (w : World) (hr0_2 : Kd.C Kd.string w A0_2 l0_2.length l0_2) (hc0_2 : l0_2.length ≤ c0_2) (hr0_3 : Kd.C k69 w A0_3 l0_3.length l0_3) (hc0_3 : l0_3.length ≤ c0_3) (h : phalaroperef08_Few.f k a0_0 a0_1 l0_2 l0_3 = some r) :
    Calls Try.prog 21 #[.agg #[.int .i64 a0_0, .string a0_1, .slice A0_2 l0_2.length c0_2, .slice A0_3 l0_3.length c0_3]] w fun e w' => e = .returned (.bool r) ∧ Below w.heap.size w w' := by
  have hu27 := Try.underlying27
  have HR0_2 := Aside0.mk hr0_2
  have HC0_2 := Aside0.mk hc0_2
  clear hr0_2 hc0_2
  have HR0_3 := Aside0.mk hr0_3
  have HC0_3 := Aside0.mk hc0_3
  clear hr0_3 hc0_3
  have HB := Aside0.mk (Below.refl w.heap.size w)
  have H : (phalaroperef08_Few.l0 k 0 a0_0 a0_1 l0_2 l0_3) = some r := h
  clear h
  have H' := Aside0.mk H
  clear H
  go_enter Try.func21, Try.ntmps21
  go_wp2_with (first | ((with_reducible refine gate_dst (N := 1) rfl ?_); (try (refine gate_guard (by rfl) ?_; dsimp only)); refine box_event ?hg (N := 1) ?hd (cs := #[.int .i64 a0_0, .string a0_1, .slice A0_2 l0_2.length c0_2, .slice A0_3 l0_3.length c0_3]) (t := 27) ?hr ?_; (case hd => rfl); (case hg => rfl); (case hr => first | (go_simp; done) | (go_simp; rfl)); intro gb130 hg w2 hbox hb; have n0_ := Aside0.mk (below_step (by repeat (first | (with_reducible first | exact HB.out | apply below_alloc | apply pw_below_drewN | apply below_drew1) | exact HB.out)) hb); have n1_ := Aside0.mk (hbox); have n2_ := Aside0.mk ((by rw [hg]; exact (below_size (by repeat (first | (with_reducible first | exact HB.out | apply below_alloc | apply pw_below_drewN | apply below_drew1) | exact HB.out))) : w.heap.size ≤ gb130)); have n3_ := Aside0.mk ((by rw [hg]; exact (below_size (by repeat (first | (with_reducible first | exact HB.out | apply below_alloc | apply pw_below_drewN | apply below_drew1) | exact HB.out))) : w.heap.size ≤ gb130)); clear HB; have HB := n0_; have BK130 := n1_; have GW130 := n2_; have GE130 := n3_; clear n0_ n1_ n2_ n3_; clear hb hbox hg))
  go_loopg [3] k (fun kq v3 w' => ∃ (x3_1 : Int), v3 = .int .i64 x3_1 ∧ Aside0 (phalaroperef08_Few.l0 kq x3_1 a0_0 a0_1 l0_2 l0_3 = some r) ∧ Aside0 (kq ≤ k) ∧ Aside0 (w'.heap[gb130]? = some (.cells #[.int .i64 a0_0, .string a0_1, (.slice A0_2 l0_2.length c0_2), (.slice A0_3 l0_3.length c0_3)] 27 (0, 0))) ∧ Aside0 (Below w.heap.size w w'))
  case atStart => exact ⟨(0), (by first | rfl | (simp; done) | (simp [*]; done)), H', ⟨Nat.le_refl _⟩, ⟨by (with_reducible repeat (first | refine blk_drewN ?_ _ | refine blk_drew ?_ | refine blk_alloc ?_ _)); exact BK130.out⟩, ⟨by repeat (first | (with_reducible first | exact HB.out | apply below_alloc | apply pw_below_drewN | apply below_drew1 | refine below_set ?_ GE130.out) | exact HB.out)⟩⟩
  case round =>
    clear H'
    try clear c2
    try clear p2
    obtain ⟨x3_1, rfl, HA, HK1, BK130, HB⟩ := hrel
    cases gk with
    | zero => exact absurd HA.out (by simp [phalaroperef08_Few.l0])
    | succ k1 =>
      have H := HA.out
      clear HA
      simp only [phalaroperef08_Few.l0] at H
      have HC3 := Aside0.mk H
      clear H
      go_upto_region 2 with (fail)
      go_cut [13] (fun v13 wc => ∃ (kq : Nat) (x13_2 : Bool), v13 = .bool x13_2 ∧ Aside0 (phalaroperef08_Few.j1 kq x3_1 x13_2 a0_0 a0_1 l0_2 l0_3 = some r) ∧ Aside0 (kq ≤ k1) ∧ Aside0 (wc.heap[gb130]? = some (.cells #[.int .i64 a0_0, .string a0_1, (.slice A0_2 l0_2.length c0_2), (.slice A0_3 l0_3.length c0_3)] 27 (0, 0))) ∧ Aside0 (Below w.heap.size w wc))
      case first =>
        have H := HC3.out
        clear HC3
        by_cases c4 : x3_1 < (l0_2.length : Int)
        · rw [if_pos c4] at H
          have c4b0 : decide (x3_1 < (l0_2.length : Int)) = true := decide_eq_true c4
          clear c4
          (first | rw [c4b0] | (simp only [i64_w, i32_w]; rw [c4b0]) | skip)
          have H' := Aside0.mk H
          clear H
          have hcz5_0 : wr.cell? ⟨gb130, 0, none⟩ = some (.int .i64 a0_0) := (blk_cell BK130.out 0).trans rfl
          have hcz5_1 : wr.cell? ⟨gb130, 1, none⟩ = some (.string a0_1) := (blk_cell BK130.out 1).trans rfl
          have hcz5_2 : wr.cell? ⟨gb130, 2, none⟩ = some (.slice A0_2 l0_2.length c0_2) := (blk_cell BK130.out 2).trans rfl
          have hcz5_3 : wr.cell? ⟨gb130, 3, none⟩ = some (.slice A0_3 l0_3.length c0_3) := (blk_cell BK130.out 3).trans rfl
          have hfz5_0 := blk_frozen BK130.out 0
          have hfz5_1 := blk_frozen BK130.out 1
          have hfz5_2 := blk_frozen BK130.out 2
          have hfz5_3 := blk_frozen BK130.out 3
          go_wp2
          go_meet
          case rel => exact ⟨_, (decide (x3_1 < 31)), (by first | rfl | (simp; done) | (simp [*]; done)), H', ⟨by have := HK1.out; first | omega | exact Nat.le_refl _⟩, ⟨by (with_reducible repeat (first | refine blk_drewN ?_ _ | refine blk_drew ?_ | refine blk_alloc ?_ _)); exact BK130.out⟩, ⟨by repeat (first | (with_reducible first | exact HB.out | apply below_alloc | apply pw_below_drewN | apply below_drew1 | refine below_set ?_ GE130.out) | exact HB.out)⟩⟩
        · rw [if_neg c4] at H
          have c4b0 : decide (x3_1 < (l0_2.length : Int)) = false := decide_eq_false c4
          clear c4
          (first | rw [c4b0] | (simp only [i64_w, i32_w]; rw [c4b0]) | skip)
          have H' := Aside0.mk H
          clear H
          have hcz6_0 : wr.cell? ⟨gb130, 0, none⟩ = some (.int .i64 a0_0) := (blk_cell BK130.out 0).trans rfl
          have hcz6_1 : wr.cell? ⟨gb130, 1, none⟩ = some (.string a0_1) := (blk_cell BK130.out 1).trans rfl
          have hcz6_2 : wr.cell? ⟨gb130, 2, none⟩ = some (.slice A0_2 l0_2.length c0_2) := (blk_cell BK130.out 2).trans rfl
          have hcz6_3 : wr.cell? ⟨gb130, 3, none⟩ = some (.slice A0_3 l0_3.length c0_3) := (blk_cell BK130.out 3).trans rfl
          have hfz6_0 := blk_frozen BK130.out 0
          have hfz6_1 := blk_frozen BK130.out 1
          have hfz6_2 := blk_frozen BK130.out 2
          have hfz6_3 := blk_frozen BK130.out 3
          go_wp2
          go_meet
          case rel => exact ⟨_, (false), (by first | rfl | (simp; done) | (simp [*]; done)), H', ⟨by have := HK1.out; first | omega | exact Nat.le_refl _⟩, ⟨by (with_reducible repeat (first | refine blk_drewN ?_ _ | refine blk_drew ?_ | refine blk_alloc ?_ _)); exact BK130.out⟩, ⟨by repeat (first | (with_reducible first | exact HB.out | apply below_alloc | apply pw_below_drewN | apply below_drew1 | refine below_set ?_ GE130.out) | exact HB.out)⟩⟩
      case rest =>
        clear HC3
        try clear c2
        try clear p2
        try clear c4
        try clear c4b0
        try clear hcz5_0
        try clear hcz5_1
        try clear hcz5_2
        try clear hcz5_3
        try clear hcz6_0
        try clear hcz6_1
        try clear hcz6_2
        try clear hcz6_3
        try clear hfz5_0
        try clear hfz5_1
        try clear hfz5_2
        try clear hfz5_3
        try clear hfz6_0
        try clear hfz6_1
        try clear hfz6_2
        try clear hfz6_3
        try clear p2
        obtain ⟨kq, x13_2, rfl, HA, HJ2, BK130, HB⟩ := hcut
        cases kq with
        | zero => exact absurd HA.out (by simp [phalaroperef08_Few.j1])
        | succ kj2 =>
          have H := HA.out
          clear HA
          simp only [phalaroperef08_Few.j1] at H
          by_cases c7 : x13_2 = true
          · subst c7
            have H1 : (if 0 ≤ x3_1 then (if x3_1 < (l0_2.length : Int) then (if ((rdOf ByteArray.empty l0_2 x3_1).size : Int) > 200 then (some false) else (phalaroperef08_Few.l0 kj2 (wrap64 (x3_1 + 1)) a0_0 a0_1 l0_2 l0_3)) else (none)) else (none)) = some r := by rw [if_pos rfl] at H; exact H
            clear H
            have H := H1
            clear H1
            by_cases c8 : 0 ≤ x3_1
            · rw [if_pos c8] at H
              have c8b0 : decide (0 ≤ x3_1) = true := decide_eq_true c8
              clear c8
              by_cases c9 : x3_1 < (l0_2.length : Int)
              · rw [if_pos c9] at H
                have c9b0 : decide (x3_1 < (l0_2.length : Int)) = true := decide_eq_true c9
                clear c9
                by_cases c10 : ((rdOf ByteArray.empty l0_2 x3_1).size : Int) > 200
                · rw [if_pos c10] at H
                  have c10b0 : decide (200 < ((rdOf ByteArray.empty l0_2 x3_1).size : Int)) = true := decide_eq_true c10
                  have c10b1 : decide (200 < (rdOf ByteArray.empty l0_2 x3_1).size) = true := decide_eq_true (by omega)
                  clear c10
                  obtain rfl := Option.some.inj H
                  have hcz11_0 : wc.cell? ⟨gb130, 0, none⟩ = some (.int .i64 a0_0) := (blk_cell BK130.out 0).trans rfl
                  have hcz11_1 : wc.cell? ⟨gb130, 1, none⟩ = some (.string a0_1) := (blk_cell BK130.out 1).trans rfl
                  have hcz11_2 : wc.cell? ⟨gb130, 2, none⟩ = some (.slice A0_2 l0_2.length c0_2) := (blk_cell BK130.out 2).trans rfl
                  have hcz11_3 : wc.cell? ⟨gb130, 3, none⟩ = some (.slice A0_3 l0_3.length c0_3) := (blk_cell BK130.out 3).trans rfl
                  have hfz11_0 := blk_frozen BK130.out 0
                  have hfz11_1 := blk_frozen BK130.out 1
                  have hfz11_2 := blk_frozen BK130.out 2
                  have hfz11_3 := blk_frozen BK130.out 3
                  have p131 : 0 ≤ (x3_1 : Int) := of_decide_eq_true (by first | (with_reducible assumption) | assumption)
                  have q131 : x3_1 < (l0_2.length : Int) := of_decide_eq_true (by first | (with_reducible assumption) | assumption)
                  obtain ⟨ad131, e131, hx131_0⟩ := Kd.at_string HR0_2.out x3_1 p131 q131
                  cases e131
                  replace hx131_0 := (HB.out.cell (World.block_lt_of_cell? w _ hx131_0)).trans hx131_0
                  replace p131 := eq_true p131
                  replace q131 := eq_true q131
                  go_wp2
                  go_ret
                  exact ⟨by first | rfl | (simp [errW_none, errW_some] <;> rfl) | (simp [*, errW_none, errW_some] <;> rfl), by repeat (first | (with_reducible first | exact HB.out | apply below_alloc | apply pw_below_drewN | apply below_drew1 | refine below_set ?_ GE130.out) | exact HB.out)⟩
                · rw [if_neg c10] at H
                  have c10b0 : decide (200 < ((rdOf ByteArray.empty l0_2 x3_1).size : Int)) = false := decide_eq_false c10
                  have c10b1 : decide (200 < (rdOf ByteArray.empty l0_2 x3_1).size) = false := decide_eq_false (by omega)
                  clear c10
                  have H' := Aside0.mk H
                  clear H
                  have hcz12_0 : wc.cell? ⟨gb130, 0, none⟩ = some (.int .i64 a0_0) := (blk_cell BK130.out 0).trans rfl
                  have hcz12_1 : wc.cell? ⟨gb130, 1, none⟩ = some (.string a0_1) := (blk_cell BK130.out 1).trans rfl
                  have hcz12_2 : wc.cell? ⟨gb130, 2, none⟩ = some (.slice A0_2 l0_2.length c0_2) := (blk_cell BK130.out 2).trans rfl
                  have hcz12_3 : wc.cell? ⟨gb130, 3, none⟩ = some (.slice A0_3 l0_3.length c0_3) := (blk_cell BK130.out 3).trans rfl
                  have hfz12_0 := blk_frozen BK130.out 0
                  have hfz12_1 := blk_frozen BK130.out 1
                  have hfz12_2 := blk_frozen BK130.out 2
                  have hfz12_3 := blk_frozen BK130.out 3
                  have p131 : 0 ≤ (x3_1 : Int) := of_decide_eq_true (by first | (with_reducible assumption) | assumption)
                  have q131 : x3_1 < (l0_2.length : Int) := of_decide_eq_true (by first | (with_reducible assumption) | assumption)
                  obtain ⟨ad131, e131, hx131_0⟩ := Kd.at_string HR0_2.out x3_1 p131 q131
                  cases e131
                  replace hx131_0 := (HB.out.cell (World.block_lt_of_cell? w _ hx131_0)).trans hx131_0
                  replace p131 := eq_true p131
                  replace q131 := eq_true q131
                  go_wp2
                  go_roundg kj2
                  case measure => have := HK1.out; have := HJ2.out; omega
                  case rel => exact ⟨(wrap64 (x3_1 + 1)), (by first | rfl | (simp; done) | (simp [*]; done)), H', ⟨by have := HK1.out; have := HJ2.out; omega⟩, ⟨by (with_reducible repeat (first | refine blk_drewN ?_ _ | refine blk_drew ?_ | refine blk_alloc ?_ _)); exact BK130.out⟩, ⟨by repeat (first | (with_reducible first | exact HB.out | apply below_alloc | apply pw_below_drewN | apply below_drew1 | refine below_set ?_ GE130.out) | exact HB.out)⟩⟩
              · rw [if_neg c9] at H
                exact absurd H (by simp)
            · rw [if_neg c8] at H
              exact absurd H (by simp)
          · replace c7 := Bool.eq_false_iff.mpr c7
            subst c7
            have H1 : (phalaroperef08_Few.l1 kj2 0 a0_0 a0_1 l0_2 l0_3) = some r := by rw [if_neg (show ¬ (false = true) by decide)] at H; exact H
            clear H
            have H := H1
            clear H1
            have H' := Aside0.mk H
            clear H
            go_wp2
            go_loopg [4] kj2 (fun kq v4 w' => ∃ (x4_3 : Int), v4 = .int .i64 x4_3 ∧ Aside0 (phalaroperef08_Few.l1 kq x4_3 a0_0 a0_1 l0_2 l0_3 = some r) ∧ Aside0 (kq ≤ kj2) ∧ Aside0 (w'.heap[gb130]? = some (.cells #[.int .i64 a0_0, .string a0_1, (.slice A0_2 l0_2.length c0_2), (.slice A0_3 l0_3.length c0_3)] 27 (0, 0))) ∧ Aside0 (Below w.heap.size w w'))
            case atStart => exact ⟨(0), (by first | rfl | (simp; done) | (simp [*]; done)), H', ⟨Nat.le_refl _⟩, ⟨by (with_reducible repeat (first | refine blk_drewN ?_ _ | refine blk_drew ?_ | refine blk_alloc ?_ _)); exact BK130.out⟩, ⟨by repeat (first | (with_reducible first | exact HB.out | apply below_alloc | apply pw_below_drewN | apply below_drew1 | refine below_set ?_ GE130.out) | exact HB.out)⟩⟩
            case round =>
              clear H'
              try clear c1
              try clear p1
              try clear q1
              try clear hx1
              try clear c2
              try clear p2
              try clear c4
              try clear c4b0
              try clear p6
              try clear c7
              try clear c8
              try clear c8b0
              try clear c9
              try clear c9b0
              try clear c10
              try clear c10b0
              try clear c10b1
              try clear hcz11_0
              try clear hcz11_1
              try clear hcz11_2
              try clear hcz11_3
              try clear hcz12_0
              try clear hcz12_1
              try clear hcz12_2
              try clear hcz12_3
              try clear hcz5_0
              try clear hcz5_1
              try clear hcz5_2
              try clear hcz5_3
              try clear hcz6_0
              try clear hcz6_1
              try clear hcz6_2
              try clear hcz6_3
              try clear hfz11_0
              try clear hfz11_1
              try clear hfz11_2
              try clear hfz11_3
              try clear hfz12_0
              try clear hfz12_1
              try clear hfz12_2
              try clear hfz12_3
              try clear hfz5_0
              try clear hfz5_1
              try clear hfz5_2
              try clear hfz5_3
              try clear hfz6_0
              try clear hfz6_1
              try clear hfz6_2
              try clear hfz6_3
              try clear hx131_0
              try clear p131
              try clear p2
              try clear q131
              obtain ⟨x4_3, rfl, HA, HK3, BK130, HB⟩ := hrel
              cases gk with
              | zero => exact absurd HA.out (by simp [phalaroperef08_Few.l1])
              | succ k3 =>
                have H := HA.out
                clear HA
                simp only [phalaroperef08_Few.l1] at H
                have HC13 := Aside0.mk H
                clear H
                go_upto_region 7 with (fail)
                go_cut [31] (fun v31 wc => ∃ (kq : Nat) (x31_12 : Bool), v31 = .bool x31_12 ∧ Aside0 (phalaroperef08_Few.j3 kq x4_3 x31_12 a0_0 a0_1 l0_2 l0_3 = some r) ∧ Aside0 (kq ≤ k3) ∧ Aside0 (wc.heap[gb130]? = some (.cells #[.int .i64 a0_0, .string a0_1, (.slice A0_2 l0_2.length c0_2), (.slice A0_3 l0_3.length c0_3)] 27 (0, 0))) ∧ Aside0 (Below w.heap.size w wc))
                case first =>
                  have H := HC13.out
                  clear HC13
                  by_cases c14 : x4_3 < (l0_3.length : Int)
                  · rw [if_pos c14] at H
                    have c14b0 : decide (x4_3 < (l0_3.length : Int)) = true := decide_eq_true c14
                    clear c14
                    (first | rw [c14b0] | (simp only [i64_w, i32_w]; rw [c14b0]) | skip)
                    have H' := Aside0.mk H
                    clear H
                    have hcz15_0 : wr.cell? ⟨gb130, 0, none⟩ = some (.int .i64 a0_0) := (blk_cell BK130.out 0).trans rfl
                    have hcz15_1 : wr.cell? ⟨gb130, 1, none⟩ = some (.string a0_1) := (blk_cell BK130.out 1).trans rfl
                    have hcz15_2 : wr.cell? ⟨gb130, 2, none⟩ = some (.slice A0_2 l0_2.length c0_2) := (blk_cell BK130.out 2).trans rfl
                    have hcz15_3 : wr.cell? ⟨gb130, 3, none⟩ = some (.slice A0_3 l0_3.length c0_3) := (blk_cell BK130.out 3).trans rfl
                    have hfz15_0 := blk_frozen BK130.out 0
                    have hfz15_1 := blk_frozen BK130.out 1
                    have hfz15_2 := blk_frozen BK130.out 2
                    have hfz15_3 := blk_frozen BK130.out 3
                    go_wp2
                    go_meet
                    case rel => exact ⟨_, (decide (x4_3 < 31)), (by first | rfl | (simp; done) | (simp [*]; done)), H', ⟨by have := HK1.out; have := HJ2.out; have := HK3.out; first | omega | exact Nat.le_refl _⟩, ⟨by (with_reducible repeat (first | refine blk_drewN ?_ _ | refine blk_drew ?_ | refine blk_alloc ?_ _)); exact BK130.out⟩, ⟨by repeat (first | (with_reducible first | exact HB.out | apply below_alloc | apply pw_below_drewN | apply below_drew1 | refine below_set ?_ GE130.out) | exact HB.out)⟩⟩
                  · rw [if_neg c14] at H
                    have c14b0 : decide (x4_3 < (l0_3.length : Int)) = false := decide_eq_false c14
                    clear c14
                    (first | rw [c14b0] | (simp only [i64_w, i32_w]; rw [c14b0]) | skip)
                    have H' := Aside0.mk H
                    clear H
                    have hcz16_0 : wr.cell? ⟨gb130, 0, none⟩ = some (.int .i64 a0_0) := (blk_cell BK130.out 0).trans rfl
                    have hcz16_1 : wr.cell? ⟨gb130, 1, none⟩ = some (.string a0_1) := (blk_cell BK130.out 1).trans rfl
                    have hcz16_2 : wr.cell? ⟨gb130, 2, none⟩ = some (.slice A0_2 l0_2.length c0_2) := (blk_cell BK130.out 2).trans rfl
                    have hcz16_3 : wr.cell? ⟨gb130, 3, none⟩ = some (.slice A0_3 l0_3.length c0_3) := (blk_cell BK130.out 3).trans rfl
                    have hfz16_0 := blk_frozen BK130.out 0
                    have hfz16_1 := blk_frozen BK130.out 1
                    have hfz16_2 := blk_frozen BK130.out 2
                    have hfz16_3 := blk_frozen BK130.out 3
                    go_wp2
                    go_meet
                    case rel => exact ⟨_, (false), (by first | rfl | (simp; done) | (simp [*]; done)), H', ⟨by have := HK1.out; have := HJ2.out; have := HK3.out; first | omega | exact Nat.le_refl _⟩, ⟨by (with_reducible repeat (first | refine blk_drewN ?_ _ | refine blk_drew ?_ | refine blk_alloc ?_ _)); exact BK130.out⟩, ⟨by repeat (first | (with_reducible first | exact HB.out | apply below_alloc | apply pw_below_drewN | apply below_drew1 | refine below_set ?_ GE130.out) | exact HB.out)⟩⟩
                case rest =>
                  clear HC13
                  try clear c1
                  try clear p1
                  try clear q1
                  try clear hx1
                  try clear c2
                  try clear p2
                  try clear c4
                  try clear c4b0
                  try clear p6
                  try clear c7
                  try clear c8
                  try clear c8b0
                  try clear c9
                  try clear c9b0
                  try clear c10
                  try clear c10b0
                  try clear c10b1
                  try clear p13
                  try clear q13
                  try clear hx13
                  try clear c14
                  try clear c14b0
                  try clear hcz11_0
                  try clear hcz11_1
                  try clear hcz11_2
                  try clear hcz11_3
                  try clear hcz12_0
                  try clear hcz12_1
                  try clear hcz12_2
                  try clear hcz12_3
                  try clear hcz15_0
                  try clear hcz15_1
                  try clear hcz15_2
                  try clear hcz15_3
                  try clear hcz16_0
                  try clear hcz16_1
                  try clear hcz16_2
                  try clear hcz16_3
                  try clear hcz5_0
                  try clear hcz5_1
                  try clear hcz5_2
                  try clear hcz5_3
                  try clear hcz6_0
                  try clear hcz6_1
                  try clear hcz6_2
                  try clear hcz6_3
                  try clear hfz11_0
                  try clear hfz11_1
                  try clear hfz11_2
                  try clear hfz11_3
                  try clear hfz12_0
                  try clear hfz12_1
                  try clear hfz12_2
                  try clear hfz12_3
                  try clear hfz15_0
                  try clear hfz15_1
                  try clear hfz15_2
                  try clear hfz15_3
                  try clear hfz16_0
                  try clear hfz16_1
                  try clear hfz16_2
                  try clear hfz16_3
                  try clear hfz5_0
                  try clear hfz5_1
                  try clear hfz5_2
                  try clear hfz5_3
                  try clear hfz6_0
                  try clear hfz6_1
                  try clear hfz6_2
                  try clear hfz6_3
                  try clear hx131_0
                  try clear p1
                  try clear p131
                  try clear p2
                  try clear p6
                  try clear q1
                  try clear q131
                  obtain ⟨kq, x31_12, rfl, HA, HJ12, BK130, HB⟩ := hcut
                  cases kq with
                  | zero => exact absurd HA.out (by simp [phalaroperef08_Few.j3])
                  | succ kj12 =>
                    have H := HA.out
                    clear HA
                    simp only [phalaroperef08_Few.j3] at H
                    by_cases c17 : x31_12 = true
                    · subst c17
                      have H1 : (if 0 ≤ x4_3 then (if x4_3 < (l0_3.length : Int) then (if (((rd_T69 l0_3 x4_3).f0).size : Int) > 200 then (some false) else (if (((rd_T69 l0_3 x4_3).f1).size : Int) > 200 then (some false) else (phalaroperef08_Few.l1 kj12 (wrap64 (x4_3 + 1)) a0_0 a0_1 l0_2 l0_3))) else (none)) else (none)) = some r := by rw [if_pos rfl] at H; exact H
                      clear H
                      have H := H1
                      clear H1
                      by_cases c18 : 0 ≤ x4_3
                      · rw [if_pos c18] at H
                        have c18b0 : decide (0 ≤ x4_3) = true := decide_eq_true c18
                        clear c18
                        by_cases c19 : x4_3 < (l0_3.length : Int)
                        · rw [if_pos c19] at H
                          have c19b0 : decide (x4_3 < (l0_3.length : Int)) = true := decide_eq_true c19
                          clear c19
                          by_cases c20 : (((rd_T69 l0_3 x4_3).f0).size : Int) > 200
                          · rw [if_pos c20] at H
                            have c20b0 : decide (200 < (((rd_T69 l0_3 x4_3).f0).size : Int)) = true := decide_eq_true c20
                            have c20b1 : decide (200 < ((rd_T69 l0_3 x4_3).f0).size) = true := decide_eq_true (by omega)
                            clear c20
                            obtain rfl := Option.some.inj H
                            have hcz21_0 : wc.cell? ⟨gb130, 0, none⟩ = some (.int .i64 a0_0) := (blk_cell BK130.out 0).trans rfl
                            have hcz21_1 : wc.cell? ⟨gb130, 1, none⟩ = some (.string a0_1) := (blk_cell BK130.out 1).trans rfl
                            have hcz21_2 : wc.cell? ⟨gb130, 2, none⟩ = some (.slice A0_2 l0_2.length c0_2) := (blk_cell BK130.out 2).trans rfl
                            have hcz21_3 : wc.cell? ⟨gb130, 3, none⟩ = some (.slice A0_3 l0_3.length c0_3) := (blk_cell BK130.out 3).trans rfl
                            have hfz21_0 := blk_frozen BK130.out 0
                            have hfz21_1 := blk_frozen BK130.out 1
                            have hfz21_2 := blk_frozen BK130.out 2
                            have hfz21_3 := blk_frozen BK130.out 3
                            have p132 : 0 ≤ (x4_3 : Int) := of_decide_eq_true (by first | (with_reducible assumption) | assumption)
                            have q132 : x4_3 < (l0_3.length : Int) := of_decide_eq_true (by first | (with_reducible assumption) | assumption)
                            obtain ⟨ad132, e132, hx132_0, hx132_1⟩ := at_T69 HR0_3.out x4_3 p132 q132
                            cases e132
                            replace hx132_0 := (HB.out.cell (World.block_lt_of_cell? w _ hx132_0)).trans hx132_0
                            replace hx132_1 := (HB.out.cell (World.block_lt_of_cell? w _ hx132_1)).trans hx132_1
                            replace p132 := eq_true p132
                            replace q132 := eq_true q132
                            go_wp2
                            go_ret
                            exact ⟨by first | rfl | (simp [errW_none, errW_some] <;> rfl) | (simp [*, errW_none, errW_some] <;> rfl), by repeat (first | (with_reducible first | exact HB.out | apply below_alloc | apply pw_below_drewN | apply below_drew1 | refine below_set ?_ GE130.out) | exact HB.out)⟩
                          · rw [if_neg c20] at H
                            have c20b0 : decide (200 < (((rd_T69 l0_3 x4_3).f0).size : Int)) = false := decide_eq_false c20
                            have c20b1 : decide (200 < ((rd_T69 l0_3 x4_3).f0).size) = false := decide_eq_false (by omega)
                            clear c20
                            by_cases c22 : (((rd_T69 l0_3 x4_3).f1).size : Int) > 200
                            · rw [if_pos c22] at H
                              have c22b0 : decide (200 < (((rd_T69 l0_3 x4_3).f1).size : Int)) = true := decide_eq_true c22
                              have c22b1 : decide (200 < ((rd_T69 l0_3 x4_3).f1).size) = true := decide_eq_true (by omega)
                              clear c22
                              obtain rfl := Option.some.inj H
                              have hcz23_0 : wc.cell? ⟨gb130, 0, none⟩ = some (.int .i64 a0_0) := (blk_cell BK130.out 0).trans rfl
                              have hcz23_1 : wc.cell? ⟨gb130, 1, none⟩ = some (.string a0_1) := (blk_cell BK130.out 1).trans rfl
                              have hcz23_2 : wc.cell? ⟨gb130, 2, none⟩ = some (.slice A0_2 l0_2.length c0_2) := (blk_cell BK130.out 2).trans rfl
                              have hcz23_3 : wc.cell? ⟨gb130, 3, none⟩ = some (.slice A0_3 l0_3.length c0_3) := (blk_cell BK130.out 3).trans rfl
                              have hfz23_0 := blk_frozen BK130.out 0
                              have hfz23_1 := blk_frozen BK130.out 1
                              have hfz23_2 := blk_frozen BK130.out 2
                              have hfz23_3 := blk_frozen BK130.out 3
                              have p132 : 0 ≤ (x4_3 : Int) := of_decide_eq_true (by first | (with_reducible assumption) | assumption)
                              have q132 : x4_3 < (l0_3.length : Int) := of_decide_eq_true (by first | (with_reducible assumption) | assumption)
                              obtain ⟨ad132, e132, hx132_0, hx132_1⟩ := at_T69 HR0_3.out x4_3 p132 q132
                              cases e132
                              replace hx132_0 := (HB.out.cell (World.block_lt_of_cell? w _ hx132_0)).trans hx132_0
                              replace hx132_1 := (HB.out.cell (World.block_lt_of_cell? w _ hx132_1)).trans hx132_1
                              replace p132 := eq_true p132
                              replace q132 := eq_true q132
                              have p133 : 0 ≤ (x4_3 : Int) := of_decide_eq_true (by first | (with_reducible assumption) | assumption)
                              have q133 : x4_3 < (l0_3.length : Int) := of_decide_eq_true (by first | (with_reducible assumption) | assumption)
                              obtain ⟨ad133, e133, hx133_0, hx133_1⟩ := at_T69 HR0_3.out x4_3 p133 q133
                              obtain rfl : ad132 = ad133 := (by injection e133)
                              replace hx133_0 := (HB.out.cell (World.block_lt_of_cell? w _ hx133_0)).trans hx133_0
                              replace hx133_1 := (HB.out.cell (World.block_lt_of_cell? w _ hx133_1)).trans hx133_1
                              replace p133 := eq_true p133
                              replace q133 := eq_true q133
                              go_wp2
                              go_ret
                              exact ⟨by first | rfl | (simp [errW_none, errW_some] <;> rfl) | (simp [*, errW_none, errW_some] <;> rfl), by repeat (first | (with_reducible first | exact HB.out | apply below_alloc | apply pw_below_drewN | apply below_drew1 | refine below_set ?_ GE130.out) | exact HB.out)⟩
                            · rw [if_neg c22] at H
                              have c22b0 : decide (200 < (((rd_T69 l0_3 x4_3).f1).size : Int)) = false := decide_eq_false c22
                              have c22b1 : decide (200 < ((rd_T69 l0_3 x4_3).f1).size) = false := decide_eq_false (by omega)
                              clear c22
                              have H' := Aside0.mk H
                              clear H
                              have hcz24_0 : wc.cell? ⟨gb130, 0, none⟩ = some (.int .i64 a0_0) := (blk_cell BK130.out 0).trans rfl
                              have hcz24_1 : wc.cell? ⟨gb130, 1, none⟩ = some (.string a0_1) := (blk_cell BK130.out 1).trans rfl
                              have hcz24_2 : wc.cell? ⟨gb130, 2, none⟩ = some (.slice A0_2 l0_2.length c0_2) := (blk_cell BK130.out 2).trans rfl
                              have hcz24_3 : wc.cell? ⟨gb130, 3, none⟩ = some (.slice A0_3 l0_3.length c0_3) := (blk_cell BK130.out 3).trans rfl
                              have hfz24_0 := blk_frozen BK130.out 0
                              have hfz24_1 := blk_frozen BK130.out 1
                              have hfz24_2 := blk_frozen BK130.out 2
                              have hfz24_3 := blk_frozen BK130.out 3
                              have p132 : 0 ≤ (x4_3 : Int) := of_decide_eq_true (by first | (with_reducible assumption) | assumption)
                              have q132 : x4_3 < (l0_3.length : Int) := of_decide_eq_true (by first | (with_reducible assumption) | assumption)
                              obtain ⟨ad132, e132, hx132_0, hx132_1⟩ := at_T69 HR0_3.out x4_3 p132 q132
                              cases e132
                              replace hx132_0 := (HB.out.cell (World.block_lt_of_cell? w _ hx132_0)).trans hx132_0
                              replace hx132_1 := (HB.out.cell (World.block_lt_of_cell? w _ hx132_1)).trans hx132_1
                              replace p132 := eq_true p132
                              replace q132 := eq_true q132
                              have p133 : 0 ≤ (x4_3 : Int) := of_decide_eq_true (by first | (with_reducible assumption) | assumption)
                              have q133 : x4_3 < (l0_3.length : Int) := of_decide_eq_true (by first | (with_reducible assumption) | assumption)
                              obtain ⟨ad133, e133, hx133_0, hx133_1⟩ := at_T69 HR0_3.out x4_3 p133 q133
                              obtain rfl : ad132 = ad133 := (by injection e133)
                              replace hx133_0 := (HB.out.cell (World.block_lt_of_cell? w _ hx133_0)).trans hx133_0
                              replace hx133_1 := (HB.out.cell (World.block_lt_of_cell? w _ hx133_1)).trans hx133_1
                              replace p133 := eq_true p133
                              replace q133 := eq_true q133
                              go_wp2
                              go_roundg kj12
                              case measure => have := HK1.out; have := HJ2.out; have := HK3.out; have := HJ12.out; omega
                              case rel => exact ⟨(wrap64 (x4_3 + 1)), (by first | rfl | (simp; done) | (simp [*]; done)), H', ⟨by have := HK1.out; have := HJ2.out; have := HK3.out; have := HJ12.out; omega⟩, ⟨by (with_reducible repeat (first | refine blk_drewN ?_ _ | refine blk_drew ?_ | refine blk_alloc ?_ _)); exact BK130.out⟩, ⟨by repeat (first | (with_reducible first | exact HB.out | apply below_alloc | apply pw_below_drewN | apply below_drew1 | refine below_set ?_ GE130.out) | exact HB.out)⟩⟩
                        · rw [if_neg c19] at H
                          exact absurd H (by simp)
                      · rw [if_neg c18] at H
                        exact absurd H (by simp)
                    · replace c17 := Bool.eq_false_iff.mpr c17
                      subst c17
                      have H1 : (if (a0_1.size : Int) ≤ 200 then (if (l0_2.length : Int) ≤ 30 then (some (decide ((l0_3.length : Int) ≤ 30))) else (some false)) else (some false)) = some r := by rw [if_neg (show ¬ (false = true) by decide)] at H; exact H
                      clear H
                      have H := H1
                      clear H1
                      by_cases c25 : (a0_1.size : Int) ≤ 200
                      · rw [if_pos c25] at H
                        have c25b0 : decide ((a0_1.size : Int) ≤ 200) = true := decide_eq_true c25
                        have c25b1 : decide (a0_1.size ≤ 200) = true := decide_eq_true (by omega)
                        clear c25
                        by_cases c26 : (l0_2.length : Int) ≤ 30
                        · rw [if_pos c26] at H
                          have c26b0 : decide ((l0_2.length : Int) ≤ 30) = true := decide_eq_true c26
                          have c26b1 : decide (l0_2.length ≤ 30) = true := decide_eq_true (by omega)
                          clear c26
                          obtain rfl := Option.some.inj H
                          have hcz27_0 : wc.cell? ⟨gb130, 0, none⟩ = some (.int .i64 a0_0) := (blk_cell BK130.out 0).trans rfl
                          have hcz27_1 : wc.cell? ⟨gb130, 1, none⟩ = some (.string a0_1) := (blk_cell BK130.out 1).trans rfl
                          have hcz27_2 : wc.cell? ⟨gb130, 2, none⟩ = some (.slice A0_2 l0_2.length c0_2) := (blk_cell BK130.out 2).trans rfl
                          have hcz27_3 : wc.cell? ⟨gb130, 3, none⟩ = some (.slice A0_3 l0_3.length c0_3) := (blk_cell BK130.out 3).trans rfl
                          have hfz27_0 := blk_frozen BK130.out 0
                          have hfz27_1 := blk_frozen BK130.out 1
                          have hfz27_2 := blk_frozen BK130.out 2
                          have hfz27_3 := blk_frozen BK130.out 3
                          go_wp2
                          go_ret
                          exact ⟨by first | rfl | (simp [errW_none, errW_some] <;> rfl) | (simp [*, errW_none, errW_some] <;> rfl), by repeat (first | (with_reducible first | exact HB.out | apply below_alloc | apply pw_below_drewN | apply below_drew1 | refine below_set ?_ GE130.out) | exact HB.out)⟩
                        · rw [if_neg c26] at H
                          have c26b0 : decide ((l0_2.length : Int) ≤ 30) = false := decide_eq_false c26
                          have c26b1 : decide (l0_2.length ≤ 30) = false := decide_eq_false (by omega)
                          clear c26
                          obtain rfl := Option.some.inj H
                          have hcz28_0 : wc.cell? ⟨gb130, 0, none⟩ = some (.int .i64 a0_0) := (blk_cell BK130.out 0).trans rfl
                          have hcz28_1 : wc.cell? ⟨gb130, 1, none⟩ = some (.string a0_1) := (blk_cell BK130.out 1).trans rfl
                          have hcz28_2 : wc.cell? ⟨gb130, 2, none⟩ = some (.slice A0_2 l0_2.length c0_2) := (blk_cell BK130.out 2).trans rfl
                          have hcz28_3 : wc.cell? ⟨gb130, 3, none⟩ = some (.slice A0_3 l0_3.length c0_3) := (blk_cell BK130.out 3).trans rfl
                          have hfz28_0 := blk_frozen BK130.out 0
                          have hfz28_1 := blk_frozen BK130.out 1
                          have hfz28_2 := blk_frozen BK130.out 2
                          have hfz28_3 := blk_frozen BK130.out 3
                          go_wp2
                          go_ret
                          exact ⟨by first | rfl | (simp [errW_none, errW_some] <;> rfl) | (simp [*, errW_none, errW_some] <;> rfl), by repeat (first | (with_reducible first | exact HB.out | apply below_alloc | apply pw_below_drewN | apply below_drew1 | refine below_set ?_ GE130.out) | exact HB.out)⟩
                      · rw [if_neg c25] at H
                        have c25b0 : decide ((a0_1.size : Int) ≤ 200) = false := decide_eq_false c25
                        have c25b1 : decide (a0_1.size ≤ 200) = false := decide_eq_false (by omega)
                        clear c25
                        obtain rfl := Option.some.inj H
                        have hcz29_0 : wc.cell? ⟨gb130, 0, none⟩ = some (.int .i64 a0_0) := (blk_cell BK130.out 0).trans rfl
                        have hcz29_1 : wc.cell? ⟨gb130, 1, none⟩ = some (.string a0_1) := (blk_cell BK130.out 1).trans rfl
                        have hcz29_2 : wc.cell? ⟨gb130, 2, none⟩ = some (.slice A0_2 l0_2.length c0_2) := (blk_cell BK130.out 2).trans rfl
                        have hcz29_3 : wc.cell? ⟨gb130, 3, none⟩ = some (.slice A0_3 l0_3.length c0_3) := (blk_cell BK130.out 3).trans rfl
                        have hfz29_0 := blk_frozen BK130.out 0
                        have hfz29_1 := blk_frozen BK130.out 1
                        have hfz29_2 := blk_frozen BK130.out 2
                        have hfz29_3 := blk_frozen BK130.out 3
                        go_wp2
                        go_ret
                        exact ⟨by first | rfl | (simp [errW_none, errW_some] <;> rfl) | (simp [*, errW_none, errW_some] <;> rfl), by repeat (first | (with_reducible first | exact HB.out | apply below_alloc | apply pw_below_drewN | apply below_drew1 | refine below_set ?_ GE130.out) | exact HB.out)⟩
end Go.Proofs.Ytbjeegkmafbejaa.PE
end
section
namespace Go.Proofs.Ytbjeegkmafbejaa.PE
open Go.RowKit Go.Proofs.YtbjeegkmafbejaaW.PrintWords Go.Proofs.YtbjeegkmafbejaaW.PrintLast Go.Proofs.YtbjeegkmafbejaaW.PrintMore
attribute [local go_sem] max2_int min2_int max_two min_two max_three min_three max_four min_four   -- for this text's walks alone
set_option linter.unusedVariables false
set_option linter.unusedSimpArgs false
def phalaropelaw11_few.f (k : Nat) (a0_0 : ByteArray) (a0_1 : Int) (a0_2 : Bool) (a1_0 : Int) (a1_1 : ByteArray) (l1_2 : List ByteArray) (l1_3 : List (S69)) : Option (Bool) := if (a0_0.size : Int) ≤ 200 then ((phalaroperef08_Few.f k a1_0 a1_1 l1_2 l1_3).bind fun t136 => (some t136)) else (some false)
set_option maxHeartbeats 8000000 in
set_option maxRecDepth 100000 in
theorem phalaropelaw11_few.calls (k : Nat) (a0_0 : ByteArray) (a0_1 : Int) (a0_2 : Bool) (a1_0 : Int) (a1_1 : ByteArray) (A1_2 : Option Addr) (c1_2 : Nat) (l1_2 : List ByteArray) (A1_3 : Option Addr) (c1_3 : Nat) (l1_3 : List (S69)) (r : Bool) (w : World) (hr1_2 : Kd.C Kd.string w A1_2 l1_2.length l1_2) (hc1_2 : l1_2.length ≤ c1_2) (hr1_3 : Kd.C k69 w A1_3 l1_3.length l1_3) (hc1_3 : l1_3.length ≤ c1_3) (h : phalaropelaw11_few.f k a0_0 a0_1 a0_2 a1_0 a1_1 l1_2 l1_3 = some r) :
    Calls Try.prog 9 #[.agg #[.string a0_0, .int .i64 a0_1, .bool a0_2], .agg #[.int .i64 a1_0, .string a1_1, .slice A1_2 l1_2.length c1_2, .slice A1_3 l1_3.length c1_3]] w fun e w' => e = .returned (.bool r) ∧ Below w.heap.size w w' := by
  have hu23 := Try.underlying23
  have hu27 := Try.underlying27
  have HR1_2 := Aside0.mk hr1_2
  have HC1_2 := Aside0.mk hc1_2
  clear hr1_2 hc1_2
  have HR1_3 := Aside0.mk hr1_3
  have HC1_3 := Aside0.mk hc1_3
  clear hr1_3 hc1_3
  have HB := Aside0.mk (Below.refl w.heap.size w)
  have H : (if (a0_0.size : Int) ≤ 200 then ((phalaroperef08_Few.f k a1_0 a1_1 l1_2 l1_3).bind fun t136 => (some t136)) else (some false)) = some r := h
  clear h
  by_cases c3 : (a0_0.size : Int) ≤ 200
  · rw [if_pos c3] at H
    have c3b0 : decide ((a0_0.size : Int) ≤ 200) = true := decide_eq_true c3
    have c3b1 : decide (a0_0.size ≤ 200) = true := decide_eq_true (by omega)
    clear c3
    replace H := Option.bind_eq_some_iff.mp H
    obtain ⟨t136, A40, H⟩ := H
    replace H : (some t136) = some r := H
    have A4 := Aside0.mk A40
    clear A40
    obtain rfl := Option.some.inj H
    go_enter Try.func9, Try.ntmps9
    go_wp2_with (first | ((with_reducible refine gate_dst (N := 2) rfl ?_); refine box_event ?hg (N := 2) ?hd (cs := #[.string a0_0, .int .i64 a0_1, .bool a0_2]) (t := 23) ?hr ?_; (case hd => rfl); (case hg => rfl); (case hr => first | (go_simp; done) | (go_simp; rfl)); intro gb134 hg w5 hbox hb; have n0_ := Aside0.mk (below_step (by repeat (first | (with_reducible first | exact HB.out | apply below_alloc | apply pw_below_drewN | apply below_drew1) | exact HB.out)) hb); have n1_ := Aside0.mk (hbox); have n2_ := Aside0.mk ((by rw [hg]; exact (below_size (by repeat (first | (with_reducible first | exact HB.out | apply below_alloc | apply pw_below_drewN | apply below_drew1) | exact HB.out))) : w.heap.size ≤ gb134)); have n3_ := Aside0.mk ((by rw [hg]; exact (below_size (by repeat (first | (with_reducible first | exact HB.out | apply below_alloc | apply pw_below_drewN | apply below_drew1) | exact HB.out))) : w.heap.size ≤ gb134)); clear HB; have HB := n0_; have BK134 := n1_; have GW134 := n2_; have GE134 := n3_; clear n0_ n1_ n2_ n3_; clear hb hbox hg) | ((with_reducible refine gate_dst (N := 3) rfl ?_); refine box_event ?hg (N := 3) ?hd (cs := #[.int .i64 a1_0, .string a1_1, .slice A1_2 l1_2.length c1_2, .slice A1_3 l1_3.length c1_3]) (t := 27) ?hr ?_; (case hd => rfl); (case hg => rfl); (case hr => first | (go_simp; done) | (go_simp; rfl)); intro gb135 hg w6 hbox hb; have n0_ := Aside0.mk (blk_below (g := gb134) (o := .cells #[.string a0_0, .int .i64 a0_1, .bool a0_2] 23 (0, 0)) (by (with_reducible repeat (first | refine blk_drewN ?_ _ | refine blk_drew ?_ | refine blk_alloc ?_ _)); exact BK134.out) hb); have n1_ := Aside0.mk (below_step (by repeat (first | (with_reducible first | exact HB.out | apply below_alloc | apply pw_below_drewN | apply below_drew1 | refine below_set ?_ GE134.out) | exact HB.out)) hb); have n2_ := Aside0.mk (hbox); have n3_ := Aside0.mk ((by rw [hg]; exact (below_size (by repeat (first | (with_reducible first | exact HB.out | apply below_alloc | apply pw_below_drewN | apply below_drew1 | refine below_set ?_ GE134.out) | exact HB.out))) : w.heap.size ≤ gb135)); have n4_ := Aside0.mk ((by rw [hg]; exact (below_size (by repeat (first | (with_reducible first | exact HB.out | apply below_alloc | apply pw_below_drewN | apply below_drew1 | refine below_set ?_ GE134.out) | exact HB.out))) : w.heap.size ≤ gb135)); have n5_ := Aside0.mk ((by rw [hg]; exact Nat.ne_of_lt (blk_lt (g := gb134) (o := .cells #[.string a0_0, .int .i64 a0_1, .bool a0_2] 23 (0, 0)) (by (with_reducible repeat (first | refine blk_drewN ?_ _ | refine blk_drew ?_ | refine blk_alloc ?_ _)); exact BK134.out)) : gb134 ≠ gb135)); have n6_ := Aside0.mk ((by rw [hg]; exact Nat.ne_of_gt (blk_lt (g := gb134) (o := .cells #[.string a0_0, .int .i64 a0_1, .bool a0_2] 23 (0, 0)) (by (with_reducible repeat (first | refine blk_drewN ?_ _ | refine blk_drew ?_ | refine blk_alloc ?_ _)); exact BK134.out)) : gb135 ≠ gb134)); clear BK134; clear HB; have BK134 := n0_; have HB := n1_; have BK135 := n2_; have GW135 := n3_; have GE135 := n4_; have NB134_135 := n5_; have NB135_134 := n6_; clear n0_ n1_ n2_ n3_ n4_ n5_ n6_; clear hb hbox hg; have hnb7 := NB134_135.out; have hnc7 := NB135_134.out; have hcz8_0 : w6.cell? ⟨gb134, 0, none⟩ = some (.string a0_0) := (blk_cell BK134.out 0).trans rfl; have hcz8_1 : w6.cell? ⟨gb134, 1, none⟩ = some (.int .i64 a0_1) := (blk_cell BK134.out 1).trans rfl; have hcz8_2 : w6.cell? ⟨gb134, 2, none⟩ = some (.bool a0_2) := (blk_cell BK134.out 2).trans rfl; have hfz8_0 := blk_frozen BK134.out 0; have hfz8_1 := blk_frozen BK134.out 1; have hfz8_2 := blk_frozen BK134.out 2; have hcz9_0 : w6.cell? ⟨gb135, 0, none⟩ = some (.int .i64 a1_0) := (blk_cell BK135.out 0).trans rfl; have hcz9_1 : w6.cell? ⟨gb135, 1, none⟩ = some (.string a1_1) := (blk_cell BK135.out 1).trans rfl; have hcz9_2 : w6.cell? ⟨gb135, 2, none⟩ = some (.slice A1_2 l1_2.length c1_2) := (blk_cell BK135.out 2).trans rfl; have hcz9_3 : w6.cell? ⟨gb135, 3, none⟩ = some (.slice A1_3 l1_3.length c1_3) := (blk_cell BK135.out 3).trans rfl; have hfz9_0 := blk_frozen BK135.out 0; have hfz9_1 := blk_frozen BK135.out 1; have hfz9_2 := blk_frozen BK135.out 2; have hfz9_3 := blk_frozen BK135.out 3) | (go_at_call 21; (with_reducible refine (phalaroperef08_Few.calls k a1_0 a1_1 _ _ l1_2 _ _ l1_3 t136 _ ?side1 ?side2 ?side3 ?side4 A4.out).mono ?_); (case side1 => repeat (first | exact (Kd.C_below HR1_2.out HB.out) | (with_reducible refine Kd.C_alloc ?_ _) | (with_reducible refine Kd.C_drewN ?_ _) | (with_reducible refine Kd.C_drew ?_))); (case side2 => exact HC1_2.out); (case side3 => repeat (first | exact (Kd.C_below HR1_3.out HB.out) | (with_reducible refine Kd.C_alloc ?_ _) | (with_reducible refine Kd.C_drewN ?_ _) | (with_reducible refine Kd.C_drew ?_))); (case side4 => exact HC1_3.out); rintro e w10 ⟨rfl, hb⟩; have n0_ := Aside0.mk (blk_below (g := gb134) (o := .cells #[.string a0_0, .int .i64 a0_1, .bool a0_2] 23 (0, 0)) (by (with_reducible repeat (first | refine blk_drewN ?_ _ | refine blk_drew ?_ | refine blk_alloc ?_ _)); exact BK134.out) hb); have n1_ := Aside0.mk (blk_below (g := gb135) (o := .cells #[.int .i64 a1_0, .string a1_1, .slice A1_2 l1_2.length c1_2, .slice A1_3 l1_3.length c1_3] 27 (0, 0)) (by (with_reducible repeat (first | refine blk_drewN ?_ _ | refine blk_drew ?_ | refine blk_alloc ?_ _)); exact BK135.out) hb); have n2_ := Aside0.mk (below_step (by repeat (first | (with_reducible first | exact HB.out | apply below_alloc | apply pw_below_drewN | apply below_drew1 | refine below_set ?_ GE134.out | refine below_set ?_ GE135.out) | exact HB.out)) hb); clear BK134; clear BK135; clear HB; have BK134 := n0_; have BK135 := n1_; have HB := n2_; clear n0_ n1_ n2_; (try clear hb); (try clear hb2); (try clear hk); (try clear hi)))
    go_ret
    exact ⟨by first | rfl | (simp [errW_none, errW_some] <;> rfl) | (simp [*, errW_none, errW_some] <;> rfl), by repeat (first | (with_reducible first | exact HB.out | apply below_alloc | apply pw_below_drewN | apply below_drew1 | refine below_set ?_ GE134.out | refine below_set ?_ GE135.out) | exact HB.out)⟩
  · rw [if_neg c3] at H
    have c3b0 : decide ((a0_0.size : Int) ≤ 200) = false := decide_eq_false c3
    have c3b1 : decide (a0_0.size ≤ 200) = false := decide_eq_false (by omega)
    clear c3
    obtain rfl := Option.some.inj H
    go_enter Try.func9, Try.ntmps9
    go_wp2_with (first | ((with_reducible refine gate_dst (N := 2) rfl ?_); refine box_event ?hg (N := 2) ?hd (cs := #[.string a0_0, .int .i64 a0_1, .bool a0_2]) (t := 23) ?hr ?_; (case hd => rfl); (case hg => rfl); (case hr => first | (go_simp; done) | (go_simp; rfl)); intro gb134 hg w11 hbox hb; have n0_ := Aside0.mk (below_step (by repeat (first | (with_reducible first | exact HB.out | apply below_alloc | apply pw_below_drewN | apply below_drew1) | exact HB.out)) hb); have n1_ := Aside0.mk (hbox); have n2_ := Aside0.mk ((by rw [hg]; exact (below_size (by repeat (first | (with_reducible first | exact HB.out | apply below_alloc | apply pw_below_drewN | apply below_drew1) | exact HB.out))) : w.heap.size ≤ gb134)); have n3_ := Aside0.mk ((by rw [hg]; exact (below_size (by repeat (first | (with_reducible first | exact HB.out | apply below_alloc | apply pw_below_drewN | apply below_drew1) | exact HB.out))) : w.heap.size ≤ gb134)); clear HB; have HB := n0_; have BK134 := n1_; have GW134 := n2_; have GE134 := n3_; clear n0_ n1_ n2_ n3_; clear hb hbox hg) | ((with_reducible refine gate_dst (N := 3) rfl ?_); refine box_event ?hg (N := 3) ?hd (cs := #[.int .i64 a1_0, .string a1_1, .slice A1_2 l1_2.length c1_2, .slice A1_3 l1_3.length c1_3]) (t := 27) ?hr ?_; (case hd => rfl); (case hg => rfl); (case hr => first | (go_simp; done) | (go_simp; rfl)); intro gb135 hg w12 hbox hb; have n0_ := Aside0.mk (blk_below (g := gb134) (o := .cells #[.string a0_0, .int .i64 a0_1, .bool a0_2] 23 (0, 0)) (by (with_reducible repeat (first | refine blk_drewN ?_ _ | refine blk_drew ?_ | refine blk_alloc ?_ _)); exact BK134.out) hb); have n1_ := Aside0.mk (below_step (by repeat (first | (with_reducible first | exact HB.out | apply below_alloc | apply pw_below_drewN | apply below_drew1 | refine below_set ?_ GE134.out) | exact HB.out)) hb); have n2_ := Aside0.mk (hbox); have n3_ := Aside0.mk ((by rw [hg]; exact (below_size (by repeat (first | (with_reducible first | exact HB.out | apply below_alloc | apply pw_below_drewN | apply below_drew1 | refine below_set ?_ GE134.out) | exact HB.out))) : w.heap.size ≤ gb135)); have n4_ := Aside0.mk ((by rw [hg]; exact (below_size (by repeat (first | (with_reducible first | exact HB.out | apply below_alloc | apply pw_below_drewN | apply below_drew1 | refine below_set ?_ GE134.out) | exact HB.out))) : w.heap.size ≤ gb135)); have n5_ := Aside0.mk ((by rw [hg]; exact Nat.ne_of_lt (blk_lt (g := gb134) (o := .cells #[.string a0_0, .int .i64 a0_1, .bool a0_2] 23 (0, 0)) (by (with_reducible repeat (first | refine blk_drewN ?_ _ | refine blk_drew ?_ | refine blk_alloc ?_ _)); exact BK134.out)) : gb134 ≠ gb135)); have n6_ := Aside0.mk ((by rw [hg]; exact Nat.ne_of_gt (blk_lt (g := gb134) (o := .cells #[.string a0_0, .int .i64 a0_1, .bool a0_2] 23 (0, 0)) (by (with_reducible repeat (first | refine blk_drewN ?_ _ | refine blk_drew ?_ | refine blk_alloc ?_ _)); exact BK134.out)) : gb135 ≠ gb134)); clear BK134; clear HB; have BK134 := n0_; have HB := n1_; have BK135 := n2_; have GW135 := n3_; have GE135 := n4_; have NB134_135 := n5_; have NB135_134 := n6_; clear n0_ n1_ n2_ n3_ n4_ n5_ n6_; clear hb hbox hg; have hnb13 := NB134_135.out; have hnc13 := NB135_134.out; have hcz14_0 : w12.cell? ⟨gb134, 0, none⟩ = some (.string a0_0) := (blk_cell BK134.out 0).trans rfl; have hcz14_1 : w12.cell? ⟨gb134, 1, none⟩ = some (.int .i64 a0_1) := (blk_cell BK134.out 1).trans rfl; have hcz14_2 : w12.cell? ⟨gb134, 2, none⟩ = some (.bool a0_2) := (blk_cell BK134.out 2).trans rfl; have hfz14_0 := blk_frozen BK134.out 0; have hfz14_1 := blk_frozen BK134.out 1; have hfz14_2 := blk_frozen BK134.out 2))
    go_ret
    exact ⟨by first | rfl | (simp [errW_none, errW_some] <;> rfl) | (simp [*, errW_none, errW_some] <;> rfl), by repeat (first | (with_reducible first | exact HB.out | apply below_alloc | apply pw_below_drewN | apply below_drew1 | refine below_set ?_ GE134.out | refine below_set ?_ GE135.out) | exact HB.out)⟩
def phalaroperef02_In.l0 : Nat → ByteArray → Int → Int → Option (Bool)
  | 0, _, _, _ => none
  | k + 1, x0, x1, x5 => if x5 < (x0.size : Int) then (if 0 ≤ x5 then (if (bt x0 x5) = x1 then (some true) else (phalaroperef02_In.l0 k x0 x1 (wrap64 (x5 + 1)))) else (none)) else (some false)
def phalaroperef02_In.f (k : Nat) (a0 : ByteArray) (a1 : Int) : Option (Bool) := phalaroperef02_In.l0 k a0 a1 0
set_option maxHeartbeats 8000000 in
set_option maxRecDepth 100000 in
theorem phalaroperef02_In.calls (k : Nat) (a0 : ByteArray) (a1 : Int) (r : Bool) (w : World) (h : phalaroperef02_In.f k a0 a1 = some r) :
    Calls Try.prog 31 #[.string a0, .int .u8 a1] w fun e w' => e = .returned (.bool r) ∧ Drawn0 w w' := by
  have H : (phalaroperef02_In.l0 k a0 a1 0) = some r := h
  clear h
  have H' := Aside0.mk H
  clear H
  go_enter Try.func31, Try.ntmps31
  go_wp2
  go_loopg [5] k (fun kq v5 w' => ∃ (x5_1 : Int), v5 = .int .i64 x5_1 ∧ Aside0 (phalaroperef02_In.l0 kq a0 a1 x5_1 = some r) ∧ Aside0 (kq ≤ k) ∧ Drawn0 w w')
  case atStart => exact ⟨(0), (by first | rfl | (simp; done) | (simp [*]; done)), H', ⟨Nat.le_refl _⟩, by repeat (first | exact Drawn0.refl _ | apply Drawn0.step)⟩
  case round =>
    clear H'
    try clear p2
    obtain ⟨x5_1, rfl, HA, HK1, ⟨m1, rfl⟩⟩ := hrel
    cases gk with
    | zero => exact absurd HA.out (by simp [phalaroperef02_In.l0])
    | succ k1 =>
      have H := HA.out
      clear HA
      simp only [phalaroperef02_In.l0] at H
      by_cases c3 : x5_1 < (a0.size : Int)
      · rw [if_pos c3] at H
        have c3b0 : decide (x5_1 < (a0.size : Int)) = true := decide_eq_true c3
        clear c3
        by_cases c4 : 0 ≤ x5_1
        · rw [if_pos c4] at H
          have c4b0 : decide (0 ≤ x5_1) = true := decide_eq_true c4
          clear c4
          by_cases c6 : (bt a0 x5_1) = a1
          · rw [if_pos c6] at H
            have c6b0 : ((bt a0 x5_1) == a1) = true := beq_iff_eq.mpr c6
            have c6b1 : ((bt a0 x5_1) != a1) = false := bne_eq_false_iff_eq.mpr c6
            clear c6
            obtain rfl := Option.some.inj H
            have p5 : 0 ≤ (x5_1 : Int) := of_decide_eq_true (by first | (with_reducible assumption) | assumption)
            have q5 : x5_1 < (a0.size : Int) := of_decide_eq_true (by first | (with_reducible assumption) | assumption)
            have hx5 := bt_at a0 x5_1
            replace p5 := eq_true p5
            replace q5 := eq_true q5
            go_wp2
            go_ret
            exact ⟨by first | rfl | (simp; done) | (simp [*]; done), by repeat (first | exact Drawn0.refl _ | apply Drawn0.step)⟩
          · rw [if_neg c6] at H
            have c6b0 : ((bt a0 x5_1) == a1) = false := beq_eq_false_iff_ne.mpr c6
            have c6b1 : ((bt a0 x5_1) != a1) = true := bne_iff_ne.mpr c6
            have H' := Aside0.mk H
            clear H
            have p5 : 0 ≤ (x5_1 : Int) := of_decide_eq_true (by first | (with_reducible assumption) | assumption)
            have q5 : x5_1 < (a0.size : Int) := of_decide_eq_true (by first | (with_reducible assumption) | assumption)
            have hx5 := bt_at a0 x5_1
            replace p5 := eq_true p5
            replace q5 := eq_true q5
            go_wp2
            go_roundg k1
            case measure => have := HK1.out; omega
            case rel => exact ⟨(wrap64 (x5_1 + 1)), (by first | rfl | (simp; done) | (simp [*]; done)), H', ⟨by have := HK1.out; omega⟩, by repeat (first | exact Drawn0.refl _ | apply Drawn0.step)⟩
        · rw [if_neg c4] at H
          exact absurd H (by simp)
      · rw [if_neg c3] at H
        have c3b0 : decide (x5_1 < (a0.size : Int)) = false := decide_eq_false c3
        clear c3
        obtain rfl := Option.some.inj H
        go_wp2
        go_ret
        exact ⟨by first | rfl | (simp; done) | (simp [*]; done), by repeat (first | exact Drawn0.refl _ | apply Drawn0.step)⟩
def phalaroperef07_Operator.f (k : Nat) (a0 : Int) : Option (Bool) := if a0 = 0 then (some true) else ((phalaroperef02_In.f k (⟨#[43, 35, 46, 47, 59, 63, 38]⟩ : ByteArray) a0).bind fun t137 => (some t137))
set_option maxHeartbeats 8000000 in
set_option maxRecDepth 100000 in
theorem phalaroperef07_Operator.calls (k : Nat) (a0 : Int) (r : Bool) (w : World) (h : phalaroperef07_Operator.f k a0 = some r) :
    Calls Try.prog 33 #[.int .u8 a0] w fun e w' => e = .returned (.bool r) ∧ Drawn0 w w' := by
  have H : (if a0 = 0 then (some true) else ((phalaroperef02_In.f k (⟨#[43, 35, 46, 47, 59, 63, 38]⟩ : ByteArray) a0).bind fun t137 => (some t137))) = some r := h
  clear h
  by_cases c2 : a0 = 0
  · rw [if_pos c2] at H
    have c2b0 : (a0 == 0) = true := beq_iff_eq.mpr c2
    have c2b1 : (a0 != 0) = false := bne_eq_false_iff_eq.mpr c2
    clear c2
    obtain rfl := Option.some.inj H
    go_enter Try.func33, Try.ntmps33
    go_wp2
    go_ret
    exact ⟨by first | rfl | (simp; done) | (simp [*]; done), by repeat (first | exact Drawn0.refl _ | apply Drawn0.step)⟩
  · rw [if_neg c2] at H
    have c2b0 : (a0 == 0) = false := beq_eq_false_iff_ne.mpr c2
    have c2b1 : (a0 != 0) = true := bne_iff_ne.mpr c2
    replace H := Option.bind_eq_some_iff.mp H
    obtain ⟨t137, A30, H⟩ := H
    replace H : (some t137) = some r := H
    have A3 := Aside0.mk A30
    clear A30
    obtain rfl := Option.some.inj H
    go_enter Try.func33, Try.ntmps33
    go_wp2_with (first | (go_at_call 31; (with_reducible refine (phalaroperef02_In.calls k (⟨#[43, 35, 46, 47, 59, 63, 38]⟩ : ByteArray) a0 t137 _ A3.out).mono ?_); rintro e w' ⟨rfl, ⟨nd, rfl⟩⟩))
    go_ret
    exact ⟨by first | rfl | (simp; done) | (simp [*]; done), by repeat (first | exact Drawn0.refl _ | apply Drawn0.step)⟩
theorem rop_f (c : Int) (h : 0 ≤ c ∧ c ≤ 255) : phalaroperef07_Operator.f 20 c = some (X.isOper c) := by
  obtain ⟨n, rfl⟩ : ∃ n : Nat, c = n := ⟨c.toNat, by omega⟩
  have : ∀ n : Fin 256, phalaroperef07_Operator.f 20 (n.1 : Int) = some (X.isOper (n.1 : Int)) := by decide +kernel
  exact this ⟨n, by omega⟩
theorem conv1 (W : World) (B : Nat) (v : Int) (s : ByteArray) (hs : strOfNums [v] = s) (h : W.cell? ⟨B, 0, none⟩ = some (.int .u8 v)) :
    (convert 59 9 (.slice (some ⟨B, 0, none⟩) 1 1)).run Try.prog W = .ok (.string s) W := by
  subst hs
  exact run_convert_bytes_arg W 59 5 Try.underlying59 Try.underlying5 B 0 1 1 [v] rfl (fun i hi => by
    obtain rfl : i = 0 := by omega
    exact h) 9 Try.underlying9
set_option maxHeartbeats 4000000 in
set_option maxRecDepth 100000 in
theorem ref10_at_0 (w : World) : Calls Try.prog 14 #[.int .u8 0] w fun e w' => e = .returned (.tuple #[.agg #[.string (⟨#[]⟩ : ByteArray), .string (⟨#[44]⟩ : ByteArray), .bool false, .string (⟨#[]⟩ : ByteArray), .bool false], .bool true]) ∧ Below w.heap.size w w' := by
  go_enter Try.func14, Try.ntmps14
  go_wp2_with fail
  refine (phalaroperef07_Operator.calls 20 0 true _ (by decide +kernel)).mono ?_
  rintro e w1 ⟨rfl, hd⟩
  have hb := hd.below
  have HR := Aside0.mk (blk_below (blk_new w _) hb)
  have HB := Aside0.mk (below_step (w := w) (X.below_new1 w _) hb)
  clear hd hb
  have hlt : w.heap.size < w1.heap.size := (Array.getElem?_eq_some_iff.1 HR.out).1
  have hne : w1.heap.size ≠ w.heap.size := by omega
  obtain ⟨z0, z1, z2, z3, z4⟩ := X.cells5 HR.out
  obtain ⟨f0, f1, f2, f3, f4⟩ := X.frozen5 HR.out
  have hfar : ∀ (W : World) (o k : Nat) (v : Value), (W.setCell ⟨w1.heap.size, o, none⟩ v).cell? ⟨w.heap.size, k, none⟩ = W.cell? ⟨w.heap.size, k, none⟩ := fun W o k v => World.cell?_setCell_far W _ _ v hne
  have hal : ∀ (W : World) (o : Obj) (k : Nat), w.heap.size < W.heap.size → (W.alloc o).cell? ⟨w.heap.size, k, none⟩ = W.cell? ⟨w.heap.size, k, none⟩ := fun W o k h => by
    have : Below (w.heap.size + 1) W (W.alloc o) := (Below.refl _ W).alloc h _
    exact this.cell (p := ⟨w.heap.size, k, none⟩) (Nat.lt_succ_self _)
  have hfr : ∀ (W : World) (o : Obj) (k : Nat), w.heap.size < W.heap.size → (W.alloc o).frozen? ⟨w.heap.size, k, none⟩ = W.frozen? ⟨w.heap.size, k, none⟩ := fun W o k h => by
    have : Below (w.heap.size + 1) W (W.alloc o) := (Below.refl _ W).alloc h _
    exact this.frozen (p := ⟨w.heap.size, k, none⟩) (Nat.lt_succ_self _)
  have hlt1 : w.heap.size < w1.heap.size + 1 := by omega
  have hlt2 : w.heap.size < w1.heap.size + 1 + 1 := by omega
  have hcv := fun (W : World) (B : Nat) (h : W.cell? ⟨B, 0, none⟩ = some (.int .u8 0)) => conv1 W B 0 (⟨#[0]⟩ : ByteArray) rfl h
  go_wp2_with fail
  refine bodyPost_ret (v := .tuple #[.agg #[.string (⟨#[]⟩ : ByteArray), .string (⟨#[44]⟩ : ByteArray), .bool false, .string (⟨#[]⟩ : ByteArray), .bool false], .bool true]) (by simp [results, Try.results14, go_sem, z0, z1, z2, z3, z4, hfar, hal, hlt, hlt1, hlt2]) rfl ⟨rfl, ?_⟩
  have hge : w.heap.size ≤ w1.heap.size := by omega
  repeat (with_reducible first | exact HB.out | apply below_alloc | refine below_set ?_ (Nat.le_refl _) | refine below_set ?_ hge)
set_option maxHeartbeats 4000000 in
set_option maxRecDepth 100000 in
theorem ref10_at_43 (w : World) : Calls Try.prog 14 #[.int .u8 43] w fun e w' => e = .returned (.tuple #[.agg #[.string (⟨#[]⟩ : ByteArray), .string (⟨#[44]⟩ : ByteArray), .bool false, .string (⟨#[]⟩ : ByteArray), .bool true], .bool true]) ∧ Below w.heap.size w w' := by
  go_enter Try.func14, Try.ntmps14
  go_wp2_with fail
  refine (phalaroperef07_Operator.calls 20 43 true _ (by decide +kernel)).mono ?_
  rintro e w1 ⟨rfl, hd⟩
  have hb := hd.below
  have HR := Aside0.mk (blk_below (blk_new w _) hb)
  have HB := Aside0.mk (below_step (w := w) (X.below_new1 w _) hb)
  clear hd hb
  have hlt : w.heap.size < w1.heap.size := (Array.getElem?_eq_some_iff.1 HR.out).1
  have hne : w1.heap.size ≠ w.heap.size := by omega
  obtain ⟨z0, z1, z2, z3, z4⟩ := X.cells5 HR.out
  obtain ⟨f0, f1, f2, f3, f4⟩ := X.frozen5 HR.out
  have hfar : ∀ (W : World) (o k : Nat) (v : Value), (W.setCell ⟨w1.heap.size, o, none⟩ v).cell? ⟨w.heap.size, k, none⟩ = W.cell? ⟨w.heap.size, k, none⟩ := fun W o k v => World.cell?_setCell_far W _ _ v hne
  have hal : ∀ (W : World) (o : Obj) (k : Nat), w.heap.size < W.heap.size → (W.alloc o).cell? ⟨w.heap.size, k, none⟩ = W.cell? ⟨w.heap.size, k, none⟩ := fun W o k h => by
    have : Below (w.heap.size + 1) W (W.alloc o) := (Below.refl _ W).alloc h _
    exact this.cell (p := ⟨w.heap.size, k, none⟩) (Nat.lt_succ_self _)
  have hfr : ∀ (W : World) (o : Obj) (k : Nat), w.heap.size < W.heap.size → (W.alloc o).frozen? ⟨w.heap.size, k, none⟩ = W.frozen? ⟨w.heap.size, k, none⟩ := fun W o k h => by
    have : Below (w.heap.size + 1) W (W.alloc o) := (Below.refl _ W).alloc h _
    exact this.frozen (p := ⟨w.heap.size, k, none⟩) (Nat.lt_succ_self _)
  have hlt1 : w.heap.size < w1.heap.size + 1 := by omega
  have hlt2 : w.heap.size < w1.heap.size + 1 + 1 := by omega
  have hcv := fun (W : World) (B : Nat) (h : W.cell? ⟨B, 0, none⟩ = some (.int .u8 43)) => conv1 W B 43 (⟨#[43]⟩ : ByteArray) rfl h
  go_wp2_with fail
  refine bodyPost_ret (v := .tuple #[.agg #[.string (⟨#[]⟩ : ByteArray), .string (⟨#[44]⟩ : ByteArray), .bool false, .string (⟨#[]⟩ : ByteArray), .bool true], .bool true]) (by simp [results, Try.results14, go_sem, z0, z1, z2, z3, z4, hfar, hal, hlt, hlt1, hlt2]) rfl ⟨rfl, ?_⟩
  have hge : w.heap.size ≤ w1.heap.size := by omega
  repeat (with_reducible first | exact HB.out | apply below_alloc | refine below_set ?_ (Nat.le_refl _) | refine below_set ?_ hge)
set_option maxHeartbeats 4000000 in
set_option maxRecDepth 100000 in
theorem ref10_at_35 (w : World) : Calls Try.prog 14 #[.int .u8 35] w fun e w' => e = .returned (.tuple #[.agg #[.string (⟨#[35]⟩ : ByteArray), .string (⟨#[44]⟩ : ByteArray), .bool false, .string (⟨#[]⟩ : ByteArray), .bool true], .bool true]) ∧ Below w.heap.size w w' := by
  go_enter Try.func14, Try.ntmps14
  go_wp2_with fail
  refine (phalaroperef07_Operator.calls 20 35 true _ (by decide +kernel)).mono ?_
  rintro e w1 ⟨rfl, hd⟩
  have hb := hd.below
  have HR := Aside0.mk (blk_below (blk_new w _) hb)
  have HB := Aside0.mk (below_step (w := w) (X.below_new1 w _) hb)
  clear hd hb
  have hlt : w.heap.size < w1.heap.size := (Array.getElem?_eq_some_iff.1 HR.out).1
  have hne : w1.heap.size ≠ w.heap.size := by omega
  obtain ⟨z0, z1, z2, z3, z4⟩ := X.cells5 HR.out
  obtain ⟨f0, f1, f2, f3, f4⟩ := X.frozen5 HR.out
  have hfar : ∀ (W : World) (o k : Nat) (v : Value), (W.setCell ⟨w1.heap.size, o, none⟩ v).cell? ⟨w.heap.size, k, none⟩ = W.cell? ⟨w.heap.size, k, none⟩ := fun W o k v => World.cell?_setCell_far W _ _ v hne
  have hal : ∀ (W : World) (o : Obj) (k : Nat), w.heap.size < W.heap.size → (W.alloc o).cell? ⟨w.heap.size, k, none⟩ = W.cell? ⟨w.heap.size, k, none⟩ := fun W o k h => by
    have : Below (w.heap.size + 1) W (W.alloc o) := (Below.refl _ W).alloc h _
    exact this.cell (p := ⟨w.heap.size, k, none⟩) (Nat.lt_succ_self _)
  have hfr : ∀ (W : World) (o : Obj) (k : Nat), w.heap.size < W.heap.size → (W.alloc o).frozen? ⟨w.heap.size, k, none⟩ = W.frozen? ⟨w.heap.size, k, none⟩ := fun W o k h => by
    have : Below (w.heap.size + 1) W (W.alloc o) := (Below.refl _ W).alloc h _
    exact this.frozen (p := ⟨w.heap.size, k, none⟩) (Nat.lt_succ_self _)
  have hlt1 : w.heap.size < w1.heap.size + 1 := by omega
  have hlt2 : w.heap.size < w1.heap.size + 1 + 1 := by omega
  have hcv := fun (W : World) (B : Nat) (h : W.cell? ⟨B, 0, none⟩ = some (.int .u8 35)) => conv1 W B 35 (⟨#[35]⟩ : ByteArray) rfl h
  go_wp2_with fail
  refine bodyPost_ret (v := .tuple #[.agg #[.string (⟨#[35]⟩ : ByteArray), .string (⟨#[44]⟩ : ByteArray), .bool false, .string (⟨#[]⟩ : ByteArray), .bool true], .bool true]) (by simp [results, Try.results14, go_sem, z0, z1, z2, z3, z4, hfar, hal, hlt, hlt1, hlt2]) rfl ⟨rfl, ?_⟩
  have hge : w.heap.size ≤ w1.heap.size := by omega
  repeat (with_reducible first | exact HB.out | apply below_alloc | refine below_set ?_ (Nat.le_refl _) | refine below_set ?_ hge)
set_option maxHeartbeats 4000000 in
set_option maxRecDepth 100000 in
theorem ref10_at_46 (w : World) : Calls Try.prog 14 #[.int .u8 46] w fun e w' => e = .returned (.tuple #[.agg #[.string (⟨#[46]⟩ : ByteArray), .string (⟨#[46]⟩ : ByteArray), .bool false, .string (⟨#[]⟩ : ByteArray), .bool false], .bool true]) ∧ Below w.heap.size w w' := by
  go_enter Try.func14, Try.ntmps14
  go_wp2_with fail
  refine (phalaroperef07_Operator.calls 20 46 true _ (by decide +kernel)).mono ?_
  rintro e w1 ⟨rfl, hd⟩
  have hb := hd.below
  have HR := Aside0.mk (blk_below (blk_new w _) hb)
  have HB := Aside0.mk (below_step (w := w) (X.below_new1 w _) hb)
  clear hd hb
  have hlt : w.heap.size < w1.heap.size := (Array.getElem?_eq_some_iff.1 HR.out).1
  have hne : w1.heap.size ≠ w.heap.size := by omega
  obtain ⟨z0, z1, z2, z3, z4⟩ := X.cells5 HR.out
  obtain ⟨f0, f1, f2, f3, f4⟩ := X.frozen5 HR.out
  have hfar : ∀ (W : World) (o k : Nat) (v : Value), (W.setCell ⟨w1.heap.size, o, none⟩ v).cell? ⟨w.heap.size, k, none⟩ = W.cell? ⟨w.heap.size, k, none⟩ := fun W o k v => World.cell?_setCell_far W _ _ v hne
  have hal : ∀ (W : World) (o : Obj) (k : Nat), w.heap.size < W.heap.size → (W.alloc o).cell? ⟨w.heap.size, k, none⟩ = W.cell? ⟨w.heap.size, k, none⟩ := fun W o k h => by
    have : Below (w.heap.size + 1) W (W.alloc o) := (Below.refl _ W).alloc h _
    exact this.cell (p := ⟨w.heap.size, k, none⟩) (Nat.lt_succ_self _)
  have hfr : ∀ (W : World) (o : Obj) (k : Nat), w.heap.size < W.heap.size → (W.alloc o).frozen? ⟨w.heap.size, k, none⟩ = W.frozen? ⟨w.heap.size, k, none⟩ := fun W o k h => by
    have : Below (w.heap.size + 1) W (W.alloc o) := (Below.refl _ W).alloc h _
    exact this.frozen (p := ⟨w.heap.size, k, none⟩) (Nat.lt_succ_self _)
  have hlt1 : w.heap.size < w1.heap.size + 1 := by omega
  have hlt2 : w.heap.size < w1.heap.size + 1 + 1 := by omega
  have hcv := fun (W : World) (B : Nat) (h : W.cell? ⟨B, 0, none⟩ = some (.int .u8 46)) => conv1 W B 46 (⟨#[46]⟩ : ByteArray) rfl h
  go_wp2_with fail
  refine bodyPost_ret (v := .tuple #[.agg #[.string (⟨#[46]⟩ : ByteArray), .string (⟨#[46]⟩ : ByteArray), .bool false, .string (⟨#[]⟩ : ByteArray), .bool false], .bool true]) (by simp [results, Try.results14, go_sem, z0, z1, z2, z3, z4, hfar, hal, hlt, hlt1, hlt2]) rfl ⟨rfl, ?_⟩
  have hge : w.heap.size ≤ w1.heap.size := by omega
  repeat (with_reducible first | exact HB.out | apply below_alloc | refine below_set ?_ (Nat.le_refl _) | refine below_set ?_ hge)
set_option maxHeartbeats 4000000 in
set_option maxRecDepth 100000 in
theorem ref10_at_47 (w : World) : Calls Try.prog 14 #[.int .u8 47] w fun e w' => e = .returned (.tuple #[.agg #[.string (⟨#[47]⟩ : ByteArray), .string (⟨#[47]⟩ : ByteArray), .bool false, .string (⟨#[]⟩ : ByteArray), .bool false], .bool true]) ∧ Below w.heap.size w w' := by
  go_enter Try.func14, Try.ntmps14
  go_wp2_with fail
  refine (phalaroperef07_Operator.calls 20 47 true _ (by decide +kernel)).mono ?_
  rintro e w1 ⟨rfl, hd⟩
  have hb := hd.below
  have HR := Aside0.mk (blk_below (blk_new w _) hb)
  have HB := Aside0.mk (below_step (w := w) (X.below_new1 w _) hb)
  clear hd hb
  have hlt : w.heap.size < w1.heap.size := (Array.getElem?_eq_some_iff.1 HR.out).1
  have hne : w1.heap.size ≠ w.heap.size := by omega
  obtain ⟨z0, z1, z2, z3, z4⟩ := X.cells5 HR.out
  obtain ⟨f0, f1, f2, f3, f4⟩ := X.frozen5 HR.out
  have hfar : ∀ (W : World) (o k : Nat) (v : Value), (W.setCell ⟨w1.heap.size, o, none⟩ v).cell? ⟨w.heap.size, k, none⟩ = W.cell? ⟨w.heap.size, k, none⟩ := fun W o k v => World.cell?_setCell_far W _ _ v hne
  have hal : ∀ (W : World) (o : Obj) (k : Nat), w.heap.size < W.heap.size → (W.alloc o).cell? ⟨w.heap.size, k, none⟩ = W.cell? ⟨w.heap.size, k, none⟩ := fun W o k h => by
    have : Below (w.heap.size + 1) W (W.alloc o) := (Below.refl _ W).alloc h _
    exact this.cell (p := ⟨w.heap.size, k, none⟩) (Nat.lt_succ_self _)
  have hfr : ∀ (W : World) (o : Obj) (k : Nat), w.heap.size < W.heap.size → (W.alloc o).frozen? ⟨w.heap.size, k, none⟩ = W.frozen? ⟨w.heap.size, k, none⟩ := fun W o k h => by
    have : Below (w.heap.size + 1) W (W.alloc o) := (Below.refl _ W).alloc h _
    exact this.frozen (p := ⟨w.heap.size, k, none⟩) (Nat.lt_succ_self _)
  have hlt1 : w.heap.size < w1.heap.size + 1 := by omega
  have hlt2 : w.heap.size < w1.heap.size + 1 + 1 := by omega
  have hcv := fun (W : World) (B : Nat) (h : W.cell? ⟨B, 0, none⟩ = some (.int .u8 47)) => conv1 W B 47 (⟨#[47]⟩ : ByteArray) rfl h
  go_wp2_with fail
  refine bodyPost_ret (v := .tuple #[.agg #[.string (⟨#[47]⟩ : ByteArray), .string (⟨#[47]⟩ : ByteArray), .bool false, .string (⟨#[]⟩ : ByteArray), .bool false], .bool true]) (by simp [results, Try.results14, go_sem, z0, z1, z2, z3, z4, hfar, hal, hlt, hlt1, hlt2]) rfl ⟨rfl, ?_⟩
  have hge : w.heap.size ≤ w1.heap.size := by omega
  repeat (with_reducible first | exact HB.out | apply below_alloc | refine below_set ?_ (Nat.le_refl _) | refine below_set ?_ hge)
set_option maxHeartbeats 4000000 in
set_option maxRecDepth 100000 in
theorem ref10_at_59 (w : World) : Calls Try.prog 14 #[.int .u8 59] w fun e w' => e = .returned (.tuple #[.agg #[.string (⟨#[59]⟩ : ByteArray), .string (⟨#[59]⟩ : ByteArray), .bool true, .string (⟨#[]⟩ : ByteArray), .bool false], .bool true]) ∧ Below w.heap.size w w' := by
  go_enter Try.func14, Try.ntmps14
  go_wp2_with fail
  refine (phalaroperef07_Operator.calls 20 59 true _ (by decide +kernel)).mono ?_
  rintro e w1 ⟨rfl, hd⟩
  have hb := hd.below
  have HR := Aside0.mk (blk_below (blk_new w _) hb)
  have HB := Aside0.mk (below_step (w := w) (X.below_new1 w _) hb)
  clear hd hb
  have hlt : w.heap.size < w1.heap.size := (Array.getElem?_eq_some_iff.1 HR.out).1
  have hne : w1.heap.size ≠ w.heap.size := by omega
  obtain ⟨z0, z1, z2, z3, z4⟩ := X.cells5 HR.out
  obtain ⟨f0, f1, f2, f3, f4⟩ := X.frozen5 HR.out
  have hfar : ∀ (W : World) (o k : Nat) (v : Value), (W.setCell ⟨w1.heap.size, o, none⟩ v).cell? ⟨w.heap.size, k, none⟩ = W.cell? ⟨w.heap.size, k, none⟩ := fun W o k v => World.cell?_setCell_far W _ _ v hne
  have hal : ∀ (W : World) (o : Obj) (k : Nat), w.heap.size < W.heap.size → (W.alloc o).cell? ⟨w.heap.size, k, none⟩ = W.cell? ⟨w.heap.size, k, none⟩ := fun W o k h => by
    have : Below (w.heap.size + 1) W (W.alloc o) := (Below.refl _ W).alloc h _
    exact this.cell (p := ⟨w.heap.size, k, none⟩) (Nat.lt_succ_self _)
  have hfr : ∀ (W : World) (o : Obj) (k : Nat), w.heap.size < W.heap.size → (W.alloc o).frozen? ⟨w.heap.size, k, none⟩ = W.frozen? ⟨w.heap.size, k, none⟩ := fun W o k h => by
    have : Below (w.heap.size + 1) W (W.alloc o) := (Below.refl _ W).alloc h _
    exact this.frozen (p := ⟨w.heap.size, k, none⟩) (Nat.lt_succ_self _)
  have hlt1 : w.heap.size < w1.heap.size + 1 := by omega
  have hlt2 : w.heap.size < w1.heap.size + 1 + 1 := by omega
  have hcv := fun (W : World) (B : Nat) (h : W.cell? ⟨B, 0, none⟩ = some (.int .u8 59)) => conv1 W B 59 (⟨#[59]⟩ : ByteArray) rfl h
  go_wp2_with fail
  refine bodyPost_ret (v := .tuple #[.agg #[.string (⟨#[59]⟩ : ByteArray), .string (⟨#[59]⟩ : ByteArray), .bool true, .string (⟨#[]⟩ : ByteArray), .bool false], .bool true]) (by simp [results, Try.results14, go_sem, z0, z1, z2, z3, z4, hfar, hal, hlt, hlt1, hlt2]) rfl ⟨rfl, ?_⟩
  have hge : w.heap.size ≤ w1.heap.size := by omega
  repeat (with_reducible first | exact HB.out | apply below_alloc | refine below_set ?_ (Nat.le_refl _) | refine below_set ?_ hge)
set_option maxHeartbeats 4000000 in
set_option maxRecDepth 100000 in
theorem ref10_at_63 (w : World) : Calls Try.prog 14 #[.int .u8 63] w fun e w' => e = .returned (.tuple #[.agg #[.string (⟨#[63]⟩ : ByteArray), .string (⟨#[38]⟩ : ByteArray), .bool true, .string (⟨#[61]⟩ : ByteArray), .bool false], .bool true]) ∧ Below w.heap.size w w' := by
  go_enter Try.func14, Try.ntmps14
  go_wp2_with fail
  refine (phalaroperef07_Operator.calls 20 63 true _ (by decide +kernel)).mono ?_
  rintro e w1 ⟨rfl, hd⟩
  have hb := hd.below
  have HR := Aside0.mk (blk_below (blk_new w _) hb)
  have HB := Aside0.mk (below_step (w := w) (X.below_new1 w _) hb)
  clear hd hb
  have hlt : w.heap.size < w1.heap.size := (Array.getElem?_eq_some_iff.1 HR.out).1
  have hne : w1.heap.size ≠ w.heap.size := by omega
  obtain ⟨z0, z1, z2, z3, z4⟩ := X.cells5 HR.out
  obtain ⟨f0, f1, f2, f3, f4⟩ := X.frozen5 HR.out
  have hfar : ∀ (W : World) (o k : Nat) (v : Value), (W.setCell ⟨w1.heap.size, o, none⟩ v).cell? ⟨w.heap.size, k, none⟩ = W.cell? ⟨w.heap.size, k, none⟩ := fun W o k v => World.cell?_setCell_far W _ _ v hne
  have hal : ∀ (W : World) (o : Obj) (k : Nat), w.heap.size < W.heap.size → (W.alloc o).cell? ⟨w.heap.size, k, none⟩ = W.cell? ⟨w.heap.size, k, none⟩ := fun W o k h => by
    have : Below (w.heap.size + 1) W (W.alloc o) := (Below.refl _ W).alloc h _
    exact this.cell (p := ⟨w.heap.size, k, none⟩) (Nat.lt_succ_self _)
  have hfr : ∀ (W : World) (o : Obj) (k : Nat), w.heap.size < W.heap.size → (W.alloc o).frozen? ⟨w.heap.size, k, none⟩ = W.frozen? ⟨w.heap.size, k, none⟩ := fun W o k h => by
    have : Below (w.heap.size + 1) W (W.alloc o) := (Below.refl _ W).alloc h _
    exact this.frozen (p := ⟨w.heap.size, k, none⟩) (Nat.lt_succ_self _)
  have hlt1 : w.heap.size < w1.heap.size + 1 := by omega
  have hlt2 : w.heap.size < w1.heap.size + 1 + 1 := by omega
  have hcv := fun (W : World) (B : Nat) (h : W.cell? ⟨B, 0, none⟩ = some (.int .u8 63)) => conv1 W B 63 (⟨#[63]⟩ : ByteArray) rfl h
  go_wp2_with fail
  refine bodyPost_ret (v := .tuple #[.agg #[.string (⟨#[63]⟩ : ByteArray), .string (⟨#[38]⟩ : ByteArray), .bool true, .string (⟨#[61]⟩ : ByteArray), .bool false], .bool true]) (by simp [results, Try.results14, go_sem, z0, z1, z2, z3, z4, hfar, hal, hlt, hlt1, hlt2]) rfl ⟨rfl, ?_⟩
  have hge : w.heap.size ≤ w1.heap.size := by omega
  repeat (with_reducible first | exact HB.out | apply below_alloc | refine below_set ?_ (Nat.le_refl _) | refine below_set ?_ hge)
set_option maxHeartbeats 4000000 in
set_option maxRecDepth 100000 in
theorem ref10_at_38 (w : World) : Calls Try.prog 14 #[.int .u8 38] w fun e w' => e = .returned (.tuple #[.agg #[.string (⟨#[38]⟩ : ByteArray), .string (⟨#[38]⟩ : ByteArray), .bool true, .string (⟨#[61]⟩ : ByteArray), .bool false], .bool true]) ∧ Below w.heap.size w w' := by
  go_enter Try.func14, Try.ntmps14
  go_wp2_with fail
  refine (phalaroperef07_Operator.calls 20 38 true _ (by decide +kernel)).mono ?_
  rintro e w1 ⟨rfl, hd⟩
  have hb := hd.below
  have HR := Aside0.mk (blk_below (blk_new w _) hb)
  have HB := Aside0.mk (below_step (w := w) (X.below_new1 w _) hb)
  clear hd hb
  have hlt : w.heap.size < w1.heap.size := (Array.getElem?_eq_some_iff.1 HR.out).1
  have hne : w1.heap.size ≠ w.heap.size := by omega
  obtain ⟨z0, z1, z2, z3, z4⟩ := X.cells5 HR.out
  obtain ⟨f0, f1, f2, f3, f4⟩ := X.frozen5 HR.out
  have hfar : ∀ (W : World) (o k : Nat) (v : Value), (W.setCell ⟨w1.heap.size, o, none⟩ v).cell? ⟨w.heap.size, k, none⟩ = W.cell? ⟨w.heap.size, k, none⟩ := fun W o k v => World.cell?_setCell_far W _ _ v hne
  have hal : ∀ (W : World) (o : Obj) (k : Nat), w.heap.size < W.heap.size → (W.alloc o).cell? ⟨w.heap.size, k, none⟩ = W.cell? ⟨w.heap.size, k, none⟩ := fun W o k h => by
    have : Below (w.heap.size + 1) W (W.alloc o) := (Below.refl _ W).alloc h _
    exact this.cell (p := ⟨w.heap.size, k, none⟩) (Nat.lt_succ_self _)
  have hfr : ∀ (W : World) (o : Obj) (k : Nat), w.heap.size < W.heap.size → (W.alloc o).frozen? ⟨w.heap.size, k, none⟩ = W.frozen? ⟨w.heap.size, k, none⟩ := fun W o k h => by
    have : Below (w.heap.size + 1) W (W.alloc o) := (Below.refl _ W).alloc h _
    exact this.frozen (p := ⟨w.heap.size, k, none⟩) (Nat.lt_succ_self _)
  have hlt1 : w.heap.size < w1.heap.size + 1 := by omega
  have hlt2 : w.heap.size < w1.heap.size + 1 + 1 := by omega
  have hcv := fun (W : World) (B : Nat) (h : W.cell? ⟨B, 0, none⟩ = some (.int .u8 38)) => conv1 W B 38 (⟨#[38]⟩ : ByteArray) rfl h
  go_wp2_with fail
  refine bodyPost_ret (v := .tuple #[.agg #[.string (⟨#[38]⟩ : ByteArray), .string (⟨#[38]⟩ : ByteArray), .bool true, .string (⟨#[61]⟩ : ByteArray), .bool false], .bool true]) (by simp [results, Try.results14, go_sem, z0, z1, z2, z3, z4, hfar, hal, hlt, hlt1, hlt2]) rfl ⟨rfl, ?_⟩
  have hge : w.heap.size ≤ w1.heap.size := by omega
  repeat (with_reducible first | exact HB.out | apply below_alloc | refine below_set ?_ (Nat.le_refl _) | refine below_set ?_ hge)
set_option maxHeartbeats 4000000 in
set_option maxRecDepth 100000 in
theorem ref10_no (c : Int) (hb : 0 ≤ c ∧ c ≤ 255) (hc : X.isOper c = false) (w : World) : Calls Try.prog 14 #[.int .u8 c] w fun e w' => e = .returned (.tuple #[.agg #[.string (⟨#[]⟩ : ByteArray), .string (⟨#[]⟩ : ByteArray), .bool false, .string (⟨#[]⟩ : ByteArray), .bool false], .bool false]) ∧ Below w.heap.size w w' := by
  have HF := Aside0.mk (show phalaroperef07_Operator.f 20 c = some false by rw [rop_f c hb, hc])
  clear hc
  go_enter Try.func14, Try.ntmps14
  go_wp2_with fail
  refine (phalaroperef07_Operator.calls 20 c false _ HF.out).mono ?_
  rintro e w1 ⟨rfl, hd⟩
  have hb := hd.below
  have HR := Aside0.mk (blk_below (blk_new w _) hb)
  have HB := Aside0.mk (below_step (w := w) (X.below_new1 w _) hb)
  clear hd hb
  obtain ⟨z0, z1, z2, z3, z4⟩ := X.cells5 HR.out
  obtain ⟨f0, f1, f2, f3, f4⟩ := X.frozen5 HR.out
  go_wp2_with fail
  refine bodyPost_ret (v := .tuple #[.agg #[.string (⟨#[]⟩ : ByteArray), .string (⟨#[]⟩ : ByteArray), .bool false, .string (⟨#[]⟩ : ByteArray), .bool false], .bool false]) (by simp [results, Try.results14, go_sem, z0, z1, z2, z3, z4]) rfl ⟨rfl, ?_⟩
  repeat (with_reducible first | exact HB.out | apply below_alloc | refine below_set ?_ (Nat.le_refl _))
theorem ref10_cases {a : Int} (h : X.isOper a = true) : a = 0 ∨ a = 43 ∨ a = 35 ∨ a = 46 ∨ a = 47 ∨ a = 59 ∨ a = 63 ∨ a = 38 := by
  simp [X.isOper] at h; omega
def phalaroperef10_Of.f (a0 : Int) : Option (ByteArray × ByteArray × Bool × ByteArray × Bool × Bool) := if 0 ≤ a0 ∧ a0 ≤ 255 then some (X.ruleFirst a0, X.ruleSep a0, X.ruleNamed a0, X.ruleEmpty a0, X.ruleKeep a0, X.isOper a0) else none
set_option maxHeartbeats 8000000 in
set_option maxRecDepth 100000 in
theorem phalaroperef10_Of.calls (a0 : Int) (r1 : ByteArray) (r2 : ByteArray) (r3 : Bool) (r4 : ByteArray) (r5 : Bool) (r6 : Bool) (w : World) (h : phalaroperef10_Of.f a0 = some (r1, r2, r3, r4, r5, r6)) :
    Calls Try.prog 14 #[.int .u8 a0] w fun e w' => e = .returned (.tuple #[.agg #[.string r1, .string r2, .bool r3, .string r4, .bool r5], .bool r6]) ∧ Below w.heap.size w w' := by
  simp only [phalaroperef10_Of.f] at h
  split at h
  · rename_i hb
    have hR := Option.some.inj h
    simp only [Prod.mk.injEq] at hR
    obtain ⟨rfl, rfl, rfl, rfl, rfl, rfl⟩ := hR
    clear h
    cases h0 : X.isOper a0 with
    | true =>
      rcases ref10_cases h0 with rfl | rfl | rfl | rfl | rfl | rfl | rfl | rfl
      · exact ref10_at_0 w
      · exact ref10_at_43 w
      · exact ref10_at_35 w
      · exact ref10_at_46 w
      · exact ref10_at_47 w
      · exact ref10_at_59 w
      · exact ref10_at_63 w
      · exact ref10_at_38 w
    | false =>
      have := X.no_rule h0
      simp only [X.ruleV, Value.agg.injEq, Array.mk.injEq, List.cons.injEq, Value.string.injEq, Value.bool.injEq, and_true] at this
      obtain ⟨e1, e2, e3, e4, e5⟩ := this
      rw [e1, e2, e3, e4, e5]
      exact ref10_no a0 hb h0 w
  · cases h
def phalaroperef02_Digit.f (a0 : Int) : Option (Bool) := if a0 ≥ 48 then (some (decide (a0 ≤ 57))) else (some false)
set_option maxHeartbeats 8000000 in
set_option maxRecDepth 100000 in
theorem phalaroperef02_Digit.calls (a0 : Int) (r : Bool) (w : World) (h : phalaroperef02_Digit.f a0 = some r) :
    Calls Try.prog 30 #[.int .u8 a0] w fun e w' => e = .returned (.bool r) ∧ Drawn0 w w' := by
  have H : (if a0 ≥ 48 then (some (decide (a0 ≤ 57))) else (some false)) = some r := h
  clear h
  by_cases c2 : a0 ≥ 48
  · rw [if_pos c2] at H
    have c2b0 : decide (48 ≤ a0) = true := decide_eq_true c2
    clear c2
    obtain rfl := Option.some.inj H
    go_enter Try.func30, Try.ntmps30
    go_wp2
    go_ret
    exact ⟨by first | rfl | (simp; done) | (simp [*]; done), by repeat (first | exact Drawn0.refl _ | apply Drawn0.step)⟩
  · rw [if_neg c2] at H
    have c2b0 : decide (48 ≤ a0) = false := decide_eq_false c2
    clear c2
    obtain rfl := Option.some.inj H
    go_enter Try.func30, Try.ntmps30
    go_wp2
    go_ret
    exact ⟨by first | rfl | (simp; done) | (simp [*]; done), by repeat (first | exact Drawn0.refl _ | apply Drawn0.step)⟩
def phalaroperef02_Hex.f (a0 : Int) : Option (Bool) := (phalaroperef02_Digit.f a0).bind fun t138 => (if t138 = true then (some true) else (if a0 ≥ 65 then (if a0 ≤ 70 then (some true) else (if a0 ≥ 97 then (some (decide (a0 ≤ 102))) else (some false))) else (if a0 ≥ 97 then (some (decide (a0 ≤ 102))) else (some false))))
set_option maxHeartbeats 8000000 in
set_option maxRecDepth 100000 in
theorem phalaroperef02_Hex.calls (a0 : Int) (r : Bool) (w : World) (h : phalaroperef02_Hex.f a0 = some r) :
    Calls Try.prog 32 #[.int .u8 a0] w fun e w' => e = .returned (.bool r) ∧ Drawn0 w w' := by
  have H : ((phalaroperef02_Digit.f a0).bind fun t138 => (if t138 = true then (some true) else (if a0 ≥ 65 then (if a0 ≤ 70 then (some true) else (if a0 ≥ 97 then (some (decide (a0 ≤ 102))) else (some false))) else (if a0 ≥ 97 then (some (decide (a0 ≤ 102))) else (some false))))) = some r := h
  clear h
  replace H := Option.bind_eq_some_iff.mp H
  obtain ⟨t138, A20, H⟩ := H
  replace H : (if t138 = true then (some true) else (if a0 ≥ 65 then (if a0 ≤ 70 then (some true) else (if a0 ≥ 97 then (some (decide (a0 ≤ 102))) else (some false))) else (if a0 ≥ 97 then (some (decide (a0 ≤ 102))) else (some false)))) = some r := H
  have A2 := Aside0.mk A20
  clear A20
  by_cases c3 : t138 = true
  · subst c3
    have H1 : (some true) = some r := by rw [if_pos rfl] at H; exact H
    clear H
    have H := H1
    clear H1
    obtain rfl := Option.some.inj H
    go_enter Try.func32, Try.ntmps32
    go_wp2_with (first | ((with_reducible refine gate_callee (f := 30) rfl ?_); refine goesL_ (some 4) rfl rfl Try.func30 (by kernel_rfl) rfl #[.int .u8 a0] rfl (by (try simp only [List.map_toArray, List.map_cons, List.map_nil]); first | done | rfl | (simp only [List.length_drop, List.length_take]; rfl)) ?_; (with_reducible refine (phalaroperef02_Digit.calls a0 true _ A2.out).mono ?_); rintro e w' ⟨rfl, ⟨nd, rfl⟩⟩; refine ⟨_, rfl, ?_⟩))
    go_ret
    exact ⟨by first | rfl | (simp; done) | (simp [*]; done), by repeat (first | exact Drawn0.refl _ | apply Drawn0.step)⟩
  · replace c3 := Bool.eq_false_iff.mpr c3
    subst c3
    have H1 : (if a0 ≥ 65 then (if a0 ≤ 70 then (some true) else (if a0 ≥ 97 then (some (decide (a0 ≤ 102))) else (some false))) else (if a0 ≥ 97 then (some (decide (a0 ≤ 102))) else (some false))) = some r := by rw [if_neg (show ¬ (false = true) by decide)] at H; exact H
    clear H
    have H := H1
    clear H1
    by_cases c4 : a0 ≥ 65
    · rw [if_pos c4] at H
      have c4b0 : decide (65 ≤ a0) = true := decide_eq_true c4
      clear c4
      by_cases c5 : a0 ≤ 70
      · rw [if_pos c5] at H
        have c5b0 : decide (a0 ≤ 70) = true := decide_eq_true c5
        clear c5
        obtain rfl := Option.some.inj H
        go_enter Try.func32, Try.ntmps32
        go_wp2_with (first | ((with_reducible refine gate_callee (f := 30) rfl ?_); refine goesL_ (some 4) rfl rfl Try.func30 (by kernel_rfl) rfl #[.int .u8 a0] rfl (by (try simp only [List.map_toArray, List.map_cons, List.map_nil]); first | done | rfl | (simp only [List.length_drop, List.length_take]; rfl)) ?_; (with_reducible refine (phalaroperef02_Digit.calls a0 false _ A2.out).mono ?_); rintro e w' ⟨rfl, ⟨nd, rfl⟩⟩; refine ⟨_, rfl, ?_⟩))
        go_ret
        exact ⟨by first | rfl | (simp; done) | (simp [*]; done), by repeat (first | exact Drawn0.refl _ | apply Drawn0.step)⟩
      · rw [if_neg c5] at H
        have c5b0 : decide (a0 ≤ 70) = false := decide_eq_false c5
        clear c5
        by_cases c6 : a0 ≥ 97
        · rw [if_pos c6] at H
          have c6b0 : decide (97 ≤ a0) = true := decide_eq_true c6
          clear c6
          obtain rfl := Option.some.inj H
          go_enter Try.func32, Try.ntmps32
          go_wp2_with (first | ((with_reducible refine gate_callee (f := 30) rfl ?_); refine goesL_ (some 4) rfl rfl Try.func30 (by kernel_rfl) rfl #[.int .u8 a0] rfl (by (try simp only [List.map_toArray, List.map_cons, List.map_nil]); first | done | rfl | (simp only [List.length_drop, List.length_take]; rfl)) ?_; (with_reducible refine (phalaroperef02_Digit.calls a0 false _ A2.out).mono ?_); rintro e w' ⟨rfl, ⟨nd, rfl⟩⟩; refine ⟨_, rfl, ?_⟩))
          go_ret
          exact ⟨by first | rfl | (simp; done) | (simp [*]; done), by repeat (first | exact Drawn0.refl _ | apply Drawn0.step)⟩
        · rw [if_neg c6] at H
          have c6b0 : decide (97 ≤ a0) = false := decide_eq_false c6
          clear c6
          obtain rfl := Option.some.inj H
          go_enter Try.func32, Try.ntmps32
          go_wp2_with (first | ((with_reducible refine gate_callee (f := 30) rfl ?_); refine goesL_ (some 4) rfl rfl Try.func30 (by kernel_rfl) rfl #[.int .u8 a0] rfl (by (try simp only [List.map_toArray, List.map_cons, List.map_nil]); first | done | rfl | (simp only [List.length_drop, List.length_take]; rfl)) ?_; (with_reducible refine (phalaroperef02_Digit.calls a0 false _ A2.out).mono ?_); rintro e w' ⟨rfl, ⟨nd, rfl⟩⟩; refine ⟨_, rfl, ?_⟩))
          go_ret
          exact ⟨by first | rfl | (simp; done) | (simp [*]; done), by repeat (first | exact Drawn0.refl _ | apply Drawn0.step)⟩
    · rw [if_neg c4] at H
      have c4b0 : decide (65 ≤ a0) = false := decide_eq_false c4
      clear c4
      by_cases c7 : a0 ≥ 97
      · rw [if_pos c7] at H
        have c7b0 : decide (97 ≤ a0) = true := decide_eq_true c7
        clear c7
        obtain rfl := Option.some.inj H
        go_enter Try.func32, Try.ntmps32
        go_wp2_with (first | ((with_reducible refine gate_callee (f := 30) rfl ?_); refine goesL_ (some 4) rfl rfl Try.func30 (by kernel_rfl) rfl #[.int .u8 a0] rfl (by (try simp only [List.map_toArray, List.map_cons, List.map_nil]); first | done | rfl | (simp only [List.length_drop, List.length_take]; rfl)) ?_; (with_reducible refine (phalaroperef02_Digit.calls a0 false _ A2.out).mono ?_); rintro e w' ⟨rfl, ⟨nd, rfl⟩⟩; refine ⟨_, rfl, ?_⟩))
        go_ret
        exact ⟨by first | rfl | (simp; done) | (simp [*]; done), by repeat (first | exact Drawn0.refl _ | apply Drawn0.step)⟩
      · rw [if_neg c7] at H
        have c7b0 : decide (97 ≤ a0) = false := decide_eq_false c7
        clear c7
        obtain rfl := Option.some.inj H
        go_enter Try.func32, Try.ntmps32
        go_wp2_with (first | ((with_reducible refine gate_callee (f := 30) rfl ?_); refine goesL_ (some 4) rfl rfl Try.func30 (by kernel_rfl) rfl #[.int .u8 a0] rfl (by (try simp only [List.map_toArray, List.map_cons, List.map_nil]); first | done | rfl | (simp only [List.length_drop, List.length_take]; rfl)) ?_; (with_reducible refine (phalaroperef02_Digit.calls a0 false _ A2.out).mono ?_); rintro e w' ⟨rfl, ⟨nd, rfl⟩⟩; refine ⟨_, rfl, ?_⟩))
        go_ret
        exact ⟨by first | rfl | (simp; done) | (simp [*]; done), by repeat (first | exact Drawn0.refl _ | apply Drawn0.step)⟩
end Go.Proofs.Ytbjeegkmafbejaa.PE
end
