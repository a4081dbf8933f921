/- Texts of this claim, those that nothing needs left out: Xyh. -/
import Derived.Test.YtfaiplbogchgjaaBaG10
section
namespace Go.Proofs.Ytfaiplbogchgjaa.X
set_option linter.unusedSimpArgs false
set_option linter.unusedVariables false
open Go.RowKit Go.Shelf Go.Maps Go.Proofs.YtfaiplbogchgjaaW.PrintWords Go.Proofs.YtfaiplbogchgjaaW.PrintLast Go.Proofs.YtfaiplbogchgjaaW.PrintMore
attribute [local go_sem] Oper.semAt_some
set_option maxRecDepth 100000 in
theorem run_field0 (k : IntKind) (i : Int) (b c d : Value) (w : World) : (Instr.field 28 (.agg #[.int k i, b, c, d]) 0).run Try.prog w = .ok (.int k i) w := by
  kernel_rfl
set_option maxRecDepth 100000 in
set_option maxHeartbeats 8000000 in
theorem of_one (A : Option Addr) (c : Nat) (x : ByteArray) (w : World) (hr : Kd.C Kd.string w A 1 [x]) :
    Calls Try.prog 48 #[.int .i64 1, .slice A 1 c] w fun e W' => e = .returned (.tuple #[.agg #[.int .i64 1, .string x, .slice none 0 0, .slice none 0 0], .bool true]) ∧ Below w.heap.size w W' := by
  obtain ⟨ad, rfl, hrow⟩ := hr.2.2 (by omega)
  have e0 : w.cell? ad = some (.string x) := by simpa [gAt, Addr.add] using cell_str hr 0 (by omega)
  have hlt := World.block_lt_of_cell? _ _ e0
  have e2 : ((w.alloc (.cells #[.int .i64 0, .string ⟨#[]⟩, .slice none 0 0, .slice none 0 0] 28)).alloc (.cells #[.int .i64 1, .string ⟨#[]⟩, .slice none 0 0, .slice none 0 0] 28)).cell? ad = some (.string x) := by
    rw [World.cell?_alloc_lt _ _ _ (by rw [size_alloc1]; omega), World.cell?_alloc_lt _ _ _ hlt, e0]
  have HR := Aside0.mk hr
  clear hr
  go_enter Try.func48, Try.ntmps48
  go_wp2_with fail
  refine bodyPost_ret (results_ct rfl _ _ w.heap.size 28 _ (0, 0) _ rfl (blk_alloc (blk_new _ _) _) Try.underlying28 rfl (by kernel_rfl)) rfl ⟨rfl, below_new2 w _ _⟩
set_option maxRecDepth 100000 in
set_option maxHeartbeats 8000000 in
theorem of_two (A : Option Addr) (n c : Nat) (l : List ByteArray) (hl : l.length = n) (hn : 0 < n) (hx : n ≤ 1000000) (hc : n ≤ c) (w : World) (hr : Kd.C Kd.string w A n l) :
    Calls Try.prog 48 #[.int .i64 2, .slice A n c] w fun e W' => ∃ v2, e = .returned (.tuple #[.agg #[.int .i64 2, .string ⟨#[]⟩, v2, .slice none 0 0], .bool true]) ∧ Kd.R Kd.string 9 W' w.heap.size (fun _ => True) v2 l ∧ Below w.heap.size w W' := by
  subst hl
  have d1 : decide (l.length > 0) = true := decide_eq_true (by omega)
  have d2 : decide (0 < l.length) = true := decide_eq_true (by omega)
  have HR := Aside0.mk hr
  clear hr
  go_enter Try.func48, Try.ntmps48
  go_wp2_with fail
  refine (cloneS_any A c l _ (Kd.C_below HR.out (below_new2 w _ _)) hc (by omega)).mono ?_
  rintro e w2 ⟨v2, rfl, hv, hb⟩
  obtain ⟨A2, c2, rfl, _, _⟩ := Kd.R_reads hv
  have hbw := below_step (w := w) (below_new2 w _ _) hb
  have k0 := blk_below (blk_alloc (blk_new w (.cells #[.int .i64 0, .string ⟨#[]⟩, .slice none 0 0, .slice none 0 0] 28)) (.cells #[.int .i64 2, .string ⟨#[]⟩, .slice none 0 0, .slice none 0 0] 28)) hb
  have k1 := blk_below (blk_new2 w (.cells #[.int .i64 0, .string ⟨#[]⟩, .slice none 0 0, .slice none 0 0] 28) (.cells #[.int .i64 2, .string ⟨#[]⟩, .slice none 0 0, .slice none 0 0] 28)) hb
  have c0 := cells4 k0
  have c1 := cells4 k1
  have hv' : Kd.R Kd.string 9 w2 w.heap.size (fun k => k ≠ w.heap.size ∧ k ≠ w.heap.size + 1) (.slice A2 l.length c2) l := by
    refine Kd.R_mono (Kd.R_lower (Kd.R_bound hv) ?_) (fun k hk => ?_)
    · rw [size_alloc1, size_alloc1]; omega
    · have := hk.2.1
      rw [size_alloc1, size_alloc1] at this
      exact ⟨by omega, by omega⟩
  have K0 := Aside0.mk k0
  have K1 := Aside0.mk k1
  have HV := Aside0.mk hv'
  have HB := Aside0.mk hbw
  clear k0 k1 hv hb hbw hv'
  go_wp2_with fail
  have k0 := K0.out
  have k2 := blk_put (blk_put (blk_put (blk_put ((Below.heap_setCell w2 ⟨w.heap.size + 1, 2, none⟩ (.slice A2 l.length c2) w.heap.size (by show w.heap.size ≠ w.heap.size + 1; omega)).trans k0) 0 (.int .i64 2) rfl) 1 (.string ⟨#[]⟩) rfl) 2 (.slice A2 l.length c2) rfl) 3 (.slice none 0 0) rfl
  refine bodyPost_ret (results_ct rfl _ _ w.heap.size 28 _ (0, 0) _ rfl k2 Try.underlying28 rfl (by kernel_rfl)) rfl ⟨_, rfl, ?_, ?_⟩
  · refine Kd.R_mono (ok := fun k => k ≠ w.heap.size ∧ k ≠ w.heap.size + 1) ?_ (fun _ _ => trivial)
    exact Kd.R_far (Kd.R_far (Kd.R_far (Kd.R_far (Kd.R_far HV.out (fun k hk => hk.2) _) (fun k hk => hk.1) _) (fun k hk => hk.1) _) (fun k hk => hk.1) _) (fun k hk => hk.1) _
  · exact below_set (below_set (below_set (below_set (below_set HB.out (by omega)) (Nat.le_refl _)) (Nat.le_refl _)) (Nat.le_refl _)) (Nat.le_refl _)
set_option maxRecDepth 100000 in
set_option maxHeartbeats 8000000 in
theorem of_not (k : Int) (A : Option Addr) (n c : Nat) (h1 : k = 1 → n ≠ 1) (h2 : k = 2 → n = 0) (h3 : k = 3 → n = 0 ∨ n % 2 = 1) (w : World) :
    Calls Try.prog 48 #[.int .i64 k, .slice A n c] w fun e W' => e = .returned (.tuple #[.agg #[.int .i64 0, .string ⟨#[]⟩, .slice none 0 0, .slice none 0 0], .bool false]) ∧ Below w.heap.size w W' := by
  by_cases e1 : k = 1
  · have g : ((n : Int) == 1) = false := by have := h1 e1; simp; omega
    subst e1
    clear h1 h2 h3
    go_enter Try.func48, Try.ntmps48
    go_wp2_with fail
    refine bodyPost_ret (results_ct rfl _ _ w.heap.size 28 _ (0, 0) _ rfl (blk_alloc (blk_new _ _) _) Try.underlying28 rfl (by kernel_rfl)) rfl ⟨rfl, below_new2 w _ _⟩
  by_cases e2 : k = 2
  · obtain rfl := h2 e2
    subst e2
    clear e1 h1 h2 h3
    go_enter Try.func48, Try.ntmps48
    go_wp2_with fail
    refine bodyPost_ret (results_ct rfl _ _ w.heap.size 28 _ (0, 0) _ rfl (blk_alloc (blk_new _ _) _) Try.underlying28 rfl (by kernel_rfl)) rfl ⟨rfl, below_new2 w _ _⟩
  by_cases e3 : k = 3
  · subst e3
    by_cases hn : n = 0
    · subst hn
      clear e1 e2 h1 h2 h3
      go_enter Try.func48, Try.ntmps48
      go_wp2_with fail
      refine bodyPost_ret (results_ct rfl _ _ w.heap.size 28 _ (0, 0) _ rfl (blk_alloc (blk_new _ _) _) Try.underlying28 rfl (by kernel_rfl)) rfl ⟨rfl, below_new2 w _ _⟩
    · have g0 : decide (n > 0) = true := decide_eq_true (by omega)
      have g1 : decide (0 < n) = true := decide_eq_true (by omega)
      have g : ((n : Int) % 2 == 0) = false := by have := h3 rfl; simp; omega
      clear e1 e2 h1 h2 h3 hn
      go_enter Try.func48, Try.ntmps48
      go_wp2_with fail
      refine bodyPost_ret (results_ct rfl _ _ w.heap.size 28 _ (0, 0) _ rfl (blk_alloc (blk_new _ _) _) Try.underlying28 rfl (by kernel_rfl)) rfl ⟨rfl, below_new2 w _ _⟩
  · have g1 : (k == 1) = false := by simpa using e1
    have g2 : (k == 2) = false := by simpa using e2
    have g3 : (k == 3) = false := by simpa using e3
    clear e1 e2 e3 h1 h2 h3
    go_enter Try.func48, Try.ntmps48
    go_wp2_with fail
    refine bodyPost_ret (results_ct rfl _ _ w.heap.size 28 _ (0, 0) _ rfl (blk_alloc (blk_new _ _) _) Try.underlying28 rfl (by kernel_rfl)) rfl ⟨rfl, below_new2 w _ _⟩
end Go.Proofs.Ytfaiplbogchgjaa.X
end
