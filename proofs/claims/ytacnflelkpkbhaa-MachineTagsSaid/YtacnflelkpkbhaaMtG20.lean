/- Texts of this claim, those that nothing needs left out: Zo2. -/
import Derived.Test.YtacnflelkpkbhaaMtG17
import Derived.Test.YtacnflelkpkbhaaMtG19
section
namespace Go.Proofs.Ytacnflelkpkbhaa.PA
set_option linter.unusedSimpArgs false
set_option linter.unusedVariables false
open Go.RowKit Go.Maps Go.Proofs.YtacnflelkpkbhaaW.PrintWords Go.Proofs.YtacnflelkpkbhaaW.PrintLast Go.Proofs.YtacnflelkpkbhaaW.PrintMore
def m4 : List S33 := [⟨2, [], [1, 2], 0, 0⟩, ⟨1, [⟨97, 97, 0⟩], [], 0, 0⟩, ⟨4, [], [], 0, 0⟩]
theorem m4_ok : okM m4 := by
  intro n hn
  simp only [m4, List.mem_cons, List.not_mem_nil, or_false] at hn
  rcases hn with rfl | rfl | rfl <;> simp
theorem m4_may : mayB m4 = true := by decide +kernel
theorem m4_a : acceptsB m4 [] = true := by rw [accepts_ways [] m4_may]; decide +kernel
theorem m4_b : acceptsB m4 [97, 97, 97] = true := by rw [accepts_ways [97, 97, 97] m4_may]; decide +kernel
theorem m4_c : acceptsB m4 [97, 98] = false := by rw [accepts_ways [97, 98] m4_may]; decide +kernel
theorem m4_d : (closeF m4 [0]).length = 3 := by unfold closeF; rw [if_pos m4_may, listF_len]; decide +kernel
theorem edge_row1 {w : World} {B : Nat} {x : S48} (h : w.heap[B]? = some (.cells #[.int .u8 x.f0, .int .u8 x.f1, .int .i64 x.f2] 48 (0, 0))) : Kd.C k48 w (some ⟨B, 0, none⟩) 1 [x] := by
  have ho : w.ownsRow B 48 3 (.slice (some ⟨B, 0, none⟩) 1 1) 1 [.int .u8 x.f0, .int .u8 x.f1, .int .i64 x.f2] := ⟨rfl, .inr ⟨B, 1, _, rfl, Nat.le_refl _, h, Nat.le_refl _, by unfold maxLen; omega, rfl, rfl⟩⟩
  obtain ⟨A, c, hv, _, hc⟩ := OwnRow.reads (ps := [x]) ⟨_, ho, (Reps.none (k48.K w) 3).snoc (k48_mk w x) rfl⟩
  injection hv with hv1
  rw [hv1]
  exact hc
def nodesO (w : World) : Obj := .cells #[.int .i64 2, .slice none 0 0, .slice (some ⟨w.heap.size, 0, none⟩) 2 2, .int .i64 0, .int .i64 0, .int .i64 1, .slice (some ⟨w.heap.size + 1, 0, none⟩) 1 1, .slice none 0 0, .int .i64 0, .int .i64 0, .int .i64 4, .slice none 0 0, .slice none 0 0, .int .i64 0, .int .i64 0] 33
def w4 (w : World) : World := ((w.alloc (.cells #[.int .i64 1, .int .i64 2] 3)).alloc (.cells #[.int .u8 97, .int .u8 97, .int .i64 0] 48)).alloc (nodesO w)
theorem w4_below (w : World) : Below w.heap.size w (w4 w) := by
  unfold w4
  have h1 := X.below_new2 w (.cells #[.int .i64 1, .int .i64 2] 3) (.cells #[.int .u8 97, .int .u8 97, .int .i64 0] 48)
  exact h1.trans ((X.below_new1 _ _).mono h1.size)
theorem m4_row (w : World) : Kd.C k33 (w4 w) (some ⟨w.heap.size + 2, 0, none⟩) 3 m4 := by
  obtain ⟨W, hW⟩ : ∃ W, W = w4 w := ⟨_, rfl⟩
  have h1 := World.ownsRow_lit (base := w.heap.size) (e := 3) (size := 1) w #[.int .i64 1, .int .i64 2] 2 (Nat.le_refl _) (by simp [maxLen]) (by simp)
  obtain ⟨A, c, hv, hl, hc⟩ := ints_row (l := [1, 2]) (by simpa using h1)
  injection hv with hv1 hv2 hv3
  subst hv1
  subst hv3
  have hc2 : Kd.C (Kd.int .i64) W (some ⟨w.heap.size, 0, none⟩) 2 [1, 2] := by rw [hW]; exact Kd.C_alloc (Kd.C_alloc hc _) _
  have he : W.heap[w.heap.size + 1]? = some (.cells #[.int .u8 97, .int .u8 97, .int .i64 0] 48 (0, 0)) := by rw [hW]; exact blk_alloc (X.blk_new2 w _ _) _
  have hE : Kd.C k48 W (some ⟨w.heap.size + 1, 0, none⟩) 1 [⟨97, 97, 0⟩] := edge_row1 (x := ⟨97, 97, 0⟩) he
  have h2 := World.ownsRow_lit (base := w.heap.size) (e := 33) (size := 5) ((w.alloc (.cells #[.int .i64 1, .int .i64 2] 3)).alloc (.cells #[.int .u8 97, .int .u8 97, .int .i64 0] 48)) #[.int .i64 2, .slice none 0 0, .slice (some ⟨w.heap.size, 0, none⟩) 2 2, .int .i64 0, .int .i64 0, .int .i64 1, .slice (some ⟨w.heap.size + 1, 0, none⟩) 1 1, .slice none 0 0, .int .i64 0, .int .i64 0, .int .i64 4, .slice none 0 0, .slice none 0 0, .int .i64 0, .int .i64 0] 3 (by simp; omega) (by simp [maxLen]) (by simp)
  have k1 := k33_mk W ⟨2, [], [1, 2], 0, 0⟩ (A1 := none) (c1 := 0) (Nat.le_refl _) (X.C_nil _ _) (A2 := some ⟨w.heap.size, 0, none⟩) (c2 := 2) (Nat.le_refl _) hc2
  have k2 := k33_mk W ⟨1, [⟨97, 97, 0⟩], [], 0, 0⟩ (A1 := some ⟨w.heap.size + 1, 0, none⟩) (c1 := 1) (Nat.le_refl _) hE (A2 := none) (c2 := 0) (Nat.le_refl _) (X.C_nil _ _)
  have k3 := k33_mk W ⟨4, [], [], 0, 0⟩ (A1 := none) (c1 := 0) (Nat.le_refl _) (X.C_nil _ _) (A2 := none) (c2 := 0) (Nat.le_refl _) (X.C_nil _ _)
  have hr := ((((Reps.none (k33.K W) 5).snoc k1 rfl).snoc k2 rfl).snoc k3 rfl)
  have h3 : W.ownsRow w.heap.size 33 5 (.slice (some ⟨w.heap.size + 2, 0, none⟩) 3 3) 3 [.int .i64 2, .slice none 0 0, .slice (some ⟨w.heap.size, 0, none⟩) 2 2, .int .i64 0, .int .i64 0, .int .i64 1, .slice (some ⟨w.heap.size + 1, 0, none⟩) 1 1, .slice none 0 0, .int .i64 0, .int .i64 0, .int .i64 4, .slice none 0 0, .slice none 0 0, .int .i64 0, .int .i64 0] := by
    rw [hW]
    simpa [w4, nodesO, X.size_alloc1] using h2
  obtain ⟨A, c, hv, hl, hC⟩ := nodes_row (l := m4) h3 rfl (by simpa [m4] using hr)
  injection hv with hv1 _ hv3
  rw [← hv1, hW] at hC
  exact hC
set_option maxHeartbeats 8000000 in
set_option maxRecDepth 100000 in
theorem awake_walk (w : World) : Calls Try.prog 9 #[] w fun e W' => e = .returned (.bool true) ∧ Below w.heap.size w W' := by
  have HC := Aside0.mk (m4_row w)
  have HB := Aside0.mk (w4_below w)
  have hw : ((w.alloc (.cells #[.int .i64 1, .int .i64 2] 3)).alloc (.cells #[.int .u8 97, .int .u8 97, .int .i64 0] 48)).alloc (.cells #[.int .i64 2, .slice none 0 0, .slice (some ⟨w.heap.size, 0, none⟩) 2 2, .int .i64 0, .int .i64 0, .int .i64 1, .slice (some ⟨w.heap.size + 1, 0, none⟩) 1 1, .slice none 0 0, .int .i64 0, .int .i64 0, .int .i64 4, .slice none 0 0, .slice none 0 0, .int .i64 0, .int .i64 0] 33) = w4 w := rfl
  have HW := Aside0.mk hw
  clear hw
  go_enter Try.func9, Try.ntmps9
  go_wp2_with fail
  rw [HW.out]
  generalize w4 w = W at HC HB HW ⊢
  have h0 := fun (W' : World) (hb : Below W.heap.size W W') => may_any (some ⟨w.heap.size + 2, 0, none⟩) 3 m4 W' (Kd.C_below HC.out hb) m4_ok
  have h1 := fun (W' : World) (hb : Below W.heap.size W W') => Accepts_any (some ⟨w.heap.size + 2, 0, none⟩) 3 m4 ⟨#[]⟩ W' (Kd.C_below HC.out hb) m4_ok (by decide)
  have h2 := fun (W' : World) (hb : Below W.heap.size W W') => Accepts_any (some ⟨w.heap.size + 2, 0, none⟩) 3 m4 ⟨#[97, 97, 97]⟩ W' (Kd.C_below HC.out hb) m4_ok (by decide)
  have h3 := fun (W' : World) (hb : Below W.heap.size W W') => Accepts_any (some ⟨w.heap.size + 2, 0, none⟩) 3 m4 ⟨#[97, 98]⟩ W' (Kd.C_below HC.out hb) m4_ok (by decide)
  have h4 := fun (W' : World) (A1 : Option Addr) (hb : Below W.heap.size W W') (h1 : Kd.C (Kd.int .i64) W' A1 1 [0]) => Close_any (some ⟨w.heap.size + 2, 0, none⟩) 3 m4 A1 1 [0] W' (Kd.C_below HC.out hb) h1 m4_ok (fun t ht => by rw [List.mem_singleton] at ht; subst ht; exact wf_small (by omega) (by omega)) (by simp)
  simp only [show (⟨#[]⟩ : ByteArray).data.toList = [] from rfl, show (⟨#[97, 97, 97]⟩ : ByteArray).data.toList = [97, 97, 97] from rfl, show (⟨#[97, 98]⟩ : ByteArray).data.toList = [97, 98] from rfl, m4_may, m4_a, m4_b, m4_c, show m4.length = 3 from rfl] at h0 h1 h2 h3 h4
  have H0 := Aside0.mk h0
  have H1 := Aside0.mk h1
  have H2 := Aside0.mk h2
  have H3 := Aside0.mk h3
  have H4 := Aside0.mk h4
  clear h0 h1 h2 h3 h4
  refine (H0.out W (Below.refl _ _)).mono ?_
  rintro e x1 ⟨rfl, hb⟩
  have X1 := Aside0.mk hb
  clear hb
  go_wp2_with fail
  refine (H1.out x1 X1.out).mono ?_
  rintro e x2 ⟨rfl, hb⟩
  have X2 := Aside0.mk (below_step X1.out hb)
  clear hb
  go_wp2_with fail
  refine (H2.out x2 X2.out).mono ?_
  rintro e x3 ⟨rfl, hb⟩
  have X3 := Aside0.mk (below_step X2.out hb)
  clear hb
  go_wp2_with fail
  refine (H3.out x3 X3.out).mono ?_
  rintro e x4 ⟨rfl, hb⟩
  have X4 := Aside0.mk (below_step X3.out hb)
  clear hb
  go_wp2_with fail
  have hb5 := X.below_new1 x4 (.cells #[.int .i64 0] 3)
  have hrow : Kd.C (Kd.int .i64) (x4.alloc (.cells #[.int .i64 0] 3)) (some ⟨x4.heap.size, 0, none⟩) 1 [0] := by
    have h1 := World.ownsRow_lit (base := x4.heap.size) (e := 3) (size := 1) x4 #[.int .i64 0] 1 (Nat.le_refl _) (by simp [maxLen]) (by simp)
    obtain ⟨A', c', hv, hl, hc⟩ := ints_row (l := [0]) (by simpa using h1)
    injection hv with hv1 hv2 hv3
    rw [← hv1] at hc
    exact hc
  have X5 := Aside0.mk (below_step X4.out hb5)
  refine (H4.out _ _ X5.out hrow).mono ?_
  rintro e x6 ⟨v, rfl, ho, hb⟩
  obtain ⟨A6, c6, rfl, _, _⟩ := ints_row ho
  rw [m4_d]
  have X6 := Aside0.mk (below_step X5.out hb)
  clear hb ho hrow hb5
  go_wp2_with fail
  go_ret
  exact ⟨rfl, HB.out.trans (X6.out.mono HB.out.size)⟩
end Go.Proofs.Ytacnflelkpkbhaa.PA
end
