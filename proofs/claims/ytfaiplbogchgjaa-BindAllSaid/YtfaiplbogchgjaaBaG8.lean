/- Texts of this claim, those that nothing needs left out: Xye. -/
import Derived.Test.YtfaiplbogchgjaaBaG7
import Derived.RangeFuncNested
import Derived.Stop.RegionWithIn
section
namespace Go.Proofs.Ytfaiplbogchgjaa.X
set_option linter.unusedSimpArgs false
set_option linter.unusedVariables false
open Go.RowKit Go.Shelf Go.Maps Go.Proofs.YtfaiplbogchgjaaW.PrintWords
attribute [local go_sem] Oper.semAt_some
def Keeps2 (B0 Bs Bn : Nat) (W W' : World) : Prop := Below B0 W W' ∧ W'.heap[Bs]? = W.heap[Bs]? ∧ W'.heap[Bn]? = W.heap[Bn]?
set_option maxRecDepth 100000 in
set_option maxHeartbeats 4000000 in
theorem chunkIter_in (F : Fence) (n : Nat) (hf : F.fn 72) (hro : F.round = none) (hn : 1 ≤ n) (l B0 Bs Bn : Nat) (ad : Addr) (m N c : Nat) (hN : N = 2 * m) (hx : N ≤ 1000000) (hc : N ≤ c) (J Jx : Nat → World → Prop)
    (W : World) (hbs : W.heap[Bs]? = some (.cells #[.slice (some ad) N c] 25 (0, 0))) (hbn : W.heap[Bn]? = some (.cells #[.int .i64 2] 3 (0, 0)))
    (hY : ∀ i q (h : i < m) W1, q = 2 * i → J i W1 → YieldAt F (n - 1) Try.prog l #[.slice (some (ad.add q)) 2 2] W1 fun e W' => (e = .returned (.bool true) ∧ J (i + 1) W' ∧ Keeps2 B0 Bs Bn W1 W') ∨ (e = .returned (.bool false) ∧ Jx (i + 1) W'))
    (hJd : ∀ i W1, J i W1 → J i W1.drew) (h0 : J 0 W) :
    CallsIn F n Try.prog 72 #[.func (.yield l) #[] #[], .pointer (some ⟨Bs, 0, none⟩), .pointer (some ⟨Bn, 0, none⟩)] W fun e W' => (∃ v, e = .returned v) ∧
      (J m W' ∨ (∃ pre : Nat, Jx pre W')) := by
  refine callsIn_of_wp Try.func72 rfl hf ?_ hro
  simp only [Try.ntmps72, List.size_toArray, List.length_cons, List.length_nil, Nat.reduceAdd, Nat.reduceSub, Array.replicate_succ, Array.replicate_zero, List.push_toArray, List.append_toArray, List.nil_append, List.cons_append]
  have hc0 := cell_of_one hbs
  have hc1 := cell_of_one hbn
  gi_wp2
  gi_loopw [4, 5] (fun v u wr => ∃ j q : Nat, q = 2 * j ∧ j ≤ m ∧ v = .int .i64 (q : Int) ∧ Below B0 W wr ∧ wr.heap[Bs]? = some (.cells #[.slice (some ad) N c] 25 (0, 0)) ∧ wr.heap[Bn]? = some (.cells #[.int .i64 2] 3 (0, 0)) ∧ J j wr)
    (fun v _ _ => (N - intOf v).toNat)
  case atStart =>
    exact ⟨0, 0, rfl, Nat.zero_le _, rfl, Below.refl _ _, hbs, hbn, h0⟩
  case round =>
    obtain ⟨j, q, hq, hj, rfl, hb, hbs', hbn', hJ⟩ := hrel
    have hc0' := cell_of_one hbs'
    have hc1' := cell_of_one hbn'
    clear hc0 hc1 h0
    by_cases hlt : j < m
    · obtain ⟨fn, tmps, assign, body, hy, hR⟩ := hY _ q hlt wr.drew hq (hJd _ _ hJ)
      have d1 : decide (q < N) = true := decide_eq_true (by omega)
      have d2 : (c = q) = False := eq_false (by omega)
      have d3 : q ≤ N := by omega
      have d4 : (((N - q : Nat) : Int) < 2) = False := eq_false (by omega)
      have d5 : (q : Int) + 2 ≤ c := by omega
      have d6 : q + 2 ≤ c := by omega
      have d7 : wrap64 ((q : Int) + 2) = ((q + 2 : Nat) : Int) := by unfold wrap64; omega
      have d8 : 2 ≤ c - q := by omega
      have HQ := Aside0.mk hq
      have HN := Aside0.mk hN
      clear hq hN
      gi_wp2
      gi_region
      all_goals
        gi_wp2
        have d9 : (wr.drew).heap = wr.heap := rfl
        refine hR.mono ?_
        rintro e W3 (⟨rfl, hJ3, hk3⟩ | ⟨rfl, hJx3⟩)
        · have hc3 := cell_of_one (hk3.2.2.trans hbn')
          gi_wp2
          go_roundw
          case rel => exact ⟨j + 1, q + 2, by have := HQ.out; omega, by omega, by go_num, (hb.trans (Below.refl _ wr).drew).trans hk3.1, hk3.2.1.trans hbs', hk3.2.2.trans hbn', hJ3⟩
          case measure => (have e1 := HQ.out; have e2 := HN.out; have e3 : wrap64 ((q : Int) + 2) = (q : Int) + 2 := (by unfold wrap64; omega); first | (simp [intOf, e3]; omega) | (simp [intOf]; rw [e3]; omega))
        · gi_wp2
          refine bodyPost_ret (results_none rfl _ _ _) rfl ?_
          exact ⟨⟨_, rfl⟩, .inr ⟨_, hJx3⟩⟩
    · have d1 : decide (q < N) = false := decide_eq_false (by omega)
      obtain rfl : j = m := by omega
      gi_wp2
      go_end0
      exact ⟨⟨_, rfl⟩, .inl hJ⟩
end Go.Proofs.Ytfaiplbogchgjaa.X
end
