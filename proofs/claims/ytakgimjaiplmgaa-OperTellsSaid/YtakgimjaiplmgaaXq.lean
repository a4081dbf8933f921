/- maps.Keys at the operators' rules, slices.AppendSeq, slices.Collect at bytes: all keys, in some order. -/
import Derived.RangeFuncBox
import Derived.RangeFuncLeaves
import Derived.RangeFuncStops
import Derived.RangeFuncMany
import Derived.RangeFuncWrites
import Derived.Shelf.Abstract
import Derived.WalkKit
import Derived.OwnWalkIn
import Derived.TacticsInMore
import Derived.LoopNIn
import Derived.LoopIn
import Derived.Sort.MapsRangeIn
import Derived.Maps.AppendAt
import Derived.Test.YtakgimjaiplmgaaXo
namespace Go.Proofs.Ytakgimjaiplmgaa.X
set_option linter.unusedSimpArgs false
set_option linter.unusedVariables false
open Go.RowKit Go.Shelf Go.Maps Go.Proofs.YtakgimjaiplmgaaW.PrintWords
attribute [local go_sem] Oper.semAt_some
theorem keyOf_u8 {k : TypeId} (hk : Try.prog.underlying k = some (.int .u8)) {key : Value} {kl : Lit} (h : keyOf Try.prog k key = some kl) : ∃ x : Int, key = .int .u8 x ∧ kl = .int .u8 x := by
  cases key <;> simp [keyOf, hk, mapKey] at h
  rename_i q a
  obtain ⟨⟨rfl, hw⟩, rfl⟩ := h
  exact ⟨a, rfl, rfl⟩
/-- No key twice; a key is here just where the map has it and it is no longer to come. -/
def GotU (D0 : DataW Unit) (left : Lit → Bool) (ss : List Int) : Prop := ss.Nodup ∧ ∀ x, x ∈ ss ↔ (has D0 (.int .u8 x) = true ∧ left (.int .u8 x) = false)
theorem GotU.start (D0 : DataW Unit) : GotU D0 (has D0) [] := ⟨List.nodup_nil, fun x => by cases has D0 (.int .u8 x) <;> simp⟩
theorem GotU.step {D0 : DataW Unit} {left : Lit → Bool} {ss : List Int} (h : GotU D0 left ss) {x : Int} {y : DataW Unit} (hlk : left (.int .u8 x) = true) (hat : ∀ zd, D0.atKey (.int .u8 x) zd = y) :
    GotU D0 (fun z => left z && !z.sameKey (.int .u8 x)) (ss ++ [x]) := by
  have hhas : has D0 (.int .u8 x) = true := has_true_of_atKey hat
  have hnew : x ∉ ss := fun hx => by have := ((h.2 x).1 hx).2; rw [hlk] at this; cases this
  refine ⟨List.nodup_append.2 ⟨h.1, by simp, fun a ha b hb => by simp at hb; subst hb; exact fun e => hnew (e ▸ ha)⟩, fun y => ?_⟩
  by_cases hy : y = x
  · subst hy; simp [hhas, Lit.sameKey]
  · simp [h.2 y, hy, Lit.sameKey]
set_option maxRecDepth 100000 in
set_option maxHeartbeats 2000000 in
theorem keysIter_in (F : Fence) (n : Nat) (hf : F.fn 21) (hro : F.round = none) (hn : 1 ≤ n) (l Bm b nn : Nat) (D0 : DataW Unit) (J Jx : List Int → World → Prop)
    (hY : ∀ pre x W, J pre W → pre.length < Maps.size D0 → YieldAt F (n - 1) Try.prog l #[.int .u8 x] W fun e W' =>
      (e = .returned (.bool true) ∧ J (pre ++ [x]) W' ∧ KeepsWalks W W') ∨ (e = .returned (.bool false) ∧ Jx (pre ++ [x]) W'))
    (W : World) (hJ : AbidesFrom W.heap.size J) (hm : W.cell? ⟨Bm, 0, none⟩ = some (.map (some b))) (hown : W.ownsMap Try.prog 5 ruleR b nn D0) (h0 : J [] W) :
    CallsIn F n Try.prog 21 #[.func (.yield l) #[] #[], .pointer (some ⟨Bm, 0, none⟩)] W fun e W' => (∃ v, e = .returned v) ∧
      ((∃ ss : List Int, (ss.Nodup ∧ ∀ x, x ∈ ss ↔ has D0 (.int .u8 x) = true) ∧ J ss W') ∨ (∃ pre : List Int, True ∧ Jx pre W')) := by
  refine callsIn_of_wp Try.func21 rfl hf ?_ hro
  simp only [Try.ntmps21, List.size_toArray, List.length_cons, List.length_nil, Nat.reduceAdd, Nat.reduceSub, Array.replicate_succ, Array.replicate_zero, List.push_toArray, List.append_toArray, List.nil_append, List.cons_append]
  gi_wp2_with (first
    | (gi_at_range; refine wpListIn_range_own _ rfl _ 34 rfl 5 24 (int_keyed Try.underlying5) Try.underlying34 _ b nn _ rfl hown ?_; intro w0 hrg0 hg0 hs0)
    | gi_in)
  go_frame
  gi_loopw [3] (fun _ wr => ∃ (left : Lit → Bool) (cnt : Nat) (ss : List Int), wr.ranges Try.prog 5 ruleR b W.heap.size nn D0 left cnt ∧ ss.length + cnt ≤ Maps.size D0 ∧ GotU D0 left ss ∧ J ss wr)
    (fun _ wr => wr.rangeLeft b W.heap.size)
  case atStart =>
    exact ⟨_, _, [], hrg0, by simp, GotU.start D0, hJ [] W w0 none h0 hg0 (fun r e => by cases e)⟩
  case round =>
    obtain ⟨left, cnt, ss, hrg, hcs, hC, hJs⟩ := hrel
    gi_wp2_with (first
      | (gi_at_next; refine wpListIn_next_ranges _ rfl _ rfl 5 (int_keyed Try.underlying5) ruleR (fun x : Int => Value.int .u8 x) id (fun key kl hk => by obtain ⟨x, hx, _⟩ := keyOf_u8 Try.underlying5 hk; exact ⟨x, hx⟩) (fun v _ _ => ⟨v, rfl⟩) b W.heap.size nn _ _ _ rfl hrg ?_ ?_)
      | gi_in)
    · intro hc0 hl0
      gi_wp2
      go_end0
      exact ⟨⟨_, rfl⟩, .inl ⟨ss, ⟨hC.1, fun x => by rw [hC.2 x, hl0]; simp⟩, hJs⟩⟩
    · intro x c kl yd yp w2 cnt2 hkey hlk hv hat hrg2 hlt hg2 hs2 hen
      obtain ⟨x', ex, rfl⟩ := keyOf_u8 Try.underlying5 hkey
      obtain rfl : x = x' := by simpa using ex
      have hJ2 : J ss w2 := hJ ss wr w2 (some W.heap.size) hJs hg2 (fun r e => by cases e; exact ⟨Nat.le_refl _, hrg.iter_walk⟩)
      obtain ⟨fn, tmps, assign, body, hy, hR⟩ := hY ss x w2 hJ2 (by omega)
      clear hs2
      gi_wp2
      refine hR.mono ?_
      have hC2 := hC.step hlk hat
      rintro e W3 (⟨rfl, hJ3, hk3⟩ | ⟨rfl, hJx3⟩)
      · gi_wp2
        have hrg3 := hrg2.of_walks hk3
        go_roundw
        case rel => exact ⟨_, cnt2, ss ++ [x], hrg3, by simp; omega, hC2, hJ3⟩
        case measure => rw [hrg3.left_eq, hrg.left_eq]; exact hlt
      · gi_wp2
        refine bodyPost_ret (results_none rfl _ _ _) rfl ?_
        exact ⟨⟨_, rfl⟩, .inr ⟨ss ++ [x], trivial, hJx3⟩⟩
theorem keys_stopsU (F : Fence) (n : Nat) (hf : F.fn 21) (hro : F.round = none) (hn : 1 ≤ n) (Bm b nn : Nat) (D0 : DataW Unit) (w : World) (hBm : Bm < w.heap.size)
    (hm : w.cell? ⟨Bm, 0, none⟩ = some (.map (some b))) (hown : w.ownsMap Try.prog 5 ruleR b nn D0) :
    SeqStopsK F n Try.prog 21 #[.pointer (some ⟨Bm, 0, none⟩)] (fun x : Int => #[Value.int .u8 x]) KeepsWalks (fun ss => ss.Nodup ∧ ∀ x, x ∈ ss ↔ has D0 (.int .u8 x) = true) (fun _ => True) (Maps.size D0) w := fun l J Jx W hW hJ _ hY h0 => by
  have hown' : W.ownsMap Try.prog 5 ruleR b nn D0 := by
    have hbl := hown.lt
    obtain ⟨es, clock, hb, Ft, hs, hD⟩ := hown
    exact ⟨es, clock, (hW.block b hbl).trans hb, Ft, hs, hD⟩
  exact keysIter_in F n hf hro hn l Bm b nn D0 J Jx hY W hJ ((hW.cell (p := ⟨Bm, 0, none⟩) hBm).trans hm) hown' h0
theorem infoU8 : (Try.prog.info? 5).map (fun i => (i.zero, i.size, i.bytes)) = some (some (.int .u8 0), 1, 1) := by kernel_rfl
set_option maxRecDepth 100000 in
set_option maxHeartbeats 4000000 in
theorem appendSeqU_in (F : Fence) (n : Nat) (hs : F.fn 23) (hf : F.fn 21) (hro : F.round = none) (hn : 3 ≤ n) (Bm b nn : Nat) (D0 : DataW Unit) (hsz : Maps.size D0 ≤ 1000) (w : World) (hBm : Bm < w.heap.size)
    (hm : w.cell? ⟨Bm, 0, none⟩ = some (.map (some b))) (hown : w.ownsMap Try.prog 5 ruleR b nn D0) :
    CallsIn F n Try.prog 23 #[.slice none 0 0, .func (.func 21) #[] #[.pointer (some ⟨Bm, 0, none⟩)]] w fun e W' =>
      ∃ (v : Value) (ss : List Int), e = .returned v ∧ (ss.Nodup ∧ ∀ x, x ∈ ss ↔ has D0 (.int .u8 x) = true) ∧ W'.ownsRow w.heap.size 5 1 v ss.length (ss.map (Value.int .u8)) ∧ Below w.heap.size w W' := by
  have h1 : 1 ≤ n := by omega
  obtain ⟨i0, hi, hz0, hz1, hz2⟩ := info_parts infoU8
  refine callsIn_of_wp_marks Try.func23 rfl hs ?_ hro
  simp only [Try.ntmps23, List.size_toArray, List.length_cons, List.length_nil, Nat.reduceAdd, Nat.reduceSub, Array.replicate_succ, Array.replicate_zero, List.push_toArray, List.append_toArray, List.nil_append, List.cons_append]
  gi_wp2
  have bO := Boxed.new w 31 (.slice none 0 0)
  have hB0 : Below w.heap.size w (w.alloc (.cells #[.slice none 0 0] 31)) := (Below.refl _ w).alloc (Nat.le_refl _) _
  have hm1 : (w.alloc (.cells #[.slice none 0 0] 31)).cell? ⟨Bm, 0, none⟩ = some (.map (some b)) := (hB0.cell (p := ⟨Bm, 0, none⟩) hBm).trans hm
  refine wpIn_rangeFunc_ownG hro h1 (gf := 21) (lb := #[.pointer (some ⟨Bm, 0, none⟩)]) rfl hf (enters_of Try.func21 (by kernel_rfl) rfl)
    (keys_stopsU F (n - 1) hf hro (by omega) Bm b nn D0 _ (by simp; omega) hm1 (hown.alloc _)) walksK_t walksK_b (Below.refl _ _) (fun _ => rfl)
    (fun pre W => (∃ v, Boxed W w.heap.size 31 v ∧ W.ownsRow w.heap.size 5 1 v pre.length (pre.map (Value.int .u8)) ∧ True) ∧ Below w.heap.size w W)
    (fun _ _ _ => False)
    (OwnFrom.and (Own.from (holdsRow_own w.heap.size w.heap.size 31 5 1 (fun pre : List Int => pre.length) (fun pre : List Int => pre.map (Value.int .u8)) (fun pre v => True)) _) (ownFrom_below (Nat.le_refl _) (by simp)))
    (fun _ _ _ _ _ hs _ _ => hs)
    ⟨⟨_, bO, World.ownsRow_nil _ _ _ _, trivial⟩, hB0⟩
    (fun x => { tmps := #[.slice none 0 0, .func (.func 21) #[] #[.pointer (some ⟨Bm, 0, none⟩)], .pointer (some ⟨w.heap.size, 0, none⟩), undef, .slice none 0 0, .int .u8 x, .func (.func 21) #[] #[.pointer (some ⟨Bm, 0, none⟩)], .int .u8 x, undef, undef, undef, undef, undef], defers := [] }) ?assign ?body ?done ?stop
  case assign =>
    intro l x W K hK
    gi_wp2
    exact hK
  case body =>
    rintro l pre x W ⟨⟨v, hv, hrow, _⟩, hB⟩ hlt
    have hc := hv.cell
    gi_wp2_with (gi_at_builtin; refine wpListIn_append_own _ rfl _ _ 31 rfl w.heap.size 5 i0 (.int .u8 0) 1 1 Try.underlying31 hi hz0 hz1 hz2 rfl (by decide) _ _ _ rfl (hrow.alloc _) ⟨W.heap.size, 0, none⟩ 1 1 [.int .u8 x] rfl rfl (cell_one_new _ _ _) (by simp [Value.oneCell']) (by unfold maxLen; omega) (by omega) (by have := hB.size; simp; omega) ?_; intro v' w1 hown' hgrow _; obtain ⟨g', cap', rfl⟩ := ownsRow_succ hown'; obtain ⟨hv1, hv2, hr2, hk2, hb2⟩ := hv.appended (by decide) hrow hB.size (Nat.le_refl _) hown' hgrow; have hc1 := hv1.cell; have hf1 := hv1.frozen)
    exact ⟨hk2.from _, hk2.walks, ⟨_, hv2, by simpa using hr2, trivial⟩, hB.trans hb2⟩
  case done =>
    rintro D ys W hD ⟨hnd, hmem⟩ ⟨⟨v, hv, hrow, _⟩, hB⟩ hK
    have hc := hv.cell
    gi_wp2
    refine ⟨by simp, .inl ⟨_, _, rfl, run_takeDeferred hK, ?_⟩⟩
    exact ⟨_, results_tmp rfl _ _ _, v, ys, rfl, ⟨hnd, hmem⟩, ownsRow_putObj hrow _ hK rfl, hB.trans (belowK_b (w := w) (Nat.le_refl _) W D _ _ (by simp at hD; omega) hK rfl rfl)⟩
  case stop =>
    rintro D c pre W _ _ h _
    exact h.elim
theorem appendSeqU (Bm b nn : Nat) (D0 : DataW Unit) (hsz : Maps.size D0 ≤ 1000) (w : World) (hBm : Bm < w.heap.size) (hm : w.cell? ⟨Bm, 0, none⟩ = some (.map (some b))) (hown : w.ownsMap Try.prog 5 ruleR b nn D0) :
    Calls Try.prog 23 #[.slice none 0 0, .func (.func 21) #[] #[.pointer (some ⟨Bm, 0, none⟩)]] w fun e W' =>
      ∃ (v : Value) (ss : List Int), e = .returned v ∧ (ss.Nodup ∧ ∀ x, x ∈ ss ↔ has D0 (.int .u8 x) = true) ∧ W'.ownsRow w.heap.size 5 1 v ss.length (ss.map (Value.int .u8)) ∧ Below w.heap.size w W' :=
  (callsIn_wide (n := 6)).1 (appendSeqU_in Fence.wide 6 trivial trivial rfl (by omega) Bm b nn D0 hsz w hBm hm hown)
set_option maxHeartbeats 800000 in
theorem collectU (Bm b nn : Nat) (D0 : DataW Unit) (hsz : Maps.size D0 ≤ 1000) (w : World) (hBm : Bm < w.heap.size) (hm : w.cell? ⟨Bm, 0, none⟩ = some (.map (some b))) (hown : w.ownsMap Try.prog 5 ruleR b nn D0) :
    Calls Try.prog 19 #[.func (.func 21) #[] #[.pointer (some ⟨Bm, 0, none⟩)]] w fun e W' =>
      ∃ (v : Value) (ss : List Int), e = .returned v ∧ (ss.Nodup ∧ ∀ x, x ∈ ss ↔ has D0 (.int .u8 x) = true) ∧ W'.ownsRow w.heap.size 5 1 v ss.length (ss.map (Value.int .u8)) ∧ Below w.heap.size w W' := by
  have HC := Aside0.mk (appendSeqU Bm b nn D0 hsz w hBm hm hown)
  clear hm hown
  go_enter Try.func19, Try.ntmps19
  go_wp2_with fail
  refine HC.out.mono ?_
  rintro e w1 ⟨v, ss, rfl, h1, h2, h3⟩
  go_wp2_with fail
  go_ret
  exact ⟨v, ss, rfl, h1, h2, h3⟩
theorem keysU (b : Nat) (w : World) : Calls Try.prog 16 #[.map (some b)] w fun e w' =>
    e = .returned (.func (.func 21) #[] #[.pointer (some ⟨w.heap.size, 0, none⟩)]) ∧ w' = w.alloc (.cells #[.map (some b)] 34) := by
  go_enter Try.func16, Try.ntmps16
  go_wp2_with fail
  go_ret
  exact ⟨rfl, rfl⟩
theorem rules_has (x : Int) : has rulesD0 (.int .u8 x) = isOper x := by
  by_cases e0 : x = 0
  · subst e0; rfl
  by_cases e1 : x = 43
  · subst e1; rfl
  by_cases e2 : x = 35
  · subst e2; rfl
  by_cases e3 : x = 46
  · subst e3; rfl
  by_cases e4 : x = 47
  · subst e4; rfl
  by_cases e5 : x = 59
  · subst e5; rfl
  by_cases e6 : x = 63
  · subst e6; rfl
  by_cases e7 : x = 38
  · subst e7; rfl
  have hD : rulesD0 = .map [(.int .u8 0, ruleD [] [44] false [] false), (.int .u8 35, ruleD [35] [44] false [] true), (.int .u8 38, ruleD [38] [38] true [61] false), (.int .u8 43, ruleD [] [44] false [] true), (.int .u8 46, ruleD [46] [46] false [] false), (.int .u8 47, ruleD [47] [47] false [] false), (.int .u8 59, ruleD [59] [59] true [] false), (.int .u8 63, ruleD [63] [38] true [61] false)] := rfl
  rw [hD]
  have ne : ∀ k : Int, x ≠ k → (Lit.int .u8 k).sameKey (.int .u8 x) = false := fun k h => by simp [Lit.sameKey]; omega
  have hn : isOper x = false := by simp [isOper, e0, e1, e2, e3, e4, e5, e6, e7]
  rw [hn]
  simp [has, List.any, ne _ e0, ne _ e1, ne _ e2, ne _ e3, ne _ e4, ne _ e5, ne _ e6, ne _ e7]
def opers : List Int := [0, 35, 38, 43, 46, 47, 59, 63]
theorem mem_opers (x : Int) : x ∈ opers ↔ isOper x = true := by
  simp [opers, isOper]; omega
theorem opers_perm {ss : List Int} (hn : ss.Nodup) (hm : ∀ x, x ∈ ss ↔ has rulesD0 (.int .u8 x) = true) : ss.Perm opers :=
  (List.perm_ext_iff_of_nodup hn (by decide)).2 fun x => by rw [hm x, rules_has, mem_opers]
end Go.Proofs.Ytakgimjaiplmgaa.X
