/- Texts of this claim, those that nothing needs left out: Xyb. -/
import Derived.RangeFuncBox
import Derived.RangeFuncLeaves
import Derived.RangeFuncStops
import Derived.RangeFuncMany
import Derived.RangeFuncWrites
import Derived.Shelf.Abstract
import Derived.WalkKit
import Derived.OwnWalkIn
import Derived.TacticsInMore
import Derived.LoopNIn
import Derived.LoopIn
import Derived.Sort.MapsRangeIn
import Derived.Maps.AppendAt
import Derived.Test.YtfaiplbogchgjaaBaG3
section
namespace Go.Proofs.Ytfaiplbogchgjaa.X
set_option linter.unusedSimpArgs false
set_option linter.unusedVariables false
open Go.RowKit Go.Shelf Go.Maps Go.Proofs.YtfaiplbogchgjaaW.PrintWords
attribute [local go_sem] Oper.semAt_some
structure BV where
  nm : ByteArray
  k : Int
  s : ByteArray
  A : Option Addr
  n : Nat
  c : Nat
  B : Option Addr
  m : Nat
  d : Nat
  tag : Nat := 0
def BV.val (x : BV) : Value := .agg #[.int .i64 x.k, .string x.s, .slice x.A x.n x.c, .slice x.B x.m x.d]
def BV.agg (x : BV) : Value := .agg #[.string x.nm, .int .i64 x.k, .string x.s, .slice x.A x.n x.c, .slice x.B x.m x.d]
def BindRow (w : World) (A : Option Addr) (xs : List BV) : Prop := ∀ k (h : k < xs.length), ∃ ad, A = some ad ∧ w.cell? (ad.add (k * 5)) = some (.string xs[k].nm) ∧ w.cell? ⟨(ad.add (k * 5)).block, (ad.add (k * 5)).off + 1, none⟩ = some (.int .i64 xs[k].k) ∧
  w.cell? ⟨(ad.add (k * 5)).block, (ad.add (k * 5)).off + 2, none⟩ = some (.string xs[k].s) ∧ w.cell? ⟨(ad.add (k * 5)).block, (ad.add (k * 5)).off + 3, none⟩ = some (.slice xs[k].A xs[k].n xs[k].c) ∧ w.cell? ⟨(ad.add (k * 5)).block, (ad.add (k * 5)).off + 4, none⟩ = some (.slice xs[k].B xs[k].m xs[k].d)
def Keeps0 (B0 Bs : Nat) (W W' : World) : Prop := Below B0 W W' ∧ (W'.heap[Bs]? = W.heap[Bs]?)
theorem back_step (n j : Nat) (h : j < n) : (List.range n).reverse.take (n - j) = (List.range n).reverse.take (n - (j + 1)) ++ [j] := by
  have hl : n - (j + 1) < (List.range n).reverse.length := by rw [List.length_reverse, List.length_range]; omega
  have e : n - j = n - (j + 1) + 1 := by omega
  rw [e, List.take_succ_eq_append_getElem hl]
  congr 2
  rw [List.getElem_reverse, List.getElem_range, List.length_range]
  omega
set_option maxRecDepth 100000 in
set_option maxHeartbeats 4000000 in
theorem backIter_in (F : Fence) (n : Nat) (hf : F.fn 46) (hro : F.round = none) (hn : 1 ≤ n) (l B0 Bs : Nat) (A : Option Addr) (c : Nat) (xs : List BV) (hx : xs.length ≤ 1000000) (J Jx : List Nat → World → Prop)
    (W : World) (hbs : W.heap[Bs]? = some (.cells #[.slice A xs.length c] 22 (0, 0))) (hrow : ∀ W', Below B0 W W' → BindRow W' A xs)
    (hY : ∀ pre i (h : i < xs.length) W1, J pre W1 → pre.length < xs.length → YieldAt F (n - 1) Try.prog l #[.int .i64 (i : Nat), xs[i].agg] W1 fun e W' => (e = .returned (.bool true) ∧ J (pre ++ [i]) W' ∧ Keeps0 B0 Bs W1 W') ∨ (e = .returned (.bool false) ∧ Jx (pre ++ [i]) W'))
    (h0 : J [] W) :
    CallsIn F n Try.prog 46 #[.func (.yield l) #[] #[], .pointer (some ⟨Bs, 0, none⟩)] W fun e W' => (∃ v, e = .returned v) ∧
      (J (List.range xs.length).reverse W' ∨ (∃ pre : List Nat, Jx pre W')) := by
  refine callsIn_of_wp Try.func46 rfl hf ?_ hro
  simp only [Try.ntmps46, List.size_toArray, List.length_cons, List.length_nil, Nat.reduceAdd, Nat.reduceSub, Array.replicate_succ, Array.replicate_zero, List.push_toArray, List.append_toArray, List.nil_append, List.cons_append]
  have hc0 := cell_of_one hbs
  gi_wp2
  gi_loopw [3] (fun v wr => ∃ j : Nat, j ≤ xs.length ∧ v = .int .i64 ((j : Int) - 1) ∧ Below B0 W wr ∧ wr.heap[Bs]? = some (.cells #[.slice A xs.length c] 22 (0, 0)) ∧ J ((List.range xs.length).reverse.take (xs.length - j)) wr)
    (fun v _ => (intOf v + 1).toNat)
  case atStart =>
    exact ⟨xs.length, Nat.le_refl _, by first | rfl | (simp; done) | (unfold wrap64; simp; omega), Below.refl _ _, hbs, by simpa using h0⟩
  case round =>
    obtain ⟨j, hj, rfl, hb, hbs', hJ⟩ := hrel
    have hc1 := cell_of_one hbs'
    clear hc0 h0
    cases j with
    | zero =>
      gi_wp2
      go_end0
      exact ⟨⟨_, rfl⟩, .inl (by rw [Nat.sub_zero, List.take_of_length_le (by rw [List.length_reverse, List.length_range]; exact Nat.le_refl _)] at hJ; exact hJ)⟩
    | succ j =>
      have hlt : j < xs.length := by omega
      rw [show ((j + 1 : Nat) : Int) - 1 = (j : Int) from by omega]
      obtain ⟨ad, rfl, r0, r1, r2, r3, r4⟩ := hrow wr hb j hlt
      obtain ⟨fn, tmps, assign, body, hy, hR⟩ := hY _ j hlt wr hJ (by rw [List.length_take, List.length_reverse, List.length_range]; omega)
      unfold BV.agg at hy
      gi_wp2
      refine hR.mono ?_
      rintro e W3 (⟨rfl, hJ3, hk3⟩ | ⟨rfl, hJx3⟩)
      · gi_wp2
        go_roundw
        case rel => exact ⟨j, by omega, by go_num, hb.trans hk3.1, hk3.2.trans hbs', by rw [back_step xs.length j hlt]; exact hJ3⟩
        case measure => first | (simp [intOf]; done) | (simp [intOf]; omega)
      · gi_wp2
        refine bodyPost_ret (results_none rfl _ _ _) rfl ?_
        exact ⟨⟨_, rfl⟩, .inr ⟨_, hJx3⟩⟩
end Go.Proofs.Ytfaiplbogchgjaa.X
end
