/- Texts of this claim, those that nothing needs left out: Zmb. -/
import Derived.RangeFuncBox
import Derived.RangeFuncLeaves
import Derived.RangeFuncStops
import Derived.RangeFuncMany
import Derived.RangeFuncWrites
import Derived.Shelf.Abstract
import Derived.WalkKit
import Derived.OwnWalkIn
import Derived.TacticsInMore
import Derived.LoopNIn
import Derived.LoopIn
import Derived.Sort.MapsRangeIn
import Derived.Maps.AppendAt
import Derived.Test.YtacnflelkpkbhaaMtG1
import Derived.Test.YtacnflelkpkbhaaMtG3
section
namespace Go.Proofs.Ytacnflelkpkbhaa.PA
set_option linter.unusedSimpArgs false
set_option linter.unusedVariables false
open Go.RowKit Go.Shelf Go.Maps Go.Proofs.YtacnflelkpkbhaaW.PrintWords Go.Proofs.YtacnflelkpkbhaaW.PrintLast
attribute [local go_sem] Oper.semAt_some
def eagg (x : S48) : Value := .agg #[.int .u8 x.f0, .int .u8 x.f1, .int .i64 x.f2]
def ecs (x : S48) : List Value := [.int .u8 x.f0, .int .u8 x.f1, .int .i64 x.f2]
theorem rde_at (xs : List S48) (j : Nat) (h : j < xs.length) : rd_T48 xs (j : Int) = xs[j] := by
  unfold rd_T48
  rw [Int.toNat_natCast, List.getD_eq_getElem?_getD, List.getElem?_eq_getElem h]
  rfl
set_option maxRecDepth 100000 in
set_option maxHeartbeats 4000000 in
theorem valIter_in (F : Fence) (n : Nat) (hf : F.fn 46) (hro : F.round = none) (hn : 1 ≤ n) (l B0 Bs : Nat) (A : Option Addr) (c : Nat) (xs : List S48) (hx : xs.length ≤ 1000000) (J Jx : List S48 → World → Prop)
    (W : World) (hB0 : B0 ≤ W.heap.size) (hBs : Bs < B0) (hbs : W.heap[Bs]? = some (.cells #[.slice A xs.length c] 31 (0, 0))) (hrow : ∀ W', Below B0 W W' → Kd.C k48 W' A xs.length xs)
    (hJ : ∀ pre W1 W2, J pre W1 → Below W1.heap.size W1 W2 → W.heap.size ≤ W1.heap.size → J pre W2)
    (hY : ∀ pre x W1, J pre W1 → pre.length < xs.length → YieldAt F (n - 1) Try.prog l #[eagg x] W1 fun e W' => (e = .returned (.bool true) ∧ J (pre ++ [x]) W' ∧ Below B0 W1 W') ∨ (e = .returned (.bool false) ∧ Jx (pre ++ [x]) W'))
    (h0 : J [] W) :
    CallsIn F n Try.prog 46 #[.func (.yield l) #[] #[], .pointer (some ⟨Bs, 0, none⟩)] W fun e W' => (∃ v, e = .returned v) ∧
      (J xs W' ∨ (∃ pre : List S48, Jx pre W')) := by
  refine callsIn_of_wp Try.func46 rfl hf ?_ hro
  simp only [Try.ntmps46, List.size_toArray, List.length_cons, List.length_nil, Nat.reduceAdd, Nat.reduceSub, Array.replicate_succ, Array.replicate_zero, List.push_toArray, List.append_toArray, List.nil_append, List.cons_append]
  have hc0 := cell_of_one hbs
  gi_wp2
  gi_loopw [7] (fun v wr => ∃ j : Nat, j ≤ xs.length ∧ v = .int .i64 (j : Int) ∧ Below B0 W wr ∧ J (xs.take j) wr)
    (fun v _ => (xs.length - intOf v).toNat)
  case atStart =>
    exact ⟨0, Nat.zero_le _, rfl, Below.refl _ _, by simpa using h0⟩
  case round =>
    obtain ⟨j, hj, rfl, hb, hJs⟩ := hrel
    clear hc0 h0
    by_cases hlt : j < xs.length
    · obtain ⟨ad, rfl, r0, r1, r2⟩ := at_T48 (hrow wr hb) (j : Int) (by omega) (by omega)
      rw [Int.toNat_natCast, rde_at xs j hlt] at r0 r1 r2
      have hbl := below_alloc (Below.refl wr.heap.size wr) (.cells #[.int .u8 xs[j].f0, .int .u8 xs[j].f1, .int .i64 xs[j].f2] 48)
      obtain ⟨fn, tmps, assign, body, hy, hR⟩ := hY (xs.take j) xs[j] _ (hJ _ _ _ hJs hbl hb.size) (by rw [List.length_take]; omega)
      have HBL := Aside0.mk hbl
      have hs : W.heap.size ≤ wr.heap.size := hb.size
      clear hbl
      unfold eagg at hy
      gi_wp2
      refine hR.mono ?_
      rintro e W3 (⟨rfl, hJ3, hk3⟩ | ⟨rfl, hJx3⟩)
      · gi_wp2
        go_roundw
        case rel => exact ⟨j + 1, by omega, by go_num, (hb.trans (HBL.out.mono (by omega))).trans hk3, by rw [List.take_succ_eq_append_getElem hlt]; exact hJ3⟩
        case measure => first | (simp [intOf]; done) | (simp [intOf]; omega)
      · gi_wp2
        refine bodyPost_ret (results_none rfl _ _ _) rfl ?_
        exact ⟨⟨_, rfl⟩, .inr ⟨_, hJx3⟩⟩
    · gi_wp2
      go_end0
      exact ⟨⟨_, rfl⟩, .inl (by rw [List.take_of_length_le (by omega)] at hJs; exact hJs)⟩
theorem values_any (A : Option Addr) (m c : Nat) (w : World) : Calls Try.prog 39 #[.slice A m c] w fun e w' =>
    e = .returned (.func (.func 46) #[] #[.pointer (some ⟨w.heap.size, 0, none⟩)]) ∧ w' = w.alloc (.cells #[.slice A m c] 31) := by
  go_enter Try.func39, Try.ntmps39
  go_wp2_with fail
  go_ret
  exact ⟨rfl, rfl⟩
end Go.Proofs.Ytacnflelkpkbhaa.PA
end
