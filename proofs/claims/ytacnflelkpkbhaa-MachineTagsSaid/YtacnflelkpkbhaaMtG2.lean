/- Texts of this claim, those that nothing needs left out: Zn0. -/
import Derived.Test.YtacnflelkpkbhaaProg
import Derived.Below
import Derived.Deep.Draws
import Derived.Deep.AppendLies
import Derived.Maps.AppendAt
import Derived.OwnWalk
import Derived.Laws.BytesArg
import Derived.Laws.MakeOwn
import Derived.Laws.OwnMore
import Derived.Deep.OwnRows
import Derived.Tactics
import Derived.Lib.ConvBytes
import Derived.Laws.Slices
import Derived.WalkKit
import Derived.KernelRfl
import Derived.RowKit3
import Derived.Deep.LoopGhost
import Derived.Deep.QuietTactic
import Derived.BigQuiet
import Derived.WideLaws
import Derived.Deep.DeepCutAuto
import Derived.Deep.CutBlock
import Derived.Deep.RegionHeld3
import Derived.Laws.Rows
import Derived.Lib.AppendStr
import Derived.ArgAppend
import Derived.Laws.IdiomCopy
import Derived.OrdersHeld
import Derived.Laws.BitsLemmas
import Derived.RowKit
import Derived.Test.YtacnflelkpkbhaaMtG0
import Derived.Maps.Own
import Derived.Maps.OwnSet
import Derived.Maps.Views
import Derived.Maps.Keyed
import Derived.Lib.SlKeysI
import Derived.Test.YtacnflelkpkbhaaMtG1
section
namespace Go.Proofs.Ytacnflelkpkbhaa.X
set_option linter.unusedSimpArgs false
set_option linter.unusedVariables false
open Go.RowKit Go.Proofs.YtacnflelkpkbhaaW.PrintWords Go.ChangeMaps Go.Maps
def valU : Value → Option (DataW Unit × List MemPlace)
  | .agg cs => if cs.toList.isEmpty then some (.agg [], []) else none
  | _ => none
theorem valU_inv {v : Value} {z : DataW Unit × List MemPlace} (h : valU v = some z) : v = .agg #[] ∧ z = (.agg [], []) := by
  cases v with
  | agg cs =>
    have h : (if cs.toList.isEmpty then some (DataW.agg [], []) else none) = some z := h
    split at h
    · rename_i he
      refine ⟨?_, (Option.some.inj h).symm⟩
      congr 1
      exact Array.ext' (by simpa using he)
    · cases h
  | _ => cases h
def IM (w : World) (b : Nat) (L : List Nat) : Prop :=
  ∃ D : DataW Unit, w.ownsMap Try.prog 3 valU b L.length D ∧ L.Nodup ∧ ∀ k : Int, (Lit.int .i64 k).wf = true → Maps.has D (.int .i64 k) = decide (∃ i ∈ L, (i : Int) = k)
theorem intKeyed : Keyed Try.prog 3 := int_keyed Try.underlying3
theorem im_made (w : World) : IM (w.alloc (.map #[] 0)) w.heap.size [] :=
  ⟨.map [], World.ownsMap_made w _ _ _, List.nodup_nil, fun k _ => by simp; rfl⟩
theorem IM.lt {w : World} {b : Nat} {L : List Nat} (h : IM w b L) : b < w.heap.size := by obtain ⟨D, h, _⟩ := h; exact h.lt
theorem IM.grown {w w' : World} {b : Nat} {L : List Nat} {row : Option Nat} (h : IM w b L) (hg : w.grownBy w' row) (hne : some b ≠ row) : IM w' b L := by obtain ⟨D, h, h2⟩ := h; exact ⟨D, h.kept hg hne, h2⟩
theorem IM.below {w w' : World} {b : Nat} {L : List Nat} (h : IM w b L) (hb : Below w.heap.size w w') : IM w' b L := h.grown (grown_of_below hb none) (by simp)
theorem IM.alloc {w : World} {b : Nat} {L : List Nat} (h : IM w b L) (o : Obj) : IM (w.alloc o) b L := h.grown (World.grownBy_alloc w o none) (by simp)
theorem zero_unit (w : World) : (zeroValue 63).run Try.prog w = .ok (.agg #[]) w := by
  have h : (zeroValue 63).run Try.prog w = .ok (.agg #[]) w := by
    first | kernel_rfl | rfl | (simp [zeroValue, typeInfo]; done) | go_simp
  exact h
set_option maxRecDepth 100000 in
theorem im_look {w : World} {b : Nat} {L : List Nat} (h : IM w b L) (k : Int) (hk : (Lit.int .i64 k).wf = true) :
    (Instr.lookup 58 (.map (some b)) (.int .i64 k) true).run Try.prog w = .ok (.tuple #[.agg #[], .bool (decide (∃ i ∈ L, (i : Int) = k))]) w := by
  obtain ⟨D, ho, _, hm⟩ := h
  obtain ⟨v, ps, hrun, hv⟩ := ho.look_ok intKeyed Try.underlying58 (zero_unit w) (zd := .agg []) (zp := []) rfl (keyOf_int_mk Try.underlying3 hk)
  rw [hrun, hm k hk, (valU_inv hv).1]
set_option maxRecDepth 100000 in
theorem im_put {w : World} {b : Nat} {L : List Nat} (h : IM w b L) (i : Nat) (hi : (Lit.int .i64 (i : Int)).wf = true) (hl : L.length < maxLen) (hn : i ∉ L) :
    ∃ w', (Instr.mapUpdate 58 (.map (some b)) (.int .i64 (i : Int)) (.agg #[])).run Try.prog w = .ok () w' ∧ IM w' b (i :: L) ∧ w.grownBy w' (some b) := by
  obtain ⟨D, ho, hnd, hm⟩ := h
  obtain ⟨w', hrun, ho', hg⟩ := ho.update intKeyed Try.underlying58 hl (keyOf_int_mk Try.underlying3 hi) (d := .agg []) (ps := []) (val := .agg #[]) rfl
  refine ⟨w', hrun, ⟨_, ho', List.nodup_cons.2 ⟨hn, hnd⟩, fun k hk => ?_⟩, hg⟩
  have hism := ho.isMap
  by_cases he : k = (i : Int)
  · subst he
    rw [has_put_same hism (by simp [WideAt.IsKeyLit])]
    exact (decide_eq_true ⟨i, by simp, rfl⟩).symm
  · have hne : (Lit.int .i64 k) ≠ .int .i64 (i : Int) := by intro h; injection h with _ h; exact he h
    rw [has_put_other hne, hm k hk]
    congr 1
    apply propext
    constructor
    · rintro ⟨j, hj, e⟩; exact ⟨j, List.mem_cons_of_mem _ hj, e⟩
    · rintro ⟨j, hj, e⟩
      rcases List.mem_cons.1 hj with rfl | hj
      · exact absurd e.symm he
      · exact ⟨j, hj, e⟩
theorem im_keys {w : World} {b : Nat} {L : List Nat} {D : DataW Unit} (ho : w.ownsMap Try.prog 3 valU b L.length D) (hnd : L.Nodup) (hwf : ∀ i ∈ L, (Lit.int .i64 (i : Int)).wf = true) (hm : ∀ k : Int, (Lit.int .i64 k).wf = true → Maps.has D (.int .i64 k) = decide (∃ i ∈ L, (i : Int) = k)) :
    (L.map fun i : Nat => (i : Int)).Perm (intKeys D) := by
  have hkw := intKeys_wf ho Try.underlying3
  obtain ⟨es, hD, hpw, _⟩ := ho.entries intKeyed
  obtain ⟨es', hD', hko⟩ := ho.keysOf
  obtain rfl : es = es' := by rw [hD] at hD'; simpa using hD'
  subst hD
  refine perm_intKeys hpw (fun p hp => by obtain ⟨v, hv⟩ := hko p hp; obtain ⟨x, _, hx, _⟩ := Maps.keyOf_i64 Try.underlying3 hv; exact ⟨x, hx⟩) (List.pairwise_map.2 (hnd.imp fun hne e => hne (by omega))) (fun x => ?_)
  rw [List.mem_map]
  constructor
  · rintro ⟨i, hi, rfl⟩
    rw [hm _ (hwf i hi)]
    exact decide_eq_true ⟨i, hi, rfl⟩
  · intro hx
    have hw : (Lit.int .i64 x).wf = true := by
      refine hkw x ?_
      rw [has_eq, List.any_eq_true] at hx
      obtain ⟨p, hp', hs⟩ := hx
      obtain ⟨v, hv⟩ := hko p hp'
      obtain ⟨y, _, hy, _⟩ := Maps.keyOf_i64 Try.underlying3 hv
      rw [hy] at hs
      refine List.mem_map.2 ⟨p, hp', ?_⟩
      rw [hy]
      simpa [Lit.sameKey, Go.intOf] using hs
    rw [hm x hw] at hx
    obtain ⟨i, hi, e⟩ := of_decide_eq_true hx
    exact ⟨i, hi, e⟩
end Go.Proofs.Ytacnflelkpkbhaa.X
end
