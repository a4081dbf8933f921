/- A map[string]bool that a function makes for itself: a set of texts. -/
import Derived.Test.YtjhihohofhhknaaProg
import Derived.Below
import Derived.Deep.Draws
import Derived.Deep.AppendLies
import Derived.Maps.AppendAt
import Derived.OwnWalk
import Derived.Laws.BytesArg
import Derived.Laws.MakeOwn
import Derived.Laws.OwnMore
import Derived.Deep.OwnRows
import Derived.Tactics
import Derived.Lib.ConvBytes
import Derived.Laws.Slices
import Derived.WalkKit
import Derived.KernelRfl
import Derived.RowKit3
import Derived.Deep.LoopGhost
import Derived.Deep.QuietTactic
import Derived.BigQuiet
import Derived.WideLaws
import Derived.Deep.DeepCutAuto
import Derived.Deep.CutBlock
import Derived.Deep.RegionHeld3
import Derived.Laws.Rows
import Derived.Lib.AppendStr
import Derived.ArgAppend
import Derived.Laws.IdiomCopy
import Derived.OrdersHeld
import Derived.Laws.BitsLemmas
import Derived.RowKit
import Derived.Test.YtjhihohofhhknaaWWords
import Derived.Test.YtjhihohofhhknaaWLast
import Derived.Test.YtjhihohofhhknaaWMore
import Derived.Maps.Own
import Derived.Maps.Views
import Derived.StringKeys
import Derived.Test.YtjhihohofhhknaaXb
namespace Go.Proofs.Ytjhihohofhhknaa.X
set_option linter.unusedSimpArgs false
set_option linter.unusedVariables false
open Go.RowKit Go.Proofs.YtjhihohofhhknaaW.PrintWords Go.ChangeMaps Go.Maps
/-- Block b of w is a map that says true of just these texts. -/
def SeenMap (w : World) (b : Nat) (names : List ByteArray) : Prop :=
  ∃ D : DataW Unit, w.ownsMap Try.prog 9 (plainElem Try.prog 4) b names.length D ∧ Go.Maps.IsMap D ∧
    ∀ nm : ByteArray, nm.size ≤ maxLen → D.atKey (.string nm.data.toList) (.lit (.bool false)) = .lit (.bool (names.any fun x => x.toList == nm.toList))
theorem seen_made (w : World) : SeenMap (w.alloc (.map #[] 0)) w.heap.size [] :=
  ⟨.map [], World.ownsMap_made w _ _ _, ⟨[], rfl⟩, fun nm _ => rfl⟩
theorem SeenMap.lt {w : World} {b : Nat} {l : List ByteArray} (h : SeenMap w b l) : b < w.heap.size := by
  obtain ⟨D, h, _⟩ := h; exact h.lt
theorem SeenMap.grown {w w' : World} {b : Nat} {l : List ByteArray} {row : Option Nat} (h : SeenMap w b l) (hg : w.grownBy w' row) (hne : some b ≠ row) : SeenMap w' b l := by
  obtain ⟨D, h, h2⟩ := h; exact ⟨D, h.kept hg hne, h2⟩
theorem SeenMap.below {w w' : World} {b : Nat} {l : List ByteArray} (h : SeenMap w b l) (hb : Below w.heap.size w w') : SeenMap w' b l :=
  h.grown (grown_of_below hb none) (by simp)
theorem SeenMap.alloc {w : World} {b : Nat} {l : List ByteArray} (h : SeenMap w b l) (o : Obj) : SeenMap (w.alloc o) b l := h.grown (World.grownBy_alloc w o none) (by simp)
theorem SeenMap.drewN {w : World} {b : Nat} {l : List ByteArray} (h : SeenMap w b l) (n : Nat) : SeenMap (w.drewN n) b l := by
  obtain ⟨D, ⟨es, c, hb, r⟩, h2⟩ := h; exact ⟨D, ⟨es, c, hb, r⟩, h2⟩
theorem SeenMap.drew {w : World} {b : Nat} {l : List ByteArray} (h : SeenMap w b l) : SeenMap w.drew b l := by
  obtain ⟨D, ⟨es, c, hb, r⟩, h2⟩ := h; exact ⟨D, ⟨es, c, hb, r⟩, h2⟩
theorem toList_inj {a b : ByteArray} (h : a.data.toList = b.data.toList) : a.toList = b.toList := by rw [ByteArray.toList_eq, ByteArray.toList_eq, h]
set_option maxRecDepth 100000 in
theorem zero_bool (w : World) : (zeroValue 4).run Try.prog w = .ok (.bool false) w := by
  have h : (zeroValue 4).run Try.prog w = .ok (.bool false) w := by
    first | kernel_rfl | rfl | (simp [zeroValue, typeInfo]; done) | go_simp
  exact h
set_option maxRecDepth 100000 in
theorem plainElem_bool_inv {v : Value} {z : DataW Unit × List MemPlace} (h : plainElem Try.prog 4 v = some z) : ∃ c, v = .bool c ∧ z = (.lit (.bool c), []) := by
  have hu := Try.underlying4
  unfold plainElem at h
  rw [hu] at h
  cases v <;> simp at h
  exact ⟨_, rfl, h.symm⟩
set_option maxRecDepth 100000 in
theorem seen_look {w : World} {b : Nat} {l : List ByteArray} (h : SeenMap w b l) (nm : ByteArray) (hn : nm.size ≤ maxLen) :
    (Instr.lookup 56 (.map (some b)) (.string nm) false).run Try.prog w = .ok (.bool (l.any fun x => x.toList == nm.toList)) w := by
  obtain ⟨D, ho, _, hk⟩ := h
  obtain ⟨v, ps, hrun, hv⟩ := ho.lookup (string_keyed Try.underlying9) Try.underlying56 (zero_bool w) (plainElem_bool Try.underlying4 false) (Go.WideMaps.keyOf_string_mk Try.underlying9 hn)
  obtain ⟨c, rfl, hc⟩ := plainElem_bool_inv hv
  have := hk nm hn
  rw [Prod.mk.injEq] at hc
  rw [this] at hc
  have h2 := hc.1
  injection h2 with h2
  injection h2 with h2
  rw [hrun, h2]
set_option maxRecDepth 100000 in
theorem seen_put {w : World} {b : Nat} {l : List ByteArray} (h : SeenMap w b l) (nm : ByteArray) (hn : nm.size ≤ maxLen) (hl : l.length < maxLen) :
    ∃ w', (Instr.mapUpdate 56 (.map (some b)) (.string nm) (.bool true)).run Try.prog w = .ok () w' ∧ SeenMap w' b (nm :: l) ∧ w.grownBy w' (some b) := by
  obtain ⟨D, ho, hm, hk⟩ := h
  obtain ⟨w', hrun, ho', hg⟩ := ho.update (string_keyed Try.underlying9) Try.underlying56 hl (Go.WideMaps.keyOf_string_mk Try.underlying9 hn) (plainElem_bool Try.underlying4 true)
  refine ⟨w', hrun, ⟨_, ho', hm.put _ _, fun x hx => ?_⟩, hg⟩
  by_cases he : x.data.toList = nm.data.toList
  · rw [he, Go.Maps.atKey_put_same hm (by simp [WideAt.IsKeyLit])]
    rw [List.any_cons, show (nm.toList == x.toList) = true from beq_iff_eq.2 (toList_inj he.symm)]; rfl
  · rw [Go.Maps.atKey_put_other (by intro h; injection h with h; exact he h), hk x hx, List.any_cons]
    rw [show (nm.toList == x.toList) = false from beq_eq_false_iff_ne.2 (fun h => he (by rw [ByteArray.toList_eq, ByteArray.toList_eq] at h; exact h.symm)), Bool.false_or]
end Go.Proofs.Ytjhihohofhhknaa.X
