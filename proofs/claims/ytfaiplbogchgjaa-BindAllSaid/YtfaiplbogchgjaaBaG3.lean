/- Texts of this claim, those that nothing needs left out: Xya. -/
import Derived.Test.YtfaiplbogchgjaaProg
import Derived.Below
import Derived.Deep.Draws
import Derived.Deep.AppendLies
import Derived.Maps.AppendAt
import Derived.OwnWalk
import Derived.Laws.BytesArg
import Derived.Laws.MakeOwn
import Derived.Laws.OwnMore
import Derived.Deep.OwnRows
import Derived.Tactics
import Derived.Lib.ConvBytes
import Derived.Laws.Slices
import Derived.WalkKit
import Derived.KernelRfl
import Derived.RowKit3
import Derived.Deep.LoopGhost
import Derived.Deep.QuietTactic
import Derived.BigQuiet
import Derived.WideLaws
import Derived.Deep.DeepCutAuto
import Derived.Deep.CutBlock
import Derived.Deep.RegionHeld3
import Derived.Laws.Rows
import Derived.Lib.AppendStr
import Derived.ArgAppend
import Derived.Laws.IdiomCopy
import Derived.OrdersHeld
import Derived.Laws.BitsLemmas
import Derived.RowKit
import Derived.Test.YtfaiplbogchgjaaBaG0
import Derived.Maps.Own
import Derived.Maps.OwnSet
import Derived.Maps.Views
import Derived.StringKeys
import Derived.Test.YtfaiplbogchgjaaBaG2
section
namespace Go.Proofs.Ytfaiplbogchgjaa.X
set_option linter.unusedSimpArgs false
set_option linter.unusedVariables false
open Go.RowKit Go.Proofs.YtfaiplbogchgjaaW.PrintWords Go.ChangeMaps Go.Maps
def encA : Option Addr → Nat → Nat → Option (DataW Unit)
  | none, n, c => some (.agg [.lit (.int .i64 n), .lit (.int .i64 c)])
  | some ⟨b, o, none⟩, n, c => some (.agg [.lit (.int .i64 b), .lit (.int .i64 o), .lit (.int .i64 n), .lit (.int .i64 c)])
  | _, _, _ => none
theorem encA_inj {A B : Option Addr} {n m c d : Nat} {x : DataW Unit} (h : encA A n c = some x) (k : encA B m d = some x) : A = B ∧ n = m ∧ c = d := by
  rcases A with _ | ⟨b, o, _ | _⟩ <;> rcases B with _ | ⟨b', o', _ | _⟩ <;> simp only [encA, Option.some.injEq, reduceCtorEq] at h k <;> subst h <;> simp only [DataW.agg.injEq, List.cons.injEq, DataW.lit.injEq, Lit.int.injEq, Int.natCast_inj, true_and, and_true, reduceCtorEq, false_and, and_false] at k
  · exact ⟨rfl, k.1.symm, k.2.symm⟩
  · obtain ⟨rfl, rfl, rfl, rfl⟩ := k; exact ⟨rfl, rfl, rfl⟩
def valRL : List Value → Option (DataW Unit × List MemPlace)
  | [.int .i64 k, .string s, .slice A n c, .slice B m d] => (encA A n c).bind fun x => (encA B m d).bind fun y => some (.agg [.lit (.int .i64 k), .lit (.string s.data.toList), x, y], [])
  | _ => none
def valR : Value → Option (DataW Unit × List MemPlace)
  | .agg cs => valRL cs.toList
  | _ => none
theorem valR_inv {v : Value} {z : DataW Unit × List MemPlace} (h : valR v = some z) : ∃ k s A n c B m d x y, v = .agg #[.int .i64 k, .string s, .slice A n c, .slice B m d] ∧ encA A n c = some x ∧ encA B m d = some y ∧ z = (.agg [.lit (.int .i64 k), .lit (.string s.data.toList), x, y], []) := by
  cases v with
  | agg cs =>
    have h : valRL cs.toList = _ := h
    unfold valRL at h
    split at h
    · rename_i k s A n c B m d hl
      obtain ⟨x, hx, h⟩ := Option.bind_eq_some_iff.1 h
      obtain ⟨y, hy, h⟩ := Option.bind_eq_some_iff.1 h
      refine ⟨k, s, A, n, c, B, m, d, x, y, ?_, hx, hy, (Option.some.inj h).symm⟩
      congr 1
      exact Array.ext' hl
    · cases h
  | _ => cases h
theorem valR_inj {v u : Value} {x : DataW Unit} {p q : List MemPlace} (h : valR v = some (x, p)) (k : valR u = some (x, q)) : v = u := by
  obtain ⟨k1, s1, A1, n1, c1, B1, m1, d1, x1, y1, rfl, a1, b1, e1⟩ := valR_inv h
  obtain ⟨k2, s2, A2, n2, c2, B2, m2, d2, x2, y2, rfl, a2, b2, e2⟩ := valR_inv k
  rw [Prod.mk.injEq] at e1 e2
  have e3 := e1.1.symm.trans e2.1
  simp only [DataW.agg.injEq, List.cons.injEq, DataW.lit.injEq, Lit.int.injEq, Lit.string.injEq, true_and, and_true] at e3
  obtain ⟨rfl, hs, rfl, rfl⟩ := e3
  obtain ⟨rfl, rfl, rfl⟩ := encA_inj a1 a2
  obtain ⟨rfl, rfl, rfl⟩ := encA_inj b1 b2
  have : s1 = s2 := by cases s1; cases s2; simp_all [Array.toList_inj]
  rw [this]
def VM (w : World) (b n : Nat) (C : List UInt8 → Option Value) : Prop :=
  ∃ D : DataW Unit, w.ownsMap Try.prog 9 valR b n D ∧ ∀ nm : ByteArray, nm.size ≤ maxLen → Maps.has D (.string nm.data.toList) = (C nm.data.toList).isSome ∧ ∀ v, C nm.data.toList = some v → ∃ z, valR v = some z ∧ ∀ zd, D.atKey (.string nm.data.toList) zd = z.1
theorem strKeyed : Keyed Try.prog 9 := string_keyed Try.underlying9
theorem vm_made (w : World) : VM (w.alloc (.map #[] 0)) w.heap.size 0 (fun _ => none) :=
  ⟨.map [], World.ownsMap_made w _ _ _, fun nm _ => ⟨rfl, fun v h => by cases h⟩⟩
theorem VM.lt {w : World} {b n : Nat} {C : List UInt8 → Option Value} (h : VM w b n C) : b < w.heap.size := by obtain ⟨D, h, _⟩ := h; exact h.lt
theorem VM.grown {w w' : World} {b n : Nat} {C : List UInt8 → Option Value} {row : Option Nat} (h : VM w b n C) (hg : w.grownBy w' row) (hne : some b ≠ row) : VM w' b n C := by obtain ⟨D, h, h2⟩ := h; exact ⟨D, h.kept hg hne, h2⟩
theorem VM.below {w w' : World} {b n : Nat} {C : List UInt8 → Option Value} (h : VM w b n C) (hb : Below w.heap.size w w') : VM w' b n C := h.grown (grown_of_below hb none) (by simp)
theorem VM.alloc {w : World} {b n : Nat} {C : List UInt8 → Option Value} (h : VM w b n C) (o : Obj) : VM (w.alloc o) b n C := h.grown (World.grownBy_alloc w o none) (by simp)
def zeroV : Value := .agg #[.int .i64 0, .string ⟨#[]⟩, .slice none 0 0, .slice none 0 0]
set_option maxRecDepth 100000 in
theorem zero_val (w : World) : (zeroValue 28).run Try.prog w = .ok zeroV w := by
  have h : (zeroValue 28).run Try.prog w = .ok zeroV w := by
    first | kernel_rfl | rfl | (simp [zeroValue, typeInfo]; done) | go_simp
  exact h
theorem key_str {nm : ByteArray} (hn : nm.size ≤ maxLen) : keyOf Try.prog 9 (.string nm) = some (.string nm.data.toList) := Go.WideMaps.keyOf_string_mk Try.underlying9 hn
set_option maxRecDepth 100000 in
theorem vm_look {w : World} {b n : Nat} {C : List UInt8 → Option Value} (h : VM w b n C) (nm : ByteArray) (hn : nm.size ≤ maxLen) :
    (Instr.lookup 47 (.map (some b)) (.string nm) true).run Try.prog w = .ok (.tuple #[(C nm.data.toList).getD zeroV, .bool (C nm.data.toList).isSome]) w ∧
    (Instr.lookup 47 (.map (some b)) (.string nm) false).run Try.prog w = .ok ((C nm.data.toList).getD zeroV) w := by
  obtain ⟨D, ho, hk⟩ := h
  obtain ⟨h1, h2⟩ := hk nm hn
  obtain ⟨v, ps, hrun, hv⟩ := ho.look_ok strKeyed Try.underlying47 (zero_val w) (zd := .agg [.lit (.int .i64 0), .lit (.string []), .agg [.lit (.int .i64 0), .lit (.int .i64 0)], .agg [.lit (.int .i64 0), .lit (.int .i64 0)]]) (zp := []) rfl (key_str hn)
  obtain ⟨v', ps', hrun', hv'⟩ := ho.lookup strKeyed Try.underlying47 (zero_val w) (zd := .agg [.lit (.int .i64 0), .lit (.string []), .agg [.lit (.int .i64 0), .lit (.int .i64 0)], .agg [.lit (.int .i64 0), .lit (.int .i64 0)]]) (zp := []) rfl (key_str hn)
  obtain rfl : v = v' := valR_inj hv hv'
  rw [hrun, hrun', h1]
  cases hc : C nm.data.toList with
  | none =>
    rw [hc] at h1
    rw [atKey_of_not_has h1] at hv
    obtain rfl : v = zeroV := valR_inj hv (rfl : valR zeroV = some (_, []))
    exact ⟨rfl, rfl⟩
  | some u =>
    obtain ⟨z, hz, hat⟩ := h2 u hc
    rw [hat] at hv
    obtain rfl : v = u := valR_inj hv (show valR u = some (z.1, z.2) from hz)
    exact ⟨rfl, rfl⟩
theorem vm_put {w : World} {b n : Nat} {C : List UInt8 → Option Value} (h : VM w b n C) (nm : ByteArray) (hn : nm.size ≤ maxLen) (hl : n < maxLen) (v : Value) (z : DataW Unit × List MemPlace) (hv : valR v = some z) :
    ∃ w', (Instr.mapUpdate 47 (.map (some b)) (.string nm) v).run Try.prog w = .ok () w' ∧ VM w' b (n + 1) (fun x => if x = nm.data.toList then some v else C x) ∧ w.grownBy w' (some b) := by
  obtain ⟨D, ho, hk⟩ := h
  have hm := ho.isMap
  obtain ⟨w', hrun, ho', hg⟩ := ho.update strKeyed Try.underlying47 hl (key_str hn) (d := z.1) (ps := z.2) hv
  refine ⟨w', hrun, ⟨_, ho', fun x hx => ?_⟩, hg⟩
  by_cases he : x.data.toList = nm.data.toList
  · dsimp only
    rw [he, if_pos rfl]
    refine ⟨has_put_same hm (by simp [WideAt.IsKeyLit]) _, fun u hu => ?_⟩
    obtain rfl := Option.some.inj hu
    exact ⟨z, hv, fun zd => atKey_put_same hm (by simp [WideAt.IsKeyLit]) _ _⟩
  · dsimp only
    rw [if_neg he]
    obtain ⟨h1, h2⟩ := hk x hx
    have hne : (Lit.string x.data.toList) ≠ .string nm.data.toList := by intro h; injection h with h; exact he h
    refine ⟨by rw [has_put_other hne]; exact h1, fun u hu => ?_⟩
    obtain ⟨z', hz', hat⟩ := h2 u hu
    exact ⟨z', hz', fun zd => by rw [atKey_put_other hne]; exact hat zd⟩
theorem grown_of_turned {w w' : World} {b : Nat} (h : w.mapTurned w' b) : w.grownBy w' (some b) := by
  obtain ⟨es, c, es', c', hb, rfl⟩ := h
  exact ⟨rfl, rfl, rfl, by simp [setBlock], fun i _ hi => heap_setBlock_other hb _ (fun e => hi (by rw [e]))⟩
theorem vm_drop {w : World} {b n : Nat} {C : List UInt8 → Option Value} (h : VM w b n C) (nm : ByteArray) (hn : nm.size ≤ maxLen) (ty : TypeId) :
    ∃ w', (Builtin.delete_ #[47, 9] ty #[.map (some b), .string nm]).run Try.prog w = .ok (.tuple #[]) w' ∧ VM w' b n (fun x => if x = nm.data.toList then none else C x) ∧ w.grownBy w' (some b) := by
  obtain ⟨D, ho, hk⟩ := h
  obtain ⟨w', hrun, ho', hg⟩ := ho.drop strKeyed Try.underlying47 (key_str hn) ty
  refine ⟨w', hrun, ⟨_, ho', fun x hx => ?_⟩, grown_of_turned hg⟩
  by_cases he : x.data.toList = nm.data.toList
  · dsimp only
    rw [he, if_pos rfl]
    exact ⟨has_del_same, fun u hu => by cases hu⟩
  · dsimp only
    rw [if_neg he]
    obtain ⟨h1, h2⟩ := hk x hx
    have hne : (Lit.string x.data.toList) ≠ .string nm.data.toList := by intro h; injection h with h; exact he h
    refine ⟨by rw [has_del_other hne]; exact h1, fun u hu => ?_⟩
    obtain ⟨z', hz', hat⟩ := h2 u hu
    exact ⟨z', hz', fun zd => by rw [atKey_del_other hne]; exact hat zd⟩
end Go.Proofs.Ytfaiplbogchgjaa.X
end
