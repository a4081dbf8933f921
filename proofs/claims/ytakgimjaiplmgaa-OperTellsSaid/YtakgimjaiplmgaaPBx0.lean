-- Printed by wip/xprint.py of this claim's authors, over the kit's print; not trusted: Lean checks it.
import Derived.Test.YtakgimjaiplmgaaProg
import Derived.Below
import Derived.Deep.Draws
import Derived.Deep.AppendLies
import Derived.Maps.AppendAt
import Derived.OwnWalk
import Derived.Laws.BytesArg
import Derived.Laws.MakeOwn
import Derived.Laws.OwnMore
import Derived.Deep.OwnRows
import Derived.Tactics
import Derived.Lib.ConvBytes
import Derived.Laws.Slices
import Derived.WalkKit
import Derived.KernelRfl
import Derived.RowKit3
import Derived.Deep.LoopGhost
import Derived.Deep.QuietTactic
import Derived.BigQuiet
import Derived.WideLaws
import Derived.Deep.DeepCutAuto
import Derived.Deep.CutBlock
import Derived.Deep.RegionHeld3
import Derived.Laws.Rows
import Derived.Lib.AppendStr
import Derived.ArgAppend
import Derived.Laws.IdiomCopy
import Derived.OrdersHeld
import Derived.Laws.BitsLemmas
import Derived.RowKit
import Derived.Test.YtakgimjaiplmgaaXo
import Derived.Test.YtakgimjaiplmgaaXq
import Derived.WalkSpells
import Derived.WalkLawsBesides
import Derived.Outline
import Derived.Deep.DeepMust
import Derived.Test.YtakgimjaiplmgaaXk
import Derived.Test.YtakgimjaiplmgaaXb
import Derived.Test.YtakgimjaiplmgaaWWords
import Derived.Test.YtakgimjaiplmgaaWLast
import Derived.Test.YtakgimjaiplmgaaWTab
import Derived.Test.YtakgimjaiplmgaaWFour
import Derived.Test.YtakgimjaiplmgaaWQPut
import Derived.Test.YtakgimjaiplmgaaWApart
import Derived.Test.YtakgimjaiplmgaaWArr
import Derived.Test.YtakgimjaiplmgaaWZeros
import Derived.Test.YtakgimjaiplmgaaWFoot
import Derived.Test.YtakgimjaiplmgaaWKept
import Derived.Test.YtakgimjaiplmgaaWShare
import Derived.Test.YtakgimjaiplmgaaWN
import Derived.Test.YtakgimjaiplmgaaWFootNe
import Derived.Test.YtakgimjaiplmgaaWAt
import Derived.Test.YtakgimjaiplmgaaWEqStruct
import Derived.Test.YtakgimjaiplmgaaWRepsOne
import Derived.Test.YtakgimjaiplmgaaWInv
import Derived.Test.YtakgimjaiplmgaaWInvWords
import Derived.Test.YtakgimjaiplmgaaWGuard
import Derived.Test.YtakgimjaiplmgaaWNEv
import Derived.Test.YtakgimjaiplmgaaWMore
namespace Go.Proofs.Ytakgimjaiplmgaa.PB
open Go.RowKit Go.Proofs.YtakgimjaiplmgaaW.PrintWords Go.Proofs.YtakgimjaiplmgaaW.PrintLast Go.Proofs.YtakgimjaiplmgaaW.PrintMore
attribute [local go_sem] max2_int min2_int max_two min_two max_three min_three max_four min_four   -- for this text's walks alone
set_option linter.unusedVariables false
set_option linter.unusedSimpArgs false



def errW : Option Int → Value
  | none => .nilIface
  | some c => .iface 0 (.int .i64 c)
theorem errW_none : errW none = .nilIface := rfl
theorem errW_some (c : Int) : errW (some c) = .iface 0 (.int .i64 c) := rfl

-- the values' own types
/-! #### struct type 24 -/
structure S24 where
  f0 : ByteArray
  f1 : ByteArray
  f2 : Bool
  f3 : ByteArray
  f4 : Bool
def z24 : S24 := ⟨(⟨#[]⟩ : ByteArray), (⟨#[]⟩ : ByteArray), false, (⟨#[]⟩ : ByteArray), false⟩
def k24 : Kd S24 := Kd.iso (Kd.pair Kd.string (Kd.pair Kd.string (Kd.pair Kd.bool (Kd.pair Kd.string Kd.bool)))) (fun x : S24 => (x.f0, x.f1, x.f2, x.f3, x.f4))
theorem k24_open {w : World} {x : S24} {cs : List Value} (h : k24.K w x cs) : cs = [.string x.f0, .string x.f1, .bool x.f2, .string x.f3, .bool x.f4] := by
  obtain ⟨_, _, rfl, rfl, ⟨_, _, rfl, rfl, ⟨_, _, rfl, rfl, ⟨_, _, rfl, rfl, rfl⟩⟩⟩⟩ := h
  exact rfl
theorem k24_openM {w : World} {base : Nat} {ok : Nat → Prop} {x : S24} {cs : List Value} (h : k24.M w base ok x cs) : cs = [.string x.f0, .string x.f1, .bool x.f2, .string x.f3, .bool x.f4] := by
  obtain ⟨_, _, rfl, rfl, ⟨_, _, rfl, rfl, ⟨_, _, rfl, rfl, ⟨_, _, rfl, rfl, rfl⟩⟩⟩⟩ := h
  exact rfl
theorem k24_mk (w : World) (x : S24)  : k24.K w x [.string x.f0, .string x.f1, .bool x.f2, .string x.f3, .bool x.f4] := ⟨[.string x.f0], [.string x.f1, .bool x.f2, .string x.f3, .bool x.f4], rfl, rfl, ⟨[.string x.f1], [.bool x.f2, .string x.f3, .bool x.f4], rfl, rfl, ⟨[.bool x.f2], [.string x.f3, .bool x.f4], rfl, rfl, ⟨[.string x.f3], [.bool x.f4], rfl, rfl, rfl⟩⟩⟩⟩
theorem k24_mkM (w : World) (base : Nat) (ok : Nat → Prop) (x : S24)  : k24.M w base ok x [.string x.f0, .string x.f1, .bool x.f2, .string x.f3, .bool x.f4] := ⟨[.string x.f0], [.string x.f1, .bool x.f2, .string x.f3, .bool x.f4], rfl, rfl, ⟨[.string x.f1], [.bool x.f2, .string x.f3, .bool x.f4], rfl, rfl, ⟨[.bool x.f2], [.string x.f3, .bool x.f4], rfl, rfl, ⟨[.string x.f3], [.bool x.f4], rfl, rfl, rfl⟩⟩⟩⟩
def rd_T24 (xs : List S24) (i : Int) : S24 := xs.getD i.toNat z24
theorem at_T24 {w : World} {A : Option Addr} {n : Nat} {xs : List S24} (h : Kd.C k24 w A n xs) (i : Int) (h0 : 0 ≤ i) (h1 : i < n) : ∃ ad , A = some ad ∧ w.cell? (ad.add (i.toNat * 5)) = some (.string (rd_T24 xs i).f0) ∧ w.cell? ⟨(ad.add (i.toNat * 5)).block, (ad.add (i.toNat * 5)).off + 1, none⟩ = some (.string (rd_T24 xs i).f1) ∧ w.cell? ⟨(ad.add (i.toNat * 5)).block, (ad.add (i.toNat * 5)).off + 2, none⟩ = some (.bool (rd_T24 xs i).f2) ∧ w.cell? ⟨(ad.add (i.toNat * 5)).block, (ad.add (i.toNat * 5)).off + 3, none⟩ = some (.string (rd_T24 xs i).f3) ∧ w.cell? ⟨(ad.add (i.toNat * 5)).block, (ad.add (i.toNat * 5)).off + 4, none⟩ = some (.bool (rd_T24 xs i).f4) := by
  obtain ⟨ad, c, e, _, hK, hc0⟩ := Kd.C_get h z24 i h0 h1
  have hc : ∀ j u, c[j]? = some u → w.cell? (ad.add (i.toNat * 5 + j)) = some u := hc0
  obtain rfl := k24_open hK
  exact ⟨ad, e, hc 0 _ rfl, by rw [← add_field _ _ 1 (by omega)]; exact hc 1 _ rfl, by rw [← add_field _ _ 2 (by omega)]; exact hc 2 _ rfl, by rw [← add_field _ _ 3 (by omega)]; exact hc 3 _ rfl, by rw [← add_field _ _ 4 (by omega)]; exact hc 4 _ rfl⟩

def rd_L4 (xs : List (List Int)) (i : Int) : (List Int) := xs.getD i.toNat ([] : List Int)
theorem at_L4 {w : World} {A : Option Addr} {n : Nat} {xs : List (List Int)} (h : Kd.C (Kd.slice 5 (Kd.int .u8)) w A n xs) (i : Int) (h0 : 0 ≤ i) (h1 : i < n) : ∃ ad A0 c0, A = some ad ∧ w.cell? (ad.add i.toNat) = some (.slice A0 (rd_L4 xs i).length c0) ∧ (rd_L4 xs i).length ≤ c0 ∧ (Kd.int .u8).C w A0 (rd_L4 xs i).length (rd_L4 xs i) := by
  obtain ⟨ad, c, e, _, hK, hc0⟩ := Kd.C_get h ([] : List Int) i h0 h1
  have hc : ∀ j u, c[j]? = some u → w.cell? (ad.add (i.toNat * 1 + j)) = some u := hc0
  obtain ⟨A0, c0, rfl, l0, g0⟩ := hK
  exact ⟨ad, A0, c0, e, by have hq := hc 0 _ rfl; rwa [Nat.mul_one, Nat.add_zero] at hq, l0, g0⟩

/-! #### struct type 27 -/
structure S27 where
  f0 : ByteArray
  f1 : ByteArray
  f2 : Bool
  f3 : ByteArray
  f4 : Bool
def z27 : S27 := ⟨(⟨#[]⟩ : ByteArray), (⟨#[]⟩ : ByteArray), false, (⟨#[]⟩ : ByteArray), false⟩
def k27 : Kd S27 := Kd.iso (Kd.pair Kd.string (Kd.pair Kd.string (Kd.pair Kd.bool (Kd.pair Kd.string Kd.bool)))) (fun x : S27 => (x.f0, x.f1, x.f2, x.f3, x.f4))
theorem k27_open {w : World} {x : S27} {cs : List Value} (h : k27.K w x cs) : cs = [.string x.f0, .string x.f1, .bool x.f2, .string x.f3, .bool x.f4] := by
  obtain ⟨_, _, rfl, rfl, ⟨_, _, rfl, rfl, ⟨_, _, rfl, rfl, ⟨_, _, rfl, rfl, rfl⟩⟩⟩⟩ := h
  exact rfl
theorem k27_openM {w : World} {base : Nat} {ok : Nat → Prop} {x : S27} {cs : List Value} (h : k27.M w base ok x cs) : cs = [.string x.f0, .string x.f1, .bool x.f2, .string x.f3, .bool x.f4] := by
  obtain ⟨_, _, rfl, rfl, ⟨_, _, rfl, rfl, ⟨_, _, rfl, rfl, ⟨_, _, rfl, rfl, rfl⟩⟩⟩⟩ := h
  exact rfl
theorem k27_mk (w : World) (x : S27)  : k27.K w x [.string x.f0, .string x.f1, .bool x.f2, .string x.f3, .bool x.f4] := ⟨[.string x.f0], [.string x.f1, .bool x.f2, .string x.f3, .bool x.f4], rfl, rfl, ⟨[.string x.f1], [.bool x.f2, .string x.f3, .bool x.f4], rfl, rfl, ⟨[.bool x.f2], [.string x.f3, .bool x.f4], rfl, rfl, ⟨[.string x.f3], [.bool x.f4], rfl, rfl, rfl⟩⟩⟩⟩
theorem k27_mkM (w : World) (base : Nat) (ok : Nat → Prop) (x : S27)  : k27.M w base ok x [.string x.f0, .string x.f1, .bool x.f2, .string x.f3, .bool x.f4] := ⟨[.string x.f0], [.string x.f1, .bool x.f2, .string x.f3, .bool x.f4], rfl, rfl, ⟨[.string x.f1], [.bool x.f2, .string x.f3, .bool x.f4], rfl, rfl, ⟨[.bool x.f2], [.string x.f3, .bool x.f4], rfl, rfl, ⟨[.string x.f3], [.bool x.f4], rfl, rfl, rfl⟩⟩⟩⟩
def rd_T27 (xs : List S27) (i : Int) : S27 := xs.getD i.toNat z27
theorem at_T27 {w : World} {A : Option Addr} {n : Nat} {xs : List S27} (h : Kd.C k27 w A n xs) (i : Int) (h0 : 0 ≤ i) (h1 : i < n) : ∃ ad , A = some ad ∧ w.cell? (ad.add (i.toNat * 5)) = some (.string (rd_T27 xs i).f0) ∧ w.cell? ⟨(ad.add (i.toNat * 5)).block, (ad.add (i.toNat * 5)).off + 1, none⟩ = some (.string (rd_T27 xs i).f1) ∧ w.cell? ⟨(ad.add (i.toNat * 5)).block, (ad.add (i.toNat * 5)).off + 2, none⟩ = some (.bool (rd_T27 xs i).f2) ∧ w.cell? ⟨(ad.add (i.toNat * 5)).block, (ad.add (i.toNat * 5)).off + 3, none⟩ = some (.string (rd_T27 xs i).f3) ∧ w.cell? ⟨(ad.add (i.toNat * 5)).block, (ad.add (i.toNat * 5)).off + 4, none⟩ = some (.bool (rd_T27 xs i).f4) := by
  obtain ⟨ad, c, e, _, hK, hc0⟩ := Kd.C_get h z27 i h0 h1
  have hc : ∀ j u, c[j]? = some u → w.cell? (ad.add (i.toNat * 5 + j)) = some u := hc0
  obtain rfl := k27_open hK
  exact ⟨ad, e, hc 0 _ rfl, by rw [← add_field _ _ 1 (by omega)]; exact hc 1 _ rfl, by rw [← add_field _ _ 2 (by omega)]; exact hc 2 _ rfl, by rw [← add_field _ _ 3 (by omega)]; exact hc 3 _ rfl, by rw [← add_field _ _ 4 (by omega)]; exact hc 4 _ rfl⟩

end Go.Proofs.Ytakgimjaiplmgaa.PB
