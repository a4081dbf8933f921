/- Texts of this claim, those that nothing needs left out: Xk Xb PAx0 Zm0 Zma Zmw Zmr PAx3. -/
import Derived.Test.YtecpjfipkejmoaaFtG0
import Derived.Test.YtecpjfipkejmoaaProg
import Derived.Below
import Derived.Deep.Draws
import Derived.Deep.AppendLies
import Derived.Maps.AppendAt
import Derived.OwnWalk
import Derived.Laws.BytesArg
import Derived.Laws.MakeOwn
import Derived.Laws.OwnMore
import Derived.Deep.OwnRows
import Derived.Tactics
import Derived.Lib.ConvBytes
import Derived.Laws.Slices
import Derived.WalkKit
import Derived.KernelRfl
import Derived.RowKit3
import Derived.Deep.LoopGhost
import Derived.Deep.QuietTactic
import Derived.BigQuiet
import Derived.WideLaws
import Derived.Deep.DeepCutAuto
import Derived.Deep.CutBlock
import Derived.Deep.RegionHeld3
import Derived.Laws.Rows
import Derived.Lib.AppendStr
import Derived.ArgAppend
import Derived.Laws.IdiomCopy
import Derived.OrdersHeld
import Derived.Laws.BitsLemmas
import Derived.RowKit
import Derived.WalkSpells
import Derived.WalkLawsBesides
import Derived.Outline
import Derived.Deep.DeepMust
import Derived.Test.YtecpjfipkejmoaaFtG1
section
namespace Go.Proofs.YtecpjfipkejmoaaW.PrintWords
open Go.RowKit
end Go.Proofs.YtecpjfipkejmoaaW.PrintWords
end
section
namespace Go.Proofs.Ytecpjfipkejmoaa.X
open Go.RowKit Go.Proofs.YtecpjfipkejmoaaW.PrintWords
theorem size_alloc1 (w : World) (o : Obj) : (w.alloc o).heap.size = w.heap.size + 1 := by simp
theorem blk_new2 (w : World) (o1 o2 : Obj) : ((w.alloc o1).alloc o2).heap[w.heap.size + 1]? = some o2 := by
  have h := blk_new (w.alloc o1) o2
  rwa [size_alloc1] at h
theorem below_new2 (w : World) (o1 o2 : Obj) : Below w.heap.size w ((w.alloc o1).alloc o2) := ((Below.refl _ _).alloc (Nat.le_refl _) _).alloc (by simp) _
theorem below_new1 (w : World) (o1 : Obj) : Below w.heap.size w (w.alloc o1) := (Below.refl _ _).alloc (Nat.le_refl _) _
theorem C_cell1 {α : Type} {enc : α → Value} {h1 : ∀ x, (enc x).oneCell' = true} {w : World} {A : Option Addr} {n : Nat} {xs : List α} (h : Kd.C (Kd.scalar enc h1) w A n xs) (k : Nat) (hk : k < xs.length) :
    ∃ ad, A = some ad ∧ w.cell? (ad.add k) = some (enc xs[k]) := by
  have hn : 0 < n := by have := h.1; omega
  obtain ⟨ad, e, hc⟩ := h.2.2 hn
  obtain ⟨c, hs, hr, hcell⟩ := hc k _ (List.getElem?_eq_getElem hk)
  have hr : c = [enc xs[k]] := hr
  subst hr
  refine ⟨ad, e, ?_⟩
  have := hcell 0 (enc xs[k]) rfl
  simpa [Kd.scalar] using this
theorem C_nil {α : Type} (d : Kd α) (w : World) : Kd.C d w none ([] : List α).length [] := ⟨rfl, by simp, fun h => absurd h (Nat.lt_irrefl 0)⟩
end Go.Proofs.Ytecpjfipkejmoaa.X
end
section
namespace Go.Proofs.Ytecpjfipkejmoaa.PA
open Go.RowKit Go.Proofs.YtecpjfipkejmoaaW.PrintWords Go.Proofs.YtecpjfipkejmoaaW.PrintLast Go.Proofs.YtecpjfipkejmoaaW.PrintMore
attribute [local go_sem] max2_int min2_int max_two min_two max_three min_three max_four min_four   -- for this text's walks alone
set_option linter.unusedVariables false
set_option linter.unusedSimpArgs false
def errW : Option Int → Value
  | none => .nilIface
  | some c => .iface 0 (.int .i64 c)
theorem errW_none : errW none = .nilIface := rfl
theorem errW_some (c : Int) : errW (some c) = .iface 0 (.int .i64 c) := rfl
theorem info3 : (Try.prog.info? 3).map (fun i => (i.zero, i.size, i.bytes)) = some (some (.int .i64 0), 1, 8) := by kernel_rfl
theorem info33 : (Try.prog.info? 33).map (fun i => (i.zero, i.size, i.bytes)) = some (some (.slice none 0 0), 1, 24) := by kernel_rfl
theorem info68 : (Try.prog.info? 68).map (fun i => (i.zero, i.size, i.bytes)) = some (some (.agg #[(.int .i64 0), (.int .i64 0)]), 2, 16) := by kernel_rfl
structure S65 where
  f0 : Int
  f1 : Int
  f2 : Int
def z65 : S65 := ⟨(0 : Int), (0 : Int), (0 : Int)⟩
def k65 : Kd S65 := Kd.iso (Kd.pair (Kd.int .u8) (Kd.pair (Kd.int .u8) (Kd.int .i64))) (fun x : S65 => (x.f0, x.f1, x.f2))
theorem k65_open {w : World} {x : S65} {cs : List Value} (h : k65.K w x cs) : cs = [.int .u8 x.f0, .int .u8 x.f1, .int .i64 x.f2] := by
  obtain ⟨_, _, rfl, rfl, ⟨_, _, rfl, rfl, rfl⟩⟩ := h
  exact rfl
def rd_T65 (xs : List S65) (i : Int) : S65 := xs.getD i.toNat z65
theorem at_T65 {w : World} {A : Option Addr} {n : Nat} {xs : List S65} (h : Kd.C k65 w A n xs) (i : Int) (h0 : 0 ≤ i) (h1 : i < n) : ∃ ad , A = some ad ∧ w.cell? (ad.add (i.toNat * 3)) = some (.int .u8 (rd_T65 xs i).f0) ∧ w.cell? ⟨(ad.add (i.toNat * 3)).block, (ad.add (i.toNat * 3)).off + 1, none⟩ = some (.int .u8 (rd_T65 xs i).f1) ∧ w.cell? ⟨(ad.add (i.toNat * 3)).block, (ad.add (i.toNat * 3)).off + 2, none⟩ = some (.int .i64 (rd_T65 xs i).f2) := by
  obtain ⟨ad, c, e, _, hK, hc0⟩ := Kd.C_get h z65 i h0 h1
  have hc : ∀ j u, c[j]? = some u → w.cell? (ad.add (i.toNat * 3 + j)) = some u := hc0
  obtain rfl := k65_open hK
  exact ⟨ad, e, hc 0 _ rfl, by rw [← add_field _ _ 1 (by omega)]; exact hc 1 _ rfl, by rw [← add_field _ _ 2 (by omega)]; exact hc 2 _ rfl⟩
def rd_L4 (xs : List (List Int)) (i : Int) : (List Int) := xs.getD i.toNat ([] : List Int)
theorem at_L4 {w : World} {A : Option Addr} {n : Nat} {xs : List (List Int)} (h : Kd.C (Kd.slice 3 (Kd.int .i64)) w A n xs) (i : Int) (h0 : 0 ≤ i) (h1 : i < n) : ∃ ad A0 c0, A = some ad ∧ w.cell? (ad.add i.toNat) = some (.slice A0 (rd_L4 xs i).length c0) ∧ (rd_L4 xs i).length ≤ c0 ∧ (Kd.int .i64).C w A0 (rd_L4 xs i).length (rd_L4 xs i) := by
  obtain ⟨ad, c, e, _, hK, hc0⟩ := Kd.C_get h ([] : List Int) i h0 h1
  have hc : ∀ j u, c[j]? = some u → w.cell? (ad.add (i.toNat * 1 + j)) = some u := hc0
  obtain ⟨A0, c0, rfl, l0, g0⟩ := hK
  exact ⟨ad, A0, c0, e, by have hq := hc 0 _ rfl; rwa [Nat.mul_one, Nat.add_zero] at hq, l0, g0⟩
structure S35 where
  f0 : Int
  f1 : (List S65)
  f2 : (List Int)
  f3 : Int
  f4 : Int
def z35 : S35 := ⟨(0 : Int), ([] : List S65), ([] : List Int), (0 : Int), (0 : Int)⟩
def k35 : Kd S35 := Kd.iso (Kd.pair (Kd.int .i64) (Kd.pair (Kd.slice 65 k65) (Kd.pair (Kd.slice 3 (Kd.int .i64)) (Kd.pair (Kd.int .i64) (Kd.int .i64))))) (fun x : S35 => (x.f0, x.f1, x.f2, x.f3, x.f4))
theorem k35_open {w : World} {x : S35} {cs : List Value} (h : k35.K w x cs) : ∃ A1 c1 A2 c2, cs = [.int .i64 x.f0, .slice A1 x.f1.length c1, .slice A2 x.f2.length c2, .int .i64 x.f3, .int .i64 x.f4] ∧ x.f1.length ≤ c1 ∧ k65.C w A1 x.f1.length x.f1 ∧ x.f2.length ≤ c2 ∧ (Kd.int .i64).C w A2 x.f2.length x.f2 := by
  obtain ⟨_, _, rfl, rfl, ⟨_, _, rfl, ⟨A1, c1, rfl, l1, g1⟩, ⟨_, _, rfl, ⟨A2, c2, rfl, l2, g2⟩, ⟨_, _, rfl, rfl, rfl⟩⟩⟩⟩ := h
  exact ⟨A1, c1, A2, c2, rfl, l1, g1, l2, g2⟩
def rd_T35 (xs : List S35) (i : Int) : S35 := xs.getD i.toNat z35
theorem at_T35 {w : World} {A : Option Addr} {n : Nat} {xs : List S35} (h : Kd.C k35 w A n xs) (i : Int) (h0 : 0 ≤ i) (h1 : i < n) : ∃ ad A1 c1 A2 c2, A = some ad ∧ w.cell? (ad.add (i.toNat * 5)) = some (.int .i64 (rd_T35 xs i).f0) ∧ w.cell? ⟨(ad.add (i.toNat * 5)).block, (ad.add (i.toNat * 5)).off + 1, none⟩ = some (.slice A1 (rd_T35 xs i).f1.length c1) ∧ w.cell? ⟨(ad.add (i.toNat * 5)).block, (ad.add (i.toNat * 5)).off + 2, none⟩ = some (.slice A2 (rd_T35 xs i).f2.length c2) ∧ w.cell? ⟨(ad.add (i.toNat * 5)).block, (ad.add (i.toNat * 5)).off + 3, none⟩ = some (.int .i64 (rd_T35 xs i).f3) ∧ w.cell? ⟨(ad.add (i.toNat * 5)).block, (ad.add (i.toNat * 5)).off + 4, none⟩ = some (.int .i64 (rd_T35 xs i).f4) ∧ (rd_T35 xs i).f1.length ≤ c1 ∧ k65.C w A1 (rd_T35 xs i).f1.length (rd_T35 xs i).f1 ∧ (rd_T35 xs i).f2.length ≤ c2 ∧ (Kd.int .i64).C w A2 (rd_T35 xs i).f2.length (rd_T35 xs i).f2 := by
  obtain ⟨ad, c, e, _, hK, hc0⟩ := Kd.C_get h z35 i h0 h1
  have hc : ∀ j u, c[j]? = some u → w.cell? (ad.add (i.toNat * 5 + j)) = some u := hc0
  obtain ⟨A1, c1, A2, c2, rfl, l1, g1, l2, g2⟩ := k35_open hK
  exact ⟨ad, A1, c1, A2, c2, e, hc 0 _ rfl, by rw [← add_field _ _ 1 (by omega)]; exact hc 1 _ rfl, by rw [← add_field _ _ 2 (by omega)]; exact hc 2 _ rfl, by rw [← add_field _ _ 3 (by omega)]; exact hc 3 _ rfl, by rw [← add_field _ _ 4 (by omega)]; exact hc 4 _ rfl, l1, g1, l2, g2⟩
structure S31 where
  f0 : Int
  f1 : Int
def z31 : S31 := ⟨(0 : Int), (0 : Int)⟩
def k31 : Kd S31 := Kd.iso (Kd.pair (Kd.int .i64) (Kd.int .i64)) (fun x : S31 => (x.f0, x.f1))
theorem k31_open {w : World} {x : S31} {cs : List Value} (h : k31.K w x cs) : cs = [.int .i64 x.f0, .int .i64 x.f1] := by
  obtain ⟨_, _, rfl, rfl, rfl⟩ := h
  exact rfl
theorem k31_mk (w : World) (x : S31)  : k31.K w x [.int .i64 x.f0, .int .i64 x.f1] := ⟨[.int .i64 x.f0], [.int .i64 x.f1], rfl, rfl, rfl⟩
def rd_T31 (xs : List S31) (i : Int) : S31 := xs.getD i.toNat z31
theorem at_T31 {w : World} {A : Option Addr} {n : Nat} {xs : List S31} (h : Kd.C k31 w A n xs) (i : Int) (h0 : 0 ≤ i) (h1 : i < n) : ∃ ad , A = some ad ∧ w.cell? (ad.add (i.toNat * 2)) = some (.int .i64 (rd_T31 xs i).f0) ∧ w.cell? ⟨(ad.add (i.toNat * 2)).block, (ad.add (i.toNat * 2)).off + 1, none⟩ = some (.int .i64 (rd_T31 xs i).f1) := by
  obtain ⟨ad, c, e, _, hK, hc0⟩ := Kd.C_get h z31 i h0 h1
  have hc : ∀ j u, c[j]? = some u → w.cell? (ad.add (i.toNat * 2 + j)) = some u := hc0
  obtain rfl := k31_open hK
  exact ⟨ad, e, hc 0 _ rfl, by rw [← add_field _ _ 1 (by omega)]; exact hc 1 _ rfl⟩
structure S68 where
  f0 : Int
  f1 : Int
def z68 : S68 := ⟨(0 : Int), (0 : Int)⟩
def k68 : Kd S68 := Kd.iso (Kd.pair (Kd.int .i64) (Kd.int .i64)) (fun x : S68 => (x.f0, x.f1))
theorem k68_open {w : World} {x : S68} {cs : List Value} (h : k68.K w x cs) : cs = [.int .i64 x.f0, .int .i64 x.f1] := by
  obtain ⟨_, _, rfl, rfl, rfl⟩ := h
  exact rfl
theorem k68_mkM (w : World) (base : Nat) (ok : Nat → Prop) (x : S68)  : k68.M w base ok x [.int .i64 x.f0, .int .i64 x.f1] := ⟨[.int .i64 x.f0], [.int .i64 x.f1], rfl, rfl, rfl⟩
def rd_T68 (xs : List S68) (i : Int) : S68 := xs.getD i.toNat z68
theorem at_T68 {w : World} {A : Option Addr} {n : Nat} {xs : List S68} (h : Kd.C k68 w A n xs) (i : Int) (h0 : 0 ≤ i) (h1 : i < n) : ∃ ad , A = some ad ∧ w.cell? (ad.add (i.toNat * 2)) = some (.int .i64 (rd_T68 xs i).f0) ∧ w.cell? ⟨(ad.add (i.toNat * 2)).block, (ad.add (i.toNat * 2)).off + 1, none⟩ = some (.int .i64 (rd_T68 xs i).f1) := by
  obtain ⟨ad, c, e, _, hK, hc0⟩ := Kd.C_get h z68 i h0 h1
  have hc : ∀ j u, c[j]? = some u → w.cell? (ad.add (i.toNat * 2 + j)) = some u := hc0
  obtain rfl := k68_open hK
  exact ⟨ad, e, hc 0 _ rfl, by rw [← add_field _ _ 1 (by omega)]; exact hc 1 _ rfl⟩
end Go.Proofs.Ytecpjfipkejmoaa.PA
end
section
namespace Go.Proofs.Ytecpjfipkejmoaa.PA
set_option linter.unusedSimpArgs false
set_option linter.unusedVariables false
open Go.RowKit Go.Proofs.YtecpjfipkejmoaaW.PrintWords Go.Proofs.YtecpjfipkejmoaaW.PrintLast
structure S52 where
  f0 : Int
  f1 : Int
  f2 : Int
def z52 : S52 := ⟨(0 : Int), (0 : Int), (0 : Int)⟩
def k52 : Kd S52 := Kd.iso (Kd.pair (Kd.int .u8) (Kd.pair (Kd.int .u8) (Kd.int .i64))) (fun x : S52 => (x.f0, x.f1, x.f2))
theorem k52_open {w : World} {x : S52} {cs : List Value} (h : k52.K w x cs) : cs = [.int .u8 x.f0, .int .u8 x.f1, .int .i64 x.f2] := by
  obtain ⟨_, _, rfl, rfl, ⟨_, _, rfl, rfl, rfl⟩⟩ := h
  exact rfl
theorem k52_mk (w : World) (x : S52)  : k52.K w x [.int .u8 x.f0, .int .u8 x.f1, .int .i64 x.f2] := ⟨[.int .u8 x.f0], [.int .u8 x.f1, .int .i64 x.f2], rfl, rfl, ⟨[.int .u8 x.f1], [.int .i64 x.f2], rfl, rfl, rfl⟩⟩
def rd_T52 (xs : List S52) (i : Int) : S52 := xs.getD i.toNat z52
theorem at_T52 {w : World} {A : Option Addr} {n : Nat} {xs : List S52} (h : Kd.C k52 w A n xs) (i : Int) (h0 : 0 ≤ i) (h1 : i < n) : ∃ ad , A = some ad ∧ w.cell? (ad.add (i.toNat * 3)) = some (.int .u8 (rd_T52 xs i).f0) ∧ w.cell? ⟨(ad.add (i.toNat * 3)).block, (ad.add (i.toNat * 3)).off + 1, none⟩ = some (.int .u8 (rd_T52 xs i).f1) ∧ w.cell? ⟨(ad.add (i.toNat * 3)).block, (ad.add (i.toNat * 3)).off + 2, none⟩ = some (.int .i64 (rd_T52 xs i).f2) := by
  obtain ⟨ad, c, e, _, hK, hc0⟩ := Kd.C_get h z52 i h0 h1
  have hc : ∀ j u, c[j]? = some u → w.cell? (ad.add (i.toNat * 3 + j)) = some u := hc0
  obtain rfl := k52_open hK
  exact ⟨ad, e, hc 0 _ rfl, by rw [← add_field _ _ 1 (by omega)]; exact hc 1 _ rfl, by rw [← add_field _ _ 2 (by omega)]; exact hc 2 _ rfl⟩
structure S49 where
  f0 : Int
  f1 : (List S52)
  f2 : (List Int)
  f3 : Int
  f4 : Int
def z49 : S49 := ⟨(0 : Int), ([] : List S52), ([] : List Int), (0 : Int), (0 : Int)⟩
def k49 : Kd S49 := Kd.iso (Kd.pair (Kd.int .i64) (Kd.pair (Kd.slice 52 k52) (Kd.pair (Kd.slice 3 (Kd.int .i64)) (Kd.pair (Kd.int .i64) (Kd.int .i64))))) (fun x : S49 => (x.f0, x.f1, x.f2, x.f3, x.f4))
theorem k49_open {w : World} {x : S49} {cs : List Value} (h : k49.K w x cs) : ∃ A1 c1 A2 c2, cs = [.int .i64 x.f0, .slice A1 x.f1.length c1, .slice A2 x.f2.length c2, .int .i64 x.f3, .int .i64 x.f4] ∧ x.f1.length ≤ c1 ∧ k52.C w A1 x.f1.length x.f1 ∧ x.f2.length ≤ c2 ∧ (Kd.int .i64).C w A2 x.f2.length x.f2 := by
  obtain ⟨_, _, rfl, rfl, ⟨_, _, rfl, ⟨A1, c1, rfl, l1, g1⟩, ⟨_, _, rfl, ⟨A2, c2, rfl, l2, g2⟩, ⟨_, _, rfl, rfl, rfl⟩⟩⟩⟩ := h
  exact ⟨A1, c1, A2, c2, rfl, l1, g1, l2, g2⟩
theorem k49_mk (w : World) (x : S49) {A1 : Option Addr} {c1 : Nat} (l1 : x.f1.length ≤ c1) (g1 : k52.C w A1 x.f1.length x.f1) {A2 : Option Addr} {c2 : Nat} (l2 : x.f2.length ≤ c2) (g2 : (Kd.int .i64).C w A2 x.f2.length x.f2) : k49.K w x [.int .i64 x.f0, .slice A1 x.f1.length c1, .slice A2 x.f2.length c2, .int .i64 x.f3, .int .i64 x.f4] := ⟨[.int .i64 x.f0], [.slice A1 x.f1.length c1, .slice A2 x.f2.length c2, .int .i64 x.f3, .int .i64 x.f4], rfl, rfl, ⟨[.slice A1 x.f1.length c1], [.slice A2 x.f2.length c2, .int .i64 x.f3, .int .i64 x.f4], rfl, ⟨A1, c1, rfl, l1, g1⟩, ⟨[.slice A2 x.f2.length c2], [.int .i64 x.f3, .int .i64 x.f4], rfl, ⟨A2, c2, rfl, l2, g2⟩, ⟨[.int .i64 x.f3], [.int .i64 x.f4], rfl, rfl, rfl⟩⟩⟩⟩
def rd_T49 (xs : List S49) (i : Int) : S49 := xs.getD i.toNat z49
theorem at_T49 {w : World} {A : Option Addr} {n : Nat} {xs : List S49} (h : Kd.C k49 w A n xs) (i : Int) (h0 : 0 ≤ i) (h1 : i < n) : ∃ ad A1 c1 A2 c2, A = some ad ∧ w.cell? (ad.add (i.toNat * 5)) = some (.int .i64 (rd_T49 xs i).f0) ∧ w.cell? ⟨(ad.add (i.toNat * 5)).block, (ad.add (i.toNat * 5)).off + 1, none⟩ = some (.slice A1 (rd_T49 xs i).f1.length c1) ∧ w.cell? ⟨(ad.add (i.toNat * 5)).block, (ad.add (i.toNat * 5)).off + 2, none⟩ = some (.slice A2 (rd_T49 xs i).f2.length c2) ∧ w.cell? ⟨(ad.add (i.toNat * 5)).block, (ad.add (i.toNat * 5)).off + 3, none⟩ = some (.int .i64 (rd_T49 xs i).f3) ∧ w.cell? ⟨(ad.add (i.toNat * 5)).block, (ad.add (i.toNat * 5)).off + 4, none⟩ = some (.int .i64 (rd_T49 xs i).f4) ∧ (rd_T49 xs i).f1.length ≤ c1 ∧ k52.C w A1 (rd_T49 xs i).f1.length (rd_T49 xs i).f1 ∧ (rd_T49 xs i).f2.length ≤ c2 ∧ (Kd.int .i64).C w A2 (rd_T49 xs i).f2.length (rd_T49 xs i).f2 := by
  obtain ⟨ad, c, e, _, hK, hc0⟩ := Kd.C_get h z49 i h0 h1
  have hc : ∀ j u, c[j]? = some u → w.cell? (ad.add (i.toNat * 5 + j)) = some u := hc0
  obtain ⟨A1, c1, A2, c2, rfl, l1, g1, l2, g2⟩ := k49_open hK
  exact ⟨ad, A1, c1, A2, c2, e, hc 0 _ rfl, by rw [← add_field _ _ 1 (by omega)]; exact hc 1 _ rfl, by rw [← add_field _ _ 2 (by omega)]; exact hc 2 _ rfl, by rw [← add_field _ _ 3 (by omega)]; exact hc 3 _ rfl, by rw [← add_field _ _ 4 (by omega)]; exact hc 4 _ rfl, l1, g1, l2, g2⟩
end Go.Proofs.Ytecpjfipkejmoaa.PA
end
section
namespace Go.Proofs.Ytecpjfipkejmoaa.PA
set_option linter.unusedSimpArgs false
set_option linter.unusedVariables false
open Go.RowKit Go.Proofs.YtecpjfipkejmoaaW.PrintWords Go.Proofs.YtecpjfipkejmoaaW.PrintLast
def okE (many : Int) (e : S52) : Bool := decide (e.f0 ≤ e.f1) && decide (0 ≤ e.f2) && decide (e.f2 < many)
def apart (a b : S52) : Bool := decide (a.f1 < b.f0) || decide (b.f1 < a.f0)
theorem apart_symm {a b : S52} (h : apart a b = true) : apart b a = true := by unfold apart at *; rw [Bool.or_comm]; exact h
def eatsB (many : Int) : List S52 → Bool
  | [] => true
  | e :: r => okE many e && r.all (apart e) && eatsB many r
theorem eatsB_iff {many : Int} {l : List S52} : eatsB many l = true ↔ (∀ e ∈ l, okE many e = true) ∧ l.Pairwise fun a b => apart a b = true := by
  induction l with
  | nil => simp [eatsB]
  | cons e r ih =>
    simp only [eatsB, Bool.and_eq_true, List.all_eq_true, ih, List.mem_cons, List.pairwise_cons, forall_eq_or_imp]
    exact ⟨fun ⟨⟨h1, h2⟩, h3, h4⟩ => ⟨⟨h1, h3⟩, h2, h4⟩, fun ⟨⟨h1, h3⟩, h2, h4⟩ => ⟨⟨h1, h2⟩, h3, h4⟩⟩
theorem eatsB_perm {many : Int} {l d : List S52} (h : l.Perm d) : eatsB many l = eatsB many d := by
  rw [Bool.eq_iff_iff, eatsB_iff, eatsB_iff, h.pairwise_iff (fun {a b} (x : apart a b = true) => apart_symm x)]
  exact ⟨fun ⟨h1, h2⟩ => ⟨fun e he => h1 e (h.mem_iff.2 he), h2⟩, fun ⟨h1, h2⟩ => ⟨fun e he => h1 e (h.mem_iff.1 he), h2⟩⟩
def fineAt (many : Int) (d : List S52) (i : Nat) (h : i < d.length) : Bool := okE many d[i] && (i == 0 || decide ((d[i - 1]'(by omega)).f1 < d[i].f0))
theorem fine_eats {many : Int} {d : List S52} (hs : ∀ i j (hi : i < d.length) (hj : j < d.length), i < j → d[i].f0 ≤ d[j].f0) (hf : ∀ i (h : i < d.length), fineAt many d i h = true) : eatsB many d = true := by
  refine eatsB_iff.2 ⟨fun e he => ?_, List.pairwise_iff_getElem.2 fun i j hi hj hij => ?_⟩
  · obtain ⟨i, hi, rfl⟩ := List.getElem_of_mem he
    have := hf i hi
    simp only [fineAt, Bool.and_eq_true] at this
    exact this.1
  · have h1 := hf (i + 1) (by omega)
    simp only [fineAt, Bool.and_eq_true, Bool.or_eq_true, beq_iff_eq, decide_eq_true_eq, Nat.add_sub_cancel] at h1
    have h2 := h1.2.resolve_left (by omega)
    have h3 : d[i + 1].f0 ≤ d[j].f0 := by
      rcases Nat.lt_or_ge (i + 1) j with h | h
      · exact hs _ _ _ _ h
      · have : i + 1 = j := by omega
        subst this; exact Int.le_refl _
    simp only [apart, Bool.or_eq_true, decide_eq_true_eq]
    left; omega
theorem eats_fine {many : Int} {d : List S52} (hs : ∀ i j (hi : i < d.length) (hj : j < d.length), i < j → d[i].f0 ≤ d[j].f0) (he : eatsB many d = true) (i : Nat) (h : i < d.length) : fineAt many d i h = true := by
  obtain ⟨h1, h2⟩ := eatsB_iff.1 he
  have ho := h1 _ (List.getElem_mem h)
  simp only [fineAt, Bool.and_eq_true, Bool.or_eq_true, beq_iff_eq, decide_eq_true_eq]
  refine ⟨ho, ?_⟩
  rcases Nat.eq_zero_or_pos i with h0 | h0
  · exact .inl h0
  · right
    have ha := List.pairwise_iff_getElem.1 h2 (i - 1) i (by omega) h (by omega)
    have hle := hs (i - 1) i (by omega) h (by omega)
    simp only [apart, Bool.or_eq_true, decide_eq_true_eq] at ha
    simp only [okE, Bool.and_eq_true, decide_eq_true_eq] at ho
    rcases ha with ha | ha
    · exact ha
    · omega
def rightB (many at_ : Int) (n : S49) : Bool :=
  if n.f0 = 1 then n.f2.isEmpty && decide (n.f4 = 0) && eatsB many n.f1
  else if n.f0 = 2 then n.f1.isEmpty && decide (n.f4 = 0) && n.f2.all fun t => decide (at_ < t) && decide (t < many)
  else if n.f0 = 3 then n.f1.isEmpty && n.f2.isEmpty && (decide (at_ < n.f4) && decide (n.f4 < many))
  else if n.f0 = 4 then n.f1.isEmpty && n.f2.isEmpty && decide (n.f4 = 0)
  else false
def mayFrom (many : Int) (k : Nat) : List S49 → Bool
  | [] => true
  | n :: r => rightB many k n && mayFrom many (k + 1) r
def mayB (m : List S49) : Bool := decide (1 ≤ m.length) && decide (m.length ≤ 100000) && mayFrom m.length 0 m
theorem mayFrom_iff {many : Int} : ∀ {m : List S49} {k : Nat}, mayFrom many k m = true ↔ ∀ i (h : i < m.length), rightB many ((k + i : Nat) : Int) m[i] = true
  | [], k => by simp [mayFrom]
  | n :: r, k => by
    rw [mayFrom, Bool.and_eq_true, mayFrom_iff]
    constructor
    · rintro ⟨h1, h2⟩ i hi
      cases i with
      | zero => exact h1
      | succ i => have := h2 i (by simpa using hi); rw [show k + 1 + i = k + (i + 1) by omega] at this; exact this
    · intro h
      refine ⟨h 0 (by simp), fun i hi => ?_⟩
      have := h (i + 1) (by simpa using hi)
      rw [show k + (i + 1) = k + 1 + i by omega] at this
      exact this
theorem mayB_iff {m : List S49} : mayB m = true ↔ (1 ≤ m.length ∧ m.length ≤ 100000) ∧ ∀ i (h : i < m.length), rightB m.length (i : Int) m[i] = true := by
  simp only [mayB, Bool.and_eq_true, decide_eq_true_eq, mayFrom_iff, Nat.zero_add]
theorem may_not {m : List S49} {k : Nat} (hk : k < m.length) {x : S49} (hx : x = m[k]) (h : rightB m.length (k : Int) x = false) : mayB m = false := by
  cases hm : mayB m with
  | false => rfl
  | true => have := (mayB_iff.1 hm).2 k hk; rw [← hx, h] at this; cases this
end Go.Proofs.Ytecpjfipkejmoaa.PA
end
section
namespace Go.Proofs.Ytecpjfipkejmoaa.PA
set_option linter.unusedSimpArgs false
set_option linter.unusedVariables false
open Go.RowKit Go.Proofs.YtecpjfipkejmoaaW.PrintWords Go.Proofs.YtecpjfipkejmoaaW.PrintLast
def stepE (s : List UInt8) (p : Nat) (e : S52) : Bool := match s[p]? with
  | some c => decide (e.f0 ≤ (c.toNat : Int)) && decide ((c.toNat : Int) ≤ e.f1)
  | none => false
def nextsN (s : List UInt8) (p : Nat) (n : S49) : List (Nat × Nat) :=
  if n.f0 = 3 then [(n.f4.toNat, p)]
  else if n.f0 = 2 then n.f2.map fun t => (t.toNat, p)
  else if n.f0 = 1 then (n.f1.filter (stepE s p)).map fun e => (e.f2.toNat, p + 1)
  else []
def nexts (m : List S49) (s : List UInt8) (p : Nat × Nat) : List (Nat × Nat) := match m[p.1]? with
  | some n => nextsN s p.2 n
  | none => []
def endsB (m : List S49) (s : List UInt8) (p : Nat × Nat) : Bool := match m[p.1]? with
  | some n => decide (n.f0 = 4) && decide (p.2 = s.length)
  | none => false
def addW (f : Nat × Nat → Nat) (n : Nat) (q : Nat × Nat) : Nat := min (n + f q) 1000
def ways (m : List S49) (s : List UInt8) : Nat → Nat × Nat → Nat
  | 0, _ => 0
  | k + 1, p => (nexts m s p).foldl (addW (ways m s k)) (if endsB m s p = true then 1 else 0)
def validP (m : List S49) (s : List UInt8) (p : Nat × Nat) : Prop := p.1 < m.length ∧ p.2 ≤ s.length
def mu (m : List S49) (s : List UInt8) (p : Nat × Nat) : Nat := (s.length - p.2) * m.length + (m.length - p.1)
def waysOf (m : List S49) (s : List UInt8) (p : Nat × Nat) : Nat := ways m s (mu m s p) p
theorem right_at {m : List S49} (h : mayB m = true) {i : Nat} {n : S49} (hi : m[i]? = some n) : rightB m.length (i : Int) n = true := by
  obtain ⟨hl, rfl⟩ := List.getElem?_eq_some_iff.1 hi
  exact (mayB_iff.1 h).2 i hl
theorem nexts_valid {m : List S49} {s : List UInt8} (hm : mayB m = true) {p q : Nat × Nat} (hp : validP m s p) (hq : q ∈ nexts m s p) : validP m s q ∧ mu m s q < mu m s p ∧ p.2 ≤ q.2 := by
  obtain ⟨i, a⟩ := p
  obtain ⟨h1, h2⟩ := hp
  dsimp only at h1 h2
  have hn := List.getElem?_eq_getElem h1
  unfold nexts at hq
  rw [show ((i, a) : Nat × Nat).1 = i from rfl, hn] at hq
  have hr := right_at hm hn
  generalize m[i] = n at hq hr
  dsimp only at hq
  have same : ∀ t : Int, (i : Int) < t → t < m.length → validP m s (t.toNat, a) ∧ mu m s (t.toNat, a) < mu m s (i, a) ∧ a ≤ a := by
    intro t h3 h4
    refine ⟨⟨by dsimp only; omega, h2⟩, ?_, Nat.le_refl _⟩
    unfold mu
    dsimp only
    omega
  unfold nextsN at hq
  unfold rightB at hr
  by_cases k3 : n.f0 = 3
  · rw [if_pos k3] at hq
    rw [if_neg (by omega), if_neg (by omega), if_pos k3] at hr
    simp only [Bool.and_eq_true, decide_eq_true_eq, List.isEmpty_iff] at hr
    obtain rfl := List.mem_singleton.1 hq
    exact same _ hr.2.1 hr.2.2
  · rw [if_neg k3] at hq
    by_cases k2 : n.f0 = 2
    · rw [if_pos k2] at hq
      rw [if_neg (by omega), if_pos k2] at hr
      simp only [Bool.and_eq_true, decide_eq_true_eq, List.isEmpty_iff, List.all_eq_true] at hr
      obtain ⟨t, ht, rfl⟩ := List.mem_map.1 hq
      exact same _ (hr.2 t ht).1 (hr.2 t ht).2
    · rw [if_neg k2] at hq
      by_cases k1 : n.f0 = 1
      · rw [if_pos k1] at hq
        rw [if_pos k1] at hr
        simp only [Bool.and_eq_true, decide_eq_true_eq, List.isEmpty_iff] at hr
        obtain ⟨e, he, rfl⟩ := List.mem_map.1 hq
        obtain ⟨he1, he2⟩ := List.mem_filter.1 he
        have ho := (eatsB_iff.1 hr.2).1 e he1
        simp only [okE, Bool.and_eq_true, decide_eq_true_eq] at ho
        have ha : a < s.length := by
          unfold stepE at he2
          split at he2
          · exact (List.getElem?_eq_some_iff.1 (by assumption)).1
          · cases he2
        refine ⟨⟨by dsimp only; omega, ha⟩, ?_, Nat.le_succ _⟩
        unfold mu
        dsimp only
        have e1 : s.length - a = (s.length - (a + 1)) + 1 := by omega
        rw [e1, Nat.succ_mul]
        omega
      · rw [if_neg k1] at hq
        cases hq
theorem foldl_addW_congr {f g : Nat × Nat → Nat} : ∀ (l : List (Nat × Nat)) (n : Nat), (∀ q ∈ l, f q = g q) → l.foldl (addW f) n = l.foldl (addW g) n
  | [], _, _ => rfl
  | q :: r, n, h => by
    rw [List.foldl_cons, List.foldl_cons, show addW f n q = addW g n q from by unfold addW; rw [h q (by simp)]]
    exact foldl_addW_congr r _ fun x hx => h x (by simp [hx])
theorem mu_pos {m : List S49} {s : List UInt8} {p : Nat × Nat} (hp : validP m s p) : 0 < mu m s p := by
  unfold mu
  have := hp.1
  omega
theorem ways_stable {m : List S49} {s : List UInt8} (hm : mayB m = true) : ∀ (n : Nat) (p : Nat × Nat), mu m s p ≤ n → validP m s p → ∀ k, mu m s p ≤ k → ways m s k p = waysOf m s p := by
  intro n
  induction n with
  | zero => intro p h hp; have := mu_pos hp; omega
  | succ n ih =>
    intro p h hp k hk
    have h0 := mu_pos hp
    unfold waysOf
    obtain ⟨j, hj⟩ : ∃ j, mu m s p = j + 1 := ⟨mu m s p - 1, by omega⟩
    obtain ⟨i, hi⟩ : ∃ i, k = i + 1 := ⟨k - 1, by omega⟩
    rw [hj, hi, ways, ways]
    refine foldl_addW_congr _ _ fun q hq => ?_
    obtain ⟨h1, h2, _⟩ := nexts_valid hm hp hq
    rw [ih q (by omega) h1 i (by omega), ih q (by omega) h1 j (by omega)]
theorem waysOf_eq {m : List S49} {s : List UInt8} (hm : mayB m = true) {p : Nat × Nat} (hp : validP m s p) : waysOf m s p = (nexts m s p).foldl (addW (waysOf m s)) (if endsB m s p = true then 1 else 0) := by
  have h0 := mu_pos hp
  obtain ⟨j, hj⟩ : ∃ j, mu m s p = j + 1 := ⟨mu m s p - 1, by omega⟩
  conv => lhs; unfold waysOf
  rw [hj, ways]
  refine foldl_addW_congr _ _ fun q hq => ?_
  obtain ⟨h1, h2, _⟩ := nexts_valid hm hp hq
  exact ways_stable hm _ q (Nat.le_refl _) h1 j (by omega)
theorem foldl_addW_le {f : Nat × Nat → Nat} : ∀ (l : List (Nat × Nat)) (n : Nat), n ≤ 1000 → l.foldl (addW f) n ≤ 1000
  | [], n, h => h
  | q :: r, n, h => foldl_addW_le r _ (Nat.min_le_right _ _)
theorem waysOf_le {m : List S49} {s : List UInt8} (hm : mayB m = true) {p : Nat × Nat} (hp : validP m s p) : waysOf m s p ≤ 1000 := by
  rw [waysOf_eq hm hp]
  exact foldl_addW_le _ _ (by split <;> omega)
def pick (f : Nat × Nat → Nat) : List (Nat × Nat) → Nat → Option ((Nat × Nat) × Nat)
  | [], _ => none
  | q :: r, k => if k < f q then some (q, k) else pick f r (k - f q)
theorem pick_some {f : Nat × Nat → Nat} : ∀ (l : List (Nat × Nat)) (n k : Nat), n ≤ k → k < l.foldl (addW f) n → ∃ q j, pick f l (k - n) = some (q, j) ∧ q ∈ l ∧ j < f q
  | [], n, k, h, hk => by simp only [List.foldl_nil] at hk; omega
  | q :: r, n, k, h, hk => by
    unfold pick
    by_cases hq : k - n < f q
    · rw [if_pos hq]
      exact ⟨q, _, rfl, by simp, hq⟩
    · rw [if_neg hq]
      rw [List.foldl_cons] at hk
      by_cases hc : n + f q ≤ 1000
      · rw [show addW f n q = n + f q from by unfold addW; omega] at hk
        obtain ⟨x, j, h1, h2, h3⟩ := pick_some r (n + f q) k (by omega) hk
        exact ⟨x, j, by rw [Nat.sub_sub]; exact h1, by simp [h2], h3⟩
      · have := foldl_addW_le (f := f) r (addW f n q) (Nat.min_le_right _ _)
        omega
theorem pick_ways {m : List S49} {s : List UInt8} (hm : mayB m = true) {p : Nat × Nat} (hp : validP m s p) (he : endsB m s p = false) {k : Nat} (hk : k < waysOf m s p) : ∃ q j, pick (waysOf m s) (nexts m s p) k = some (q, j) ∧ q ∈ nexts m s p ∧ j < waysOf m s q := by
  rw [waysOf_eq hm hp, if_neg (by rw [he]; decide)] at hk
  exact pick_some _ 0 k (Nat.zero_le _) hk
def hitsAt (m : List S49) (p : Nat × Nat) : List (Int × Nat) := match m[p.1]? with
  | some n => if n.f0 = 3 then [(n.f3, p.2)] else []
  | none => []
def wayK (m : List S49) (s : List UInt8) : Nat → Nat × Nat → Nat → List (Int × Nat)
  | 0, _, _ => []
  | f + 1, p, k => if endsB m s p = true then [] else hitsAt m p ++ match pick (waysOf m s) (nexts m s p) k with
    | some (q, j) => wayK m s f q j
    | none => []
def wayOf (m : List S49) (s : List UInt8) (p : Nat × Nat) (k : Nat) : List (Int × Nat) := wayK m s (mu m s p) p k
theorem wayK_stable {m : List S49} {s : List UInt8} (hm : mayB m = true) : ∀ (n : Nat) (p : Nat × Nat) (k : Nat), mu m s p ≤ n → validP m s p → k < waysOf m s p → ∀ f, mu m s p ≤ f → wayK m s f p k = wayOf m s p k := by
  intro n
  induction n with
  | zero => intro p k h hp; have := mu_pos hp; omega
  | succ n ih =>
    intro p k h hp hk f hf
    have h0 := mu_pos hp
    unfold wayOf
    obtain ⟨j, hj⟩ : ∃ j, mu m s p = j + 1 := ⟨mu m s p - 1, by omega⟩
    obtain ⟨i, hi⟩ : ∃ i, f = i + 1 := ⟨f - 1, by omega⟩
    rw [hj, hi, wayK, wayK]
    cases he : endsB m s p with
    | true => rfl
    | false =>
      obtain ⟨q, x, h1, h2, h3⟩ := pick_ways hm hp he hk
      rw [h1]
      obtain ⟨h4, h5, _⟩ := nexts_valid hm hp h2
      simp only [Bool.false_eq_true, if_false]
      rw [ih q x (by omega) h4 h3 i (by omega), ih q x (by omega) h4 h3 j (by omega)]
theorem wayOf_end {m : List S49} {s : List UInt8} {p : Nat × Nat} (he : endsB m s p = true) (k : Nat) : wayOf m s p k = [] := by
  unfold wayOf
  cases h : mu m s p with
  | zero => rfl
  | succ j => rw [wayK, if_pos he]
theorem wayOf_step {m : List S49} {s : List UInt8} (hm : mayB m = true) {p q : Nat × Nat} (hp : validP m s p) (he : endsB m s p = false) {k j : Nat} (hk : k < waysOf m s p) (hq : pick (waysOf m s) (nexts m s p) k = some (q, j)) : wayOf m s p k = hitsAt m p ++ wayOf m s q j := by
  have h0 := mu_pos hp
  obtain ⟨i, hi⟩ : ∃ i, mu m s p = i + 1 := ⟨mu m s p - 1, by omega⟩
  obtain ⟨q', j', h1, h2, h3⟩ := pick_ways hm hp he hk
  rw [hq] at h1
  obtain ⟨rfl, rfl⟩ : q = q' ∧ j = j' := by simpa using h1
  obtain ⟨h4, h5, _⟩ := nexts_valid hm hp h2
  conv => lhs; unfold wayOf
  rw [hi, wayK, if_neg (by rw [he]; decide), hq]
  dsimp only
  rw [wayK_stable hm _ q j (Nat.le_refl _) h4 h3 i (by omega)]
theorem one_step {many : Int} {s : List UInt8} {p : Nat} : ∀ {l : List S52}, eatsB many l = true → l.filter (stepE s p) = [] ∨ ∃ e, l.filter (stepE s p) = [e]
  | [], _ => .inl rfl
  | e :: r, h => by
    simp only [eatsB, Bool.and_eq_true, List.all_eq_true] at h
    obtain ⟨⟨_, h1⟩, h2⟩ := h
    rw [List.filter_cons]
    by_cases he : stepE s p e = true
    · rw [if_pos he]
      right
      refine ⟨e, ?_⟩
      rw [List.filter_eq_nil_iff.2]
      intro x hx hs
      have ha := h1 x hx
      unfold stepE at he hs
      split at he
      · rename_i c hc
        rw [hc] at hs
        simp only [Bool.and_eq_true, decide_eq_true_eq] at he hs
        simp only [apart, Bool.or_eq_true, decide_eq_true_eq] at ha
        omega
      · cases he
    · rw [if_neg he]
      exact one_step h2
theorem last_step {many : Int} {s : List UInt8} {p : Nat} {l : List S52} (h : eatsB many l = true) (f : Nat × Nat → Nat) (hf : ∀ q, f q ≤ 1000) :
    ((l.filter (stepE s p)).map fun e => (e.f2.toNat, p + 1)).foldl (addW f) 0 = l.foldl (fun n e => if stepE s p e = true then f (e.f2.toNat, p + 1) else n) 0 := by
  have key : ∀ (l : List S52) (n : Nat), l.foldl (fun n e => if stepE s p e = true then f (e.f2.toNat, p + 1) else n) n = (l.filter (stepE s p)).foldl (fun _ e => f (e.f2.toNat, p + 1)) n := by
    intro l
    induction l with
    | nil => intro n; rfl
    | cons e r ih =>
      intro n
      rw [List.foldl_cons, ih, List.filter_cons]
      split <;> rfl
  rw [key]
  rcases one_step h (s := s) (p := p) with h | ⟨e, h⟩
  · rw [h]; rfl
  · rw [h]
    simp only [List.map_cons, List.map_nil, List.foldl_cons, List.foldl_nil, addW, Nat.zero_add]
    exact Nat.min_eq_left (hf _)
def cellN (s : List UInt8) (p : Nat) (n : S49) (row next : Nat → Nat) : Nat :=
  n.f1.foldl (fun a e => if stepE s p e = true then next e.f2.toNat else a)
    (n.f2.foldl (fun a t => min (a + row t.toNat) 1000) (if n.f0 = 3 then row n.f4.toNat else if n.f0 = 4 ∧ p = s.length then 1 else 0))
theorem cell_ways {m : List S49} {s : List UInt8} (hm : mayB m = true) {i p : Nat} {n : S49} (hn : m[i]? = some n) (hp : p ≤ s.length) :
    cellN s p n (fun j => waysOf m s (j, p)) (fun j => if j < m.length ∧ p + 1 ≤ s.length then waysOf m s (j, p + 1) else 0) = waysOf m s (i, p) := by
  have hi : i < m.length := (List.getElem?_eq_some_iff.1 hn).1
  have hv : validP m s (i, p) := ⟨hi, hp⟩
  have hr := right_at hm hn
  rw [waysOf_eq hm hv]
  have he : endsB m s (i, p) = (decide (n.f0 = 4) && decide (p = s.length)) := by unfold endsB; rw [show ((i, p) : Nat × Nat).1 = i from rfl, hn]
  have hx : nexts m s (i, p) = nextsN s p n := by unfold nexts; rw [show ((i, p) : Nat × Nat).1 = i from rfl, hn]
  have hle : ∀ j q, j < m.length → q ≤ s.length → waysOf m s (j, q) ≤ 1000 := fun j q h1 h2 => waysOf_le hm ⟨h1, h2⟩
  rw [he, hx]
  unfold rightB at hr
  unfold cellN nextsN
  by_cases k1 : n.f0 = 1
  · rw [if_pos k1] at hr
    simp only [Bool.and_eq_true, decide_eq_true_eq, List.isEmpty_iff] at hr
    obtain ⟨⟨h1, h2⟩, h3⟩ := hr
    simp only [k1, h1, List.foldl_nil, Int.reduceEq, if_false, if_true, false_and, decide_false, Bool.false_and, Bool.false_eq_true]
    have hto : ∀ e ∈ n.f1, stepE s p e = true → e.f2.toNat < m.length ∧ p + 1 ≤ s.length := by
      intro e hE hs
      have ho := (eatsB_iff.1 h3).1 e hE
      simp only [okE, Bool.and_eq_true, decide_eq_true_eq] at ho
      refine ⟨by omega, ?_⟩
      unfold stepE at hs
      split at hs
      · exact (List.getElem?_eq_some_iff.1 (by assumption)).1
      · cases hs
    have e1 := last_step h3 (s := s) (p := p) (fun q => if q.1 < m.length ∧ q.2 ≤ s.length then waysOf m s q else 0) (fun q => by split; exact hle _ _ (by omega) (by omega); omega)
    have e2 : ((n.f1.filter (stepE s p)).map fun e => (e.f2.toNat, p + 1)).foldl (addW fun q => if q.1 < m.length ∧ q.2 ≤ s.length then waysOf m s q else 0) 0 = ((n.f1.filter (stepE s p)).map fun e => (e.f2.toNat, p + 1)).foldl (addW (waysOf m s)) 0 := by
      refine foldl_addW_congr _ _ fun q hq => ?_
      obtain ⟨e, hE, rfl⟩ := List.mem_map.1 hq
      obtain ⟨hE1, hE2⟩ := List.mem_filter.1 hE
      rw [if_pos (hto e hE1 hE2)]
    rw [← e2, e1]
  · by_cases k2 : n.f0 = 2
    · rw [if_neg k1, if_pos k2] at hr
      simp only [Bool.and_eq_true, decide_eq_true_eq, List.isEmpty_iff] at hr
      simp only [k2, hr.1.1, List.foldl_nil, List.foldl_map, Int.reduceEq, if_false, if_true, false_and, decide_false, Bool.false_and, Bool.false_eq_true]
      rfl
    · by_cases k3 : n.f0 = 3
      · rw [if_neg k1, if_neg k2, if_pos k3] at hr
        simp only [Bool.and_eq_true, decide_eq_true_eq, List.isEmpty_iff] at hr
        simp only [k3, hr.1.1, hr.1.2, List.foldl_nil, List.foldl_cons, addW, Nat.zero_add, Int.reduceEq, if_false, if_true, false_and, decide_false, Bool.false_and, Bool.false_eq_true]
        exact (Nat.min_eq_left (hle _ _ (by omega) hp)).symm
      · by_cases k4 : n.f0 = 4
        · rw [if_neg k1, if_neg k2, if_neg k3, if_pos k4] at hr
          simp only [Bool.and_eq_true, decide_eq_true_eq, List.isEmpty_iff] at hr
          simp only [k4, hr.1.1, hr.1.2, List.foldl_nil, Int.reduceEq, if_false, true_and, decide_true, Bool.true_and, decide_eq_true_eq]
        · rw [if_neg k1, if_neg k2, if_neg k3, if_neg k4] at hr
          cases hr
end Go.Proofs.Ytecpjfipkejmoaa.PA
end
section
namespace Go.Proofs.Ytecpjfipkejmoaa.PA
set_option linter.unusedSimpArgs false
set_option linter.unusedVariables false
open Go.RowKit Go.Maps Go.Proofs.YtecpjfipkejmoaaW.PrintWords Go.Proofs.YtecpjfipkejmoaaW.PrintLast Go.Proofs.YtecpjfipkejmoaaW.PrintMore
theorem add_zero_off (g n : Nat) : ((⟨g, 0, none⟩ : Addr).add n) = ⟨g, 0 + n, none⟩ := by cases n <;> simp [Addr.add]
theorem cells5m {w : World} {B : Nat} {a b c d e : Value} {t : TypeId} (h : w.heap[B]? = some (.cells #[a, b, c, d, e] t (0, 0))) :
    w.cell? ⟨B, 0, none⟩ = some a ∧ w.cell? ⟨B, 1, none⟩ = some b ∧ w.cell? ⟨B, 2, none⟩ = some c ∧ w.cell? ⟨B, 3, none⟩ = some d ∧ w.cell? ⟨B, 4, none⟩ = some e := by
  refine ⟨?_, ?_, ?_, ?_, ?_⟩ <;> simp [blk_cell h]
theorem addr_keep {W W' : World} (hb : Below W.heap.size W W') {p : Addr} {v : Value} (h : W.cell? p = some v) : W'.cell? p = some v := (hb.cell (p := p) (World.block_lt_of_cell? W _ h)).trans h
theorem own_below {w w' : World} {b : Nat} {e : TypeId} {sz n : Nat} {v : Value} {xs : List Value} (h : w.ownsRow b e sz v n xs) (hb : Below w.heap.size w w') : w'.ownsRow b e sz v n xs :=
  own_move h fun k hk => hb.block k (own_lt h k hk)
theorem own_lower {w : World} {b b' : Nat} {e : TypeId} {sz n : Nat} {v : Value} {xs : List Value} (h : w.ownsRow b e sz v n xs) (hb : b' ≤ b) : w.ownsRow b' e sz v n xs := by
  obtain ⟨h1, h2⟩ := h
  refine ⟨h1, ?_⟩
  rcases h2 with h2 | ⟨g, cap, cur, hv, hg, hr⟩
  · exact .inl h2
  · exact .inr ⟨g, cap, cur, hv, Nat.le_trans hb hg, hr⟩
theorem own_base {w : World} {b : Nat} {e : TypeId} {sz n : Nat} {v : Value} {xs : List Value} (h : w.ownsRow b e sz v n xs) (k : Nat) (hk : v.ownBlock = some k) : b ≤ k := by
  rcases h.2 with ⟨rfl, _⟩ | ⟨g, cap, cur, rfl, hg, _⟩
  · cases hk
  · have : g = k := by injection hk
    omega
theorem blk_row {W W' : World} {x : Nat} {cs : Array Value} {t : TypeId} (h : W.heap[x]? = some (.cells cs t (0, 0))) {base k : Nat} {e : TypeId} {sz : Nat} {v : Value} {xs : List Value} (ho : W.ownsRow base e sz v k xs) (he : t ≠ e) (hg : W.grownBy W' v.ownBlock) : W'.heap[x]? = some (.cells cs t (0, 0)) := by
  refine (hg.block _ (blk_lt h) (fun e1 => ?_)).trans h
  obtain ⟨cells, hc⟩ := own_typed ho x e1.symm
  rw [h] at hc
  injection hc with hc
  injection hc with _ h3 _
  exact he h3
theorem own_other {W W' : World} {base k : Nat} {e : TypeId} {sz : Nat} {v : Value} {xs : List Value} (ho : W.ownsRow base e sz v k xs) {x : Nat} {o : Obj} (hx : W.heap[x]? = some o) (hne : ∀ cells, o ≠ .cells cells e (0, 0)) (hg : W.grownBy W' (some x)) : W'.ownsRow base e sz v k xs := by
  refine own_move ho fun j hj => hg.block j (own_lt ho j hj) fun e1 => ?_
  obtain ⟨cells, hc⟩ := own_typed ho j hj
  injection e1 with e1
  rw [e1, hx] at hc
  exact hne _ (Option.some.inj hc)
theorem nodes_row {w : World} {b n : Nat} {v : Value} {l : List S49} {inner : List Value} (h : w.ownsRow b 49 5 v n inner) (hn : n = l.length) (hr : Reps (k49.K w) 5 l inner) : ∃ A c, v = .slice A l.length c ∧ l.length ≤ c ∧ Kd.C k49 w A l.length l := by
  subst hn
  exact OwnRow.reads ⟨inner, h, hr⟩
theorem ints_row {w : World} {b : Nat} {l : List Int} {v : Value} (h : w.ownsRow b 3 1 v l.length (l.map (Value.int .i64))) : ∃ A c, v = .slice A l.length c ∧ l.length ≤ c ∧ Kd.C (Kd.int .i64) w A l.length l := by
  refine OwnRow.reads (R := fun x cs => (Kd.int .i64).K w x cs) ⟨_, h, ?_⟩
  clear h
  induction l with
  | nil => exact Reps.none _ _
  | cons x r ih => exact Reps.one (show (Kd.int .i64).K w x [.int .i64 x] from rfl) ih
end Go.Proofs.Ytecpjfipkejmoaa.PA
end
section
namespace Go.Proofs.Ytecpjfipkejmoaa.PA
open Go.RowKit Go.Proofs.YtecpjfipkejmoaaW.PrintWords Go.Proofs.YtecpjfipkejmoaaW.PrintLast Go.Proofs.YtecpjfipkejmoaaW.PrintMore
attribute [local go_sem] max2_int min2_int max_two min_two max_three min_three max_four min_four   -- for this text's walks alone
set_option linter.unusedVariables false
set_option linter.unusedSimpArgs false
mutual
def phalaroperef16_eater.l0 : Nat → Int → Int → Int → List (S65) → List Int → Int → Int → Option (Bool)
  | 0, _, _, _, _, _, _, _ => none
  | k + 1, x1, x5, x110000, x110001, x110002, x110003, x110004 => if x5 < (x110001.length : Int) then (if 0 ≤ x5 then (if ((rd_T65 x110001 x5).f0) > ((rd_T65 x110001 x5).f1) then (phalaroperef16_eater.j1 k x1 x5 true x110000 x110001 x110002 x110003 x110004 ((rd_T65 x110001 x5).f0) ((rd_T65 x110001 x5).f1) ((rd_T65 x110001 x5).f2)) else (if ((rd_T65 x110001 x5).f2) < 0 then (phalaroperef16_eater.j1 k x1 x5 true x110000 x110001 x110002 x110003 x110004 ((rd_T65 x110001 x5).f0) ((rd_T65 x110001 x5).f1) ((rd_T65 x110001 x5).f2)) else (phalaroperef16_eater.j1 k x1 x5 (decide (((rd_T65 x110001 x5).f2) ≥ x1)) x110000 x110001 x110002 x110003 x110004 ((rd_T65 x110001 x5).f0) ((rd_T65 x110001 x5).f1) ((rd_T65 x110001 x5).f2)))) else (none)) else (if (x110002.length : Int) = 0 then (some (x110004 == 0)) else (some false))
def phalaroperef16_eater.j1 : Nat → Int → Int → Bool → Int → List (S65) → List Int → Int → Int → Int → Int → Int → Option (Bool)
  | 0, _, _, _, _, _, _, _, _, _, _, _ => none
  | k + 1, x1, x5, x35, x110000, x110001, x110002, x110003, x110004, x112000, x112001, x112002 => if x35 = true then (some false) else (phalaroperef16_eater.l1 k x1 x5 0 x110000 x110001 x110002 x110003 x110004 x112000 x112001 x112002)
def phalaroperef16_eater.l1 : Nat → Int → Int → Int → Int → List (S65) → List Int → Int → Int → Int → Int → Int → Option (Bool)
  | 0, _, _, _, _, _, _, _, _, _, _, _ => none
  | k + 1, x1, x5, x7, x110000, x110001, x110002, x110003, x110004, x112000, x112001, x112002 => if x7 < x5 then (if 0 ≤ x7 then (if x7 < (x110001.length : Int) then (if x112000 ≤ ((rd_T65 x110001 x7).f1) then (if ((rd_T65 x110001 x7).f0) ≤ x112001 then (some false) else (phalaroperef16_eater.l1 k x1 x5 (wrap64 (x7 + 1)) x110000 x110001 x110002 x110003 x110004 x112000 x112001 x112002)) else (phalaroperef16_eater.l1 k x1 x5 (wrap64 (x7 + 1)) x110000 x110001 x110002 x110003 x110004 x112000 x112001 x112002)) else (none)) else (none)) else (phalaroperef16_eater.l0 k x1 (wrap64 (x5 + 1)) x110000 x110001 x110002 x110003 x110004)
end
def phalaroperef16_eater.f (k : Nat) (a0_0 : Int) (l0_1 : List (S65)) (l0_2 : List Int) (a0_3 : Int) (a0_4 : Int) (a1 : Int) : Option (Bool) := phalaroperef16_eater.l0 k a1 0 a0_0 l0_1 l0_2 a0_3 a0_4
set_option maxHeartbeats 8000000 in
set_option maxRecDepth 100000 in
theorem phalaroperef16_eater.calls (k : Nat) (a0_0 : Int) (A0_1 : Option Addr) (c0_1 : Nat) (l0_1 : List (S65)) (A0_2 : Option Addr) (c0_2 : Nat) (l0_2 : List Int) (a0_3 : Int) (a0_4 : Int) (a1 : Int) (r : Bool) (w : World) (hr0_1 : Kd.C k65 w A0_1 l0_1.length l0_1) (hc0_1 : l0_1.length ≤ c0_1) (hr0_2 : Kd.C (Kd.int .i64) w A0_2 l0_2.length l0_2) (hc0_2 : l0_2.length ≤ c0_2) (h : phalaroperef16_eater.f k a0_0 l0_1 l0_2 a0_3 a0_4 a1 = some r) :
    Calls Try.prog 31 #[.agg #[.int .i64 a0_0, .slice A0_1 l0_1.length c0_1, .slice A0_2 l0_2.length c0_2, .int .i64 a0_3, .int .i64 a0_4], .int .i64 a1] w fun e w' => e = .returned (.bool r) ∧ Below w.heap.size w w' := by
  have hu35 := Try.underlying35
  have hu65 := Try.underlying65
  have HR0_1 := Aside0.mk hr0_1
  have HC0_1 := Aside0.mk hc0_1
  clear hr0_1 hc0_1
  have HR0_2 := Aside0.mk hr0_2
  have HC0_2 := Aside0.mk hc0_2
  clear hr0_2 hc0_2
  have HB := Aside0.mk (Below.refl w.heap.size w)
  have H : (phalaroperef16_eater.l0 k a1 0 a0_0 l0_1 l0_2 a0_3 a0_4) = some r := h
  clear h
  have H' := Aside0.mk H
  clear H
  go_enter Try.func31, Try.ntmps31
  go_wp2_with (first | ((with_reducible refine gate_dst (N := 2) rfl ?_); refine box_event ?hg (N := 2) ?hd (cs := #[.int .i64 a0_0, .slice A0_1 l0_1.length c0_1, .slice A0_2 l0_2.length c0_2, .int .i64 a0_3, .int .i64 a0_4]) (t := 35) ?hr ?_; (case hd => rfl); (case hg => rfl); (case hr => first | (go_simp; done) | (go_simp; rfl)); intro gb109 hg w3 hbox hb; have n0_ := Aside0.mk (below_step (by repeat (first | (with_reducible first | exact HB.out | apply below_alloc | apply pw_below_drewN | apply below_drew1) | exact HB.out)) hb); have n1_ := Aside0.mk (hbox); have n2_ := Aside0.mk ((by rw [hg]; exact (below_size (by repeat (first | (with_reducible first | exact HB.out | apply below_alloc | apply pw_below_drewN | apply below_drew1) | exact HB.out))) : w.heap.size ≤ gb109)); have n3_ := Aside0.mk ((by rw [hg]; exact (below_size (by repeat (first | (with_reducible first | exact HB.out | apply below_alloc | apply pw_below_drewN | apply below_drew1) | exact HB.out))) : w.heap.size ≤ gb109)); clear HB; have HB := n0_; have BK109 := n1_; have GW109 := n2_; have GE109 := n3_; clear n0_ n1_ n2_ n3_; clear hb hbox hg))
  repeat (go_quiet (first | ((with_reducible refine gate_dst (N := 2) rfl ?_); refine box_event ?hg (N := 2) ?hd (cs := #[.int .i64 a0_0, .slice A0_1 l0_1.length c0_1, .slice A0_2 l0_2.length c0_2, .int .i64 a0_3, .int .i64 a0_4]) (t := 35) ?hr ?_; (case hd => rfl); (case hg => rfl); (case hr => first | (go_simp; done) | (go_simp; rfl)); intro gb109 hg w3 hbox hb; have n0_ := Aside0.mk (below_step (by repeat (first | (with_reducible first | exact HB.out | apply below_alloc | apply pw_below_drewN | apply below_drew1) | exact HB.out)) hb); have n1_ := Aside0.mk (hbox); have n2_ := Aside0.mk ((by rw [hg]; exact (below_size (by repeat (first | (with_reducible first | exact HB.out | apply below_alloc | apply pw_below_drewN | apply below_drew1) | exact HB.out))) : w.heap.size ≤ gb109)); have n3_ := Aside0.mk ((by rw [hg]; exact (below_size (by repeat (first | (with_reducible first | exact HB.out | apply below_alloc | apply pw_below_drewN | apply below_drew1) | exact HB.out))) : w.heap.size ≤ gb109)); clear HB; have HB := n0_; have BK109 := n1_; have GW109 := n2_; have GE109 := n3_; clear n0_ n1_ n2_ n3_; clear hb hbox hg)); try go_wp2_with (first | ((with_reducible refine gate_dst (N := 2) rfl ?_); refine box_event ?hg (N := 2) ?hd (cs := #[.int .i64 a0_0, .slice A0_1 l0_1.length c0_1, .slice A0_2 l0_2.length c0_2, .int .i64 a0_3, .int .i64 a0_4]) (t := 35) ?hr ?_; (case hd => rfl); (case hg => rfl); (case hr => first | (go_simp; done) | (go_simp; rfl)); intro gb109 hg w3 hbox hb; have n0_ := Aside0.mk (below_step (by repeat (first | (with_reducible first | exact HB.out | apply below_alloc | apply pw_below_drewN | apply below_drew1) | exact HB.out)) hb); have n1_ := Aside0.mk (hbox); have n2_ := Aside0.mk ((by rw [hg]; exact (below_size (by repeat (first | (with_reducible first | exact HB.out | apply below_alloc | apply pw_below_drewN | apply below_drew1) | exact HB.out))) : w.heap.size ≤ gb109)); have n3_ := Aside0.mk ((by rw [hg]; exact (below_size (by repeat (first | (with_reducible first | exact HB.out | apply below_alloc | apply pw_below_drewN | apply below_drew1) | exact HB.out))) : w.heap.size ≤ gb109)); clear HB; have HB := n0_; have BK109 := n1_; have GW109 := n2_; have GE109 := n3_; clear n0_ n1_ n2_ n3_; clear hb hbox hg)))
  go_loopg [5] k (fun kq v5 w' => ∃ (x5_1 : Int), v5 = .int .i64 x5_1 ∧ Aside0 (phalaroperef16_eater.l0 kq a1 x5_1 a0_0 l0_1 l0_2 a0_3 a0_4 = some r) ∧ Aside0 (kq ≤ k) ∧ Aside0 (w'.heap[gb109]? = some (.cells #[.int .i64 a0_0, (.slice A0_1 l0_1.length c0_1), (.slice A0_2 l0_2.length c0_2), .int .i64 a0_3, .int .i64 a0_4] 35 (0, 0))) ∧ Aside0 (Below w.heap.size w w'))
  case atStart => exact ⟨(0), (by first | rfl | (simp; done) | (simp [*]; done)), H', ⟨Nat.le_refl _⟩, ⟨by (with_reducible repeat (first | refine blk_drewN ?_ _ | refine blk_drew ?_ | refine blk_alloc ?_ _)); exact BK109.out⟩, ⟨by repeat (first | (with_reducible first | exact HB.out | apply below_alloc | apply pw_below_drewN | apply below_drew1 | refine below_set ?_ GE109.out) | exact HB.out)⟩⟩
  case round =>
    clear H'
    try clear p2
    try clear c3
    obtain ⟨x5_1, rfl, HA, HK1, BK109, HB⟩ := hrel
    cases gk with
    | zero => exact absurd HA.out (by simp [phalaroperef16_eater.l0])
    | succ k1 =>
      have H := HA.out
      clear HA
      simp only [phalaroperef16_eater.l0] at H
      by_cases c4 : x5_1 < (l0_1.length : Int)
      · rw [if_pos c4] at H
        have c4b0 : decide (x5_1 < (l0_1.length : Int)) = true := decide_eq_true c4
        clear c4
        by_cases c5 : 0 ≤ x5_1
        · rw [if_pos c5] at H
          have c5b0 : decide (0 ≤ x5_1) = true := decide_eq_true c5
          clear c5
          have HC6 := Aside0.mk H
          clear H
          have hcz7_0 : wr.cell? ⟨gb109, 0, none⟩ = some (.int .i64 a0_0) := (blk_cell BK109.out 0).trans rfl
          have hcz7_1 : wr.cell? ⟨gb109, 1, none⟩ = some (.slice A0_1 l0_1.length c0_1) := (blk_cell BK109.out 1).trans rfl
          have hcz7_2 : wr.cell? ⟨gb109, 2, none⟩ = some (.slice A0_2 l0_2.length c0_2) := (blk_cell BK109.out 2).trans rfl
          have hcz7_3 : wr.cell? ⟨gb109, 3, none⟩ = some (.int .i64 a0_3) := (blk_cell BK109.out 3).trans rfl
          have hcz7_4 : wr.cell? ⟨gb109, 4, none⟩ = some (.int .i64 a0_4) := (blk_cell BK109.out 4).trans rfl
          have hfz7_0 := blk_frozen BK109.out 0
          have hfz7_1 := blk_frozen BK109.out 1
          have hfz7_2 := blk_frozen BK109.out 2
          have hfz7_3 := blk_frozen BK109.out 3
          have hfz7_4 := blk_frozen BK109.out 4
          have p110 : 0 ≤ (x5_1 : Int) := of_decide_eq_true (by first | (with_reducible assumption) | assumption)
          have q110 : x5_1 < (l0_1.length : Int) := of_decide_eq_true (by first | (with_reducible assumption) | assumption)
          obtain ⟨ad110, e110, hx110_0, hx110_1, hx110_2⟩ := at_T65 HR0_1.out x5_1 p110 q110
          cases e110
          replace hx110_0 := (HB.out.cell (World.block_lt_of_cell? w _ hx110_0)).trans hx110_0
          replace hx110_1 := (HB.out.cell (World.block_lt_of_cell? w _ hx110_1)).trans hx110_1
          replace hx110_2 := (HB.out.cell (World.block_lt_of_cell? w _ hx110_2)).trans hx110_2
          replace p110 := eq_true p110
          replace q110 := eq_true q110
          go_upto_region 5 with (first | ((with_reducible refine gate_dst (N := 6) rfl ?_); refine box_event ?hg (N := 6) ?hd (cs := #[.int .u8 0, .int .u8 0, .int .i64 0]) (t := 65) ?hr ?_; (case hd => rfl); (case hg => rfl); (case hr => first | (go_simp; done) | (go_simp; rfl)); intro gb111 hg w8 hbox hb; have n0_ := Aside0.mk (blk_below (g := gb109) (o := .cells #[.int .i64 a0_0, .slice (some ad110) l0_1.length c0_1, .slice A0_2 l0_2.length c0_2, .int .i64 a0_3, .int .i64 a0_4] 35 (0, 0)) (by (with_reducible repeat (first | refine blk_drewN ?_ _ | refine blk_drew ?_ | refine blk_alloc ?_ _)); exact BK109.out) hb); have n1_ := Aside0.mk (below_step (by repeat (first | (with_reducible first | exact HB.out | apply below_alloc | apply pw_below_drewN | apply below_drew1 | refine below_set ?_ GE109.out) | exact HB.out)) hb); have n2_ := Aside0.mk (hbox); have n3_ := Aside0.mk ((by rw [hg]; exact (below_size (by repeat (first | (with_reducible first | exact HB.out | apply below_alloc | apply pw_below_drewN | apply below_drew1 | refine below_set ?_ GE109.out) | exact HB.out))) : w.heap.size ≤ gb111)); have n4_ := Aside0.mk ((by rw [hg]; exact (below_size (by repeat (first | (with_reducible first | exact HB.out | apply below_alloc | apply pw_below_drewN | apply below_drew1 | refine below_set ?_ GE109.out) | exact HB.out))) : w.heap.size ≤ gb111)); have n5_ := Aside0.mk ((by rw [hg]; exact Nat.ne_of_lt (blk_lt (g := gb109) (o := .cells #[.int .i64 a0_0, .slice (some ad110) l0_1.length c0_1, .slice A0_2 l0_2.length c0_2, .int .i64 a0_3, .int .i64 a0_4] 35 (0, 0)) (by (with_reducible repeat (first | refine blk_drewN ?_ _ | refine blk_drew ?_ | refine blk_alloc ?_ _)); exact BK109.out)) : gb109 ≠ gb111)); have n6_ := Aside0.mk ((by rw [hg]; exact Nat.ne_of_gt (blk_lt (g := gb109) (o := .cells #[.int .i64 a0_0, .slice (some ad110) l0_1.length c0_1, .slice A0_2 l0_2.length c0_2, .int .i64 a0_3, .int .i64 a0_4] 35 (0, 0)) (by (with_reducible repeat (first | refine blk_drewN ?_ _ | refine blk_drew ?_ | refine blk_alloc ?_ _)); exact BK109.out)) : gb111 ≠ gb109)); clear BK109; clear HB; have BK109 := n0_; have HB := n1_; have BK111 := n2_; have GW111 := n3_; have GE111 := n4_; have NB109_111 := n5_; have NB111_109 := n6_; clear n0_ n1_ n2_ n3_ n4_ n5_ n6_; clear hb hbox hg; have hnb9 := NB111_109.out; have hnc9 := NB109_111.out; have hcz10_0 : w8.cell? ⟨gb111, 0, none⟩ = some (.int .u8 0) := (blk_cell BK111.out 0).trans rfl; have hcz10_1 : w8.cell? ⟨gb111, 1, none⟩ = some (.int .u8 0) := (blk_cell BK111.out 1).trans rfl; have hcz10_2 : w8.cell? ⟨gb111, 2, none⟩ = some (.int .i64 0) := (blk_cell BK111.out 2).trans rfl; have hfz10_0 := blk_frozen BK111.out 0; have hfz10_1 := blk_frozen BK111.out 1; have hfz10_2 := blk_frozen BK111.out 2))
          repeat (go_quiet (first | ((with_reducible refine gate_dst (N := 6) rfl ?_); refine box_event ?hg (N := 6) ?hd (cs := #[.int .u8 0, .int .u8 0, .int .i64 0]) (t := 65) ?hr ?_; (case hd => rfl); (case hg => rfl); (case hr => first | (go_simp; done) | (go_simp; rfl)); intro gb111 hg w8 hbox hb; have n0_ := Aside0.mk (blk_below (g := gb109) (o := .cells #[.int .i64 a0_0, .slice (some ad110) l0_1.length c0_1, .slice A0_2 l0_2.length c0_2, .int .i64 a0_3, .int .i64 a0_4] 35 (0, 0)) (by (with_reducible repeat (first | refine blk_drewN ?_ _ | refine blk_drew ?_ | refine blk_alloc ?_ _)); exact BK109.out) hb); have n1_ := Aside0.mk (below_step (by repeat (first | (with_reducible first | exact HB.out | apply below_alloc | apply pw_below_drewN | apply below_drew1 | refine below_set ?_ GE109.out) | exact HB.out)) hb); have n2_ := Aside0.mk (hbox); have n3_ := Aside0.mk ((by rw [hg]; exact (below_size (by repeat (first | (with_reducible first | exact HB.out | apply below_alloc | apply pw_below_drewN | apply below_drew1 | refine below_set ?_ GE109.out) | exact HB.out))) : w.heap.size ≤ gb111)); have n4_ := Aside0.mk ((by rw [hg]; exact (below_size (by repeat (first | (with_reducible first | exact HB.out | apply below_alloc | apply pw_below_drewN | apply below_drew1 | refine below_set ?_ GE109.out) | exact HB.out))) : w.heap.size ≤ gb111)); have n5_ := Aside0.mk ((by rw [hg]; exact Nat.ne_of_lt (blk_lt (g := gb109) (o := .cells #[.int .i64 a0_0, .slice (some ad110) l0_1.length c0_1, .slice A0_2 l0_2.length c0_2, .int .i64 a0_3, .int .i64 a0_4] 35 (0, 0)) (by (with_reducible repeat (first | refine blk_drewN ?_ _ | refine blk_drew ?_ | refine blk_alloc ?_ _)); exact BK109.out)) : gb109 ≠ gb111)); have n6_ := Aside0.mk ((by rw [hg]; exact Nat.ne_of_gt (blk_lt (g := gb109) (o := .cells #[.int .i64 a0_0, .slice (some ad110) l0_1.length c0_1, .slice A0_2 l0_2.length c0_2, .int .i64 a0_3, .int .i64 a0_4] 35 (0, 0)) (by (with_reducible repeat (first | refine blk_drewN ?_ _ | refine blk_drew ?_ | refine blk_alloc ?_ _)); exact BK109.out)) : gb111 ≠ gb109)); clear BK109; clear HB; have BK109 := n0_; have HB := n1_; have BK111 := n2_; have GW111 := n3_; have GE111 := n4_; have NB109_111 := n5_; have NB111_109 := n6_; clear n0_ n1_ n2_ n3_ n4_ n5_ n6_; clear hb hbox hg; have hnb9 := NB111_109.out; have hnc9 := NB109_111.out; have hcz10_0 : w8.cell? ⟨gb111, 0, none⟩ = some (.int .u8 0) := (blk_cell BK111.out 0).trans rfl; have hcz10_1 : w8.cell? ⟨gb111, 1, none⟩ = some (.int .u8 0) := (blk_cell BK111.out 1).trans rfl; have hcz10_2 : w8.cell? ⟨gb111, 2, none⟩ = some (.int .i64 0) := (blk_cell BK111.out 2).trans rfl; have hfz10_0 := blk_frozen BK111.out 0; have hfz10_1 := blk_frozen BK111.out 1; have hfz10_2 := blk_frozen BK111.out 2)); go_upto_region 5 with (first | ((with_reducible refine gate_dst (N := 6) rfl ?_); refine box_event ?hg (N := 6) ?hd (cs := #[.int .u8 0, .int .u8 0, .int .i64 0]) (t := 65) ?hr ?_; (case hd => rfl); (case hg => rfl); (case hr => first | (go_simp; done) | (go_simp; rfl)); intro gb111 hg w8 hbox hb; have n0_ := Aside0.mk (blk_below (g := gb109) (o := .cells #[.int .i64 a0_0, .slice (some ad110) l0_1.length c0_1, .slice A0_2 l0_2.length c0_2, .int .i64 a0_3, .int .i64 a0_4] 35 (0, 0)) (by (with_reducible repeat (first | refine blk_drewN ?_ _ | refine blk_drew ?_ | refine blk_alloc ?_ _)); exact BK109.out) hb); have n1_ := Aside0.mk (below_step (by repeat (first | (with_reducible first | exact HB.out | apply below_alloc | apply pw_below_drewN | apply below_drew1 | refine below_set ?_ GE109.out) | exact HB.out)) hb); have n2_ := Aside0.mk (hbox); have n3_ := Aside0.mk ((by rw [hg]; exact (below_size (by repeat (first | (with_reducible first | exact HB.out | apply below_alloc | apply pw_below_drewN | apply below_drew1 | refine below_set ?_ GE109.out) | exact HB.out))) : w.heap.size ≤ gb111)); have n4_ := Aside0.mk ((by rw [hg]; exact (below_size (by repeat (first | (with_reducible first | exact HB.out | apply below_alloc | apply pw_below_drewN | apply below_drew1 | refine below_set ?_ GE109.out) | exact HB.out))) : w.heap.size ≤ gb111)); have n5_ := Aside0.mk ((by rw [hg]; exact Nat.ne_of_lt (blk_lt (g := gb109) (o := .cells #[.int .i64 a0_0, .slice (some ad110) l0_1.length c0_1, .slice A0_2 l0_2.length c0_2, .int .i64 a0_3, .int .i64 a0_4] 35 (0, 0)) (by (with_reducible repeat (first | refine blk_drewN ?_ _ | refine blk_drew ?_ | refine blk_alloc ?_ _)); exact BK109.out)) : gb109 ≠ gb111)); have n6_ := Aside0.mk ((by rw [hg]; exact Nat.ne_of_gt (blk_lt (g := gb109) (o := .cells #[.int .i64 a0_0, .slice (some ad110) l0_1.length c0_1, .slice A0_2 l0_2.length c0_2, .int .i64 a0_3, .int .i64 a0_4] 35 (0, 0)) (by (with_reducible repeat (first | refine blk_drewN ?_ _ | refine blk_drew ?_ | refine blk_alloc ?_ _)); exact BK109.out)) : gb111 ≠ gb109)); clear BK109; clear HB; have BK109 := n0_; have HB := n1_; have BK111 := n2_; have GW111 := n3_; have GE111 := n4_; have NB109_111 := n5_; have NB111_109 := n6_; clear n0_ n1_ n2_ n3_ n4_ n5_ n6_; clear hb hbox hg; have hnb9 := NB111_109.out; have hnc9 := NB109_111.out; have hcz10_0 : w8.cell? ⟨gb111, 0, none⟩ = some (.int .u8 0) := (blk_cell BK111.out 0).trans rfl; have hcz10_1 : w8.cell? ⟨gb111, 1, none⟩ = some (.int .u8 0) := (blk_cell BK111.out 1).trans rfl; have hcz10_2 : w8.cell? ⟨gb111, 2, none⟩ = some (.int .i64 0) := (blk_cell BK111.out 2).trans rfl; have hfz10_0 := blk_frozen BK111.out 0; have hfz10_1 := blk_frozen BK111.out 1; have hfz10_2 := blk_frozen BK111.out 2)))
          (try simp only [Act.put, List.setIfInBounds_toArray, List.set_cons_zero, List.set_cons_succ])
          go_cut [35] (fun v35 wc => ∃ (kq : Nat) (x35_5 : Bool), v35 = .bool x35_5 ∧ Aside0 (phalaroperef16_eater.j1 kq a1 x5_1 x35_5 a0_0 l0_1 l0_2 a0_3 a0_4 ((rd_T65 l0_1 x5_1).f0) ((rd_T65 l0_1 x5_1).f1) ((rd_T65 l0_1 x5_1).f2) = some r) ∧ Aside0 (kq ≤ k1) ∧ Aside0 (wc.heap[gb109]? = some (.cells #[.int .i64 a0_0, (.slice (some ad110) l0_1.length c0_1), (.slice A0_2 l0_2.length c0_2), .int .i64 a0_3, .int .i64 a0_4] 35 (0, 0))) ∧ Aside0 (wc.heap[gb111]? = some (.cells #[.int .u8 ((rd_T65 l0_1 x5_1).f0), .int .u8 ((rd_T65 l0_1 x5_1).f1), .int .i64 ((rd_T65 l0_1 x5_1).f2)] 65 (0, 0))) ∧ Aside0 (Below w.heap.size w wc))
          case first =>
            have H := HC6.out
            clear HC6
            by_cases c11 : ((rd_T65 l0_1 x5_1).f0) > ((rd_T65 l0_1 x5_1).f1)
            · rw [if_pos c11] at H
              have c11b0 : decide (((rd_T65 l0_1 x5_1).f1) < ((rd_T65 l0_1 x5_1).f0)) = true := decide_eq_true c11
              clear c11
              (first | rw [c11b0] | (simp only [i64_w, i32_w]; rw [c11b0]) | skip)
              have H' := Aside0.mk H
              clear H
              have hnb12 := NB111_109.out
              have hnc12 := NB109_111.out
              have hcz13_0 : w8.cell? ⟨gb111, 0, none⟩ = some (.int .u8 0) := (blk_cell BK111.out 0).trans rfl
              have hcz13_1 : w8.cell? ⟨gb111, 1, none⟩ = some (.int .u8 0) := (blk_cell BK111.out 1).trans rfl
              have hcz13_2 : w8.cell? ⟨gb111, 2, none⟩ = some (.int .i64 0) := (blk_cell BK111.out 2).trans rfl
              have hfz13_0 := blk_frozen BK111.out 0
              have hfz13_1 := blk_frozen BK111.out 1
              have hfz13_2 := blk_frozen BK111.out 2
              go_wp2
              repeat (go_quiet (fail); try go_wp2)
              go_meet
              case rel => exact ⟨_, (true), (by first | rfl | (simp; done) | (simp [*]; done)), H', ⟨by have := HK1.out; first | omega | exact Nat.le_refl _⟩, ⟨by (with_reducible repeat (first | refine blk_drewN ?_ _ | refine blk_drew ?_ | refine blk_alloc ?_ _)); refine blk_far ?_ NB109_111.out _; (with_reducible repeat (first | refine blk_drewN ?_ _ | refine blk_drew ?_ | refine blk_alloc ?_ _)); refine blk_far ?_ NB109_111.out _; (with_reducible repeat (first | refine blk_drewN ?_ _ | refine blk_drew ?_ | refine blk_alloc ?_ _)); refine blk_far ?_ NB109_111.out _; (with_reducible repeat (first | refine blk_drewN ?_ _ | refine blk_drew ?_ | refine blk_alloc ?_ _)); exact BK109.out⟩, ⟨by (with_reducible repeat (first | refine blk_drewN ?_ _ | refine blk_drew ?_ | refine blk_alloc ?_ _)); refine blk_put (cs := #[.int .u8 ((rd_T65 l0_1 x5_1).f0), .int .u8 ((rd_T65 l0_1 x5_1).f1), .int .i64 0]) ?_ 2 _ rfl; (with_reducible repeat (first | refine blk_drewN ?_ _ | refine blk_drew ?_ | refine blk_alloc ?_ _)); refine blk_put (cs := #[.int .u8 ((rd_T65 l0_1 x5_1).f0), .int .u8 0, .int .i64 0]) ?_ 1 _ rfl; (with_reducible repeat (first | refine blk_drewN ?_ _ | refine blk_drew ?_ | refine blk_alloc ?_ _)); refine blk_put (cs := #[.int .u8 0, .int .u8 0, .int .i64 0]) ?_ 0 _ rfl; (with_reducible repeat (first | refine blk_drewN ?_ _ | refine blk_drew ?_ | refine blk_alloc ?_ _)); exact BK111.out⟩, ⟨by repeat (first | (with_reducible first | exact HB.out | apply below_alloc | apply pw_below_drewN | apply below_drew1 | refine below_set ?_ GE109.out | refine below_set ?_ GE111.out) | exact HB.out)⟩⟩
            · rw [if_neg c11] at H
              have c11b0 : decide (((rd_T65 l0_1 x5_1).f1) < ((rd_T65 l0_1 x5_1).f0)) = false := decide_eq_false c11
              clear c11
              (first | rw [c11b0] | (simp only [i64_w, i32_w]; rw [c11b0]) | skip)
              by_cases c14 : ((rd_T65 l0_1 x5_1).f2) < 0
              · rw [if_pos c14] at H
                have c14b0 : decide (((rd_T65 l0_1 x5_1).f2) < 0) = true := decide_eq_true c14
                clear c14
                have H' := Aside0.mk H
                clear H
                have hnb15 := NB111_109.out
                have hnc15 := NB109_111.out
                have hcz16_0 : w8.cell? ⟨gb111, 0, none⟩ = some (.int .u8 0) := (blk_cell BK111.out 0).trans rfl
                have hcz16_1 : w8.cell? ⟨gb111, 1, none⟩ = some (.int .u8 0) := (blk_cell BK111.out 1).trans rfl
                have hcz16_2 : w8.cell? ⟨gb111, 2, none⟩ = some (.int .i64 0) := (blk_cell BK111.out 2).trans rfl
                have hfz16_0 := blk_frozen BK111.out 0
                have hfz16_1 := blk_frozen BK111.out 1
                have hfz16_2 := blk_frozen BK111.out 2
                go_wp2
                repeat (go_quiet (fail); try go_wp2)
                go_meet
                case rel => exact ⟨_, (true), (by first | rfl | (simp; done) | (simp [*]; done)), H', ⟨by have := HK1.out; first | omega | exact Nat.le_refl _⟩, ⟨by (with_reducible repeat (first | refine blk_drewN ?_ _ | refine blk_drew ?_ | refine blk_alloc ?_ _)); refine blk_far ?_ NB109_111.out _; (with_reducible repeat (first | refine blk_drewN ?_ _ | refine blk_drew ?_ | refine blk_alloc ?_ _)); refine blk_far ?_ NB109_111.out _; (with_reducible repeat (first | refine blk_drewN ?_ _ | refine blk_drew ?_ | refine blk_alloc ?_ _)); refine blk_far ?_ NB109_111.out _; (with_reducible repeat (first | refine blk_drewN ?_ _ | refine blk_drew ?_ | refine blk_alloc ?_ _)); exact BK109.out⟩, ⟨by (with_reducible repeat (first | refine blk_drewN ?_ _ | refine blk_drew ?_ | refine blk_alloc ?_ _)); refine blk_put (cs := #[.int .u8 ((rd_T65 l0_1 x5_1).f0), .int .u8 ((rd_T65 l0_1 x5_1).f1), .int .i64 0]) ?_ 2 _ rfl; (with_reducible repeat (first | refine blk_drewN ?_ _ | refine blk_drew ?_ | refine blk_alloc ?_ _)); refine blk_put (cs := #[.int .u8 ((rd_T65 l0_1 x5_1).f0), .int .u8 0, .int .i64 0]) ?_ 1 _ rfl; (with_reducible repeat (first | refine blk_drewN ?_ _ | refine blk_drew ?_ | refine blk_alloc ?_ _)); refine blk_put (cs := #[.int .u8 0, .int .u8 0, .int .i64 0]) ?_ 0 _ rfl; (with_reducible repeat (first | refine blk_drewN ?_ _ | refine blk_drew ?_ | refine blk_alloc ?_ _)); exact BK111.out⟩, ⟨by repeat (first | (with_reducible first | exact HB.out | apply below_alloc | apply pw_below_drewN | apply below_drew1 | refine below_set ?_ GE109.out | refine below_set ?_ GE111.out) | exact HB.out)⟩⟩
              · rw [if_neg c14] at H
                have c14b0 : decide (((rd_T65 l0_1 x5_1).f2) < 0) = false := decide_eq_false c14
                clear c14
                have H' := Aside0.mk H
                clear H
                have hnb17 := NB111_109.out
                have hnc17 := NB109_111.out
                have hcz18_0 : w8.cell? ⟨gb111, 0, none⟩ = some (.int .u8 0) := (blk_cell BK111.out 0).trans rfl
                have hcz18_1 : w8.cell? ⟨gb111, 1, none⟩ = some (.int .u8 0) := (blk_cell BK111.out 1).trans rfl
                have hcz18_2 : w8.cell? ⟨gb111, 2, none⟩ = some (.int .i64 0) := (blk_cell BK111.out 2).trans rfl
                have hfz18_0 := blk_frozen BK111.out 0
                have hfz18_1 := blk_frozen BK111.out 1
                have hfz18_2 := blk_frozen BK111.out 2
                go_wp2
                repeat (go_quiet (fail); try go_wp2)
                go_meet
                case rel => exact ⟨_, (decide (((rd_T65 l0_1 x5_1).f2) ≥ a1)), (by first | rfl | (simp; done) | (simp [*]; done)), H', ⟨by have := HK1.out; first | omega | exact Nat.le_refl _⟩, ⟨by (with_reducible repeat (first | refine blk_drewN ?_ _ | refine blk_drew ?_ | refine blk_alloc ?_ _)); refine blk_far ?_ NB109_111.out _; (with_reducible repeat (first | refine blk_drewN ?_ _ | refine blk_drew ?_ | refine blk_alloc ?_ _)); refine blk_far ?_ NB109_111.out _; (with_reducible repeat (first | refine blk_drewN ?_ _ | refine blk_drew ?_ | refine blk_alloc ?_ _)); refine blk_far ?_ NB109_111.out _; (with_reducible repeat (first | refine blk_drewN ?_ _ | refine blk_drew ?_ | refine blk_alloc ?_ _)); exact BK109.out⟩, ⟨by (with_reducible repeat (first | refine blk_drewN ?_ _ | refine blk_drew ?_ | refine blk_alloc ?_ _)); refine blk_put (cs := #[.int .u8 ((rd_T65 l0_1 x5_1).f0), .int .u8 ((rd_T65 l0_1 x5_1).f1), .int .i64 0]) ?_ 2 _ rfl; (with_reducible repeat (first | refine blk_drewN ?_ _ | refine blk_drew ?_ | refine blk_alloc ?_ _)); refine blk_put (cs := #[.int .u8 ((rd_T65 l0_1 x5_1).f0), .int .u8 0, .int .i64 0]) ?_ 1 _ rfl; (with_reducible repeat (first | refine blk_drewN ?_ _ | refine blk_drew ?_ | refine blk_alloc ?_ _)); refine blk_put (cs := #[.int .u8 0, .int .u8 0, .int .i64 0]) ?_ 0 _ rfl; (with_reducible repeat (first | refine blk_drewN ?_ _ | refine blk_drew ?_ | refine blk_alloc ?_ _)); exact BK111.out⟩, ⟨by repeat (first | (with_reducible first | exact HB.out | apply below_alloc | apply pw_below_drewN | apply below_drew1 | refine below_set ?_ GE109.out | refine below_set ?_ GE111.out) | exact HB.out)⟩⟩
          case rest =>
            clear HC6
            try clear c1
            try clear p1
            try clear q1
            try clear hx1
            try clear p2
            try clear c3
            try clear c4
            try clear c4b0
            try clear c5
            try clear c5b0
            try clear c9
            try clear c11
            try clear c11b0
            try clear p11
            try clear q11
            try clear hx11
            try clear c12
            try clear c14
            try clear c14b0
            try clear c15
            try clear c17
            try clear hcz10_0
            try clear hcz10_1
            try clear hcz10_2
            try clear hcz13_0
            try clear hcz13_1
            try clear hcz13_2
            try clear hcz16_0
            try clear hcz16_1
            try clear hcz16_2
            try clear hcz18_0
            try clear hcz18_1
            try clear hcz18_2
            try clear hcz7_0
            try clear hcz7_1
            try clear hcz7_2
            try clear hcz7_3
            try clear hcz7_4
            try clear hfz10_0
            try clear hfz10_1
            try clear hfz10_2
            try clear hfz13_0
            try clear hfz13_1
            try clear hfz13_2
            try clear hfz16_0
            try clear hfz16_1
            try clear hfz16_2
            try clear hfz18_0
            try clear hfz18_1
            try clear hfz18_2
            try clear hfz7_0
            try clear hfz7_1
            try clear hfz7_2
            try clear hfz7_3
            try clear hfz7_4
            try clear hx110_0
            try clear hx110_1
            try clear hx110_2
            try clear p110
            try clear p2
            try clear q110
            obtain ⟨kq, x35_5, rfl, HA, HJ5, BK109, BK111, HB⟩ := hcut
            cases kq with
            | zero => exact absurd HA.out (by simp [phalaroperef16_eater.j1])
            | succ kj5 =>
              have H := HA.out
              clear HA
              simp only [phalaroperef16_eater.j1] at H
              by_cases c19 : x35_5 = true
              · subst c19
                have H1 : (some false) = some r := by rw [if_pos rfl] at H; exact H
                clear H
                have H := H1
                clear H1
                obtain rfl := Option.some.inj H
                go_wp2
                repeat (go_quiet (fail); try go_wp2)
                go_ret
                exact ⟨by first | rfl | (simp [errW_none, errW_some] <;> rfl) | (simp [*, errW_none, errW_some] <;> rfl), by repeat (first | (with_reducible first | exact HB.out | apply below_alloc | apply pw_below_drewN | apply below_drew1 | refine below_set ?_ GE109.out | refine below_set ?_ GE111.out) | exact HB.out)⟩
              · replace c19 := Bool.eq_false_iff.mpr c19
                subst c19
                have H1 : (phalaroperef16_eater.l1 kj5 a1 x5_1 0 a0_0 l0_1 l0_2 a0_3 a0_4 ((rd_T65 l0_1 x5_1).f0) ((rd_T65 l0_1 x5_1).f1) ((rd_T65 l0_1 x5_1).f2)) = some r := by rw [if_neg (show ¬ (false = true) by decide)] at H; exact H
                clear H
                have H := H1
                clear H1
                have H' := Aside0.mk H
                clear H
                go_wp2
                repeat (go_quiet (fail); try go_wp2)
                go_loopg [7] kj5 (fun kq v7 w' => ∃ (x7_3 : Int), v7 = .int .i64 x7_3 ∧ Aside0 (phalaroperef16_eater.l1 kq a1 x5_1 x7_3 a0_0 l0_1 l0_2 a0_3 a0_4 ((rd_T65 l0_1 x5_1).f0) ((rd_T65 l0_1 x5_1).f1) ((rd_T65 l0_1 x5_1).f2) = some r) ∧ Aside0 (kq ≤ kj5) ∧ Aside0 (w'.heap[gb109]? = some (.cells #[.int .i64 a0_0, (.slice (some ad110) l0_1.length c0_1), (.slice A0_2 l0_2.length c0_2), .int .i64 a0_3, .int .i64 a0_4] 35 (0, 0))) ∧ Aside0 (w'.heap[gb111]? = some (.cells #[.int .u8 ((rd_T65 l0_1 x5_1).f0), .int .u8 ((rd_T65 l0_1 x5_1).f1), .int .i64 ((rd_T65 l0_1 x5_1).f2)] 65 (0, 0))) ∧ Aside0 (Below w.heap.size w w'))
                case atStart => exact ⟨(0), (by first | rfl | (simp; done) | (simp [*]; done)), H', ⟨Nat.le_refl _⟩, ⟨by (with_reducible repeat (first | refine blk_drewN ?_ _ | refine blk_drew ?_ | refine blk_alloc ?_ _)); exact BK109.out⟩, ⟨by (with_reducible repeat (first | refine blk_drewN ?_ _ | refine blk_drew ?_ | refine blk_alloc ?_ _)); exact BK111.out⟩, ⟨by repeat (first | (with_reducible first | exact HB.out | apply below_alloc | apply pw_below_drewN | apply below_drew1 | refine below_set ?_ GE109.out | refine below_set ?_ GE111.out) | exact HB.out)⟩⟩
                case round =>
                  clear H'
                  try clear c1
                  try clear p1
                  try clear q1
                  try clear hx1
                  try clear p2
                  try clear c3
                  try clear c4
                  try clear c4b0
                  try clear c5
                  try clear c5b0
                  try clear c9
                  try clear c11
                  try clear c11b0
                  try clear p11
                  try clear q11
                  try clear hx11
                  try clear c12
                  try clear c14
                  try clear c14b0
                  try clear c15
                  try clear c17
                  try clear c19
                  try clear hcz10_0
                  try clear hcz10_1
                  try clear hcz10_2
                  try clear hcz13_0
                  try clear hcz13_1
                  try clear hcz13_2
                  try clear hcz16_0
                  try clear hcz16_1
                  try clear hcz16_2
                  try clear hcz18_0
                  try clear hcz18_1
                  try clear hcz18_2
                  try clear hcz7_0
                  try clear hcz7_1
                  try clear hcz7_2
                  try clear hcz7_3
                  try clear hcz7_4
                  try clear hfz10_0
                  try clear hfz10_1
                  try clear hfz10_2
                  try clear hfz13_0
                  try clear hfz13_1
                  try clear hfz13_2
                  try clear hfz16_0
                  try clear hfz16_1
                  try clear hfz16_2
                  try clear hfz18_0
                  try clear hfz18_1
                  try clear hfz18_2
                  try clear hfz7_0
                  try clear hfz7_1
                  try clear hfz7_2
                  try clear hfz7_3
                  try clear hfz7_4
                  try clear hx110_0
                  try clear hx110_1
                  try clear hx110_2
                  try clear p1
                  try clear p11
                  try clear p110
                  try clear p2
                  try clear q1
                  try clear q11
                  try clear q110
                  obtain ⟨x7_3, rfl, HA, HK3, BK109, BK111, HB⟩ := hrel
                  cases gk with
                  | zero => exact absurd HA.out (by simp [phalaroperef16_eater.l1])
                  | succ k3 =>
                    have H := HA.out
                    clear HA
                    simp only [phalaroperef16_eater.l1] at H
                    by_cases c20 : x7_3 < x5_1
                    · rw [if_pos c20] at H
                      have c20b0 : decide (x7_3 < x5_1) = true := decide_eq_true c20
                      clear c20
                      by_cases c21 : 0 ≤ x7_3
                      · rw [if_pos c21] at H
                        have c21b0 : decide (0 ≤ x7_3) = true := decide_eq_true c21
                        clear c21
                        by_cases c22 : x7_3 < (l0_1.length : Int)
                        · rw [if_pos c22] at H
                          have c22b0 : decide (x7_3 < (l0_1.length : Int)) = true := decide_eq_true c22
                          clear c22
                          by_cases c23 : ((rd_T65 l0_1 x5_1).f0) ≤ ((rd_T65 l0_1 x7_3).f1)
                          · rw [if_pos c23] at H
                            have c23b0 : decide (((rd_T65 l0_1 x5_1).f0) ≤ ((rd_T65 l0_1 x7_3).f1)) = true := decide_eq_true c23
                            clear c23
                            by_cases c24 : ((rd_T65 l0_1 x7_3).f0) ≤ ((rd_T65 l0_1 x5_1).f1)
                            · rw [if_pos c24] at H
                              have c24b0 : decide (((rd_T65 l0_1 x7_3).f0) ≤ ((rd_T65 l0_1 x5_1).f1)) = true := decide_eq_true c24
                              clear c24
                              obtain rfl := Option.some.inj H
                              have hnb25 := NB111_109.out
                              have hnc25 := NB109_111.out
                              have hcz26_0 : wr.cell? ⟨gb111, 0, none⟩ = some (.int .u8 ((rd_T65 l0_1 x5_1).f0)) := (blk_cell BK111.out 0).trans rfl
                              have hcz26_1 : wr.cell? ⟨gb111, 1, none⟩ = some (.int .u8 ((rd_T65 l0_1 x5_1).f1)) := (blk_cell BK111.out 1).trans rfl
                              have hcz26_2 : wr.cell? ⟨gb111, 2, none⟩ = some (.int .i64 ((rd_T65 l0_1 x5_1).f2)) := (blk_cell BK111.out 2).trans rfl
                              have hfz26_0 := blk_frozen BK111.out 0
                              have hfz26_1 := blk_frozen BK111.out 1
                              have hfz26_2 := blk_frozen BK111.out 2
                              have hcz27_0 : wr.cell? ⟨gb109, 0, none⟩ = some (.int .i64 a0_0) := (blk_cell BK109.out 0).trans rfl
                              have hcz27_1 : wr.cell? ⟨gb109, 1, none⟩ = some (.slice (some ad110) l0_1.length c0_1) := (blk_cell BK109.out 1).trans rfl
                              have hcz27_2 : wr.cell? ⟨gb109, 2, none⟩ = some (.slice A0_2 l0_2.length c0_2) := (blk_cell BK109.out 2).trans rfl
                              have hcz27_3 : wr.cell? ⟨gb109, 3, none⟩ = some (.int .i64 a0_3) := (blk_cell BK109.out 3).trans rfl
                              have hcz27_4 : wr.cell? ⟨gb109, 4, none⟩ = some (.int .i64 a0_4) := (blk_cell BK109.out 4).trans rfl
                              have hfz27_0 := blk_frozen BK109.out 0
                              have hfz27_1 := blk_frozen BK109.out 1
                              have hfz27_2 := blk_frozen BK109.out 2
                              have hfz27_3 := blk_frozen BK109.out 3
                              have hfz27_4 := blk_frozen BK109.out 4
                              have p112 : 0 ≤ (x7_3 : Int) := of_decide_eq_true (by first | (with_reducible assumption) | assumption)
                              have q112 : x7_3 < (l0_1.length : Int) := of_decide_eq_true (by first | (with_reducible assumption) | assumption)
                              obtain ⟨ad112, e112, hx112_0, hx112_1, hx112_2⟩ := at_T65 HR0_1.out x7_3 p112 q112
                              obtain rfl : ad110 = ad112 := (by injection e112)
                              replace hx112_0 := (HB.out.cell (World.block_lt_of_cell? w _ hx112_0)).trans hx112_0
                              replace hx112_1 := (HB.out.cell (World.block_lt_of_cell? w _ hx112_1)).trans hx112_1
                              replace hx112_2 := (HB.out.cell (World.block_lt_of_cell? w _ hx112_2)).trans hx112_2
                              replace p112 := eq_true p112
                              replace q112 := eq_true q112
                              have p113 : 0 ≤ (x7_3 : Int) := of_decide_eq_true (by first | (with_reducible assumption) | assumption)
                              have q113 : x7_3 < (l0_1.length : Int) := of_decide_eq_true (by first | (with_reducible assumption) | assumption)
                              obtain ⟨ad113, e113, hx113_0, hx113_1, hx113_2⟩ := at_T65 HR0_1.out x7_3 p113 q113
                              obtain rfl : ad110 = ad113 := (by injection e113)
                              replace hx113_0 := (HB.out.cell (World.block_lt_of_cell? w _ hx113_0)).trans hx113_0
                              replace hx113_1 := (HB.out.cell (World.block_lt_of_cell? w _ hx113_1)).trans hx113_1
                              replace hx113_2 := (HB.out.cell (World.block_lt_of_cell? w _ hx113_2)).trans hx113_2
                              replace p113 := eq_true p113
                              replace q113 := eq_true q113
                              go_wp2
                              repeat (go_quiet (fail); try go_wp2)
                              go_ret
                              exact ⟨by first | rfl | (simp [errW_none, errW_some] <;> rfl) | (simp [*, errW_none, errW_some] <;> rfl), by repeat (first | (with_reducible first | exact HB.out | apply below_alloc | apply pw_below_drewN | apply below_drew1 | refine below_set ?_ GE109.out | refine below_set ?_ GE111.out) | exact HB.out)⟩
                            · rw [if_neg c24] at H
                              have c24b0 : decide (((rd_T65 l0_1 x7_3).f0) ≤ ((rd_T65 l0_1 x5_1).f1)) = false := decide_eq_false c24
                              clear c24
                              have H' := Aside0.mk H
                              clear H
                              have hnb28 := NB111_109.out
                              have hnc28 := NB109_111.out
                              have hcz29_0 : wr.cell? ⟨gb111, 0, none⟩ = some (.int .u8 ((rd_T65 l0_1 x5_1).f0)) := (blk_cell BK111.out 0).trans rfl
                              have hcz29_1 : wr.cell? ⟨gb111, 1, none⟩ = some (.int .u8 ((rd_T65 l0_1 x5_1).f1)) := (blk_cell BK111.out 1).trans rfl
                              have hcz29_2 : wr.cell? ⟨gb111, 2, none⟩ = some (.int .i64 ((rd_T65 l0_1 x5_1).f2)) := (blk_cell BK111.out 2).trans rfl
                              have hfz29_0 := blk_frozen BK111.out 0
                              have hfz29_1 := blk_frozen BK111.out 1
                              have hfz29_2 := blk_frozen BK111.out 2
                              have hcz30_0 : wr.cell? ⟨gb109, 0, none⟩ = some (.int .i64 a0_0) := (blk_cell BK109.out 0).trans rfl
                              have hcz30_1 : wr.cell? ⟨gb109, 1, none⟩ = some (.slice (some ad110) l0_1.length c0_1) := (blk_cell BK109.out 1).trans rfl
                              have hcz30_2 : wr.cell? ⟨gb109, 2, none⟩ = some (.slice A0_2 l0_2.length c0_2) := (blk_cell BK109.out 2).trans rfl
                              have hcz30_3 : wr.cell? ⟨gb109, 3, none⟩ = some (.int .i64 a0_3) := (blk_cell BK109.out 3).trans rfl
                              have hcz30_4 : wr.cell? ⟨gb109, 4, none⟩ = some (.int .i64 a0_4) := (blk_cell BK109.out 4).trans rfl
                              have hfz30_0 := blk_frozen BK109.out 0
                              have hfz30_1 := blk_frozen BK109.out 1
                              have hfz30_2 := blk_frozen BK109.out 2
                              have hfz30_3 := blk_frozen BK109.out 3
                              have hfz30_4 := blk_frozen BK109.out 4
                              have p112 : 0 ≤ (x7_3 : Int) := of_decide_eq_true (by first | (with_reducible assumption) | assumption)
                              have q112 : x7_3 < (l0_1.length : Int) := of_decide_eq_true (by first | (with_reducible assumption) | assumption)
                              obtain ⟨ad112, e112, hx112_0, hx112_1, hx112_2⟩ := at_T65 HR0_1.out x7_3 p112 q112
                              obtain rfl : ad110 = ad112 := (by injection e112)
                              replace hx112_0 := (HB.out.cell (World.block_lt_of_cell? w _ hx112_0)).trans hx112_0
                              replace hx112_1 := (HB.out.cell (World.block_lt_of_cell? w _ hx112_1)).trans hx112_1
                              replace hx112_2 := (HB.out.cell (World.block_lt_of_cell? w _ hx112_2)).trans hx112_2
                              replace p112 := eq_true p112
                              replace q112 := eq_true q112
                              have p113 : 0 ≤ (x7_3 : Int) := of_decide_eq_true (by first | (with_reducible assumption) | assumption)
                              have q113 : x7_3 < (l0_1.length : Int) := of_decide_eq_true (by first | (with_reducible assumption) | assumption)
                              obtain ⟨ad113, e113, hx113_0, hx113_1, hx113_2⟩ := at_T65 HR0_1.out x7_3 p113 q113
                              obtain rfl : ad110 = ad113 := (by injection e113)
                              replace hx113_0 := (HB.out.cell (World.block_lt_of_cell? w _ hx113_0)).trans hx113_0
                              replace hx113_1 := (HB.out.cell (World.block_lt_of_cell? w _ hx113_1)).trans hx113_1
                              replace hx113_2 := (HB.out.cell (World.block_lt_of_cell? w _ hx113_2)).trans hx113_2
                              replace p113 := eq_true p113
                              replace q113 := eq_true q113
                              go_wp2
                              repeat (go_quiet (fail); try go_wp2)
                              go_roundg k3
                              case measure => have := HK1.out; have := HJ5.out; have := HK3.out; omega
                              case rel => exact ⟨(wrap64 (x7_3 + 1)), (by first | rfl | (simp; done) | (simp [*]; done)), H', ⟨by have := HK1.out; have := HJ5.out; have := HK3.out; omega⟩, ⟨by (with_reducible repeat (first | refine blk_drewN ?_ _ | refine blk_drew ?_ | refine blk_alloc ?_ _)); exact BK109.out⟩, ⟨by (with_reducible repeat (first | refine blk_drewN ?_ _ | refine blk_drew ?_ | refine blk_alloc ?_ _)); exact BK111.out⟩, ⟨by repeat (first | (with_reducible first | exact HB.out | apply below_alloc | apply pw_below_drewN | apply below_drew1 | refine below_set ?_ GE109.out | refine below_set ?_ GE111.out) | exact HB.out)⟩⟩
                          · rw [if_neg c23] at H
                            have c23b0 : decide (((rd_T65 l0_1 x5_1).f0) ≤ ((rd_T65 l0_1 x7_3).f1)) = false := decide_eq_false c23
                            clear c23
                            have H' := Aside0.mk H
                            clear H
                            have hnb31 := NB111_109.out
                            have hnc31 := NB109_111.out
                            have hcz32_0 : wr.cell? ⟨gb111, 0, none⟩ = some (.int .u8 ((rd_T65 l0_1 x5_1).f0)) := (blk_cell BK111.out 0).trans rfl
                            have hcz32_1 : wr.cell? ⟨gb111, 1, none⟩ = some (.int .u8 ((rd_T65 l0_1 x5_1).f1)) := (blk_cell BK111.out 1).trans rfl
                            have hcz32_2 : wr.cell? ⟨gb111, 2, none⟩ = some (.int .i64 ((rd_T65 l0_1 x5_1).f2)) := (blk_cell BK111.out 2).trans rfl
                            have hfz32_0 := blk_frozen BK111.out 0
                            have hfz32_1 := blk_frozen BK111.out 1
                            have hfz32_2 := blk_frozen BK111.out 2
                            have hcz33_0 : wr.cell? ⟨gb109, 0, none⟩ = some (.int .i64 a0_0) := (blk_cell BK109.out 0).trans rfl
                            have hcz33_1 : wr.cell? ⟨gb109, 1, none⟩ = some (.slice (some ad110) l0_1.length c0_1) := (blk_cell BK109.out 1).trans rfl
                            have hcz33_2 : wr.cell? ⟨gb109, 2, none⟩ = some (.slice A0_2 l0_2.length c0_2) := (blk_cell BK109.out 2).trans rfl
                            have hcz33_3 : wr.cell? ⟨gb109, 3, none⟩ = some (.int .i64 a0_3) := (blk_cell BK109.out 3).trans rfl
                            have hcz33_4 : wr.cell? ⟨gb109, 4, none⟩ = some (.int .i64 a0_4) := (blk_cell BK109.out 4).trans rfl
                            have hfz33_0 := blk_frozen BK109.out 0
                            have hfz33_1 := blk_frozen BK109.out 1
                            have hfz33_2 := blk_frozen BK109.out 2
                            have hfz33_3 := blk_frozen BK109.out 3
                            have hfz33_4 := blk_frozen BK109.out 4
                            have p112 : 0 ≤ (x7_3 : Int) := of_decide_eq_true (by first | (with_reducible assumption) | assumption)
                            have q112 : x7_3 < (l0_1.length : Int) := of_decide_eq_true (by first | (with_reducible assumption) | assumption)
                            obtain ⟨ad112, e112, hx112_0, hx112_1, hx112_2⟩ := at_T65 HR0_1.out x7_3 p112 q112
                            obtain rfl : ad110 = ad112 := (by injection e112)
                            replace hx112_0 := (HB.out.cell (World.block_lt_of_cell? w _ hx112_0)).trans hx112_0
                            replace hx112_1 := (HB.out.cell (World.block_lt_of_cell? w _ hx112_1)).trans hx112_1
                            replace hx112_2 := (HB.out.cell (World.block_lt_of_cell? w _ hx112_2)).trans hx112_2
                            replace p112 := eq_true p112
                            replace q112 := eq_true q112
                            go_wp2
                            repeat (go_quiet (fail); try go_wp2)
                            go_roundg k3
                            case measure => have := HK1.out; have := HJ5.out; have := HK3.out; omega
                            case rel => exact ⟨(wrap64 (x7_3 + 1)), (by first | rfl | (simp; done) | (simp [*]; done)), H', ⟨by have := HK1.out; have := HJ5.out; have := HK3.out; omega⟩, ⟨by (with_reducible repeat (first | refine blk_drewN ?_ _ | refine blk_drew ?_ | refine blk_alloc ?_ _)); exact BK109.out⟩, ⟨by (with_reducible repeat (first | refine blk_drewN ?_ _ | refine blk_drew ?_ | refine blk_alloc ?_ _)); exact BK111.out⟩, ⟨by repeat (first | (with_reducible first | exact HB.out | apply below_alloc | apply pw_below_drewN | apply below_drew1 | refine below_set ?_ GE109.out | refine below_set ?_ GE111.out) | exact HB.out)⟩⟩
                        · rw [if_neg c22] at H
                          exact absurd H (by simp)
                      · rw [if_neg c21] at H
                        exact absurd H (by simp)
                    · rw [if_neg c20] at H
                      have c20b0 : decide (x7_3 < x5_1) = false := decide_eq_false c20
                      clear c20
                      have H' := Aside0.mk H
                      clear H
                      go_wp2
                      repeat (go_quiet (fail); try go_wp2)
                      go_roundg k3
                      case measure => have := HK1.out; have := HJ5.out; have := HK3.out; omega
                      case rel => exact ⟨(wrap64 (x5_1 + 1)), (by first | rfl | (simp; done) | (simp [*]; done)), H', ⟨by have := HK1.out; have := HJ5.out; have := HK3.out; omega⟩, ⟨by (with_reducible repeat (first | refine blk_drewN ?_ _ | refine blk_drew ?_ | refine blk_alloc ?_ _)); exact BK109.out⟩, ⟨by repeat (first | (with_reducible first | exact HB.out | apply below_alloc | apply pw_below_drewN | apply below_drew1 | refine below_set ?_ GE109.out | refine below_set ?_ GE111.out) | exact HB.out)⟩⟩
        · rw [if_neg c5] at H
          exact absurd H (by simp)
      · rw [if_neg c4] at H
        have c4b0 : decide (x5_1 < (l0_1.length : Int)) = false := decide_eq_false c4
        clear c4
        by_cases c34 : (l0_2.length : Int) = 0
        · rw [if_pos c34] at H
          have c34b0 : ((l0_2.length : Int) == 0) = true := beq_iff_eq.mpr c34
          have c34b1 : ((l0_2.length : Int) != 0) = false := bne_eq_false_iff_eq.mpr c34
          clear c34
          obtain rfl := Option.some.inj H
          have hcz35_0 : wr.cell? ⟨gb109, 0, none⟩ = some (.int .i64 a0_0) := (blk_cell BK109.out 0).trans rfl
          have hcz35_1 : wr.cell? ⟨gb109, 1, none⟩ = some (.slice A0_1 l0_1.length c0_1) := (blk_cell BK109.out 1).trans rfl
          have hcz35_2 : wr.cell? ⟨gb109, 2, none⟩ = some (.slice A0_2 l0_2.length c0_2) := (blk_cell BK109.out 2).trans rfl
          have hcz35_3 : wr.cell? ⟨gb109, 3, none⟩ = some (.int .i64 a0_3) := (blk_cell BK109.out 3).trans rfl
          have hcz35_4 : wr.cell? ⟨gb109, 4, none⟩ = some (.int .i64 a0_4) := (blk_cell BK109.out 4).trans rfl
          have hfz35_0 := blk_frozen BK109.out 0
          have hfz35_1 := blk_frozen BK109.out 1
          have hfz35_2 := blk_frozen BK109.out 2
          have hfz35_3 := blk_frozen BK109.out 3
          have hfz35_4 := blk_frozen BK109.out 4
          go_wp2
          repeat (go_quiet (fail); try go_wp2)
          go_ret
          exact ⟨by first | rfl | (simp [errW_none, errW_some] <;> rfl) | (simp [*, errW_none, errW_some] <;> rfl), by repeat (first | (with_reducible first | exact HB.out | apply below_alloc | apply pw_below_drewN | apply below_drew1 | refine below_set ?_ GE109.out) | exact HB.out)⟩
        · rw [if_neg c34] at H
          have c34b0 : ((l0_2.length : Int) == 0) = false := beq_eq_false_iff_ne.mpr c34
          have c34b1 : ((l0_2.length : Int) != 0) = true := bne_iff_ne.mpr c34
          have c34b2 : ¬ (l0_2 = []) := fun h_ => c34 (by rw [h_]; rfl)
          obtain rfl := Option.some.inj H
          have hcz36_0 : wr.cell? ⟨gb109, 0, none⟩ = some (.int .i64 a0_0) := (blk_cell BK109.out 0).trans rfl
          have hcz36_1 : wr.cell? ⟨gb109, 1, none⟩ = some (.slice A0_1 l0_1.length c0_1) := (blk_cell BK109.out 1).trans rfl
          have hcz36_2 : wr.cell? ⟨gb109, 2, none⟩ = some (.slice A0_2 l0_2.length c0_2) := (blk_cell BK109.out 2).trans rfl
          have hcz36_3 : wr.cell? ⟨gb109, 3, none⟩ = some (.int .i64 a0_3) := (blk_cell BK109.out 3).trans rfl
          have hcz36_4 : wr.cell? ⟨gb109, 4, none⟩ = some (.int .i64 a0_4) := (blk_cell BK109.out 4).trans rfl
          have hfz36_0 := blk_frozen BK109.out 0
          have hfz36_1 := blk_frozen BK109.out 1
          have hfz36_2 := blk_frozen BK109.out 2
          have hfz36_3 := blk_frozen BK109.out 3
          have hfz36_4 := blk_frozen BK109.out 4
          go_wp2
          repeat (go_quiet (fail); try go_wp2)
          go_ret
          exact ⟨by first | rfl | (simp [errW_none, errW_some] <;> rfl) | (simp [*, errW_none, errW_some] <;> rfl), by repeat (first | (with_reducible first | exact HB.out | apply below_alloc | apply pw_below_drewN | apply below_drew1 | refine below_set ?_ GE109.out) | exact HB.out)⟩
end Go.Proofs.Ytecpjfipkejmoaa.PA
end
