/- What the functions of package utf do: contracts over the seat's program. -/
import Derived.Test.YtbjeegkmafbejaaProg
import Derived.Below
import Derived.Deep.Draws
import Derived.Deep.AppendLies
import Derived.Maps.AppendAt
import Derived.OwnWalk
import Derived.Laws.BytesArg
import Derived.Laws.MakeOwn
import Derived.Laws.OwnMore
import Derived.Deep.OwnRows
import Derived.Tactics
import Derived.Lib.ConvBytes
import Derived.Laws.Slices
import Derived.WalkKit
import Derived.KernelRfl
import Derived.RowKit3
import Derived.Deep.LoopGhost
import Derived.Deep.QuietTactic
import Derived.BigQuiet
import Derived.WideLaws
import Derived.Deep.DeepCutAuto
import Derived.Deep.CutBlock
import Derived.Deep.RegionHeld3
import Derived.Laws.Rows
import Derived.Lib.AppendStr
import Derived.ArgAppend
import Derived.Laws.IdiomCopy
import Derived.OrdersHeld
import Derived.Laws.BitsLemmas
import Derived.RowKit
import Derived.Test.YtbjeegkmafbejaaWWords
import Derived.Test.YtbjeegkmafbejaaWLast
import Derived.Test.YtbjeegkmafbejaaWMore
import Derived.Lib.OthersKept
import Derived.WalkSpells
import Derived.WalkLawsBesides
import Derived.Test.YtbjeegkmafbejaaYu
import Derived.Test.YtbjeegkmafbejaaXb
namespace Go.Proofs.Ytbjeegkmafbejaa.X
set_option linter.unusedSimpArgs false
set_option linter.unusedVariables false
open Go.RowKit Go.Proofs.YtbjeegkmafbejaaW.PrintWords Go.Proofs.Ytbjeegkmafbejaa.Y
theorem infoInt : (Try.prog.info? 3).map (fun i => (i.zero, i.size, i.bytes)) = some (some (.int .i64 0), 1, 8) := by kernel_rfl

theorem slice_snoc {α : Type} {d : Kd α} {e base : Nat} {w : World} {ok : Nat → Prop} {v : Value} {xs : List α} {x : α} (h : d.R e w base ok v (xs ++ [x])) : ∃ A c, v = .slice A (xs.length + 1) c := by
  obtain ⟨A, c, rfl⟩ := Kd.R_slice h
  exact ⟨A, c, by rw [List.length_append, List.length_singleton]⟩
/-- Every other block of cells, or none of cells, stays. -/
def Others (w w' : World) (v : Value) (B : Nat) : Prop := ∀ k o, w.heap[k]? = some o → some k ≠ v.ownBlock → k ≠ B → w'.heap[k]? = some o

theorem Kd.R_iter {α : Type} {d : Kd α} {e base : Nat} {w : World} {ok : Nat → Prop} {v : Value} {xs : List α} (h : d.R e w base ok v xs) {k : Nat} {s : ByteArray} {p : Nat} (hk : w.heap[k]? = some (.stringIter s p)) (q : Nat) : d.R e (w.iterAt k s q) base ok v xs :=
  Kd.R_mono (Kd.R_move (Kd.R_bound h) (fun j hj => Lib.iterAt_other w k j s q (by
    obtain ⟨_, _, _, _, _, _, hc⟩ := hj
    rintro rfl
    rw [hk] at hc
    cases hc))) (fun _ hk => hk.1)

theorem iter_ne {α : Type} {d : Kd α} {e base : Nat} {w : World} {ok : Nat → Prop} {v : Value} {xs : List α} (h : d.R e w base ok v xs) {k : Nat} {s : ByteArray} {p : Nat} (hk : w.heap[k]? = some (.stringIter s p)) : some k ≠ v.ownBlock := by
  intro he
  obtain ⟨inner, ho⟩ := Kd.R_own h
  obtain ⟨cells, hc⟩ := own_typed ho k he.symm
  rw [hk] at hc
  cases hc

end Go.Proofs.Ytbjeegkmafbejaa.X
