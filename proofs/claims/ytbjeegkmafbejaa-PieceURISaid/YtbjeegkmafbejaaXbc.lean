/- A byte as a triplet: pct.One. -/
import Derived.Test.YtbjeegkmafbejaaProg
import Derived.Below
import Derived.Deep.Draws
import Derived.Deep.AppendLies
import Derived.Maps.AppendAt
import Derived.OwnWalk
import Derived.Laws.BytesArg
import Derived.Laws.MakeOwn
import Derived.Laws.OwnMore
import Derived.Deep.OwnRows
import Derived.Tactics
import Derived.Lib.ConvBytes
import Derived.Laws.Slices
import Derived.WalkKit
import Derived.KernelRfl
import Derived.RowKit3
import Derived.Deep.LoopGhost
import Derived.Deep.QuietTactic
import Derived.BigQuiet
import Derived.WideLaws
import Derived.Deep.DeepCutAuto
import Derived.Deep.CutBlock
import Derived.Deep.RegionHeld3
import Derived.Laws.Rows
import Derived.Lib.AppendStr
import Derived.ArgAppend
import Derived.Laws.IdiomCopy
import Derived.OrdersHeld
import Derived.Laws.BitsLemmas
import Derived.RowKit
import Derived.Test.YtbjeegkmafbejaaWWords
import Derived.Test.YtbjeegkmafbejaaWLast
import Derived.Test.YtbjeegkmafbejaaWMore
import Derived.WalkSpells
import Derived.WalkLawsBesides
import Derived.Outline
import Derived.Deep.DeepMust
import Derived.Test.YtbjeegkmafbejaaXb
namespace Go.Proofs.Ytbjeegkmafbejaa.X
set_option linter.unusedSimpArgs false
set_option linter.unusedVariables false
open Go.RowKit Go.Proofs.YtbjeegkmafbejaaW.PrintWords
def greatS : ByteArray := ⟨#[48, 49, 50, 51, 52, 53, 54, 55, 56, 57, 65, 66, 67, 68, 69, 70]⟩
/-- A hexadecimal digit, great. -/
def hexD (d : Int) : Int := if d < 10 then 48 + d else 55 + d
def tripS (c : Int) : ByteArray := strOfNums [37, hexD (c / 16), hexD (c % 16)]
theorem great_at (d : Int) (h0 : 0 ≤ d) (h1 : d < 16) (W : World) : (Instr.index 9 (.string ⟨#[48, 49, 50, 51, 52, 53, 54, 55, 56, 57, 65, 66, 67, 68, 69, 70]⟩) (.int .u8 d)).run Try.prog W = .ok (.int .u8 (hexD d)) W := by
  rcases (by omega : d = 0 ∨ d = 1 ∨ d = 2 ∨ d = 3 ∨ d = 4 ∨ d = 5 ∨ d = 6 ∨ d = 7 ∨ d = 8 ∨ d = 9 ∨ d = 10 ∨ d = 11 ∨ d = 12 ∨ d = 13 ∨ d = 14 ∨ d = 15) with rfl | rfl | rfl | rfl | rfl | rfl | rfl | rfl | rfl | rfl | rfl | rfl | rfl | rfl | rfl | rfl <;> first | kernel_rfl | rfl
theorem convT (W : World) (B : Nat) (x y z : Int) (h0 : W.cell? ⟨B, 0, none⟩ = some (.int .u8 x)) (h1 : W.cell? ⟨B, 1, none⟩ = some (.int .u8 y)) (h2 : W.cell? ⟨B, 2, none⟩ = some (.int .u8 z)) :
    (convert 59 9 (.slice (some ⟨B, 0, none⟩) 3 3)).run Try.prog W = .ok (.string (strOfNums [x, y, z])) W :=
  run_convert_bytes_arg W 59 5 Try.underlying59 Try.underlying5 B 0 3 3 [x, y, z] rfl (fun i hi => by
    have : i = 0 ∨ i = 1 ∨ i = 2 := by omega
    rcases this with rfl | rfl | rfl
    · exact h0
    · exact h1
    · exact h2) 9 Try.underlying9
set_option maxHeartbeats 1600000 in
set_option maxRecDepth 100000 in
theorem pctOne_all (c : Int) (w : World) (hc0 : 0 ≤ c) (hc1 : c < 256) : Calls Try.prog 68 #[.int .u8 c] w fun e w' => e = .returned (.string (tripS c)) ∧ Below w.heap.size w w' := by
  have hcv := fun W B => convT W B 37 (hexD (c / 16)) (hexD (c % 16))
  have hd1 : Int.tdiv c 16 = c / 16 := Int.tdiv_eq_ediv_of_nonneg hc0
  have hd2 : Int.tmod c 16 = c % 16 := Int.tmod_eq_emod_of_nonneg hc0
  have hw1 : IntKind.u8.wrap (c / 16) = c / 16 := by show (c / 16) % 256 = c / 16; omega
  have hw2 : IntKind.u8.wrap (c % 16) = c % 16 := by show (c % 16) % 256 = c % 16; omega
  have hix1 := fun W => great_at (c / 16) (by omega) (by omega) W
  have hix2 := fun W => great_at (c % 16) (by omega) (by omega) W
  have HT := Aside0.mk (show tripS c = strOfNums [37, hexD (c / 16), hexD (c % 16)] from rfl)
  generalize hexD (c / 16) = x at *
  generalize hexD (c % 16) = y at *
  go_enter Try.func68, Try.ntmps68
  go_wp2_with fail
  go_region_with (fail)
  all_goals go_wp2
  all_goals go_ret
  all_goals exact ⟨by rw [HT.out]; rfl, by repeat (with_reducible first | exact Below.refl _ _ | apply Below.drew | apply below_alloc | apply pw_below_drewN)⟩
end Go.Proofs.Ytbjeegkmafbejaa.X
