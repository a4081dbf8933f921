/-
  No cell of these rows narrows 'for every input' (looked for: loops, veiled, ifaces, maps, wideKeys, modest, calm, conditions, laid).
  DERIVED. THE GIVEN ROWS OF THIS SEAT. 3 by the template 'for every input the law returns true; each argument reads behind the call as it read before'; 0 by the template 'total and deterministic' (their statements: YtjhihohofhhknaaTotals.lean).
  GIVEN WITH THE SEED: the statements are not yours to turn. If you find one false, say at which input.
  Laid BY PROGRAM, IN A SANDBOX (cutbox-rows.mjs): the forced cells as the released guide's own fill.sh prints them over the translation 54246efa38514297… (all of the seat's roots in one cut). By AI agents, Wed Nov 11 2026. No macro, syntax, notation, axiom, sorry.
-/
import Derived.Test.YtjhihohofhhknaaChecked
import GoSem.Claim
import GoSem.ClaimJoined
import GoSem.ClaimMapViews
import Derived.JoinedTies
import Derived.KernelRfl
namespace Go.Proofs.Ytjhihohofhhknaa
/- THE CELL 'sum', in the pinned program and in every row, IS THE sha256 OF THE DUMP (.gsa) THAT YtjhihohofhhknaaProg.lean LOADS. Nothing in Lean hashes anything: it is a label: what it is worth is what the hold of that sum in a sandbox is worth. -/
noncomputable def Try.pinned : Pinned := { name := "ytjhihohofhhknaa", sum := "54246efa3851429757b765ca6b806116d4e0d377d8fe25ff95d8faea52c75729", checked := Try.checked }
namespace Rows
def none {H : Type} : Left H := { results := [], args := [] }

/-- 'phalaropelaw15.FitNarrower': WHATEVER THE INPUT: true; the input reads as it did. -/
def fitNarrowerSpec : ChangeSpec := { name := "fitNarrower", fn := fun _ => fun
  | [d1, d2, d3] => { results := [.lit (.bool true)], args := [d1, d2, d3] }
  | _ => none }
def fitNarrowerRow : OpenClaim := { program := "ytjhihohofhhknaa", sum := "54246efa3851429757b765ca6b806116d4e0d377d8fe25ff95d8faea52c75729", func := "phalarope/phalaropelaw15.FitNarrower", spec := "fitNarrower", inPlace := ["internal/bytealg.IndexByteString"], unfollowed := true, recurses := true, apart := false }
def FitNarrowerSaid : Prop := fitNarrowerRow.holds Try.pinned (OpenSpec.ofChange fitNarrowerSpec)

/-- ITS FALSE NEIGHBOUR: 'it returns false'. Refute it at one input. -/
def fitNarrowerWrong : ChangeSpec := { name := "fitNarrower", fn := fun _ => fun
  | [d1, d2, d3] => { results := [.lit (.bool false)], args := [d1, d2, d3] }
  | _ => none }
def FitNarrowerWrongFalsely : Prop := fitNarrowerRow.holds Try.pinned (OpenSpec.ofChange fitNarrowerWrong)

/-- 'phalaropelaw15.FitMissing': WHATEVER THE INPUT: true; the input reads as it did. -/
def fitMissingSpec : ChangeSpec := { name := "fitMissing", fn := fun _ => fun
  | [d1, d2] => { results := [.lit (.bool true)], args := [d1, d2] }
  | _ => none }
def fitMissingRow : OpenClaim := { program := "ytjhihohofhhknaa", sum := "54246efa3851429757b765ca6b806116d4e0d377d8fe25ff95d8faea52c75729", func := "phalarope/phalaropelaw15.FitMissing", spec := "fitMissing", inPlace := ["internal/bytealg.IndexByteString"], unfollowed := true, recurses := true, apart := false }
def FitMissingSaid : Prop := fitMissingRow.holds Try.pinned (OpenSpec.ofChange fitMissingSpec)

/-- ITS FALSE NEIGHBOUR: 'it returns false'. Refute it at one input. -/
def fitMissingWrong : ChangeSpec := { name := "fitMissing", fn := fun _ => fun
  | [d1, d2] => { results := [.lit (.bool false)], args := [d1, d2] }
  | _ => none }
def FitMissingWrongFalsely : Prop := fitMissingRow.holds Try.pinned (OpenSpec.ofChange fitMissingWrong)

/-- 'phalaropelaw15.FitTexts': WHATEVER THE INPUT: true; the input reads as it did. -/
def fitTextsSpec : ChangeSpec := { name := "fitTexts", fn := fun _ => fun
  | [d] => { results := [.lit (.bool true)], args := [d] }
  | _ => none }
def fitTextsRow : OpenClaim := { program := "ytjhihohofhhknaa", sum := "54246efa3851429757b765ca6b806116d4e0d377d8fe25ff95d8faea52c75729", func := "phalarope/phalaropelaw15.FitTexts", spec := "fitTexts", inPlace := ["internal/bytealg.IndexByteString"], unfollowed := true, recurses := true, apart := false }
def FitTextsSaid : Prop := fitTextsRow.holds Try.pinned (OpenSpec.ofChange fitTextsSpec)

/-- ITS FALSE NEIGHBOUR: 'it returns false'. Refute it at one input. -/
def fitTextsWrong : ChangeSpec := { name := "fitTexts", fn := fun _ => fun
  | [d] => { results := [.lit (.bool false)], args := [d] }
  | _ => none }
def FitTextsWrongFalsely : Prop := fitTextsRow.holds Try.pinned (OpenSpec.ofChange fitTextsWrong)

/- THE SECOND FORM. 'bulk': how many values and letters a reading holds, each counted each time it is reached (what is shared counts as often as it is met; a slice's spare places count too). A statement '..UptoSaid' is the law's where the arguments, and the package variables that the reading takes, are together of bulk at most 1048576: NARROWER than '..Said'. Prove '..Said' where nothing that the law and all that it calls make is longer than what came in: it says more and counts as full. Else prove '..UptoSaid'. A law counts once. -/
mutual
def uptoBulk {H : Type} : DataW H → Nat
  | .lit (.string bytes) => bytes.length + 1
  | .lit _ => 1
  | .nil => 1
  | .ptr d => uptoBulk d + 1
  | .slice elems spare => uptoBulkAll elems + uptoBulkAll spare + 1
  | .agg parts => uptoBulkAll parts + 1
  | .iface _ d => uptoBulk d + 1
  | .map entries => uptoBulkEntries entries + 1
  | .held _ => 1
def uptoBulkAll {H : Type} : List (DataW H) → Nat
  | [] => 0
  | d :: r => uptoBulk d + uptoBulkAll r
def uptoBulkEntries {H : Type} : List (Lit × DataW H) → Nat
  | [] => 0
  | x :: r => uptoBulkEntry x + uptoBulkEntries r
def uptoBulkEntry {H : Type} : Lit × DataW H → Nat
  | (.string bytes, d) => bytes.length + uptoBulk d + 1
  | (_, d) => uptoBulk d + 1
 end
def uptoSmall : (H : Type) → List (DataW H) → Bool := fun _ ds => decide (uptoBulkAll ds ≤ 1048576)
def OpenSpec.upto (s : _root_.Go.ChangeSpec) : _root_.Go.OpenSpec := { _root_.Go.OpenSpec.ofChange s with cond := some uptoSmall }

/-- 'phalaropelaw15.FitNarrower', WHERE WHAT IT READS IS OF BULK AT MOST 1048576: true; the input reads as it did. -/
def fitNarrowerUptoRow : OpenClaim := { program := "ytjhihohofhhknaa", sum := "54246efa3851429757b765ca6b806116d4e0d377d8fe25ff95d8faea52c75729", func := "phalarope/phalaropelaw15.FitNarrower", spec := "fitNarrower", inPlace := ["internal/bytealg.IndexByteString"], unfollowed := true, recurses := true, apart := false, narrowed := true }
def FitNarrowerUptoSaid : Prop := fitNarrowerUptoRow.holds Try.pinned (OpenSpec.upto fitNarrowerSpec)

/-- 'phalaropelaw15.FitMissing', WHERE WHAT IT READS IS OF BULK AT MOST 1048576: true; the input reads as it did. -/
def fitMissingUptoRow : OpenClaim := { program := "ytjhihohofhhknaa", sum := "54246efa3851429757b765ca6b806116d4e0d377d8fe25ff95d8faea52c75729", func := "phalarope/phalaropelaw15.FitMissing", spec := "fitMissing", inPlace := ["internal/bytealg.IndexByteString"], unfollowed := true, recurses := true, apart := false, narrowed := true }
def FitMissingUptoSaid : Prop := fitMissingUptoRow.holds Try.pinned (OpenSpec.upto fitMissingSpec)

/-- 'phalaropelaw15.FitTexts', WHERE WHAT IT READS IS OF BULK AT MOST 1048576: true; the input reads as it did. -/
def fitTextsUptoRow : OpenClaim := { program := "ytjhihohofhhknaa", sum := "54246efa3851429757b765ca6b806116d4e0d377d8fe25ff95d8faea52c75729", func := "phalarope/phalaropelaw15.FitTexts", spec := "fitTexts", inPlace := ["internal/bytealg.IndexByteString"], unfollowed := true, recurses := true, apart := false, narrowed := true }
def FitTextsUptoSaid : Prop := fitTextsUptoRow.holds Try.pinned (OpenSpec.upto fitTextsSpec)

end Rows
end Go.Proofs.Ytjhihohofhhknaa
