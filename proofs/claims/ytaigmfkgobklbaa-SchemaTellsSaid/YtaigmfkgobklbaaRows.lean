/-
  No cell of these rows narrows 'for every input' (looked for: loops, veiled, ifaces, maps, wideKeys, modest, calm, conditions, laid).
  DERIVED. THE GIVEN ROWS OF THIS SEAT. 4 by the template 'for every input the law returns true; each argument reads behind the call as it read before'; 0 by the template 'total and deterministic' (their statements: YtaigmfkgobklbaaTotals.lean).
  GIVEN WITH THE SEED: the statements are not yours to turn. If you find one false, say at which input.
  Laid BY PROGRAM, IN A SANDBOX (cutbox-rows.mjs): the forced cells as the released guide's own fill.sh prints them over the translation 303c8f61da44e16e… (all of the seat's roots in one cut). By AI agents, Wed Nov 11 2026. No macro, syntax, notation, axiom, sorry.
-/
import Derived.Test.YtaigmfkgobklbaaChecked
import GoSem.Claim
import GoSem.ClaimJoined
import GoSem.ClaimMapViews
import Derived.JoinedTies
import Derived.KernelRfl
namespace Go.Proofs.Ytaigmfkgobklbaa
/- THE CELL 'sum', in the pinned program and in every row, IS THE sha256 OF THE DUMP (.gsa) THAT YtaigmfkgobklbaaProg.lean LOADS. Nothing in Lean hashes anything: it is a label: what it is worth is what the hold of that sum in a sandbox is worth. -/
noncomputable def Try.pinned : Pinned := { name := "ytaigmfkgobklbaa", sum := "303c8f61da44e16e1f225eb51d8aae2317e5a0087565866507ba9dc212ed82c1", checked := Try.checked }
namespace Rows
def none {H : Type} : Left H := { results := [], args := [] }

/-- 'phalaropelaw14.SchemaIn': WHATEVER THE INPUT: true; the input reads as it did. -/
def schemaInSpec : ChangeSpec := { name := "schemaIn", fn := fun _ => fun
  | [d1, d2] => { results := [.lit (.bool true)], args := [d1, d2] }
  | _ => none }
def schemaInRow : OpenClaim := { program := "ytaigmfkgobklbaa", sum := "303c8f61da44e16e1f225eb51d8aae2317e5a0087565866507ba9dc212ed82c1", func := "phalarope/phalaropelaw14.SchemaIn", spec := "schemaIn", unfollowed := true, recurses := true, apart := false }
def SchemaInSaid : Prop := schemaInRow.holds Try.pinned (OpenSpec.ofChange schemaInSpec)

/-- ITS FALSE NEIGHBOUR: 'it returns false'. Refute it at one input. -/
def schemaInWrong : ChangeSpec := { name := "schemaIn", fn := fun _ => fun
  | [d1, d2] => { results := [.lit (.bool false)], args := [d1, d2] }
  | _ => none }
def SchemaInWrongFalsely : Prop := schemaInRow.holds Try.pinned (OpenSpec.ofChange schemaInWrong)

/-- 'phalaropelaw14.SchemaWider': WHATEVER THE INPUT: true; the input reads as it did. -/
def schemaWiderSpec : ChangeSpec := { name := "schemaWider", fn := fun _ => fun
  | [d1, d2, d3] => { results := [.lit (.bool true)], args := [d1, d2, d3] }
  | _ => none }
def schemaWiderRow : OpenClaim := { program := "ytaigmfkgobklbaa", sum := "303c8f61da44e16e1f225eb51d8aae2317e5a0087565866507ba9dc212ed82c1", func := "phalarope/phalaropelaw14.SchemaWider", spec := "schemaWider", unfollowed := true, recurses := true, apart := false }
def SchemaWiderSaid : Prop := schemaWiderRow.holds Try.pinned (OpenSpec.ofChange schemaWiderSpec)

/-- ITS FALSE NEIGHBOUR: 'it returns false'. Refute it at one input. -/
def schemaWiderWrong : ChangeSpec := { name := "schemaWider", fn := fun _ => fun
  | [d1, d2, d3] => { results := [.lit (.bool false)], args := [d1, d2, d3] }
  | _ => none }
def SchemaWiderWrongFalsely : Prop := schemaWiderRow.holds Try.pinned (OpenSpec.ofChange schemaWiderWrong)

/-- 'phalaropelaw14.SchemaBound': WHATEVER THE INPUT: true; the input reads as it did. -/
def schemaBoundSpec : ChangeSpec := { name := "schemaBound", fn := fun _ => fun
  | [d1, d2] => { results := [.lit (.bool true)], args := [d1, d2] }
  | _ => none }
def schemaBoundRow : OpenClaim := { program := "ytaigmfkgobklbaa", sum := "303c8f61da44e16e1f225eb51d8aae2317e5a0087565866507ba9dc212ed82c1", func := "phalarope/phalaropelaw14.SchemaBound", spec := "schemaBound", unfollowed := true, recurses := true, apart := false }
def SchemaBoundSaid : Prop := schemaBoundRow.holds Try.pinned (OpenSpec.ofChange schemaBoundSpec)

/-- ITS FALSE NEIGHBOUR: 'it returns false'. Refute it at one input. -/
def schemaBoundWrong : ChangeSpec := { name := "schemaBound", fn := fun _ => fun
  | [d1, d2] => { results := [.lit (.bool false)], args := [d1, d2] }
  | _ => none }
def SchemaBoundWrongFalsely : Prop := schemaBoundRow.holds Try.pinned (OpenSpec.ofChange schemaBoundWrong)

/-- 'phalaropelaw14.SchemaTells': WHATEVER THE INPUT: true; the input reads as it did. -/
def schemaTellsSpec : ChangeSpec := { name := "schemaTells", fn := fun _ => fun
  | [d1, d2, d3] => { results := [.lit (.bool true)], args := [d1, d2, d3] }
  | _ => none }
def schemaTellsRow : OpenClaim := { program := "ytaigmfkgobklbaa", sum := "303c8f61da44e16e1f225eb51d8aae2317e5a0087565866507ba9dc212ed82c1", func := "phalarope/phalaropelaw14.SchemaTells", spec := "schemaTells", unfollowed := true, recurses := true, apart := false }
def SchemaTellsSaid : Prop := schemaTellsRow.holds Try.pinned (OpenSpec.ofChange schemaTellsSpec)

/-- ITS FALSE NEIGHBOUR: 'it returns false'. Refute it at one input. -/
def schemaTellsWrong : ChangeSpec := { name := "schemaTells", fn := fun _ => fun
  | [d1, d2, d3] => { results := [.lit (.bool false)], args := [d1, d2, d3] }
  | _ => none }
def SchemaTellsWrongFalsely : Prop := schemaTellsRow.holds Try.pinned (OpenSpec.ofChange schemaTellsWrong)

/- THE SECOND FORM. 'bulk': how many values and letters a reading holds, each counted each time it is reached (what is shared counts as often as it is met; a slice's spare places count too). A statement '..UptoSaid' is the law's where the arguments, and the package variables that the reading takes, are together of bulk at most 1048576: NARROWER than '..Said'. Prove '..Said' where nothing that the law and all that it calls make is longer than what came in: it says more and counts as full. Else prove '..UptoSaid'. A law counts once. -/
mutual
def uptoBulk {H : Type} : DataW H → Nat
  | .lit (.string bytes) => bytes.length + 1
  | .lit _ => 1
  | .nil => 1
  | .ptr d => uptoBulk d + 1
  | .slice elems spare => uptoBulkAll elems + uptoBulkAll spare + 1
  | .agg parts => uptoBulkAll parts + 1
  | .iface _ d => uptoBulk d + 1
  | .map entries => uptoBulkEntries entries + 1
  | .held _ => 1
def uptoBulkAll {H : Type} : List (DataW H) → Nat
  | [] => 0
  | d :: r => uptoBulk d + uptoBulkAll r
def uptoBulkEntries {H : Type} : List (Lit × DataW H) → Nat
  | [] => 0
  | x :: r => uptoBulkEntry x + uptoBulkEntries r
def uptoBulkEntry {H : Type} : Lit × DataW H → Nat
  | (.string bytes, d) => bytes.length + uptoBulk d + 1
  | (_, d) => uptoBulk d + 1
 end
def uptoSmall : (H : Type) → List (DataW H) → Bool := fun _ ds => decide (uptoBulkAll ds ≤ 1048576)
def OpenSpec.upto (s : _root_.Go.ChangeSpec) : _root_.Go.OpenSpec := { _root_.Go.OpenSpec.ofChange s with cond := some uptoSmall }

/-- 'phalaropelaw14.SchemaIn', WHERE WHAT IT READS IS OF BULK AT MOST 1048576: true; the input reads as it did. -/
def schemaInUptoRow : OpenClaim := { program := "ytaigmfkgobklbaa", sum := "303c8f61da44e16e1f225eb51d8aae2317e5a0087565866507ba9dc212ed82c1", func := "phalarope/phalaropelaw14.SchemaIn", spec := "schemaIn", unfollowed := true, recurses := true, apart := false, narrowed := true }
def SchemaInUptoSaid : Prop := schemaInUptoRow.holds Try.pinned (OpenSpec.upto schemaInSpec)

/-- 'phalaropelaw14.SchemaWider', WHERE WHAT IT READS IS OF BULK AT MOST 1048576: true; the input reads as it did. -/
def schemaWiderUptoRow : OpenClaim := { program := "ytaigmfkgobklbaa", sum := "303c8f61da44e16e1f225eb51d8aae2317e5a0087565866507ba9dc212ed82c1", func := "phalarope/phalaropelaw14.SchemaWider", spec := "schemaWider", unfollowed := true, recurses := true, apart := false, narrowed := true }
def SchemaWiderUptoSaid : Prop := schemaWiderUptoRow.holds Try.pinned (OpenSpec.upto schemaWiderSpec)

/-- 'phalaropelaw14.SchemaBound', WHERE WHAT IT READS IS OF BULK AT MOST 1048576: true; the input reads as it did. -/
def schemaBoundUptoRow : OpenClaim := { program := "ytaigmfkgobklbaa", sum := "303c8f61da44e16e1f225eb51d8aae2317e5a0087565866507ba9dc212ed82c1", func := "phalarope/phalaropelaw14.SchemaBound", spec := "schemaBound", unfollowed := true, recurses := true, apart := false, narrowed := true }
def SchemaBoundUptoSaid : Prop := schemaBoundUptoRow.holds Try.pinned (OpenSpec.upto schemaBoundSpec)

/-- 'phalaropelaw14.SchemaTells', WHERE WHAT IT READS IS OF BULK AT MOST 1048576: true; the input reads as it did. -/
def schemaTellsUptoRow : OpenClaim := { program := "ytaigmfkgobklbaa", sum := "303c8f61da44e16e1f225eb51d8aae2317e5a0087565866507ba9dc212ed82c1", func := "phalarope/phalaropelaw14.SchemaTells", spec := "schemaTells", unfollowed := true, recurses := true, apart := false, narrowed := true }
def SchemaTellsUptoSaid : Prop := schemaTellsUptoRow.holds Try.pinned (OpenSpec.upto schemaTellsSpec)

end Rows
end Go.Proofs.Ytaigmfkgobklbaa
