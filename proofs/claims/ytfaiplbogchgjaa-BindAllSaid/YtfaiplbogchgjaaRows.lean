/-
  No cell of these rows narrows 'for every input' (looked for: loops, veiled, ifaces, maps, wideKeys, modest, calm, conditions, laid).
  DERIVED. THE GIVEN ROWS OF THIS SEAT. 6 by the template 'for every input the law returns true; each argument reads behind the call as it read before'; 0 by the template 'total and deterministic' (their statements: YtfaiplbogchgjaaTotals.lean).
  GIVEN WITH THE SEED: the statements are not yours to turn. If you find one false, say at which input.
  Laid BY PROGRAM, IN A SANDBOX (cutbox-rows.mjs): the forced cells as the released guide's own fill.sh prints them over the translation 94f6c2f4c954eb59… (all of the seat's roots in one cut). By AI agents, Wed Nov 11 2026. No macro, syntax, notation, axiom, sorry.
-/
import Derived.Test.YtfaiplbogchgjaaChecked
import GoSem.Claim
import GoSem.ClaimJoined
import GoSem.ClaimMapViews
import Derived.JoinedTies
import Derived.KernelRfl
namespace Go.Proofs.Ytfaiplbogchgjaa
/- THE CELL 'sum', in the pinned program and in every row, IS THE sha256 OF THE DUMP (.gsa) THAT YtfaiplbogchgjaaProg.lean LOADS. Nothing in Lean hashes anything: it is a label: what it is worth is what the hold of that sum in a sandbox is worth. -/
noncomputable def Try.pinned : Pinned := { name := "ytfaiplbogchgjaa", sum := "94f6c2f4c954eb59a7477d601c3711230514ad8db9d3c83cf36dfc4a2a142a3b", checked := Try.checked }
namespace Rows
def none {H : Type} : Left H := { results := [], args := [] }

/-- 'phalaropelaw09.BindTells': WHATEVER THE INPUT: true; the input reads as it did. -/
def bindTellsSpec : ChangeSpec := { name := "bindTells", fn := fun _ => fun
  | [d1, d2, d3] => { results := [.lit (.bool true)], args := [d1, d2, d3] }
  | _ => none }
def bindTellsRow : OpenClaim := { program := "ytfaiplbogchgjaa", sum := "94f6c2f4c954eb59a7477d601c3711230514ad8db9d3c83cf36dfc4a2a142a3b", func := "phalarope/phalaropelaw09.BindTells", spec := "bindTells", unfollowed := true, recurses := true, apart := false }
def BindTellsSaid : Prop := bindTellsRow.holds Try.pinned (OpenSpec.ofChange bindTellsSpec)

/-- ITS FALSE NEIGHBOUR: 'it returns false'. Refute it at one input. -/
def bindTellsWrong : ChangeSpec := { name := "bindTells", fn := fun _ => fun
  | [d1, d2, d3] => { results := [.lit (.bool false)], args := [d1, d2, d3] }
  | _ => none }
def BindTellsWrongFalsely : Prop := bindTellsRow.holds Try.pinned (OpenSpec.ofChange bindTellsWrong)

/-- 'phalaropelaw09.BindCanon': WHATEVER THE INPUT: true; the input reads as it did. -/
def bindCanonSpec : ChangeSpec := { name := "bindCanon", fn := fun _ => fun
  | [d1, d2] => { results := [.lit (.bool true)], args := [d1, d2] }
  | _ => none }
def bindCanonRow : OpenClaim := { program := "ytfaiplbogchgjaa", sum := "94f6c2f4c954eb59a7477d601c3711230514ad8db9d3c83cf36dfc4a2a142a3b", func := "phalarope/phalaropelaw09.BindCanon", spec := "bindCanon", unfollowed := true, recurses := true, apart := false }
def BindCanonSaid : Prop := bindCanonRow.holds Try.pinned (OpenSpec.ofChange bindCanonSpec)

/-- ITS FALSE NEIGHBOUR: 'it returns false'. Refute it at one input. -/
def bindCanonWrong : ChangeSpec := { name := "bindCanon", fn := fun _ => fun
  | [d1, d2] => { results := [.lit (.bool false)], args := [d1, d2] }
  | _ => none }
def BindCanonWrongFalsely : Prop := bindCanonRow.holds Try.pinned (OpenSpec.ofChange bindCanonWrong)

/-- 'phalaropelaw09.BindTurn': WHATEVER THE INPUT: true; the input reads as it did. -/
def bindTurnSpec : ChangeSpec := { name := "bindTurn", fn := fun _ => fun
  | [d1, d2] => { results := [.lit (.bool true)], args := [d1, d2] }
  | _ => none }
def bindTurnRow : OpenClaim := { program := "ytfaiplbogchgjaa", sum := "94f6c2f4c954eb59a7477d601c3711230514ad8db9d3c83cf36dfc4a2a142a3b", func := "phalarope/phalaropelaw09.BindTurn", spec := "bindTurn", unfollowed := true, recurses := true, apart := false }
def BindTurnSaid : Prop := bindTurnRow.holds Try.pinned (OpenSpec.ofChange bindTurnSpec)

/-- ITS FALSE NEIGHBOUR: 'it returns false'. Refute it at one input. -/
def bindTurnWrong : ChangeSpec := { name := "bindTurn", fn := fun _ => fun
  | [d1, d2] => { results := [.lit (.bool false)], args := [d1, d2] }
  | _ => none }
def BindTurnWrongFalsely : Prop := bindTurnRow.holds Try.pinned (OpenSpec.ofChange bindTurnWrong)

/-- 'phalaropelaw09.BindSets': WHATEVER THE INPUT: true; the input reads as it did. -/
def bindSetsSpec : ChangeSpec := { name := "bindSets", fn := fun _ => fun
  | [d1, d2, d3] => { results := [.lit (.bool true)], args := [d1, d2, d3] }
  | _ => none }
def bindSetsRow : OpenClaim := { program := "ytfaiplbogchgjaa", sum := "94f6c2f4c954eb59a7477d601c3711230514ad8db9d3c83cf36dfc4a2a142a3b", func := "phalarope/phalaropelaw09.BindSets", spec := "bindSets", inPlace := ["slices.overlaps[phalarope/api.Bind]"], unfollowed := true, recurses := true, apart := false }
def BindSetsSaid : Prop := bindSetsRow.holds Try.pinned (OpenSpec.ofChange bindSetsSpec)

/-- ITS FALSE NEIGHBOUR: 'it returns false'. Refute it at one input. -/
def bindSetsWrong : ChangeSpec := { name := "bindSets", fn := fun _ => fun
  | [d1, d2, d3] => { results := [.lit (.bool false)], args := [d1, d2, d3] }
  | _ => none }
def BindSetsWrongFalsely : Prop := bindSetsRow.holds Try.pinned (OpenSpec.ofChange bindSetsWrong)

/-- 'phalaropelaw09.BindTold': WHATEVER THE INPUT: true; the input reads as it did. -/
def bindToldSpec : ChangeSpec := { name := "bindTold", fn := fun _ => fun
  | [d1, d2, d3] => { results := [.lit (.bool true)], args := [d1, d2, d3] }
  | _ => none }
def bindToldRow : OpenClaim := { program := "ytfaiplbogchgjaa", sum := "94f6c2f4c954eb59a7477d601c3711230514ad8db9d3c83cf36dfc4a2a142a3b", func := "phalarope/phalaropelaw09.BindTold", spec := "bindTold", inPlace := ["slices.overlaps[phalarope/api.Bind]"], unfollowed := true, recurses := true, apart := false }
def BindToldSaid : Prop := bindToldRow.holds Try.pinned (OpenSpec.ofChange bindToldSpec)

/-- ITS FALSE NEIGHBOUR: 'it returns false'. Refute it at one input. -/
def bindToldWrong : ChangeSpec := { name := "bindTold", fn := fun _ => fun
  | [d1, d2, d3] => { results := [.lit (.bool false)], args := [d1, d2, d3] }
  | _ => none }
def BindToldWrongFalsely : Prop := bindToldRow.holds Try.pinned (OpenSpec.ofChange bindToldWrong)

/-- 'phalaropelaw09.BindAll': WHATEVER THE INPUT: true; the input reads as it did. -/
def bindAllSpec : ChangeSpec := { name := "bindAll", fn := fun _ => fun
  | [d1, d2] => { results := [.lit (.bool true)], args := [d1, d2] }
  | _ => none }
def bindAllRow : OpenClaim := { program := "ytfaiplbogchgjaa", sum := "94f6c2f4c954eb59a7477d601c3711230514ad8db9d3c83cf36dfc4a2a142a3b", func := "phalarope/phalaropelaw09.BindAll", spec := "bindAll", inPlace := ["slices.overlaps[phalarope/api.Bind]"], unfollowed := true, recurses := true, apart := false }
def BindAllSaid : Prop := bindAllRow.holds Try.pinned (OpenSpec.ofChange bindAllSpec)

/-- ITS FALSE NEIGHBOUR: 'it returns false'. Refute it at one input. -/
def bindAllWrong : ChangeSpec := { name := "bindAll", fn := fun _ => fun
  | [d1, d2] => { results := [.lit (.bool false)], args := [d1, d2] }
  | _ => none }
def BindAllWrongFalsely : Prop := bindAllRow.holds Try.pinned (OpenSpec.ofChange bindAllWrong)

/- THE SECOND FORM. 'bulk': how many values and letters a reading holds, each counted each time it is reached (what is shared counts as often as it is met; a slice's spare places count too). A statement '..UptoSaid' is the law's where the arguments, and the package variables that the reading takes, are together of bulk at most 1048576: NARROWER than '..Said'. Prove '..Said' where nothing that the law and all that it calls make is longer than what came in: it says more and counts as full. Else prove '..UptoSaid'. A law counts once. -/
mutual
def uptoBulk {H : Type} : DataW H → Nat
  | .lit (.string bytes) => bytes.length + 1
  | .lit _ => 1
  | .nil => 1
  | .ptr d => uptoBulk d + 1
  | .slice elems spare => uptoBulkAll elems + uptoBulkAll spare + 1
  | .agg parts => uptoBulkAll parts + 1
  | .iface _ d => uptoBulk d + 1
  | .map entries => uptoBulkEntries entries + 1
  | .held _ => 1
def uptoBulkAll {H : Type} : List (DataW H) → Nat
  | [] => 0
  | d :: r => uptoBulk d + uptoBulkAll r
def uptoBulkEntries {H : Type} : List (Lit × DataW H) → Nat
  | [] => 0
  | x :: r => uptoBulkEntry x + uptoBulkEntries r
def uptoBulkEntry {H : Type} : Lit × DataW H → Nat
  | (.string bytes, d) => bytes.length + uptoBulk d + 1
  | (_, d) => uptoBulk d + 1
 end
def uptoSmall : (H : Type) → List (DataW H) → Bool := fun _ ds => decide (uptoBulkAll ds ≤ 1048576)
def OpenSpec.upto (s : _root_.Go.ChangeSpec) : _root_.Go.OpenSpec := { _root_.Go.OpenSpec.ofChange s with cond := some uptoSmall }

/-- 'phalaropelaw09.BindTells', WHERE WHAT IT READS IS OF BULK AT MOST 1048576: true; the input reads as it did. -/
def bindTellsUptoRow : OpenClaim := { program := "ytfaiplbogchgjaa", sum := "94f6c2f4c954eb59a7477d601c3711230514ad8db9d3c83cf36dfc4a2a142a3b", func := "phalarope/phalaropelaw09.BindTells", spec := "bindTells", unfollowed := true, recurses := true, apart := false, narrowed := true }
def BindTellsUptoSaid : Prop := bindTellsUptoRow.holds Try.pinned (OpenSpec.upto bindTellsSpec)

/-- 'phalaropelaw09.BindCanon', WHERE WHAT IT READS IS OF BULK AT MOST 1048576: true; the input reads as it did. -/
def bindCanonUptoRow : OpenClaim := { program := "ytfaiplbogchgjaa", sum := "94f6c2f4c954eb59a7477d601c3711230514ad8db9d3c83cf36dfc4a2a142a3b", func := "phalarope/phalaropelaw09.BindCanon", spec := "bindCanon", unfollowed := true, recurses := true, apart := false, narrowed := true }
def BindCanonUptoSaid : Prop := bindCanonUptoRow.holds Try.pinned (OpenSpec.upto bindCanonSpec)

/-- 'phalaropelaw09.BindTurn', WHERE WHAT IT READS IS OF BULK AT MOST 1048576: true; the input reads as it did. -/
def bindTurnUptoRow : OpenClaim := { program := "ytfaiplbogchgjaa", sum := "94f6c2f4c954eb59a7477d601c3711230514ad8db9d3c83cf36dfc4a2a142a3b", func := "phalarope/phalaropelaw09.BindTurn", spec := "bindTurn", unfollowed := true, recurses := true, apart := false, narrowed := true }
def BindTurnUptoSaid : Prop := bindTurnUptoRow.holds Try.pinned (OpenSpec.upto bindTurnSpec)

/-- 'phalaropelaw09.BindSets', WHERE WHAT IT READS IS OF BULK AT MOST 1048576: true; the input reads as it did. -/
def bindSetsUptoRow : OpenClaim := { program := "ytfaiplbogchgjaa", sum := "94f6c2f4c954eb59a7477d601c3711230514ad8db9d3c83cf36dfc4a2a142a3b", func := "phalarope/phalaropelaw09.BindSets", spec := "bindSets", inPlace := ["slices.overlaps[phalarope/api.Bind]"], unfollowed := true, recurses := true, apart := false, narrowed := true }
def BindSetsUptoSaid : Prop := bindSetsUptoRow.holds Try.pinned (OpenSpec.upto bindSetsSpec)

/-- 'phalaropelaw09.BindTold', WHERE WHAT IT READS IS OF BULK AT MOST 1048576: true; the input reads as it did. -/
def bindToldUptoRow : OpenClaim := { program := "ytfaiplbogchgjaa", sum := "94f6c2f4c954eb59a7477d601c3711230514ad8db9d3c83cf36dfc4a2a142a3b", func := "phalarope/phalaropelaw09.BindTold", spec := "bindTold", inPlace := ["slices.overlaps[phalarope/api.Bind]"], unfollowed := true, recurses := true, apart := false, narrowed := true }
def BindToldUptoSaid : Prop := bindToldUptoRow.holds Try.pinned (OpenSpec.upto bindToldSpec)

/-- 'phalaropelaw09.BindAll', WHERE WHAT IT READS IS OF BULK AT MOST 1048576: true; the input reads as it did. -/
def bindAllUptoRow : OpenClaim := { program := "ytfaiplbogchgjaa", sum := "94f6c2f4c954eb59a7477d601c3711230514ad8db9d3c83cf36dfc4a2a142a3b", func := "phalarope/phalaropelaw09.BindAll", spec := "bindAll", inPlace := ["slices.overlaps[phalarope/api.Bind]"], unfollowed := true, recurses := true, apart := false, narrowed := true }
def BindAllUptoSaid : Prop := bindAllUptoRow.holds Try.pinned (OpenSpec.upto bindAllSpec)

end Rows
end Go.Proofs.Ytfaiplbogchgjaa
