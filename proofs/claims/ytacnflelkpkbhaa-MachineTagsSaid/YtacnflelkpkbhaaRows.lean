/-
  No cell of these rows narrows 'for every input' (looked for: loops, veiled, ifaces, maps, wideKeys, modest, calm, conditions, laid).
  DERIVED. THE GIVEN ROWS OF THIS SEAT. 6 by the template 'for every input the law returns true; each argument reads behind the call as it read before'; 0 by the template 'total and deterministic' (their statements: YtacnflelkpkbhaaTotals.lean).
  GIVEN WITH THE SEED: the statements are not yours to turn. If you find one false, say at which input.
  Laid BY PROGRAM, IN A SANDBOX (cutbox-rows.mjs): the forced cells as the released guide's own fill.sh prints them over the translation 8b1b980525b7a13c… (all of the seat's roots in one cut). By AI agents, Wed Nov 11 2026. No macro, syntax, notation, axiom, sorry.
-/
import Derived.Test.YtacnflelkpkbhaaChecked
import GoSem.Claim
import GoSem.ClaimJoined
import GoSem.ClaimMapViews
import Derived.JoinedTies
import Derived.KernelRfl
namespace Go.Proofs.Ytacnflelkpkbhaa
/- THE CELL 'sum', in the pinned program and in every row, IS THE sha256 OF THE DUMP (.gsa) THAT YtacnflelkpkbhaaProg.lean LOADS. Nothing in Lean hashes anything: it is a label: what it is worth is what the hold of that sum in a sandbox is worth. -/
noncomputable def Try.pinned : Pinned := { name := "ytacnflelkpkbhaa", sum := "8b1b980525b7a13cc8546f6b9c74ef8f23fa1079ab0f7c3496ee609848efbec6", checked := Try.checked }
namespace Rows
def none {H : Type} : Left H := { results := [], args := [] }

/-- 'phalaropelaw16.MachineClose': WHATEVER THE INPUT: true; the input reads as it did. -/
def machineCloseSpec : ChangeSpec := { name := "machineClose", fn := fun _ => fun
  | [d1, d2, d3] => { results := [.lit (.bool true)], args := [d1, d2, d3] }
  | _ => none }
def machineCloseRow : OpenClaim := { program := "ytacnflelkpkbhaa", sum := "8b1b980525b7a13cc8546f6b9c74ef8f23fa1079ab0f7c3496ee609848efbec6", func := "phalarope/phalaropelaw16.MachineClose", spec := "machineClose", unfollowed := true, recurses := true, apart := false }
def MachineCloseSaid : Prop := machineCloseRow.holds Try.pinned (OpenSpec.ofChange machineCloseSpec)

/-- ITS FALSE NEIGHBOUR: 'it returns false'. Refute it at one input. -/
def machineCloseWrong : ChangeSpec := { name := "machineClose", fn := fun _ => fun
  | [d1, d2, d3] => { results := [.lit (.bool false)], args := [d1, d2, d3] }
  | _ => none }
def MachineCloseWrongFalsely : Prop := machineCloseRow.holds Try.pinned (OpenSpec.ofChange machineCloseWrong)

/-- 'phalaropelaw16.MachineTags': WHATEVER THE INPUT: true; the input reads as it did. -/
def machineTagsSpec : ChangeSpec := { name := "machineTags", fn := fun _ => fun
  | [d1, d2, d3] => { results := [.lit (.bool true)], args := [d1, d2, d3] }
  | _ => none }
def machineTagsRow : OpenClaim := { program := "ytacnflelkpkbhaa", sum := "8b1b980525b7a13cc8546f6b9c74ef8f23fa1079ab0f7c3496ee609848efbec6", func := "phalarope/phalaropelaw16.MachineTags", spec := "machineTags", unfollowed := true, recurses := true, apart := false }
def MachineTagsSaid : Prop := machineTagsRow.holds Try.pinned (OpenSpec.ofChange machineTagsSpec)

/-- ITS FALSE NEIGHBOUR: 'it returns false'. Refute it at one input. -/
def machineTagsWrong : ChangeSpec := { name := "machineTags", fn := fun _ => fun
  | [d1, d2, d3] => { results := [.lit (.bool false)], args := [d1, d2, d3] }
  | _ => none }
def MachineTagsWrongFalsely : Prop := machineTagsRow.holds Try.pinned (OpenSpec.ofChange machineTagsWrong)

/-- 'phalaropelaw16.MachineLine': WHATEVER THE INPUT: true; the input reads as it did. -/
def machineLineSpec : ChangeSpec := { name := "machineLine", fn := fun _ => fun
  | [d1, d2] => { results := [.lit (.bool true)], args := [d1, d2] }
  | _ => none }
def machineLineRow : OpenClaim := { program := "ytacnflelkpkbhaa", sum := "8b1b980525b7a13cc8546f6b9c74ef8f23fa1079ab0f7c3496ee609848efbec6", func := "phalarope/phalaropelaw16.MachineLine", spec := "machineLine", unfollowed := true, recurses := true, apart := false }
def MachineLineSaid : Prop := machineLineRow.holds Try.pinned (OpenSpec.ofChange machineLineSpec)

/-- ITS FALSE NEIGHBOUR: 'it returns false'. Refute it at one input. -/
def machineLineWrong : ChangeSpec := { name := "machineLine", fn := fun _ => fun
  | [d1, d2] => { results := [.lit (.bool false)], args := [d1, d2] }
  | _ => none }
def MachineLineWrongFalsely : Prop := machineLineRow.holds Try.pinned (OpenSpec.ofChange machineLineWrong)

/-- 'phalaropelaw16.MachineTells': WHATEVER THE INPUT: true; the input reads as it did. -/
def machineTellsSpec : ChangeSpec := { name := "machineTells", fn := fun _ => fun
  | [d1, d2, d3] => { results := [.lit (.bool true)], args := [d1, d2, d3] }
  | _ => none }
def machineTellsRow : OpenClaim := { program := "ytacnflelkpkbhaa", sum := "8b1b980525b7a13cc8546f6b9c74ef8f23fa1079ab0f7c3496ee609848efbec6", func := "phalarope/phalaropelaw16.MachineTells", spec := "machineTells", unfollowed := true, recurses := true, apart := false }
def MachineTellsSaid : Prop := machineTellsRow.holds Try.pinned (OpenSpec.ofChange machineTellsSpec)

/-- ITS FALSE NEIGHBOUR: 'it returns false'. Refute it at one input. -/
def machineTellsWrong : ChangeSpec := { name := "machineTells", fn := fun _ => fun
  | [d1, d2, d3] => { results := [.lit (.bool false)], args := [d1, d2, d3] }
  | _ => none }
def MachineTellsWrongFalsely : Prop := machineTellsRow.holds Try.pinned (OpenSpec.ofChange machineTellsWrong)

/-- 'phalaropelaw16.MachineParts': WHATEVER THE INPUT: true; the input reads as it did. -/
def machinePartsSpec : ChangeSpec := { name := "machineParts", fn := fun _ => fun
  | [d1, d2] => { results := [.lit (.bool true)], args := [d1, d2] }
  | _ => none }
def machinePartsRow : OpenClaim := { program := "ytacnflelkpkbhaa", sum := "8b1b980525b7a13cc8546f6b9c74ef8f23fa1079ab0f7c3496ee609848efbec6", func := "phalarope/phalaropelaw16.MachineParts", spec := "machineParts", unfollowed := true, recurses := true, apart := false }
def MachinePartsSaid : Prop := machinePartsRow.holds Try.pinned (OpenSpec.ofChange machinePartsSpec)

/-- ITS FALSE NEIGHBOUR: 'it returns false'. Refute it at one input. -/
def machinePartsWrong : ChangeSpec := { name := "machineParts", fn := fun _ => fun
  | [d1, d2] => { results := [.lit (.bool false)], args := [d1, d2] }
  | _ => none }
def MachinePartsWrongFalsely : Prop := machinePartsRow.holds Try.pinned (OpenSpec.ofChange machinePartsWrong)

/-- 'phalaropelaw16.MachineNobody': WHATEVER THE INPUT: true; the input reads as it did. -/
def machineNobodySpec : ChangeSpec := { name := "machineNobody", fn := fun _ => fun
  | [d1, d2, d3] => { results := [.lit (.bool true)], args := [d1, d2, d3] }
  | _ => none }
def machineNobodyRow : OpenClaim := { program := "ytacnflelkpkbhaa", sum := "8b1b980525b7a13cc8546f6b9c74ef8f23fa1079ab0f7c3496ee609848efbec6", func := "phalarope/phalaropelaw16.MachineNobody", spec := "machineNobody", unfollowed := true, recurses := true, apart := false }
def MachineNobodySaid : Prop := machineNobodyRow.holds Try.pinned (OpenSpec.ofChange machineNobodySpec)

/-- ITS FALSE NEIGHBOUR: 'it returns false'. Refute it at one input. -/
def machineNobodyWrong : ChangeSpec := { name := "machineNobody", fn := fun _ => fun
  | [d1, d2, d3] => { results := [.lit (.bool false)], args := [d1, d2, d3] }
  | _ => none }
def MachineNobodyWrongFalsely : Prop := machineNobodyRow.holds Try.pinned (OpenSpec.ofChange machineNobodyWrong)

/- THE SECOND FORM. 'bulk': how many values and letters a reading holds, each counted each time it is reached (what is shared counts as often as it is met; a slice's spare places count too). A statement '..UptoSaid' is the law's where the arguments, and the package variables that the reading takes, are together of bulk at most 1048576: NARROWER than '..Said'. Prove '..Said' where nothing that the law and all that it calls make is longer than what came in: it says more and counts as full. Else prove '..UptoSaid'. A law counts once. -/
mutual
def uptoBulk {H : Type} : DataW H → Nat
  | .lit (.string bytes) => bytes.length + 1
  | .lit _ => 1
  | .nil => 1
  | .ptr d => uptoBulk d + 1
  | .slice elems spare => uptoBulkAll elems + uptoBulkAll spare + 1
  | .agg parts => uptoBulkAll parts + 1
  | .iface _ d => uptoBulk d + 1
  | .map entries => uptoBulkEntries entries + 1
  | .held _ => 1
def uptoBulkAll {H : Type} : List (DataW H) → Nat
  | [] => 0
  | d :: r => uptoBulk d + uptoBulkAll r
def uptoBulkEntries {H : Type} : List (Lit × DataW H) → Nat
  | [] => 0
  | x :: r => uptoBulkEntry x + uptoBulkEntries r
def uptoBulkEntry {H : Type} : Lit × DataW H → Nat
  | (.string bytes, d) => bytes.length + uptoBulk d + 1
  | (_, d) => uptoBulk d + 1
 end
def uptoSmall : (H : Type) → List (DataW H) → Bool := fun _ ds => decide (uptoBulkAll ds ≤ 1048576)
def OpenSpec.upto (s : _root_.Go.ChangeSpec) : _root_.Go.OpenSpec := { _root_.Go.OpenSpec.ofChange s with cond := some uptoSmall }

/-- 'phalaropelaw16.MachineClose', WHERE WHAT IT READS IS OF BULK AT MOST 1048576: true; the input reads as it did. -/
def machineCloseUptoRow : OpenClaim := { program := "ytacnflelkpkbhaa", sum := "8b1b980525b7a13cc8546f6b9c74ef8f23fa1079ab0f7c3496ee609848efbec6", func := "phalarope/phalaropelaw16.MachineClose", spec := "machineClose", unfollowed := true, recurses := true, apart := false, narrowed := true }
def MachineCloseUptoSaid : Prop := machineCloseUptoRow.holds Try.pinned (OpenSpec.upto machineCloseSpec)

/-- 'phalaropelaw16.MachineTags', WHERE WHAT IT READS IS OF BULK AT MOST 1048576: true; the input reads as it did. -/
def machineTagsUptoRow : OpenClaim := { program := "ytacnflelkpkbhaa", sum := "8b1b980525b7a13cc8546f6b9c74ef8f23fa1079ab0f7c3496ee609848efbec6", func := "phalarope/phalaropelaw16.MachineTags", spec := "machineTags", unfollowed := true, recurses := true, apart := false, narrowed := true }
def MachineTagsUptoSaid : Prop := machineTagsUptoRow.holds Try.pinned (OpenSpec.upto machineTagsSpec)

/-- 'phalaropelaw16.MachineLine', WHERE WHAT IT READS IS OF BULK AT MOST 1048576: true; the input reads as it did. -/
def machineLineUptoRow : OpenClaim := { program := "ytacnflelkpkbhaa", sum := "8b1b980525b7a13cc8546f6b9c74ef8f23fa1079ab0f7c3496ee609848efbec6", func := "phalarope/phalaropelaw16.MachineLine", spec := "machineLine", unfollowed := true, recurses := true, apart := false, narrowed := true }
def MachineLineUptoSaid : Prop := machineLineUptoRow.holds Try.pinned (OpenSpec.upto machineLineSpec)

/-- 'phalaropelaw16.MachineTells', WHERE WHAT IT READS IS OF BULK AT MOST 1048576: true; the input reads as it did. -/
def machineTellsUptoRow : OpenClaim := { program := "ytacnflelkpkbhaa", sum := "8b1b980525b7a13cc8546f6b9c74ef8f23fa1079ab0f7c3496ee609848efbec6", func := "phalarope/phalaropelaw16.MachineTells", spec := "machineTells", unfollowed := true, recurses := true, apart := false, narrowed := true }
def MachineTellsUptoSaid : Prop := machineTellsUptoRow.holds Try.pinned (OpenSpec.upto machineTellsSpec)

/-- 'phalaropelaw16.MachineParts', WHERE WHAT IT READS IS OF BULK AT MOST 1048576: true; the input reads as it did. -/
def machinePartsUptoRow : OpenClaim := { program := "ytacnflelkpkbhaa", sum := "8b1b980525b7a13cc8546f6b9c74ef8f23fa1079ab0f7c3496ee609848efbec6", func := "phalarope/phalaropelaw16.MachineParts", spec := "machineParts", unfollowed := true, recurses := true, apart := false, narrowed := true }
def MachinePartsUptoSaid : Prop := machinePartsUptoRow.holds Try.pinned (OpenSpec.upto machinePartsSpec)

/-- 'phalaropelaw16.MachineNobody', WHERE WHAT IT READS IS OF BULK AT MOST 1048576: true; the input reads as it did. -/
def machineNobodyUptoRow : OpenClaim := { program := "ytacnflelkpkbhaa", sum := "8b1b980525b7a13cc8546f6b9c74ef8f23fa1079ab0f7c3496ee609848efbec6", func := "phalarope/phalaropelaw16.MachineNobody", spec := "machineNobody", unfollowed := true, recurses := true, apart := false, narrowed := true }
def MachineNobodyUptoSaid : Prop := machineNobodyUptoRow.holds Try.pinned (OpenSpec.upto machineNobodySpec)

end Rows
end Go.Proofs.Ytacnflelkpkbhaa
