/-
  No cell of these rows narrows 'for every input' (looked for: loops, veiled, ifaces, maps, wideKeys, modest, calm, conditions, laid).
  DERIVED. THE GIVEN ROWS OF THIS SEAT. 5 by the template 'for every input the law returns true; each argument reads behind the call as it read before'; 0 by the template 'total and deterministic' (their statements: YtakgimjaiplmgaaTotals.lean).
  GIVEN WITH THE SEED: the statements are not yours to turn. If you find one false, say at which input.
  Laid BY PROGRAM, IN A SANDBOX (cutbox-rows.mjs): the forced cells as the released guide's own fill.sh prints them over the translation 98cae28889cdb7de… (all of the seat's roots in one cut). By AI agents, Wed Nov 11 2026. No macro, syntax, notation, axiom, sorry.
-/
import Derived.Test.YtakgimjaiplmgaaChecked
import GoSem.Claim
import GoSem.ClaimJoined
import GoSem.ClaimMapViews
import Derived.JoinedTies
import Derived.KernelRfl
namespace Go.Proofs.Ytakgimjaiplmgaa
/- THE CELL 'sum', in the pinned program and in every row, IS THE sha256 OF THE DUMP (.gsa) THAT YtakgimjaiplmgaaProg.lean LOADS. Nothing in Lean hashes anything: it is a label: what it is worth is what the hold of that sum in a sandbox is worth. -/
noncomputable def Try.pinned : Pinned := { name := "ytakgimjaiplmgaa", sum := "98cae28889cdb7deae99c96ff512979e3e8c57c2726ef53f9833da568e7d21f0", checked := Try.checked }
namespace Rows
def none {H : Type} : Left H := { results := [], args := [] }

/-- 'phalaropelaw10.OperTells': WHATEVER THE INPUT: true; the input reads as it did. -/
def operTellsSpec : ChangeSpec := { name := "operTells", fn := fun _ => fun
  | [d] => { results := [.lit (.bool true)], args := [d] }
  | _ => none }
def operTellsRow : OpenClaim := { program := "ytakgimjaiplmgaa", sum := "98cae28889cdb7deae99c96ff512979e3e8c57c2726ef53f9833da568e7d21f0", func := "phalarope/phalaropelaw10.OperTells", spec := "operTells", inPlace := ["internal/bytealg.IndexByteString"], unfollowed := true, recurses := true, apart := false }
def OperTellsSaid : Prop := operTellsRow.holds Try.pinned (OpenSpec.ofChange operTellsSpec)

/-- ITS FALSE NEIGHBOUR: 'it returns false'. Refute it at one input. -/
def operTellsWrong : ChangeSpec := { name := "operTells", fn := fun _ => fun
  | [d] => { results := [.lit (.bool false)], args := [d] }
  | _ => none }
def OperTellsWrongFalsely : Prop := operTellsRow.holds Try.pinned (OpenSpec.ofChange operTellsWrong)

/-- 'phalaropelaw10.OperAll': WHATEVER THE INPUT: true; the input reads as it did. -/
def operAllSpec : ChangeSpec := { name := "operAll", fn := fun _ => fun
  | [d] => { results := [.lit (.bool true)], args := [d] }
  | _ => none }
def operAllRow : OpenClaim := { program := "ytakgimjaiplmgaa", sum := "98cae28889cdb7deae99c96ff512979e3e8c57c2726ef53f9833da568e7d21f0", func := "phalarope/phalaropelaw10.OperAll", spec := "operAll", inPlace := ["internal/bytealg.IndexByteString"], unfollowed := true, recurses := true, apart := false }
def OperAllSaid : Prop := operAllRow.holds Try.pinned (OpenSpec.ofChange operAllSpec)

/-- ITS FALSE NEIGHBOUR: 'it returns false'. Refute it at one input. -/
def operAllWrong : ChangeSpec := { name := "operAll", fn := fun _ => fun
  | [d] => { results := [.lit (.bool false)], args := [d] }
  | _ => none }
def OperAllWrongFalsely : Prop := operAllRow.holds Try.pinned (OpenSpec.ofChange operAllWrong)

/-- 'phalaropelaw10.OperApart': WHATEVER THE INPUT: true; the input reads as it did. -/
def operApartSpec : ChangeSpec := { name := "operApart", fn := fun _ => fun
  | [d1, d2] => { results := [.lit (.bool true)], args := [d1, d2] }
  | _ => none }
def operApartRow : OpenClaim := { program := "ytakgimjaiplmgaa", sum := "98cae28889cdb7deae99c96ff512979e3e8c57c2726ef53f9833da568e7d21f0", func := "phalarope/phalaropelaw10.OperApart", spec := "operApart", inPlace := ["internal/bytealg.IndexByteString"], unfollowed := true, recurses := true, apart := false }
def OperApartSaid : Prop := operApartRow.holds Try.pinned (OpenSpec.ofChange operApartSpec)

/-- ITS FALSE NEIGHBOUR: 'it returns false'. Refute it at one input. -/
def operApartWrong : ChangeSpec := { name := "operApart", fn := fun _ => fun
  | [d1, d2] => { results := [.lit (.bool false)], args := [d1, d2] }
  | _ => none }
def OperApartWrongFalsely : Prop := operApartRow.holds Try.pinned (OpenSpec.ofChange operApartWrong)

/-- 'phalaropelaw10.OperSelf': WHATEVER THE INPUT: true; the input reads as it did. -/
def operSelfSpec : ChangeSpec := { name := "operSelf", fn := fun _ => fun
  | [d] => { results := [.lit (.bool true)], args := [d] }
  | _ => none }
def operSelfRow : OpenClaim := { program := "ytakgimjaiplmgaa", sum := "98cae28889cdb7deae99c96ff512979e3e8c57c2726ef53f9833da568e7d21f0", func := "phalarope/phalaropelaw10.OperSelf", spec := "operSelf", inPlace := ["internal/bytealg.IndexByteString"], unfollowed := true, recurses := true, apart := false }
def OperSelfSaid : Prop := operSelfRow.holds Try.pinned (OpenSpec.ofChange operSelfSpec)

/-- ITS FALSE NEIGHBOUR: 'it returns false'. Refute it at one input. -/
def operSelfWrong : ChangeSpec := { name := "operSelf", fn := fun _ => fun
  | [d] => { results := [.lit (.bool false)], args := [d] }
  | _ => none }
def OperSelfWrongFalsely : Prop := operSelfRow.holds Try.pinned (OpenSpec.ofChange operSelfWrong)

/-- 'phalaropelaw10.OperKeep': WHATEVER THE INPUT: true; the input reads as it did. -/
def operKeepSpec : ChangeSpec := { name := "operKeep", fn := fun _ => fun
  | [d] => { results := [.lit (.bool true)], args := [d] }
  | _ => none }
def operKeepRow : OpenClaim := { program := "ytakgimjaiplmgaa", sum := "98cae28889cdb7deae99c96ff512979e3e8c57c2726ef53f9833da568e7d21f0", func := "phalarope/phalaropelaw10.OperKeep", spec := "operKeep", inPlace := ["internal/bytealg.IndexByteString"], unfollowed := true, recurses := true, apart := false }
def OperKeepSaid : Prop := operKeepRow.holds Try.pinned (OpenSpec.ofChange operKeepSpec)

/-- ITS FALSE NEIGHBOUR: 'it returns false'. Refute it at one input. -/
def operKeepWrong : ChangeSpec := { name := "operKeep", fn := fun _ => fun
  | [d] => { results := [.lit (.bool false)], args := [d] }
  | _ => none }
def OperKeepWrongFalsely : Prop := operKeepRow.holds Try.pinned (OpenSpec.ofChange operKeepWrong)

/- THE SECOND FORM. 'bulk': how many values and letters a reading holds, each counted each time it is reached (what is shared counts as often as it is met; a slice's spare places count too). A statement '..UptoSaid' is the law's where the arguments, and the package variables that the reading takes, are together of bulk at most 1048576: NARROWER than '..Said'. Prove '..Said' where nothing that the law and all that it calls make is longer than what came in: it says more and counts as full. Else prove '..UptoSaid'. A law counts once. -/
mutual
def uptoBulk {H : Type} : DataW H → Nat
  | .lit (.string bytes) => bytes.length + 1
  | .lit _ => 1
  | .nil => 1
  | .ptr d => uptoBulk d + 1
  | .slice elems spare => uptoBulkAll elems + uptoBulkAll spare + 1
  | .agg parts => uptoBulkAll parts + 1
  | .iface _ d => uptoBulk d + 1
  | .map entries => uptoBulkEntries entries + 1
  | .held _ => 1
def uptoBulkAll {H : Type} : List (DataW H) → Nat
  | [] => 0
  | d :: r => uptoBulk d + uptoBulkAll r
def uptoBulkEntries {H : Type} : List (Lit × DataW H) → Nat
  | [] => 0
  | x :: r => uptoBulkEntry x + uptoBulkEntries r
def uptoBulkEntry {H : Type} : Lit × DataW H → Nat
  | (.string bytes, d) => bytes.length + uptoBulk d + 1
  | (_, d) => uptoBulk d + 1
 end
def uptoSmall : (H : Type) → List (DataW H) → Bool := fun _ ds => decide (uptoBulkAll ds ≤ 1048576)
def OpenSpec.upto (s : _root_.Go.ChangeSpec) : _root_.Go.OpenSpec := { _root_.Go.OpenSpec.ofChange s with cond := some uptoSmall }

/-- 'phalaropelaw10.OperTells', WHERE WHAT IT READS IS OF BULK AT MOST 1048576: true; the input reads as it did. -/
def operTellsUptoRow : OpenClaim := { program := "ytakgimjaiplmgaa", sum := "98cae28889cdb7deae99c96ff512979e3e8c57c2726ef53f9833da568e7d21f0", func := "phalarope/phalaropelaw10.OperTells", spec := "operTells", inPlace := ["internal/bytealg.IndexByteString"], unfollowed := true, recurses := true, apart := false, narrowed := true }
def OperTellsUptoSaid : Prop := operTellsUptoRow.holds Try.pinned (OpenSpec.upto operTellsSpec)

/-- 'phalaropelaw10.OperAll', WHERE WHAT IT READS IS OF BULK AT MOST 1048576: true; the input reads as it did. -/
def operAllUptoRow : OpenClaim := { program := "ytakgimjaiplmgaa", sum := "98cae28889cdb7deae99c96ff512979e3e8c57c2726ef53f9833da568e7d21f0", func := "phalarope/phalaropelaw10.OperAll", spec := "operAll", inPlace := ["internal/bytealg.IndexByteString"], unfollowed := true, recurses := true, apart := false, narrowed := true }
def OperAllUptoSaid : Prop := operAllUptoRow.holds Try.pinned (OpenSpec.upto operAllSpec)

/-- 'phalaropelaw10.OperApart', WHERE WHAT IT READS IS OF BULK AT MOST 1048576: true; the input reads as it did. -/
def operApartUptoRow : OpenClaim := { program := "ytakgimjaiplmgaa", sum := "98cae28889cdb7deae99c96ff512979e3e8c57c2726ef53f9833da568e7d21f0", func := "phalarope/phalaropelaw10.OperApart", spec := "operApart", inPlace := ["internal/bytealg.IndexByteString"], unfollowed := true, recurses := true, apart := false, narrowed := true }
def OperApartUptoSaid : Prop := operApartUptoRow.holds Try.pinned (OpenSpec.upto operApartSpec)

/-- 'phalaropelaw10.OperSelf', WHERE WHAT IT READS IS OF BULK AT MOST 1048576: true; the input reads as it did. -/
def operSelfUptoRow : OpenClaim := { program := "ytakgimjaiplmgaa", sum := "98cae28889cdb7deae99c96ff512979e3e8c57c2726ef53f9833da568e7d21f0", func := "phalarope/phalaropelaw10.OperSelf", spec := "operSelf", inPlace := ["internal/bytealg.IndexByteString"], unfollowed := true, recurses := true, apart := false, narrowed := true }
def OperSelfUptoSaid : Prop := operSelfUptoRow.holds Try.pinned (OpenSpec.upto operSelfSpec)

/-- 'phalaropelaw10.OperKeep', WHERE WHAT IT READS IS OF BULK AT MOST 1048576: true; the input reads as it did. -/
def operKeepUptoRow : OpenClaim := { program := "ytakgimjaiplmgaa", sum := "98cae28889cdb7deae99c96ff512979e3e8c57c2726ef53f9833da568e7d21f0", func := "phalarope/phalaropelaw10.OperKeep", spec := "operKeep", inPlace := ["internal/bytealg.IndexByteString"], unfollowed := true, recurses := true, apart := false, narrowed := true }
def OperKeepUptoSaid : Prop := operKeepUptoRow.holds Try.pinned (OpenSpec.upto operKeepSpec)

end Rows
end Go.Proofs.Ytakgimjaiplmgaa
