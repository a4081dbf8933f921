/-
  No cell of these rows narrows 'for every input' (looked for: loops, veiled, ifaces, maps, wideKeys, modest, calm, conditions, laid).
  DERIVED. THE GIVEN ROWS OF THIS SEAT. 5 by the template 'for every input the law returns true; each argument reads behind the call as it read before'; 0 by the template 'total and deterministic' (their statements: YtecpjfipkejmoaaTotals.lean).
  GIVEN WITH THE SEED: the statements are not yours to turn. If you find one false, say at which input.
  Laid BY PROGRAM, IN A SANDBOX (cutbox-rows.mjs): the forced cells as the released guide's own fill.sh prints them over the translation 47089f18f7c88015… (all of the seat's roots in one cut). By AI agents, Wed Nov 11 2026. No macro, syntax, notation, axiom, sorry.
-/
import Derived.Test.YtecpjfipkejmoaaChecked
import GoSem.Claim
import GoSem.ClaimJoined
import GoSem.ClaimMapViews
import Derived.JoinedTies
import Derived.KernelRfl
namespace Go.Proofs.Ytecpjfipkejmoaa
/- THE CELL 'sum', in the pinned program and in every row, IS THE sha256 OF THE DUMP (.gsa) THAT YtecpjfipkejmoaaProg.lean LOADS. Nothing in Lean hashes anything: it is a label: what it is worth is what the hold of that sum in a sandbox is worth. -/
noncomputable def Try.pinned : Pinned := { name := "ytecpjfipkejmoaa", sum := "47089f18f7c880157d0258a8164e37b0a2b1133fa900531f52a81b343028d65a", checked := Try.checked }
namespace Rows
def none {H : Type} : Left H := { results := [], args := [] }

/-- 'phalaropelaw17.FindPlaces': WHATEVER THE INPUT: true; the input reads as it did. -/
def findPlacesSpec : ChangeSpec := { name := "findPlaces", fn := fun _ => fun
  | [d1, d2, d3] => { results := [.lit (.bool true)], args := [d1, d2, d3] }
  | _ => none }
def findPlacesRow : OpenClaim := { program := "ytecpjfipkejmoaa", sum := "47089f18f7c880157d0258a8164e37b0a2b1133fa900531f52a81b343028d65a", func := "phalarope/phalaropelaw17.FindPlaces", spec := "findPlaces", unfollowed := true, recurses := true, plainKeys := false, apart := false }
def FindPlacesSaid : Prop := findPlacesRow.holds Try.pinned (OpenSpec.ofChange findPlacesSpec)

/-- ITS FALSE NEIGHBOUR: 'it returns false'. Refute it at one input. -/
def findPlacesWrong : ChangeSpec := { name := "findPlaces", fn := fun _ => fun
  | [d1, d2, d3] => { results := [.lit (.bool false)], args := [d1, d2, d3] }
  | _ => none }
def FindPlacesWrongFalsely : Prop := findPlacesRow.holds Try.pinned (OpenSpec.ofChange findPlacesWrong)

/-- 'phalaropelaw17.FindTells': WHATEVER THE INPUT: true; the input reads as it did. -/
def findTellsSpec : ChangeSpec := { name := "findTells", fn := fun _ => fun
  | [d1, d2, d3] => { results := [.lit (.bool true)], args := [d1, d2, d3] }
  | _ => none }
def findTellsRow : OpenClaim := { program := "ytecpjfipkejmoaa", sum := "47089f18f7c880157d0258a8164e37b0a2b1133fa900531f52a81b343028d65a", func := "phalarope/phalaropelaw17.FindTells", spec := "findTells", unfollowed := true, recurses := true, plainKeys := false, apart := false }
def FindTellsSaid : Prop := findTellsRow.holds Try.pinned (OpenSpec.ofChange findTellsSpec)

/-- ITS FALSE NEIGHBOUR: 'it returns false'. Refute it at one input. -/
def findTellsWrong : ChangeSpec := { name := "findTells", fn := fun _ => fun
  | [d1, d2, d3] => { results := [.lit (.bool false)], args := [d1, d2, d3] }
  | _ => none }
def FindTellsWrongFalsely : Prop := findTellsRow.holds Try.pinned (OpenSpec.ofChange findTellsWrong)

/-- 'phalaropelaw17.FindNobody': WHATEVER THE INPUT: true; the input reads as it did. -/
def findNobodySpec : ChangeSpec := { name := "findNobody", fn := fun _ => fun
  | [d1, d2, d3] => { results := [.lit (.bool true)], args := [d1, d2, d3] }
  | _ => none }
def findNobodyRow : OpenClaim := { program := "ytecpjfipkejmoaa", sum := "47089f18f7c880157d0258a8164e37b0a2b1133fa900531f52a81b343028d65a", func := "phalarope/phalaropelaw17.FindNobody", spec := "findNobody", unfollowed := true, recurses := true, plainKeys := false, apart := false }
def FindNobodySaid : Prop := findNobodyRow.holds Try.pinned (OpenSpec.ofChange findNobodySpec)

/-- ITS FALSE NEIGHBOUR: 'it returns false'. Refute it at one input. -/
def findNobodyWrong : ChangeSpec := { name := "findNobody", fn := fun _ => fun
  | [d1, d2, d3] => { results := [.lit (.bool false)], args := [d1, d2, d3] }
  | _ => none }
def FindNobodyWrongFalsely : Prop := findNobodyRow.holds Try.pinned (OpenSpec.ofChange findNobodyWrong)

/-- 'phalaropelaw17.FindMarks': WHATEVER THE INPUT: true; the input reads as it did. -/
def findMarksSpec : ChangeSpec := { name := "findMarks", fn := fun _ => fun
  | [d1, d2] => { results := [.lit (.bool true)], args := [d1, d2] }
  | _ => none }
def findMarksRow : OpenClaim := { program := "ytecpjfipkejmoaa", sum := "47089f18f7c880157d0258a8164e37b0a2b1133fa900531f52a81b343028d65a", func := "phalarope/phalaropelaw17.FindMarks", spec := "findMarks", unfollowed := true, recurses := true, plainKeys := false, apart := false }
def FindMarksSaid : Prop := findMarksRow.holds Try.pinned (OpenSpec.ofChange findMarksSpec)

/-- ITS FALSE NEIGHBOUR: 'it returns false'. Refute it at one input. -/
def findMarksWrong : ChangeSpec := { name := "findMarks", fn := fun _ => fun
  | [d1, d2] => { results := [.lit (.bool false)], args := [d1, d2] }
  | _ => none }
def FindMarksWrongFalsely : Prop := findMarksRow.holds Try.pinned (OpenSpec.ofChange findMarksWrong)

/-- 'phalaropelaw17.FindEaten': WHATEVER THE INPUT: true; the input reads as it did. -/
def findEatenSpec : ChangeSpec := { name := "findEaten", fn := fun _ => fun
  | [d1, d2, d3] => { results := [.lit (.bool true)], args := [d1, d2, d3] }
  | _ => none }
def findEatenRow : OpenClaim := { program := "ytecpjfipkejmoaa", sum := "47089f18f7c880157d0258a8164e37b0a2b1133fa900531f52a81b343028d65a", func := "phalarope/phalaropelaw17.FindEaten", spec := "findEaten", unfollowed := true, recurses := true, plainKeys := false, apart := false }
def FindEatenSaid : Prop := findEatenRow.holds Try.pinned (OpenSpec.ofChange findEatenSpec)

/-- ITS FALSE NEIGHBOUR: 'it returns false'. Refute it at one input. -/
def findEatenWrong : ChangeSpec := { name := "findEaten", fn := fun _ => fun
  | [d1, d2, d3] => { results := [.lit (.bool false)], args := [d1, d2, d3] }
  | _ => none }
def FindEatenWrongFalsely : Prop := findEatenRow.holds Try.pinned (OpenSpec.ofChange findEatenWrong)

/- THE SECOND FORM. 'bulk': how many values and letters a reading holds, each counted each time it is reached (what is shared counts as often as it is met; a slice's spare places count too). A statement '..UptoSaid' is the law's where the arguments, and the package variables that the reading takes, are together of bulk at most 1048576: NARROWER than '..Said'. Prove '..Said' where nothing that the law and all that it calls make is longer than what came in: it says more and counts as full. Else prove '..UptoSaid'. A law counts once. -/
mutual
def uptoBulk {H : Type} : DataW H → Nat
  | .lit (.string bytes) => bytes.length + 1
  | .lit _ => 1
  | .nil => 1
  | .ptr d => uptoBulk d + 1
  | .slice elems spare => uptoBulkAll elems + uptoBulkAll spare + 1
  | .agg parts => uptoBulkAll parts + 1
  | .iface _ d => uptoBulk d + 1
  | .map entries => uptoBulkEntries entries + 1
  | .held _ => 1
def uptoBulkAll {H : Type} : List (DataW H) → Nat
  | [] => 0
  | d :: r => uptoBulk d + uptoBulkAll r
def uptoBulkEntries {H : Type} : List (Lit × DataW H) → Nat
  | [] => 0
  | x :: r => uptoBulkEntry x + uptoBulkEntries r
def uptoBulkEntry {H : Type} : Lit × DataW H → Nat
  | (.string bytes, d) => bytes.length + uptoBulk d + 1
  | (_, d) => uptoBulk d + 1
 end
def uptoSmall : (H : Type) → List (DataW H) → Bool := fun _ ds => decide (uptoBulkAll ds ≤ 1048576)
def OpenSpec.upto (s : _root_.Go.ChangeSpec) : _root_.Go.OpenSpec := { _root_.Go.OpenSpec.ofChange s with cond := some uptoSmall }

/-- 'phalaropelaw17.FindPlaces', WHERE WHAT IT READS IS OF BULK AT MOST 1048576: true; the input reads as it did. -/
def findPlacesUptoRow : OpenClaim := { program := "ytecpjfipkejmoaa", sum := "47089f18f7c880157d0258a8164e37b0a2b1133fa900531f52a81b343028d65a", func := "phalarope/phalaropelaw17.FindPlaces", spec := "findPlaces", unfollowed := true, recurses := true, plainKeys := false, apart := false, narrowed := true }
def FindPlacesUptoSaid : Prop := findPlacesUptoRow.holds Try.pinned (OpenSpec.upto findPlacesSpec)

/-- 'phalaropelaw17.FindTells', WHERE WHAT IT READS IS OF BULK AT MOST 1048576: true; the input reads as it did. -/
def findTellsUptoRow : OpenClaim := { program := "ytecpjfipkejmoaa", sum := "47089f18f7c880157d0258a8164e37b0a2b1133fa900531f52a81b343028d65a", func := "phalarope/phalaropelaw17.FindTells", spec := "findTells", unfollowed := true, recurses := true, plainKeys := false, apart := false, narrowed := true }
def FindTellsUptoSaid : Prop := findTellsUptoRow.holds Try.pinned (OpenSpec.upto findTellsSpec)

/-- 'phalaropelaw17.FindNobody', WHERE WHAT IT READS IS OF BULK AT MOST 1048576: true; the input reads as it did. -/
def findNobodyUptoRow : OpenClaim := { program := "ytecpjfipkejmoaa", sum := "47089f18f7c880157d0258a8164e37b0a2b1133fa900531f52a81b343028d65a", func := "phalarope/phalaropelaw17.FindNobody", spec := "findNobody", unfollowed := true, recurses := true, plainKeys := false, apart := false, narrowed := true }
def FindNobodyUptoSaid : Prop := findNobodyUptoRow.holds Try.pinned (OpenSpec.upto findNobodySpec)

/-- 'phalaropelaw17.FindMarks', WHERE WHAT IT READS IS OF BULK AT MOST 1048576: true; the input reads as it did. -/
def findMarksUptoRow : OpenClaim := { program := "ytecpjfipkejmoaa", sum := "47089f18f7c880157d0258a8164e37b0a2b1133fa900531f52a81b343028d65a", func := "phalarope/phalaropelaw17.FindMarks", spec := "findMarks", unfollowed := true, recurses := true, plainKeys := false, apart := false, narrowed := true }
def FindMarksUptoSaid : Prop := findMarksUptoRow.holds Try.pinned (OpenSpec.upto findMarksSpec)

/-- 'phalaropelaw17.FindEaten', WHERE WHAT IT READS IS OF BULK AT MOST 1048576: true; the input reads as it did. -/
def findEatenUptoRow : OpenClaim := { program := "ytecpjfipkejmoaa", sum := "47089f18f7c880157d0258a8164e37b0a2b1133fa900531f52a81b343028d65a", func := "phalarope/phalaropelaw17.FindEaten", spec := "findEaten", unfollowed := true, recurses := true, plainKeys := false, apart := false, narrowed := true }
def FindEatenUptoSaid : Prop := findEatenUptoRow.holds Try.pinned (OpenSpec.upto findEatenSpec)

end Rows
end Go.Proofs.Ytecpjfipkejmoaa
