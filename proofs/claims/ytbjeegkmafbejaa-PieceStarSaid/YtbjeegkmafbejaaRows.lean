/-
  No cell of these rows narrows 'for every input' (looked for: loops, veiled, ifaces, maps, wideKeys, modest, calm, conditions, laid).
  DERIVED. THE GIVEN ROWS OF THIS SEAT. 5 by the template 'for every input the law returns true; each argument reads behind the call as it read before'; 0 by the template 'total and deterministic' (their statements: YtbjeegkmafbejaaTotals.lean).
  GIVEN WITH THE SEED: the statements are not yours to turn. If you find one false, say at which input.
  Laid BY PROGRAM, IN A SANDBOX (cutbox-rows.mjs): the forced cells as the released guide's own fill.sh prints them over the translation 1e6c56d9d380c755… (all of the seat's roots in one cut). By AI agents, Wed Nov 11 2026. No macro, syntax, notation, axiom, sorry.
-/
import Derived.Test.YtbjeegkmafbejaaChecked
import GoSem.Claim
import GoSem.ClaimJoined
import GoSem.ClaimMapViews
import Derived.JoinedTies
import Derived.KernelRfl
namespace Go.Proofs.Ytbjeegkmafbejaa
/- THE CELL 'sum', in the pinned program and in every row, IS THE sha256 OF THE DUMP (.gsa) THAT YtbjeegkmafbejaaProg.lean LOADS. Nothing in Lean hashes anything: it is a label: what it is worth is what the hold of that sum in a sandbox is worth. -/
noncomputable def Try.pinned : Pinned := { name := "ytbjeegkmafbejaa", sum := "1e6c56d9d380c755aa8cef3bb455c1612f4677e5c2c1e8c81064961fe5b08aea", checked := Try.checked }
namespace Rows
def none {H : Type} : Left H := { results := [], args := [] }

/-- 'phalaropelaw11.PieceURI': WHATEVER THE INPUT: true; the input reads as it did. -/
def pieceURISpec : ChangeSpec := { name := "pieceURI", fn := fun _ => fun
  | [d1, d2, d3] => { results := [.lit (.bool true)], args := [d1, d2, d3] }
  | _ => none }
def pieceURIRow : OpenClaim := { program := "ytbjeegkmafbejaa", sum := "1e6c56d9d380c755aa8cef3bb455c1612f4677e5c2c1e8c81064961fe5b08aea", func := "phalarope/phalaropelaw11.PieceURI", spec := "pieceURI", inPlace := ["internal/bytealg.IndexByteString", "internal/abi.NoEscape", "internal/bytealg.MakeNoZero"], unfollowed := true, recurses := true, apart := false }
def PieceURISaid : Prop := pieceURIRow.holds Try.pinned (OpenSpec.ofChange pieceURISpec)

/-- ITS FALSE NEIGHBOUR: 'it returns false'. Refute it at one input. -/
def pieceURIWrong : ChangeSpec := { name := "pieceURI", fn := fun _ => fun
  | [d1, d2, d3] => { results := [.lit (.bool false)], args := [d1, d2, d3] }
  | _ => none }
def PieceURIWrongFalsely : Prop := pieceURIRow.holds Try.pinned (OpenSpec.ofChange pieceURIWrong)

/-- 'phalaropelaw11.PieceErrors': WHATEVER THE INPUT: true; the input reads as it did. -/
def pieceErrorsSpec : ChangeSpec := { name := "pieceErrors", fn := fun _ => fun
  | [d1, d2, d3] => { results := [.lit (.bool true)], args := [d1, d2, d3] }
  | _ => none }
def pieceErrorsRow : OpenClaim := { program := "ytbjeegkmafbejaa", sum := "1e6c56d9d380c755aa8cef3bb455c1612f4677e5c2c1e8c81064961fe5b08aea", func := "phalarope/phalaropelaw11.PieceErrors", spec := "pieceErrors", inPlace := ["internal/bytealg.IndexByteString", "internal/abi.NoEscape", "internal/bytealg.MakeNoZero"], unfollowed := true, recurses := true, apart := false }
def PieceErrorsSaid : Prop := pieceErrorsRow.holds Try.pinned (OpenSpec.ofChange pieceErrorsSpec)

/-- ITS FALSE NEIGHBOUR: 'it returns false'. Refute it at one input. -/
def pieceErrorsWrong : ChangeSpec := { name := "pieceErrors", fn := fun _ => fun
  | [d1, d2, d3] => { results := [.lit (.bool false)], args := [d1, d2, d3] }
  | _ => none }
def PieceErrorsWrongFalsely : Prop := pieceErrorsRow.holds Try.pinned (OpenSpec.ofChange pieceErrorsWrong)

/-- 'phalaropelaw11.PieceStar': WHATEVER THE INPUT: true; the input reads as it did. -/
def pieceStarSpec : ChangeSpec := { name := "pieceStar", fn := fun _ => fun
  | [d1, d2, d3] => { results := [.lit (.bool true)], args := [d1, d2, d3] }
  | _ => none }
def pieceStarRow : OpenClaim := { program := "ytbjeegkmafbejaa", sum := "1e6c56d9d380c755aa8cef3bb455c1612f4677e5c2c1e8c81064961fe5b08aea", func := "phalarope/phalaropelaw11.PieceStar", spec := "pieceStar", inPlace := ["internal/bytealg.IndexByteString", "internal/abi.NoEscape", "internal/bytealg.MakeNoZero"], unfollowed := true, recurses := true, apart := false }
def PieceStarSaid : Prop := pieceStarRow.holds Try.pinned (OpenSpec.ofChange pieceStarSpec)

/-- ITS FALSE NEIGHBOUR: 'it returns false'. Refute it at one input. -/
def pieceStarWrong : ChangeSpec := { name := "pieceStar", fn := fun _ => fun
  | [d1, d2, d3] => { results := [.lit (.bool false)], args := [d1, d2, d3] }
  | _ => none }
def PieceStarWrongFalsely : Prop := pieceStarRow.holds Try.pinned (OpenSpec.ofChange pieceStarWrong)

/-- 'phalaropelaw11.PieceKeeps': WHATEVER THE INPUT: true; the input reads as it did. -/
def pieceKeepsSpec : ChangeSpec := { name := "pieceKeeps", fn := fun _ => fun
  | [d1, d2] => { results := [.lit (.bool true)], args := [d1, d2] }
  | _ => none }
def pieceKeepsRow : OpenClaim := { program := "ytbjeegkmafbejaa", sum := "1e6c56d9d380c755aa8cef3bb455c1612f4677e5c2c1e8c81064961fe5b08aea", func := "phalarope/phalaropelaw11.PieceKeeps", spec := "pieceKeeps", inPlace := ["internal/bytealg.IndexByteString", "internal/abi.NoEscape", "internal/bytealg.MakeNoZero"], unfollowed := true, recurses := true, apart := false }
def PieceKeepsSaid : Prop := pieceKeepsRow.holds Try.pinned (OpenSpec.ofChange pieceKeepsSpec)

/-- ITS FALSE NEIGHBOUR: 'it returns false'. Refute it at one input. -/
def pieceKeepsWrong : ChangeSpec := { name := "pieceKeeps", fn := fun _ => fun
  | [d1, d2] => { results := [.lit (.bool false)], args := [d1, d2] }
  | _ => none }
def PieceKeepsWrongFalsely : Prop := pieceKeepsRow.holds Try.pinned (OpenSpec.ofChange pieceKeepsWrong)

/-- 'phalaropelaw11.PieceBack': WHATEVER THE INPUT: true; the input reads as it did. -/
def pieceBackSpec : ChangeSpec := { name := "pieceBack", fn := fun _ => fun
  | [d1, d2, d3] => { results := [.lit (.bool true)], args := [d1, d2, d3] }
  | _ => none }
def pieceBackRow : OpenClaim := { program := "ytbjeegkmafbejaa", sum := "1e6c56d9d380c755aa8cef3bb455c1612f4677e5c2c1e8c81064961fe5b08aea", func := "phalarope/phalaropelaw11.PieceBack", spec := "pieceBack", inPlace := ["internal/bytealg.IndexByteString", "internal/abi.NoEscape", "internal/bytealg.MakeNoZero"], unfollowed := true, recurses := true, apart := false }
def PieceBackSaid : Prop := pieceBackRow.holds Try.pinned (OpenSpec.ofChange pieceBackSpec)

/-- ITS FALSE NEIGHBOUR: 'it returns false'. Refute it at one input. -/
def pieceBackWrong : ChangeSpec := { name := "pieceBack", fn := fun _ => fun
  | [d1, d2, d3] => { results := [.lit (.bool false)], args := [d1, d2, d3] }
  | _ => none }
def PieceBackWrongFalsely : Prop := pieceBackRow.holds Try.pinned (OpenSpec.ofChange pieceBackWrong)

/- THE SECOND FORM. 'bulk': how many values and letters a reading holds, each counted each time it is reached (what is shared counts as often as it is met; a slice's spare places count too). A statement '..UptoSaid' is the law's where the arguments, and the package variables that the reading takes, are together of bulk at most 1048576: NARROWER than '..Said'. Prove '..Said' where nothing that the law and all that it calls make is longer than what came in: it says more and counts as full. Else prove '..UptoSaid'. A law counts once. -/
mutual
def uptoBulk {H : Type} : DataW H → Nat
  | .lit (.string bytes) => bytes.length + 1
  | .lit _ => 1
  | .nil => 1
  | .ptr d => uptoBulk d + 1
  | .slice elems spare => uptoBulkAll elems + uptoBulkAll spare + 1
  | .agg parts => uptoBulkAll parts + 1
  | .iface _ d => uptoBulk d + 1
  | .map entries => uptoBulkEntries entries + 1
  | .held _ => 1
def uptoBulkAll {H : Type} : List (DataW H) → Nat
  | [] => 0
  | d :: r => uptoBulk d + uptoBulkAll r
def uptoBulkEntries {H : Type} : List (Lit × DataW H) → Nat
  | [] => 0
  | x :: r => uptoBulkEntry x + uptoBulkEntries r
def uptoBulkEntry {H : Type} : Lit × DataW H → Nat
  | (.string bytes, d) => bytes.length + uptoBulk d + 1
  | (_, d) => uptoBulk d + 1
 end
def uptoSmall : (H : Type) → List (DataW H) → Bool := fun _ ds => decide (uptoBulkAll ds ≤ 1048576)
def OpenSpec.upto (s : _root_.Go.ChangeSpec) : _root_.Go.OpenSpec := { _root_.Go.OpenSpec.ofChange s with cond := some uptoSmall }

/-- 'phalaropelaw11.PieceURI', WHERE WHAT IT READS IS OF BULK AT MOST 1048576: true; the input reads as it did. -/
def pieceURIUptoRow : OpenClaim := { program := "ytbjeegkmafbejaa", sum := "1e6c56d9d380c755aa8cef3bb455c1612f4677e5c2c1e8c81064961fe5b08aea", func := "phalarope/phalaropelaw11.PieceURI", spec := "pieceURI", inPlace := ["internal/bytealg.IndexByteString", "internal/abi.NoEscape", "internal/bytealg.MakeNoZero"], unfollowed := true, recurses := true, apart := false, narrowed := true }
def PieceURIUptoSaid : Prop := pieceURIUptoRow.holds Try.pinned (OpenSpec.upto pieceURISpec)

/-- 'phalaropelaw11.PieceErrors', WHERE WHAT IT READS IS OF BULK AT MOST 1048576: true; the input reads as it did. -/
def pieceErrorsUptoRow : OpenClaim := { program := "ytbjeegkmafbejaa", sum := "1e6c56d9d380c755aa8cef3bb455c1612f4677e5c2c1e8c81064961fe5b08aea", func := "phalarope/phalaropelaw11.PieceErrors", spec := "pieceErrors", inPlace := ["internal/bytealg.IndexByteString", "internal/abi.NoEscape", "internal/bytealg.MakeNoZero"], unfollowed := true, recurses := true, apart := false, narrowed := true }
def PieceErrorsUptoSaid : Prop := pieceErrorsUptoRow.holds Try.pinned (OpenSpec.upto pieceErrorsSpec)

/-- 'phalaropelaw11.PieceStar', WHERE WHAT IT READS IS OF BULK AT MOST 1048576: true; the input reads as it did. -/
def pieceStarUptoRow : OpenClaim := { program := "ytbjeegkmafbejaa", sum := "1e6c56d9d380c755aa8cef3bb455c1612f4677e5c2c1e8c81064961fe5b08aea", func := "phalarope/phalaropelaw11.PieceStar", spec := "pieceStar", inPlace := ["internal/bytealg.IndexByteString", "internal/abi.NoEscape", "internal/bytealg.MakeNoZero"], unfollowed := true, recurses := true, apart := false, narrowed := true }
def PieceStarUptoSaid : Prop := pieceStarUptoRow.holds Try.pinned (OpenSpec.upto pieceStarSpec)

/-- 'phalaropelaw11.PieceKeeps', WHERE WHAT IT READS IS OF BULK AT MOST 1048576: true; the input reads as it did. -/
def pieceKeepsUptoRow : OpenClaim := { program := "ytbjeegkmafbejaa", sum := "1e6c56d9d380c755aa8cef3bb455c1612f4677e5c2c1e8c81064961fe5b08aea", func := "phalarope/phalaropelaw11.PieceKeeps", spec := "pieceKeeps", inPlace := ["internal/bytealg.IndexByteString", "internal/abi.NoEscape", "internal/bytealg.MakeNoZero"], unfollowed := true, recurses := true, apart := false, narrowed := true }
def PieceKeepsUptoSaid : Prop := pieceKeepsUptoRow.holds Try.pinned (OpenSpec.upto pieceKeepsSpec)

/-- 'phalaropelaw11.PieceBack', WHERE WHAT IT READS IS OF BULK AT MOST 1048576: true; the input reads as it did. -/
def pieceBackUptoRow : OpenClaim := { program := "ytbjeegkmafbejaa", sum := "1e6c56d9d380c755aa8cef3bb455c1612f4677e5c2c1e8c81064961fe5b08aea", func := "phalarope/phalaropelaw11.PieceBack", spec := "pieceBack", inPlace := ["internal/bytealg.IndexByteString", "internal/abi.NoEscape", "internal/bytealg.MakeNoZero"], unfollowed := true, recurses := true, apart := false, narrowed := true }
def PieceBackUptoSaid : Prop := pieceBackUptoRow.holds Try.pinned (OpenSpec.upto pieceBackSpec)

end Rows
end Go.Proofs.Ytbjeegkmafbejaa
