/-
  DERIVED. GIVEN WITH THE SEED: THE CARDS: each row of YthllgnephigfkaaDoorRows.lean that lists a variable, with what it lists TIED to the program's text (the seventh form; the later family's looks); each row that meets fmt, with fmt's text TOLD by the authors' own Lean function (tested against real Go, not proved from fmt's source: count such statements apart). THE CARD IS WHAT COUNTS. Prove the row's statement (the work); the ties are given (YthllgnephigfkaaDoorTie.lean); close each card by the builder's one call (the guide's Derived/Test/ToyasCard.lean, 'card_holds'). Laid BY PROGRAM, IN A SANDBOX (cutbox-door.mjs). By AI agents, Wed Nov 11 2026. No macro, syntax, notation, axiom, sorry.
-/
import Derived.Test.YthllgnephigfkaaDoorRows
import GoSem.ClaimSeven
namespace Go.Proofs.YthllgnephigfkaaDoor
namespace Rows

/-- THE TIED CARD OF 'phalaropelaw06.SpecTells'. -/
def specTellsCard : Claim7 := { stood := { row := specTellsRow, standIns := [], harness := (true, "b2e76b16efbf77c85fb43e99a7eb3a88b9fc2ec1c0a25e235107c6c21b4c0594"), looks := true }, kinds := [], alts := [], laidByText := true, laidKinds := [.data, .data, .data, .sentinel, .sentinel], laidTests := true, laidLooks := .later }
def SpecTellsCardSaid : Prop := Claim7.holds Tryd.pinned (.plain (OpenSpec.ofChange specTellsSpec)) specTellsCard

/-- THE TIED CARD OF 'phalaropelaw06.SpecBack'. -/
def specBackCard : Claim7 := { stood := { row := specBackRow, standIns := [], harness := (true, "b2e76b16efbf77c85fb43e99a7eb3a88b9fc2ec1c0a25e235107c6c21b4c0594"), looks := true }, kinds := [], alts := [], laidByText := true, laidKinds := [.data, .data, .data, .sentinel, .sentinel], laidTests := true, laidLooks := .later }
def SpecBackCardSaid : Prop := Claim7.holds Tryd.pinned (.plain (OpenSpec.ofChange specBackSpec)) specBackCard

/-- THE TIED CARD OF 'phalaropelaw06.SpecMax'. -/
def specMaxCard : Claim7 := { stood := { row := specMaxRow, standIns := [], harness := (true, "b2e76b16efbf77c85fb43e99a7eb3a88b9fc2ec1c0a25e235107c6c21b4c0594"), looks := true }, kinds := [], alts := [], laidByText := true, laidKinds := [.data, .data, .data, .sentinel, .sentinel], laidTests := true, laidLooks := .later }
def SpecMaxCardSaid : Prop := Claim7.holds Tryd.pinned (.plain (OpenSpec.ofChange specMaxSpec)) specMaxCard

/-- THE TIED CARD OF 'phalaropelaw06.SpecBegins'. -/
def specBeginsCard : Claim7 := { stood := { row := specBeginsRow, standIns := [], harness := (true, "b2e76b16efbf77c85fb43e99a7eb3a88b9fc2ec1c0a25e235107c6c21b4c0594"), looks := true }, kinds := [], alts := [], laidByText := true, laidKinds := [.data, .data, .data, .sentinel, .sentinel], laidTests := true, laidLooks := .later }
def SpecBeginsCardSaid : Prop := Claim7.holds Tryd.pinned (.plain (OpenSpec.ofChange specBeginsSpec)) specBeginsCard

/-- THE TIED CARD OF 'phalaropelaw06.SpecEnds'. -/
def specEndsCard : Claim7 := { stood := { row := specEndsRow, standIns := [], harness := (true, "b2e76b16efbf77c85fb43e99a7eb3a88b9fc2ec1c0a25e235107c6c21b4c0594"), looks := true }, kinds := [], alts := [], laidByText := true, laidKinds := [.data, .data, .data, .sentinel, .sentinel], laidTests := true, laidLooks := .later }
def SpecEndsCardSaid : Prop := Claim7.holds Tryd.pinned (.plain (OpenSpec.ofChange specEndsSpec)) specEndsCard

/-- THE TIED CARD OF 'phalaropelaw06.SpecForms'. -/
def specFormsCard : Claim7 := { stood := { row := specFormsRow, standIns := [], harness := (true, "b2e76b16efbf77c85fb43e99a7eb3a88b9fc2ec1c0a25e235107c6c21b4c0594"), looks := true }, kinds := [], alts := [], laidByText := true, laidKinds := [.data, .data, .data, .sentinel, .sentinel], laidTests := true, laidLooks := .later }
def SpecFormsCardSaid : Prop := Claim7.holds Tryd.pinned (.plain (OpenSpec.ofChange specFormsSpec)) specFormsCard

/-- THE SECOND FORM's CARD OF 'phalaropelaw06.SpecTells'. -/
def specTellsUptoCard : Claim7 := { stood := { row := specTellsUptoRow, standIns := [], harness := (true, "b2e76b16efbf77c85fb43e99a7eb3a88b9fc2ec1c0a25e235107c6c21b4c0594"), looks := true }, kinds := [], alts := [], laidByText := true, laidKinds := [.data, .data, .data, .sentinel, .sentinel], laidTests := true, laidLooks := .later }
def SpecTellsUptoCardSaid : Prop := Claim7.holds Tryd.pinned (.plain (OpenSpec.upto specTellsSpec)) specTellsUptoCard

/-- THE SECOND FORM's CARD OF 'phalaropelaw06.SpecBack'. -/
def specBackUptoCard : Claim7 := { stood := { row := specBackUptoRow, standIns := [], harness := (true, "b2e76b16efbf77c85fb43e99a7eb3a88b9fc2ec1c0a25e235107c6c21b4c0594"), looks := true }, kinds := [], alts := [], laidByText := true, laidKinds := [.data, .data, .data, .sentinel, .sentinel], laidTests := true, laidLooks := .later }
def SpecBackUptoCardSaid : Prop := Claim7.holds Tryd.pinned (.plain (OpenSpec.upto specBackSpec)) specBackUptoCard

/-- THE SECOND FORM's CARD OF 'phalaropelaw06.SpecMax'. -/
def specMaxUptoCard : Claim7 := { stood := { row := specMaxUptoRow, standIns := [], harness := (true, "b2e76b16efbf77c85fb43e99a7eb3a88b9fc2ec1c0a25e235107c6c21b4c0594"), looks := true }, kinds := [], alts := [], laidByText := true, laidKinds := [.data, .data, .data, .sentinel, .sentinel], laidTests := true, laidLooks := .later }
def SpecMaxUptoCardSaid : Prop := Claim7.holds Tryd.pinned (.plain (OpenSpec.upto specMaxSpec)) specMaxUptoCard

/-- THE SECOND FORM's CARD OF 'phalaropelaw06.SpecBegins'. -/
def specBeginsUptoCard : Claim7 := { stood := { row := specBeginsUptoRow, standIns := [], harness := (true, "b2e76b16efbf77c85fb43e99a7eb3a88b9fc2ec1c0a25e235107c6c21b4c0594"), looks := true }, kinds := [], alts := [], laidByText := true, laidKinds := [.data, .data, .data, .sentinel, .sentinel], laidTests := true, laidLooks := .later }
def SpecBeginsUptoCardSaid : Prop := Claim7.holds Tryd.pinned (.plain (OpenSpec.upto specBeginsSpec)) specBeginsUptoCard

/-- THE SECOND FORM's CARD OF 'phalaropelaw06.SpecEnds'. -/
def specEndsUptoCard : Claim7 := { stood := { row := specEndsUptoRow, standIns := [], harness := (true, "b2e76b16efbf77c85fb43e99a7eb3a88b9fc2ec1c0a25e235107c6c21b4c0594"), looks := true }, kinds := [], alts := [], laidByText := true, laidKinds := [.data, .data, .data, .sentinel, .sentinel], laidTests := true, laidLooks := .later }
def SpecEndsUptoCardSaid : Prop := Claim7.holds Tryd.pinned (.plain (OpenSpec.upto specEndsSpec)) specEndsUptoCard

/-- THE SECOND FORM's CARD OF 'phalaropelaw06.SpecForms'. -/
def specFormsUptoCard : Claim7 := { stood := { row := specFormsUptoRow, standIns := [], harness := (true, "b2e76b16efbf77c85fb43e99a7eb3a88b9fc2ec1c0a25e235107c6c21b4c0594"), looks := true }, kinds := [], alts := [], laidByText := true, laidKinds := [.data, .data, .data, .sentinel, .sentinel], laidTests := true, laidLooks := .later }
def SpecFormsUptoCardSaid : Prop := Claim7.holds Tryd.pinned (.plain (OpenSpec.upto specFormsSpec)) specFormsUptoCard
end Rows
end Go.Proofs.YthllgnephigfkaaDoor
