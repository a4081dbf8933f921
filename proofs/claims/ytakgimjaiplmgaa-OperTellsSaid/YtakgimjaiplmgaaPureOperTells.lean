/- The law OperTells, as a statement over bytes: each byte is tried. -/
import Derived.Test.YtakgimjaiplmgaaPBx4
namespace Go.Proofs.Ytakgimjaiplmgaa.Pure
open Go.RowKit Go.Proofs.Ytakgimjaiplmgaa.PB Go.Proofs.YtakgimjaiplmgaaW.PrintWords Go.Proofs.YtakgimjaiplmgaaW.PrintLast
theorem OperTells_byte {a0 : Int} (hw : (Lit.int .u8 a0).wf = true) : ∃ n : Fin 256, a0 = (n.1 : Int) := by
  have hw : (decide (IntKind.u8.min ≤ a0) && decide (a0 ≤ IntKind.u8.max)) = true := hw
  rw [show IntKind.u8.min = 0 from by decide, show IntKind.u8.max = 255 from by decide, Bool.and_eq_true, decide_eq_true_eq, decide_eq_true_eq] at hw
  exact ⟨⟨a0.toNat, by omega⟩, by show a0 = (a0.toNat : Int); omega⟩
theorem OperTells_all : ∀ n : Fin 256, phalaropelaw10_OperTells.f (n.1 : Int) = some true := by decide +kernel
theorem OperTells : phalaropelaw10_OperTells.Pure := by
  intro a0 hw
  obtain ⟨n, rfl⟩ := OperTells_byte hw
  exact OperTells_all n
end Go.Proofs.Ytakgimjaiplmgaa.Pure
