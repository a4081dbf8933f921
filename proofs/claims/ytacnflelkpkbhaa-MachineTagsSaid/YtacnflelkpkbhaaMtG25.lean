/- Texts of this claim, those that nothing needs left out: Zo4. -/
import Derived.Test.YtacnflelkpkbhaaMtG21
import Derived.Test.YtacnflelkpkbhaaMtG24
section
namespace Go.Proofs.Ytacnflelkpkbhaa.PA
set_option linter.unusedSimpArgs false
set_option linter.unusedVariables false
open Go.RowKit Go.Maps Go.Proofs.YtacnflelkpkbhaaW.PrintWords Go.Proofs.YtacnflelkpkbhaaW.PrintLast Go.Proofs.YtacnflelkpkbhaaW.PrintMore
theorem rmay_any (l : List S46) (hl : l.length ≤ 100000) (hf : ∀ x ∈ l, okF x) {W : World} {A : Option Addr} {c : Nat} (hr : Kd.C k46 W A l.length l) (hc : l.length ≤ c) :
    Calls Try.prog 11 #[.slice A l.length c] W fun e W' => e = .returned (.bool (mayB (l.map toN))) ∧ Below W.heap.size W W' := by
  obtain ⟨r, hk⟩ := (evMay l hl (fun x hx => by have := hf x hx; exact ⟨by have := this.1; omega, by have := this.2; omega⟩)).rounds
  exact phalaroperef16_May.calls r A c l _ W hr hc hk
end Go.Proofs.Ytacnflelkpkbhaa.PA
end
