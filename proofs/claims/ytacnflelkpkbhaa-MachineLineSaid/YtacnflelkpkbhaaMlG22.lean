/- Texts of this claim, those that nothing needs left out: Zo4. -/
import Derived.Test.YtacnflelkpkbhaaMlG20
import Derived.Test.YtacnflelkpkbhaaMlG21
section
namespace Go.Proofs.Ytacnflelkpkbhaa.PA
set_option linter.unusedSimpArgs false
set_option linter.unusedVariables false
open Go.RowKit Go.Maps Go.Proofs.YtacnflelkpkbhaaW.PrintWords Go.Proofs.YtacnflelkpkbhaaW.PrintLast Go.Proofs.YtacnflelkpkbhaaW.PrintMore
theorem nodup_sub {L : List Nat} : ∀ {M : List Nat}, L.Nodup → (∀ x ∈ L, x ∈ M) → L.length ≤ M.length := by
  induction L with
  | nil => intro M _ _; exact Nat.zero_le _
  | cons x r ih =>
    intro M hd hs
    obtain ⟨h1, h2⟩ := List.nodup_cons.1 hd
    have h3 := ih (M := M.erase x) h2 (fun y hy => by
      have hne : y ≠ x := fun e => h1 (e ▸ hy)
      exact (List.mem_erase_of_ne hne).2 (hs y (List.mem_cons_of_mem _ hy)))
    have h4 := List.length_erase_of_mem (hs x (List.mem_cons_self ..))
    have h5 := List.length_pos_of_mem (hs x (List.mem_cons_self ..))
    rw [List.length_cons]
    omega
theorem closeF_eq {m : List S33} (hm : mayB m = true) (ts : List Int) : closeF m ts = listF (addAll m [] ts) := by unfold closeF; rw [if_pos hm]
end Go.Proofs.Ytacnflelkpkbhaa.PA
end
