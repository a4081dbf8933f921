-- Printed by wip/xprint.py of this claim's authors, over the kit's print; not trusted: Lean checks it.
import Derived.Test.YtaigmfkgobklbaaPBx0
import Derived.Test.YtaigmfkgobklbaaPBx4
import Derived.Test.YtaigmfkgobklbaaPBx5
namespace Go.Proofs.Ytaigmfkgobklbaa.PB
open Go.RowKit Go.Proofs.YtaigmfkgobklbaaW.PrintWords Go.Proofs.YtaigmfkgobklbaaW.PrintLast Go.Proofs.YtaigmfkgobklbaaW.PrintMore
attribute [local go_sem] max2_int min2_int max_two min_two max_three min_three max_four min_four   -- for this text's walks alone
set_option linter.unusedVariables false
set_option linter.unusedSimpArgs false

/-! ### phalaropelaw14_awake: function 7 (ours) -/
theorem aw_in1 : schema_In.f ⟨#[]⟩ 1 false 1 0 1 ⟨#[49, 50]⟩ [] [] = some true := by decide +kernel
theorem aw_in2 : schema_In.f ⟨#[]⟩ 1 false 3 0 1 ⟨#[37, 52, 49]⟩ [] [] = some false := by decide +kernel
theorem aw_has : schema_Has.f 4 233 = some true := by decide +kernel
theorem aw_in3 : schema_In.f ⟨#[]⟩ 1 false 4 1 1 ⟨#[49, 50]⟩ [] [] = some false := by decide +kernel
def phalaropelaw14_awake.f  : Option (Bool) := some true
set_option maxHeartbeats 8000000 in
set_option maxRecDepth 100000 in
theorem phalaropelaw14_awake.calls  (r : Bool) (w : World) (h : phalaropelaw14_awake.f  = some r) :
    Calls Try.prog 7 #[] w fun e w' => e = .returned (.bool r) ∧ Below w.heap.size w w' := by
  obtain rfl := Option.some.inj h
  clear h
  go_enter Try.func7, Try.ntmps7
  go_wp2_with fail
  refine (schema_In.calls ⟨#[]⟩ 1 false 1 0 1 ⟨#[49, 50]⟩ none 0 [] none 0 [] true _ (X.C_nil _ _) (Nat.le_refl _) (X.C_nil _ _) (Nat.le_refl _) aw_in1).mono ?_
  rintro e w1 ⟨rfl, hb⟩
  have B1 := Aside0.mk (blk_below (blk_alloc (blk_new w _) _) hb)
  have B2 := blk_below (X.blk_new2 w _ _) hb
  have HB := Aside0.mk (below_step (w := w) (X.below_new2 w _ _) hb)
  obtain ⟨c0, c1, c2, c3, _⟩ := X.cells4 B2
  clear hb B2
  go_wp2_with fail
  refine (schema_In.calls ⟨#[]⟩ 1 false 3 0 1 ⟨#[37, 52, 49]⟩ none 0 [] none 0 [] false _ (X.C_nil _ _) (Nat.le_refl _) (X.C_nil _ _) (Nat.le_refl _) aw_in2).mono ?_
  rintro e w2 ⟨rfl, hb⟩
  have B1' := Aside0.mk (blk_below B1.out hb)
  have HB2 := Aside0.mk (below_step HB.out hb)
  clear hb c0 c1 c2 c3 HB B1
  go_wp2_with fail
  refine (schema_Has.calls 4 233 true _ aw_has).mono ?_
  rintro e w3 ⟨rfl, hb⟩
  have HB3 := Aside0.mk (below_step HB2.out hb)
  obtain ⟨c0, c1, c2, c3, _⟩ := X.cells4 (blk_below B1'.out hb)
  clear hb HB2 B1'
  go_wp2_with fail
  refine (schema_In.calls ⟨#[]⟩ 1 false 4 1 1 ⟨#[49, 50]⟩ none 0 [] none 0 [] false _ (X.C_nil _ _) (Nat.le_refl _) (X.C_nil _ _) (Nat.le_refl _) aw_in3).mono ?_
  rintro e w4 ⟨rfl, hb⟩
  have HB4 := Aside0.mk (below_step HB3.out hb)
  clear hb
  go_wp2_with fail
  go_ret
  exact ⟨rfl, HB4.out⟩
end Go.Proofs.Ytaigmfkgobklbaa.PB
