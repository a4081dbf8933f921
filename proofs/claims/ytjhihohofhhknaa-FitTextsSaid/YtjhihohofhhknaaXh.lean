/- schema.Has and what it calls. -/
import Derived.Test.YtjhihohofhhknaaXd
import Derived.Test.YtjhihohofhhknaaYh
namespace Go.Proofs.Ytjhihohofhhknaa.X
set_option linter.unusedSimpArgs false
set_option linter.unusedVariables false
open Go.RowKit Go.Proofs.YtjhihohofhhknaaW.PrintWords Go.Proofs.Ytjhihohofhhknaa.Y
theorem of_dec {p : Prop} [Decidable p] (h : p) : decide p = true := decide_eq_true h
theorem of_ndec {p : Prop} [Decidable p] (h : ¬ p) : decide p = false := decide_eq_false h

set_option maxHeartbeats 800000 in
theorem within_yes (n a b : Int) (w : World) (h0 : a ≤ n) (h1 : n ≤ b) : Calls Try.prog 31 #[.int .i64 n, .int .i64 a, .int .i64 b] w fun e w' => e = .returned (.bool true) ∧ w = w' := by
  go_enter Try.func31, Try.ntmps31
  go_wp2
  go_ret
  exact ⟨rfl, rfl⟩
set_option maxHeartbeats 800000 in
theorem within_no (n a b : Int) (w : World) (h : ¬ (a ≤ n ∧ n ≤ b)) : Calls Try.prog 31 #[.int .i64 n, .int .i64 a, .int .i64 b] w fun e w' => e = .returned (.bool false) ∧ w = w' := by
  by_cases h0 : a ≤ n
  · have h1 : decide (n ≤ b) = false := decide_eq_false (by omega)
    go_enter Try.func31, Try.ntmps31
    go_wp2
    go_ret
    exact ⟨rfl, rfl⟩
  · have h1 : decide (a ≤ n) = false := decide_eq_false (by omega)
    go_enter Try.func31, Try.ntmps31
    go_wp2
    go_ret
    exact ⟨rfl, rfl⟩

end Go.Proofs.Ytjhihohofhhknaa.X
