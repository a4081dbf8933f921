/- The reserved bytes: chars.Reserved. -/
import Derived.Test.YtbjeegkmafbejaaXd
namespace Go.Proofs.Ytbjeegkmafbejaa.X
set_option linter.unusedSimpArgs false
set_option linter.unusedVariables false
open Go.RowKit Go.Proofs.YtbjeegkmafbejaaW.PrintWords Go.Proofs.Ytbjeegkmafbejaa.Y
def reservedSet : Set4 := listSet [58, 47, 63, 35, 91, 93, 64, 33, 36, 38, 39, 40, 41, 42, 43, 44, 59, 61]
set_option maxHeartbeats 800000 in
theorem reserved_any (w : World) : Calls Try.prog 63 #[] w fun e w' => e = .returned reservedSet.val ∧ Below w.heap.size w w' := by
  go_enter Try.func63, Try.ntmps63
  go_wp2_with fail
  refine (of_any ⟨#[58, 47, 63, 35, 91, 93, 64, 33, 36, 38, 39, 40, 41, 42, 43, 44, 59, 61]⟩ _ (by decide)).mono ?_
  rintro e w1 ⟨rfl, hb1⟩
  have hr := blk_below (blk_new w _) hb1
  obtain ⟨r0, r1, r2, r3, f0, f1, f2, f3⟩ := cells4 hr
  have HB := Aside0.mk ((below_new1 w _).trans (hb1.mono (Nat.le_of_lt (by simp))))
  clear hr hb1
  unfold Set4.val
  go_wp2_with fail
  refine bodyPost_ret (v := reservedSet.val) (by simp [results, Try.results63, go_sem, Set4.val, r0, r1, r2, r3, reservedSet]) rfl ⟨rfl, ?_⟩
  repeat (first | exact HB.out | refine below_set ?_ (Nat.le_refl _))
/-- Which bytes stay as they are. -/
def staySet (keep : Bool) : Set4 := if keep = true then orAll [unreservedSet, reservedSet] else unreservedSet
end Go.Proofs.Ytbjeegkmafbejaa.X
