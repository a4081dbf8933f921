/- utf.Valid, and value.Valid's closure. -/
import Derived.Test.YtbjeegkmafbejaaXbg
namespace Go.Proofs.Ytbjeegkmafbejaa.X
set_option linter.unusedSimpArgs false
set_option linter.unusedVariables false
open Go.RowKit Go.Proofs.YtbjeegkmafbejaaW.PrintWords Go.Proofs.YtbjeegkmafbejaaW.PrintLast Go.Proofs.YtbjeegkmafbejaaW.PrintMore Go.Proofs.Ytbjeegkmafbejaa.Y Go.Joins
theorem valid_eq (s : ByteArray) : ((badPos s : Int) == (s.size : Int)) = validS s := by
  have := badPos_le s
  unfold validS
  rw [Bool.eq_iff_iff]
  simp
  omega
theorem utfValid_any (s : ByteArray) (w : World) (hs : s.size ≤ 1000000) : Calls Try.prog 50 #[.string s] w fun e w' => e = .returned (.bool (validS s)) ∧ Below w.heap.size w w' := by
  go_enter Try.func50, Try.ntmps50
  go_wp2_with fail
  refine (utfBad_any s _ hs).mono ?_
  rintro e w1 ⟨rfl, hb⟩
  have HB := Aside0.mk hb
  clear hb
  go_wp2_with fail
  go_ret
  exact ⟨by rw [← valid_eq]; rfl, HB.out⟩
theorem enters_Valid1 (args : Array Value) (w : World) : (callFunc 49 args).run Try.prog w = .ok (.enter 49 args) w := enters_of Try.func49 (by kernel_rfl) rfl args w
theorem Valid1_tells (w : World) (l : List ByteArray) (hl : ∀ s ∈ l, s.size ≤ 1000000) : Tells Try.prog 49 #[] w Value.string l (fun s => !validS s) := by
  refine ⟨enters_Valid1, fun s W hb hs => ?_⟩
  show Calls Try.prog 49 #[.string s] W _
  have HS := Aside0.mk (hl s hs)
  clear hl hs
  go_enter Try.func49, Try.ntmps49
  go_wp2_with fail
  refine (utfValid_any s _ HS.out).mono ?_
  rintro e w1 ⟨rfl, hb1⟩
  have HB := Aside0.mk hb1
  clear hb1
  go_wp2_with fail
  go_ret
  exact ⟨rfl, HB.out⟩
end Go.Proofs.Ytbjeegkmafbejaa.X
