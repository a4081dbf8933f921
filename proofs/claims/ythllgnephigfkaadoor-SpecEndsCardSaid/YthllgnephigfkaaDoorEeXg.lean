/- What the rows' listed variables give the walks; the heap that the program's own start leaves meets the condition. -/
import Derived.Test.YthllgnephigfkaaDoorEeXl
import Derived.Test.YthllgnephigfkaaDoorRows
import Derived.MakeChecks
import Derived.LaidMore
import Derived.Stop.LaidErr
import Derived.Lib.LaidTab
namespace Go.Proofs.YthllgnephigfkaaDoor.X
open Go.RowKit Go.ChangeShapes Go.WideShapes Go.ChangeAt
set_option maxRecDepth 100000
def laid5 : List (String × DataW Unit) := [("math/bits.deBruijn32tab", Rows.laid_math_bits_deBruijn32tab), ("math/bits.deBruijn64tab", Rows.laid_math_bits_deBruijn64tab), ("internal/strconv.uint64pow10", Rows.laid_internal_strconv_uint64pow10), ("strconv.ErrRange", Rows.laid_strconv_ErrRange), ("strconv.ErrSyntax", Rows.laid_strconv_ErrSyntax)]
theorem pow_datum : (Rows.laid_internal_strconv_uint64pow10 : DataW Unit) = Lib.tabData .u64 Lib.pow10Tab := by kernel_rfl
theorem star_str : ("*errors.errorString" : String) = "*" ++ "errors.errorString" := by kernel_rfl
theorem row_str : ∀ u, Tryd.prog.typeName? 3 u = some "*errors.errorString" → u = 96 := by
  intro u h
  exact typeName_ptr_named (nm := "errors.errorString") (by kernel_rfl) (by kernel_rfl) (by decide) u (by rw [star_str] at h; exact h)
theorem laid_Gl {W : World} (h : laidMetH Tryd.prog laid5 W) : Gl W := by
  rw [MakeChecks.laidMetH_plain _ _ _ (by kernel_rfl)] at h
  have h3 := h.tail.tail
  refine ⟨?_, ?_⟩
  · obtain ⟨a, s, hv, _⟩ := laid_sentinel (P := Tryd.prog) h3.tail.tail (by kernel_rfl) (show (Tryd.prog.globals[((Tryd.prog.globalNamed "strconv.ErrSyntax").getD 0)]?).map (·.type) = some 50 by kernel_rfl) Tryd.underlying50 row_str Tryd.underlying96 Tryd.underlying98 rfl rfl Tryd.underlying9 (by kernel_rfl) (by kernel_rfl)
    exact ⟨_, _, hv⟩
  · rw [pow_datum] at h3
    exact Lib.tabIs_of_head gTab (by kernel_rfl) Tryd.underlying88 Tryd.underlying54 (by kernel_rfl) (by kernel_rfl) h3
theorem door_met (os : Os) (args : Array Value) : laidMetH Tryd.prog laid5 ((World.doorLaid Tryd.prog 62 os).forCall (fun _ _ => 0) ⟨#[], args, []⟩).memory :=
  laidMetH_of_parts3 (fuel := 8) (laidMet_of_run' 8 (by kernel_rfl) (by kernel_rfl)) (by kernel_rfl) (by kernel_rfl)
end Go.Proofs.YthllgnephigfkaaDoor.X
