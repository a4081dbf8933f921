/- Variables in expressions, told there and back. No program. -/
import Derived.Test.YthllgnephigfkaaDoorEeYt
namespace Go.Proofs.YthllgnephigfkaaDoor.Y
set_option linter.unusedSimpArgs false
set_option linter.unusedVariables false
open Go.RowKit
theorem tv_n (s : ByteArray) : (takV s).2.2.2.1 = (takN s : Int) := by
  unfold takV
  split
  · rename_i h; unfold takN; rw [if_pos h]
  · rfl
theorem size_append' (a b : ByteArray) : (a ++ b).size = a.size + b.size := ByteArray.size_append
theorem name_pos {nm : ByteArray} (h : nameMay nm = true) : 0 < nm.size := by unfold nameMay at h; simp at h; exact h.1
theorem name_end (nm r : ByteArray) (h : nameMay nm = true) (hr : liveL nS 1 (bs r) = 0) : endN (nm ++ r) = nm.size := by
  have hf := (nameMay_iff nm).1 h
  have hp := name_pos h
  have hl := bs_length nm
  have hlive : badN (nm ++ r) = nm.size := by
    rw [badN_live, bs_append, live_append nS nS_dead _ _ 0 (by decide) (by rw [hf]; decide), hf, hr, hl]; rfl
  have htake : (bs (nm ++ r)).take nm.size = bs nm := by rw [bs_append, ← hl, List.take_left]
  rcases endN_ways (nm ++ r) with ⟨_, h2⟩ | ⟨_, h2, _, h4⟩
  · exact absurd (by rw [htake, hf]) (h2 nm.size hp (by rw [← badN_live, hlive]; exact Nat.le_refl _))
  · rcases Nat.lt_or_ge (endN (nm ++ r)) nm.size with hlt | hge
    · exact absurd (by rw [htake, hf]) (h4 nm.size hlt (by omega))
    · omega
theorem name_take (nm r : ByteArray) (h : nameMay nm = true) (hr : liveL nS 1 (bs r) = 0) :
    takV (nm ++ r) = if (behN (bs r)).2 = true then (nm, (match bs r with | [] => (0, false) | c :: l => if c = 42 then (0, true) else if c = 58 then (numL (l.take (figL 7 l)), false) else (0, false) : Int × Bool).1, (match bs r with | [] => (0, false) | c :: l => if c = 42 then (0, true) else if c = 58 then (numL (l.take (figL 7 l)), false) else (0, false) : Int × Bool).2, ((nm ++ r).size : Int), 0)
      else (⟨#[]⟩, 0, false, ((nm.size + (behN (bs r)).1 : Nat) : Int), 2) := by
  have he := name_end nm r h hr
  have hp := name_pos h
  have hd : (bs (nm ++ r)).drop nm.size = bs r := by rw [bs_append, ← bs_length nm, List.drop_left]
  have hx : (nm ++ r).extract 0 nm.size = nm := bs_inj (by rw [bs_take, bs_append, ← bs_length nm, List.take_left])
  have hok : okS (nm ++ r) = (behN (bs r)).2 := by unfold okS; rw [he, hd, decide_eq_true hp, Bool.true_and]
  have hlive : badN (nm ++ r) = nm.size := by
    rw [badN_live, bs_append, live_append nS nS_dead _ _ 0 (by decide) (by rw [(nameMay_iff nm).1 h]; decide), (nameMay_iff nm).1 h, hr, bs_length]; rfl
  unfold takV
  rw [hok]
  by_cases ho : (behN (bs r)).2 = true
  · rw [if_pos ho, if_pos ho, he, hx]
    unfold behV
    rw [he, hd]
    rfl
  · have hn : takN (nm ++ r) = nm.size + (behN (bs r)).1 := by
      unfold takN
      rw [hok, if_neg ho, he, hd, if_neg (by omega), hlive]; omega
    rw [if_neg ho, if_neg ho, hn]
end Go.Proofs.YthllgnephigfkaaDoor.Y
