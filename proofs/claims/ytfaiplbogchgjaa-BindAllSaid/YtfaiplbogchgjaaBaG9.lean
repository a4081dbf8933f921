/- Texts of this claim, those that nothing needs left out: Xyf. -/
import Derived.Test.YtfaiplbogchgjaaBaG8
section
namespace Go.Proofs.Ytfaiplbogchgjaa.X
set_option linter.unusedSimpArgs false
set_option linter.unusedVariables false
open Go.RowKit Go.Shelf Go.Maps Go.Proofs.YtfaiplbogchgjaaW.PrintWords
attribute [local go_sem] Oper.semAt_some
def ckEnc (ad : Addr) (m : Nat) (i : Fin m) : Array Value := #[.slice (some (ad.add (2 * i.1))) 2 2]
theorem chunk_stops (F : Fence) (n : Nat) (hf : F.fn 72) (hro : F.round = none) (hn : 1 ≤ n) (B0 Bs Bn : Nat) (ad : Addr) (m N c : Nat) (hN : N = 2 * m) (hx : N ≤ 1000000) (hc : N ≤ c) (w : World) (hB0 : B0 ≤ w.heap.size)
    (hbs : w.heap[Bs]? = some (.cells #[.slice (some ad) N c] 25 (0, 0))) (hbn : w.heap[Bn]? = some (.cells #[.int .i64 2] 3 (0, 0))) :
    SeqStopsK F n Try.prog 72 #[.pointer (some ⟨Bs, 0, none⟩), .pointer (some ⟨Bn, 0, none⟩)] (ckEnc ad m) (Keeps2 B0 Bs Bn) (fun ys => ys.map (fun i => i.1) = List.range m) (fun _ => True) m w := fun l J Jx W hW hJ hJx hY h0 => by
  refine (chunkIter_in F n hf hro hn l B0 Bs Bn ad m N c hN hx hc (fun i W1 => W.heap.size ≤ W1.heap.size ∧ ∃ ys : List (Fin m), ys.map (fun i => i.1) = List.range i ∧ J ys W1) (fun pre W => ∃ ys : List (Fin m), Jx ys W) W (blk_below hbs hW) (blk_below hbn hW) ?_ ?_ ⟨Nat.le_refl _, [], rfl, h0⟩).mono ?_
  · rintro i q hi W1 rfl ⟨hs, ys, hy1, hj⟩
    obtain ⟨fn, tmps, assign, body, hy, hR⟩ := hY ys ⟨i, hi⟩ W1 hj (by have := congrArg List.length hy1; simp at this; omega)
    refine ⟨fn, tmps, assign, body, hy, hR.mono ?_⟩
    rintro e W' (⟨rfl, h1, h2⟩ | ⟨rfl, h1⟩)
    · exact .inl ⟨rfl, ⟨by have := h2.1.size; omega, ys ++ [⟨i, hi⟩], by rw [List.map_append, hy1, List.range_succ]; rfl, h1⟩, h2⟩
    · exact .inr ⟨rfl, ⟨_, h1⟩⟩
  · rintro i W1 ⟨hs, ys, hy1, hj⟩
    exact ⟨hs, ys, hy1, hJ ys W1 W1.drew none hj ⟨rfl, rfl, rfl, Nat.le_refl _, fun _ _ _ => rfl⟩ (fun r e => by cases e)⟩
  · rintro e W' ⟨h1, ⟨hs, ys, h2, h3⟩ | ⟨pre, ys, h2⟩⟩
    · exact ⟨h1, .inl ⟨ys, h2, h3⟩⟩
    · exact ⟨h1, .inr ⟨ys, trivial, h2⟩⟩
end Go.Proofs.Ytfaiplbogchgjaa.X
end
