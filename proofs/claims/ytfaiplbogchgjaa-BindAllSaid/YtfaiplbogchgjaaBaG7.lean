/- Texts of this claim, those that nothing needs left out: Xyc. -/
import Derived.Test.YtfaiplbogchgjaaBaG6
section
namespace Go.Proofs.Ytfaiplbogchgjaa.X
set_option linter.unusedSimpArgs false
set_option linter.unusedVariables false
open Go.RowKit Go.Shelf Go.Maps Go.Proofs.YtfaiplbogchgjaaW.PrintWords
attribute [local go_sem] Oper.semAt_some
def bvEnc (xs : List BV) (i : Fin xs.length) : Array Value := #[.int .i64 (i.1 : Nat), xs[i.1].agg]
theorem back_stops (F : Fence) (n : Nat) (hf : F.fn 46) (hro : F.round = none) (hn : 1 ≤ n) (B0 Bs : Nat) (A : Option Addr) (c : Nat) (xs : List BV) (hx : xs.length ≤ 1000000) (w : World) (hB0 : B0 ≤ w.heap.size)
    (hbs : w.heap[Bs]? = some (.cells #[.slice A xs.length c] 22 (0, 0))) (hrow : ∀ W', Below B0 w W' → BindRow W' A xs) :
    SeqStopsK F n Try.prog 46 #[.pointer (some ⟨Bs, 0, none⟩)] (bvEnc xs) (Keeps0 B0 Bs) (fun ys => ys.map (fun i => i.1) = (List.range xs.length).reverse) (fun _ => True) xs.length w := fun l J Jx W hW hJ hJx hY h0 => by
  have hlt := blk_lt hbs
  have hW0 : Below B0 w W := hW.mono hB0
  refine (backIter_in F n hf hro hn l B0 Bs A c xs hx (fun pre W => ∃ ys : List (Fin xs.length), ys.map (fun i => i.1) = pre ∧ J ys W) (fun pre W => ∃ ys : List (Fin xs.length), Jx ys W) W (blk_below hbs hW) (fun W' hb => hrow W' (hW0.trans hb)) ?_ ⟨[], rfl, h0⟩).mono ?_
  · rintro pre i hi W1 ⟨ys, rfl, hj⟩ hl
    rw [List.length_map] at hl
    obtain ⟨fn, tmps, assign, body, hy, hR⟩ := hY ys ⟨i, hi⟩ W1 hj hl
    refine ⟨fn, tmps, assign, body, hy, hR.mono ?_⟩
    rintro e W' (⟨rfl, h1, h2⟩ | ⟨rfl, h1⟩)
    · exact .inl ⟨rfl, ⟨ys ++ [⟨i, hi⟩], by rw [List.map_append]; rfl, h1⟩, h2⟩
    · exact .inr ⟨rfl, ⟨_, h1⟩⟩
  · rintro e W' ⟨h1, ⟨ys, h2, h3⟩ | ⟨pre, ys, h2⟩⟩
    · exact ⟨h1, .inl ⟨ys, h2, h3⟩⟩
    · exact ⟨h1, .inr ⟨ys, trivial, h2⟩⟩
end Go.Proofs.Ytfaiplbogchgjaa.X
end
