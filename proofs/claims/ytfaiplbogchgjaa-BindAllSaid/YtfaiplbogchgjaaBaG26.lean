/- Texts of this claim, those that nothing needs left out: Xyn. -/
import Derived.Laws.CopyRow
import Derived.Lib.AppendZerosOnto
import Derived.Lib.Overlaps
import Derived.Shelf.Spec.SlicesInsert
import Derived.Test.YtfaiplbogchgjaaBaG12
section
namespace Go.Proofs.Ytfaiplbogchgjaa.X
set_option linter.unusedSimpArgs false
set_option linter.unusedVariables false
open Go.RowKit Go.Shelf Go.Maps Go.Lib Go.Proofs.YtfaiplbogchgjaaW.PrintWords
theorem run_copy_rowN {P : Program} (w : World) (dT sT ty elem : TypeId) (sz g o dLen dCap : Nat) (a : Addr) (sLen sCap : Nat) (cur : Array Value) (t : TypeId) (cs : List Value)
    (hu : P.underlying dT = some (.slice elem)) (hs : (P.info? elem).map (·.size) = some sz)
    (hg : w.heap[g]? = some (.cells cur t (0, 0))) (hn : cs.length = Nat.min sLen dLen * sz)
    (hsrc : ∀ j v, cs[j]? = some v → w.cell? (a.add j) = some v) (hfit : o + cs.length ≤ cur.size) (h1 : ∀ v ∈ cs, v.oneCell' = true) :
    (Builtin.copy_ #[dT, sT] ty #[.slice (some ⟨g, o, none⟩) dLen dCap, .slice (some a) sLen sCap]).run P w =
      .ok (goInt (Nat.min sLen dLen)) (w.setRow g (cur.toList.take o ++ cs ++ cur.toList.drop (o + cs.length)).toArray) := by
  have hl := run_loadCells_list (P := P) w a cs hsrc
  have hst := run_storeCells_at P g o t cs 0 cur w hg (by simpa using hfit) h1
  cases hq : P.info? elem with
  | none => simp [hq] at hs
  | some i =>
    have hi : i.size = sz := by simpa [hq] using hs
    rw [hn] at hl
    simp [Builtin.copy_, run_underlying hu, Builtin.lenOf, Builtin.firstCells, sizeOf, typeInfo, hq, hi, hl, hst]
theorem bindI : (Try.prog.info? 38).map (fun i => (i.zero, i.size, i.bytes)) = some (some (.agg #[(.string ⟨#[]⟩), (.int .i64 0), (.string ⟨#[]⟩), (.slice none 0 0), (.slice none 0 0)]), 5, 88) := by kernel_rfl
set_option maxHeartbeats 8000000 in
set_option maxRecDepth 100000 in
/-- Into none: the one alone. -/
theorem insert_none (base : Nat) (A : Option Addr) (c : Nat) (vs : List Value) (w : World) (hown : w.ownsRow base 38 5 (.slice A 0 c) 0 []) (hbase : base ≤ w.heap.size) (vb : Nat) (hv : w.heap[vb]? = some (.cells vs.toArray 38 (0, 0))) (hvl : vs.length = 5) (h1v : ∀ v ∈ vs, v.oneCell' = true)
    (w0 : World) (hb : Below base w0 w) :
    Calls Try.prog 33 #[.slice A 0 c, .int .i64 0, .slice (some ⟨vb, 0, none⟩) 1 1] w fun e w' => ∃ s', e = .returned s' ∧ w'.ownsRow base 38 5 s' 1 vs ∧ Below base w0 w' := by
  obtain ⟨i0, hi, hz0, hz1, hz2⟩ := info_parts bindI
  obtain ⟨v', w', hrun, q1, q2, q3⟩ := run_append_own (P := Try.prog) w base 22 22 38 i0 (.agg #[(.string ⟨#[]⟩), (.int .i64 0), (.string ⟨#[]⟩), (.slice none 0 0), (.slice none 0 0)]) 5 88 Try.underlying22 hi hz0 hz1 hz2 rfl (by decide) (.slice A 0 c) 0 []
    hown ⟨vb, 0, none⟩ 1 1 vs (by rw [hvl]) (fun j u hj => by
      have := blk_cell hv j
      rw [show Addr.add ⟨vb, 0, none⟩ j = ⟨vb, j, none⟩ from by cases j <;> simp [Addr.add]]
      rw [this]; simpa using hj) h1v (by unfold maxLen; omega) (by omega) hbase
  have HQ := Aside0.mk q1
  have HF := Aside0.mk (hb.grown q2 hbase (fun j e => by
    rcases hown.2 with ⟨h, _⟩ | ⟨g, cap, cur, h, hg, _⟩
    · rw [h] at e; simp [Value.ownBlock] at e
    · rw [h] at e
      have : g = j := by simpa [Value.ownBlock] using e
      omega))
  clear q1 q2 q3 hb
  have HO := Aside0.mk hown
  clear hown
  rcases A with _ | ad
  · go_enter Try.func33, Try.ntmps33
    go_wp2_with (at_builtin; refine Lib.wpList_append_run _ rfl _ _ _ _ rfl _ _ rfl rfl _ _ hrun ?_)
    go_ret
    exact ⟨_, rfl, by simpa using HQ.out, HF.out⟩
  · go_enter Try.func33, Try.ntmps33
    go_wp2_with (at_builtin; refine Lib.wpList_append_run _ rfl _ _ _ _ rfl _ _ rfl rfl _ _ hrun ?_)
    all_goals (go_ret; exact ⟨_, rfl, by simpa using HQ.out, HF.out⟩)
end Go.Proofs.Ytfaiplbogchgjaa.X
end
