/- Texts of this claim, those that nothing needs left out: Xyd. -/
import Derived.RangeFuncNested
import Derived.Stop.RegionWithIn
import Derived.Test.YtfaiplbogchgjaaBaG7
section
namespace Go.Proofs.Ytfaiplbogchgjaa.X
set_option linter.unusedSimpArgs false
set_option linter.unusedVariables false
open Go.RowKit Go.Shelf Go.Maps Go.Proofs.YtfaiplbogchgjaaW.PrintWords
attribute [local go_sem] Oper.semAt_some
theorem cells5 {w : World} {B : Nat} {a b c d e : Value} {t : TypeId} (h : w.heap[B]? = some (.cells #[a, b, c, d, e] t (0, 0))) :
    w.cell? ⟨B, 0, none⟩ = some a ∧ w.cell? ⟨B, 1, none⟩ = some b ∧ w.cell? ⟨B, 2, none⟩ = some c ∧ w.cell? ⟨B, 3, none⟩ = some d ∧ w.cell? ⟨B, 4, none⟩ = some e := by
  refine ⟨?_, ?_, ?_, ?_, ?_⟩ <;> simp [blk_cell h]
def firstBV (l : List BV) (nm : List UInt8) : Option BV := l.find? fun x => x.nm.data.toList == nm
def Says (Ok : World → Value → BV → Prop) (df : BV → Bool) (W : World) (C : List UInt8 → Option Value) (l : List BV) : Prop :=
  ∀ nm, match firstBV l nm with
    | some x => if df x = true then ∃ v, C nm = some v ∧ Ok W v x else C nm = none
    | none => C nm = none
theorem Says.step {Ok : World → Value → BV → Prop} {W W' : World} {C : List UInt8 → Option Value} {l : List BV} {df : BV → Bool} (h : Says Ok df W C l) (hok : ∀ v x, Ok W v x → Ok W' v x) : Says Ok df W' C l := fun nm => by
  have := h nm
  cases hf : firstBV l nm with
  | none => rw [hf] at this; exact this
  | some x =>
    rw [hf] at this
    dsimp only at this ⊢
    split at this
    · rename_i hd
      rw [if_pos hd]
      obtain ⟨v, h1, h2⟩ := this
      exact ⟨v, h1, hok v x h2⟩
    · rename_i hd
      rw [if_neg hd]
      exact this
theorem Says.put {Ok : World → Value → BV → Prop} {W : World} {C : List UInt8 → Option Value} {l : List BV} {df : BV → Bool} (h : Says Ok df W C l) (x : BV) (hd : df x = true) (v : Value) (hv : Ok W v x) : Says Ok df W (fun nm => if nm = x.nm.data.toList then some v else C nm) (x :: l) := fun nm => by
  unfold firstBV
  by_cases he : nm = x.nm.data.toList
  · subst he
    rw [List.find?_cons_of_pos (by simp)]
    dsimp only
    rw [if_pos hd, if_pos rfl]
    exact ⟨v, rfl, hv⟩
  · rw [List.find?_cons_of_neg (by simpa using fun h => he h.symm)]
    dsimp only
    rw [if_neg he]
    exact h nm
theorem Says.drop {Ok : World → Value → BV → Prop} {W : World} {C : List UInt8 → Option Value} {l : List BV} {df : BV → Bool} (h : Says Ok df W C l) (x : BV) (hd : df x = false) : Says Ok df W (fun nm => if nm = x.nm.data.toList then none else C nm) (x :: l) := fun nm => by
  unfold firstBV
  by_cases he : nm = x.nm.data.toList
  · subst he
    rw [List.find?_cons_of_pos (by simp)]
    dsimp only
    rw [if_neg (by rw [hd]; decide), if_pos rfl]
  · rw [List.find?_cons_of_neg (by simpa using fun h => he h.symm)]
    dsimp only
    rw [if_neg he]
    exact h nm
theorem back_any (A : Option Addr) (m c : Nat) (w : World) : Calls Try.prog 37 #[.slice A m c] w fun e w' =>
    e = .returned (.func (.func 46) #[] #[.pointer (some ⟨w.heap.size, 0, none⟩)]) ∧ w' = w.alloc (.cells #[.slice A m c] 22) := by
  go_enter Try.func37, Try.ntmps37
  go_wp2_with fail
  go_ret
  exact ⟨rfl, rfl⟩
def AllI (Ok : World → Value → BV → Prop) (df : BV → Bool) (w : World) (xs : List BV) (ys : List (Fin xs.length)) (W : World) : Prop :=
  Below w.heap.size w W ∧ w.heap.size + 3 ≤ W.heap.size ∧ W.heap[w.heap.size + 1]? = some (.cells #[.map (some w.heap.size)] 47 (0, 0)) ∧ ∃ C, VM W w.heap.size ys.length C ∧ Says Ok df W C (ys.reverse.map fun i => xs[i.1])
def OkKept (Ok : World → Value → BV → Prop) : Prop := ∀ W W' row v x, Ok W v x → W.grownBy W' row → (∀ r, row = some r → ∃ o : Obj, W.heap[r]? = some o ∧ o.isCells = false) → Ok W' v x
theorem VM.obj {w : World} {b n : Nat} {C : List UInt8 → Option Value} (h : VM w b n C) : ∃ o : Obj, w.heap[b]? = some o ∧ o.isCells = false := by
  obtain ⟨D, ⟨es, cl, hb, _⟩, _⟩ := h
  exact ⟨_, hb, rfl⟩
theorem AllI.grown {Ok : World → Value → BV → Prop} {df : BV → Bool} {w : World} {xs : List BV} {ys : List (Fin xs.length)} {W W' : World} (hOk : OkKept Ok) (h : AllI Ok df w xs ys W) {row : Option Nat} (hg : W.grownBy W' row)
    (hr : ∀ r, row = some r → w.heap.size + 2 < r ∧ ∃ o : Obj, W.heap[r]? = some o ∧ o.isCells = false) : AllI Ok df w xs ys W' := by
  obtain ⟨hb, h3, hbx, C, hv, hs⟩ := h
  exact ⟨hb.grown hg (by omega) (fun k e => by have := (hr k e).1; omega), Nat.le_trans h3 hg.size, (hg.block _ (by omega) (fun e => by have := (hr _ e.symm).1; omega)).trans hbx, C, hv.grown hg (fun e => by have := (hr _ e.symm).1; omega), hs.step (fun v x h => hOk W W' row v x h hg (fun r e => (hr r e).2))⟩
theorem AllI.turn {Ok : World → Value → BV → Prop} {df : BV → Bool} {w : World} {xs : List BV} {ys zs : List (Fin xs.length)} {W W' : World} (h : AllI Ok df w xs ys W) {C' : List UInt8 → Option Value} (hg : W.grownBy W' (some w.heap.size))
    (hv : VM W' w.heap.size zs.length C') (hs : Says Ok df W' C' (zs.reverse.map fun i => xs[i.1])) : AllI Ok df w xs zs W' := by
  obtain ⟨hb, h3, hbx, C, _, _⟩ := h
  exact ⟨hb.grown hg (by omega) (fun k e => by cases e; omega), Nat.le_trans h3 hg.size, (hg.block _ (by omega) (fun e => by injection e with e; omega)).trans hbx, C', hv, hs⟩
theorem keeps0_grown {B0 Bs : Nat} {W W' : World} {row : Option Nat} (hg : W.grownBy W' row) (hB : B0 ≤ W.heap.size) (hs : Bs < W.heap.size) (hr : ∀ r, row = some r → B0 ≤ r ∧ r ≠ Bs) : Keeps0 B0 Bs W W' :=
  ⟨(Below.refl _ _).grown hg hB (fun k e => (hr k e).1), hg.block _ hs (fun e => (hr _ e.symm).2 rfl)⟩
theorem Keeps0.trans' {B0 Bs : Nat} {X Y Z : World} (h : Keeps0 B0 Bs X Y) (k : Keeps0 B0 Bs Y Z) : Keeps0 B0 Bs X Z := ⟨h.1.trans k.1, k.2.trans h.2⟩
theorem VM.len {w : World} {b n n' : Nat} {C : List UInt8 → Option Value} (h : VM w b n C) (e : n ≤ n') : VM w b n' C := by
  obtain ⟨D, ⟨es, cl, hb, hf, hn, hD⟩, h2⟩ := h
  exact ⟨D, ⟨es, cl, hb, hf, by omega, hD⟩, h2⟩
theorem all_leaf {Ok : World → Value → BV → Prop} (hOk : OkKept Ok) {df : BV → Bool} {w : World} {xs : List BV} {pre : List (Fin xs.length)} {x : Fin xs.length} {B : Nat} (hB : w.heap.size + 2 < B) {W w1 w2 w3 : World} {v : Value} {C : List UInt8 → Option Value}
    (hf1 : KeepsFrom B W w1) (hk1 : Keeps0 w.heap.size (w.heap.size + 2) W w1) (h13 : w.heap.size + 3 ≤ w1.heap.size) (hw2 : Below w1.drew.heap.size w1.drew w2) (hI2 : AllI Ok df w xs pre w2) (hvs : VM w2 w.heap.size pre.length C ∧ Says Ok df w2 C (pre.reverse.map fun i => xs[i.1]))
    (hg3 : w2.grownBy w3 (some w.heap.size)) (hv3 : VM w3 w.heap.size (pre.length + 1) fun y => if y = xs[x.1].nm.data.toList then some v else C y) (hok : Ok w2 v xs[x.1]) (hd : df xs[x.1] = true) :
    KeepsFrom B W w3 ∧ Keeps0 w.heap.size (w.heap.size + 2) W w3 ∧ AllI Ok df w xs (pre ++ [x]) w3 := by
  have hsd : (w1.drew).heap.size = w1.heap.size := rfl
  have hg2 : w1.grownBy w2 none := grown_of_below ((Below.refl w1.heap.size w1).drew.trans (by rw [← hsd]; exact hw2)) none
  have h23 := hg2.size
  refine ⟨(hf1.trans (.of_grownBy hg2 (fun j e => by cases e))).trans (.of_grownBy hg3 (fun j e => by cases e; omega)), (hk1.trans' (keeps0_grown hg2 (by omega) (by omega) (fun r e => by cases e))).trans' (keeps0_grown hg3 (by omega) (by omega) (fun r e => by cases e; omega)), hI2.turn hg3 (hv3.len (by simp)) ?_⟩
  obtain ⟨hv, hs⟩ := hvs
  have h := (hs.step (W' := w3) (fun v y h => hOk w2 w3 _ v y h hg3 (fun r e => by cases e; exact hv.obj))).put xs[x.1] hd v (hOk w2 w3 _ v _ hok hg3 (fun r e => by cases e; exact hv.obj))
  simpa using h
set_option maxRecDepth 100000 in
set_option maxHeartbeats 8000000 in
theorem all_any (Ok : World → Value → BV → Prop) (df : BV → Bool) (A : Option Addr) (c : Nat) (xs : List BV) (hx : xs.length ≤ 1000000) (hns : ∀ x ∈ xs, x.nm.size ≤ maxLen) (w : World) (hrow : ∀ W', Below w.heap.size w W' → BindRow W' A xs)
    (hOk : OkKept Ok)
    (HD : ∀ x ∈ xs, ∀ W, Below w.heap.size w W → Calls Try.prog 38 #[x.val] W fun e W' => e = .returned (.bool (df x)) ∧ Below W.heap.size W W')
    (HC : ∀ x ∈ xs, df x = true → ∀ W, Below w.heap.size w W → Calls Try.prog 39 #[x.val] W fun e W' => ∃ v z, e = .returned v ∧ valR v = some z ∧ Ok W' v x ∧ Below W.heap.size W W') :
    Calls Try.prog 28 #[.slice A xs.length c] w fun e W' => e = .returned (.map (some w.heap.size)) ∧ (∃ C, VM W' w.heap.size xs.length C ∧ Says Ok df W' C xs) ∧ Below w.heap.size w W' := by
  refine (callsIn_wide (n := 8)).1 ?_
  have hmm := @run_makeMap Try.prog
  refine callsIn_of_wp_marks Try.func28 rfl trivial ?_ rfl
  simp only [Try.ntmps28, List.size_toArray, List.length_cons, List.length_nil, Nat.reduceAdd, Nat.reduceSub, Array.replicate_succ, Array.replicate_zero, List.push_toArray, List.append_toArray, List.nil_append, List.cons_append]
  gi_wp2
  refine ⟨trivial, ((callsIn_wide (n := _)).2 (back_any A xs.length c _)).mono ?_⟩
  rintro e w1 ⟨rfl, rfl⟩
  gi_wp2
  have hb0 : Below w.heap.size w (((w.alloc (.map #[] 0)).alloc (.cells #[.map (some w.heap.size)] 47)).alloc (.cells #[.slice A xs.length c] 22)) := below_alloc (below_new2 w _ _) _
  have hbs : (((w.alloc (.map #[] 0)).alloc (.cells #[.map (some w.heap.size)] 47)).alloc (.cells #[.slice A xs.length c] 22)).heap[w.heap.size + 2]? = some (.cells #[.slice A xs.length c] 22 (0, 0)) := by
    have h := blk_new ((w.alloc (.map #[] 0)).alloc (.cells #[.map (some w.heap.size)] 47)) (.cells #[.slice A xs.length c] 22)
    rwa [size_alloc1, size_alloc1] at h
  have hbox : (((w.alloc (.map #[] 0)).alloc (.cells #[.map (some w.heap.size)] 47)).alloc (.cells #[.slice A xs.length c] 22)).heap[w.heap.size + 1]? = some (.cells #[.map (some w.heap.size)] 47 (0, 0)) := blk_alloc (blk_new2 w _ _) _
  have hvm : VM (((w.alloc (.map #[] 0)).alloc (.cells #[.map (some w.heap.size)] 47)).alloc (.cells #[.slice A xs.length c] 22)) w.heap.size 0 (fun _ => none) := ((vm_made w).alloc _).alloc _
  have hsz : (((w.alloc (.map #[] 0)).alloc (.cells #[.map (some w.heap.size)] 47)).alloc (.cells #[.slice A xs.length c] 22)).heap.size = w.heap.size + 3 := by rw [size_alloc1, size_alloc1, size_alloc1]
  clear hmm
  generalize hWB : ((w.alloc (.map #[] 0)).alloc (.cells #[.map (some w.heap.size)] 47)).alloc (.cells #[.slice A xs.length c] 22) = WB at hb0 hbs hbox hvm hsz ⊢
  clear hWB
  refine wpIn_rangeFunc_ownH rfl (by omega) (gf := 46) (lb := #[.pointer (some ⟨w.heap.size + 2, 0, none⟩)]) rfl trivial (enters_of Try.func46 (by kernel_rfl) rfl)
    (back_stops Fence.wide _ trivial rfl (by omega) w.heap.size (w.heap.size + 2) A c xs hx WB (by omega) hbs (fun W' hb => hrow W' (hb0.trans hb)))
    (fun h k => ⟨h.1.trans k.1, k.2.trans h.2⟩) ?keepsB (Below.refl _ _) (fun _ => rfl) (AllI Ok df w xs) (fun _ _ _ => False) ?own (fun _ _ _ _ _ hs _ _ => hs) ⟨hb0, by omega, hbox, _, hvm, fun nm => rfl⟩
    (fun x a' W' => ∃ bx, W'.heap[bx]? = some (.cells #[.string xs[x.1].nm, .int .i64 xs[x.1].k, .string xs[x.1].s, .slice xs[x.1].A xs[x.1].n xs[x.1].c, .slice xs[x.1].B xs[x.1].m xs[x.1].d] 38 (0, 0)) ∧ ∃ t9 t10, a' = { tmps := #[.slice A xs.length c, undef, .map none, .pointer (some ⟨w.heap.size + 1, 0, none⟩), undef, .pointer (some ⟨bx, 0, none⟩), .map (some w.heap.size), .slice A xs.length c, .func (.func 46) #[] #[.pointer (some ⟨w.heap.size + 2, 0, none⟩)], t9, t10, undef, undef, undef, undef, undef, undef, undef, undef, undef, undef, undef, undef, undef], defers := [] }) ?ownA ?assign ?body ?done ?stop
  case keepsB =>
    intro W l o o' hl ho hc hw
    have hlt := blk_lt ho
    refine ⟨(Below.refl _ W).grown (grownBy_putObj' W l o') (by omega) (fun k e => by cases e; omega), (grownBy_putObj' W l o').block _ (by omega) (fun e => by injection e with e; omega)⟩
  case own =>
    rintro ys W W' row hI hg hr
    exact hI.grown hOk hg (fun r e => ⟨by have := (hr r e).1; omega, (hr r e).2⟩)
  case ownA =>
    rintro x a' _ W W' row ⟨bx, hbx, ha⟩ hg hr
    exact ⟨bx, (hg.block _ (blk_lt hbx) (fun e => by obtain ⟨o, ho, hc⟩ := (hr _ e.symm).2; rw [hbx] at ho; cases ho; cases hc)).trans hbx, ha⟩
  case stop =>
    rintro D c' pre W _ _ h _
    exact h.elim
  case assign =>
    rintro l pre x W K hI hK
    rw [show bvEnc xs x = #[.int .i64 (x.1 : Nat), .agg #[.string xs[x.1].nm, .int .i64 xs[x.1].k, .string xs[x.1].s, .slice xs[x.1].A xs[x.1].n xs[x.1].c, .slice xs[x.1].B xs[x.1].m xs[x.1].d]] from rfl]
    gi_wp2
    have h3 := hI.2.1
    have hg := World.grownBy_alloc W (.cells #[.string xs[x.1].nm, .int .i64 xs[x.1].k, .string xs[x.1].s, .slice xs[x.1].A xs[x.1].n xs[x.1].c, .slice xs[x.1].B xs[x.1].m xs[x.1].d] 38) none
    exact hK _ _ (.of_grownBy hg (fun j e => by cases e)) (keeps0_grown hg (by omega) (by omega) (fun r e => by cases e)) (hI.grown hOk hg (fun r e => by cases e)) ⟨_, blk_new _ _, _, _, rfl⟩
  case body =>
    rintro l pre x a' W hl hr hI ⟨bx, hbb, t9, t10, rfl⟩ hlt
    have hB := cells5 hbb
    have hbc := cell_of_one hI.2.2.1
    have hbW := hI.1
    have h3 := hI.2.1
    have hxm : xs[x.1] ∈ xs := List.getElem_mem x.2
    have hbb' := blk_lt hbb
    gi_wp2
    refine ⟨trivial, (CallsIn.inRound l ((callsIn_wide (n := _)).2 (HD _ hxm W hI.1))).mono ?_⟩
    rintro e w1 ⟨rfl, hw1⟩
    have hg1 : W.grownBy w1 none := grown_of_below hw1 none
    have hI1 : AllI Ok df w xs pre w1 := hI.grown hOk hg1 (fun r e => by cases e)
    have hbb1 := blk_below hbb hw1
    have hB1 := cells5 hbb1
    have hbc1 := cell_of_one hI1.2.2.1
    have hk1 : Keeps0 w.heap.size (w.heap.size + 2) W w1 := keeps0_grown hg1 (by omega) (by omega) (fun r e => by cases e)
    have hf1 : KeepsFrom WB.heap.size W w1 := .of_grownBy hg1 (fun j e => by cases e)
    clear hB hbc
    have hne : (xs.length : Int) = xs.length := rfl
    cases hd : df xs[x.1] with
    | false =>
      obtain ⟨C, hv, hs⟩ := hI1.2.2.2
      obtain ⟨w2, hrun, hv2, hg2⟩ := vm_drop hv xs[x.1].nm (hns _ hxm) 0
      gi_wp2
      refine ⟨hf1.trans (.of_grownBy hg2 (fun j e => by cases e; omega)), hk1.trans' (keeps0_grown hg2 (by have := hw1.size; omega) (by have := hw1.size; omega) (fun r e => by cases e; omega)), hI1.turn hg2 (hv2.len (by simp)) ?_⟩
      have h := (hs.step (W' := w2) (fun v y h => hOk w1 w2 _ v y h hg2 (fun r e => by cases e; exact hv.obj))).drop xs[x.1] hd
      simpa using h
    | true =>
      have hI1d : AllI Ok df w xs pre w1.drew := hI1.grown hOk (grown_of_below (Below.refl _ w1).drew none) (fun r e => by cases e)
      have hsd : (w1.drew).heap.size = w1.heap.size := rfl
      gi_wp2
      gi_region_with (refine ⟨trivial, (CallsIn.inRound l ((callsIn_wide (n := _)).2 (HC _ hxm hd _ hI1d.1))).mono ?_⟩; rintro e w2 ⟨v, z, rfl, hz, hok, hw2⟩; have hbb2 := blk_below (w := w1.drew) hbb1 hw2; have hI2 : AllI Ok df w xs pre w2 := hI1d.grown hOk (grown_of_below hw2 none) (fun r e => by cases e); have hbc2 := cell_of_one hI2.2.2.1; have hB2 := cells5 hbb2; obtain ⟨C, hvs⟩ := hI2.2.2.2; obtain ⟨w3, hrun, hv3, hg3⟩ := vm_put hvs.1 xs[x.1].nm (hns _ hxm) (by unfold maxLen; omega) v z hz)
      all_goals
        rename_i hv3 hg3
        exact all_leaf hOk (by omega) hf1 hk1 (by have := hw1.size; omega) (by assumption) (by assumption) (by assumption) hg3 hv3 (by assumption) hd
  case done =>
    rintro D ys W hD hys ⟨hb, h3, hbx, C, hv, hs⟩ hK
    have hbc := cell_of_one hbx
    gi_wp2
    refine ⟨by simp, .inl ⟨_, _, rfl, run_takeDeferred hK, ?_⟩⟩
    have hyl : ys.length = xs.length := by have := congrArg List.length hys; simpa using this
    have hym : (ys.reverse.map fun i => xs[i.1]) = xs := by
      have h := congrArg List.reverse hys
      rw [List.reverse_reverse, ← List.map_reverse] at h
      apply List.ext_getElem (by simp [hyl])
      intro i h1 h2
      have h4 : (ys.reverse.map fun i => i.1)[i]'(by simpa using h1) = (List.range xs.length)[i]'(by simpa using h2) := by simp only [h]
      rw [List.getElem_map, List.getElem_range] at h4
      rw [List.getElem_map]
      simp only [h4]
    rw [hym] at hs
    rw [hyl] at hv
    have hg : W.grownBy (W.putObj D (.deferred none)) (some D) := grownBy_putObj' W D _
    refine ⟨_, results_tmp rfl _ _ _, rfl, ⟨C, ?_, ?_⟩, ?_⟩
    · exact hv.grown hg (fun e => by injection e with e; omega)
    · exact hs.step (fun v x h => hOk W _ _ v x h hg (fun r e => by cases e; exact ⟨_, hK, rfl⟩))
    · exact hb.grown hg (by omega) (fun k e => by cases e; omega)
end Go.Proofs.Ytfaiplbogchgjaa.X
end
