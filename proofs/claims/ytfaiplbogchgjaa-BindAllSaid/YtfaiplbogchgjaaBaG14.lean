/- Texts of this claim, those that nothing needs left out: Xyj. -/
import Derived.Shelf.AbstractIn
import Derived.TacticsInMore
import Derived.Test.YtfaiplbogchgjaaBaG13
import Derived.Test.YtfaiplbogchgjaaBaG12
section
namespace Go.Proofs.Ytfaiplbogchgjaa.X
set_option linter.unusedSimpArgs false
set_option linter.unusedVariables false
open Go.RowKit Go.Maps Go.Sort Go.Shelf Go.Proofs.YtfaiplbogchgjaaW.PrintWords
theorem sortsA (m : Nat) : AnyZ.SortsIn Try.prog Try.sortedA_ren Fence.wide m :=
  ⟨fun blk off cap ss W hH hblk hsz => callsIn_wide.2 (AnyM.slices_Sort_string Try.sortA blk off cap ss W hH hblk hsz),
   fun p cap W => callsIn_wide.2 (AnyM.slices_Sort_string_none Try.sortA p cap W)⟩
set_option maxHeartbeats 1000000 in
theorem names_any {H : Type} (s : Value) (b nn : Nat) (R : Value → Option (DataW H × List MemPlace)) (Q : World → DataW H → Prop) (w : World) (hn : nn ≤ 1000000)
    (hall : Calls Try.prog 28 #[s] w fun e W => e = .returned (.map (some b)) ∧ (∃ D0, W.ownsMap Try.prog 9 R b nn D0 ∧ Q W D0) ∧ Below w.heap.size w W) :
    Calls Try.prog 15 #[s] w fun e w' => ∃ (v : Value) (ss : List (List UInt8)) (D0 : DataW H) (W : World), e = .returned v ∧ W.ownsMap Try.prog 9 R b nn D0 ∧ Q W D0 ∧ ss.Perm (strKeys D0) ∧
      w'.ownsRow w.heap.size 9 1 v ss.length ((ss.mergeSort (fun x y => decide (x ≤ y))).map encStr) ∧ Below w.heap.size w w' := by
  refine (callsIn_wide (n := 6)).1 ?_
  have hall' := (callsIn_wide (n := 5)).2 hall
  refine callsIn_of_wp Try.func15 rfl trivial ?_ rfl
  simp only [Try.ntmps15, List.size_toArray, List.length_cons, List.length_nil, Nat.reduceAdd, Nat.reduceSub, Array.replicate_succ, Array.replicate_zero, List.push_toArray, List.append_toArray, List.nil_append, List.cons_append]
  gi_wp2
  refine ⟨trivial, hall'.mono ?_⟩
  rintro e W ⟨rfl, ⟨D0, hown, hQ⟩, hb⟩
  have hbl := hown.lt
  have hseq : SeqGives Fence.wide 2 Try.prog 42 #[.pointer (some ⟨W.heap.size, 0, none⟩)] encStr (fun ss => ss.Perm (strKeys D0)) (Maps.size D0) (W.alloc (.cells #[.map (some b)] 47)) :=
    AnyZ.keys_gives (ρ := Try.keysA_ren) { Try.keysA with } Fence.wide _ trivial rfl (by omega) W.heap.size b nn D0 _ (by simp) (by simp) (by
      obtain ⟨es, clock, hb, Ft, hs, hD⟩ := hown
      exact ⟨es, clock, (Below.heap_alloc _ _ b hbl).trans hb, Ft, hs, hD⟩)
  have cK : ∀ mb W, CallsIn Fence.wide 5 Try.prog 30 #[.map mb] W fun e w' => e = .returned (.func (.func 42) #[] #[.pointer (some ⟨W.heap.size, 0, none⟩)]) ∧ w' = W.alloc (.cells #[.map mb] 47) := fun mb W => AnyZ.keys_in Try.keysA Fence.wide 5 trivial rfl mb W
  have hsz := hown.size_le
  have cS := AnyZ.sorted_in Try.sortedA Fence.wide 5 trivial trivial trivial trivial rfl (by omega) (sortsA _) (enters_of Try.func41 (by kernel_rfl) rfl) 42 #[.pointer (some ⟨W.heap.size, 0, none⟩)] trivial (enters_of Try.func42 (by kernel_rfl) rfl) _ _ (Nat.le_trans hsz (by unfold maxLen; omega)) (by omega) _ hseq
  change CallsIn _ _ Try.prog 29 _ _ _ at cS
  gi_wp2
  refine ⟨trivial, (cK _ _).mono ?_⟩
  rintro e w' ⟨rfl, rfl⟩
  gi_wp2
  refine ⟨trivial, cS.mono ?_⟩
  rintro e w' ⟨v, ss, rfl, hS, hrow, hnil, hb'⟩
  gi_wp2
  go_ret
  exact ⟨v, ss, D0, W, rfl, hown, hQ, hS, ownsRow_base_a hrow (by have := hb.size; simp; omega), hb.trans (((Below.refl _ W).alloc (Nat.le_refl _) _).trans (hb'.mono (by simp)) |>.mono hb.size)⟩
end Go.Proofs.Ytfaiplbogchgjaa.X
end
