/- Texts of this claim, those that nothing needs left out: Zn3. -/
import Derived.Shelf.AbstractIn
import Derived.TacticsInMore
import Derived.Test.YtacnflelkpkbhaaMtG7
import Derived.Test.YtacnflelkpkbhaaMtG12
section
namespace Go.Proofs.Ytacnflelkpkbhaa.PA
set_option linter.unusedSimpArgs false
set_option linter.unusedVariables false
open Go.RowKit Go.Maps Go.Sort Go.Shelf Go.Proofs.YtacnflelkpkbhaaW.PrintWords Go.Proofs.YtacnflelkpkbhaaW.PrintLast Go.Proofs.YtacnflelkpkbhaaW.PrintMore
def listF (L : List Nat) : List Int := (L.map fun i : Nat => (i : Int)).mergeSort leI
theorem sortsI (k : Nat) : AnyZI.SortsIn Try.prog Try.sortedI_ren Fence.wide k :=
  ⟨fun blk off cap ss W hH hblk hsz => callsIn_wide.2 (AnyM.slices_Sort_int Try.sortI blk off cap ss W hH hblk hsz),
   fun p cap W => callsIn_wide.2 (AnyM.slices_Sort_int_none Try.sortI p cap W)⟩
set_option maxHeartbeats 4000000 in
set_option maxRecDepth 100000 in
theorem list_any (b : Nat) (L : List Nat) (w : World) (him : X.IM w b L) (hL : ∀ i ∈ L, i < 1000000) (hlen : L.length ≤ 1000000) :
    Calls Try.prog 31 #[.map (some b)] w fun e w' => ∃ v, e = .returned v ∧ w'.ownsRow w.heap.size 3 1 v (listF L).length ((listF L).map (Value.int .i64)) ∧ Below w.heap.size w w' := by
  obtain ⟨D0, hown, hnd, hm⟩ := him
  have hperm := X.im_keys hown hnd (fun i hi => wf_small (by omega) (by have := hL i hi; omega)) hm
  refine (callsIn_wide (n := 6)).1 ?_
  have hbl := hown.lt
  have hsz := hown.size_le
  have hseq : SeqGives Fence.wide 2 Try.prog 43 #[.pointer (some ⟨w.heap.size, 0, none⟩)] encZ (fun ss => ss.Perm (intKeys D0)) (Maps.size D0) (w.alloc (.cells #[.map (some b)] 58)) :=
    AnyZI.keys_gives (ρ := Try.keysI_ren) { Try.keysI with } Fence.wide _ trivial rfl (by omega) w.heap.size b L.length D0 _ (by simp) (by simp) (by
      obtain ⟨es, clock, hb, Ft, hs, hD⟩ := hown
      exact ⟨es, clock, (Below.heap_alloc _ _ b hbl).trans hb, Ft, hs, hD⟩)
  have cK : ∀ mb W, CallsIn Fence.wide 5 Try.prog 37 #[.map mb] W fun e w' => e = .returned (.func (.func 43) #[] #[.pointer (some ⟨W.heap.size, 0, none⟩)]) ∧ w' = W.alloc (.cells #[.map mb] 58) := fun mb W => AnyZI.keys_in Try.keysI Fence.wide 5 trivial rfl mb W
  have cS := AnyZI.sorted_in Try.sortedI Fence.wide 5 trivial trivial trivial trivial rfl (by omega) (sortsI _) (enters_of Try.func42 (by kernel_rfl) rfl) 43 #[.pointer (some ⟨w.heap.size, 0, none⟩)] trivial (enters_of Try.func43 (by kernel_rfl) rfl) _ _ (by unfold maxLen; omega) (by omega) _ hseq
  change CallsIn _ _ Try.prog 36 _ _ _ at cS
  have hfK : Fence.wide.fn 37 := trivial
  have hfS : Fence.wide.fn 36 := trivial
  refine callsIn_of_wp Try.func31 rfl trivial ?_ rfl
  simp only [Try.ntmps31, List.size_toArray, List.length_cons, List.length_nil, Nat.reduceAdd, Nat.reduceSub, Array.replicate_succ, Array.replicate_zero, List.push_toArray, List.append_toArray, List.nil_append, List.cons_append]
  gi_wp2_with (first
    | (gi_at_call 37; refine (cK _ _).mono ?_; rintro e w' ⟨rfl, rfl⟩)
    | (gi_at_call 36; refine cS.mono ?_; rintro e w' ⟨v, ss, rfl, hS, hrow, hnil, hb⟩))
  go_ret
  have e1 : ss.mergeSort (fun x y => decide (x ≤ y)) = listF L := mergeSort_of_perm_i (hS.trans hperm.symm)
  have e2 : ss.length = (listF L).length := by rw [← e1, List.length_mergeSort]
  rw [e1, e2] at hrow
  exact ⟨v, rfl, ownsRow_base_a hrow (by simp), ((Below.refl _ w).alloc (Nat.le_refl _) _).trans (hb.mono (by simp))⟩
theorem addAll_snoc (m : List S33) (L : List Nat) (ts : List Int) (t : Int) : addAll m L (ts ++ [t]) = addF m m.length (addAll m L ts) t := by
  unfold addAll
  rw [List.foldl_append]
  rfl
theorem addAll_nil {m : List S33} (hm : mayB m = true) (ts : List Int) : okL m (addAll m [] ts) ∧ CL m 0 (addAll m [] ts) ∧ ∀ y, y ∈ addAll m [] ts ↔ ∃ t ∈ ts, 0 ≤ t ∧ t < (m.length : Int) ∧ Reach m t.toNat y := by
  obtain ⟨a, b, c⟩ := addAll_spec hm ts [] ⟨List.nodup_nil, fun i h => by cases h⟩ (fun y h => by cases h)
  exact ⟨a, b, fun y => (c y).trans ⟨fun h => h.resolve_left (by simp), fun h => .inr h⟩⟩
theorem listF_mem {L : List Nat} {t : Int} : t ∈ listF L ↔ ∃ i ∈ L, (i : Int) = t := by
  unfold listF
  rw [List.mem_mergeSort, List.mem_map]
theorem listF_len (L : List Nat) : (listF L).length = L.length := by
  unfold listF
  rw [List.length_mergeSort, List.length_map]
set_option maxHeartbeats 16000000 in
set_option maxRecDepth 100000 in
theorem closed_any (A : Option Addr) (c : Nat) (m : List S33) (A1 : Option Addr) (c1 : Nat) (ts : List Int) (w : World) (hr : Kd.C k33 w A m.length m) (hr1 : Kd.C (Kd.int .i64) w A1 ts.length ts) (hmay : mayB m = true) (hok : okM m) (hwf : ∀ t ∈ ts, (Lit.int .i64 t).wf = true) (hl : ts.length ≤ 1000000) :
    Calls Try.prog 23 #[.slice A m.length c, .slice A1 ts.length c1] w fun e w' => ∃ v, e = .returned v ∧ w'.ownsRow w.heap.size 3 1 v (listF (addAll m [] ts)).length ((listF (addAll m [] ts)).map (Value.int .i64)) ∧ Below w.heap.size w w' := by
  have HR := Aside0.mk hr
  have HR1 := Aside0.mk hr1
  have HMAY := Aside0.mk hmay
  have HADD := Aside0.mk (add_any (c := c) hr hmay hok w.heap.size (Nat.le_refl _) m.length)
  have HWF := Aside0.mk hwf
  obtain ⟨n, hn⟩ : ∃ n, n = m.length := ⟨_, rfl⟩
  have HN := Aside0.mk hn
  obtain ⟨n1, hn1⟩ : ∃ n, n = ts.length := ⟨_, rfl⟩
  have HN1 := Aside0.mk hn1
  rw [← hn] at HR HADD ⊢
  rw [← hn1] at HR1 hl ⊢
  clear hr hr1 hmay hok hwf hn hn1
  have hmm := @run_makeMap Try.prog
  go_enter Try.func23, Try.ntmps23
  go_wp2_with fail
  go_loopw [11] (fun v11 wr => ∃ j : Nat, j ≤ n1 ∧ v11 = .int .i64 (j : Int) ∧ X.IM wr w.heap.size (addAll m [] (ts.take j)) ∧ Below w.heap.size w wr) (fun v11 _ => (n1 - intOf v11).toNat)
  case atStart => exact ⟨0, Nat.zero_le _, rfl, X.im_made w, X.below_new1 w _⟩
  case round =>
    obtain ⟨j, hj, rfl, him, hb⟩ := hrel
    by_cases hjl : j < n1
    · have hj2 : j < ts.length := by rw [← HN1.out]; exact hjl
      obtain ⟨ad, hA, hc⟩ := X.C_cell1 (Kd.C_below HR1.out hb) j hj2
      obtain ⟨t, ht⟩ : ∃ t, t = ts[j] := ⟨_, rfl⟩
      rw [← ht] at hc
      have htk : addAll m [] (ts.take (j + 1)) = addF m n (addAll m [] (ts.take j)) t := by
        rw [List.take_succ_eq_append_getElem hj2, addAll_snoc, ← ht, HN.out]
      obtain ⟨o1, o2, _⟩ := addAll_nil HMAY.out (ts.take j)
      have hgo := HADD.out _ t wr (by have := HN.out; omega) (HWF.out t (by rw [ht]; exact List.getElem_mem hj2)) o1 (fun y hy _ => o2 y hy (Nat.zero_le _)) hb him
      rw [← htk] at hgo
      have HGO := Aside0.mk hgo
      have HB := Aside0.mk hb
      subst hA
      clear him hb ht htk o1 o2 hgo hj2
      go_wp2_with fail
      refine HGO.out.mono ?_
      rintro e w3 ⟨rfl, him3, hg3⟩
      have HIM3 := Aside0.mk him3
      have HB3 := Aside0.mk (HB.out.grown hg3 HB.out.size (fun k e => by injection e with e; omega))
      clear him3 hg3
      go_wp2_with fail
      go_roundw
      case rel => exact ⟨j + 1, by omega, by go_num, HIM3.out, HB3.out⟩
      case measure => simp [intOf]; omega
    · obtain rfl : n1 = j := by omega
      rw [HN1.out, List.take_length] at him
      obtain ⟨o1, o2, _⟩ := addAll_nil HMAY.out ts
      have hle := o1.len
      have hnm := (mayB_iff.1 HMAY.out).1.2
      have hli := list_any w.heap.size (addAll m [] ts) wr him (fun i hi => by have := o1.2 i hi; omega) (by omega)
      have HLI := Aside0.mk hli
      have HB := Aside0.mk hb
      clear him hb o1 o2 hle hnm hli
      go_wp2_with fail
      refine HLI.out.mono ?_
      rintro e w4 ⟨v, rfl, ho, hb4⟩
      have HO := Aside0.mk ho
      have HB4 := Aside0.mk (below_step HB.out hb4)
      clear ho hb4
      go_wp2_with fail
      go_ret
      exact ⟨_, rfl, own_lower HO.out HB.out.size, HB4.out⟩
end Go.Proofs.Ytacnflelkpkbhaa.PA
end
