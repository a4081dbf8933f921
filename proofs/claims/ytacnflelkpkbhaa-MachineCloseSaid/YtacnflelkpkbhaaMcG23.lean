/- Texts of this claim, those that nothing needs left out: Zo4. -/
import Derived.Test.YtacnflelkpkbhaaMcG21
import Derived.Test.YtacnflelkpkbhaaMcG22
section
namespace Go.Proofs.Ytacnflelkpkbhaa.PA
set_option linter.unusedSimpArgs false
set_option linter.unusedVariables false
open Go.RowKit Go.Maps Go.Proofs.YtacnflelkpkbhaaW.PrintWords Go.Proofs.YtacnflelkpkbhaaW.PrintLast Go.Proofs.YtacnflelkpkbhaaW.PrintMore
set_option maxHeartbeats 4000000 in
theorem sameI_any {w : World} {A B : Option Addr} {c d : Nat} {l : List Int} (h1 : Kd.C (Kd.int .i64) w A l.length l) (h2 : Kd.C (Kd.int .i64) w B l.length l) (hl : l.length ≤ 1000000) :
    Calls Try.prog 14 #[.slice A l.length c, .slice B l.length d] w fun e W' => e = .returned (.bool true) ∧ Below w.heap.size w W' := by
  have H1 := Aside0.mk h1
  have H2 := Aside0.mk h2
  obtain ⟨n, hn⟩ : ∃ n, n = l.length := ⟨_, rfl⟩
  have HN := Aside0.mk hn
  rw [← hn] at H1 H2 hl ⊢
  clear h1 h2 hn
  go_enter Try.func14, Try.ntmps14
  go_wp2_with fail
  go_loopw [5] (fun v5 wr => ∃ j : Nat, j ≤ n ∧ v5 = .int .i64 (j : Int) ∧ Below w.heap.size w wr) (fun v5 _ => (n - intOf v5).toNat)
  case atStart => exact ⟨0, Nat.zero_le _, rfl, Below.refl _ _⟩
  case round =>
    obtain ⟨j, hj, rfl, hb⟩ := hrel
    have HB := Aside0.mk hb
    by_cases hjl : j < n
    · have hj2 : j < l.length := by rw [← HN.out]; exact hjl
      obtain ⟨ad1, hA1, q1⟩ := X.C_cell1 (Kd.C_below H1.out hb) j hj2
      obtain ⟨ad2, hA2, q2⟩ := X.C_cell1 (Kd.C_below H2.out hb) j hj2
      obtain ⟨t, ht⟩ : ∃ t, t = l[j] := ⟨_, rfl⟩
      rw [← ht] at q1 q2
      subst hA1
      subst hA2
      clear hb ht hj2
      go_wp2_with fail
      go_quiet (fail)
      go_wp2_with fail
      go_roundw
      case rel => exact ⟨j + 1, by omega, by go_num, pw_below_drewN HB.out _⟩
      case measure => simp [intOf]; omega
    · obtain rfl : n = j := by omega
      go_wp2_with fail
      go_ret
      exact ⟨rfl, HB.out⟩
theorem rmay_any (l : List S46) (hl : l.length ≤ 100000) (hf : ∀ x ∈ l, okF x) {W : World} {A : Option Addr} {c : Nat} (hr : Kd.C k46 W A l.length l) (hc : l.length ≤ c) :
    Calls Try.prog 11 #[.slice A l.length c] W fun e W' => e = .returned (.bool (mayB (l.map toN))) ∧ Below W.heap.size W W' := by
  obtain ⟨r, hk⟩ := (evMay l hl (fun x hx => by have := hf x hx; exact ⟨by have := this.1; omega, by have := this.2; omega⟩)).rounds
  exact phalaroperef16_May.calls r A c l _ W hr hc hk
theorem listF_same {m : List S33} {L M : List Nat} (hL : okL m L) (hM : okL m M) (h : ∀ x, x ∈ L ↔ x ∈ M) : listF L = listF M :=
  mergeSort_of_perm_i (((List.perm_ext_iff_of_nodup hL.1 hM.1).2 h).map _)
theorem nodup_sub {L : List Nat} : ∀ {M : List Nat}, L.Nodup → (∀ x ∈ L, x ∈ M) → L.length ≤ M.length := by
  induction L with
  | nil => intro M _ _; exact Nat.zero_le _
  | cons x r ih =>
    intro M hd hs
    obtain ⟨h1, h2⟩ := List.nodup_cons.1 hd
    have h3 := ih (M := M.erase x) h2 (fun y hy => by
      have hne : y ≠ x := fun e => h1 (e ▸ hy)
      exact (List.mem_erase_of_ne hne).2 (hs y (List.mem_cons_of_mem _ hy)))
    have h4 := List.length_erase_of_mem (hs x (List.mem_cons_self ..))
    have h5 := List.length_pos_of_mem (hs x (List.mem_cons_self ..))
    rw [List.length_cons]
    omega
theorem closeF_eq {m : List S33} (hm : mayB m = true) (ts : List Int) : closeF m ts = listF (addAll m [] ts) := by unfold closeF; rw [if_pos hm]
theorem mem_valid {m : List S33} (hm : mayB m = true) {ts : List Int} {y : Nat} (hy : y ∈ addAll m [] ts) : y < m.length := (addAll_nil hm ts).1.2 y hy
theorem close_close {m : List S33} (hm : mayB m = true) (ts : List Int) : closeF m (closeF m ts) = closeF m ts := by
  rw [closeF_eq hm, closeF_eq hm]
  obtain ⟨o1, o2, o3⟩ := addAll_nil hm ts
  obtain ⟨p1, p2, p3⟩ := addAll_nil hm (listF (addAll m [] ts))
  refine listF_same p1 o1 fun y => ?_
  rw [p3 y]
  constructor
  · rintro ⟨t, ht, h0, h1, hr⟩
    obtain ⟨i, hi, rfl⟩ := listF_mem.1 ht
    exact o2.reach hm hr (Nat.zero_le _) hi
  · intro hy
    have := mem_valid hm hy
    exact ⟨(y : Int), listF_mem.2 ⟨y, hy, rfl⟩, by omega, by omega, Reach.refl _ (by omega)⟩
theorem close_both {m : List S33} (hm : mayB m = true) (a b : List Int) : closeF m (closeF m a ++ closeF m b) = closeF m (a ++ b) := by
  rw [closeF_eq hm, closeF_eq hm, closeF_eq hm, closeF_eq hm]
  obtain ⟨a1, a2, a3⟩ := addAll_nil hm a
  obtain ⟨b1, b2, b3⟩ := addAll_nil hm b
  obtain ⟨c1, c2, c3⟩ := addAll_nil hm (a ++ b)
  obtain ⟨p1, p2, p3⟩ := addAll_nil hm (listF (addAll m [] a) ++ listF (addAll m [] b))
  refine listF_same p1 c1 fun y => ?_
  rw [p3 y]
  constructor
  · rintro ⟨t, ht, h0, h1, hr⟩
    rcases List.mem_append.1 ht with ht | ht
    · obtain ⟨i, hi, rfl⟩ := listF_mem.1 ht
      obtain ⟨u, hu, u0, u1, ur⟩ := (a3 y).1 (a2.reach hm hr (Nat.zero_le _) hi)
      exact (c3 y).2 ⟨u, List.mem_append_left _ hu, u0, u1, ur⟩
    · obtain ⟨i, hi, rfl⟩ := listF_mem.1 ht
      obtain ⟨u, hu, u0, u1, ur⟩ := (b3 y).1 (b2.reach hm hr (Nat.zero_le _) hi)
      exact (c3 y).2 ⟨u, List.mem_append_right _ hu, u0, u1, ur⟩
  · intro hy
    have hv := mem_valid hm hy
    obtain ⟨t, ht, h0, h1, hr⟩ := (c3 y).1 hy
    refine ⟨(y : Int), ?_, by omega, by omega, Reach.refl _ (by omega)⟩
    rcases List.mem_append.1 ht with ht | ht
    · exact List.mem_append_left _ (listF_mem.2 ⟨y, (a3 y).2 ⟨t, ht, h0, h1, hr⟩, rfl⟩)
    · exact List.mem_append_right _ (listF_mem.2 ⟨y, (b3 y).2 ⟨t, ht, h0, h1, hr⟩, rfl⟩)
theorem close_lens {m : List S33} (hm : mayB m = true) (a b : List Int) : (closeF m (a ++ b)).length ≤ (closeF m a).length + (closeF m b).length ∧ (closeF m a).length ≤ (closeF m (a ++ b)).length ∧ (closeF m b).length ≤ (closeF m (a ++ b)).length := by
  rw [closeF_eq hm, closeF_eq hm, closeF_eq hm, listF_len, listF_len, listF_len]
  obtain ⟨a1, a2, a3⟩ := addAll_nil hm a
  obtain ⟨b1, b2, b3⟩ := addAll_nil hm b
  obtain ⟨c1, c2, c3⟩ := addAll_nil hm (a ++ b)
  refine ⟨?_, nodup_sub a1.1 fun x hx => ?_, nodup_sub b1.1 fun x hx => ?_⟩
  · rw [← List.length_append]
    refine nodup_sub c1.1 fun x hx => ?_
    obtain ⟨t, ht, h⟩ := (c3 x).1 hx
    rcases List.mem_append.1 ht with ht | ht
    · exact List.mem_append_left _ ((a3 x).2 ⟨t, ht, h⟩)
    · exact List.mem_append_right _ ((b3 x).2 ⟨t, ht, h⟩)
  · obtain ⟨t, ht, h⟩ := (a3 x).1 hx
    exact (c3 x).2 ⟨t, List.mem_append_left _ ht, h⟩
  · obtain ⟨t, ht, h⟩ := (b3 x).1 hx
    exact (c3 x).2 ⟨t, List.mem_append_right _ ht, h⟩
theorem close_small {m : List S33} (hm : mayB m = true) (ts : List Int) : (closeF m ts).length ≤ 100000 ∧ ∀ t ∈ closeF m ts, (Lit.int .i64 t).wf = true := by
  rw [closeF_eq hm]
  obtain ⟨h1, h2⟩ := listF_ok hm ts
  have := (mayB_iff.1 hm).1.2
  exact ⟨h1, fun t ht => wf_small (h2 t ht).1 (by have := (h2 t ht).2; omega)⟩
end Go.Proofs.Ytacnflelkpkbhaa.PA
end
