/- Texts of this claim, those that nothing needs left out: Zmy Zmn Zmp Zmz LawFindTells. -/
import Derived.Test.YtecpjfipkejmoaaFtG10
import Derived.Test.YtecpjfipkejmoaaFtG12
import Derived.Test.YtecpjfipkejmoaaFtG5
import Derived.Test.YtecpjfipkejmoaaFtG6
import Derived.Test.YtecpjfipkejmoaaFtG7
import Derived.Test.YtecpjfipkejmoaaRows
import Derived.WalkKit
import Derived.ProofKit
import Derived.OpenShut
import Derived.ShutString
import Derived.ChangeOld
import Derived.Below
import Derived.SizedLaws
section
namespace Go.Proofs.Ytecpjfipkejmoaa.PA
set_option linter.unusedSimpArgs false
set_option linter.unusedVariables false
open Go.RowKit Go.Maps Go.Proofs.YtecpjfipkejmoaaW.PrintWords Go.Proofs.YtecpjfipkejmoaaW.PrintLast Go.Proofs.YtecpjfipkejmoaaW.PrintMore
def hitR (h : Int × Nat) : S68 := ⟨h.1, (h.2 : Int)⟩
theorem fold_filter {α β : Type} (c : α → Bool) (g : α → β) : ∀ (L : List α) (a : β), L.foldl (fun a e => if c e = true then g e else a) a = (L.filter c).foldl (fun _ e => g e) a
  | [], _ => rfl
  | e :: r, a => by
    rw [List.foldl_cons, fold_filter c g r, List.filter_cons]
    split <;> rfl
theorem tabT_at (l : List S35) (s : ByteArray) (p : Nat) (h : p ≤ s.size) : (tabT l s)[p]? = some (rowT l s p) := by
  simp [tabT, List.getElem?_map, List.getElem?_range (show p < s.size + 1 by omega)]
theorem tabT_len (l : List S35) (s : ByteArray) : (tabT l s).length = s.size + 1 := by simp [tabT]
section
variable (l : List S35) (s : ByteArray) (hl : l.length ≤ 1000) (hs : s.size ≤ 1000) (R : List S68 × Bool) (out : List S68) (x : S35)
theorem evWay_l1 (p : Nat) (hp : p ≤ s.size) (h2 : x.f0 = 2) (hx2 : x.f2.length ≤ 1000) (hf : ∀ t ∈ x.f2, 0 ≤ t ∧ t < (l.length : Int)) (q : Nat × Nat) (j' : Nat) (h : Ev (fun K => phalaroperef17_Way.l0 K l s (j' : Int) (tabT l s) out (q.2 : Int) (q.1 : Int)) R) (d : Nat) :
    ∀ (j k : Nat), j + d = x.f2.length → k ≤ 1000 → pick (waysOf (l.map toN) s.data.toList) ((x.f2.drop j).map fun t => (t.toNat, p)) k = some (q, j') → Ev (fun K => phalaroperef17_Way.l1 K l s (k : Int) (tabT l s) out (p : Int) (j : Int) x.f0 x.f1 x.f2 x.f3 x.f4) R := by
  induction d with
  | zero =>
    intro j k hj hk hpk
    rw [List.drop_eq_nil_of_le (by omega)] at hpk
    cases hpk
  | succ d ih =>
    intro j k hj hk hpk
    have hjl : j < x.f2.length := by omega
    rw [List.drop_eq_getElem_cons hjl, List.map_cons] at hpk
    unfold pick at hpk
    obtain ⟨t1, t2⟩ := hf _ (List.getElem_mem hjl)
    obtain ⟨u, hu⟩ : ∃ u : Nat, x.f2[j] = (u : Int) := Int.eq_ofNat_of_zero_le t1
    have hrd : rd (rowT l s p) (u : Int) = ((waysOf (l.map toN) s.data.toList (u, p) : Nat) : Int) := rd_of (rowT_at l s p u (by omega))
    have hrj : rd x.f2 (j : Int) = (u : Int) := (rdi_at x.f2 j hjl).trans hu
    rw [hu, Int.toNat_natCast] at hpk
    obtain ⟨wv, hwv⟩ : ∃ v, v = waysOf (l.map toN) s.data.toList (u, p) := ⟨_, rfl⟩
    rw [← hwv] at hrd hpk
    have hstep : ∀ K, phalaroperef17_Way.l1 (K + 1) l s (k : Int) (tabT l s) out (p : Int) (j : Int) x.f0 x.f1 x.f2 x.f3 x.f4 = if (k : Int) ≥ (wv : Int) then (phalaroperef17_Way.l1 K l s (wrap64 ((k : Int) - (wv : Int))) (tabT l s) out (p : Int) ((j + 1 : Nat) : Int) x.f0 x.f1 x.f2 x.f3 x.f4) else (phalaroperef17_Way.j4 K l s (k : Int) (tabT l s) out (p : Int) (u : Int) x.f0 x.f1 x.f2 x.f3 x.f4) := fun K => by
      simp only [phalaroperef17_Way.l1, hrj, rdL_of (tabT_at l s p hp), hrd]
      rw [if_pos (by omega), if_pos (by rw [tabT_len]; omega), if_pos (by omega), if_pos (by omega), if_pos (by omega), if_pos (by rw [rowT_len]; omega), wv1 j (by omega)]
    by_cases c : k < wv
    · rw [if_pos c] at hpk
      obtain ⟨rfl, rfl⟩ : (u, p) = q ∧ k = j' := by simpa using hpk
      refine Ev.step (f := fun K => phalaroperef17_Way.j4 K l s (k : Int) (tabT l s) out (p : Int) (u : Int) x.f0 x.f1 x.f2 x.f3 x.f4) (fun K => by rw [hstep, if_neg (by omega)]) (Ev.step (fun K => ?_) h)
      simp only [phalaroperef17_Way.j4]
      rw [if_neg (by omega)]
    · rw [if_neg c] at hpk
      refine Ev.step (fun K => ?_) (ih (j + 1) (k - wv) (by omega) (by omega) hpk)
      rw [hstep, if_pos (by omega)]
      have e : wrap64 ((k : Int) - (wv : Int)) = ((k - wv : Nat) : Int) := (wv64 _ (by omega) (by omega)).trans (by omega)
      rw [e]
include hs in
theorem evWay_l2 (k : Int) (p : Nat) (hp : p < s.size) (hx1 : x.f1.length ≤ 1000) (d : Nat) : ∀ (j : Nat) (x11 : Int), j + d = x.f1.length →
    Ev (fun K => phalaroperef17_Way.l0 K l s k (tabT l s) out ((p + 1 : Nat) : Int) (((x.f1.drop j).map toE).foldl (fun a e => if stepE s.data.toList p e = true then e.f2 else a) x11)) R → Ev (fun K => phalaroperef17_Way.l2 K l s k (tabT l s) out (p : Int) x11 (j : Int) x.f0 x.f1 x.f2 x.f3 x.f4) R := by
  induction d with
  | zero =>
    intro j x11 hj h
    rw [List.drop_eq_nil_of_le (by omega)] at h
    refine Ev.step (fun K => ?_) h
    simp only [phalaroperef17_Way.l2]
    rw [if_neg (by omega), wv1 p (by omega)]
    rfl
  | succ d ih =>
    intro j x11 hj h
    have hjl : j < x.f1.length := by omega
    rw [List.drop_eq_getElem_cons hjl, List.map_cons, List.foldl_cons] at h
    have he : (if stepE s.data.toList p (toE x.f1[j]) = true then (toE x.f1[j]).f2 else x11) = if (decide (x.f1[j].f0 ≤ bt s (p : Int)) && decide (bt s (p : Int) ≤ x.f1[j].f1)) = true then x.f1[j].f2 else x11 := by
      rw [stepE_bt s p _ hp]
      rfl
    have hrde := rdre_at x.f1 j hjl
    by_cases c1 : bt s (p : Int) ≥ x.f1[j].f0
    · by_cases c2 : bt s (p : Int) ≤ x.f1[j].f1
      · rw [he.trans (by rw [decide_eq_true c2, decide_eq_true (show x.f1[j].f0 ≤ bt s (p : Int) from c1)]; rfl : _ = x.f1[j].f2)] at h
        refine Ev.step (fun K => ?_) (ih (j + 1) _ (by omega) h)
        simp only [phalaroperef17_Way.l2, hrde]
        rw [if_pos (by omega), if_pos (by omega), if_pos (by omega), if_pos (by omega), if_pos c1, if_pos c2, wv1 j (by omega)]
      · rw [he.trans (by rw [decide_eq_false c2, Bool.and_false]; rfl : _ = x11)] at h
        refine Ev.step (fun K => ?_) (ih (j + 1) _ (by omega) h)
        simp only [phalaroperef17_Way.l2, hrde]
        rw [if_pos (by omega), if_pos (by omega), if_pos (by omega), if_pos (by omega), if_pos c1, if_neg c2, wv1 j (by omega)]
    · rw [he.trans (by rw [decide_eq_false (show ¬ x.f1[j].f0 ≤ bt s (p : Int) from c1), Bool.false_and]; rfl : _ = x11)] at h
      refine Ev.step (fun K => ?_) (ih (j + 1) _ (by omega) h)
      simp only [phalaroperef17_Way.l2, hrde]
      rw [if_pos (by omega), if_pos (by omega), if_pos (by omega), if_pos (by omega), if_neg c1, wv1 j (by omega)]
end
theorem may_pos' {m : List S49} (h : mayB m = true) : 0 < m.length := by
  unfold mayB at h
  simp only [Bool.and_eq_true, decide_eq_true_eq] at h
  omega
section
variable (l : List S35) (s : ByteArray) (hm : mayB (l.map toN) = true) (hl : l.length ≤ 1000) (hs : s.size ≤ 1000) (hf : ∀ x ∈ l, x.f1.length ≤ 1000 ∧ x.f2.length ≤ 1000)
include hm hs hf in
theorem evWay_l0 : ∀ (n i p k : Nat) (out : List S68), mu (l.map toN) s.data.toList (i, p) ≤ n → i < l.length → p ≤ s.size → k < waysOf (l.map toN) s.data.toList (i, p) → out.length + n ≤ 1000000000 →
    Ev (fun K => phalaroperef17_Way.l0 K l s (k : Int) (tabT l s) out (p : Int) (i : Int)) (out ++ (wayOf (l.map toN) s.data.toList (i, p) k).map hitR, true) := by
  intro n
  have hml : (l.map toN).length = l.length := List.length_map ..
  have hsd := size_data s
  induction n with
  | zero =>
    intro i p k out hmu hi hp
    have := mu_pos (m := l.map toN) (s := s.data.toList) (p := (i, p)) ⟨by rw [hml]; exact hi, by rw [hsd]; exact hp⟩
    omega
  | succ n ih =>
    intro i p k out hmu hi hp hk hol
    have hv : validP (l.map toN) s.data.toList (i, p) := ⟨by rw [hml]; exact hi, by rw [hsd]; exact hp⟩
    have hn : (l.map toN)[i]? = some (toN l[i]) := by rw [List.getElem?_map, List.getElem?_eq_getElem hi]; rfl
    have hr := right_at hm hn
    rw [hml] at hr
    have hx := rdr_at l i hi
    obtain ⟨g1, g2⟩ := hf _ (List.getElem_mem hi)
    have hk1 := waysOf_le hm hv
    have hE : endsB (l.map toN) s.data.toList (i, p) = (decide (l[i].f0 = 4) && decide (p = s.data.toList.length)) := by
      unfold endsB
      rw [show ((i, p) : Nat × Nat).1 = i from rfl, hn]
      rfl
    have hN : nexts (l.map toN) s.data.toList (i, p) = nextsN s.data.toList p (toN l[i]) := by
      unfold nexts
      rw [show ((i, p) : Nat × Nat).1 = i from rfl, hn]
    have hH : hitsAt (l.map toN) (i, p) = if l[i].f0 = 3 then [(l[i].f3, p)] else [] := by
      unfold hitsAt
      rw [show ((i, p) : Nat × Nat).1 = i from rfl, hn]
      rfl
    obtain ⟨x, hxx⟩ : ∃ x, x = l[i] := ⟨_, rfl⟩
    rw [← hxx] at hx hr g1 g2 hE hN hH
    cases he : endsB (l.map toN) s.data.toList (i, p) with
    | true =>
      rw [wayOf_end he, List.map_nil, List.append_nil]
      rw [hE, Bool.and_eq_true, decide_eq_true_eq] at he
      refine Ev.step (fun K => ?_) (Ev.now _)
      simp only [phalaroperef17_Way.l0, hx]
      rw [if_pos (by omega), if_pos (by omega), if_pos he.1]
    | false =>
      obtain ⟨q, j, hpk, hq, hjq⟩ := pick_ways hm hv he hk
      rw [wayOf_step hm hv he hk hpk]
      obtain ⟨hvq, hmq, _⟩ := nexts_valid hm hv hq
      have hq1 : q.1 < l.length := by have := hvq.1; rw [hml] at this; exact this
      have hq2 : q.2 ≤ s.size := by have := hvq.2; rw [hsd] at this; exact this
      rw [hN] at hpk hq
      rw [hH]
      have c4 : ¬ x.f0 = 4 := fun h => by
        unfold nextsN at hq
        rw [if_neg (show ¬ (toN x).f0 = 3 by show ¬ x.f0 = 3; omega), if_neg (show ¬ (toN x).f0 = 2 by show ¬ x.f0 = 2; omega), if_neg (show ¬ (toN x).f0 = 1 by show ¬ x.f0 = 1; omega)] at hq
        cases hq
      have hl0 : ∀ K, phalaroperef17_Way.l0 (K + 1) l s (k : Int) (tabT l s) out (p : Int) (i : Int) = if x.f0 = 3 then (phalaroperef17_Way.j2 K l s (k : Int) (tabT l s) (out ++ [(⟨x.f3, (p : Int)⟩ : S68)]) (p : Int) x.f4 x.f0 x.f1 x.f2 x.f3 x.f4) else (phalaroperef17_Way.j2 K l s (k : Int) (tabT l s) out (p : Int) (i : Int) x.f0 x.f1 x.f2 x.f3 x.f4) := fun K => by
        simp only [phalaroperef17_Way.l0, hx]
        rw [if_pos (by omega), if_pos (by omega), if_neg c4, if_pos (show out.length < 8796093022208 by omega)]
      by_cases c3 : x.f0 = 3
      · unfold nextsN at hpk
        rw [if_pos (show (toN x).f0 = 3 from c3)] at hpk
        unfold pick at hpk
        have hpk2 : ((toN x).f4.toNat, p) = q ∧ k = j := by
          split at hpk
          · simpa using hpk
          · cases hpk
        obtain ⟨rfl, rfl⟩ := hpk2
        obtain ⟨m1, m2⟩ := right_mark hr c3
        obtain ⟨u, hu⟩ : ∃ u : Nat, x.f4 = (u : Int) := Int.eq_ofNat_of_zero_le (by omega)
        have h := ih (toN x).f4.toNat p k (out ++ [(⟨x.f3, (p : Int)⟩ : S68)]) (Nat.le_of_lt_succ (Nat.lt_of_lt_of_le hmq hmu)) hq1 hq2 hjq (by rw [List.length_append, List.length_singleton]; omega)
        rw [if_pos c3, List.map_append]
        rw [List.append_assoc] at h
        have e4 : (((toN x).f4.toNat : Nat) : Int) = x.f4 := by show ((x.f4.toNat : Nat) : Int) = x.f4; omega
        rw [e4] at h
        refine Ev.step (f := fun K => phalaroperef17_Way.j2 K l s (k : Int) (tabT l s) (out ++ [(⟨x.f3, (p : Int)⟩ : S68)]) (p : Int) x.f4 x.f0 x.f1 x.f2 x.f3 x.f4) (fun K => by rw [hl0, if_pos c3]) (Ev.step (f := fun K => phalaroperef17_Way.j4 K l s (k : Int) (tabT l s) (out ++ [(⟨x.f3, (p : Int)⟩ : S68)]) (p : Int) x.f4 x.f0 x.f1 x.f2 x.f3 x.f4) (fun K => ?_) (Ev.step (fun K => ?_) h))
        · simp only [phalaroperef17_Way.j2]; rw [if_neg (by omega)]
        · simp only [phalaroperef17_Way.j4]; rw [if_neg (by omega)]
      rw [if_neg c3, List.nil_append]
      have h := ih q.1 q.2 j out (Nat.le_of_lt_succ (Nat.lt_of_lt_of_le hmq hmu)) hq1 hq2 hjq (by omega)
      by_cases c2 : x.f0 = 2
      · unfold nextsN at hpk
        rw [if_neg (show ¬ (toN x).f0 = 3 from c3), if_pos (show (toN x).f0 = 2 from c2)] at hpk
        have h1 := evWay_l1 l s _ out x p hp c2 g2 (fun t ht => by obtain ⟨a, b⟩ := right_forks hr t ht; exact ⟨by omega, b⟩) q j h x.f2.length 0 k (by omega) (by omega) (by rw [List.drop_zero]; exact hpk)
        refine Ev.step (f := fun K => phalaroperef17_Way.j2 K l s (k : Int) (tabT l s) out (p : Int) (i : Int) x.f0 x.f1 x.f2 x.f3 x.f4) (fun K => by rw [hl0, if_neg c3]) (Ev.step (fun K => ?_) h1)
        simp only [phalaroperef17_Way.j2]
        rw [if_pos c2]
        rfl
      · unfold nextsN at hpk hq
        by_cases c1 : x.f0 = 1
        · rw [if_neg (show ¬ (toN x).f0 = 3 from c3), if_neg (show ¬ (toN x).f0 = 2 from c2), if_pos (show (toN x).f0 = 1 from c1)] at hpk hq
          have heat : eatsB l.length (x.f1.map toE) = true := by
            unfold rightB toN at hr
            dsimp only at hr
            rw [if_pos c1] at hr
            simp only [Bool.and_eq_true] at hr
            exact hr.2
          have hfil : ∃ e ∈ x.f1, (x.f1.map toE).filter (stepE s.data.toList p) = [toE e] := by
            rcases one_step heat (s := s.data.toList) (p := p) with h0 | ⟨e, h0⟩
            · rw [show (toN x).f1 = x.f1.map toE from rfl, h0] at hq
              cases hq
            · have hm1 : e ∈ (x.f1.map toE).filter (stepE s.data.toList p) := by rw [h0]; simp
              obtain ⟨y, hy, rfl⟩ := List.mem_map.1 (List.mem_filter.1 hm1).1
              exact ⟨y, hy, h0⟩
          obtain ⟨e, hemem, hfe⟩ := hfil
          have hst : stepE s.data.toList p (toE e) = true := by
            have hm1 : toE e ∈ (x.f1.map toE).filter (stepE s.data.toList p) := by rw [hfe]; simp
            exact (List.mem_filter.1 hm1).2
          have hps : p < s.size := by
            rcases Nat.lt_or_ge p s.size with h0 | h0
            · exact h0
            · rw [stepE_end s p _ h0] at hst; cases hst
          rw [show (toN x).f1 = x.f1.map toE from rfl, hfe, List.map_cons, List.map_nil] at hpk
          unfold pick at hpk
          have hpk2 : ((toE e).f2.toNat, p + 1) = q ∧ k = j := by
            split at hpk
            · simpa using hpk
            · cases hpk
          obtain ⟨rfl, rfl⟩ := hpk2
          obtain ⟨m1, m2⟩ := right_edges hr e hemem
          have e4 : (((toE e).f2.toNat : Nat) : Int) = e.f2 := by show ((e.f2.toNat : Nat) : Int) = e.f2; omega
          dsimp only at h
          rw [e4] at h
          have h1 := evWay_l2 l s hs _ out x (k : Int) p hps g1 x.f1.length 0 (i : Int) (by omega) (by
            rw [List.drop_zero, fold_filter, hfe]
            exact h)
          refine Ev.step (f := fun K => phalaroperef17_Way.j2 K l s (k : Int) (tabT l s) out (p : Int) (i : Int) x.f0 x.f1 x.f2 x.f3 x.f4) (fun K => by rw [hl0, if_neg c3]) (Ev.step (f := fun K => phalaroperef17_Way.j4 K l s (k : Int) (tabT l s) out (p : Int) (i : Int) x.f0 x.f1 x.f2 x.f3 x.f4) (fun K => ?_) (Ev.step (fun K => ?_) h1))
          · simp only [phalaroperef17_Way.j2]; rw [if_neg c2]
          · simp only [phalaroperef17_Way.j4]; rw [if_pos c1]; rfl
        · rw [if_neg (show ¬ (toN x).f0 = 3 from c3), if_neg (show ¬ (toN x).f0 = 2 from c2), if_neg (show ¬ (toN x).f0 = 1 from c1)] at hq
          cases hq
include hm hl hs hf in
theorem evWay_j0 (k : Int) (hk : 0 ≤ k) : Ev (fun K => phalaroperef17_Way.j0 K l s k false) ((wayF (l.map toN) s.data.toList k).1.map hitR, (wayF (l.map toN) s.data.toList k).2) := by
  have hml : (l.map toN).length = l.length := List.length_map ..
  have h0 : 0 < l.length := by rw [← hml]; exact may_pos' hm
  have hv : validP (l.map toN) s.data.toList (0, 0) := ⟨by rw [hml]; exact h0, Nat.zero_le _⟩
  have hw := waysOf_le hm hv
  have hstep : ∀ K, phalaroperef17_Way.j0 (K + 1) l s k false = (phalaroperef17_Table.f K l s).bind fun t145 => (if 0 < (t145.length : Int) then (if 0 < ((rd_L4 t145 0).length : Int) then (if k ≥ (rd (rd_L4 t145 0) 0) then (some (([] : List S68), false)) else (phalaroperef17_Way.l0 K l s k t145 ([] : List S68) 0 0)) else (none)) else (none)) := fun K => by
    simp only [phalaroperef17_Way.j0]
    rfl
  refine Ev.step hstep (Ev.bind (evTable l s hm hl hs hf) ?_)
  have r0 : rd_L4 (tabT l s) 0 = rowT l s 0 := rdL_of (i := 0) (tabT_at l s 0 (Nat.zero_le _))
  have r1 : rd (rowT l s 0) 0 = ((waysOf (l.map toN) s.data.toList (0, 0) : Nat) : Int) := rd_of (i := 0) (rowT_at l s 0 0 h0)
  rw [r0, r1]
  refine Ev.congr (f := fun K => if k ≥ ((waysOf (l.map toN) s.data.toList (0, 0) : Nat) : Int) then (some (([] : List S68), false)) else (phalaroperef17_Way.l0 K l s k (tabT l s) ([] : List S68) 0 0)) (fun K => by rw [if_pos (by rw [tabT_len]; omega), if_pos (by rw [rowT_len]; omega)]) ?_
  by_cases c : k ≥ ((waysOf (l.map toN) s.data.toList (0, 0) : Nat) : Int)
  · have e : wayF (l.map toN) s.data.toList k = ([], false) := by unfold wayF; rw [if_neg (by omega)]
    rw [e]
    refine Ev.congr (fun K => ?_) (Ev.now _)
    rw [if_pos c]
    rfl
  · obtain ⟨u, rfl⟩ := Int.eq_ofNat_of_zero_le hk
    have e : wayF (l.map toN) s.data.toList (u : Int) = (wayOf (l.map toN) s.data.toList (0, 0) u, true) := by unfold wayF; rw [if_pos ⟨hm, by omega, by omega⟩, Int.toNat_natCast]
    rw [e]
    have hmu : mu (l.map toN) s.data.toList (0, 0) ≤ 1001000 := by
      unfold mu
      rw [hml, size_data]
      have h1 : (s.size - 0) * l.length ≤ 1000 * 1000 := Nat.mul_le_mul (by omega) (by omega)
      show (s.size - 0) * l.length + (l.length - 0) ≤ 1001000
      omega
    have h := evWay_l0 l s hm hs hf 1001000 0 0 u [] hmu h0 (Nat.zero_le _) (by omega) (by simp)
    rw [List.nil_append] at h
    refine Ev.congr (fun K => ?_) h
    rw [if_neg c]
    rfl
end
section
variable (l : List S35) (s : ByteArray) (hl : l.length ≤ 1000) (hs : s.size ≤ 1000) (hf : ∀ x ∈ l, x.f1.length ≤ 1000 ∧ x.f2.length ≤ 1000)
include hl hs hf in
theorem evWay (k : Int) : Ev (fun K => phalaroperef17_Way.f K l s k) ((wayF (l.map toN) s.data.toList k).1.map hitR, (wayF (l.map toN) s.data.toList k).2) := by
  have hM := evMay l (by omega) (fun x hx => by have := hf x hx; omega)
  have hT : Ev (fun K => phalaroperef17_Way.j0 K l s k true) (([] : List S68), false) := Ev.step (fun K => by simp only [phalaroperef17_Way.j0]; rfl) (Ev.now _)
  unfold phalaroperef17_Way.f
  refine Ev.bind hM ?_
  cases hm : mayB (l.map toN) with
  | false =>
    have e : wayF (l.map toN) s.data.toList k = ([], false) := by unfold wayF; rw [if_neg (by rw [hm]; simp)]
    rw [e]
    exact Ev.congr (fun K => by rw [if_neg (by simp)]) hT
  | true =>
    by_cases c : k < 0
    · have e : wayF (l.map toN) s.data.toList k = ([], false) := by unfold wayF; rw [if_neg (by omega)]
      rw [e]
      exact Ev.congr (fun K => by rw [if_pos rfl, if_pos c]) hT
    · by_cases c2 : k ≥ 1000
      · have hml : (l.map toN).length = l.length := List.length_map ..
        have hw := waysOf_le (s := s.data.toList) hm (p := (0, 0)) ⟨may_pos' hm, Nat.zero_le _⟩
        have e : wayF (l.map toN) s.data.toList k = ([], false) := by unfold wayF; rw [if_neg (by omega)]
        rw [e]
        exact Ev.congr (fun K => by rw [if_pos rfl, if_neg c, decide_eq_true c2]) hT
      · exact Ev.congr (fun K => by rw [if_pos rfl, if_neg c, decide_eq_false c2]) (evWay_j0 l s hm hl hs hf k (by omega))
include hl hs hf in
theorem evMany (k : Int) : Ev (fun K => phalaroperef17_Many.f K l s k) (manyF (l.map toN) s.data.toList k) := by
  have hM := evMay l (by omega) (fun x hx => by have := hf x hx; omega)
  unfold phalaroperef17_Many.f
  refine Ev.bind hM ?_
  cases hm : mayB (l.map toN) with
  | false =>
    have e : manyF (l.map toN) s.data.toList k = 0 := by unfold manyF; rw [if_neg (by rw [hm]; simp)]
    rw [e]
    exact Ev.congr (fun K => by rw [if_neg (by simp)]) (Ev.now _)
  | true =>
    have hml : (l.map toN).length = l.length := List.length_map ..
    have h0 : 0 < l.length := by rw [← hml]; exact may_pos' hm
    have r0 : rd_L4 (tabT l s) 0 = rowT l s 0 := rdL_of (i := 0) (tabT_at l s 0 (Nat.zero_le _))
    have r1 : rd (rowT l s 0) 0 = ((waysOf (l.map toN) s.data.toList (0, 0) : Nat) : Int) := rd_of (i := 0) (rowT_at l s 0 0 h0)
    refine Ev.congr (fun K => by rw [if_pos rfl]) (Ev.bind (evTable l s hm hl hs hf) ?_)
    rw [r0, r1]
    rw [if_pos (by rw [tabT_len]; omega), if_pos (by rw [rowT_len]; omega), mx_max, mn_min]
    have e : max 0 (min k ((waysOf (l.map toN) s.data.toList (0, 0) : Nat) : Int)) = manyF (l.map toN) s.data.toList k := by
      unfold manyF
      by_cases c : 1 ≤ k
      · rw [if_pos ⟨hm, c⟩]; omega
      · rw [if_neg (by omega)]; omega
    rw [e]
    exact Ev.now _
end
end Go.Proofs.Ytecpjfipkejmoaa.PA
end
section
namespace Go.Proofs.Ytecpjfipkejmoaa.PA
set_option linter.unusedSimpArgs false
set_option linter.unusedVariables false
open Go.RowKit Go.Maps Go.Proofs.YtecpjfipkejmoaaW.PrintWords Go.Proofs.YtecpjfipkejmoaaW.PrintLast Go.Proofs.YtecpjfipkejmoaaW.PrintMore
theorem First_any (A : Option Addr) (c : Nat) (m : List S49) (s : ByteArray) (w : World) (hr : Kd.C k49 w A m.length m) (hok : okM m) (hs : s.size ≤ 1000000) :
    Calls Try.prog 13 #[.slice A m.length c, .string s] w fun e W' => ∃ v, e = .returned (.tuple #[v, .bool (wayF m s.data.toList 0).2]) ∧ W'.ownsRow w.heap.size 31 2 v (wayF m s.data.toList 0).1.length (hflat (wayF m s.data.toList 0).1) ∧ Below w.heap.size w W' := by
  have HW := Aside0.mk (Way_any A c m s 0 w hr hok hs)
  clear hr
  generalize wayF m s.data.toList 0 = p at HW ⊢
  go_enter Try.func13, Try.ntmps13
  go_wp2_with fail
  refine HW.out.mono ?_
  rintro e w1 ⟨v, rfl, ho, hb⟩
  have HO := Aside0.mk ho
  have HB := Aside0.mk hb
  clear ho hb
  go_wp2_with fail
  go_ret2
  exact ⟨v, rfl, HO.out, HB.out⟩
theorem hits_slice {w : World} {b : Nat} {v : Value} {l : List (Int × Nat)} (h : w.ownsRow b 31 2 v l.length (hflat l)) : ∃ A c, v = .slice A l.length c := by
  rcases h.2 with ⟨h1, h2⟩ | ⟨g, cap, cur, h1, _⟩
  · exact ⟨none, 0, by rw [h1, h2]⟩
  · exact ⟨_, _, h1⟩
def m3 : List S49 := [⟨2, [], [2, 1], 0, 0⟩, ⟨3, [], [], 7, 2⟩, ⟨4, [], [], 0, 0⟩]
theorem m3_ok : okM m3 := by
  intro n hn
  simp only [m3, List.mem_cons, List.not_mem_nil, or_false] at hn
  rcases hn with rfl | rfl | rfl <;> simp
theorem w0_ : wayF m3 [] 0 = ([], true) := by decide +kernel
theorem w1_ : wayF m3 [] 1 = ([(7, 0)], true) := by decide +kernel
theorem w2_ : wayF m3 [] 2 = ([], false) := by decide +kernel
theorem w3_ : manyF m3 [] 9 = 2 := by decide +kernel
theorem m3_row (w : World) : Kd.C k49 ((w.alloc (.cells #[.int .i64 2, .int .i64 1] 3)).alloc (.cells #[.int .i64 2, .slice none 0 0, .slice (some ⟨w.heap.size, 0, none⟩) 2 2, .int .i64 0, .int .i64 0, .int .i64 3, .slice none 0 0, .slice none 0 0, .int .i64 7, .int .i64 2, .int .i64 4, .slice none 0 0, .slice none 0 0, .int .i64 0, .int .i64 0] 49)) (some ⟨w.heap.size + 1, 0, none⟩) 3 m3 := by
  have h1 := World.ownsRow_lit (base := w.heap.size) (e := 3) (size := 1) w #[.int .i64 2, .int .i64 1] 2 (Nat.le_refl _) (by simp [maxLen]) (by simp)
  obtain ⟨A, c, hv, hl, hc⟩ := ints_row (l := [2, 1]) (by simpa using h1)
  injection hv with hv1 hv2 hv3
  subst hv1
  subst hv3
  have hc2 := Kd.C_alloc hc (.cells #[.int .i64 2, .slice none 0 0, .slice (some ⟨w.heap.size, 0, none⟩) 2 2, .int .i64 0, .int .i64 0, .int .i64 3, .slice none 0 0, .slice none 0 0, .int .i64 7, .int .i64 2, .int .i64 4, .slice none 0 0, .slice none 0 0, .int .i64 0, .int .i64 0] 49)
  have h2 := World.ownsRow_lit (base := w.heap.size) (e := 49) (size := 5) (w.alloc (.cells #[.int .i64 2, .int .i64 1] 3)) #[.int .i64 2, .slice none 0 0, .slice (some ⟨w.heap.size, 0, none⟩) 2 2, .int .i64 0, .int .i64 0, .int .i64 3, .slice none 0 0, .slice none 0 0, .int .i64 7, .int .i64 2, .int .i64 4, .slice none 0 0, .slice none 0 0, .int .i64 0, .int .i64 0] 3 (by simp) (by simp [maxLen]) (by simp)
  have k1 := k49_mk ((w.alloc (.cells #[.int .i64 2, .int .i64 1] 3)).alloc (.cells #[.int .i64 2, .slice none 0 0, .slice (some ⟨w.heap.size, 0, none⟩) 2 2, .int .i64 0, .int .i64 0, .int .i64 3, .slice none 0 0, .slice none 0 0, .int .i64 7, .int .i64 2, .int .i64 4, .slice none 0 0, .slice none 0 0, .int .i64 0, .int .i64 0] 49)) ⟨2, [], [2, 1], 0, 0⟩ (A1 := none) (c1 := 0) (Nat.le_refl _) (X.C_nil _ _) (A2 := some ⟨w.heap.size, 0, none⟩) (c2 := 2) (Nat.le_refl _) hc2
  have k2 := k49_mk ((w.alloc (.cells #[.int .i64 2, .int .i64 1] 3)).alloc (.cells #[.int .i64 2, .slice none 0 0, .slice (some ⟨w.heap.size, 0, none⟩) 2 2, .int .i64 0, .int .i64 0, .int .i64 3, .slice none 0 0, .slice none 0 0, .int .i64 7, .int .i64 2, .int .i64 4, .slice none 0 0, .slice none 0 0, .int .i64 0, .int .i64 0] 49)) ⟨3, [], [], 7, 2⟩ (A1 := none) (c1 := 0) (Nat.le_refl _) (X.C_nil _ _) (A2 := none) (c2 := 0) (Nat.le_refl _) (X.C_nil _ _)
  have k3 := k49_mk ((w.alloc (.cells #[.int .i64 2, .int .i64 1] 3)).alloc (.cells #[.int .i64 2, .slice none 0 0, .slice (some ⟨w.heap.size, 0, none⟩) 2 2, .int .i64 0, .int .i64 0, .int .i64 3, .slice none 0 0, .slice none 0 0, .int .i64 7, .int .i64 2, .int .i64 4, .slice none 0 0, .slice none 0 0, .int .i64 0, .int .i64 0] 49)) ⟨4, [], [], 0, 0⟩ (A1 := none) (c1 := 0) (Nat.le_refl _) (X.C_nil _ _) (A2 := none) (c2 := 0) (Nat.le_refl _) (X.C_nil _ _)
  have hr := ((((Reps.none (k49.K ((w.alloc (.cells #[.int .i64 2, .int .i64 1] 3)).alloc (.cells #[.int .i64 2, .slice none 0 0, .slice (some ⟨w.heap.size, 0, none⟩) 2 2, .int .i64 0, .int .i64 0, .int .i64 3, .slice none 0 0, .slice none 0 0, .int .i64 7, .int .i64 2, .int .i64 4, .slice none 0 0, .slice none 0 0, .int .i64 0, .int .i64 0] 49))) 5).snoc k1 rfl).snoc k2 rfl).snoc k3 rfl)
  obtain ⟨A, c, hv, hl, hC⟩ := nodes_row (l := m3) h2 rfl (by simpa [m3] using hr)
  injection hv with hv1 _ hv3
  rw [← hv1] at hC
  rw [X.size_alloc1] at hC
  exact hC
set_option maxHeartbeats 8000000 in
set_option maxRecDepth 100000 in
theorem awake_walk (w : World) : Calls Try.prog 8 #[] w fun e W' => e = .returned (.bool true) ∧ Below w.heap.size w W' := by
  have hC := m3_row w
  have HB := Aside0.mk (X.below_new2 w (.cells #[.int .i64 2, .int .i64 1] 3) (.cells #[.int .i64 2, .slice none 0 0, .slice (some ⟨w.heap.size, 0, none⟩) 2 2, .int .i64 0, .int .i64 0, .int .i64 3, .slice none 0 0, .slice none 0 0, .int .i64 7, .int .i64 2, .int .i64 4, .slice none 0 0, .slice none 0 0, .int .i64 0, .int .i64 0] 49))
  have HC := Aside0.mk hC
  clear hC
  go_enter Try.func8, Try.ntmps8
  go_wp2_with fail
  generalize ((w.alloc (.cells #[.int .i64 2, .int .i64 1] 3)).alloc (.cells #[.int .i64 2, .slice none 0 0, .slice (some ⟨w.heap.size, 0, none⟩) 2 2, .int .i64 0, .int .i64 0, .int .i64 3, .slice none 0 0, .slice none 0 0, .int .i64 7, .int .i64 2, .int .i64 4, .slice none 0 0, .slice none 0 0, .int .i64 0, .int .i64 0] 49)) = W at HC HB ⊢
  have h0 := fun (W' : World) (hb : Below W.heap.size W W') => Way_any (some ⟨w.heap.size + 1, 0, none⟩) 3 m3 ⟨#[]⟩ 0 W' (Kd.C_below HC.out hb) m3_ok (by decide)
  have h1 := fun (W' : World) (hb : Below W.heap.size W W') => Way_any (some ⟨w.heap.size + 1, 0, none⟩) 3 m3 ⟨#[]⟩ 1 W' (Kd.C_below HC.out hb) m3_ok (by decide)
  have h2 := fun (W' : World) (hb : Below W.heap.size W W') => Way_any (some ⟨w.heap.size + 1, 0, none⟩) 3 m3 ⟨#[]⟩ 2 W' (Kd.C_below HC.out hb) m3_ok (by decide)
  have h3 := fun (W' : World) (hb : Below W.heap.size W W') => Many_any (some ⟨w.heap.size + 1, 0, none⟩) 3 m3 ⟨#[]⟩ 9 W' (Kd.C_below HC.out hb) m3_ok (by decide)
  simp only [show (⟨#[]⟩ : ByteArray).data.toList = [] from rfl, w0_, w1_, w2_, w3_, show m3.length = 3 from rfl] at h0 h1 h2 h3
  have H0 := Aside0.mk h0
  have H1 := Aside0.mk h1
  have H2 := Aside0.mk h2
  have H3 := Aside0.mk h3
  clear h0 h1 h2 h3
  refine (H0.out W (Below.refl _ _)).mono ?_
  rintro e x1 ⟨v1, rfl, ho1, hb1⟩
  obtain ⟨B1, d1, rfl⟩ := hits_slice ho1
  have X1 := Aside0.mk hb1
  clear ho1 hb1
  go_wp2_with fail
  refine (H1.out x1 X1.out).mono ?_
  rintro e x2 ⟨v2, rfl, ho2, hb2⟩
  have X2 := Aside0.mk (X1.out.trans (hb2.mono X1.out.size))
  rcases ho2.2 with ⟨_, h⟩ | ⟨g, cap, cur, rfl, hg, hgb, _, _, _, htk⟩
  · cases h
  have HGB := Aside0.mk hgb
  have HTK := Aside0.mk htk
  clear ho2 hb2 hgb htk hg
  go_wp2_with fail
  refine (H2.out x2 X2.out).mono ?_
  rintro e x3 ⟨v3, rfl, ho3, hb3⟩
  obtain ⟨B3, d3, rfl⟩ := hits_slice ho3
  have X3 := Aside0.mk (X2.out.trans (hb3.mono X2.out.size))
  have HGB3 := Aside0.mk (blk_below HGB.out hb3)
  clear ho3 hb3
  go_wp2_with fail
  refine (H3.out x3 X3.out).mono ?_
  rintro e x4 ⟨rfl, hb4⟩
  have X4 := Aside0.mk (X3.out.trans (hb4.mono X3.out.size))
  have hgb := blk_below HGB3.out hb4
  have y0 : x4.cell? ⟨g, 0, none⟩ = some (.int .i64 7) := by
    rw [blk_cell hgb, ← Array.getElem?_toList, ← List.getElem?_take_of_lt (show 0 < 1 * 2 by decide), show List.take (1 * 2) cur.toList = _ from HTK.out]; rfl
  have y1 : x4.cell? ⟨g, 1, none⟩ = some (.int .i64 0) := by
    rw [blk_cell hgb, ← Array.getElem?_toList, ← List.getElem?_take_of_lt (show 1 < 1 * 2 by decide), show List.take (1 * 2) cur.toList = _ from HTK.out]; rfl
  clear hgb hb4
  go_wp2_with fail
  go_ret
  exact ⟨rfl, HB.out.trans (X4.out.mono HB.out.size)⟩
end Go.Proofs.Ytecpjfipkejmoaa.PA
end
section
namespace Go.Proofs.Ytecpjfipkejmoaa.PA
set_option linter.unusedSimpArgs false
set_option linter.unusedVariables false
open Go.RowKit Go.Maps Go.Proofs.YtecpjfipkejmoaaW.PrintWords Go.Proofs.YtecpjfipkejmoaaW.PrintLast Go.Proofs.YtecpjfipkejmoaaW.PrintMore
def okF (x : S35) : Prop := x.f1.length ≤ 20 ∧ x.f2.length ≤ 20
theorem w1f (i : Nat) (h : i < 9223372036854775806) : wrap64 ((i : Int) + 1) = ((i + 1 : Nat) : Int) := by unfold wrap64; omega
theorem few_l0 (l : List S35) (d : Nat) : ∀ (k i : Nat), i + d = 61 → 2 * d + 3 < k → (∀ j (hj : j < l.length), j < i → okF l[j]) →
    ∃ b, phalaroperef16_Few.l0 k l (i : Int) = some b ∧ (b = true → l.length ≤ 60 ∧ ∀ x ∈ l, okF x) := by
  have hend : ∀ i : Nat, (∀ j (hj : j < l.length), j < i → okF l[j]) → (l.length ≤ 60 → l.length ≤ i) → (decide ((l.length : Int) ≤ 60)) = true → l.length ≤ 60 ∧ ∀ x ∈ l, okF x := by
    intro i hj hi h
    have h1 : l.length ≤ 60 := by have := of_decide_eq_true h; omega
    refine ⟨h1, fun x hx => ?_⟩
    obtain ⟨j, hjl, rfl⟩ := List.mem_iff_getElem.1 hx
    exact hj j hjl (by have := hi h1; omega)
  have hid : ∀ {α : Type} (c : Prop) [Decidable c] (x : α), (if c then x else x) = x := fun c _ x => by split <;> rfl
  induction d with
  | zero =>
    intro k i hi hk hj
    obtain ⟨k, rfl⟩ : ∃ m, k = m + 2 := ⟨k - 2, by omega⟩
    simp only [phalaroperef16_Few.l0, phalaroperef16_Few.j1]
    have hne : ¬ ((i : Int) < 61) := by omega
    rw [decide_eq_false hne]
    simp only [Bool.false_eq_true, if_false, hid]
    exact ⟨_, rfl, hend i hj (by omega)⟩
  | succ d ih =>
    intro k i hi hk hj
    obtain ⟨k, rfl⟩ : ∃ m, k = m + 2 := ⟨k - 2, by omega⟩
    simp only [phalaroperef16_Few.l0, phalaroperef16_Few.j1]
    have hlt : ((i : Int) < 61) := by omega
    rw [decide_eq_true hlt]
    by_cases hp : (i : Int) < (l.length : Int)
    · have hp' : i < l.length := by omega
      rw [if_pos hp, if_pos rfl, if_pos (by omega), if_pos hp, rdr_at l i hp']
      by_cases h1 : ((l[i].f1).length : Int) > 20
      · exact ⟨false, by rw [if_pos h1], fun h => by cases h⟩
      by_cases h2 : ((l[i].f2).length : Int) > 20
      · exact ⟨false, by rw [if_neg h1, if_pos h2], fun h => by cases h⟩
      rw [if_neg h1, if_neg h2, w1f i (by omega)]
      exact ih k (i + 1) (by omega) (by omega) (fun j hjl hji => by
        rcases Nat.lt_or_ge j i with h | h
        · exact hj j hjl h
        · obtain rfl : j = i := by omega
          exact ⟨by omega, by omega⟩)
    · rw [if_neg hp]
      simp only [Bool.false_eq_true, if_false]
      exact ⟨_, rfl, hend i hj (by omega)⟩
theorem few_any (l : List S35) (s : ByteArray) : ∃ b : Bool, (b = true → l.length ≤ 60 ∧ (∀ x ∈ l, okF x) ∧ s.size ≤ 200) ∧ ∀ (W : World) (A : Option Addr) (c : Nat), Kd.C k35 W A l.length l → l.length ≤ c →
    Calls Try.prog 9 #[.slice A l.length c, .string s] W fun e W' => e = .returned (.bool b) ∧ Below W.heap.size W W' := by
  obtain ⟨b, hb, hf⟩ := few_l0 l 61 200 0 (by omega) (by omega) (fun j _ h => by omega)
  have hE : ∃ b2 : Bool, phalaropelaw17_few.f 200 l s = some b2 ∧ (b2 = true → b = true ∧ s.size ≤ 200) := by
    unfold phalaropelaw17_few.f phalaroperef16_Few.f
    have hb' : phalaroperef16_Few.l0 200 l 0 = some b := hb
    rw [hb']
    cases b with
    | true => exact ⟨_, rfl, fun h => ⟨rfl, by have := of_decide_eq_true h; omega⟩⟩
    | false => exact ⟨false, rfl, fun h => by cases h⟩
  obtain ⟨b2, he, h2⟩ := hE
  refine ⟨b2, fun h => ⟨(hf (h2 h).1).1, (hf (h2 h).1).2, (h2 h).2⟩, fun W A c hr hc => ?_⟩
  exact (phalaropelaw17_few.calls 200 A c l s b2 W hr hc he).mono fun e W' ⟨h1, h2⟩ => ⟨h1, h2.below⟩
theorem few_okM {l : List S35} (h1 : ∀ x ∈ l, okF x) (h2 : ∀ x ∈ l, okRN x) : okM (l.map toN) := by
  intro n hn
  obtain ⟨x, hx, rfl⟩ := List.mem_map.1 hn
  have h := h1 x hx
  refine ⟨?_, ?_, fun e he => ?_⟩
  · have := h.1; simp only [toN, List.length_map]; omega
  · have := h.2; simp only [toN]; omega
  · obtain ⟨y, hy, rfl⟩ := List.mem_map.1 he
    have hw := ((h2 x hx).2.1 y hy).1
    simp only [Lit.wf, Bool.and_eq_true, decide_eq_true_eq] at hw
    exact hw
end Go.Proofs.Ytecpjfipkejmoaa.PA
end
section
namespace Go.Proofs.Ytecpjfipkejmoaa.PA
set_option linter.unusedSimpArgs false
set_option linter.unusedVariables false
open Go.RowKit Go.Maps Go.Proofs.YtecpjfipkejmoaaW.PrintWords Go.Proofs.YtecpjfipkejmoaaW.PrintLast Go.Proofs.YtecpjfipkejmoaaW.PrintMore
def hitP (h : Int × Nat) : S31 := ⟨h.1, (h.2 : Int)⟩
def CR {α : Type} (d : Kd α) (W : World) (v : Value) (l : List α) : Prop := ∃ A c, v = .slice A l.length c ∧ l.length ≤ c ∧ Kd.C d W A l.length l
theorem CR.below {α : Type} {d : Kd α} {W W' : World} {v : Value} {l : List α} (h : CR d W v l) (hb : Below W.heap.size W W') : CR d W' v l := by
  obtain ⟨A, c, h1, h2, h3⟩ := h
  exact ⟨A, c, h1, h2, Kd.C_below h3 hb⟩
theorem wayK_len (m : List S49) (s : List UInt8) : ∀ (f : Nat) (p : Nat × Nat) (k : Nat), (wayK m s f p k).length ≤ f
  | 0, _, _ => Nat.le_refl _
  | f + 1, p, k => by
    rw [wayK]
    split
    · exact Nat.zero_le _
    · rw [List.length_append]
      have h1 : (hitsAt m p).length ≤ 1 := by
        unfold hitsAt
        split
        · split <;> simp
        · simp
      have h2 : ∀ o : Option ((Nat × Nat) × Nat), (match o with | some (q, j) => wayK m s f q j | none => []).length ≤ f := fun o => by
        split
        · exact wayK_len m s f _ _
        · exact Nat.zero_le _
      have h3 := h2 (pick (waysOf m s) (nexts m s p) k)
      exact Nat.le_trans (Nat.add_le_add h1 h3) (by omega)
theorem wayF_len (l : List S35) (s : ByteArray) (hl : l.length ≤ 1000) (hs : s.size ≤ 1000) (k : Int) : (wayF (l.map toN) s.data.toList k).1.length ≤ 1001000 := by
  unfold wayF
  split
  · refine Nat.le_trans (wayK_len _ _ _ _ _) ?_
    unfold mu
    rw [List.length_map, size_data]
    have h1 : (s.size - 0) * l.length ≤ 1000 * 1000 := Nat.mul_le_mul (by omega) (by omega)
    show (s.size - 0) * l.length + (l.length - 0) ≤ 1001000
    omega
  · exact Nat.zero_le _
theorem rd31_at (xs : List S31) (j : Nat) (h : j < xs.length) : rd_T31 xs (j : Int) = xs[j] := by
  unfold rd_T31
  rw [Int.toNat_natCast, List.getD_eq_getElem?_getD, List.getElem?_eq_getElem h]
  rfl
theorem rd68_at (xs : List S68) (j : Nat) (h : j < xs.length) : rd_T68 xs (j : Int) = xs[j] := by
  unfold rd_T68
  rw [Int.toNat_natCast, List.getD_eq_getElem?_getD, List.getElem?_eq_getElem h]
  rfl
theorem evReal (L : List (Int × Nat)) (hL : L.length ≤ 1001000) : Ev (fun k => phalaropelaw17_real.f k (L.map hitP)) (L.map hitR) := by
  have key : ∀ (d i : Nat), i + d = L.length → Ev (fun k => phalaropelaw17_real.l0 k (L.map hitP) ((L.take i).map hitR) (i : Int)) (L.map hitR) := by
    intro d
    induction d with
    | zero =>
      intro i hi
      have hi2 : i = L.length := by omega
      subst hi2
      rw [List.take_length]
      refine Ev.step (fun k => ?_) (Ev.now _)
      simp only [phalaropelaw17_real.l0]
      rw [if_neg (by rw [List.length_map]; omega)]
    | succ d ih =>
      intro i hi
      have hil : i < L.length := by omega
      have h := ih (i + 1) (by omega)
      rw [List.take_succ_eq_append_getElem hil, List.map_append] at h
      refine Ev.step (fun k => ?_) h
      simp only [phalaropelaw17_real.l0]
      rw [if_pos (by rw [List.length_map]; omega), if_pos (by omega), if_pos (by rw [List.length_map, List.length_take]; omega), rd31_at _ i (by rw [List.length_map]; exact hil), wv1 i (by omega), List.getElem_map]
      rfl
  exact key L.length 0 (by omega)
theorem evSame (a : List S68) (ha : a.length ≤ 1001000) : Ev (fun k => phalaroperef17_Same.f k a a) true := by
  have key : ∀ (d i : Nat), i + d = a.length → Ev (fun k => phalaroperef17_Same.l0 k a a (i : Int)) true := by
    intro d
    induction d with
    | zero =>
      intro i hi
      refine Ev.step (fun k => ?_) (Ev.now _)
      simp only [phalaroperef17_Same.l0]
      rw [if_neg (by omega)]
    | succ d ih =>
      intro i hi
      refine Ev.step (fun k => ?_) (ih (i + 1) (by omega))
      simp only [phalaroperef17_Same.l0]
      rw [if_pos (by omega), if_pos (by omega), if_pos (by omega), rd68_at a i (by omega), wv1 i (by omega)]
      simp
  unfold phalaroperef17_Same.f
  exact Ev.congr (fun k => by rw [if_pos rfl]; rfl) (key a.length 0 (by omega))
theorem real_c {W : World} {u : Value} {L : List (Int × Nat)} (h : CR k31 W u (L.map hitP)) (hL : L.length ≤ 1001000) :
    Calls Try.prog 15 #[u] W fun e W' => ∃ v, e = .returned v ∧ CR k68 W' v (L.map hitR) ∧ Below W.heap.size W W' := by
  obtain ⟨A, c, rfl, h2, h3⟩ := h
  obtain ⟨k, hk⟩ := (evReal L hL).rounds
  refine (phalaropelaw17_real.calls k A c _ _ W h3 h2 hk).mono ?_
  rintro e W' ⟨v, rfl, hr, hb⟩
  obtain ⟨A5, c5, rfl, l5, q5⟩ := Kd.R_reads hr
  exact ⟨_, rfl, ⟨A5, c5, rfl, l5, q5⟩, hb⟩
theorem same_c {W : World} {u v : Value} {a b : List S68} (h : CR k68 W u a) (h' : CR k68 W v b) (hL : a.length ≤ 1001000) (e : a = b) :
    Calls Try.prog 14 #[u, v] W fun e W' => e = .returned (.bool true) ∧ Below W.heap.size W W' := by
  subst e
  obtain ⟨A, c, rfl, h2, h3⟩ := h
  obtain ⟨A', c', rfl, h2', h3'⟩ := h'
  obtain ⟨k, hk⟩ := (evSame a hL).rounds
  exact (phalaroperef17_Same.calls k A c a A' c' a true W h3 h2 h3' h2' hk).mono fun e W' ⟨h1, h2⟩ => ⟨h1, h2.below⟩
theorem hits_CR {W : World} {b : Nat} {v : Value} {L : List (Int × Nat)} (h : W.ownsRow b 31 2 v L.length (hflat L)) : CR k31 W v (L.map hitP) := by
  have key : ∀ n, n ≤ L.length → Reps (k31.K W) 2 ((L.take n).map hitP) (hflat (L.take n)) := by
    intro n
    induction n with
    | zero => intro _; exact Reps.none _ _
    | succ n ih =>
      intro hn
      rw [List.take_succ_eq_append_getElem (by omega), hflat_snoc, List.map_append]
      exact (ih (by omega)).snoc (k31_mk W (hitP L[n])) rfl
  have hr := key L.length (Nat.le_refl _)
  rw [List.take_length] at hr
  exact OwnRow.reads ⟨_, by rw [List.length_map]; exact h, hr⟩
theorem rway_c (l : List S35) (s : ByteArray) (hl : l.length ≤ 1000) (hs : s.size ≤ 1000) (hf : ∀ x ∈ l, x.f1.length ≤ 1000 ∧ x.f2.length ≤ 1000) (k : Int) {W : World} {A : Option Addr} {c : Nat} (hr : Kd.C k35 W A l.length l) (hc : l.length ≤ c) :
    Calls Try.prog 12 #[.slice A l.length c, .string s, .int .i64 k] W fun e W' => ∃ v, e = .returned (.tuple #[v, .bool (wayF (l.map toN) s.data.toList k).2]) ∧ CR k68 W' v ((wayF (l.map toN) s.data.toList k).1.map hitR) ∧ Below W.heap.size W W' := by
  obtain ⟨r, hk⟩ := (evWay l s hl hs hf k).rounds
  refine (phalaroperef17_Way.calls r A c l s k _ _ W hr hc hk).mono ?_
  rintro e W' ⟨v, rfl, hr, hb⟩
  obtain ⟨A5, c5, rfl, l5, q5⟩ := Kd.R_reads hr
  exact ⟨_, rfl, ⟨A5, c5, rfl, l5, q5⟩, hb⟩
theorem rmany_c (l : List S35) (s : ByteArray) (hl : l.length ≤ 1000) (hs : s.size ≤ 1000) (hf : ∀ x ∈ l, x.f1.length ≤ 1000 ∧ x.f2.length ≤ 1000) (k : Int) {W : World} {A : Option Addr} {c : Nat} (hr : Kd.C k35 W A l.length l) (hc : l.length ≤ c) :
    Calls Try.prog 17 #[.slice A l.length c, .string s, .int .i64 k] W fun e W' => e = .returned (.int .i64 (manyF (l.map toN) s.data.toList k)) ∧ Below W.heap.size W W' := by
  obtain ⟨r, hk⟩ := (evMany l s hl hs hf k).rounds
  exact phalaroperef17_Many.calls r A c l s k _ W hr hc hk
def tells.T9 : Bool × List (List Nat × List Nat) := (true, [([], []), ([0], [0]), ([1], [1]), ([2, 1, 1], [1, 2]), ([1], [1]), ([3, 4, 3, 1], [1, 3, 4]), ([1, 5], [1, 5]), ([6, 5], [6]), ([7], [7]), ([7], [7]), ([8, 9, 7], [7, 8, 9]), ([7, 10], [7, 10]), ([11, 7], [11]), ([12], [12]), ([12], [12]), ([12], [12]), ([15, 12], [12, 15]), ([13, 14, 16, 12, 12], [12, 13, 14, 16]), ([12], [12]), ([12], [12]), ([12], [12]), ([20, 12], [12, 20]), ([18, 19, 21, 17, 12], [12, 18, 19, 21]), ([17, 22, 12], [12, 17, 22]), ([12, 23], [12, 23]), ([24, 22], [24]), ([25], [25]), ([26, 25, 25], [25, 26]), ([25], [25]), ([27, 28, 27, 25], [25, 27, 28]), ([25, 29], [25, 29]), ([30, 29], [30]), ([31], [31]), ([31], [31]), ([32, 33, 31], [31, 32, 33]), ([31, 34], [31, 34]), ([35, 31, 0, 1, 2, 3, 4, 5, 6, 7, 8, 9, 10, 11, 12, 13, 14, 15, 16, 17, 18, 19, 20, 21, 22, 23, 24, 25, 26, 27, 28, 29, 30, 31, 32, 33, 34, 35], [35])])
def tells.B9 : List Nat := [0, 1, 3, 7, 3, 31, 63, 127, 255, 255, 1023, 2047, 4095, 8191, 8191, 8191, 40959, 131071, 8191, 8191, 8191, 1056767, 3940351, 8388607, 16777215, 33554431, 67108863, 134217727, 67108863, 536870911, 1073741823, 2147483647, 4294967295, 4294967295, 17179869183, 34359738367, 68719476735]
theorem tells.tab9 : rtab .any (opsOf Try.f4 9) = tells.T9 := by kernel_rfl
theorem tells.bits9 : waitsOk tells.T9.2 tells.B9 = true := by kernel_rfl
set_option maxHeartbeats 16000000 in
set_option maxRecDepth 100000 in
theorem FindTells_walk (w : World) {A0 : Option Addr} {c0 : Nat} {l : List S35} (hr0 : Kd.C k35 w A0 l.length l) (hc0 : l.length ≤ c0) (hok : ∀ x ∈ l, okRN x) (s : ByteArray) (k1 k2 : Int) :
    Calls Try.prog 4 #[.slice A0 l.length c0, .string s, .agg #[.int .i64 k1, .int .i64 k2]] w fun e W' => e = .returned (.bool true) ∧ Below w.heap.size w W' := by
  obtain ⟨b, hf, hfew⟩ := few_any l s
  have HF := Aside0.mk hf
  have HFEW := Aside0.mk hfew
  have HR := Aside0.mk hr0
  have HC := Aside0.mk hc0
  have HOK := Aside0.mk hok
  clear hf hfew hr0 hc0 hok
  obtain ⟨n, hn⟩ : ∃ n, n = l.length := ⟨_, rfl⟩
  have HN := Aside0.mk hn
  rw [← hn] at HR HC HFEW ⊢
  clear hn
  go_enter Try.func4, Try.ntmps4
  have hb := X.below_new1 w (.cells #[.int .i64 k1, .int .i64 k2] 37)
  have hkb := blk_new w (.cells #[.int .i64 k1, .int .i64 k2] 37)
  have HB0 := Aside0.mk hb
  have HKB := Aside0.mk hkb
  clear hb hkb
  go_wp2_with fail
  refine (awake_walk _).mono ?_
  rintro e w1 ⟨rfl, hb⟩
  have HB := Aside0.mk (below_step HB0.out hb)
  have HK1 := Aside0.mk (blk_below HKB.out hb)
  clear hb HKB HB0
  go_wp2_with fail
  refine (HFEW.out w1 A0 c0 (by have h := Kd.C_below HR.out HB.out; exact h) HC.out).mono ?_
  rintro e w2 ⟨rfl, hb⟩
  have HB2 := Aside0.mk (below_step HB.out hb)
  have HK2 := Aside0.mk (blk_below HK1.out hb)
  clear hb HB HK1
  cases b with
  | false =>
    go_wp2_with fail
    go_ret
    exact ⟨rfl, HB2.out⟩
  | true =>
    have hff := HF.out rfl
    have hn60 : l.length ≤ 60 := hff.1
    have hs2 : s.size ≤ 200 := hff.2.2
    have hfs : ∀ x ∈ l, x.f1.length ≤ 1000 ∧ x.f2.length ≤ 1000 := fun x hx => by have := hff.2.1 x hx; exact ⟨by have := this.1; omega, by have := this.2; omega⟩
    have hokm := few_okM hff.2.1 HOK.out
    have hml : (l.map toN).length = n := by rw [List.length_map]; exact HN.out.symm
    have HL1 := Aside0.mk (wayF_len l s (by omega) (by omega) k1)
    have HL0 := Aside0.mk (wayF_len l s (by omega) (by omega) 0)
    have HMA := Aside0.mk (fun (W : World) (h : Kd.C k35 W A0 n l) => made_any (A0 := A0) (c0 := c0) (l := l) W (by rw [← HN.out]; exact h) (by omega) (fun x hx => (hfs x hx).1))
    rw [← HN.out] at HMA
    have HWAY := Aside0.mk (fun (W : World) (A : Option Addr) (c : Nat) (h : Kd.C k49 W A n (l.map toN)) => (Way_any A c (l.map toN) s k1 W (by rw [hml]; exact h) hokm (by omega)).mono fun e W' (h : ∃ v, _) => by
      obtain ⟨v, h1, h2, h3⟩ := h
      exact (show ∃ v, e = .returned (.tuple #[v, .bool (wayF (l.map toN) s.data.toList k1).2]) ∧ CR k31 W' v ((wayF (l.map toN) s.data.toList k1).1.map hitP) ∧ Below W.heap.size W W' from ⟨v, h1, hits_CR h2, h3⟩))
    have HFIR := Aside0.mk (fun (W : World) (A : Option Addr) (c : Nat) (h : Kd.C k49 W A n (l.map toN)) => (First_any A c (l.map toN) s W (by rw [hml]; exact h) hokm (by omega)).mono fun e W' (h : ∃ v, _) => by
      obtain ⟨v, h1, h2, h3⟩ := h
      exact (show ∃ v, e = .returned (.tuple #[v, .bool (wayF (l.map toN) s.data.toList 0).2]) ∧ CR k31 W' v ((wayF (l.map toN) s.data.toList 0).1.map hitP) ∧ Below W.heap.size W W' from ⟨v, h1, hits_CR h2, h3⟩))
    have HMANY := Aside0.mk (fun (W : World) (A : Option Addr) (c : Nat) (h : Kd.C k49 W A n (l.map toN)) => Many_any A c (l.map toN) s k2 W (by rw [hml]; exact h) hokm (by omega))
    have HRW1 := Aside0.mk (fun (W : World) (h : Kd.C k35 W A0 n l) => rway_c l s (by omega) (by omega) hfs k1 (A := A0) (c := c0) (W := W) (by rw [← HN.out]; exact h) (by rw [← HN.out]; exact HC.out))
    have HRW0 := Aside0.mk (fun (W : World) (h : Kd.C k35 W A0 n l) => rway_c l s (by omega) (by omega) hfs 0 (A := A0) (c := c0) (W := W) (by rw [← HN.out]; exact h) (by rw [← HN.out]; exact HC.out))
    have HRMANY := Aside0.mk (fun (W : World) (h : Kd.C k35 W A0 n l) => rmany_c l s (by omega) (by omega) hfs k2 (A := A0) (c := c0) (W := W) (by rw [← HN.out]; exact h) (by rw [← HN.out]; exact HC.out))
    rw [← HN.out] at HRW1 HRW0 HRMANY
    rw [hml] at HWAY HFIR HMANY
    generalize manyF (l.map toN) s.data.toList k2 = mny at HMANY HRMANY
    generalize wayF (l.map toN) s.data.toList k1 = P1 at HL1 HWAY HRW1
    generalize wayF (l.map toN) s.data.toList 0 = P0 at HL0 HFIR HRW0
    obtain ⟨L1, b1⟩ := P1
    obtain ⟨L0, b0⟩ := P0
    dsimp only at HL1 HWAY HRW1 HL0 HFIR HRW0
    clear hff hs2 HF HFEW hn60 hfs hokm hml
    go_wp2_with fail
    refine (HMA.out w2 (Kd.C_below HR.out HB2.out)).mono ?_
    rintro e w3 ⟨A3, c3, rfl, _, C3, hb⟩
    have HB3 := Aside0.mk (below_step HB2.out hb)
    have HK3 := Aside0.mk (blk_below HK2.out hb)
    have HC3 := Aside0.mk C3
    clear hb C3 HB2 HK2 HMA
    have hcb := cells2 HK3.out
    go_wp2_with fail
    refine (HWAY.out w3 A3 c3 HC3.out).mono ?_
    rintro e w4 ⟨v4, rfl, hv4, hb⟩
    have HB4 := Aside0.mk (below_step HB3.out hb)
    have HK4 := Aside0.mk (blk_below HK3.out hb)
    have HC4 := Aside0.mk (Kd.C_below HC3.out hb)
    have HV4 := Aside0.mk hv4
    clear hb hv4 HB3 HK3 HC3 hcb HWAY
    have hcb := cells2 HK4.out
    go_wp2_with fail
    refine (HRW1.out w4 (Kd.C_below HR.out HB4.out)).mono ?_
    rintro e w5 ⟨v5, rfl, hv5, hb⟩
    have HB5 := Aside0.mk (below_step HB4.out hb)
    have HK5 := Aside0.mk (blk_below HK4.out hb)
    have HC5 := Aside0.mk (Kd.C_below HC4.out hb)
    have HV45 := Aside0.mk (HV4.out.below hb)
    have HV5 := Aside0.mk hv5
    clear hb hv5 HB4 HK4 HC4 hcb HV4 HRW1
    go_wp2_with fail
    refine (HFIR.out w5 A3 c3 HC5.out).mono ?_
    rintro e w6 ⟨v6, rfl, hv6, hb⟩
    have HB6 := Aside0.mk (below_step HB5.out hb)
    have HK6 := Aside0.mk (blk_below HK5.out hb)
    have HC6 := Aside0.mk (Kd.C_below HC5.out hb)
    have HV46 := Aside0.mk (HV45.out.below hb)
    have HV56 := Aside0.mk (HV5.out.below hb)
    have HV6 := Aside0.mk hv6
    clear hb hv6 HB5 HK5 HC5 HV45 HV5 HFIR
    go_wp2_with fail
    refine (HRW0.out w6 (Kd.C_below HR.out HB6.out)).mono ?_
    rintro e w7 ⟨v7, rfl, hv7, hb⟩
    have HB7 := Aside0.mk (below_step HB6.out hb)
    have HK7 := Aside0.mk (blk_below HK6.out hb)
    have HC7 := Aside0.mk (Kd.C_below HC6.out hb)
    have HV47 := Aside0.mk (HV46.out.below hb)
    have HV57 := Aside0.mk (HV56.out.below hb)
    have HV67 := Aside0.mk (HV6.out.below hb)
    have HV7 := Aside0.mk hv7
    clear hb hv7 HB6 HK6 HC6 HV46 HV56 HV6 HRW0
    go_wp2_with fail
    refine start_ (n := 37) (S := fun w' => True) (ds := []) #[false, false, false, false, false, false, false, false, false, false, false, false, false, false, false, false, false, false, false, false, false, false, false, false, false, false, false, false, false, false, false, false, false, false, false, false, false] (by kernel_rfl) rfl rfl trivial (fun hHeld => ?_)
    refine with_tabW tells.tab9 tells.bits9 (fun HT_ HW_ => ?_)
    refine inv_at [0, 1, 2, 3, 4, 5, 6, 7, 8, 9, 10, 11, 12, 13, 14, 15, 16, 17, 18, 19, 20, 21, 22, 23, 24, 25, 26, 27, 28, 29, 30, 31, 32, 33, 34, 35, 36] (fun a0_ b a w' => ∃ (v3 : Value) (v27 : Value), a = putSel a0_ b [(0, 53, .bool true), (1, 54, .bool true), (2, 55, v4), (3, 56, v3), (4, 57, v5), (5, 58, .bool true), (6, 59, .bool true), (7, 60, .bool true), (8, 61, .bool b1), (9, 62, .bool b1), (10, 63, .bool true), (11, 64, .bool true), (12, 65, .bool true), (13, 66, .slice A3 n c3), (14, 67, .string s), (15, 68, .pointer (some ⟨w.heap.size, 1, none⟩)), (16, 69, .int .i64 k2), (17, 70, .int .i64 mny), (18, 71, .slice A0 n c0), (19, 72, .string s), (20, 73, .pointer (some ⟨w.heap.size, 1, none⟩)), (21, 74, .int .i64 k2), (22, 75, .int .i64 mny), (23, 76, .bool true), (24, 77, .bool true), (25, 78, .bool true), (26, 79, v6), (27, 80, v27), (28, 81, v7), (29, 82, .bool true), (30, 83, .bool true), (31, 84, .bool true), (32, 85, .bool b0), (33, 86, .bool b0), (34, 87, .bool true), (35, 88, .bool true), (36, 6, .bool true)] ∧ Below w7.drew.heap.size w7.drew w' ∧ (b 3 = true → CR k68 w' v3 (L1.map hitR)) ∧ (b 27 = true → CR k68 w' v27 (L0.map hitR))) HT_.out HW_.out (by kernel_rfl) (by kernel_rfl) ?_ ?_ ?_
    · exact ⟨.bool false, .bool false, by simp only [putSel, Bool.false_eq_true, if_false], Below.refl _ _, fun h_ => absurd h_ (by decide), fun h_ => absurd h_ (by decide)⟩
    · clear hHeld HT_ HW_
      refine steps_cons ?_ ?_
      · rintro b a w' ⟨v3, v27, ha, HBW, Q_V3, Q_V27⟩ hb_ hon hoff
        refine ⟨_, rfl, fun K hK => ?_⟩
        have e7 : a.tmps[7]? = some (.bool true) := by rw [ha]; exact (putSel_off rfl).trans rfl
        replace ha := Aside0.mk ha
        have HBW := Aside0.mk HBW
        refine value_ (w1 := w') (v := .bool true) (by rfl) rfl ?_ ?_
        · go_simp
          (try simp only [i64_w])
          try rfl
        refine hK.out _ _ ⟨v3, v27, (by rw [ha.out]; exact putSel_upk 0 hb_ rfl rfl rfl), HBW.out, Q_V3, Q_V27⟩
      refine steps_cons ?_ ?_
      · rintro b a w' ⟨v3, v27, ha, HBW, Q_V3, Q_V27⟩ hb_ hon hoff
        refine ⟨_, rfl, fun K hK => ?_⟩
        have e53 : a.tmps[53]? = some (.bool true) := by rw [ha]; exact putSel_on (e := (0, 53, .bool true)) 0 rfl rfl (hon 0 (by kernel_rfl)) rfl
        replace ha := Aside0.mk ha
        have HBW := Aside0.mk HBW
        refine value_ (w1 := w') (v := .bool true) (by rfl) rfl ?_ ?_
        · go_simp
          (try simp only [i64_w])
          try rfl
        refine hK.out _ _ ⟨v3, v27, (by rw [ha.out]; exact putSel_upk 1 hb_ rfl rfl rfl), HBW.out, Q_V3, Q_V27⟩
      refine steps_cons ?_ ?_
      · rintro b a w' ⟨v3, v27, ha, HBW, Q_V3, Q_V27⟩ hb_ hon hoff
        refine ⟨_, rfl, fun K hK => ?_⟩
        have e9 : a.tmps[9]? = some (v4) := by rw [ha]; exact (putSel_off rfl).trans rfl
        have e54 : a.tmps[54]? = some (.bool true) := by rw [ha]; exact putSel_on (e := (1, 54, .bool true)) 1 rfl rfl (hon 1 (by kernel_rfl)) rfl
        replace ha := Aside0.mk ha
        have HBW := Aside0.mk HBW
        refine value_ (w1 := w') (v := v4) (wanted_on rfl rfl rfl (e54.trans (by first | rfl | (simp [*]; done)))) rfl ?_ ?_
        · go_simp
          (try simp only [i64_w])
          try rfl
        refine hK.out _ _ ⟨v3, v27, (by rw [ha.out]; exact putSel_upk 2 hb_ rfl rfl rfl), HBW.out, Q_V3, Q_V27⟩
      refine steps_cons ?_ ?_
      · rintro b a w' ⟨v3, v27, ha, HBW, Q_V3, Q_V27⟩ hb_ hon hoff
        refine ⟨_, rfl, fun K hK => ?_⟩
        have e55 : a.tmps[55]? = some (v4) := by rw [ha]; exact putSel_on (e := (2, 55, v4)) 2 rfl rfl (hon 2 (by kernel_rfl)) rfl
        have e54 : a.tmps[54]? = some (.bool true) := by rw [ha]; exact putSel_on (e := (1, 54, .bool true)) 1 rfl rfl (hon 1 (by kernel_rfl)) rfl
        replace ha := Aside0.mk ha
        have HBW := Aside0.mk HBW
        refine goes_ Try.func15 (by kernel_rfl) rfl #[v4] (wanted_on rfl rfl rfl (e54.trans (by first | rfl | (simp [*]; done)))) rfl rfl (by first | (simp only [List.map_toArray, List.map_cons, List.map_nil, Act.eval, Array.getD_eq_getD_getElem?, Option.getD_some, e55, e54]; done) | (simp only [List.map_toArray, List.map_cons, List.map_nil, Act.eval, Array.getD_eq_getD_getElem?, Option.getD_some, e55, e54]; rfl)) ?_
        refine (real_c ((HV47.out.below (below_drew (Below.refl _ _))).below HBW.out) HL1.out).mono ?_
        rintro e w1 ⟨v_, rfl, hv_, hb⟩
        refine ⟨_, rfl, ?_⟩
        refine hK.out _ _ ⟨v_, v27, (by rw [ha.out]; exact putSel_upk 3 hb_ rfl rfl rfl), below_step HBW.out hb, fun _ => hv_, fun h_ => CR.below (Q_V27 h_) hb⟩
      refine steps_cons ?_ ?_
      · rintro b a w' ⟨v3, v27, ha, HBW, Q_V3, Q_V27⟩ hb_ hon hoff
        refine ⟨_, rfl, fun K hK => ?_⟩
        have e11 : a.tmps[11]? = some (v5) := by rw [ha]; exact (putSel_off rfl).trans rfl
        have e54 : a.tmps[54]? = some (.bool true) := by rw [ha]; exact putSel_on (e := (1, 54, .bool true)) 1 rfl rfl (hon 1 (by kernel_rfl)) rfl
        replace ha := Aside0.mk ha
        have HBW := Aside0.mk HBW
        refine value_ (w1 := w') (v := v5) (wanted_on rfl rfl rfl (e54.trans (by first | rfl | (simp [*]; done)))) rfl ?_ ?_
        · go_simp
          (try simp only [i64_w])
          try rfl
        refine hK.out _ _ ⟨v3, v27, (by rw [ha.out]; exact putSel_upk 4 hb_ rfl rfl rfl), HBW.out, Q_V3, Q_V27⟩
      refine steps_cons ?_ ?_
      · rintro b a w' ⟨v3, v27, ha, HBW, Q_V3, Q_V27⟩ hb_ hon hoff
        refine ⟨_, rfl, fun K hK => ?_⟩
        have e56 : a.tmps[56]? = some (v3) := by rw [ha]; exact putSel_on (e := (3, 56, v3)) 3 rfl rfl (hon 3 (by kernel_rfl)) rfl
        have e57 : a.tmps[57]? = some (v5) := by rw [ha]; exact putSel_on (e := (4, 57, v5)) 4 rfl rfl (hon 4 (by kernel_rfl)) rfl
        have e54 : a.tmps[54]? = some (.bool true) := by rw [ha]; exact putSel_on (e := (1, 54, .bool true)) 1 rfl rfl (hon 1 (by kernel_rfl)) rfl
        replace ha := Aside0.mk ha
        have HBW := Aside0.mk HBW
        refine goes_ Try.func14 (by kernel_rfl) rfl #[v3, v5] (wanted_on rfl rfl rfl (e54.trans (by first | rfl | (simp [*]; done)))) rfl rfl (by first | (simp only [List.map_toArray, List.map_cons, List.map_nil, Act.eval, Array.getD_eq_getD_getElem?, Option.getD_some, e56, e57, e54]; done) | (simp only [List.map_toArray, List.map_cons, List.map_nil, Act.eval, Array.getD_eq_getD_getElem?, Option.getD_some, e56, e57, e54]; rfl)) ?_
        refine (same_c (Q_V3 (hon 3 (by kernel_rfl))) ((HV57.out.below (below_drew (Below.refl _ _))).below HBW.out) (by rw [List.length_map]; exact HL1.out) rfl).mono ?_
        rintro e w1 ⟨rfl, hb⟩
        refine ⟨_, rfl, ?_⟩
        refine hK.out _ _ ⟨v3, v27, (by rw [ha.out]; exact putSel_upk 5 hb_ rfl rfl rfl), below_step HBW.out hb, fun h_ => CR.below (Q_V3 h_) hb, fun h_ => CR.below (Q_V27 h_) hb⟩
      refine steps_cons ?_ ?_
      · rintro b a w' ⟨v3, v27, ha, HBW, Q_V3, Q_V27⟩ hb_ hon hoff
        refine ⟨_, rfl, fun K hK => ?_⟩
        have e54 : a.tmps[54]? = some (.bool true) := by rw [ha]; exact putSel_on (e := (1, 54, .bool true)) 1 rfl rfl (hon 1 (by kernel_rfl)) rfl
        have e58 : a.tmps[58]? = some (.bool true) := by rw [ha]; exact putSel_on (e := (5, 58, .bool true)) 5 rfl rfl (hon 5 (by kernel_rfl)) rfl
        replace ha := Aside0.mk ha
        have HBW := Aside0.mk HBW
        refine value_ (w1 := w') (v := .bool true) (by rfl) rfl ?_ ?_
        · go_simp
          (try simp only [i64_w])
          try rfl
        refine hK.out _ _ ⟨v3, v27, (by rw [ha.out]; exact putSel_upk 6 hb_ rfl rfl rfl), HBW.out, Q_V3, Q_V27⟩
      refine steps_cons ?_ ?_
      · rintro b a w' ⟨v3, v27, ha, HBW, Q_V3, Q_V27⟩ hb_ hon hoff
        refine ⟨_, rfl, fun K hK => ?_⟩
        have e59 : a.tmps[59]? = some (.bool true) := by rw [ha]; exact putSel_on (e := (6, 59, .bool true)) 6 rfl rfl (hon 6 (by kernel_rfl)) rfl
        replace ha := Aside0.mk ha
        have HBW := Aside0.mk HBW
        refine value_ (w1 := w') (v := .bool true) (by rfl) rfl ?_ ?_
        · go_simp
          (try simp only [i64_w])
          try rfl
        refine hK.out _ _ ⟨v3, v27, (by rw [ha.out]; exact putSel_upk 7 hb_ rfl rfl rfl), HBW.out, Q_V3, Q_V27⟩
      refine steps_cons ?_ ?_
      · rintro b a w' ⟨v3, v27, ha, HBW, Q_V3, Q_V27⟩ hb_ hon hoff
        refine ⟨_, rfl, fun K hK => ?_⟩
        have e10 : a.tmps[10]? = some (.bool b1) := by rw [ha]; exact (putSel_off rfl).trans rfl
        have e60 : a.tmps[60]? = some (.bool true) := by rw [ha]; exact putSel_on (e := (7, 60, .bool true)) 7 rfl rfl (hon 7 (by kernel_rfl)) rfl
        replace ha := Aside0.mk ha
        have HBW := Aside0.mk HBW
        refine value_ (w1 := w') (v := .bool b1) (wanted_on rfl rfl rfl (e60.trans (by first | rfl | (simp [*]; done)))) rfl ?_ ?_
        · go_simp
          (try simp only [i64_w])
          try rfl
        refine hK.out _ _ ⟨v3, v27, (by rw [ha.out]; exact putSel_upk 8 hb_ rfl rfl rfl), HBW.out, Q_V3, Q_V27⟩
      refine steps_cons ?_ ?_
      · rintro b a w' ⟨v3, v27, ha, HBW, Q_V3, Q_V27⟩ hb_ hon hoff
        refine ⟨_, rfl, fun K hK => ?_⟩
        have e12 : a.tmps[12]? = some (.bool b1) := by rw [ha]; exact (putSel_off rfl).trans rfl
        have e60 : a.tmps[60]? = some (.bool true) := by rw [ha]; exact putSel_on (e := (7, 60, .bool true)) 7 rfl rfl (hon 7 (by kernel_rfl)) rfl
        replace ha := Aside0.mk ha
        have HBW := Aside0.mk HBW
        refine value_ (w1 := w') (v := .bool b1) (wanted_on rfl rfl rfl (e60.trans (by first | rfl | (simp [*]; done)))) rfl ?_ ?_
        · go_simp
          (try simp only [i64_w])
          try rfl
        refine hK.out _ _ ⟨v3, v27, (by rw [ha.out]; exact putSel_upk 9 hb_ rfl rfl rfl), HBW.out, Q_V3, Q_V27⟩
      refine steps_cons ?_ ?_
      · rintro b a w' ⟨v3, v27, ha, HBW, Q_V3, Q_V27⟩ hb_ hon hoff
        refine ⟨_, rfl, fun K hK => ?_⟩
        have e61 : a.tmps[61]? = some (.bool b1) := by rw [ha]; exact putSel_on (e := (8, 61, .bool b1)) 8 rfl rfl (hon 8 (by kernel_rfl)) rfl
        have e62 : a.tmps[62]? = some (.bool b1) := by rw [ha]; exact putSel_on (e := (9, 62, .bool b1)) 9 rfl rfl (hon 9 (by kernel_rfl)) rfl
        have e60 : a.tmps[60]? = some (.bool true) := by rw [ha]; exact putSel_on (e := (7, 60, .bool true)) 7 rfl rfl (hon 7 (by kernel_rfl)) rfl
        replace ha := Aside0.mk ha
        have HBW := Aside0.mk HBW
        refine value_ (w1 := w') (v := .bool true) (wanted_on rfl rfl rfl (e60.trans (by first | rfl | (simp [*]; done)))) rfl ?_ ?_
        · go_simp
          (try simp only [i64_w])
          try rfl
        refine hK.out _ _ ⟨v3, v27, (by rw [ha.out]; exact putSel_upk 10 hb_ rfl rfl rfl), HBW.out, Q_V3, Q_V27⟩
      refine steps_cons ?_ ?_
      · rintro b a w' ⟨v3, v27, ha, HBW, Q_V3, Q_V27⟩ hb_ hon hoff
        refine ⟨_, rfl, fun K hK => ?_⟩
        have e60 : a.tmps[60]? = some (.bool true) := by rw [ha]; exact putSel_on (e := (7, 60, .bool true)) 7 rfl rfl (hon 7 (by kernel_rfl)) rfl
        have e63 : a.tmps[63]? = some (.bool true) := by rw [ha]; exact putSel_on (e := (10, 63, .bool true)) 10 rfl rfl (hon 10 (by kernel_rfl)) rfl
        replace ha := Aside0.mk ha
        have HBW := Aside0.mk HBW
        refine value_ (w1 := w') (v := .bool true) (by rfl) rfl ?_ ?_
        · go_simp
          (try simp only [i64_w])
          try rfl
        refine hK.out _ _ ⟨v3, v27, (by rw [ha.out]; exact putSel_upk 11 hb_ rfl rfl rfl), HBW.out, Q_V3, Q_V27⟩
      refine steps_cons ?_ ?_
      · rintro b a w' ⟨v3, v27, ha, HBW, Q_V3, Q_V27⟩ hb_ hon hoff
        refine ⟨_, rfl, fun K hK => ?_⟩
        have e64 : a.tmps[64]? = some (.bool true) := by rw [ha]; exact putSel_on (e := (11, 64, .bool true)) 11 rfl rfl (hon 11 (by kernel_rfl)) rfl
        replace ha := Aside0.mk ha
        have HBW := Aside0.mk HBW
        refine value_ (w1 := w') (v := .bool true) (by rfl) rfl ?_ ?_
        · go_simp
          (try simp only [i64_w])
          try rfl
        refine hK.out _ _ ⟨v3, v27, (by rw [ha.out]; exact putSel_upk 12 hb_ rfl rfl rfl), HBW.out, Q_V3, Q_V27⟩
      refine steps_cons ?_ ?_
      · rintro b a w' ⟨v3, v27, ha, HBW, Q_V3, Q_V27⟩ hb_ hon hoff
        refine ⟨_, rfl, fun K hK => ?_⟩
        have e8 : a.tmps[8]? = some (.slice A3 n c3) := by rw [ha]; exact (putSel_off rfl).trans rfl
        have e65 : a.tmps[65]? = some (.bool true) := by rw [ha]; exact putSel_on (e := (12, 65, .bool true)) 12 rfl rfl (hon 12 (by kernel_rfl)) rfl
        replace ha := Aside0.mk ha
        have HBW := Aside0.mk HBW
        refine value_ (w1 := w') (v := .slice A3 n c3) (wanted_on rfl rfl rfl (e65.trans (by first | rfl | (simp [*]; done)))) rfl ?_ ?_
        · go_simp
          (try simp only [i64_w])
          try rfl
        refine hK.out _ _ ⟨v3, v27, (by rw [ha.out]; exact putSel_upk 13 hb_ rfl rfl rfl), HBW.out, Q_V3, Q_V27⟩
      refine steps_cons ?_ ?_
      · rintro b a w' ⟨v3, v27, ha, HBW, Q_V3, Q_V27⟩ hb_ hon hoff
        refine ⟨_, rfl, fun K hK => ?_⟩
        have e1 : a.tmps[1]? = some (.string s) := by rw [ha]; exact (putSel_off rfl).trans rfl
        have e65 : a.tmps[65]? = some (.bool true) := by rw [ha]; exact putSel_on (e := (12, 65, .bool true)) 12 rfl rfl (hon 12 (by kernel_rfl)) rfl
        replace ha := Aside0.mk ha
        have HBW := Aside0.mk HBW
        refine value_ (w1 := w') (v := .string s) (wanted_on rfl rfl rfl (e65.trans (by first | rfl | (simp [*]; done)))) rfl ?_ ?_
        · go_simp
          (try simp only [i64_w])
          try rfl
        refine hK.out _ _ ⟨v3, v27, (by rw [ha.out]; exact putSel_upk 14 hb_ rfl rfl rfl), HBW.out, Q_V3, Q_V27⟩
      refine steps_cons ?_ ?_
      · rintro b a w' ⟨v3, v27, ha, HBW, Q_V3, Q_V27⟩ hb_ hon hoff
        refine ⟨_, rfl, fun K hK => ?_⟩
        have e5 : a.tmps[5]? = some (.pointer (some ⟨w.heap.size, 0, none⟩)) := by rw [ha]; exact (putSel_off rfl).trans rfl
        have e65 : a.tmps[65]? = some (.bool true) := by rw [ha]; exact putSel_on (e := (12, 65, .bool true)) 12 rfl rfl (hon 12 (by kernel_rfl)) rfl
        replace ha := Aside0.mk ha
        have HBW := Aside0.mk HBW
        refine value_ (w1 := w') (v := .pointer (some ⟨w.heap.size, 1, none⟩)) (wanted_on rfl rfl rfl (e65.trans (by first | rfl | (simp [*]; done)))) rfl ?_ ?_
        · go_simp
          (try simp only [i64_w])
          try rfl
        refine hK.out _ _ ⟨v3, v27, (by rw [ha.out]; exact putSel_upk 15 hb_ rfl rfl rfl), HBW.out, Q_V3, Q_V27⟩
      refine steps_cons ?_ ?_
      · rintro b a w' ⟨v3, v27, ha, HBW, Q_V3, Q_V27⟩ hb_ hon hoff
        refine ⟨_, rfl, fun K hK => ?_⟩
        have e68 : a.tmps[68]? = some (.pointer (some ⟨w.heap.size, 1, none⟩)) := by rw [ha]; exact putSel_on (e := (15, 68, .pointer (some ⟨w.heap.size, 1, none⟩))) 15 rfl rfl (hon 15 (by kernel_rfl)) rfl
        have e65 : a.tmps[65]? = some (.bool true) := by rw [ha]; exact putSel_on (e := (12, 65, .bool true)) 12 rfl rfl (hon 12 (by kernel_rfl)) rfl
        replace ha := Aside0.mk ha
        have HBW := Aside0.mk HBW
        have hcc := cells2 (blk_below (blk_drew HK7.out) HBW.out)
        refine value_ (w1 := w') (v := .int .i64 k2) (wanted_on rfl rfl rfl (e65.trans (by first | rfl | (simp [*]; done)))) rfl ?_ ?_
        · go_simp
          (try simp only [i64_w])
          try rfl
        refine hK.out _ _ ⟨v3, v27, (by rw [ha.out]; exact putSel_upk 16 hb_ rfl rfl rfl), HBW.out, Q_V3, Q_V27⟩
      refine steps_cons ?_ ?_
      · rintro b a w' ⟨v3, v27, ha, HBW, Q_V3, Q_V27⟩ hb_ hon hoff
        refine ⟨_, rfl, fun K hK => ?_⟩
        have e66 : a.tmps[66]? = some (.slice A3 n c3) := by rw [ha]; exact putSel_on (e := (13, 66, .slice A3 n c3)) 13 rfl rfl (hon 13 (by kernel_rfl)) rfl
        have e67 : a.tmps[67]? = some (.string s) := by rw [ha]; exact putSel_on (e := (14, 67, .string s)) 14 rfl rfl (hon 14 (by kernel_rfl)) rfl
        have e69 : a.tmps[69]? = some (.int .i64 k2) := by rw [ha]; exact putSel_on (e := (16, 69, .int .i64 k2)) 16 rfl rfl (hon 16 (by kernel_rfl)) rfl
        have e65 : a.tmps[65]? = some (.bool true) := by rw [ha]; exact putSel_on (e := (12, 65, .bool true)) 12 rfl rfl (hon 12 (by kernel_rfl)) rfl
        replace ha := Aside0.mk ha
        have HBW := Aside0.mk HBW
        refine goes_ Try.func16 (by kernel_rfl) rfl #[.slice A3 n c3, .string s, .int .i64 k2] (wanted_on rfl rfl rfl (e65.trans (by first | rfl | (simp [*]; done)))) rfl rfl (by first | (simp only [List.map_toArray, List.map_cons, List.map_nil, Act.eval, Array.getD_eq_getD_getElem?, Option.getD_some, e66, e67, e69, e65]; done) | (simp only [List.map_toArray, List.map_cons, List.map_nil, Act.eval, Array.getD_eq_getD_getElem?, Option.getD_some, e66, e67, e69, e65]; rfl)) ?_
        refine (HMANY.out _ A3 c3 (Kd.C_below (Kd.C_below HC7.out (below_drew (Below.refl _ _))) HBW.out)).mono ?_
        rintro e w1 ⟨rfl, hb⟩
        refine ⟨_, rfl, ?_⟩
        refine hK.out _ _ ⟨v3, v27, (by rw [ha.out]; exact putSel_upk 17 hb_ rfl rfl rfl), below_step HBW.out hb, fun h_ => CR.below (Q_V3 h_) hb, fun h_ => CR.below (Q_V27 h_) hb⟩
      refine steps_cons ?_ ?_
      · rintro b a w' ⟨v3, v27, ha, HBW, Q_V3, Q_V27⟩ hb_ hon hoff
        refine ⟨_, rfl, fun K hK => ?_⟩
        have e0 : a.tmps[0]? = some (.slice A0 n c0) := by rw [ha]; exact (putSel_off rfl).trans rfl
        have e65 : a.tmps[65]? = some (.bool true) := by rw [ha]; exact putSel_on (e := (12, 65, .bool true)) 12 rfl rfl (hon 12 (by kernel_rfl)) rfl
        replace ha := Aside0.mk ha
        have HBW := Aside0.mk HBW
        refine value_ (w1 := w') (v := .slice A0 n c0) (wanted_on rfl rfl rfl (e65.trans (by first | rfl | (simp [*]; done)))) rfl ?_ ?_
        · go_simp
          (try simp only [i64_w])
          try rfl
        refine hK.out _ _ ⟨v3, v27, (by rw [ha.out]; exact putSel_upk 18 hb_ rfl rfl rfl), HBW.out, Q_V3, Q_V27⟩
      refine steps_cons ?_ ?_
      · rintro b a w' ⟨v3, v27, ha, HBW, Q_V3, Q_V27⟩ hb_ hon hoff
        refine ⟨_, rfl, fun K hK => ?_⟩
        have e1 : a.tmps[1]? = some (.string s) := by rw [ha]; exact (putSel_off rfl).trans rfl
        have e65 : a.tmps[65]? = some (.bool true) := by rw [ha]; exact putSel_on (e := (12, 65, .bool true)) 12 rfl rfl (hon 12 (by kernel_rfl)) rfl
        replace ha := Aside0.mk ha
        have HBW := Aside0.mk HBW
        refine value_ (w1 := w') (v := .string s) (wanted_on rfl rfl rfl (e65.trans (by first | rfl | (simp [*]; done)))) rfl ?_ ?_
        · go_simp
          (try simp only [i64_w])
          try rfl
        refine hK.out _ _ ⟨v3, v27, (by rw [ha.out]; exact putSel_upk 19 hb_ rfl rfl rfl), HBW.out, Q_V3, Q_V27⟩
      refine steps_cons ?_ ?_
      · rintro b a w' ⟨v3, v27, ha, HBW, Q_V3, Q_V27⟩ hb_ hon hoff
        refine ⟨_, rfl, fun K hK => ?_⟩
        have e5 : a.tmps[5]? = some (.pointer (some ⟨w.heap.size, 0, none⟩)) := by rw [ha]; exact (putSel_off rfl).trans rfl
        have e65 : a.tmps[65]? = some (.bool true) := by rw [ha]; exact putSel_on (e := (12, 65, .bool true)) 12 rfl rfl (hon 12 (by kernel_rfl)) rfl
        replace ha := Aside0.mk ha
        have HBW := Aside0.mk HBW
        refine value_ (w1 := w') (v := .pointer (some ⟨w.heap.size, 1, none⟩)) (wanted_on rfl rfl rfl (e65.trans (by first | rfl | (simp [*]; done)))) rfl ?_ ?_
        · go_simp
          (try simp only [i64_w])
          try rfl
        refine hK.out _ _ ⟨v3, v27, (by rw [ha.out]; exact putSel_upk 20 hb_ rfl rfl rfl), HBW.out, Q_V3, Q_V27⟩
      refine steps_cons ?_ ?_
      · rintro b a w' ⟨v3, v27, ha, HBW, Q_V3, Q_V27⟩ hb_ hon hoff
        refine ⟨_, rfl, fun K hK => ?_⟩
        have e73 : a.tmps[73]? = some (.pointer (some ⟨w.heap.size, 1, none⟩)) := by rw [ha]; exact putSel_on (e := (20, 73, .pointer (some ⟨w.heap.size, 1, none⟩))) 20 rfl rfl (hon 20 (by kernel_rfl)) rfl
        have e65 : a.tmps[65]? = some (.bool true) := by rw [ha]; exact putSel_on (e := (12, 65, .bool true)) 12 rfl rfl (hon 12 (by kernel_rfl)) rfl
        replace ha := Aside0.mk ha
        have HBW := Aside0.mk HBW
        have hcc := cells2 (blk_below (blk_drew HK7.out) HBW.out)
        refine value_ (w1 := w') (v := .int .i64 k2) (wanted_on rfl rfl rfl (e65.trans (by first | rfl | (simp [*]; done)))) rfl ?_ ?_
        · go_simp
          (try simp only [i64_w])
          try rfl
        refine hK.out _ _ ⟨v3, v27, (by rw [ha.out]; exact putSel_upk 21 hb_ rfl rfl rfl), HBW.out, Q_V3, Q_V27⟩
      refine steps_cons ?_ ?_
      · rintro b a w' ⟨v3, v27, ha, HBW, Q_V3, Q_V27⟩ hb_ hon hoff
        refine ⟨_, rfl, fun K hK => ?_⟩
        have e71 : a.tmps[71]? = some (.slice A0 n c0) := by rw [ha]; exact putSel_on (e := (18, 71, .slice A0 n c0)) 18 rfl rfl (hon 18 (by kernel_rfl)) rfl
        have e72 : a.tmps[72]? = some (.string s) := by rw [ha]; exact putSel_on (e := (19, 72, .string s)) 19 rfl rfl (hon 19 (by kernel_rfl)) rfl
        have e74 : a.tmps[74]? = some (.int .i64 k2) := by rw [ha]; exact putSel_on (e := (21, 74, .int .i64 k2)) 21 rfl rfl (hon 21 (by kernel_rfl)) rfl
        have e65 : a.tmps[65]? = some (.bool true) := by rw [ha]; exact putSel_on (e := (12, 65, .bool true)) 12 rfl rfl (hon 12 (by kernel_rfl)) rfl
        replace ha := Aside0.mk ha
        have HBW := Aside0.mk HBW
        refine goes_ Try.func17 (by kernel_rfl) rfl #[.slice A0 n c0, .string s, .int .i64 k2] (wanted_on rfl rfl rfl (e65.trans (by first | rfl | (simp [*]; done)))) rfl rfl (by first | (simp only [List.map_toArray, List.map_cons, List.map_nil, Act.eval, Array.getD_eq_getD_getElem?, Option.getD_some, e71, e72, e74, e65]; done) | (simp only [List.map_toArray, List.map_cons, List.map_nil, Act.eval, Array.getD_eq_getD_getElem?, Option.getD_some, e71, e72, e74, e65]; rfl)) ?_
        refine (HRMANY.out _ (Kd.C_below HR.out (below_step (below_drew HB7.out) HBW.out))).mono ?_
        rintro e w1 ⟨rfl, hb⟩
        refine ⟨_, rfl, ?_⟩
        refine hK.out _ _ ⟨v3, v27, (by rw [ha.out]; exact putSel_upk 22 hb_ rfl rfl rfl), below_step HBW.out hb, fun h_ => CR.below (Q_V3 h_) hb, fun h_ => CR.below (Q_V27 h_) hb⟩
      refine steps_cons ?_ ?_
      · rintro b a w' ⟨v3, v27, ha, HBW, Q_V3, Q_V27⟩ hb_ hon hoff
        refine ⟨_, rfl, fun K hK => ?_⟩
        have e70 : a.tmps[70]? = some (.int .i64 mny) := by rw [ha]; exact putSel_on (e := (17, 70, .int .i64 mny)) 17 rfl rfl (hon 17 (by kernel_rfl)) rfl
        have e75 : a.tmps[75]? = some (.int .i64 mny) := by rw [ha]; exact putSel_on (e := (22, 75, .int .i64 mny)) 22 rfl rfl (hon 22 (by kernel_rfl)) rfl
        have e65 : a.tmps[65]? = some (.bool true) := by rw [ha]; exact putSel_on (e := (12, 65, .bool true)) 12 rfl rfl (hon 12 (by kernel_rfl)) rfl
        replace ha := Aside0.mk ha
        have HBW := Aside0.mk HBW
        refine value_ (w1 := w') (v := .bool true) (wanted_on rfl rfl rfl (e65.trans (by first | rfl | (simp [*]; done)))) rfl ?_ ?_
        · go_simp
          (try simp only [i64_w])
          try rfl
        refine hK.out _ _ ⟨v3, v27, (by rw [ha.out]; exact putSel_upk 23 hb_ rfl rfl rfl), HBW.out, Q_V3, Q_V27⟩
      refine steps_cons ?_ ?_
      · rintro b a w' ⟨v3, v27, ha, HBW, Q_V3, Q_V27⟩ hb_ hon hoff
        refine ⟨_, rfl, fun K hK => ?_⟩
        have e65 : a.tmps[65]? = some (.bool true) := by rw [ha]; exact putSel_on (e := (12, 65, .bool true)) 12 rfl rfl (hon 12 (by kernel_rfl)) rfl
        have e76 : a.tmps[76]? = some (.bool true) := by rw [ha]; exact putSel_on (e := (23, 76, .bool true)) 23 rfl rfl (hon 23 (by kernel_rfl)) rfl
        replace ha := Aside0.mk ha
        have HBW := Aside0.mk HBW
        refine value_ (w1 := w') (v := .bool true) (by rfl) rfl ?_ ?_
        · go_simp
          (try simp only [i64_w])
          try rfl
        refine hK.out _ _ ⟨v3, v27, (by rw [ha.out]; exact putSel_upk 24 hb_ rfl rfl rfl), HBW.out, Q_V3, Q_V27⟩
      refine steps_cons ?_ ?_
      · rintro b a w' ⟨v3, v27, ha, HBW, Q_V3, Q_V27⟩ hb_ hon hoff
        refine ⟨_, rfl, fun K hK => ?_⟩
        have e77 : a.tmps[77]? = some (.bool true) := by rw [ha]; exact putSel_on (e := (24, 77, .bool true)) 24 rfl rfl (hon 24 (by kernel_rfl)) rfl
        replace ha := Aside0.mk ha
        have HBW := Aside0.mk HBW
        refine value_ (w1 := w') (v := .bool true) (by rfl) rfl ?_ ?_
        · go_simp
          (try simp only [i64_w])
          try rfl
        refine hK.out _ _ ⟨v3, v27, (by rw [ha.out]; exact putSel_upk 25 hb_ rfl rfl rfl), HBW.out, Q_V3, Q_V27⟩
      refine steps_cons ?_ ?_
      · rintro b a w' ⟨v3, v27, ha, HBW, Q_V3, Q_V27⟩ hb_ hon hoff
        refine ⟨_, rfl, fun K hK => ?_⟩
        have e13 : a.tmps[13]? = some (v6) := by rw [ha]; exact (putSel_off rfl).trans rfl
        have e78 : a.tmps[78]? = some (.bool true) := by rw [ha]; exact putSel_on (e := (25, 78, .bool true)) 25 rfl rfl (hon 25 (by kernel_rfl)) rfl
        replace ha := Aside0.mk ha
        have HBW := Aside0.mk HBW
        refine value_ (w1 := w') (v := v6) (wanted_on rfl rfl rfl (e78.trans (by first | rfl | (simp [*]; done)))) rfl ?_ ?_
        · go_simp
          (try simp only [i64_w])
          try rfl
        refine hK.out _ _ ⟨v3, v27, (by rw [ha.out]; exact putSel_upk 26 hb_ rfl rfl rfl), HBW.out, Q_V3, Q_V27⟩
      refine steps_cons ?_ ?_
      · rintro b a w' ⟨v3, v27, ha, HBW, Q_V3, Q_V27⟩ hb_ hon hoff
        refine ⟨_, rfl, fun K hK => ?_⟩
        have e79 : a.tmps[79]? = some (v6) := by rw [ha]; exact putSel_on (e := (26, 79, v6)) 26 rfl rfl (hon 26 (by kernel_rfl)) rfl
        have e78 : a.tmps[78]? = some (.bool true) := by rw [ha]; exact putSel_on (e := (25, 78, .bool true)) 25 rfl rfl (hon 25 (by kernel_rfl)) rfl
        replace ha := Aside0.mk ha
        have HBW := Aside0.mk HBW
        refine goes_ Try.func15 (by kernel_rfl) rfl #[v6] (wanted_on rfl rfl rfl (e78.trans (by first | rfl | (simp [*]; done)))) rfl rfl (by first | (simp only [List.map_toArray, List.map_cons, List.map_nil, Act.eval, Array.getD_eq_getD_getElem?, Option.getD_some, e79, e78]; done) | (simp only [List.map_toArray, List.map_cons, List.map_nil, Act.eval, Array.getD_eq_getD_getElem?, Option.getD_some, e79, e78]; rfl)) ?_
        refine (real_c ((HV67.out.below (below_drew (Below.refl _ _))).below HBW.out) HL0.out).mono ?_
        rintro e w1 ⟨v_, rfl, hv_, hb⟩
        refine ⟨_, rfl, ?_⟩
        refine hK.out _ _ ⟨v3, v_, (by rw [ha.out]; exact putSel_upk 27 hb_ rfl rfl rfl), below_step HBW.out hb, fun h_ => CR.below (Q_V3 h_) hb, fun _ => hv_⟩
      refine steps_cons ?_ ?_
      · rintro b a w' ⟨v3, v27, ha, HBW, Q_V3, Q_V27⟩ hb_ hon hoff
        refine ⟨_, rfl, fun K hK => ?_⟩
        have e15 : a.tmps[15]? = some (v7) := by rw [ha]; exact (putSel_off rfl).trans rfl
        have e78 : a.tmps[78]? = some (.bool true) := by rw [ha]; exact putSel_on (e := (25, 78, .bool true)) 25 rfl rfl (hon 25 (by kernel_rfl)) rfl
        replace ha := Aside0.mk ha
        have HBW := Aside0.mk HBW
        refine value_ (w1 := w') (v := v7) (wanted_on rfl rfl rfl (e78.trans (by first | rfl | (simp [*]; done)))) rfl ?_ ?_
        · go_simp
          (try simp only [i64_w])
          try rfl
        refine hK.out _ _ ⟨v3, v27, (by rw [ha.out]; exact putSel_upk 28 hb_ rfl rfl rfl), HBW.out, Q_V3, Q_V27⟩
      refine steps_cons ?_ ?_
      · rintro b a w' ⟨v3, v27, ha, HBW, Q_V3, Q_V27⟩ hb_ hon hoff
        refine ⟨_, rfl, fun K hK => ?_⟩
        have e80 : a.tmps[80]? = some (v27) := by rw [ha]; exact putSel_on (e := (27, 80, v27)) 27 rfl rfl (hon 27 (by kernel_rfl)) rfl
        have e81 : a.tmps[81]? = some (v7) := by rw [ha]; exact putSel_on (e := (28, 81, v7)) 28 rfl rfl (hon 28 (by kernel_rfl)) rfl
        have e78 : a.tmps[78]? = some (.bool true) := by rw [ha]; exact putSel_on (e := (25, 78, .bool true)) 25 rfl rfl (hon 25 (by kernel_rfl)) rfl
        replace ha := Aside0.mk ha
        have HBW := Aside0.mk HBW
        refine goes_ Try.func14 (by kernel_rfl) rfl #[v27, v7] (wanted_on rfl rfl rfl (e78.trans (by first | rfl | (simp [*]; done)))) rfl rfl (by first | (simp only [List.map_toArray, List.map_cons, List.map_nil, Act.eval, Array.getD_eq_getD_getElem?, Option.getD_some, e80, e81, e78]; done) | (simp only [List.map_toArray, List.map_cons, List.map_nil, Act.eval, Array.getD_eq_getD_getElem?, Option.getD_some, e80, e81, e78]; rfl)) ?_
        refine (same_c (Q_V27 (hon 27 (by kernel_rfl))) ((HV7.out.below (below_drew (Below.refl _ _))).below HBW.out) (by rw [List.length_map]; exact HL0.out) rfl).mono ?_
        rintro e w1 ⟨rfl, hb⟩
        refine ⟨_, rfl, ?_⟩
        refine hK.out _ _ ⟨v3, v27, (by rw [ha.out]; exact putSel_upk 29 hb_ rfl rfl rfl), below_step HBW.out hb, fun h_ => CR.below (Q_V3 h_) hb, fun h_ => CR.below (Q_V27 h_) hb⟩
      refine steps_cons ?_ ?_
      · rintro b a w' ⟨v3, v27, ha, HBW, Q_V3, Q_V27⟩ hb_ hon hoff
        refine ⟨_, rfl, fun K hK => ?_⟩
        have e78 : a.tmps[78]? = some (.bool true) := by rw [ha]; exact putSel_on (e := (25, 78, .bool true)) 25 rfl rfl (hon 25 (by kernel_rfl)) rfl
        have e82 : a.tmps[82]? = some (.bool true) := by rw [ha]; exact putSel_on (e := (29, 82, .bool true)) 29 rfl rfl (hon 29 (by kernel_rfl)) rfl
        replace ha := Aside0.mk ha
        have HBW := Aside0.mk HBW
        refine value_ (w1 := w') (v := .bool true) (by rfl) rfl ?_ ?_
        · go_simp
          (try simp only [i64_w])
          try rfl
        refine hK.out _ _ ⟨v3, v27, (by rw [ha.out]; exact putSel_upk 30 hb_ rfl rfl rfl), HBW.out, Q_V3, Q_V27⟩
      refine steps_cons ?_ ?_
      · rintro b a w' ⟨v3, v27, ha, HBW, Q_V3, Q_V27⟩ hb_ hon hoff
        refine ⟨_, rfl, fun K hK => ?_⟩
        have e83 : a.tmps[83]? = some (.bool true) := by rw [ha]; exact putSel_on (e := (30, 83, .bool true)) 30 rfl rfl (hon 30 (by kernel_rfl)) rfl
        replace ha := Aside0.mk ha
        have HBW := Aside0.mk HBW
        refine value_ (w1 := w') (v := .bool true) (by rfl) rfl ?_ ?_
        · go_simp
          (try simp only [i64_w])
          try rfl
        refine hK.out _ _ ⟨v3, v27, (by rw [ha.out]; exact putSel_upk 31 hb_ rfl rfl rfl), HBW.out, Q_V3, Q_V27⟩
      refine steps_cons ?_ ?_
      · rintro b a w' ⟨v3, v27, ha, HBW, Q_V3, Q_V27⟩ hb_ hon hoff
        refine ⟨_, rfl, fun K hK => ?_⟩
        have e14 : a.tmps[14]? = some (.bool b0) := by rw [ha]; exact (putSel_off rfl).trans rfl
        have e84 : a.tmps[84]? = some (.bool true) := by rw [ha]; exact putSel_on (e := (31, 84, .bool true)) 31 rfl rfl (hon 31 (by kernel_rfl)) rfl
        replace ha := Aside0.mk ha
        have HBW := Aside0.mk HBW
        refine value_ (w1 := w') (v := .bool b0) (wanted_on rfl rfl rfl (e84.trans (by first | rfl | (simp [*]; done)))) rfl ?_ ?_
        · go_simp
          (try simp only [i64_w])
          try rfl
        refine hK.out _ _ ⟨v3, v27, (by rw [ha.out]; exact putSel_upk 32 hb_ rfl rfl rfl), HBW.out, Q_V3, Q_V27⟩
      refine steps_cons ?_ ?_
      · rintro b a w' ⟨v3, v27, ha, HBW, Q_V3, Q_V27⟩ hb_ hon hoff
        refine ⟨_, rfl, fun K hK => ?_⟩
        have e16 : a.tmps[16]? = some (.bool b0) := by rw [ha]; exact (putSel_off rfl).trans rfl
        have e84 : a.tmps[84]? = some (.bool true) := by rw [ha]; exact putSel_on (e := (31, 84, .bool true)) 31 rfl rfl (hon 31 (by kernel_rfl)) rfl
        replace ha := Aside0.mk ha
        have HBW := Aside0.mk HBW
        refine value_ (w1 := w') (v := .bool b0) (wanted_on rfl rfl rfl (e84.trans (by first | rfl | (simp [*]; done)))) rfl ?_ ?_
        · go_simp
          (try simp only [i64_w])
          try rfl
        refine hK.out _ _ ⟨v3, v27, (by rw [ha.out]; exact putSel_upk 33 hb_ rfl rfl rfl), HBW.out, Q_V3, Q_V27⟩
      refine steps_cons ?_ ?_
      · rintro b a w' ⟨v3, v27, ha, HBW, Q_V3, Q_V27⟩ hb_ hon hoff
        refine ⟨_, rfl, fun K hK => ?_⟩
        have e85 : a.tmps[85]? = some (.bool b0) := by rw [ha]; exact putSel_on (e := (32, 85, .bool b0)) 32 rfl rfl (hon 32 (by kernel_rfl)) rfl
        have e86 : a.tmps[86]? = some (.bool b0) := by rw [ha]; exact putSel_on (e := (33, 86, .bool b0)) 33 rfl rfl (hon 33 (by kernel_rfl)) rfl
        have e84 : a.tmps[84]? = some (.bool true) := by rw [ha]; exact putSel_on (e := (31, 84, .bool true)) 31 rfl rfl (hon 31 (by kernel_rfl)) rfl
        replace ha := Aside0.mk ha
        have HBW := Aside0.mk HBW
        refine value_ (w1 := w') (v := .bool true) (wanted_on rfl rfl rfl (e84.trans (by first | rfl | (simp [*]; done)))) rfl ?_ ?_
        · go_simp
          (try simp only [i64_w])
          try rfl
        refine hK.out _ _ ⟨v3, v27, (by rw [ha.out]; exact putSel_upk 34 hb_ rfl rfl rfl), HBW.out, Q_V3, Q_V27⟩
      refine steps_cons ?_ ?_
      · rintro b a w' ⟨v3, v27, ha, HBW, Q_V3, Q_V27⟩ hb_ hon hoff
        refine ⟨_, rfl, fun K hK => ?_⟩
        have e84 : a.tmps[84]? = some (.bool true) := by rw [ha]; exact putSel_on (e := (31, 84, .bool true)) 31 rfl rfl (hon 31 (by kernel_rfl)) rfl
        have e87 : a.tmps[87]? = some (.bool true) := by rw [ha]; exact putSel_on (e := (34, 87, .bool true)) 34 rfl rfl (hon 34 (by kernel_rfl)) rfl
        replace ha := Aside0.mk ha
        have HBW := Aside0.mk HBW
        refine value_ (w1 := w') (v := .bool true) (by rfl) rfl ?_ ?_
        · go_simp
          (try simp only [i64_w])
          try rfl
        refine hK.out _ _ ⟨v3, v27, (by rw [ha.out]; exact putSel_upk 35 hb_ rfl rfl rfl), HBW.out, Q_V3, Q_V27⟩
      refine steps_cons ?_ ?_
      · rintro b a w' ⟨v3, v27, ha, HBW, Q_V3, Q_V27⟩ hb_ hon hoff
        refine ⟨_, rfl, fun K hK => ?_⟩
        have e88 : a.tmps[88]? = some (.bool true) := by rw [ha]; exact putSel_on (e := (35, 88, .bool true)) 35 rfl rfl (hon 35 (by kernel_rfl)) rfl
        replace ha := Aside0.mk ha
        have HBW := Aside0.mk HBW
        refine value_ (w1 := w') (v := .bool true) (by rfl) rfl ?_ ?_
        · go_simp
          (try simp only [i64_w])
          try rfl
        refine hK.out _ _ ⟨v3, v27, (by rw [ha.out]; exact putSel_upk 36 hb_ rfl rfl rfl), HBW.out, Q_V3, Q_V27⟩
      exact steps_nil
    rintro b a w5 hall ⟨v3, v27, ha, HBW, Q_V3, Q_V27⟩
    have hb0_ := hall 0 (by kernel_rfl)
    have hb1_ := hall 1 (by kernel_rfl)
    have hb2_ := hall 2 (by kernel_rfl)
    have hb3_ := hall 3 (by kernel_rfl)
    have hb4_ := hall 4 (by kernel_rfl)
    have hb5_ := hall 5 (by kernel_rfl)
    have hb6_ := hall 6 (by kernel_rfl)
    have hb7_ := hall 7 (by kernel_rfl)
    have hb8_ := hall 8 (by kernel_rfl)
    have hb9_ := hall 9 (by kernel_rfl)
    have hb10_ := hall 10 (by kernel_rfl)
    have hb11_ := hall 11 (by kernel_rfl)
    have hb12_ := hall 12 (by kernel_rfl)
    have hb13_ := hall 13 (by kernel_rfl)
    have hb14_ := hall 14 (by kernel_rfl)
    have hb15_ := hall 15 (by kernel_rfl)
    have hb16_ := hall 16 (by kernel_rfl)
    have hb17_ := hall 17 (by kernel_rfl)
    have hb18_ := hall 18 (by kernel_rfl)
    have hb19_ := hall 19 (by kernel_rfl)
    have hb20_ := hall 20 (by kernel_rfl)
    have hb21_ := hall 21 (by kernel_rfl)
    have hb22_ := hall 22 (by kernel_rfl)
    have hb23_ := hall 23 (by kernel_rfl)
    have hb24_ := hall 24 (by kernel_rfl)
    have hb25_ := hall 25 (by kernel_rfl)
    have hb26_ := hall 26 (by kernel_rfl)
    have hb27_ := hall 27 (by kernel_rfl)
    have hb28_ := hall 28 (by kernel_rfl)
    have hb29_ := hall 29 (by kernel_rfl)
    have hb30_ := hall 30 (by kernel_rfl)
    have hb31_ := hall 31 (by kernel_rfl)
    have hb32_ := hall 32 (by kernel_rfl)
    have hb33_ := hall 33 (by kernel_rfl)
    have hb34_ := hall 34 (by kernel_rfl)
    have hb35_ := hall 35 (by kernel_rfl)
    have hb36_ := hall 36 (by kernel_rfl)
    subst ha
    simp only [putSel, hb0_, hb1_, hb2_, hb3_, hb4_, hb5_, hb6_, hb7_, hb8_, hb9_, hb10_, hb11_, hb12_, hb13_, hb14_, hb15_, hb16_, hb17_, hb18_, hb19_, hb20_, hb21_, hb22_, hb23_, hb24_, hb25_, hb26_, hb27_, hb28_, hb29_, hb30_, hb31_, hb32_, hb33_, hb34_, hb35_, hb36_, if_true, Act.put, List.setIfInBounds_toArray, List.set_cons_zero, List.set_cons_succ]
    have HBW := Aside0.mk HBW
    clear hall hb0_ hb1_ hb2_ hb3_ hb4_ hb5_ hb6_ hb7_ hb8_ hb9_ hb10_ hb11_ hb12_ hb13_ hb14_ hb15_ hb16_ hb17_ hb18_ hb19_ hb20_ hb21_ hb22_ hb23_ hb24_ hb25_ hb26_ hb27_ hb28_ hb29_ hb30_ hb31_ hb32_ hb33_ hb34_ hb35_ hb36_ Q_V3 Q_V27
    go_wp2_with fail
    go_ret
    exact ⟨rfl, below_step (below_drew HB7.out) HBW.out⟩
end Go.Proofs.Ytecpjfipkejmoaa.PA
end
section
namespace Go.Proofs.Ytecpjfipkejmoaa.findTells
open Go.ChangeShapes Go.WideShapes Go.ChangeAt Go.RowKit
open Go.ChangeMaps (open_string shut_string)
set_option linter.unusedVariables false
theorem own : ownKnob Try.prog.godebug = none := by kernel_rfl
theorem laidOut : laidOutB Try.prog = true := by kernel_rfl
set_option maxRecDepth 100000 in
theorem lifted (os : Os) (started : os.Started) (H : Type) (enc : TypeId × Value → H) :
    ReturnsInHanded {} Try.checked os 4 .any (Rows.findTellsSpec.pre6 enc Try.prog Try.f4 Rows.findTellsRow.domain false) (Rows.findTellsSpec.post enc Try.prog Try.f4 false true false false) := by
  refine returnsInHanded_of_change_sized (C := Try.checked) own started (by kernel_rfl) Try.func4
    (ChangeSpec.witness6 (enc := enc) (C := Try.checked) false ⟨#[], #[.slice none 0 0, .string ByteArray.empty, .agg #[.int .i64 0, .int .i64 0]], []⟩ 8 (by kernel_rfl) (by kernel_rfl) (by kernel_rfl) (by kernel_rfl)) ?_
  intro W base args ds gs before hval0 hW hcnd _ _
  have hval : ∀ (j : Nat) t v, Try.f4.params[j]? = some t → args[j]? = some v → Value.okWide Try.prog W .any base t v := hval0
  have hW' := hW
  obtain ⟨p, q, hA0, hV, rfl, hfz, hnd⟩ := hW
  have hA : DataW.TrodAll enc Try.prog W 0 (fun _ => true) true Try.f4.params.toList args.toList ds p := hA0
  rw [Try.params4] at hA hval
  obtain ⟨v0, vs0, d0, ds0, p0, r0, hargs, rfl, rfl, h0, t0⟩ := trodAll_cons hA
  obtain ⟨v1, vs1, d1, ds1, p1, r1, rfl, rfl, rfl, h1, t1⟩ := trodAll_cons t0
  obtain ⟨v2, vs2, d2, ds2, p2, r2, rfl, rfl, rfl, h2, t2⟩ := trodAll_cons t1
  obtain ⟨rfl, rfl, rfl⟩ := trodAll_nil t2
  obtain rfl : args = #[v0, v1, v2] := by cases args; simp_all
  obtain ⟨rfl, rfl⟩ := trodVars_none hV
  have k0 := h0
  have lt0 : ∀ x ∈ p0, x.block < W.heap.size := by obtain ⟨m, hm⟩ := k0; exact DataW.trod_lt m _ _ _ hm
  obtain ⟨A0, l0, c0, rfl, hc0, hl0, o0⟩ := X.arg_slice Try.underlying22 PA.down_node (by kernel_rfl) (hval 0 22 v0 rfl rfl) h0
  have k1 := h1
  have lt1 : ∀ x ∈ p1, x.block < W.heap.size := by obtain ⟨m, hm⟩ := k1; exact DataW.trod_lt m _ _ _ hm
  obtain ⟨a1, rfl, rfl, rfl, y1⟩ := open_string Try.underlying9 (hval 1 9 v1 rfl rfl) h1
  have k2 := h2
  have lt2 : ∀ x ∈ p2, x.block < W.heap.size := by obtain ⟨m, hm⟩ := k2; exact DataW.trod_lt m _ _ _ hm
  obtain ⟨a2, b2, rfl, w2, z2⟩ := PA.arg_two (hval 2 37 v2 rfl rfl) h2
  refine (PA.FindTells_walk W hl0 hc0 o0 a1 a2 b2).mono fun e W' ⟨he, bel⟩ => ?_
  subst he
  exact ⟨_, rfl, _, _, _, [], _, [], hW', trodAll_mk1 (shut_bool Try.underlying4 _), (trodAll_cons_mk (Below.trod laidOut (by kernel_rfl) (of_decide_eq_true (by kernel_rfl)) k0 bel lt0) (trodAll_cons_mk (Below.trod laidOut (by kernel_rfl) (of_decide_eq_true (by kernel_rfl)) k1 bel lt1) (trodAll_cons_mk (Below.trod laidOut (by kernel_rfl) (of_decide_eq_true (by kernel_rfl)) k2 bel lt2) trodAll_mk0))), rfl, bel.frame _, fun h => by cases h⟩
theorem over : Rows.findTellsRow.holds Try.pinned (OpenSpec.ofChange Rows.findTellsSpec) :=
  OpenClaim.holds_of_wide 4 Try.f4 rfl rfl rfl rfl rfl rfl rfl ⟨rfl, rfl, rfl, rfl, rfl⟩ rfl rfl rfl rfl rfl (by kernel_rfl) Try.func4 (by kernel_rfl)
    (of_decide_eq_true (by kernel_rfl)) (by unfold Func.isWrapper; first | (rw [if_pos (by decide +kernel)]; kernel_rfl) | (rw [if_neg (by decide +kernel)]; exact ⟨rfl, rfl⟩))
    (fun os started H enc _ => lifted os started H enc)
end Go.Proofs.Ytecpjfipkejmoaa.findTells
namespace Go.Proofs.Ytecpjfipkejmoaa
theorem findTells_holds : Rows.FindTellsSaid := findTells.over
#print axioms findTells_holds
end Go.Proofs.Ytecpjfipkejmoaa
end
