/- Texts of this claim, those that nothing needs left out: Zmv. -/
import Derived.Test.YtacnflelkpkbhaaMtG3
import Derived.Test.YtacnflelkpkbhaaMtG18
import Derived.Test.YtacnflelkpkbhaaMtG5
import Derived.Test.YtacnflelkpkbhaaMtG6
section
namespace Go.Proofs.Ytacnflelkpkbhaa.PA
set_option linter.unusedSimpArgs false
set_option linter.unusedVariables false
open Go.RowKit Go.Maps Go.Proofs.YtacnflelkpkbhaaW.PrintWords Go.Proofs.YtacnflelkpkbhaaW.PrintLast Go.Proofs.YtacnflelkpkbhaaW.PrintMore
theorem wv1 (i : Nat) (h : i < 9223372036854775806) : wrap64 ((i : Int) + 1) = ((i + 1 : Nat) : Int) := by unfold wrap64; omega
theorem rdi_at (xs : List Int) (j : Nat) (h : j < xs.length) : rd xs (j : Int) = xs[j] := by
  unfold rd
  rw [Int.toNat_natCast, List.getD_eq_getElem?_getD, List.getElem?_eq_getElem h]
  rfl
theorem apart_toE (a b : S50) : apart (toE a) (toE b) = (decide (a.f1 < b.f0) || decide (b.f1 < a.f0)) := rfl
theorem okE_toE (many : Int) (e : S50) : okE many (toE e) = (decide (e.f0 ≤ e.f1) && decide (0 ≤ e.f2) && decide (e.f2 < many)) := rfl
section
variable (many f0 f3 f4 : Int) (E : List S50) (F : List Int) (R : Bool)
theorem evEat_l1 (i : Nat) (hi : i < E.length) (hb : E.length ≤ 100000) (next : (∀ j (h : j < i), apart (toE E[j]) (toE E[i]) = true) → Ev (fun k => phalaroperef16_eater.l0 k many ((i + 1 : Nat) : Int) f0 E F f3 f4) R)
    (bad : ∀ j (h : j < i), apart (toE E[j]) (toE E[i]) = false → R = false) (d : Nat) : ∀ j : Nat, j + d = i → (∀ j' (h : j' < i), j' < j → apart (toE E[j']) (toE E[i]) = true) →
    Ev (fun k => phalaroperef16_eater.l1 k many (i : Int) (j : Int) f0 E F f3 f4 E[i].f0 E[i].f1 E[i].f2) R := by
  induction d with
  | zero =>
    intro j hj hok
    refine Ev.step (fun k => ?_) (next (fun j' h => hok j' h (by omega)))
    simp only [phalaroperef16_eater.l1]
    rw [if_neg (by omega), wv1 i (by omega)]
  | succ d ih =>
    intro j hj hok
    have hji : j < i := by omega
    by_cases ha : apart (toE E[j]) (toE E[i]) = true
    · refine Ev.step (fun k => ?_) (ih (j + 1) (by omega) (fun j' h hj' => by
        rcases Nat.lt_or_ge j' j with h2 | h2
        · exact hok j' h h2
        · obtain rfl : j' = j := by omega
          exact ha))
      simp only [apart_toE, Bool.or_eq_true, decide_eq_true_eq] at ha
      simp only [phalaroperef16_eater.l1]
      rw [if_pos (by omega), if_pos (by omega), if_pos (by omega), rdre_at E j (by omega), wv1 j (by omega)]
      rcases ha with ha | ha
      · rw [if_neg (by omega)]
      · rw [if_neg (show ¬ (E[j].f0 ≤ E[i].f1) by omega)]
        split <;> rfl
    · have ha' : apart (toE E[j]) (toE E[i]) = false := by simpa using ha
      rw [bad j hji ha']
      simp only [apart_toE, Bool.or_eq_true, decide_eq_true_eq] at ha
      refine Ev.step (fun k => ?_) (Ev.now false)
      simp only [phalaroperef16_eater.l1]
      rw [if_pos (by omega), if_pos (by omega), if_pos (by omega), rdre_at E j (by omega), if_pos (by omega), if_pos (by omega)]
theorem evEat_l0 (hb : E.length ≤ 100000) (hR : R = (F.isEmpty && decide (f4 = 0) && eatsB many (E.map toE))) (d : Nat) : ∀ i : Nat, i + d = E.length → (∀ a (h : a < E.length), a < i → okE many (toE E[a]) = true) → (∀ a b (h : b < E.length) (hab : a < b), b < i → apart (toE E[a]) (toE E[b]) = true) →
    Ev (fun k => phalaroperef16_eater.l0 k many (i : Int) f0 E F f3 f4) R := by
  have bad1 : ∀ a (h : a < E.length), okE many (toE E[a]) = false → R = false := fun a h he => by
    rw [hR]
    have : eatsB many (E.map toE) = false := by
      cases hx : eatsB many (E.map toE) with
      | false => rfl
      | true =>
        have := (eatsB_iff.1 hx).1 (toE E[a]) (List.mem_map.2 ⟨_, List.getElem_mem h, rfl⟩)
        rw [this] at he
        cases he
    rw [this, Bool.and_false]
  have bad2 : ∀ a b (h : b < E.length) (hab : a < b), apart (toE E[a]) (toE E[b]) = false → R = false := fun a b h hab he => by
    rw [hR]
    have : eatsB many (E.map toE) = false := by
      cases hx : eatsB many (E.map toE) with
      | false => rfl
      | true =>
        have := List.pairwise_iff_getElem.1 (eatsB_iff.1 hx).2 a b (by rw [List.length_map]; omega) (by rw [List.length_map]; omega) hab
        rw [List.getElem_map, List.getElem_map] at this
        rw [this] at he
        cases he
    rw [this, Bool.and_false]
  induction d with
  | zero =>
    intro i hi h1 h2
    have hall : eatsB many (E.map toE) = true := by
      refine eatsB_iff.2 ⟨fun e he => ?_, ?_⟩
      · obtain ⟨y, hy, rfl⟩ := List.mem_map.1 he
        obtain ⟨a, ha, rfl⟩ := List.mem_iff_getElem.1 hy
        exact h1 a ha (by omega)
      · refine List.pairwise_iff_getElem.2 fun a b ha hb hab => ?_
        rw [List.length_map] at ha hb
        rw [List.getElem_map, List.getElem_map]
        exact h2 a b hb hab (by omega)
    rw [hR, hall, Bool.and_true]
    refine Ev.step (f := fun _ => some (F.isEmpty && decide (f4 = 0))) (fun k => ?_) (Ev.now _)
    simp only [phalaroperef16_eater.l0]
    rw [if_neg (by omega)]
    cases F with
    | nil => rw [if_pos (by simp)]; rfl
    | cons x r => rw [if_neg (by simp only [List.length_cons]; omega)]; rfl
  | succ d ih =>
    intro i hi h1 h2
    have hil : i < E.length := by omega
    by_cases ho : okE many (toE E[i]) = true
    · have h3 := evEat_l1 many f0 f3 f4 E F R i hil hb (fun hap => ih (i + 1) (by omega) (fun a ha hai => by
        rcases Nat.lt_or_ge a i with h | h
        · exact h1 a ha h
        · obtain rfl : a = i := by omega
          exact ho) (fun a b hb' hab hbi => by
        rcases Nat.lt_or_ge b i with h | h
        · exact h2 a b hb' hab h
        · obtain rfl : b = i := by omega
          exact hap a hab)) (fun j h he => bad2 j i hil h he) i 0 (by omega) (fun _ _ h => by omega)
      simp only [okE_toE, Bool.and_eq_true, decide_eq_true_eq] at ho
      refine Ev.step (f := fun k => phalaroperef16_eater.j1 k many (i : Int) false f0 E F f3 f4 E[i].f0 E[i].f1 E[i].f2) (fun k => ?_) (Ev.step (fun k => ?_) h3)
      · simp only [phalaroperef16_eater.l0]
        rw [if_pos (by omega), if_pos (by omega), rdre_at E i hil, if_neg (by omega), if_neg (by omega), decide_eq_false (by omega)]
      · simp only [phalaroperef16_eater.j1]
        rfl
    · have ho' : okE many (toE E[i]) = false := by simpa using ho
      rw [bad1 i hil ho']
      simp only [okE_toE, Bool.and_eq_true, decide_eq_true_eq] at ho
      refine Ev.step (f := fun k => phalaroperef16_eater.j1 k many (i : Int) true f0 E F f3 f4 E[i].f0 E[i].f1 E[i].f2) (fun k => ?_) (Ev.step (fun k => ?_) (Ev.now false))
      · simp only [phalaroperef16_eater.l0]
        rw [if_pos (by omega), if_pos (by omega), rdre_at E i hil]
        by_cases c1 : E[i].f0 > E[i].f1
        · rw [if_pos c1]
        · rw [if_neg c1]
          by_cases c2 : E[i].f2 < 0
          · rw [if_pos c2]
          · rw [if_neg c2, decide_eq_true (by omega)]
      · simp only [phalaroperef16_eater.j1]
        rfl
end
theorem evEater (many f0 f3 f4 : Int) (E : List S50) (F : List Int) (hb : E.length ≤ 100000) : Ev (fun k => phalaroperef16_eater.f k f0 E F f3 f4 many) (F.isEmpty && decide (f4 = 0) && eatsB many (E.map toE)) :=
  evEat_l0 many f0 f3 f4 E F _ hb rfl E.length 0 (by omega) (fun _ _ h => by omega) (fun _ _ _ _ h => by omega)
section
variable (l : List S46) (R : Bool) (i : Nat) (hi : i < l.length) (hb : l.length ≤ 100000)
theorem evMay_forks (x : S46) (h2 : x.f0 = 2) (he : x.f1 = []) (hF : x.f2.length ≤ 100000) (hbi : i < 100000) (next : rightB l.length (i : Int) (toN x) = true → Ev (fun k => phalaroperef16_May.l0 k l ((i + 1 : Nat) : Int)) R) (bad : rightB l.length (i : Int) (toN x) = false → R = false) (d : Nat) :
    ∀ j : Nat, j + d = x.f2.length → (∀ j' (h : j' < x.f2.length), j' < j → (i : Int) < x.f2[j'] ∧ x.f2[j'] < (l.length : Int)) → Ev (fun k => phalaroperef16_May.l1 k l (i : Int) (j : Int) x.f0 x.f1 x.f2 x.f3 x.f4) R := by
  have hr : rightB l.length (i : Int) (toN x) = (decide (x.f4 = 0) && x.f2.all fun t => decide ((i : Int) < t) && decide (t < (l.length : Int))) := by
    simp [rightB, toN, h2, he]
  induction d with
  | zero =>
    intro j hj hok
    have hall : (x.f2.all fun t => decide ((i : Int) < t) && decide (t < (l.length : Int))) = true := by
      rw [List.all_eq_true]
      intro t ht
      obtain ⟨j', hj', rfl⟩ := List.mem_iff_getElem.1 ht
      have := hok j' hj' (by omega)
      rw [decide_eq_true this.1, decide_eq_true this.2]
      rfl
    rw [hall, Bool.and_true] at hr
    by_cases h4 : x.f4 = 0
    · refine Ev.step (fun k => ?_) (next (by rw [hr, decide_eq_true h4]))
      simp only [phalaroperef16_May.l1]
      rw [if_neg (by omega), if_neg (by omega), if_pos h4, wv1 i (by omega)]
    · rw [bad (by rw [hr, decide_eq_false h4])]
      refine Ev.step (fun k => ?_) (Ev.now false)
      simp only [phalaroperef16_May.l1]
      rw [if_neg (by omega), if_neg (by omega), if_neg h4]
  | succ d ih =>
    intro j hj hok
    have hjl : j < x.f2.length := by omega
    by_cases ho : (i : Int) < x.f2[j] ∧ x.f2[j] < (l.length : Int)
    · refine Ev.step (fun k => ?_) (ih (j + 1) (by omega) (fun j' h hj' => by
        rcases Nat.lt_or_ge j' j with h3 | h3
        · exact hok j' h h3
        · obtain rfl : j' = j := by omega
          exact ho))
      simp only [phalaroperef16_May.l1]
      rw [if_pos (by omega), if_pos h2, if_pos (by omega), rdi_at x.f2 j hjl, if_neg (by omega), if_neg (by omega), wv1 j (by omega)]
    · have hall : (x.f2.all fun t => decide ((i : Int) < t) && decide (t < (l.length : Int))) = false := by
        cases hx : (x.f2.all fun t => decide ((i : Int) < t) && decide (t < (l.length : Int))) with
        | false => rfl
        | true =>
          have h3 := List.all_eq_true.1 hx _ (List.getElem_mem hjl)
          simp only [Bool.and_eq_true, decide_eq_true_eq] at h3
          exact absurd h3 ho
      rw [bad (by rw [hr, hall, Bool.and_false])]
      refine Ev.step (fun k => ?_) (Ev.now false)
      simp only [phalaroperef16_May.l1]
      rw [if_pos (by omega), if_pos h2, if_pos (by omega), rdi_at x.f2 j hjl]
      by_cases c : x.f2[j] ≤ (i : Int)
      · rw [if_pos c]
      · rw [if_neg c, if_pos (by omega)]
theorem evMay_rest (x : S46) (h2 : ¬ x.f0 = 2) (h14 : 1 ≤ x.f0 ∧ x.f0 ≤ 4) (hE : x.f0 = 1 → eatsB l.length (x.f1.map toE) = true) (hE2 : ¬ x.f0 = 1 → x.f1 = []) (hbi : i < 100000) (next : rightB l.length (i : Int) (toN x) = true → Ev (fun k => phalaroperef16_May.l0 k l ((i + 1 : Nat) : Int)) R) (bad : rightB l.length (i : Int) (toN x) = false → R = false) :
    Ev (fun k => phalaroperef16_May.l1 k l (i : Int) 0 x.f0 x.f1 x.f2 x.f3 x.f4) R := by
  have hr : rightB l.length (i : Int) (toN x) = (x.f2.isEmpty && (if x.f0 = 3 then decide ((i : Int) < x.f4) && decide (x.f4 < (l.length : Int)) else decide (x.f4 = 0))) := by
    unfold rightB toN
    dsimp only
    by_cases c1 : x.f0 = 1
    · rw [if_pos c1, if_neg (by omega), hE c1, Bool.and_true]
    · rw [if_neg c1, if_neg h2, hE2 c1]
      by_cases c3 : x.f0 = 3
      · rw [if_pos c3, if_pos c3]; rfl
      · rw [if_neg c3, if_neg c3, if_pos (by omega)]; rfl
  cases hF : x.f2 with
  | cons t r =>
    rw [hF] at hr
    rw [bad (by rw [hr]; rfl)]
    refine Ev.step (fun k => ?_) (Ev.now false)
    simp only [phalaroperef16_May.l1]
    rw [if_pos (by simp only [List.length_cons]; omega), if_neg h2]
  | nil =>
    rw [hF] at hr
    simp only [List.isEmpty_nil, Bool.true_and] at hr
    have hstep : ∀ k, phalaroperef16_May.l1 (k + 1) l (i : Int) 0 x.f0 x.f1 [] x.f3 x.f4 = (if x.f0 = 3 then (if x.f4 ≤ (i : Int) then (some false) else (if x.f4 ≥ (l.length : Int) then (some false) else (phalaroperef16_May.l0 k l (wrap64 ((i : Int) + 1))))) else (if x.f4 = 0 then (phalaroperef16_May.l0 k l (wrap64 ((i : Int) + 1))) else (some false))) := fun k => by
      simp only [phalaroperef16_May.l1]
      rw [if_neg (by simp)]
    by_cases c3 : x.f0 = 3
    · rw [if_pos c3] at hr
      by_cases c4 : (i : Int) < x.f4 ∧ x.f4 < (l.length : Int)
      · refine Ev.step (fun k => ?_) (next (by rw [hr, decide_eq_true c4.1, decide_eq_true c4.2]; rfl))
        rw [hstep, if_pos c3, if_neg (by omega), if_neg (by omega), wv1 i (by omega)]
      · rw [bad (by
          rw [hr]
          by_cases c5 : (i : Int) < x.f4
          · rw [decide_eq_false (fun h => c4 ⟨c5, h⟩), Bool.and_false]
          · rw [decide_eq_false c5, Bool.false_and])]
        refine Ev.step (fun k => ?_) (Ev.now false)
        rw [hstep, if_pos c3]
        by_cases c5 : x.f4 ≤ (i : Int)
        · rw [if_pos c5]
        · rw [if_neg c5, if_pos (by omega)]
    · rw [if_neg c3] at hr
      by_cases c4 : x.f4 = 0
      · refine Ev.step (fun k => ?_) (next (by rw [hr, decide_eq_true c4]))
        rw [hstep, if_neg c3, if_pos c4, wv1 i (by omega)]
      · rw [bad (by rw [hr, decide_eq_false c4])]
        refine Ev.step (fun k => ?_) (Ev.now false)
        rw [hstep, if_neg c3, if_neg c4]
end
theorem evMay_l0 (l : List S46) (hb : l.length ≤ 100000) (hs : ∀ x ∈ l, x.f1.length ≤ 100000 ∧ x.f2.length ≤ 100000) (d : Nat) : ∀ i : Nat, i + d = l.length → (∀ a (h : a < l.length), a < i → rightB l.length (a : Int) (toN l[a]) = true) → Ev (fun k => phalaroperef16_May.l0 k l (i : Int)) (mayB (l.map toN)) := by
  have hlen : (l.map toN).length = l.length := List.length_map ..
  induction d with
  | zero =>
    intro i hi hok
    have hm : mayB (l.map toN) = decide ((l.length : Int) ≥ 1) := by
      rw [Bool.eq_iff_iff, mayB_iff, decide_eq_true_eq]
      constructor
      · intro h; have h3 := h.1; omega
      · intro h
        exact ⟨by omega, fun a ha => by rw [List.getElem_map]; have h4 := hok a (by omega) (by omega); simpa only [List.length_map] using h4⟩
    refine Ev.step (f := fun k => phalaroperef16_May.j1 k l (i : Int) false) (fun k => ?_) (Ev.step (f := fun _ => some (mayB (l.map toN))) (fun k => ?_) (Ev.now _))
    · simp only [phalaroperef16_May.l0]
      rw [if_neg (by omega)]
    · simp only [phalaroperef16_May.j1]
      rw [if_neg (by simp), hm]
      by_cases h1 : (l.length : Int) ≥ 1
      · rw [if_pos h1, decide_eq_true h1, decide_eq_true (by omega)]
      · rw [if_neg h1, decide_eq_false h1]
  | succ d ih =>
    intro i hi hok
    have hil : i < l.length := by omega
    have hn := rdr_at l i hil
    obtain ⟨hs1, hs2⟩ := hs _ (List.getElem_mem hil)
    have hnext : rightB l.length (i : Int) (toN l[i]) = true → Ev (fun k => phalaroperef16_May.l0 k l ((i + 1 : Nat) : Int)) (mayB (l.map toN)) := fun hr => ih (i + 1) (by omega) (fun a ha hai => by
      rcases Nat.lt_or_ge a i with h | h
      · exact hok a ha h
      · obtain rfl : a = i := by omega
        exact hr)
    have hbad : rightB l.length (i : Int) (toN l[i]) = false → mayB (l.map toN) = false := fun hr => may_not (k := i) (by rw [hlen]; exact hil) (x := toN l[i]) (by rw [List.getElem_map]) (by rw [hlen]; exact hr)
    obtain ⟨x, hx⟩ : ∃ x, x = l[i] := ⟨_, rfl⟩
    rw [← hx] at hn hs1 hs2 hnext hbad
    have hj1 : ∀ k, phalaroperef16_May.l0 (k + 1) l (i : Int) = phalaroperef16_May.j1 k l (i : Int) true := fun k => by
      simp only [phalaroperef16_May.l0]
      rw [if_pos (by omega), decide_eq_true (by omega)]
    refine Ev.step hj1 ?_
    have hj2 : ∀ k, phalaroperef16_May.j1 (k + 1) l (i : Int) true = (if x.f0 < 1 then (phalaroperef16_May.j2 k l i true x.f0 x.f1 x.f2 x.f3 x.f4) else (if x.f0 > 4 then (phalaroperef16_May.j2 k l i true x.f0 x.f1 x.f2 x.f3 x.f4) else (if x.f0 = 1 then ((phalaroperef16_eater.f k x.f0 x.f1 x.f2 x.f3 x.f4 (l.length : Int)).bind fun t116 => (phalaroperef16_May.j2 k l i (!t116) x.f0 x.f1 x.f2 x.f3 x.f4)) else (if (x.f1.length : Int) > 0 then (phalaroperef16_May.j2 k l i true x.f0 x.f1 x.f2 x.f3 x.f4) else (phalaroperef16_May.j2 k l i false x.f0 x.f1 x.f2 x.f3 x.f4))))) := fun k => by
      simp only [phalaroperef16_May.j1, hn]
      rw [if_pos trivial, if_pos (by omega), if_pos (by omega)]
    have hjT : Ev (fun k => phalaroperef16_May.j2 k l i true x.f0 x.f1 x.f2 x.f3 x.f4) false := Ev.step (fun k => by simp only [phalaroperef16_May.j2]; rfl) (Ev.now false)
    have hjF : ∀ R, Ev (fun k => phalaroperef16_May.l1 k l i 0 x.f0 x.f1 x.f2 x.f3 x.f4) R → Ev (fun k => phalaroperef16_May.j2 k l i false x.f0 x.f1 x.f2 x.f3 x.f4) R := fun R h => Ev.step (fun k => by simp only [phalaroperef16_May.j2]; rfl) h
    by_cases c1 : x.f0 < 1
    · rw [hbad (by unfold rightB toN; dsimp only; rw [if_neg (by omega), if_neg (by omega), if_neg (by omega), if_neg (by omega)])]
      exact Ev.step (fun k => by rw [hj2, if_pos c1]) hjT
    by_cases c2 : x.f0 > 4
    · rw [hbad (by unfold rightB toN; dsimp only; rw [if_neg (by omega), if_neg (by omega), if_neg (by omega), if_neg (by omega)])]
      exact Ev.step (fun k => by rw [hj2, if_neg c1, if_pos c2]) hjT
    by_cases c3 : x.f0 = 1
    · have he := evEater (l.length : Int) x.f0 x.f3 x.f4 x.f1 x.f2 hs1
      have hr : rightB l.length (i : Int) (toN x) = (x.f2.isEmpty && decide (x.f4 = 0) && eatsB l.length (x.f1.map toE)) := by
        unfold rightB toN
        dsimp only
        rw [if_pos c3]
      rw [← hr] at he
      cases hb2 : rightB l.length (i : Int) (toN x) with
      | false =>
        rw [hbad hb2]
        rw [hb2] at he
        exact Ev.step (fun k => by rw [hj2, if_neg c1, if_neg c2, if_pos c3]) (Ev.bind he hjT)
      | true =>
        rw [hb2] at he
        rw [hb2] at hr
        have hr' := hr.symm
        simp only [Bool.and_eq_true] at hr'
        exact Ev.step (fun k => by rw [hj2, if_neg c1, if_neg c2, if_pos c3]) (Ev.bind he (hjF _ (evMay_rest l _ i x (by omega) ⟨by omega, by omega⟩ (fun _ => hr'.2) (fun h => absurd c3 h) (by omega) hnext hbad)))
    · cases hE : x.f1 with
      | cons e r =>
        rw [hbad (by
          unfold rightB toN
          dsimp only
          rw [if_neg c3, hE]
          simp)]
        refine Ev.step (fun k => ?_) hjT
        rw [hj2, if_neg c1, if_neg c2, if_neg c3, if_pos (by rw [hE]; simp only [List.length_cons]; omega)]
      | nil =>
        have hgo : Ev (fun k => phalaroperef16_May.l1 k l i 0 x.f0 x.f1 x.f2 x.f3 x.f4) (mayB (l.map toN)) := by
          by_cases c4 : x.f0 = 2
          · exact evMay_forks l _ i x c4 hE hs2 (by omega) hnext hbad x.f2.length 0 (by omega) (fun _ _ h => by omega)
          · exact evMay_rest l _ i x c4 ⟨by omega, by omega⟩ (fun h => absurd h c3) (fun _ => hE) (by omega) hnext hbad
        refine Ev.step (fun k => ?_) (hjF _ hgo)
        rw [hj2, if_neg c1, if_neg c2, if_neg c3, if_neg (by rw [hE]; simp)]
theorem evMay (l : List S46) (hb : l.length ≤ 100000) (hs : ∀ x ∈ l, x.f1.length ≤ 100000 ∧ x.f2.length ≤ 100000) : Ev (fun k => phalaroperef16_May.f k l) (mayB (l.map toN)) :=
  evMay_l0 l hb hs l.length 0 (by omega) (fun _ _ h => by omega)
end Go.Proofs.Ytacnflelkpkbhaa.PA
end
