/- Texts of this claim, those that nothing needs left out: Zbb Zaw Zbd Zbg. -/
import Derived.Test.YtfaiplbogchgjaaBaG22
import Derived.Test.YtfaiplbogchgjaaBaG20
import Derived.Test.YtfaiplbogchgjaaBaG23
import Derived.Test.YtfaiplbogchgjaaBaG24
import Derived.Test.YtfaiplbogchgjaaBaG11
import Derived.Test.YtfaiplbogchgjaaBaG19
import Derived.Test.YtfaiplbogchgjaaBaG21
import Derived.Test.YtfaiplbogchgjaaBaG18
section
namespace Go.Proofs.Ytfaiplbogchgjaa.PA
set_option linter.unusedSimpArgs false
set_option linter.unusedVariables false
open Go.RowKit Go.Proofs.YtfaiplbogchgjaaW.PrintWords Go.Proofs.YtfaiplbogchgjaaW.PrintLast
def ltB (a b : ByteArray) : Prop := a.data.toList < b.data.toList
theorem ltB_of {a b : ByteArray} (h : ¬ ltB a b) (hne : a ≠ b) : ltB b a := by
  refine Classical.byContradiction fun h' => hne ?_
  have h1 : b.data.toList ≤ a.data.toList := h
  have h2 : a.data.toList ≤ b.data.toList := h'
  exact ByteArray.ext (Array.ext' (List.le_antisymm h2 h1))
theorem ltB_trans {a b c : ByteArray} (h : ltB a b) (k : ltB b c) : ltB a c := List.lt_trans h k
theorem ltB_irrefl (a : ByteArray) : ¬ ltB a a := List.lt_irrefl _
theorem less_iff {a b : ByteArray} : Op.bytesLess a.toList b.toList = true ↔ ltB a b := by
  rw [Go.Proofs.bytesLess_eq, decide_eq_true_iff, ByteArray.toList_eq, ByteArray.toList_eq]
  rfl
def insB (n : ByteArray) : List ByteArray → List ByteArray
  | [] => [n]
  | y :: ys => if Op.bytesLess n.toList y.toList = true then n :: y :: ys else y :: insB n ys
theorem insB_len (n : ByteArray) : ∀ l, (insB n l).length = l.length + 1
  | [] => rfl
  | y :: ys => by
    unfold insB
    split
    · rfl
    · rw [List.length_cons, insB_len n ys, List.length_cons]
theorem mem_insB (n x : ByteArray) : ∀ l, x ∈ insB n l ↔ x = n ∨ x ∈ l
  | [] => by simp [insB]
  | y :: ys => by
    unfold insB
    split
    · rw [List.mem_cons]
    · rw [List.mem_cons, mem_insB n x ys, List.mem_cons]
      constructor
      · rintro (h | h | h)
        · exact .inr (.inl h)
        · exact .inl h
        · exact .inr (.inr h)
      · rintro (h | h | h)
        · exact .inr (.inl h)
        · exact .inl h
        · exact .inr (.inr h)
theorem insB_sorted (n : ByteArray) : ∀ l : List ByteArray, l.Pairwise ltB → n ∉ l → (insB n l).Pairwise ltB
  | [], _, _ => List.pairwise_singleton _ _
  | y :: ys, hp, hn => by
    obtain ⟨h1, h2⟩ := List.pairwise_cons.1 hp
    unfold insB
    split
    · rename_i h
      have hlt := less_iff.1 h
      refine List.pairwise_cons.2 ⟨fun z hz => ?_, hp⟩
      rcases List.mem_cons.1 hz with rfl | hz
      · exact hlt
      · exact ltB_trans hlt (h1 z hz)
    · rename_i h
      have hyn : ltB y n := ltB_of (fun h' => h (less_iff.2 h')) (fun e => hn (e ▸ List.mem_cons_self))
      refine List.pairwise_cons.2 ⟨fun z hz => ?_, insB_sorted n ys h2 (fun h' => hn (List.mem_cons_of_mem _ h'))⟩
      rcases (mem_insB n z ys).1 hz with rfl | hz
      · exact hyn
      · exact h1 z hz
theorem names_told {l : List S38} {out : List ByteArray} (hp : out.Pairwise ltB) (hm : ∀ x, x ∈ out ↔ (getL l x.data.toList).isSome = true) : out = namesS l := by
  have hnd : (out.map fun x => x.data.toList).Nodup := by
    unfold List.Nodup
    rw [List.pairwise_map]
    exact hp.imp fun {a b} h e => by unfold ltB at h; rw [e] at h; exact List.lt_irrefl _ h
  have hperm : (out.map fun x => x.data.toList).Perm (keysL l) := (List.perm_ext_iff_of_nodup hnd (nodup_keysL l)).2 fun x => by
    rw [mem_keysL, List.mem_map]
    constructor
    · rintro ⟨y, hy, rfl⟩; exact (hm y).1 hy
    · intro h; exact ⟨nmOf x, (hm (nmOf x)).2 h, rfl⟩
  have hsort : (out.map fun x => x.data.toList).mergeSort leL = out.map fun x => x.data.toList := by
    apply List.mergeSort_of_pairwise
    rw [List.pairwise_map]
    exact hp.imp fun {a b} h => by unfold leL; rw [decide_eq_true_iff]; exact List.le_of_lt h
  have hs : sortedL l = out.map fun x => x.data.toList := by
    rw [← hsort]
    exact (mergeSort_of_perm hperm).symm
  rw [names_eq, hs, List.map_map]
  conv => lhs; rw [← List.map_id out]
  exact List.map_congr_left fun x _ => rfl
theorem names_sorted (l : List S38) : (sortedL l).Pairwise (· < ·) := by
  have tr : ∀ a b c : List UInt8, leL a b = true → leL b c = true → leL a c = true := fun a b c h1 h2 => by simp only [leL, decide_eq_true_eq] at *; exact List.le_trans h1 h2
  have tt : ∀ a b : List UInt8, (leL a b || leL b a) = true := fun a b => by simp only [leL, Bool.or_eq_true, decide_eq_true_eq]; exact List.le_total a b
  have h1 := List.pairwise_mergeSort tr tt (keysL l)
  have h2 : (sortedL l).Nodup := (List.mergeSort_perm (keysL l) leL).nodup_iff.2 (nodup_keysL l)
  refine (h1.and h2).imp fun {a b} h => ?_
  refine Classical.byContradiction fun h' => h.2 (List.le_antisymm (by simpa [leL] using h.1) h')
theorem evNames_l1 (l : List S38) (out : List ByteArray) (i : Nat) (hi : i < l.length) (hib : i < 1000000) (ho : out.length ≤ 1000000) (R : List ByteArray) (d : Nat) : ∀ (j : Nat) (acc : List ByteArray) (dn : Bool), j + d = out.length → acc.length + d + (if dn = true then 0 else 1) ≤ 2000000 →
    Ev (fun k => phalaroperef09_Names.l0 k l (acc ++ (if dn = true then out.drop j else insB l[i].f0 (out.drop j))) ((i + 1 : Nat) : Int)) R → Ev (fun k => phalaroperef09_Names.l1 k l out (i : Int) acc dn (j : Int)) R := by
  induction d with
  | zero =>
    intro j acc dn hj ha next
    rw [List.drop_eq_nil_of_le (by omega)] at next
    cases dn with
    | true =>
      rw [if_pos rfl] at ha
      rw [if_pos rfl, List.append_nil] at next
      refine Ev.step (fun k => ?_) next
      simp only [phalaroperef09_Names.l1]
      rw [if_neg (by omega), if_pos trivial, w1 i (by omega)]
    | false =>
      rw [if_neg (by decide)] at ha
      rw [if_neg (by decide)] at next
      refine Ev.step (fun k => ?_) next
      simp only [phalaroperef09_Names.l1]
      rw [if_neg (by omega), if_neg (by decide), if_pos (by omega), if_pos (by omega), if_pos (by omega), rdb_at l i hi, w1 i (by omega)]
      rfl
  | succ d ih =>
    intro j acc dn hj ha next
    have hlt : j < out.length := by omega
    cases dn with
    | true =>
      rw [if_pos rfl] at ha
      rw [if_pos rfl, List.drop_eq_getElem_cons hlt, ← List.singleton_append, ← List.append_assoc] at next
      refine Ev.step (fun k => ?_) (ih (j + 1) (acc ++ [out[j]]) true (by omega) (by rw [if_pos rfl, List.length_append, List.length_singleton]; omega) (by rw [if_pos rfl]; exact next))
      simp only [phalaroperef09_Names.l1]
      rw [if_pos (by omega), if_pos trivial, if_pos (by omega), if_pos (by omega), rdOf_at out j hlt, w1 j (by omega)]
    | false =>
      rw [if_neg (by decide)] at ha
      rw [if_neg (by decide), List.drop_eq_getElem_cons hlt] at next
      unfold insB at next
      by_cases hb : Op.bytesLess l[i].f0.toList out[j].toList = true
      · rw [if_pos hb, show acc ++ l[i].f0 :: out[j] :: out.drop (j + 1) = (acc ++ [l[i].f0] ++ [out[j]]) ++ out.drop (j + 1) from by simp] at next
        refine Ev.step (fun k => ?_) (ih (j + 1) (acc ++ [l[i].f0] ++ [out[j]]) true (by omega) (by rw [if_pos rfl]; simp only [List.length_append, List.length_singleton]; omega) (by rw [if_pos rfl]; exact next))
        simp only [phalaroperef09_Names.l1]
        rw [if_pos (by omega), if_neg (by decide), if_pos (by omega), if_pos (by omega), if_pos (by omega), rdb_at l i hi, rdOf_at out j hlt, if_pos hb, if_pos (by omega)]
        simp only [Option.bind_some]
        rw [if_pos (by rw [List.length_append, List.length_singleton]; omega), w1 j (by omega)]
      · rw [if_neg hb, ← List.singleton_append, ← List.append_assoc] at next
        refine Ev.step (fun k => ?_) (ih (j + 1) (acc ++ [out[j]]) false (by omega) (by rw [if_neg (by decide), List.length_append, List.length_singleton]; omega) (by rw [if_neg (by decide)]; exact next))
        simp only [phalaroperef09_Names.l1]
        rw [if_pos (by omega), if_neg (by decide), if_pos (by omega), if_pos (by omega), if_pos (by omega), rdb_at l i hi, rdOf_at out j hlt, if_neg hb, if_pos (by omega), w1 j (by omega)]
theorem hasN_iff (l : List ByteArray) (nm : ByteArray) : hasN l nm = true ↔ nm ∈ l := by
  unfold hasN
  rw [List.any_eq_true]
  constructor
  · rintro ⟨y, hy, h⟩
    have := str_eq.1 (beq_iff_eq.1 h)
    rw [show nm = y from (ByteArray.ext (Array.ext' this)).symm]
    exact hy
  · intro h
    exact ⟨nm, h, by simp⟩
theorem getL_mem {l : List S38} {nm : ByteArray} (h : (getL l nm.data.toList).isSome = true) : ∃ j, ∃ hj : j < l.length, l[j].f0 = nm := by
  unfold getL at h
  cases hf : l.find? (fun y => y.f0.data.toList == nm.data.toList) with
  | none => rw [hf] at h; cases h
  | some y =>
    obtain ⟨j, hj, rfl⟩ := List.getElem_of_mem (List.mem_of_find?_eq_some hf)
    have := List.find?_some hf
    exact ⟨j, hj, ByteArray.ext (Array.ext' (by simpa using this))⟩
theorem evNames_l0 (l : List S38) (hm : modestB l) (d : Nat) : ∀ (i : Nat) (out : List ByteArray), i + d = l.length → out.length ≤ i → out.Pairwise ltB → (∀ x, x ∈ out ↔ (getL l x.data.toList).isSome = true ∧ ∃ j, ∃ hj : j < l.length, j < i ∧ l[j].f0 = x) →
    Ev (fun k => phalaroperef09_Names.l0 k l out (i : Int)) (namesS l) := by
  have hl := hm.1
  induction d with
  | zero =>
    intro i out hi ho hp hmem
    refine Ev.step (f := fun _ => some out) (fun k => ?_) ?_
    · simp only [phalaroperef09_Names.l0]
      rw [if_neg (by omega)]
    · rw [← names_told hp (fun x => (hmem x).trans ⟨fun h => h.1, fun h => ⟨h, by obtain ⟨j, hj, e⟩ := getL_mem h; exact ⟨j, hj, by omega, e⟩⟩⟩)]
      exact Ev.now _
  | succ d ih =>
    intro i out hi ho hp hmem
    have hlt : i < l.length := by omega
    have skip : ((getL l l[i].f0.data.toList).isSome = false ∨ l[i].f0 ∈ out) → Ev (fun k => phalaroperef09_Names.l0 k l out ((i + 1 : Nat) : Int)) (namesS l) := fun h => by
      refine ih (i + 1) out (by omega) (by omega) hp (fun x => (hmem x).trans ⟨fun ⟨h1, j, hj, hji, e⟩ => ⟨h1, j, hj, by omega, e⟩, fun ⟨h1, j, hj, hji, e⟩ => ?_⟩)
      rcases Nat.lt_or_ge j i with hh | hh
      · exact ⟨h1, j, hj, hh, e⟩
      · obtain rfl : j = i := by omega
        rcases h with h | h
        · rw [← e, h] at h1; cases h1
        · rw [e] at h; exact (hmem x).1 h
    have hj1 : ∀ k b, phalaroperef09_Names.j1 (k + 1) l out (i : Int) b = if b = true then phalaroperef09_Names.l0 k l out ((i + 1 : Nat) : Int) else phalaroperef09_Names.l1 k l out (i : Int) [] false 0 := fun k b => by
      simp only [phalaroperef09_Names.j1]
      rw [w1 i (by omega)]
    have hstep : ∀ k, phalaroperef09_Names.l0 (k + 1) l out (i : Int) = (phalaroperef09_Get.f k l l[i].f0).bind fun bt => if bt.2.2.2.2 = true then (phalaroperef07_Has.f k out l[i].f0).bind fun t => phalaroperef09_Names.j1 k l out (i : Int) t else phalaroperef09_Names.j1 k l out (i : Int) true := fun k => by
      simp only [phalaroperef09_Names.l0]
      rw [if_pos (by omega), if_pos (by omega), rdb_at l i hlt]
    refine Ev.step hstep (Ev.bind (evGet l hm l[i].f0) ?_)
    cases hg : (getL l l[i].f0.data.toList).isSome with
    | false =>
      refine Ev.congr (f := fun k => phalaroperef09_Names.j1 k l out (i : Int) true) (fun k => ?_) (Ev.step (fun k => (hj1 k true).trans (if_pos rfl)) (skip (.inl hg)))
      rw [show (getT l l[i].f0).2.2.2.2 = false from hg, if_neg (by decide)]
    | true =>
      refine Ev.congr (f := fun k => (phalaroperef07_Has.f k out l[i].f0).bind fun t => phalaroperef09_Names.j1 k l out (i : Int) t) (fun k => ?_) (Ev.bind (evHas out l[i].f0 (by omega)) ?_)
      · rw [show (getT l l[i].f0).2.2.2.2 = true from hg, if_pos rfl]
      · cases hh : hasN out l[i].f0 with
        | true => exact Ev.step (fun k => (hj1 k true).trans (if_pos rfl)) (skip (.inr ((hasN_iff _ _).1 hh)))
        | false =>
          have hnot : l[i].f0 ∉ out := fun h => by rw [(hasN_iff _ _).2 h] at hh; cases hh
          refine Ev.step (fun k => (hj1 k false).trans (if_neg (by decide))) ?_
          have := evNames_l1 l out i hlt (by omega) (by omega) (namesS l) out.length 0 [] false (by omega) (by rw [if_neg (by decide)]; simp; omega) (by
            rw [if_neg (by decide), List.drop_zero, List.nil_append]
            refine ih (i + 1) (insB l[i].f0 out) (by omega) (by rw [insB_len]; omega) (insB_sorted _ _ hp hnot) (fun x => ?_)
            rw [mem_insB, hmem x]
            constructor
            · rintro (rfl | ⟨h1, j, hj, hji, e⟩)
              · exact ⟨hg, i, hlt, by omega, rfl⟩
              · exact ⟨h1, j, hj, by omega, e⟩
            · rintro ⟨h1, j, hj, hji, e⟩
              rcases Nat.lt_or_ge j i with hh | hh
              · exact .inr ⟨h1, j, hj, hh, e⟩
              · obtain rfl : j = i := by omega
                exact .inl e.symm)
          exact this
theorem evNames (l : List S38) (hm : modestB l) : Ev (fun k => phalaroperef09_Names.f k l) (namesS l) :=
  evNames_l0 l hm l.length 0 [] (by omega) (by simp) List.Pairwise.nil (fun x => ⟨fun h => (by cases h), fun ⟨_, j, _, h, _⟩ => absurd h (Nat.not_lt_zero _)⟩)
theorem canonB_names (l : List S38) : canonB l = (namesS l).map fun nm => ⟨nm, (getL l nm.data.toList).getD z28⟩ := by
  rw [canonB_eq, names_eq, List.map_map]
  rfl
theorem canonB_len (l : List S38) : (canonB l).length = (namesS l).length := by rw [canonB_names, List.length_map]
theorem names_short (l : List S38) : (namesS l).length ≤ l.length := by rw [names_len]; exact sorted_len l
theorem evCanon_l0 (l : List S38) (hm : modestB l) (d : Nat) : ∀ i : Nat, i + d = (namesS l).length → Ev (fun k => phalaroperef09_Canon.l0 k l ((canonB l).take i) (namesS l) (i : Int)) (canonB l) := by
  have hs := names_short l
  have hl := hm.1
  induction d with
  | zero =>
    intro i hi
    refine Ev.step (f := fun _ => some (canonB l)) (fun k => ?_) (Ev.now _)
    simp only [phalaroperef09_Canon.l0]
    rw [if_neg (by omega), List.take_of_length_le (by rw [canonB_len]; omega)]
  | succ d ih =>
    intro i hi
    have hlt : i < (namesS l).length := by omega
    refine Ev.step (f := fun k => (phalaroperef09_Get.f k l (namesS l)[i]).bind fun bt => phalaroperef09_Canon.l0 k l ((canonB l).take i ++ [(⟨(namesS l)[i], ⟨bt.1, bt.2.1, bt.2.2.1, bt.2.2.2.1⟩⟩ : S38)]) (namesS l) ((i + 1 : Nat) : Int)) (fun k => ?_) (Ev.bind (evGet l hm _) ?_)
    · simp only [phalaroperef09_Canon.l0]
      rw [if_pos (by omega), if_pos (by omega), rdOf_at _ i hlt, w1 i (by omega)]
      have hcond : ((canonB l).take i).length < 1599289640401 := by rw [List.length_take]; omega
      simp only [if_pos hcond]
    · have := ih (i + 1) (by omega)
      rw [List.take_succ_eq_append_getElem (by rw [canonB_len]; exact hlt)] at this
      have e : (canonB l)[i]'(by rw [canonB_len]; exact hlt) = ⟨(namesS l)[i], ⟨(getT l (namesS l)[i]).1, (getT l (namesS l)[i]).2.1, (getT l (namesS l)[i]).2.2.1, (getT l (namesS l)[i]).2.2.2.1⟩⟩ := by
        simp only [canonB_names, List.getElem_map]
        rfl
      rw [e] at this
      exact this
theorem evCanonB (l : List S38) (hm : modestB l) : Ev (fun k => phalaroperef09_Canon.f k l) (canonB l) := by
  refine Ev.congr (f := fun k => (phalaroperef09_Names.f k l).bind fun t => phalaroperef09_Canon.l0 k l [] t 0) (fun k => rfl) (Ev.bind (evNames l hm) ?_)
  have := evCanon_l0 l hm (namesS l).length 0 (by omega)
  rw [List.take_zero] at this
  exact this
theorem mem_canonB {l : List S38} {x : S38} (h : x ∈ canonB l) : getL l x.f0.data.toList = some x.f1 := by
  rw [canonB_eq, List.mem_map] at h
  obtain ⟨nm, hn, rfl⟩ := h
  obtain ⟨s, hs⟩ := Option.isSome_iff_exists.1 (mem_keysL.1 (List.mem_mergeSort.1 hn))
  show getL l nm = some ((getL l nm).getD z28)
  rw [hs]; rfl
theorem canonB_modest {l : List S38} (hm : modestB l) : modestB (canonB l) := by
  refine ⟨by rw [canonB_len]; exact Nat.le_trans (names_short l) hm.1, fun x hx => ?_⟩
  have hg := mem_canonB hx
  exact ⟨keys_size hm (mem_keysL.2 (by rw [hg]; rfl)), (getL_canon hg).2 hm⟩
theorem getL_def {l : List S38} {nm : List UInt8} {s : S28} (h : getL l nm = some s) : defS s = true := by
  unfold getL at h
  obtain ⟨x, hx, hs⟩ := Option.bind_eq_some_iff.1 h
  split at hs
  · rename_i hd
    obtain rfl := Option.some.inj hs
    unfold defS
    rw [texts_canon]
    exact hd
  · cases hs
theorem getL_canonB (l : List S38) (nm : List UInt8) : getL (canonB l) nm = getL l nm := by
  cases hg : getL l nm with
  | some s =>
    have hmem : (⟨nmOf nm, s⟩ : S38) ∈ canonB l := by
      rw [canonB_eq, List.mem_map]
      exact ⟨nm, List.mem_mergeSort.2 (mem_keysL.2 (by rw [hg]; rfl)), by rw [hg]; rfl⟩
    have hf : ∃ y, (canonB l).find? (fun x => x.f0.data.toList == nm) = some y := by
      cases h : (canonB l).find? (fun x => x.f0.data.toList == nm) with
      | some y => exact ⟨y, rfl⟩
      | none => have := List.find?_eq_none.1 h _ hmem; simp [nmOf] at this
    obtain ⟨y, hy⟩ := hf
    have h1 : y.f0.data.toList = nm := by simpa using List.find?_some hy
    have h2 := mem_canonB (List.mem_of_find?_eq_some hy)
    rw [h1, hg] at h2
    unfold getL
    rw [hy]
    simp only [Option.bind_some]
    rw [← Option.some.inj h2, if_pos (getL_def hg), (getL_canon hg).1]
  | none =>
    unfold getL
    rw [List.find?_eq_none.2 (fun x hx => by
      have h2 := mem_canonB hx
      intro h
      have : x.f0.data.toList = nm := by simpa using h
      rw [this, hg] at h2; cases h2)]
    rfl
theorem canonB_canonB (l : List S38) : canonB (canonB l) = canonB l := canonB_ext (getL_canonB l)
theorem same_canonB (l : List S38) : sameB l (canonB l) = true := by
  unfold sameB
  rw [canonB_canonB, decide_eq_true_iff]
theorem evVeryB_l0 (a b : List S38) (hl : a.length = b.length) (ha : modestB a) (d : Nat) : ∀ i : Nat, i + d = a.length → a.take i = b.take i → Ev (fun k => phalaroperef09_Very.l0 k a b (i : Int)) (decide (a = b)) := by
  have hla := ha.1
  induction d with
  | zero =>
    intro i hi ht
    refine Ev.step (f := fun _ => some true) (fun k => ?_) ?_
    · simp only [phalaroperef09_Very.l0]
      rw [if_neg (by omega)]
    · rw [List.take_of_length_le (by omega), List.take_of_length_le (by omega)] at ht
      rw [decide_eq_true ht]
      exact Ev.now _
  | succ d ih =>
    intro i hi ht
    have hm := (ha.2 a[i] (List.getElem_mem _)).2
    have hv := evVery a[i].f1 b[i].f1 (by have := hm.2.2.1; omega) (by have := hm.2.1; omega)
    by_cases he : a[i].f0.toList = b[i].f0.toList
    · refine Ev.step (f := fun k => (phalaroperef08_Very.f k a[i].f1.f0 a[i].f1.f1 a[i].f1.f2 a[i].f1.f3 b[i].f1.f0 b[i].f1.f1 b[i].f1.f2 b[i].f1.f3).bind fun t => if t = true then phalaroperef09_Very.l0 k a b ((i + 1 : Nat) : Int) else some false) (fun k => ?_) (Ev.bind hv ?_)
      · simp only [phalaroperef09_Very.l0]
        rw [if_pos (by omega), if_pos (by omega), if_pos (by omega), rdb_at a i (by omega), rdb_at b i (by omega), if_pos he, w1 i (by omega)]
      · by_cases hv' : a[i].f1 = b[i].f1
        · rw [decide_eq_true hv']
          have hx : a[i] = b[i] := by
            have h0 : a[i].f0 = b[i].f0 := ByteArray.ext (Array.ext' (str_eq.1 he))
            rcases hx : a[i] with ⟨x0, x1⟩
            rcases hy : b[i] with ⟨y0, y1⟩
            rw [hx, hy] at h0 hv'
            dsimp only at h0 hv'
            rw [h0, hv']
          exact ih (i + 1) (by omega) (by rw [List.take_succ_eq_append_getElem (by omega), List.take_succ_eq_append_getElem (by omega), ht, hx])
        · rw [decide_eq_false hv', decide_eq_false (fun h => hv' (by subst h; rfl))]
          exact Ev.now _
    · refine Ev.step (f := fun _ => some false) (fun k => ?_) ?_
      · simp only [phalaroperef09_Very.l0]
        rw [if_pos (by omega), if_pos (by omega), if_pos (by omega), rdb_at a i (by omega), rdb_at b i (by omega), if_neg he]
      · rw [decide_eq_false (fun h => he (by subst h; rfl))]
        exact Ev.now _
theorem evVeryB (a b : List S38) (ha : modestB a) : Ev (fun k => phalaroperef09_Very.f k a b) (decide (a = b)) := by
  by_cases hl : a.length = b.length
  · refine Ev.congr (fun k => ?_) (evVeryB_l0 a b hl ha a.length 0 (by omega) (by simp))
    unfold phalaroperef09_Very.f
    rw [if_pos (by omega)]; rfl
  · refine Ev.congr (f := fun _ => some false) (fun k => ?_) ?_
    · unfold phalaroperef09_Very.f
      rw [if_neg (by omega)]
    · rw [decide_eq_false (fun h => hl (by rw [h]))]
      exact Ev.now _
def three : List S38 := [⟨⟨#[98]⟩, ⟨1, ⟨#[49]⟩, [], []⟩⟩, ⟨⟨#[97]⟩, ⟨1, ⟨#[50]⟩, [], []⟩⟩, ⟨⟨#[98]⟩, ⟨1, ⟨#[51]⟩, [], []⟩⟩]
theorem three_a : getL three [97] = some ⟨1, ⟨#[50]⟩, [], []⟩ := by
  unfold getL three
  simp [canonS_eq, defS, textsOf]
theorem three_b : getL three [98] = some ⟨1, ⟨#[49]⟩, [], []⟩ := by
  unfold getL three
  simp [canonS_eq, defS, textsOf]
theorem three_keys : keysL three = [[97], [98]] := by
  have h : (three.map fun x => x.f0.data.toList) = [[98], [97], [98]] := rfl
  unfold keysL
  rw [h]
  simp [three_a, three_b, dedupL]
theorem three_canon : canonB three = [⟨⟨#[97]⟩, ⟨1, ⟨#[50]⟩, [], []⟩⟩, ⟨⟨#[98]⟩, ⟨1, ⟨#[49]⟩, [], []⟩⟩] := by
  have h : sortedL three = [[97], [98]] := by
    unfold sortedL
    rw [three_keys]
    exact List.mergeSort_of_pairwise (by decide)
  rw [canonB_eq, h]
  simp [three_a, three_b, nmOf]
theorem three_modest : modestB three := by
  refine ⟨by decide, fun x hx => ?_⟩
  have : x.f0.size ≤ 1000000 ∧ x.f1.f1.size ≤ 1000000 ∧ x.f1.f2 = [] ∧ x.f1.f3 = [] := by
    unfold three at hx
    simp only [List.mem_cons, List.not_mem_nil, or_false] at hx
    rcases hx with rfl | rfl | rfl <;> exact ⟨by decide, by decide, rfl, rfl⟩
  obtain ⟨h0, h1, h2, h3⟩ := this
  exact ⟨h0, h1, by rw [h2]; decide, by rw [h3]; decide, by rw [h2]; simp, by rw [h3]; simp⟩
end Go.Proofs.Ytfaiplbogchgjaa.PA
end
section
namespace Go.Proofs.Ytfaiplbogchgjaa.PA
set_option linter.unusedSimpArgs false
set_option linter.unusedVariables false
open Go.RowKit Go.Proofs.YtfaiplbogchgjaaW.PrintWords Go.Proofs.YtfaiplbogchgjaaW.PrintLast
set_option maxHeartbeats 8000000 in
set_option maxRecDepth 100000 in
theorem text_any (s : ByteArray) (w : World) : Calls Try.prog 27 #[.string s] w fun e W => e = .returned (.agg #[.int .i64 1, .string s, .slice none 0 0, .slice none 0 0]) ∧ Below w.heap.size w W := by
  go_enter Try.func27, Try.ntmps27
  go_wp2_with fail
  exact bodyPost_ret (results_cell_row rfl _ _ w.heap.size 28 _ (0, 0) _ rfl (blk_new w _) Try.underlying28 rfl (by kernel_rfl)) rfl ⟨rfl, X.below_new1 _ _⟩
theorem C_three {W : World} {b : Nat} (h : W.heap[b]? = some (.cells #[.string ⟨#[98]⟩, .int .i64 1, .string ⟨#[49]⟩, .slice none 0 0, .slice none 0 0, .string ⟨#[97]⟩, .int .i64 1, .string ⟨#[50]⟩, .slice none 0 0, .slice none 0 0, .string ⟨#[98]⟩, .int .i64 1, .string ⟨#[51]⟩, .slice none 0 0, .slice none 0 0] 38 (0, 0))) :
    Kd.C k38 W (some ⟨b, 0, none⟩) 3 three := by
  have hc : ∀ i, W.cell? (Addr.add ⟨b, 0, none⟩ i) = (#[.string ⟨#[98]⟩, .int .i64 1, .string ⟨#[49]⟩, .slice none 0 0, .slice none 0 0, .string ⟨#[97]⟩, .int .i64 1, .string ⟨#[50]⟩, .slice none 0 0, .slice none 0 0, .string ⟨#[98]⟩, .int .i64 1, .string ⟨#[51]⟩, .slice none 0 0, .slice none 0 0] : Array Value)[i]? := fun i => by
    cases i with
    | zero => exact blk_cell h 0
    | succ i =>
      rw [show Addr.add ⟨b, 0, none⟩ (i + 1) = ⟨b, i + 1, none⟩ from by simp [Addr.add]]
      exact blk_cell h (i + 1)
  have hk : ∀ (s t : ByteArray), k38.K W ⟨s, ⟨1, t, [], []⟩⟩ [.string s, .int .i64 1, .string t, .slice none 0 0, .slice none 0 0] := fun s t =>
    k38_mk W ⟨s, ⟨1, t, [], []⟩⟩ (A3 := none) (c3 := 0) (Nat.le_refl _) (Kd.R_reads' (Kd.R_nil Kd.string 9 W 0 (fun _ => True))).2.2 (A4 := none) (c4 := 0) (Nat.le_refl _) (Kd.R_reads' (Kd.R_nil k50 50 W 0 (fun _ => True))).2.2
  refine ⟨rfl, by omega, fun _ => ⟨_, rfl, fun j p hj => ?_⟩⟩
  match j, hj with
  | 0, hj => cases hj; exact ⟨_, rfl, hk _ _, fun i u hu => by rw [hc]; match i, hu with | 0, hu => exact hu | 1, hu => exact hu | 2, hu => exact hu | 3, hu => exact hu | 4, hu => exact hu⟩
  | 1, hj => cases hj; exact ⟨_, rfl, hk _ _, fun i u hu => by rw [hc]; match i, hu with | 0, hu => exact hu | 1, hu => exact hu | 2, hu => exact hu | 3, hu => exact hu | 4, hu => exact hu⟩
  | 2, hj => cases hj; exact ⟨_, rfl, hk _ _, fun i u hu => by rw [hc]; match i, hu with | 0, hu => exact hu | 1, hu => exact hu | 2, hu => exact hu | 3, hu => exact hu | 4, hu => exact hu⟩
set_option maxHeartbeats 8000000 in
set_option maxRecDepth 100000 in
theorem awake_walk (w : World) : Calls Try.prog 9 #[] w fun e W => e = .returned (.bool true) ∧ Below w.heap.size w W := by
  go_enter Try.func9, Try.ntmps9
  go_wp2_with fail
  refine (text_any _ _).mono ?_
  rintro e w1 ⟨rfl, hb1⟩
  go_wp2_with fail
  refine (text_any _ _).mono ?_
  rintro e w2 ⟨rfl, hb2⟩
  go_wp2_with fail
  refine (text_any _ _).mono ?_
  rintro e w3 ⟨rfl, hb3⟩
  have hb := below_step (below_step hb1 hb2) hb3
  clear hb1 hb2 hb3
  go_wp2_with fail
  have h3 := blk_new w3 (.cells #[.string ⟨#[98]⟩, .int .i64 1, .string ⟨#[49]⟩, .slice none 0 0, .slice none 0 0, .string ⟨#[97]⟩, .int .i64 1, .string ⟨#[50]⟩, .slice none 0 0, .slice none 0 0, .string ⟨#[98]⟩, .int .i64 1, .string ⟨#[51]⟩, .slice none 0 0, .slice none 0 0] 38)
  have hC := C_three h3
  refine (canon_of (some ⟨w3.heap.size, 0, none⟩) 3 three _ hC three_modest).mono ?_
  rintro e w4 ⟨v4, rfl, h4, hb4⟩
  have hb' := below_step (below_alloc hb (.cells #[.string ⟨#[98]⟩, .int .i64 1, .string ⟨#[49]⟩, .slice none 0 0, .slice none 0 0, .string ⟨#[97]⟩, .int .i64 1, .string ⟨#[50]⟩, .slice none 0 0, .slice none 0 0, .string ⟨#[98]⟩, .int .i64 1, .string ⟨#[51]⟩, .slice none 0 0, .slice none 0 0] 38)) hb4
  have hC4 := Kd.C_below hC hb4
  obtain ⟨A4, c4, rfl, l4, g4⟩ := Kd.R_reads h4
  have HC := Aside0.mk hC4
  have HB := Aside0.mk hb'
  have HG := Aside0.mk g4
  clear hb h3 hC hb4 hb' hC4 g4 h4
  go_wp2_with fail
  refine (get_of (some ⟨w3.heap.size, 0, none⟩) 3 three ⟨#[98]⟩ _ HC.out three_modest (by decide)).mono ?_
  rintro e w5 ⟨v2, v3, rfl, r2, r3, hb5⟩
  have hg : getL three (ByteArray.mk #[98]).data.toList = some ⟨1, ⟨#[49]⟩, [], []⟩ := three_b
  rw [hg] at r2 r3 ⊢
  obtain ⟨B2, d2, rfl⟩ := Kd.R_slice r2
  obtain ⟨B3, d3, rfl⟩ := Kd.R_slice r3
  have hC5 := Kd.C_below HC.out hb5
  have g5 := Kd.C_below HG.out hb5
  have hb' := below_step HB.out hb5
  have hlen : (canonB three).length = 2 := by rw [three_canon]; rfl
  obtain ⟨ad, E3, f3, E4, f4, ead, x0, _, _, _, _, _⟩ := at_T38 g5 0 (by decide) (by omega)
  obtain ⟨ad', F3, h3, F4, h4, ead', _, _, y2, _, _, _⟩ := at_T38 g5 1 (by decide) (by omega)
  obtain rfl : ad = ad' := by rw [ead] at ead'; injection ead'
  subst ead
  have q0 : (rd_T38 (canonB three) 0).f0 = ⟨#[97]⟩ := by rw [three_canon]; rfl
  have q1 : (rd_T38 (canonB three) 1).f1.f1 = ⟨#[49]⟩ := by rw [three_canon]; rfl
  rw [q0] at x0
  rw [q1] at y2
  have hal := below_alloc (Below.refl w5.heap.size w5) (.cells #[.int .i64 1, .string ⟨#[49]⟩, .slice B2 0 d2, .slice B3 0 d3] 28)
  have x0' := addr_keep hal x0
  have y2' := addr_keep hal y2
  simp only [Int.toNat_zero, Nat.zero_mul, Int.reduceToNat, Nat.reduceMul] at x0' y2'
  have ea : ad.add 0 = ad := by simp [Addr.add]
  rw [ea] at x0'
  have e5 : (⟨(ad.add 5).block, (ad.add 5).off + 2, none⟩ : Addr) = ⟨ad.block, ad.off + 5 + 1 + 1, none⟩ := by simp [Addr.add]
  rw [e5] at y2'
  clear r2 r3 hg q0 q1 x0 y2 hal ea e5
  have HC5 := Aside0.mk hC5
  have HG5 := Aside0.mk g5
  have HB5 := Aside0.mk hb'
  clear hC5 g5 hb' hb5 HC HG HB
  go_wp2_with fail
  have hal := below_alloc (Below.refl w5.heap.size w5) (.cells #[.int .i64 1, .string ⟨#[49]⟩, .slice B2 0 d2, .slice B3 0 d3] 28)
  have hs := same_of (some ⟨w3.heap.size, 0, none⟩) 3 three (some ad) c4 (canonB three) _ (Kd.C_below HC5.out hal) (Kd.C_below HG5.out hal) three_modest (canonB_modest three_modest)
  rw [hlen, same_canonB] at hs
  refine hs.mono ?_
  rintro e w6 ⟨rfl, hb6⟩
  have HB6 := Aside0.mk (below_step (below_alloc HB5.out _) hb6)
  clear hb6 hs hal
  go_wp2_with fail
  go_ret
  exact ⟨rfl, HB6.out⟩
end Go.Proofs.Ytfaiplbogchgjaa.PA
end
section
namespace Go.Proofs.Ytfaiplbogchgjaa.PA
set_option linter.unusedSimpArgs false
set_option linter.unusedVariables false
open Go.RowKit Go.Proofs.YtfaiplbogchgjaaW.PrintWords Go.Proofs.YtfaiplbogchgjaaW.PrintLast
variable {W : World}
theorem few_any (l : List S38) : ∃ b : Bool, (b = true → FewB l) ∧ ∀ (W : World) (A : Option Addr) (c : Nat), Kd.C k38 W A l.length l → l.length ≤ c →
    Calls Try.prog 10 #[.slice A l.length c] W fun e W' => e = .returned (.bool b) ∧ Below W.heap.size W W' := by
  obtain ⟨b, hb, h⟩ := evFew l
  obtain ⟨k, hk⟩ := hb.rounds
  exact ⟨b, h, fun W A c hr hc => phalaroperef09_Few.calls k A c l b W hr hc hk⟩
theorem rcanon_any (A : Option Addr) (c : Nat) (l : List S38) (W : World) (hr : Kd.C k38 W A l.length l) (hc : l.length ≤ c) (hm : modestB l) :
    Calls Try.prog 19 #[.slice A l.length c] W fun e W' => ∃ v, e = .returned v ∧ Kd.R k38 38 W' W.heap.size (fun _ => True) v (canonB l) ∧ Below W.heap.size W W' := by
  obtain ⟨k, hk⟩ := (evCanonB l hm).rounds
  exact phalaroperef09_Canon.calls k A c l _ W hr hc hk
theorem rveryB_any (A : Option Addr) (c : Nat) (l : List S38) (B : Option Addr) (d : Nat) (m : List S38) (W : World) (hr : Kd.C k38 W A l.length l) (hc : l.length ≤ c) (hr' : Kd.C k38 W B m.length m) (hd : m.length ≤ d) (hl : modestB l) :
    Calls Try.prog 17 #[.slice A l.length c, .slice B m.length d] W fun e W' => e = .returned (.bool (decide (l = m))) ∧ Below W.heap.size W W' := by
  obtain ⟨k, hk⟩ := (evVeryB l m hl).rounds
  exact phalaroperef09_Very.calls k A c l B d m _ W hr hc hr' hd hk
end Go.Proofs.Ytfaiplbogchgjaa.PA
end
section
namespace Go.Proofs.Ytfaiplbogchgjaa.PA
set_option linter.unusedSimpArgs false
set_option linter.unusedVariables false
open Go.RowKit Go.Proofs.YtfaiplbogchgjaaW.PrintWords Go.Proofs.YtfaiplbogchgjaaW.PrintLast
theorem find_perm {α : Type} {l m : List α} (p : α → Bool) (hp : l.Perm m) (hu : ∀ x ∈ l, ∀ y ∈ l, p x = true → p y = true → x = y) : l.find? p = m.find? p := by
  cases h : l.find? p with
  | none =>
    rw [List.find?_eq_none] at h
    exact (List.find?_eq_none.2 fun x hx => h x (hp.mem_iff.2 hx)).symm
  | some x =>
    have hx := List.mem_of_find?_eq_some h
    have px := List.find?_some h
    cases h' : m.find? p with
    | none => exact absurd px (List.find?_eq_none.1 h' x (hp.mem_iff.1 hx))
    | some y => rw [hu x hx y (hp.mem_iff.2 (List.mem_of_find?_eq_some h')) px (List.find?_some h')]
def seen {α : Type} (d : Kd α) (w0 : World) : Kd α where
  sz := d.sz
  E := []
  K := fun _ x cs => d.K w0 x cs
  M := fun _ _ _ x cs => d.K w0 x cs
  K_len := fun h => d.K_len h
  K_one := fun h => d.K_one h
  K_below := fun _ h => h
  K_of_M := fun h => h
  M_mono := fun _ h => h
  M_bound := fun h => h
  M_move := fun _ h => h
  M_lower := fun _ h => h
theorem C_seen {α : Type} {d : Kd α} {w0 W : World} {A : Option Addr} {n : Nat} {xs : List α} (h : (seen d w0).C W A n xs) (hb : Below w0.heap.size w0 W) : d.C W A n xs :=
  ReadsRow.imp_ h (Below.refl _ _) (fun _ _ hp => d.K_below hb hp)
def turn.T : Bool × List (List Nat × List Nat) := (true, [([], []), ([], []), ([0, 1], [0, 1]), ([], []), ([3], [3]), ([2, 4, 2], [2, 4]), ([5, 5, 0, 1, 2, 3, 4, 5], [5])])
def turn.B : List Nat := [0, 0, 3, 0, 8, 31, 63]
theorem turn.tab : rtab .any (opsOf Try.f5 16) = turn.T := by kernel_rfl
theorem turn.bits : waitsOk turn.T.2 turn.B = true := by kernel_rfl
theorem R_empty (w W : World) (base : Nat) (hb : base ≤ W.heap.size) : (seen k38 w).R 38 (W.alloc (.cells #[] 38)) base (fun _ => True) (.slice (some ⟨W.heap.size, 0, none⟩) 0 0) [] := by
  have h2 := World.ownsRow_lit (base := base) (e := 38) (size := 5) W #[] 0 hb (by simp [maxLen]) (by simp)
  have h3 : (W.alloc (.cells #[] 38)).ownsRow base 38 5 (.slice (some ⟨W.heap.size, 0, none⟩) 0 0) 0 [] := by simpa using h2
  exact ⟨fun _ _ => trivial, [], h3, Reps.none _ _⟩
end Go.Proofs.Ytfaiplbogchgjaa.PA
end
