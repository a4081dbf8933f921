/- Texts of this claim, those that nothing needs left out: Zbb Zaw Zbd Zbe Xvb LawBindTells. -/
import Derived.Test.YtfaiplbogchgjaaBtG22
import Derived.Test.YtfaiplbogchgjaaBtG20
import Derived.Test.YtfaiplbogchgjaaBtG23
import Derived.Test.YtfaiplbogchgjaaBtG24
import Derived.Test.YtfaiplbogchgjaaBtG25
import Derived.Test.YtfaiplbogchgjaaBtG11
import Derived.Test.YtfaiplbogchgjaaBtG19
import Derived.Test.YtfaiplbogchgjaaBtG21
import Derived.Test.YtfaiplbogchgjaaBtG18
import Derived.Test.YtfaiplbogchgjaaBtG5
import Derived.Test.YtfaiplbogchgjaaBtG16
import Derived.Test.YtfaiplbogchgjaaRows
import Derived.WalkKit
import Derived.ProofKit
import Derived.OpenShut
import Derived.ShutString
import Derived.ChangeOld
import Derived.Below
import Derived.SizedLaws
section
namespace Go.Proofs.Ytfaiplbogchgjaa.PA
set_option linter.unusedSimpArgs false
set_option linter.unusedVariables false
open Go.RowKit Go.Proofs.YtfaiplbogchgjaaW.PrintWords Go.Proofs.YtfaiplbogchgjaaW.PrintLast
def ltB (a b : ByteArray) : Prop := a.data.toList < b.data.toList
theorem ltB_of {a b : ByteArray} (h : ¬ ltB a b) (hne : a ≠ b) : ltB b a := by
  refine Classical.byContradiction fun h' => hne ?_
  have h1 : b.data.toList ≤ a.data.toList := h
  have h2 : a.data.toList ≤ b.data.toList := h'
  exact ByteArray.ext (Array.ext' (List.le_antisymm h2 h1))
theorem ltB_trans {a b c : ByteArray} (h : ltB a b) (k : ltB b c) : ltB a c := List.lt_trans h k
theorem less_iff {a b : ByteArray} : Op.bytesLess a.toList b.toList = true ↔ ltB a b := by
  rw [Go.Proofs.bytesLess_eq, decide_eq_true_iff, ByteArray.toList_eq, ByteArray.toList_eq]
  rfl
def insB (n : ByteArray) : List ByteArray → List ByteArray
  | [] => [n]
  | y :: ys => if Op.bytesLess n.toList y.toList = true then n :: y :: ys else y :: insB n ys
theorem insB_len (n : ByteArray) : ∀ l, (insB n l).length = l.length + 1
  | [] => rfl
  | y :: ys => by
    unfold insB
    split
    · rfl
    · rw [List.length_cons, insB_len n ys, List.length_cons]
theorem mem_insB (n x : ByteArray) : ∀ l, x ∈ insB n l ↔ x = n ∨ x ∈ l
  | [] => by simp [insB]
  | y :: ys => by
    unfold insB
    split
    · rw [List.mem_cons]
    · rw [List.mem_cons, mem_insB n x ys, List.mem_cons]
      constructor
      · rintro (h | h | h)
        · exact .inr (.inl h)
        · exact .inl h
        · exact .inr (.inr h)
      · rintro (h | h | h)
        · exact .inr (.inl h)
        · exact .inl h
        · exact .inr (.inr h)
theorem insB_sorted (n : ByteArray) : ∀ l : List ByteArray, l.Pairwise ltB → n ∉ l → (insB n l).Pairwise ltB
  | [], _, _ => List.pairwise_singleton _ _
  | y :: ys, hp, hn => by
    obtain ⟨h1, h2⟩ := List.pairwise_cons.1 hp
    unfold insB
    split
    · rename_i h
      have hlt := less_iff.1 h
      refine List.pairwise_cons.2 ⟨fun z hz => ?_, hp⟩
      rcases List.mem_cons.1 hz with rfl | hz
      · exact hlt
      · exact ltB_trans hlt (h1 z hz)
    · rename_i h
      have hyn : ltB y n := ltB_of (fun h' => h (less_iff.2 h')) (fun e => hn (e ▸ List.mem_cons_self))
      refine List.pairwise_cons.2 ⟨fun z hz => ?_, insB_sorted n ys h2 (fun h' => hn (List.mem_cons_of_mem _ h'))⟩
      rcases (mem_insB n z ys).1 hz with rfl | hz
      · exact hyn
      · exact h1 z hz
theorem names_told {l : List S38} {out : List ByteArray} (hp : out.Pairwise ltB) (hm : ∀ x, x ∈ out ↔ (getL l x.data.toList).isSome = true) : out = namesS l := by
  have hnd : (out.map fun x => x.data.toList).Nodup := by
    unfold List.Nodup
    rw [List.pairwise_map]
    exact hp.imp fun {a b} h e => by unfold ltB at h; rw [e] at h; exact List.lt_irrefl _ h
  have hperm : (out.map fun x => x.data.toList).Perm (keysL l) := (List.perm_ext_iff_of_nodup hnd (nodup_keysL l)).2 fun x => by
    rw [mem_keysL, List.mem_map]
    constructor
    · rintro ⟨y, hy, rfl⟩; exact (hm y).1 hy
    · intro h; exact ⟨nmOf x, (hm (nmOf x)).2 h, rfl⟩
  have hsort : (out.map fun x => x.data.toList).mergeSort leL = out.map fun x => x.data.toList := by
    apply List.mergeSort_of_pairwise
    rw [List.pairwise_map]
    exact hp.imp fun {a b} h => by unfold leL; rw [decide_eq_true_iff]; exact List.le_of_lt h
  have hs : sortedL l = out.map fun x => x.data.toList := by
    rw [← hsort]
    exact (mergeSort_of_perm hperm).symm
  rw [names_eq, hs, List.map_map]
  conv => lhs; rw [← List.map_id out]
  exact List.map_congr_left fun x _ => rfl
theorem evNames_l1 (l : List S38) (out : List ByteArray) (i : Nat) (hi : i < l.length) (hib : i < 1000000) (ho : out.length ≤ 1000000) (R : List ByteArray) (d : Nat) : ∀ (j : Nat) (acc : List ByteArray) (dn : Bool), j + d = out.length → acc.length + d + (if dn = true then 0 else 1) ≤ 2000000 →
    Ev (fun k => phalaroperef09_Names.l0 k l (acc ++ (if dn = true then out.drop j else insB l[i].f0 (out.drop j))) ((i + 1 : Nat) : Int)) R → Ev (fun k => phalaroperef09_Names.l1 k l out (i : Int) acc dn (j : Int)) R := by
  induction d with
  | zero =>
    intro j acc dn hj ha next
    rw [List.drop_eq_nil_of_le (by omega)] at next
    cases dn with
    | true =>
      rw [if_pos rfl] at ha
      rw [if_pos rfl, List.append_nil] at next
      refine Ev.step (fun k => ?_) next
      simp only [phalaroperef09_Names.l1]
      rw [if_neg (by omega), if_pos trivial, w1 i (by omega)]
    | false =>
      rw [if_neg (by decide)] at ha
      rw [if_neg (by decide)] at next
      refine Ev.step (fun k => ?_) next
      simp only [phalaroperef09_Names.l1]
      rw [if_neg (by omega), if_neg (by decide), if_pos (by omega), if_pos (by omega), if_pos (by omega), rdb_at l i hi, w1 i (by omega)]
      rfl
  | succ d ih =>
    intro j acc dn hj ha next
    have hlt : j < out.length := by omega
    cases dn with
    | true =>
      rw [if_pos rfl] at ha
      rw [if_pos rfl, List.drop_eq_getElem_cons hlt, ← List.singleton_append, ← List.append_assoc] at next
      refine Ev.step (fun k => ?_) (ih (j + 1) (acc ++ [out[j]]) true (by omega) (by rw [if_pos rfl, List.length_append, List.length_singleton]; omega) (by rw [if_pos rfl]; exact next))
      simp only [phalaroperef09_Names.l1]
      rw [if_pos (by omega), if_pos trivial, if_pos (by omega), if_pos (by omega), rdOf_at out j hlt, w1 j (by omega)]
    | false =>
      rw [if_neg (by decide)] at ha
      rw [if_neg (by decide), List.drop_eq_getElem_cons hlt] at next
      unfold insB at next
      by_cases hb : Op.bytesLess l[i].f0.toList out[j].toList = true
      · rw [if_pos hb, show acc ++ l[i].f0 :: out[j] :: out.drop (j + 1) = (acc ++ [l[i].f0] ++ [out[j]]) ++ out.drop (j + 1) from by simp] at next
        refine Ev.step (fun k => ?_) (ih (j + 1) (acc ++ [l[i].f0] ++ [out[j]]) true (by omega) (by rw [if_pos rfl]; simp only [List.length_append, List.length_singleton]; omega) (by rw [if_pos rfl]; exact next))
        simp only [phalaroperef09_Names.l1]
        rw [if_pos (by omega), if_neg (by decide), if_pos (by omega), if_pos (by omega), if_pos (by omega), rdb_at l i hi, rdOf_at out j hlt, if_pos hb, if_pos (by omega)]
        simp only [Option.bind_some]
        rw [if_pos (by rw [List.length_append, List.length_singleton]; omega), w1 j (by omega)]
      · rw [if_neg hb, ← List.singleton_append, ← List.append_assoc] at next
        refine Ev.step (fun k => ?_) (ih (j + 1) (acc ++ [out[j]]) false (by omega) (by rw [if_neg (by decide), List.length_append, List.length_singleton]; omega) (by rw [if_neg (by decide)]; exact next))
        simp only [phalaroperef09_Names.l1]
        rw [if_pos (by omega), if_neg (by decide), if_pos (by omega), if_pos (by omega), if_pos (by omega), rdb_at l i hi, rdOf_at out j hlt, if_neg hb, if_pos (by omega), w1 j (by omega)]
theorem hasN_iff (l : List ByteArray) (nm : ByteArray) : hasN l nm = true ↔ nm ∈ l := by
  unfold hasN
  rw [List.any_eq_true]
  constructor
  · rintro ⟨y, hy, h⟩
    have := str_eq.1 (beq_iff_eq.1 h)
    rw [show nm = y from (ByteArray.ext (Array.ext' this)).symm]
    exact hy
  · intro h
    exact ⟨nm, h, by simp⟩
theorem getL_mem {l : List S38} {nm : ByteArray} (h : (getL l nm.data.toList).isSome = true) : ∃ j, ∃ hj : j < l.length, l[j].f0 = nm := by
  unfold getL at h
  cases hf : l.find? (fun y => y.f0.data.toList == nm.data.toList) with
  | none => rw [hf] at h; cases h
  | some y =>
    obtain ⟨j, hj, rfl⟩ := List.getElem_of_mem (List.mem_of_find?_eq_some hf)
    have := List.find?_some hf
    exact ⟨j, hj, ByteArray.ext (Array.ext' (by simpa using this))⟩
theorem evNames_l0 (l : List S38) (hm : modestB l) (d : Nat) : ∀ (i : Nat) (out : List ByteArray), i + d = l.length → out.length ≤ i → out.Pairwise ltB → (∀ x, x ∈ out ↔ (getL l x.data.toList).isSome = true ∧ ∃ j, ∃ hj : j < l.length, j < i ∧ l[j].f0 = x) →
    Ev (fun k => phalaroperef09_Names.l0 k l out (i : Int)) (namesS l) := by
  have hl := hm.1
  induction d with
  | zero =>
    intro i out hi ho hp hmem
    refine Ev.step (f := fun _ => some out) (fun k => ?_) ?_
    · simp only [phalaroperef09_Names.l0]
      rw [if_neg (by omega)]
    · rw [← names_told hp (fun x => (hmem x).trans ⟨fun h => h.1, fun h => ⟨h, by obtain ⟨j, hj, e⟩ := getL_mem h; exact ⟨j, hj, by omega, e⟩⟩⟩)]
      exact Ev.now _
  | succ d ih =>
    intro i out hi ho hp hmem
    have hlt : i < l.length := by omega
    have skip : ((getL l l[i].f0.data.toList).isSome = false ∨ l[i].f0 ∈ out) → Ev (fun k => phalaroperef09_Names.l0 k l out ((i + 1 : Nat) : Int)) (namesS l) := fun h => by
      refine ih (i + 1) out (by omega) (by omega) hp (fun x => (hmem x).trans ⟨fun ⟨h1, j, hj, hji, e⟩ => ⟨h1, j, hj, by omega, e⟩, fun ⟨h1, j, hj, hji, e⟩ => ?_⟩)
      rcases Nat.lt_or_ge j i with hh | hh
      · exact ⟨h1, j, hj, hh, e⟩
      · obtain rfl : j = i := by omega
        rcases h with h | h
        · rw [← e, h] at h1; cases h1
        · rw [e] at h; exact (hmem x).1 h
    have hj1 : ∀ k b, phalaroperef09_Names.j1 (k + 1) l out (i : Int) b = if b = true then phalaroperef09_Names.l0 k l out ((i + 1 : Nat) : Int) else phalaroperef09_Names.l1 k l out (i : Int) [] false 0 := fun k b => by
      simp only [phalaroperef09_Names.j1]
      rw [w1 i (by omega)]
    have hstep : ∀ k, phalaroperef09_Names.l0 (k + 1) l out (i : Int) = (phalaroperef09_Get.f k l l[i].f0).bind fun bt => if bt.2.2.2.2 = true then (phalaroperef07_Has.f k out l[i].f0).bind fun t => phalaroperef09_Names.j1 k l out (i : Int) t else phalaroperef09_Names.j1 k l out (i : Int) true := fun k => by
      simp only [phalaroperef09_Names.l0]
      rw [if_pos (by omega), if_pos (by omega), rdb_at l i hlt]
    refine Ev.step hstep (Ev.bind (evGet l hm l[i].f0) ?_)
    cases hg : (getL l l[i].f0.data.toList).isSome with
    | false =>
      refine Ev.congr (f := fun k => phalaroperef09_Names.j1 k l out (i : Int) true) (fun k => ?_) (Ev.step (fun k => (hj1 k true).trans (if_pos rfl)) (skip (.inl hg)))
      rw [show (getT l l[i].f0).2.2.2.2 = false from hg, if_neg (by decide)]
    | true =>
      refine Ev.congr (f := fun k => (phalaroperef07_Has.f k out l[i].f0).bind fun t => phalaroperef09_Names.j1 k l out (i : Int) t) (fun k => ?_) (Ev.bind (evHas out l[i].f0 (by omega)) ?_)
      · rw [show (getT l l[i].f0).2.2.2.2 = true from hg, if_pos rfl]
      · cases hh : hasN out l[i].f0 with
        | true => exact Ev.step (fun k => (hj1 k true).trans (if_pos rfl)) (skip (.inr ((hasN_iff _ _).1 hh)))
        | false =>
          have hnot : l[i].f0 ∉ out := fun h => by rw [(hasN_iff _ _).2 h] at hh; cases hh
          refine Ev.step (fun k => (hj1 k false).trans (if_neg (by decide))) ?_
          have := evNames_l1 l out i hlt (by omega) (by omega) (namesS l) out.length 0 [] false (by omega) (by rw [if_neg (by decide)]; simp; omega) (by
            rw [if_neg (by decide), List.drop_zero, List.nil_append]
            refine ih (i + 1) (insB l[i].f0 out) (by omega) (by rw [insB_len]; omega) (insB_sorted _ _ hp hnot) (fun x => ?_)
            rw [mem_insB, hmem x]
            constructor
            · rintro (rfl | ⟨h1, j, hj, hji, e⟩)
              · exact ⟨hg, i, hlt, by omega, rfl⟩
              · exact ⟨h1, j, hj, by omega, e⟩
            · rintro ⟨h1, j, hj, hji, e⟩
              rcases Nat.lt_or_ge j i with hh | hh
              · exact .inr ⟨h1, j, hj, hh, e⟩
              · obtain rfl : j = i := by omega
                exact .inl e.symm)
          exact this
theorem evNames (l : List S38) (hm : modestB l) : Ev (fun k => phalaroperef09_Names.f k l) (namesS l) :=
  evNames_l0 l hm l.length 0 [] (by omega) (by simp) List.Pairwise.nil (fun x => ⟨fun h => (by cases h), fun ⟨_, j, _, h, _⟩ => absurd h (Nat.not_lt_zero _)⟩)
theorem canonB_names (l : List S38) : canonB l = (namesS l).map fun nm => ⟨nm, (getL l nm.data.toList).getD z28⟩ := by
  rw [canonB_eq, names_eq, List.map_map]
  rfl
theorem canonB_len (l : List S38) : (canonB l).length = (namesS l).length := by rw [canonB_names, List.length_map]
theorem names_short (l : List S38) : (namesS l).length ≤ l.length := by rw [names_len]; exact sorted_len l
theorem evCanon_l0 (l : List S38) (hm : modestB l) (d : Nat) : ∀ i : Nat, i + d = (namesS l).length → Ev (fun k => phalaroperef09_Canon.l0 k l ((canonB l).take i) (namesS l) (i : Int)) (canonB l) := by
  have hs := names_short l
  have hl := hm.1
  induction d with
  | zero =>
    intro i hi
    refine Ev.step (f := fun _ => some (canonB l)) (fun k => ?_) (Ev.now _)
    simp only [phalaroperef09_Canon.l0]
    rw [if_neg (by omega), List.take_of_length_le (by rw [canonB_len]; omega)]
  | succ d ih =>
    intro i hi
    have hlt : i < (namesS l).length := by omega
    refine Ev.step (f := fun k => (phalaroperef09_Get.f k l (namesS l)[i]).bind fun bt => phalaroperef09_Canon.l0 k l ((canonB l).take i ++ [(⟨(namesS l)[i], ⟨bt.1, bt.2.1, bt.2.2.1, bt.2.2.2.1⟩⟩ : S38)]) (namesS l) ((i + 1 : Nat) : Int)) (fun k => ?_) (Ev.bind (evGet l hm _) ?_)
    · simp only [phalaroperef09_Canon.l0]
      rw [if_pos (by omega), if_pos (by omega), rdOf_at _ i hlt, w1 i (by omega)]
      have hcond : ((canonB l).take i).length < 1599289640401 := by rw [List.length_take]; omega
      simp only [if_pos hcond]
    · have := ih (i + 1) (by omega)
      rw [List.take_succ_eq_append_getElem (by rw [canonB_len]; exact hlt)] at this
      have e : (canonB l)[i]'(by rw [canonB_len]; exact hlt) = ⟨(namesS l)[i], ⟨(getT l (namesS l)[i]).1, (getT l (namesS l)[i]).2.1, (getT l (namesS l)[i]).2.2.1, (getT l (namesS l)[i]).2.2.2.1⟩⟩ := by
        simp only [canonB_names, List.getElem_map]
        rfl
      rw [e] at this
      exact this
theorem evCanonB (l : List S38) (hm : modestB l) : Ev (fun k => phalaroperef09_Canon.f k l) (canonB l) := by
  refine Ev.congr (f := fun k => (phalaroperef09_Names.f k l).bind fun t => phalaroperef09_Canon.l0 k l [] t 0) (fun k => rfl) (Ev.bind (evNames l hm) ?_)
  have := evCanon_l0 l hm (namesS l).length 0 (by omega)
  rw [List.take_zero] at this
  exact this
theorem mem_canonB {l : List S38} {x : S38} (h : x ∈ canonB l) : getL l x.f0.data.toList = some x.f1 := by
  rw [canonB_eq, List.mem_map] at h
  obtain ⟨nm, hn, rfl⟩ := h
  obtain ⟨s, hs⟩ := Option.isSome_iff_exists.1 (mem_keysL.1 (List.mem_mergeSort.1 hn))
  show getL l nm = some ((getL l nm).getD z28)
  rw [hs]; rfl
theorem canonB_modest {l : List S38} (hm : modestB l) : modestB (canonB l) := by
  refine ⟨by rw [canonB_len]; exact Nat.le_trans (names_short l) hm.1, fun x hx => ?_⟩
  have hg := mem_canonB hx
  exact ⟨keys_size hm (mem_keysL.2 (by rw [hg]; rfl)), (getL_canon hg).2 hm⟩
theorem getL_def {l : List S38} {nm : List UInt8} {s : S28} (h : getL l nm = some s) : defS s = true := by
  unfold getL at h
  obtain ⟨x, hx, hs⟩ := Option.bind_eq_some_iff.1 h
  split at hs
  · rename_i hd
    obtain rfl := Option.some.inj hs
    unfold defS
    rw [texts_canon]
    exact hd
  · cases hs
theorem getL_canonB (l : List S38) (nm : List UInt8) : getL (canonB l) nm = getL l nm := by
  cases hg : getL l nm with
  | some s =>
    have hmem : (⟨nmOf nm, s⟩ : S38) ∈ canonB l := by
      rw [canonB_eq, List.mem_map]
      exact ⟨nm, List.mem_mergeSort.2 (mem_keysL.2 (by rw [hg]; rfl)), by rw [hg]; rfl⟩
    have hf : ∃ y, (canonB l).find? (fun x => x.f0.data.toList == nm) = some y := by
      cases h : (canonB l).find? (fun x => x.f0.data.toList == nm) with
      | some y => exact ⟨y, rfl⟩
      | none => have := List.find?_eq_none.1 h _ hmem; simp [nmOf] at this
    obtain ⟨y, hy⟩ := hf
    have h1 : y.f0.data.toList = nm := by simpa using List.find?_some hy
    have h2 := mem_canonB (List.mem_of_find?_eq_some hy)
    rw [h1, hg] at h2
    unfold getL
    rw [hy]
    simp only [Option.bind_some]
    rw [← Option.some.inj h2, if_pos (getL_def hg), (getL_canon hg).1]
  | none =>
    unfold getL
    rw [List.find?_eq_none.2 (fun x hx => by
      have h2 := mem_canonB hx
      intro h
      have : x.f0.data.toList = nm := by simpa using h
      rw [this, hg] at h2; cases h2)]
    rfl
theorem canonB_canonB (l : List S38) : canonB (canonB l) = canonB l := canonB_ext (getL_canonB l)
theorem same_canonB (l : List S38) : sameB l (canonB l) = true := by
  unfold sameB
  rw [canonB_canonB, decide_eq_true_iff]
theorem evVeryB_l0 (a b : List S38) (hl : a.length = b.length) (ha : modestB a) (d : Nat) : ∀ i : Nat, i + d = a.length → a.take i = b.take i → Ev (fun k => phalaroperef09_Very.l0 k a b (i : Int)) (decide (a = b)) := by
  have hla := ha.1
  induction d with
  | zero =>
    intro i hi ht
    refine Ev.step (f := fun _ => some true) (fun k => ?_) ?_
    · simp only [phalaroperef09_Very.l0]
      rw [if_neg (by omega)]
    · rw [List.take_of_length_le (by omega), List.take_of_length_le (by omega)] at ht
      rw [decide_eq_true ht]
      exact Ev.now _
  | succ d ih =>
    intro i hi ht
    have hm := (ha.2 a[i] (List.getElem_mem _)).2
    have hv := evVery a[i].f1 b[i].f1 (by have := hm.2.2.1; omega) (by have := hm.2.1; omega)
    by_cases he : a[i].f0.toList = b[i].f0.toList
    · refine Ev.step (f := fun k => (phalaroperef08_Very.f k a[i].f1.f0 a[i].f1.f1 a[i].f1.f2 a[i].f1.f3 b[i].f1.f0 b[i].f1.f1 b[i].f1.f2 b[i].f1.f3).bind fun t => if t = true then phalaroperef09_Very.l0 k a b ((i + 1 : Nat) : Int) else some false) (fun k => ?_) (Ev.bind hv ?_)
      · simp only [phalaroperef09_Very.l0]
        rw [if_pos (by omega), if_pos (by omega), if_pos (by omega), rdb_at a i (by omega), rdb_at b i (by omega), if_pos he, w1 i (by omega)]
      · by_cases hv' : a[i].f1 = b[i].f1
        · rw [decide_eq_true hv']
          have hx : a[i] = b[i] := by
            have h0 : a[i].f0 = b[i].f0 := ByteArray.ext (Array.ext' (str_eq.1 he))
            rcases hx : a[i] with ⟨x0, x1⟩
            rcases hy : b[i] with ⟨y0, y1⟩
            rw [hx, hy] at h0 hv'
            dsimp only at h0 hv'
            rw [h0, hv']
          exact ih (i + 1) (by omega) (by rw [List.take_succ_eq_append_getElem (by omega), List.take_succ_eq_append_getElem (by omega), ht, hx])
        · rw [decide_eq_false hv', decide_eq_false (fun h => hv' (by subst h; rfl))]
          exact Ev.now _
    · refine Ev.step (f := fun _ => some false) (fun k => ?_) ?_
      · simp only [phalaroperef09_Very.l0]
        rw [if_pos (by omega), if_pos (by omega), if_pos (by omega), rdb_at a i (by omega), rdb_at b i (by omega), if_neg he]
      · rw [decide_eq_false (fun h => he (by subst h; rfl))]
        exact Ev.now _
theorem evVeryB (a b : List S38) (ha : modestB a) : Ev (fun k => phalaroperef09_Very.f k a b) (decide (a = b)) := by
  by_cases hl : a.length = b.length
  · refine Ev.congr (fun k => ?_) (evVeryB_l0 a b hl ha a.length 0 (by omega) (by simp))
    unfold phalaroperef09_Very.f
    rw [if_pos (by omega)]; rfl
  · refine Ev.congr (f := fun _ => some false) (fun k => ?_) ?_
    · unfold phalaroperef09_Very.f
      rw [if_neg (by omega)]
    · rw [decide_eq_false (fun h => hl (by rw [h]))]
      exact Ev.now _
theorem evSame_l0 (a b : List S38) (hl : a.length = b.length) (ha : modestB a) (d : Nat) : ∀ i : Nat, i + d = a.length → a.take i = b.take i → Ev (fun k => phalaroperef09_Same.l0 k a b (i : Int)) (decide (a = b)) := by
  have hla := ha.1
  induction d with
  | zero =>
    intro i hi ht
    refine Ev.step (f := fun _ => some true) (fun k => ?_) ?_
    · simp only [phalaroperef09_Same.l0]
      rw [if_neg (by omega)]
    · rw [List.take_of_length_le (by omega), List.take_of_length_le (by omega)] at ht
      rw [decide_eq_true ht]
      exact Ev.now _
  | succ d ih =>
    intro i hi ht
    have hm := (ha.2 a[i] (List.getElem_mem _)).2
    have hv := evVery a[i].f1 b[i].f1 (by have := hm.2.2.1; omega) (by have := hm.2.1; omega)
    by_cases he : a[i].f0.toList = b[i].f0.toList
    · refine Ev.step (f := fun k => (phalaroperef08_Very.f k a[i].f1.f0 a[i].f1.f1 a[i].f1.f2 a[i].f1.f3 b[i].f1.f0 b[i].f1.f1 b[i].f1.f2 b[i].f1.f3).bind fun t => if t = true then phalaroperef09_Same.l0 k a b ((i + 1 : Nat) : Int) else some false) (fun k => ?_) (Ev.bind hv ?_)
      · simp only [phalaroperef09_Same.l0]
        rw [if_pos (by omega), if_pos (by omega), if_pos (by omega), rdb_at a i (by omega), rdb_at b i (by omega), if_pos he, w1 i (by omega)]
      · by_cases hv' : a[i].f1 = b[i].f1
        · rw [decide_eq_true hv']
          have hx : a[i] = b[i] := by
            have h0 : a[i].f0 = b[i].f0 := ByteArray.ext (Array.ext' (str_eq.1 he))
            rcases hx : a[i] with ⟨x0, x1⟩
            rcases hy : b[i] with ⟨y0, y1⟩
            rw [hx, hy] at h0 hv'
            dsimp only at h0 hv'
            rw [h0, hv']
          exact ih (i + 1) (by omega) (by rw [List.take_succ_eq_append_getElem (by omega), List.take_succ_eq_append_getElem (by omega), ht, hx])
        · rw [decide_eq_false hv', decide_eq_false (fun h => hv' (by subst h; rfl))]
          exact Ev.now _
    · refine Ev.step (f := fun _ => some false) (fun k => ?_) ?_
      · simp only [phalaroperef09_Same.l0]
        rw [if_pos (by omega), if_pos (by omega), if_pos (by omega), rdb_at a i (by omega), rdb_at b i (by omega), if_neg he]
      · rw [decide_eq_false (fun h => he (by subst h; rfl))]
        exact Ev.now _
theorem evSame (l m : List S38) (hl : modestB l) (hm : modestB m) : Ev (fun k => phalaroperef09_Same.f k l m) (sameB l m) := by
  refine Ev.congr (f := fun k => (phalaroperef09_Canon.f k l).bind fun a => (phalaroperef09_Canon.f k m).bind fun b => if (a.length : Int) = (b.length : Int) then phalaroperef09_Same.l0 k a b 0 else some false) (fun k => rfl) (Ev.bind (evCanonB l hl) (Ev.bind (evCanonB m hm) ?_))
  unfold sameB
  by_cases h : (canonB l).length = (canonB m).length
  · refine Ev.congr (fun k => ?_) (evSame_l0 (canonB l) (canonB m) h (canonB_modest hl) (canonB l).length 0 (by omega) (by simp))
    rw [if_pos (by omega)]; rfl
  · refine Ev.congr (f := fun _ => some false) (fun k => by rw [if_neg (by omega)]) ?_
    rw [decide_eq_false (fun e => h (by rw [e]))]
    exact Ev.now _
def three : List S38 := [⟨⟨#[98]⟩, ⟨1, ⟨#[49]⟩, [], []⟩⟩, ⟨⟨#[97]⟩, ⟨1, ⟨#[50]⟩, [], []⟩⟩, ⟨⟨#[98]⟩, ⟨1, ⟨#[51]⟩, [], []⟩⟩]
theorem three_a : getL three [97] = some ⟨1, ⟨#[50]⟩, [], []⟩ := by
  unfold getL three
  simp [canonS_eq, defS, textsOf]
theorem three_b : getL three [98] = some ⟨1, ⟨#[49]⟩, [], []⟩ := by
  unfold getL three
  simp [canonS_eq, defS, textsOf]
theorem three_keys : keysL three = [[97], [98]] := by
  have h : (three.map fun x => x.f0.data.toList) = [[98], [97], [98]] := rfl
  unfold keysL
  rw [h]
  simp [three_a, three_b, dedupL]
theorem three_canon : canonB three = [⟨⟨#[97]⟩, ⟨1, ⟨#[50]⟩, [], []⟩⟩, ⟨⟨#[98]⟩, ⟨1, ⟨#[49]⟩, [], []⟩⟩] := by
  have h : sortedL three = [[97], [98]] := by
    unfold sortedL
    rw [three_keys]
    exact List.mergeSort_of_pairwise (by decide)
  rw [canonB_eq, h]
  simp [three_a, three_b, nmOf]
theorem three_modest : modestB three := by
  refine ⟨by decide, fun x hx => ?_⟩
  have : x.f0.size ≤ 1000000 ∧ x.f1.f1.size ≤ 1000000 ∧ x.f1.f2 = [] ∧ x.f1.f3 = [] := by
    unfold three at hx
    simp only [List.mem_cons, List.not_mem_nil, or_false] at hx
    rcases hx with rfl | rfl | rfl <;> exact ⟨by decide, by decide, rfl, rfl⟩
  obtain ⟨h0, h1, h2, h3⟩ := this
  exact ⟨h0, h1, by rw [h2]; decide, by rw [h3]; decide, by rw [h2]; simp, by rw [h3]; simp⟩
end Go.Proofs.Ytfaiplbogchgjaa.PA
end
section
namespace Go.Proofs.Ytfaiplbogchgjaa.PA
set_option linter.unusedSimpArgs false
set_option linter.unusedVariables false
open Go.RowKit Go.Proofs.YtfaiplbogchgjaaW.PrintWords Go.Proofs.YtfaiplbogchgjaaW.PrintLast
set_option maxHeartbeats 8000000 in
set_option maxRecDepth 100000 in
theorem text_any (s : ByteArray) (w : World) : Calls Try.prog 27 #[.string s] w fun e W => e = .returned (.agg #[.int .i64 1, .string s, .slice none 0 0, .slice none 0 0]) ∧ Below w.heap.size w W := by
  go_enter Try.func27, Try.ntmps27
  go_wp2_with fail
  exact bodyPost_ret (results_cell_row rfl _ _ w.heap.size 28 _ (0, 0) _ rfl (blk_new w _) Try.underlying28 rfl (by kernel_rfl)) rfl ⟨rfl, X.below_new1 _ _⟩
theorem C_three {W : World} {b : Nat} (h : W.heap[b]? = some (.cells #[.string ⟨#[98]⟩, .int .i64 1, .string ⟨#[49]⟩, .slice none 0 0, .slice none 0 0, .string ⟨#[97]⟩, .int .i64 1, .string ⟨#[50]⟩, .slice none 0 0, .slice none 0 0, .string ⟨#[98]⟩, .int .i64 1, .string ⟨#[51]⟩, .slice none 0 0, .slice none 0 0] 38 (0, 0))) :
    Kd.C k38 W (some ⟨b, 0, none⟩) 3 three := by
  have hc : ∀ i, W.cell? (Addr.add ⟨b, 0, none⟩ i) = (#[.string ⟨#[98]⟩, .int .i64 1, .string ⟨#[49]⟩, .slice none 0 0, .slice none 0 0, .string ⟨#[97]⟩, .int .i64 1, .string ⟨#[50]⟩, .slice none 0 0, .slice none 0 0, .string ⟨#[98]⟩, .int .i64 1, .string ⟨#[51]⟩, .slice none 0 0, .slice none 0 0] : Array Value)[i]? := fun i => by
    cases i with
    | zero => exact blk_cell h 0
    | succ i =>
      rw [show Addr.add ⟨b, 0, none⟩ (i + 1) = ⟨b, i + 1, none⟩ from by simp [Addr.add]]
      exact blk_cell h (i + 1)
  have hk : ∀ (s t : ByteArray), k38.K W ⟨s, ⟨1, t, [], []⟩⟩ [.string s, .int .i64 1, .string t, .slice none 0 0, .slice none 0 0] := fun s t =>
    k38_mk W ⟨s, ⟨1, t, [], []⟩⟩ (A3 := none) (c3 := 0) (Nat.le_refl _) (Kd.R_reads' (Kd.R_nil Kd.string 9 W 0 (fun _ => True))).2.2 (A4 := none) (c4 := 0) (Nat.le_refl _) (Kd.R_reads' (Kd.R_nil k50 50 W 0 (fun _ => True))).2.2
  refine ⟨rfl, by omega, fun _ => ⟨_, rfl, fun j p hj => ?_⟩⟩
  match j, hj with
  | 0, hj => cases hj; exact ⟨_, rfl, hk _ _, fun i u hu => by rw [hc]; match i, hu with | 0, hu => exact hu | 1, hu => exact hu | 2, hu => exact hu | 3, hu => exact hu | 4, hu => exact hu⟩
  | 1, hj => cases hj; exact ⟨_, rfl, hk _ _, fun i u hu => by rw [hc]; match i, hu with | 0, hu => exact hu | 1, hu => exact hu | 2, hu => exact hu | 3, hu => exact hu | 4, hu => exact hu⟩
  | 2, hj => cases hj; exact ⟨_, rfl, hk _ _, fun i u hu => by rw [hc]; match i, hu with | 0, hu => exact hu | 1, hu => exact hu | 2, hu => exact hu | 3, hu => exact hu | 4, hu => exact hu⟩
set_option maxHeartbeats 8000000 in
set_option maxRecDepth 100000 in
theorem awake_walk (w : World) : Calls Try.prog 9 #[] w fun e W => e = .returned (.bool true) ∧ Below w.heap.size w W := by
  go_enter Try.func9, Try.ntmps9
  go_wp2_with fail
  refine (text_any _ _).mono ?_
  rintro e w1 ⟨rfl, hb1⟩
  go_wp2_with fail
  refine (text_any _ _).mono ?_
  rintro e w2 ⟨rfl, hb2⟩
  go_wp2_with fail
  refine (text_any _ _).mono ?_
  rintro e w3 ⟨rfl, hb3⟩
  have hb := below_step (below_step hb1 hb2) hb3
  clear hb1 hb2 hb3
  go_wp2_with fail
  have h3 := blk_new w3 (.cells #[.string ⟨#[98]⟩, .int .i64 1, .string ⟨#[49]⟩, .slice none 0 0, .slice none 0 0, .string ⟨#[97]⟩, .int .i64 1, .string ⟨#[50]⟩, .slice none 0 0, .slice none 0 0, .string ⟨#[98]⟩, .int .i64 1, .string ⟨#[51]⟩, .slice none 0 0, .slice none 0 0] 38)
  have hC := C_three h3
  refine (canon_of (some ⟨w3.heap.size, 0, none⟩) 3 three _ hC three_modest).mono ?_
  rintro e w4 ⟨v4, rfl, h4, hb4⟩
  have hb' := below_step (below_alloc hb (.cells #[.string ⟨#[98]⟩, .int .i64 1, .string ⟨#[49]⟩, .slice none 0 0, .slice none 0 0, .string ⟨#[97]⟩, .int .i64 1, .string ⟨#[50]⟩, .slice none 0 0, .slice none 0 0, .string ⟨#[98]⟩, .int .i64 1, .string ⟨#[51]⟩, .slice none 0 0, .slice none 0 0] 38)) hb4
  have hC4 := Kd.C_below hC hb4
  obtain ⟨A4, c4, rfl, l4, g4⟩ := Kd.R_reads h4
  have HC := Aside0.mk hC4
  have HB := Aside0.mk hb'
  have HG := Aside0.mk g4
  clear hb h3 hC hb4 hb' hC4 g4 h4
  go_wp2_with fail
  refine (get_of (some ⟨w3.heap.size, 0, none⟩) 3 three ⟨#[98]⟩ _ HC.out three_modest (by decide)).mono ?_
  rintro e w5 ⟨v2, v3, rfl, r2, r3, hb5⟩
  have hg : getL three (ByteArray.mk #[98]).data.toList = some ⟨1, ⟨#[49]⟩, [], []⟩ := three_b
  rw [hg] at r2 r3 ⊢
  obtain ⟨B2, d2, rfl⟩ := Kd.R_slice r2
  obtain ⟨B3, d3, rfl⟩ := Kd.R_slice r3
  have hC5 := Kd.C_below HC.out hb5
  have g5 := Kd.C_below HG.out hb5
  have hb' := below_step HB.out hb5
  have hlen : (canonB three).length = 2 := by rw [three_canon]; rfl
  obtain ⟨ad, E3, f3, E4, f4, ead, x0, _, _, _, _, _⟩ := at_T38 g5 0 (by decide) (by omega)
  obtain ⟨ad', F3, h3, F4, h4, ead', _, _, y2, _, _, _⟩ := at_T38 g5 1 (by decide) (by omega)
  obtain rfl : ad = ad' := by rw [ead] at ead'; injection ead'
  subst ead
  have q0 : (rd_T38 (canonB three) 0).f0 = ⟨#[97]⟩ := by rw [three_canon]; rfl
  have q1 : (rd_T38 (canonB three) 1).f1.f1 = ⟨#[49]⟩ := by rw [three_canon]; rfl
  rw [q0] at x0
  rw [q1] at y2
  have hal := below_alloc (Below.refl w5.heap.size w5) (.cells #[.int .i64 1, .string ⟨#[49]⟩, .slice B2 0 d2, .slice B3 0 d3] 28)
  have x0' := addr_keep hal x0
  have y2' := addr_keep hal y2
  simp only [Int.toNat_zero, Nat.zero_mul, Int.reduceToNat, Nat.reduceMul] at x0' y2'
  have ea : ad.add 0 = ad := by simp [Addr.add]
  rw [ea] at x0'
  have e5 : (⟨(ad.add 5).block, (ad.add 5).off + 2, none⟩ : Addr) = ⟨ad.block, ad.off + 5 + 1 + 1, none⟩ := by simp [Addr.add]
  rw [e5] at y2'
  clear r2 r3 hg q0 q1 x0 y2 hal ea e5
  have HC5 := Aside0.mk hC5
  have HG5 := Aside0.mk g5
  have HB5 := Aside0.mk hb'
  clear hC5 g5 hb' hb5 HC HG HB
  go_wp2_with fail
  have hal := below_alloc (Below.refl w5.heap.size w5) (.cells #[.int .i64 1, .string ⟨#[49]⟩, .slice B2 0 d2, .slice B3 0 d3] 28)
  have hs := same_of (some ⟨w3.heap.size, 0, none⟩) 3 three (some ad) c4 (canonB three) _ (Kd.C_below HC5.out hal) (Kd.C_below HG5.out hal) three_modest (canonB_modest three_modest)
  rw [hlen, same_canonB] at hs
  refine hs.mono ?_
  rintro e w6 ⟨rfl, hb6⟩
  have HB6 := Aside0.mk (below_step (below_alloc HB5.out _) hb6)
  clear hb6 hs hal
  go_wp2_with fail
  go_ret
  exact ⟨rfl, HB6.out⟩
end Go.Proofs.Ytfaiplbogchgjaa.PA
end
section
namespace Go.Proofs.Ytfaiplbogchgjaa.PA
set_option linter.unusedSimpArgs false
set_option linter.unusedVariables false
open Go.RowKit Go.Proofs.YtfaiplbogchgjaaW.PrintWords Go.Proofs.YtfaiplbogchgjaaW.PrintLast
variable {W : World}
theorem few_any (l : List S38) : ∃ b : Bool, (b = true → FewB l) ∧ ∀ (W : World) (A : Option Addr) (c : Nat), Kd.C k38 W A l.length l → l.length ≤ c →
    Calls Try.prog 10 #[.slice A l.length c] W fun e W' => e = .returned (.bool b) ∧ Below W.heap.size W W' := by
  obtain ⟨b, hb, h⟩ := evFew l
  obtain ⟨k, hk⟩ := hb.rounds
  exact ⟨b, h, fun W A c hr hc => phalaroperef09_Few.calls k A c l b W hr hc hk⟩
theorem rget_any (A : Option Addr) (c : Nat) (l : List S38) (nm : ByteArray) (W : World) (hr : Kd.C k38 W A l.length l) (hc : l.length ≤ c) (hm : modestB l) :
    Calls Try.prog 12 #[.slice A l.length c, .string nm] W fun e W' => ∃ v2 v3, e = .returned (.tuple #[.agg #[.int .i64 ((getL l nm.data.toList).getD z28).f0, .string ((getL l nm.data.toList).getD z28).f1, v2, v3], .bool (getL l nm.data.toList).isSome]) ∧
      Kd.R Kd.string 9 W' W.heap.size (fun _ => True) v2 ((getL l nm.data.toList).getD z28).f2 ∧ Kd.R k50 50 W' W.heap.size (fun _ => True) v3 ((getL l nm.data.toList).getD z28).f3 ∧ Below W.heap.size W W' := by
  obtain ⟨k, hk⟩ := (evGet l hm nm).rounds
  exact phalaroperef09_Get.calls k A c l nm _ _ _ _ _ W hr hc hk
theorem rvery_any {x y : Value} (a b : S28) (W : World) (hx : OkC W x a) (hy : OkC W y b) (ha : a.f3.length ≤ 1000000) (ha2 : a.f2.length ≤ 1000000) :
    Calls Try.prog 13 #[x, y] W fun e W' => e = .returned (.bool (decide (a = b))) ∧ Below W.heap.size W W' := by
  obtain ⟨A2, c2, A3, c3, rfl, l2, g2, l3, g3⟩ := hx
  obtain ⟨B2, d2, B3, d3, rfl, m2, q2, m3, q3⟩ := hy
  obtain ⟨k, hk⟩ := (evVery a b ha ha2).rounds
  exact phalaroperef08_Very.calls k _ _ _ _ _ _ _ _ _ _ _ _ _ _ _ _ _ W g2 l2 g3 l3 q2 m2 q3 m3 hk
theorem rtexts_any (A : Option Addr) (c : Nat) (l : List ByteArray) (B : Option Addr) (d : Nat) (m : List ByteArray) (W : World) (hr : Kd.C Kd.string W A l.length l) (hc : l.length ≤ c) (hr' : Kd.C Kd.string W B m.length m) (hd : m.length ≤ d) (hl : l.length ≤ 1000000) :
    Calls Try.prog 14 #[.slice A l.length c, .slice B m.length d] W fun e W' => e = .returned (.bool (decide (l = m))) ∧ Below W.heap.size W W' := by
  obtain ⟨k, hk⟩ := (evTexts05 l m hl).rounds
  exact (phalaroperef05_Texts.calls k A c l B d m _ W hr hc hr' hd hk).mono fun e W' h => by
    first
      | exact h
      | (obtain ⟨h1, h2⟩ := h; exact ⟨h1, by first | exact h2 | (obtain ⟨n, rfl⟩ := h2; exact pw_below_drewN (Below.refl _ _) n)⟩)
theorem rnames_any (A : Option Addr) (c : Nat) (l : List S38) (W : World) (hr : Kd.C k38 W A l.length l) (hc : l.length ≤ c) (hm : modestB l) :
    Calls Try.prog 16 #[.slice A l.length c] W fun e W' => ∃ v, e = .returned v ∧ Kd.R Kd.string 9 W' W.heap.size (fun _ => True) v (namesS l) ∧ Below W.heap.size W W' := by
  obtain ⟨k, hk⟩ := (evNames l hm).rounds
  exact phalaroperef09_Names.calls k A c l _ W hr hc hk
theorem rcanon_any (A : Option Addr) (c : Nat) (l : List S38) (W : World) (hr : Kd.C k38 W A l.length l) (hc : l.length ≤ c) (hm : modestB l) :
    Calls Try.prog 19 #[.slice A l.length c] W fun e W' => ∃ v, e = .returned v ∧ Kd.R k38 38 W' W.heap.size (fun _ => True) v (canonB l) ∧ Below W.heap.size W W' := by
  obtain ⟨k, hk⟩ := (evCanonB l hm).rounds
  exact phalaroperef09_Canon.calls k A c l _ W hr hc hk
theorem rveryB_any (A : Option Addr) (c : Nat) (l : List S38) (B : Option Addr) (d : Nat) (m : List S38) (W : World) (hr : Kd.C k38 W A l.length l) (hc : l.length ≤ c) (hr' : Kd.C k38 W B m.length m) (hd : m.length ≤ d) (hl : modestB l) :
    Calls Try.prog 17 #[.slice A l.length c, .slice B m.length d] W fun e W' => e = .returned (.bool (decide (l = m))) ∧ Below W.heap.size W W' := by
  obtain ⟨k, hk⟩ := (evVeryB l m hl).rounds
  exact phalaroperef09_Very.calls k A c l B d m _ W hr hc hr' hd hk
theorem rsame_any (A : Option Addr) (c : Nat) (l : List S38) (B : Option Addr) (d : Nat) (m : List S38) (W : World) (hr : Kd.C k38 W A l.length l) (hc : l.length ≤ c) (hr' : Kd.C k38 W B m.length m) (hd : m.length ≤ d) (hl : modestB l) (hm : modestB m) :
    Calls Try.prog 21 #[.slice A l.length c, .slice B m.length d] W fun e W' => e = .returned (.bool (sameB l m)) ∧ Below W.heap.size W W' := by
  obtain ⟨k, hk⟩ := (evSame l m hl hm).rounds
  exact phalaroperef09_Same.calls k A c l B d m _ W hr hc hr' hd hk
end Go.Proofs.Ytfaiplbogchgjaa.PA
end
section
namespace Go.Proofs.Ytfaiplbogchgjaa.PA
set_option linter.unusedSimpArgs false
set_option linter.unusedVariables false
open Go.RowKit Go.Proofs.YtfaiplbogchgjaaW.PrintWords Go.Proofs.YtfaiplbogchgjaaW.PrintLast
set_option maxHeartbeats 8000000 in
set_option maxRecDepth 100000 in
theorem BindTells_walk (w : World) {A0 : Option Addr} {c0 : Nat} {l : List S38} {A1 : Option Addr} {c1 : Nat} {m : List S38} (nm : ByteArray) (hr0 : Kd.C k38 w A0 l.length l) (hc0 : l.length ≤ c0) (hr1 : Kd.C k38 w A1 m.length m) (hc1 : m.length ≤ c1) :
    Calls Try.prog 3 #[.slice A0 l.length c0, .slice A1 m.length c1, .string nm] w fun e W' => e = .returned (.bool true) ∧ Below w.heap.size w W' := by
  obtain ⟨b0, f0, h0⟩ := few_any l
  obtain ⟨b1, f1, h1⟩ := few_any m
  have HR0 := Aside0.mk hr0
  have HR1 := Aside0.mk hr1
  have HC0 := Aside0.mk hc0
  have HC1 := Aside0.mk hc1
  have H0 := Aside0.mk h0
  have H1 := Aside0.mk h1
  have F0 := Aside0.mk f0
  have F1 := Aside0.mk f1
  clear hr0 hr1 hc0 hc1 h0 h1 f0 f1
  go_enter Try.func3, Try.ntmps3
  go_wp2_with fail
  refine (awake_walk w).mono ?_
  rintro e w1 ⟨rfl, hb⟩
  have HB := Aside0.mk hb
  clear hb
  go_wp2_with fail
  refine (H0.out w1 A0 c0 (Kd.C_below HR0.out HB.out) HC0.out).mono ?_
  rintro e w2 ⟨rfl, hb⟩
  have HB2 := Aside0.mk (below_step HB.out hb)
  clear hb HB
  cases b0 with
  | false =>
    go_wp2_with fail
    go_ret
    exact ⟨rfl, HB2.out⟩
  | true =>
    go_wp2_with fail
    refine (H1.out w2 A1 c1 (Kd.C_below HR1.out HB2.out) HC1.out).mono ?_
    rintro e w3 ⟨rfl, hb⟩
    have HB3 := Aside0.mk (below_step HB2.out hb)
    clear hb HB2
    cases b1 with
    | false =>
      go_wp2_with fail
      go_ret
      exact ⟨rfl, HB3.out⟩
    | true =>
      cases hs : decide ((nm.size : Int) > 200) with
      | true =>
        go_wp2_with fail
        go_ret
        exact ⟨rfl, HB3.out⟩
      | false =>
        have hnm : nm.size ≤ 200 := by have := of_decide_eq_false hs; omega
        have HNM := Aside0.mk hnm
        clear hnm
        go_wp2_with fail
        have ml := (F0.out trivial).modest
        have mm := (F1.out trivial).modest
        refine (get_of A0 c0 l nm w3 (Kd.C_below HR0.out HB3.out) ml (by have := HNM.out; omega)).mono ?_
        rintro e w4 ⟨v2, v3, rfl, r2, r3, hb⟩
        obtain ⟨g, hg⟩ : ∃ g, g = getL l nm.data.toList := ⟨_, rfl⟩
        have hgm : modest (g.getD z28) := by
          rw [hg]
          cases hg : getL l nm.data.toList with
          | some s => exact (getL_canon hg).2 ml
          | none => exact ⟨Nat.zero_le _, by simp [z28], by simp [z28], by simp [z28], by simp [z28]⟩
        rw [← hg] at r2 r3 ⊢
        obtain ⟨s, hs'⟩ : ∃ s, s = g.getD z28 := ⟨_, rfl⟩
        rw [← hs'] at r2 r3 hgm ⊢
        obtain ⟨A2, c2, rfl, l2, g2⟩ := Kd.R_reads r2
        obtain ⟨A3, c3, rfl, l3, g3⟩ := Kd.R_reads r3
        have ok1 : OkC w4 (.agg #[.int .i64 s.f0, .string s.f1, .slice A2 s.f2.length c2, .slice A3 s.f3.length c3]) s := ⟨A2, c2, A3, c3, rfl, l2, g2, l3, g3⟩
        have HB4 := Aside0.mk (below_step HB3.out hb)
        have HG := Aside0.mk hg
        have HS := Aside0.mk hs'
        have OK1 := Aside0.mk ok1
        have HGM := Aside0.mk hgm
        have ML := Aside0.mk ml
        have MM := Aside0.mk mm
        clear hb HB3 r2 r3 l2 g2 l3 g3 ok1 hg hs' hgm ml mm
        go_wp2_with fail
        refine (rget_any A0 c0 l nm _ (Kd.C_below HR0.out (below_alloc HB4.out _)) HC0.out ML.out).mono ?_
        rintro e w5 ⟨v2, v3, rfl, r2, r3, hb⟩
        rw [← HG.out, ← HS.out] at r2 r3 ⊢
        obtain ⟨B2, d2, rfl, l2, g2⟩ := Kd.R_reads r2
        obtain ⟨B3, d3, rfl, l3, g3⟩ := Kd.R_reads r3
        have ok2 : OkC w5 (.agg #[.int .i64 s.f0, .string s.f1, .slice B2 s.f2.length d2, .slice B3 s.f3.length d3]) s := ⟨B2, d2, B3, d3, rfl, l2, g2, l3, g3⟩
        have k1 := blk_below (blk_new w4 (.cells #[.int .i64 s.f0, .string s.f1, .slice A2 s.f2.length c2, .slice A3 s.f3.length c3] 28)) hb
        have OK1' := Aside0.mk ((OK1.out.below (below_alloc (Below.refl w4.heap.size w4) _)).below hb)
        have HB5 := Aside0.mk (below_step (below_alloc HB4.out _) hb)
        have OK2 := Aside0.mk ok2
        have K1 := Aside0.mk k1
        clear hb HB4 r2 r3 l2 g2 l3 g3 ok2 OK1 k1
        have hc1 := X.cells4 (blk_alloc K1.out (.cells #[.int .i64 s.f0, .string s.f1, .slice B2 s.f2.length d2, .slice B3 s.f3.length d3] 28))
        go_wp2_with fail
        have hal := below_alloc (Below.refl w5.heap.size w5) (.cells #[.int .i64 s.f0, .string s.f1, .slice B2 s.f2.length d2, .slice B3 s.f3.length d3] 28)
        have hv := rvery_any s s _ (OK1'.out.below hal) (OK2.out.below hal) (by have := HGM.out.2.2.1; omega) (by have := HGM.out.2.1; omega)
        rw [decide_eq_true rfl] at hv
        refine hv.mono ?_
        rintro e w6 ⟨rfl, hb⟩
        have HB6 := Aside0.mk (below_step (below_alloc HB5.out _) hb)
        clear hb hv hal OK1' OK2 HB5 hc1
        cases hgs : g.isSome with
        | _ =>
          go_wp2_with fail
          refine (names_of A0 c0 l w6 (Kd.C_below HR0.out HB6.out) ML.out).mono ?_
          rintro e w7 ⟨v, rfl, hv, hb⟩
          obtain ⟨A4, c4, rfl, l4, g4⟩ := Kd.R_reads hv
          have HB7 := Aside0.mk (below_step HB6.out hb)
          have G4 := Aside0.mk g4
          have L4 := Aside0.mk l4
          clear hb HB6 hv g4 l4
          go_wp2_with fail
          refine (rnames_any A0 c0 l w7 (Kd.C_below HR0.out HB7.out) HC0.out ML.out).mono ?_
          rintro e w8 ⟨v, rfl, hv, hb⟩
          obtain ⟨A5, c5, rfl, l5, g5⟩ := Kd.R_reads hv
          have HB8 := Aside0.mk (below_step HB7.out hb)
          have G4' := Aside0.mk (Kd.C_below G4.out hb)
          have G5 := Aside0.mk g5
          have L5 := Aside0.mk l5
          clear hb HB7 hv g5 l5 G4
          go_wp2_with fail
          have hv := rtexts_any A4 c4 (namesS l) A5 c5 (namesS l) w8 G4'.out L4.out G5.out L5.out (by have := names_short l; have := ML.out.1; omega)
          rw [decide_eq_true rfl] at hv
          refine hv.mono ?_
          rintro e w9 ⟨rfl, hb⟩
          have HB9 := Aside0.mk (below_step HB8.out hb)
          clear hb HB8 hv G4' G5 L4 L5
          go_wp2_with fail
          refine (canon_of A0 c0 l w9 (Kd.C_below HR0.out HB9.out) ML.out).mono ?_
          rintro e w10 ⟨v, rfl, hv, hb⟩
          obtain ⟨A6, c6, rfl, l6, g6⟩ := Kd.R_reads hv
          have HB10 := Aside0.mk (below_step HB9.out hb)
          have G6 := Aside0.mk g6
          have L6 := Aside0.mk l6
          clear hb HB9 hv g6 l6
          go_wp2_with fail
          refine (rcanon_any A0 c0 l w10 (Kd.C_below HR0.out HB10.out) HC0.out ML.out).mono ?_
          rintro e w11 ⟨v, rfl, hv, hb⟩
          obtain ⟨A7, c7, rfl, l7, g7⟩ := Kd.R_reads hv
          have HB11 := Aside0.mk (below_step HB10.out hb)
          have G6' := Aside0.mk (Kd.C_below G6.out hb)
          have G7 := Aside0.mk g7
          have L7 := Aside0.mk l7
          clear hb HB10 hv g7 l7 G6
          go_wp2_with fail
          have hv := rveryB_any A6 c6 (canonB l) A7 c7 (canonB l) w11 G6'.out L6.out G7.out L7.out (canonB_modest ML.out)
          rw [decide_eq_true rfl] at hv
          refine hv.mono ?_
          rintro e w12 ⟨rfl, hb⟩
          have HB12 := Aside0.mk (below_step HB11.out hb)
          clear hb HB11 hv G6' G7 L6 L7
          go_wp2_with fail
          refine (same_of A0 c0 l A1 c1 m w12 (Kd.C_below HR0.out HB12.out) (Kd.C_below HR1.out HB12.out) ML.out MM.out).mono ?_
          rintro e w13 ⟨rfl, hb⟩
          have HB13 := Aside0.mk (below_step HB12.out hb)
          clear hb HB12
          go_wp2_with fail
          refine (rsame_any A0 c0 l A1 c1 m w13 (Kd.C_below HR0.out HB13.out) HC0.out (Kd.C_below HR1.out HB13.out) HC1.out ML.out MM.out).mono ?_
          rintro e w14 ⟨rfl, hb⟩
          have HB14 := Aside0.mk (below_step HB13.out hb)
          clear hb HB13
          go_wp2_with fail
          go_ret
          exact ⟨by simp, HB14.out⟩
end Go.Proofs.Ytfaiplbogchgjaa.PA
end
section
namespace Go.Proofs.Ytfaiplbogchgjaa.PA
set_option linter.unusedSimpArgs false
set_option linter.unusedVariables false
open Go.RowKit Go.Joins Go.WideShapes Go.ChangeShapes Go.Proofs.YtfaiplbogchgjaaW.PrintWords X
theorem down_pair : Down Try.prog k50 (fun x => x.f0.size ≤ maxLen ∧ x.f1.size ≤ maxLen) 50 :=
  down_iso (fun p => ⟨p.1, p.2⟩) (fun _ => rfl) (down_struct Try.underlying50 (fdown_cons (down_string Try.underlying9) rfl (by kernel_rfl) (fdown_one (down_string Try.underlying9) rfl (by kernel_rfl))) (by kernel_rfl))
def okV (x : S28) : Prop := (Lit.int .i64 x.f0).wf = true ∧ x.f1.size ≤ maxLen ∧ (∀ y ∈ x.f2, y.size ≤ maxLen) ∧ ∀ y ∈ x.f3, y.f0.size ≤ maxLen ∧ y.f1.size ≤ maxLen
set_option maxRecDepth 100000 in
theorem down_value : Down Try.prog k28 okV 28 :=
  down_iso (fun p => ⟨p.1, p.2.1, p.2.2.1, p.2.2.2⟩) (fun _ => rfl) (down_struct Try.underlying28 (fdown_cons (down_int Try.underlying3) rfl (by kernel_rfl) (fdown_cons (down_string Try.underlying9) rfl (by kernel_rfl) (fdown_cons (down_slice Try.underlying25 (down_string Try.underlying9) (by kernel_rfl)) rfl (by kernel_rfl) (fdown_one (down_slice Try.underlying26 down_pair (by kernel_rfl)) rfl (by kernel_rfl))))) (by kernel_rfl))
set_option maxRecDepth 100000 in
theorem down_bind : Down Try.prog k38 (fun x => x.f0.size ≤ maxLen ∧ okV x.f1) 38 :=
  down_iso (fun p => ⟨p.1, p.2⟩) (fun _ => rfl) (down_struct Try.underlying38 (fdown_cons (down_string Try.underlying9) rfl (by kernel_rfl) (fdown_one down_value rfl (by kernel_rfl))) (by kernel_rfl))
end Go.Proofs.Ytfaiplbogchgjaa.PA
end
section
namespace Go.Proofs.Ytfaiplbogchgjaa.bindTells
open Go.ChangeShapes Go.WideShapes Go.ChangeAt Go.RowKit
open Go.ChangeMaps (open_string shut_string)
set_option linter.unusedVariables false
theorem own : ownKnob Try.prog.godebug = none := by kernel_rfl
theorem laidOut : laidOutB Try.prog = true := by kernel_rfl
set_option maxRecDepth 100000 in
theorem lifted (os : Os) (started : os.Started) (H : Type) (enc : TypeId × Value → H) :
    ReturnsInHanded {} Try.checked os 3 .any (Rows.bindTellsSpec.pre6 enc Try.prog Try.f3 Rows.bindTellsRow.domain false) (Rows.bindTellsSpec.post enc Try.prog Try.f3 false true false false) := by
  refine returnsInHanded_of_change_sized (C := Try.checked) own started (by kernel_rfl) Try.func3
    (ChangeSpec.witness6 (enc := enc) (C := Try.checked) false ⟨#[], #[.slice none 0 0, .slice none 0 0, .string ByteArray.empty], []⟩ 8 (by kernel_rfl) (by kernel_rfl) (by kernel_rfl) (by kernel_rfl)) ?_
  intro W base args ds gs before hval0 hW hcnd _ _
  have hval : ∀ (j : Nat) t v, Try.f3.params[j]? = some t → args[j]? = some v → Value.okWide Try.prog W .any base t v := hval0
  have hW' := hW
  obtain ⟨p, q, hA0, hV, rfl, hfz, hnd⟩ := hW
  have hA : DataW.TrodAll enc Try.prog W 0 (fun _ => true) true Try.f3.params.toList args.toList ds p := hA0
  rw [Try.params3] at hA hval
  obtain ⟨v0, vs0, d0, ds0, p0, r0, hargs, rfl, rfl, h0, t0⟩ := trodAll_cons hA
  obtain ⟨v1, vs1, d1, ds1, p1, r1, rfl, rfl, rfl, h1, t1⟩ := trodAll_cons t0
  obtain ⟨v2, vs2, d2, ds2, p2, r2, rfl, rfl, rfl, h2, t2⟩ := trodAll_cons t1
  obtain ⟨rfl, rfl, rfl⟩ := trodAll_nil t2
  obtain rfl : args = #[v0, v1, v2] := by cases args; simp_all
  obtain ⟨rfl, rfl⟩ := trodVars_none hV
  have k0 := h0
  have lt0 : ∀ x ∈ p0, x.block < W.heap.size := by obtain ⟨m, hm⟩ := k0; exact DataW.trod_lt m _ _ _ hm
  obtain ⟨A0, l0, c0, rfl, hc0, hl0, o0⟩ := X.arg_slice Try.underlying22 PA.down_bind (by kernel_rfl) (hval 0 22 v0 rfl rfl) h0
  have k1 := h1
  have lt1 : ∀ x ∈ p1, x.block < W.heap.size := by obtain ⟨m, hm⟩ := k1; exact DataW.trod_lt m _ _ _ hm
  obtain ⟨A1, l1, c1, rfl, hc1, hl1, o1⟩ := X.arg_slice Try.underlying22 PA.down_bind (by kernel_rfl) (hval 1 22 v1 rfl rfl) h1
  have k2 := h2
  have lt2 : ∀ x ∈ p2, x.block < W.heap.size := by obtain ⟨m, hm⟩ := k2; exact DataW.trod_lt m _ _ _ hm
  obtain ⟨a2, rfl, rfl, rfl, y2⟩ := open_string Try.underlying9 (hval 2 9 v2 rfl rfl) h2
  refine (PA.BindTells_walk W a2 hl0 hc0 hl1 hc1).mono fun e W' ⟨he, bel⟩ => ?_
  subst he
  exact ⟨_, rfl, _, _, _, [], _, [], hW', trodAll_mk1 (shut_bool Try.underlying4 _), (trodAll_cons_mk (Below.trod laidOut (by kernel_rfl) (of_decide_eq_true (by kernel_rfl)) k0 bel lt0) (trodAll_cons_mk (Below.trod laidOut (by kernel_rfl) (of_decide_eq_true (by kernel_rfl)) k1 bel lt1) (trodAll_cons_mk (Below.trod laidOut (by kernel_rfl) (of_decide_eq_true (by kernel_rfl)) k2 bel lt2) trodAll_mk0))), rfl, bel.frame _, fun h => by cases h⟩
theorem over : Rows.bindTellsRow.holds Try.pinned (OpenSpec.ofChange Rows.bindTellsSpec) :=
  OpenClaim.holds_of_wide 3 Try.f3 rfl rfl rfl rfl rfl rfl rfl ⟨rfl, rfl, rfl, rfl, rfl⟩ rfl rfl rfl rfl rfl (by kernel_rfl) Try.func3 (by kernel_rfl)
    (of_decide_eq_true (by kernel_rfl)) (by unfold Func.isWrapper; first | (rw [if_pos (by decide +kernel)]; kernel_rfl) | (rw [if_neg (by decide +kernel)]; exact ⟨rfl, rfl⟩))
    (fun os started H enc _ => lifted os started H enc)
end Go.Proofs.Ytfaiplbogchgjaa.bindTells
namespace Go.Proofs.Ytfaiplbogchgjaa
theorem bindTells_holds : Rows.BindTellsSaid := bindTells.over
#print axioms bindTells_holds
end Go.Proofs.Ytfaiplbogchgjaa
end
