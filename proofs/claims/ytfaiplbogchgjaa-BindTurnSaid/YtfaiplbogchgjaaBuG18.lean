/- Texts of this claim, those that nothing needs left out: PAx7 PAx8 PAx9 Zba PAx15 PAx16 PAx17 PAx18 Zbb Zaw Zbd Zbg. -/
import Derived.Test.YtfaiplbogchgjaaBuG16
import Derived.Test.YtfaiplbogchgjaaBuG17
import Derived.Test.YtfaiplbogchgjaaBuG11
section
namespace Go.Proofs.Ytfaiplbogchgjaa.PA
open Go.RowKit Go.Proofs.YtfaiplbogchgjaaW.PrintWords Go.Proofs.YtfaiplbogchgjaaW.PrintLast Go.Proofs.YtfaiplbogchgjaaW.PrintMore
attribute [local go_sem] max2_int min2_int max_two min_two max_three min_three max_four min_four   -- for this text's walks alone
set_option linter.unusedVariables false
set_option linter.unusedSimpArgs false
theorem gAt_get (l : List ByteArray) (i : Nat) (h : i < l.length) : X.gAt l i = l[i] := by
  unfold X.gAt
  rw [List.getD_eq_getElem?_getD, List.getElem?_eq_getElem h]; rfl
theorem flat_at (p : List S50) : ∀ i (h : i < p.length), X.gAt (p.flatMap fun x => [x.f0, x.f1]) (2 * i) = p[i].f0 ∧ X.gAt (p.flatMap fun x => [x.f0, x.f1]) (2 * i + 1) = p[i].f1 := by
  induction p with
  | nil => intro i h; cases h
  | cons x p ih =>
    intro i h
    rw [List.flatMap_cons]
    cases i with
    | zero => exact ⟨rfl, rfl⟩
    | succ i =>
      have h' : i < p.length := by simpa using h
      obtain ⟨h1, h2⟩ := ih i h'
      unfold X.gAt at h1 h2 ⊢
      rw [List.getElem_cons_succ]
      exact ⟨h1, h2⟩
theorem pairs_flat (p : List S50) : pairsOf (p.flatMap fun x => [x.f0, x.f1]) = p := by
  apply List.ext_getElem
  · unfold pairsOf
    rw [List.length_map, List.length_range, flat_len]
    omega
  · intro i h1 h2
    obtain ⟨e1, e2⟩ := flat_at p i h2
    simp only [pairsOf, List.getElem_map, List.getElem_range]
    rw [e1, e2]
theorem canonS_eq (v : S28) : canonS v = if v.f0 = 1 then ⟨1, v.f1, [], []⟩ else if v.f0 = 2 ∧ 0 < v.f2.length then ⟨2, ⟨#[]⟩, v.f2, []⟩ else if v.f0 = 3 ∧ 0 < v.f3.length then ⟨3, ⟨#[]⟩, [], v.f3⟩ else ⟨0, ⟨#[]⟩, [], []⟩ := by
  unfold canonS textsOf ofV
  by_cases h1 : v.f0 = 1
  · simp [h1, X.gAt]
  · by_cases h2 : v.f0 = 2
    · by_cases h : 0 < v.f2.length
      · simp [h2, h]
      · have : v.f2 = [] := List.eq_nil_of_length_eq_zero (by omega)
        simp [h2, this]
    · by_cases h3 : v.f0 = 3
      · by_cases h : 0 < v.f3.length
        · rw [if_neg h1, if_neg h2, if_pos h3]
          have e : (v.f3.flatMap fun x => [x.f0, x.f1]).length % 2 = 0 ∧ 0 < (v.f3.flatMap fun x => [x.f0, x.f1]).length := by rw [flat_len]; omega
          simp only [h3, h, e.1, e.2, pairs_flat]
          simp
        · have : v.f3 = [] := List.eq_nil_of_length_eq_zero (by omega)
          simp [h3, this]
      · simp [h1, h2, h3]
theorem texts_canon (v : S28) : textsOf (canonS v) = textsOf v := by
  rw [canonS_eq]
  unfold textsOf
  by_cases h1 : v.f0 = 1
  · simp [h1]
  · by_cases h2 : v.f0 = 2
    · by_cases h : 0 < v.f2.length
      · simp [h2, h]
      · have : v.f2 = [] := List.eq_nil_of_length_eq_zero (by omega)
        simp [h2, this]
    · by_cases h3 : v.f0 = 3
      · by_cases h : 0 < v.f3.length
        · simp [h3, h]
        · have : v.f3 = [] := List.eq_nil_of_length_eq_zero (by omega)
          simp [h3, this]
      · simp [h1, h2, h3]
theorem canon_canon (v : S28) : canonS (canonS v) = canonS v := by
  rw [canonS_eq v]
  split
  · simp [canonS_eq]
  · split
    · rename_i h; simp [canonS_eq, h.2]
    · split
      · rename_i h; simp [canonS_eq, h.2]
      · simp [canonS_eq]
theorem zero_canon : canonS z28 = z28 := by rw [canonS_eq]; rfl
theorem modest_canon {v : S28} (hm : modest v) : modest (canonS v) := by
  obtain ⟨h1, h2, h3, h4, h5⟩ := hm
  rw [canonS_eq]
  split
  · exact ⟨h1, by simp, by simp, by simp, by simp⟩
  · split
    · exact ⟨Nat.zero_le _, h2, by simp, h4, by simp⟩
    · split
      · exact ⟨Nat.zero_le _, by simp, h3, by simp, h5⟩
      · exact ⟨Nat.zero_le _, by simp, by simp, by simp, by simp⟩
theorem canon_told {a b : S28} (ha : canonS a = a) (hb : canonS b = b) (hk : a.f0 = b.f0) (ht : textsOf a = textsOf b) : a = b := by
  rw [← ha, ← hb]
  unfold canonS
  rw [hk, ht]
theorem cmpS_zero (a b : ByteArray) : cmpS a b = 0 ↔ a = b := by
  unfold cmpS
  constructor
  · intro h
    split at h
    · omega
    · split at h
      · rename_i he
        have := beq_iff_eq.1 he
        rw [ByteArray.toList_eq, ByteArray.toList_eq] at this
        exact ByteArray.ext (Array.ext' this)
      · omega
  · rintro rfl
    rw [if_neg, if_pos (by simp)]
    have : ∀ l : List UInt8, Op.bytesLess l l = false := fun l => by
      induction l with
      | nil => rfl
      | cons x l ih => simp [Op.bytesLess, ih]
    rw [this]; decide
theorem cmpI_zero (a b : Int) : ∃ r, cmp_Compare_int.f a b = some r ∧ (r = 0 ↔ a = b) := by
  unfold cmp_Compare_int.f cmp_isNaN_int.f
  simp only [bne_self_eq_false, Option.bind_some]
  by_cases h1 : a < b
  · exact ⟨-1, by simp [h1], by omega⟩
  · by_cases h2 : a > b
    · exact ⟨1, by simp [h1, h2], by omega⟩
    · exact ⟨0, by simp [h1, h2], by omega⟩
theorem rdOf_get (l : List ByteArray) (i : Nat) (h : i < l.length) : rdOf ByteArray.empty l (i : Int) = l[i] := by
  unfold rdOf
  rw [Int.toNat_natCast, List.getD_eq_getElem?_getD, List.getElem?_eq_getElem h]; rfl
theorem compare_zero (a b : List ByteArray) (ha : a.length ≤ 1000000) (hb : b.length ≤ 1000000) (d : Nat) : ∀ (k i : Nat), i + d = a.length → d < k → a.take i = b.take i → i ≤ b.length →
    ∃ r, slices_Compare_string_string.l0 k a b a (a.length : Int) (i : Int) = some r ∧ (r = 0 ↔ a = b) := by
  induction d with
  | zero =>
    intro k i hi hk ht hib
    obtain ⟨k, rfl⟩ : ∃ m, k = m + 1 := ⟨k - 1, by omega⟩
    simp only [slices_Compare_string_string.l0]
    rw [if_neg (by omega)]
    by_cases hlt : (a.length : Int) < (b.length : Int)
    · rw [if_pos hlt]
      exact ⟨-1, rfl, by simp; rintro rfl; omega⟩
    · rw [if_neg hlt]
      refine ⟨0, rfl, by simp; rw [List.take_of_length_le (by omega), List.take_of_length_le (by omega)] at ht; exact ht⟩
  | succ d ih =>
    intro k i hi hk ht hib
    obtain ⟨k, rfl⟩ : ∃ m, k = m + 1 := ⟨k - 1, by omega⟩
    simp only [slices_Compare_string_string.l0]
    rw [if_pos (by omega), if_pos (by omega), if_pos (by omega)]
    by_cases hge : (i : Int) ≥ (b.length : Int)
    · rw [if_pos hge]
      exact ⟨1, rfl, by simp; rintro rfl; omega⟩
    · rw [if_neg hge, if_pos (by omega), rdOf_get a i (by omega), rdOf_get b i (by omega)]
      unfold cmp_Compare_string.f
      simp only [Option.bind_some]
      by_cases h0 : cmpS a[i] b[i] = 0
      · rw [if_pos h0, show wrap64 ((i : Int) + 1) = ((i + 1 : Nat) : Int) from by unfold wrap64; omega]
        refine ih k (i + 1) (by omega) (by omega) ?_ (by omega)
        rw [List.take_succ_eq_append_getElem (by omega), List.take_succ_eq_append_getElem (by omega), ht, (cmpS_zero _ _).1 h0]
      · rw [if_neg h0]
        refine ⟨_, rfl, ⟨fun h => absurd h h0, fun h => absurd ((cmpS_zero a[i] b[i]).2 (by subst h; rfl)) h0⟩⟩
theorem or_two (k : Nat) (x y : Int) : cmp_Or_int.f (k + 3) [x, y] = some (if x = 0 then y else x) := by
  unfold cmp_Or_int.f
  have w0 : wrap64 (0 + 1) = 1 := by unfold wrap64; omega
  have w1 : wrap64 (1 + 1) = 2 := by unfold wrap64; omega
  have r0 : rd [x, y] 0 = x := rfl
  have r1 : rd [x, y] 1 = y := rfl
  simp only [cmp_Or_int.l0, List.length_cons, List.length_nil, w0, w1, r0, r1]
  by_cases hx : x = 0
  · by_cases hy : y = 0
    · subst hx hy; simp
    · subst hx; simp [hy]
  · simp [hx]
theorem same_f (k : Nat) (a b : S28) (hk : 200000 < k) (ma : modest a) (mb : modest b) (ha : canonS a = a) (hb : canonS b = b) :
    value_Same.f k a.f0 a.f1 a.f2 a.f3 b.f0 b.f1 b.f2 b.f3 = some (decide (a = b)) := by
  obtain ⟨k, rfl⟩ : ∃ m, k = m + 3 := ⟨k - 3, by omega⟩
  unfold value_Same.f value_Compare.f
  rw [canon_f _ a ma (by omega), canon_f _ b mb (by omega), texts_f _ a ma (by omega), texts_f _ b mb (by omega)]
  simp only [Option.bind_some]
  rw [ha, hb]
  obtain ⟨r1, e1, h1⟩ := cmpI_zero a.f0 b.f0
  have ta : (textsOf a).length ≤ 200000 := by
    obtain ⟨_, hl, hp, _, _⟩ := ma
    unfold textsOf
    split
    · simp
    · split
      · omega
      · split
        · rw [flat_len]; omega
        · simp
  obtain ⟨r2, e2, h2⟩ := compare_zero (textsOf a) (textsOf b) (by omega) (texts_small mb) (textsOf a).length (k + 3) 0 (by simp) (by omega) (by simp) (by omega)
  rw [e1]
  unfold slices_Compare_string_string.f
  rw [show ((0 : Nat) : Int) = 0 from rfl] at e2
  simp only [Option.bind_some]
  rw [e2]
  simp only [Option.bind_some]
  rw [or_two]
  simp only [Option.bind_some]
  congr 1
  rw [Bool.eq_iff_iff, beq_iff_eq, decide_eq_true_iff]
  constructor
  · intro h
    split at h
    · rename_i h0
      exact canon_told ha hb (h1.1 h0) (h2.1 h)
    · rename_i h0
      exact absurd h h0
  · rintro rfl
    rw [if_pos (h1.2 rfl)]
    exact h2.2 rfl
theorem sub_len : ∀ (l m : List (List UInt8)), l.Nodup → (∀ x ∈ l, x ∈ m) → l.length ≤ m.length
  | [], m, _, _ => Nat.zero_le _
  | x :: l, m, hn, hs => by
    have hx := hs x List.mem_cons_self
    have hn' := List.nodup_cons.1 hn
    have h := sub_len l (m.erase x) hn'.2 (fun y hy => (List.mem_erase_of_ne (by rintro rfl; exact hn'.1 hy)).2 (hs y (List.mem_cons_of_mem _ hy)))
    rw [List.length_erase_of_mem hx] at h
    have := List.length_pos_of_mem hx
    rw [List.length_cons]; omega
theorem sub_all (l m : List (List UInt8)) (hl : l.Nodup) (hm : m.Nodup) (hs : ∀ x ∈ l, x ∈ m) (hc : m.length ≤ l.length) : ∀ x ∈ m, x ∈ l := fun x hx => by
  refine Classical.byContradiction fun hn => ?_
  have h := sub_len (x :: l) m (List.nodup_cons.2 ⟨hn, hl⟩) (fun y hy => by
    rcases List.mem_cons.1 hy with rfl | hy
    · exact hx
    · exact hs y hy)
  rw [List.length_cons] at h
  omega
theorem nodup_keysL (l : List S38) : (keysL l).Nodup := nodup_dedupL _
theorem sorted_ext {a b : List S38} (h : ∀ x, x ∈ keysL a ↔ x ∈ keysL b) : sortedL a = sortedL b :=
  mergeSort_of_perm ((List.perm_ext_iff_of_nodup (nodup_keysL a) (nodup_keysL b)).2 h)
theorem canonB_ext {a b : List S38} (h : ∀ nm, getL a nm = getL b nm) : canonB a = canonB b := by
  have hs : sortedL a = sortedL b := sorted_ext (fun x => (mem_keysL.trans (by rw [h x])).trans mem_keysL.symm)
  have hg : getL a = getL b := funext h
  rw [canonB_eq, canonB_eq, hs, hg]
theorem canonB_inj {a b : List S38} (h : canonB a = canonB b) (nm : List UInt8) : getL a nm = getL b nm := by
  have hmem : ∀ (l : List S38) (x : List UInt8) (s : S28), (⟨nmOf x, s⟩ : S38) ∈ canonB l ↔ getL l x = some s := fun l x s => by
    rw [canonB_eq, List.mem_map]
    constructor
    · rintro ⟨y, hy, he⟩
      simp only [S38.mk.injEq] at he
      have : y = x := by have := congrArg (fun z : ByteArray => z.data.toList) he.1; simpa [nmOf] using this
      subst this
      obtain ⟨s', hs'⟩ := Option.isSome_iff_exists.1 (mem_keysL.1 (List.mem_mergeSort.1 hy))
      rw [hs'] at he ⊢
      rw [← he.2]; rfl
    · intro hs
      exact ⟨x, List.mem_mergeSort.2 (mem_keysL.2 (by rw [hs]; rfl)), by rw [hs]; rfl⟩
  cases ha : getL a nm with
  | some s => exact ((hmem b nm s).1 (h ▸ (hmem a nm s).2 ha)).symm
  | none =>
    cases hb : getL b nm with
    | none => rfl
    | some s => rw [(hmem a nm s).1 (h ▸ (hmem b nm s).2 hb)] at ha; cases ha
theorem getL_canon {l : List S38} {nm : List UInt8} {s : S28} (h : getL l nm = some s) : canonS s = s ∧ (modestB l → modest s) := by
  unfold getL at h
  obtain ⟨x, hx, hs⟩ := Option.bind_eq_some_iff.1 h
  split at hs
  · obtain rfl := Option.some.inj hs
    exact ⟨canon_canon _, fun hm => modest_canon (hm.2 x (List.mem_of_find?_eq_some hx)).2⟩
  · cases hs
def OkC (W : World) (v : Value) (s : S28) : Prop := ∃ A2 c2 A3 c3, v = .agg #[.int .i64 s.f0, .string s.f1, .slice A2 s.f2.length c2, .slice A3 s.f3.length c3] ∧ s.f2.length ≤ c2 ∧ Kd.C Kd.string W A2 s.f2.length s.f2 ∧ s.f3.length ≤ c3 ∧ Kd.C k50 W A3 s.f3.length s.f3
theorem OkV.toC {W : World} {base : Nat} {v : Value} {s : S28} (h : OkV W base v s) : OkC W v s := by
  obtain ⟨v2, v3, rfl, h2, h3⟩ := h
  obtain ⟨A2, c2, rfl, l2, g2⟩ := Kd.R_reads h2
  obtain ⟨A3, c3, rfl, l3, g3⟩ := Kd.R_reads h3
  exact ⟨A2, c2, A3, c3, rfl, l2, g2, l3, g3⟩
theorem OkC.below {W W' : World} {v : Value} {s : S28} (h : OkC W v s) (hb : Below W.heap.size W W') : OkC W' v s := by
  obtain ⟨A2, c2, A3, c3, rfl, l2, g2, l3, g3⟩ := h
  exact ⟨A2, c2, A3, c3, rfl, l2, Kd.C_below g2 hb, l3, Kd.C_below g3 hb⟩
theorem C_det {W : World} {A : Option Addr} {n : Nat} {l l' : List ByteArray} (h : Kd.C Kd.string W A n l) (h' : Kd.C Kd.string W A n l') (e : l.length = n) (e' : l'.length = n) : l = l' := by
  apply List.ext_getElem (by omega)
  intro i h1 h2
  obtain ⟨ad, rfl, _⟩ := h.2.2 (by omega)
  have a := X.cell_str h i (by omega)
  rw [X.cell_str h' i (by omega)] at a
  rw [gAt_get l' i h2, gAt_get l i h1] at a
  injection a with a
  injection a with a
  exact a.symm
theorem C_detP {W : World} {A : Option Addr} {n : Nat} {l l' : List S50} (h : Kd.C k50 W A n l) (h' : Kd.C k50 W A n l') (e : l.length = n) (e' : l'.length = n) : l = l' := by
  apply List.ext_getElem (by omega)
  intro i h1 h2
  obtain ⟨ad, e1, a0, a1⟩ := at_T50 h (i : Int) (by omega) (by omega)
  obtain ⟨ad', e2, b0, b1⟩ := at_T50 h' (i : Int) (by omega) (by omega)
  obtain rfl : ad = ad' := by rw [e1] at e2; injection e2
  rw [a0, rd_at l i h1, rd_at l' i h2] at b0
  rw [a1, rd_at l i h1, rd_at l' i h2] at b1
  injection b0 with b0
  injection b0 with b0
  injection b1 with b1
  injection b1 with b1
  rcases hx : l[i] with ⟨x0, x1⟩
  rcases hy : l'[i] with ⟨y0, y1⟩
  rw [hx, hy] at b0 b1
  dsimp only at b0 b1
  rw [b0, b1]
theorem OkC.det {W : World} {v : Value} {s s' : S28} (h : OkC W v s) (h' : OkC W v s') : s = s' := by
  obtain ⟨A2, c2, A3, c3, rfl, l2, g2, l3, g3⟩ := h
  obtain ⟨B2, d2, B3, d3, e, m2, q2, m3, q3⟩ := h'
  simp only [Value.agg.injEq, Array.mk.injEq, List.cons.injEq, Value.int.injEq, Value.string.injEq, Value.slice.injEq, true_and, and_true] at e
  obtain ⟨e0, e1, ⟨rfl, en2, rfl⟩, rfl, en3, rfl⟩ := e
  rw [← en2] at q2
  rw [← en3] at q3
  have f2 := C_det g2 q2 rfl en2.symm
  have f3 := C_detP g3 q3 rfl en3.symm
  obtain ⟨a0, a1, a2, a3⟩ := s
  obtain ⟨b0, b1, b2, b3⟩ := s'
  dsimp only at e0 e1 f2 f3
  rw [e0, e1, f2, f3]
theorem zero_ok (W : World) : OkC W X.zeroV z28 := ⟨none, 0, none, 0, rfl, Nat.le_refl _, (Kd.R_reads' (Kd.R_nil Kd.string 9 W 0 (fun _ => True))).2.2, Nat.le_refl _, (Kd.R_reads' (Kd.R_nil k50 50 W 0 (fun _ => True))).2.2⟩
set_option maxHeartbeats 8000000 in
set_option maxRecDepth 100000 in
theorem same_call {W : World} {x y : Value} {a b : S28} (hx : OkC W x a) (hy : OkC W y b) (ma : modest a) (mb : modest b) (ha : canonS a = a) (hb : canonS b = b) :
    Calls Try.prog 32 #[x, y] W fun e w' => e = .returned (.bool (decide (a = b))) ∧ Below W.heap.size W w' := by
  obtain ⟨A2, c2, A3, c3, rfl, l2, g2, l3, g3⟩ := hx
  obtain ⟨B2, d2, B3, d3, rfl, m2, q2, m3, q3⟩ := hy
  exact value_Same.calls 200001 _ _ _ _ _ _ _ _ _ _ _ _ _ _ _ _ _ W g2 l2 g3 l3 q2 m2 q3 m3 (same_f 200001 a b (by decide) ma mb ha hb)
theorem keys_perm {l : List S38} (hm : modestB l) {es : List (Lit × DataW Unit)} (hpw : es.Pairwise (fun p q => p.1 ≠ q.1)) (hst : ∀ p ∈ es, ∃ s : List UInt8, p.1 = Lit.string s ∧ s.length ≤ maxLen)
    (hQ : ∀ nm : ByteArray, nm.size ≤ maxLen → Maps.has (.map es : DataW Unit) (.string nm.data.toList) = (getL l nm.data.toList).isSome) : (keysL l).Perm (strKeys (.map es)) := by
  refine perm_strKeys hpw (fun p hp => by obtain ⟨s, hs, _⟩ := hst p hp; exact ⟨s, hs⟩) (nodup_keysL l) (fun x => ?_)
  rw [mem_keysL]
  constructor
  · intro hx
    have := keys_size hm (mem_keysL.2 hx)
    exact (hQ (nmOf x) (by show x.toArray.size ≤ maxLen; rw [List.size_toArray]; unfold maxLen; omega)).trans hx
  · intro hx
    have hx' := hx
    rw [Maps.has_eq, List.any_eq_true] at hx
    obtain ⟨p, hp, hs⟩ := hx
    obtain ⟨s, h1, h2⟩ := hst p hp
    rw [h1] at hs
    obtain rfl : s = x := by simpa [Lit.sameKey] using hs
    exact (hQ (nmOf s) (by show s.toArray.size ≤ maxLen; rw [List.size_toArray]; exact h2)).symm.trans hx'
theorem strKeys_len (es : List (Lit × DataW Unit)) : (strKeys (.map es)).length = es.length := by
  show (es.map fun p => strOf p.1).length = _
  rw [List.length_map]
set_option maxHeartbeats 8000000 in
set_option maxRecDepth 100000 in
theorem eq_call {W : World} {b1 n1 base1 b2 n2 base2 : Nat} {l m : List S38} (h1 : MapOf W b1 n1 base1 l) (h2 : MapOf W b2 n2 base2 m) (ml : modestB l) (mm : modestB m) :
    Calls Try.prog 31 #[.map (some b1), .map (some b2), .func (.func 32) #[] #[]] W fun e W' => e = .returned (.bool (sameB l m)) ∧ W.grownBy W' none := by
  obtain ⟨C1, hv1, hs1⟩ := h1
  obtain ⟨C2, hv2, hs2⟩ := h2
  obtain ⟨es1, ho1, hap1, he1, hk1, hr1⟩ := hv1.entries
  obtain ⟨es2, ho2, hap2, he2, hk2, hr2⟩ := hv2.entries
  have k1 : ∀ s v, C1 s = some v → ∃ x, getL l s = some x ∧ OkC W v x := fun s v h => by
    have := hs1 s
    split at this
    · rename_i x hx
      obtain ⟨v', hv', ok⟩ := this
      rw [h] at hv'
      obtain rfl := Option.some.inj hv'
      exact ⟨x, hx, ok.toC⟩
    · rw [h] at this; cases this
  have k2 : ∀ s v, C2 s = some v → ∃ x, getL m s = some x ∧ OkC W v x := fun s v h => by
    have := hs2 s
    split at this
    · rename_i x hx
      obtain ⟨v', hv', ok⟩ := this
      rw [h] at hv'
      obtain rfl := Option.some.inj hv'
      exact ⟨x, hx, ok.toC⟩
    · rw [h] at this; cases this
  have g1 : ∀ s x, getL l s = some x → ∃ v, C1 s = some v ∧ OkC W v x := fun s x h => by
    have := hs1 s
    rw [h] at this
    obtain ⟨v, hv, ok⟩ := this
    exact ⟨v, hv, ok.toC⟩
  have g2 : ∀ s x, getL m s = some x → ∃ v, C2 s = some v ∧ OkC W v x := fun s x h => by
    have := hs2 s
    rw [h] at this
    obtain ⟨v, hv, ok⟩ := this
    exact ⟨v, hv, ok.toC⟩
  have q1 : ∀ nm : ByteArray, nm.size ≤ maxLen → Maps.has (.map es1 : DataW Unit) (.string nm.data.toList) = (getL l nm.data.toList).isSome := fun nm hn => by
    rw [(hk1 nm hn).1]
    cases hc : C1 nm.data.toList with
    | some v => obtain ⟨x, hx, _⟩ := k1 _ v hc; rw [hx]; rfl
    | none =>
      cases hg : getL l nm.data.toList with
      | none => rfl
      | some x => obtain ⟨v, hv, _⟩ := g1 _ x hg; rw [hc] at hv; cases hv
  have q2 : ∀ nm : ByteArray, nm.size ≤ maxLen → Maps.has (.map es2 : DataW Unit) (.string nm.data.toList) = (getL m nm.data.toList).isSome := fun nm hn => by
    rw [(hk2 nm hn).1]
    cases hc : C2 nm.data.toList with
    | some v => obtain ⟨x, hx, _⟩ := k2 _ v hc; rw [hx]; rfl
    | none =>
      cases hg : getL m nm.data.toList with
      | none => rfl
      | some x => obtain ⟨v, hv, _⟩ := g2 _ x hg; rw [hc] at hv; cases hv
  have st1 : ∀ p ∈ es1, ∃ s : List UInt8, p.1 = Lit.string s ∧ s.length ≤ maxLen := fun p hp => by obtain ⟨s, v, a, b, _⟩ := he1 p hp; exact ⟨s, b, a⟩
  have st2 : ∀ p ∈ es2, ∃ s : List UInt8, p.1 = Lit.string s ∧ s.length ≤ maxLen := fun p hp => by obtain ⟨s, v, a, b, _⟩ := he2 p hp; exact ⟨s, b, a⟩
  have len1 : es1.length = (keysL l).length := by rw [← strKeys_len, (keys_perm ml hap1 st1 q1).length_eq]
  have len2 : es2.length = (keysL m).length := by rw [← strKeys_len, (keys_perm mm hap2 st2 q2).length_eq]
  obtain ⟨S1, hS1⟩ : ∃ S : Value → Bool, ∀ v, S v = true ↔ (v = X.zeroV ∨ ∃ s, C1 s = some v) := ⟨fun v => @decide (v = X.zeroV ∨ ∃ s, C1 s = some v) (Classical.propDecidable _), fun v => by simp⟩
  obtain ⟨S2, hS2⟩ : ∃ S : Value → Bool, ∀ v, S v = true ↔ (v = X.zeroV ∨ ∃ s, C2 s = some v) := ⟨fun v => @decide (v = X.zeroV ∨ ∃ s, C2 s = some v) (Classical.propDecidable _), fun v => by simp⟩
  have c1 : ∀ v, S1 v = true → ∃ x, OkC W v x ∧ modest x ∧ canonS x = x := fun v h => by
    rcases (hS1 v).1 h with rfl | ⟨s, hs⟩
    · exact ⟨_, zero_ok W, ⟨Nat.zero_le _, by simp [z28], by simp [z28], by simp [z28], by simp [z28]⟩, zero_canon⟩
    · obtain ⟨x, hx, ok⟩ := k1 s v hs
      exact ⟨x, ok, (getL_canon hx).2 ml, (getL_canon hx).1⟩
  have c2 : ∀ v, S2 v = true → ∃ x, OkC W v x ∧ modest x ∧ canonS x = x := fun v h => by
    rcases (hS2 v).1 h with rfl | ⟨s, hs⟩
    · exact ⟨_, zero_ok W, ⟨Nat.zero_le _, by simp [z28], by simp [z28], by simp [z28], by simp [z28]⟩, zero_canon⟩
    · obtain ⟨x, hx, ok⟩ := k2 s v hs
      exact ⟨x, ok, (getL_canon hx).2 mm, (getL_canon hx).1⟩
  obtain ⟨eqd, heqd⟩ : ∃ eqd : DataW Unit → DataW Unit → Bool, ∀ xd yd, eqd xd yd = true ↔ ∃ x y s p q, X.valR x = some (xd, p) ∧ X.valR y = some (yd, q) ∧ OkC W x s ∧ OkC W y s :=
    ⟨fun xd yd => @decide (∃ x y s p q, X.valR x = some (xd, p) ∧ X.valR y = some (yd, q) ∧ OkC W x s ∧ OkC W y s) (Classical.propDecidable _), fun xd yd => by simp⟩
  have hval : ∀ x y xd yd p q a b, X.valR x = some (xd, p) → X.valR y = some (yd, q) → OkC W x a → OkC W y b → eqd xd yd = decide (a = b) := fun x y xd yd p q a b hx hy oa ob => by
    rw [Bool.eq_iff_iff, heqd, decide_eq_true_iff]
    constructor
    · rintro ⟨x', y', s, p', q', hx', hy', os, os'⟩
      obtain rfl := X.valR_inj hx hx'
      obtain rfl := X.valR_inj hy hy'
      rw [oa.det os, ob.det os']
    · rintro rfl
      exact ⟨x, y, a, p, q, hx, hy, oa, ob⟩
  obtain ⟨zz, hz⟩ : ∃ zz, X.valR X.zeroV = some zz := ⟨_, rfl⟩
  have h := X.equalFunc_any (X.valRS S1) (X.valRS S2) eqd b1 b2 n1 n2 (.map es1) (.map es2) W (fun v z h => (X.valRS_inv h).2) (fun v z h => (X.valRS_inv h).2)
    (hr1 S1 (fun s v _ hs => (hS1 v).2 (.inr ⟨s, hs⟩))) (hr2 S2 (fun s v _ hs => (hS2 v).2 (.inr ⟨s, hs⟩))) zz.1 zz.2 (by rw [X.valRS_of ((hS2 _).2 (.inl rfl)), hz])
    (fun W' x y xd yd xp yp hg hx hy => by
      obtain ⟨sx, rx⟩ := X.valRS_inv hx
      obtain ⟨sy, ry⟩ := X.valRS_inv hy
      obtain ⟨a, oa, ma, ca⟩ := c1 x sx
      obtain ⟨b, ob, mb, cb⟩ := c2 y sy
      rw [hval x y xd yd xp yp a b rx ry oa ob]
      have hbl : Below W.heap.size W W' := (Below.refl _ W).grown hg (Nat.le_refl _) (fun j e => by cases e)
      refine (same_call (oa.below hbl) (ob.below hbl) ma mb ca cb).mono ?_
      rintro e W'' ⟨rfl, hb⟩
      exact ⟨rfl, grown_of_below hb none⟩)
  refine h.mono ?_
  rintro e W' ⟨rfl, hg⟩
  refine ⟨?_, hg⟩
  have key : Go.Lib.equalFuncD eqd (.map es1) (.map es2) = sameB l m := by
    rw [Bool.eq_iff_iff]
    unfold sameB Go.Lib.equalFuncD
    rw [decide_eq_true_iff, Bool.and_eq_true, decide_eq_true_iff, List.all_eq_true]
    rw [Maps.size_eq, Maps.size_eq, len1, len2]
    constructor
    · rintro ⟨hlen, hall⟩
      have sub : ∀ nm s, getL l nm = some s → getL m nm = some s := fun nm s hs => by
        have hsz := keys_size ml (mem_keysL.2 (by rw [hs]; rfl))
        have hsz' : (nmOf nm).size ≤ maxLen := by show nm.toArray.size ≤ maxLen; rw [List.size_toArray]; unfold maxLen; omega
        have hh := q1 (nmOf nm) hsz'
        rw [show (nmOf nm).data.toList = nm from rfl, hs, Maps.has_eq] at hh
        obtain ⟨p, hp, hpk⟩ := List.any_eq_true.1 hh
        obtain ⟨s0, v0, hl0, hp1, hc0, qq, hv0⟩ := he1 p hp
        rw [hp1] at hpk
        obtain rfl : s0 = nm := by simpa [Lit.sameKey] using hpk
        obtain ⟨x0, hx0, ok0⟩ := k1 _ v0 hc0
        rw [hs] at hx0
        obtain rfl := Option.some.inj hx0
        have hg := hall p hp
        unfold Go.Lib.goodD at hg
        rw [hp1, Bool.and_eq_true] at hg
        have hh2 := q2 (nmOf s0) hsz'
        rw [show (nmOf s0).data.toList = s0 from rfl, hg.1] at hh2
        obtain ⟨s', hs'⟩ := Option.isSome_iff_exists.1 hh2.symm
        obtain ⟨v2, hc2, ok2⟩ := g2 s0 s' hs'
        obtain ⟨z2, hz2, hat⟩ := (hk2 (nmOf s0) hsz').2 v2 hc2
        have hd := hg.2
        rw [show DataW.atKey (.map es2) (.string s0) .nil = z2.1 from hat .nil, hval v0 v2 p.2 z2.1 qq z2.2 s s' hv0 hz2 ok0 ok2, decide_eq_true_iff] at hd
        rw [hs', hd]
      refine canonB_ext fun nm => ?_
      cases hl : getL l nm with
      | some s => exact (sub nm s hl).symm
      | none =>
        cases hm' : getL m nm with
        | none => rfl
        | some s' =>
          have := sub_all (keysL l) (keysL m) (nodup_keysL l) (nodup_keysL m) (fun x hx => by
            obtain ⟨s, hs⟩ := Option.isSome_iff_exists.1 (mem_keysL.1 hx)
            exact mem_keysL.2 (by rw [sub x s hs]; rfl)) (by omega) nm (mem_keysL.2 (by rw [hm']; rfl))
          rw [mem_keysL, hl] at this
          cases this
    · intro heq
      have hgl := canonB_inj heq
      refine ⟨((List.perm_ext_iff_of_nodup (nodup_keysL l) (nodup_keysL m)).2 (fun x => (mem_keysL.trans (by rw [hgl x])).trans mem_keysL.symm)).length_eq, fun p hp => ?_⟩
      obtain ⟨s, v, hl0, hp1, hc0, qq, hv0⟩ := he1 p hp
      obtain ⟨x, hx, ok⟩ := k1 s v hc0
      rw [hgl s] at hx
      obtain ⟨v2, hc2, ok2⟩ := g2 s x hx
      have hsz' : (nmOf s).size ≤ maxLen := by show s.toArray.size ≤ maxLen; rw [List.size_toArray]; exact hl0
      obtain ⟨z2, hz2, hat⟩ := (hk2 (nmOf s) hsz').2 v2 hc2
      have hh2 := q2 (nmOf s) hsz'
      rw [show (nmOf s).data.toList = s from rfl, hx] at hh2
      unfold Go.Lib.goodD
      rw [hp1, hh2, show DataW.atKey (.map es2) (.string s) .nil = z2.1 from hat .nil, hval v v2 p.2 z2.1 qq z2.2 x x hv0 hz2 ok ok2]
      simp
  rw [key]
set_option maxHeartbeats 8000000 in
set_option maxRecDepth 100000 in
theorem same_of (A : Option Addr) (c : Nat) (l : List S38) (B : Option Addr) (d : Nat) (m : List S38) (w : World) (hr : Kd.C k38 w A l.length l) (hr' : Kd.C k38 w B m.length m) (hm : modestB l) (hm' : modestB m) :
    Calls Try.prog 20 #[.slice A l.length c, .slice B m.length d] w fun e W => e = .returned (.bool (sameB l m)) ∧ Below w.heap.size w W := by
  have HR := Aside0.mk hr
  have HR' := Aside0.mk hr'
  have HM := Aside0.mk hm
  have HM' := Aside0.mk hm'
  clear hr hr' hm hm'
  go_enter Try.func20, Try.ntmps20
  go_wp2_with fail
  refine (all_of A c l _ HR.out HM.out).mono ?_
  rintro e W1 ⟨rfl, hmo1, hb1⟩
  go_wp2_with fail
  refine (all_of B d m _ (Kd.C_below HR'.out hb1) HM'.out).mono ?_
  rintro e W2 ⟨rfl, hmo2, hb2⟩
  have hmo1' : MapOf W2 w.heap.size l.length w.heap.size l := by
    obtain ⟨C, hvm, hs⟩ := hmo1
    refine ⟨C, hvm.below hb2, fun nm => ?_⟩
    have := hs nm
    split at this
    · obtain ⟨v, h1, h2⟩ := this
      exact ⟨v, h1, h2.grown (grown_of_below hb2 none) (fun r e => by cases e)⟩
    · exact this
  have HB := Aside0.mk (below_step hb1 hb2)
  clear hmo1 hb1 hb2
  go_wp2_with fail
  refine (eq_call hmo1' hmo2 HM.out HM'.out).mono ?_
  rintro e W3 ⟨rfl, hg⟩
  clear hmo1' hmo2
  have HB3 := Aside0.mk (HB.out.grown hg HB.out.size (fun j e => by cases e))
  clear hg
  go_wp2_with fail
  go_ret
  exact ⟨rfl, HB3.out⟩
end Go.Proofs.Ytfaiplbogchgjaa.PA
end
section
namespace Go.Proofs.Ytfaiplbogchgjaa.PA
open Go.RowKit Go.Proofs.YtfaiplbogchgjaaW.PrintWords Go.Proofs.YtfaiplbogchgjaaW.PrintLast Go.Proofs.YtfaiplbogchgjaaW.PrintMore
attribute [local go_sem] max2_int min2_int max_two min_two max_three min_three max_four min_four   -- for this text's walks alone
set_option linter.unusedVariables false
set_option linter.unusedSimpArgs false
mutual
def phalaroperef08_Few.l0 : Nat → Int → Int → ByteArray → List ByteArray → List (S50) → Option (Bool)
  | 0, _, _, _, _, _ => none
  | k + 1, x3, x219000, x219001, x219002, x219003 => if x3 < (x219002.length : Int) then (phalaroperef08_Few.j1 k x3 (decide (x3 < 31)) x219000 x219001 x219002 x219003) else (phalaroperef08_Few.j1 k x3 false x219000 x219001 x219002 x219003)
def phalaroperef08_Few.j1 : Nat → Int → Bool → Int → ByteArray → List ByteArray → List (S50) → Option (Bool)
  | 0, _, _, _, _, _, _ => none
  | k + 1, x3, x13, x219000, x219001, x219002, x219003 => if x13 = true then (if 0 ≤ x3 then (if x3 < (x219002.length : Int) then (if ((rdOf ByteArray.empty x219002 x3).size : Int) > 200 then (some false) else (phalaroperef08_Few.l0 k (wrap64 (x3 + 1)) x219000 x219001 x219002 x219003)) else (none)) else (none)) else (phalaroperef08_Few.l1 k 0 x219000 x219001 x219002 x219003)
def phalaroperef08_Few.l1 : Nat → Int → Int → ByteArray → List ByteArray → List (S50) → Option (Bool)
  | 0, _, _, _, _, _ => none
  | k + 1, x4, x219000, x219001, x219002, x219003 => if x4 < (x219003.length : Int) then (phalaroperef08_Few.j3 k x4 (decide (x4 < 31)) x219000 x219001 x219002 x219003) else (phalaroperef08_Few.j3 k x4 false x219000 x219001 x219002 x219003)
def phalaroperef08_Few.j3 : Nat → Int → Bool → Int → ByteArray → List ByteArray → List (S50) → Option (Bool)
  | 0, _, _, _, _, _, _ => none
  | k + 1, x4, x31, x219000, x219001, x219002, x219003 => if x31 = true then (if 0 ≤ x4 then (if x4 < (x219003.length : Int) then (if (((rd_T50 x219003 x4).f0).size : Int) > 200 then (some false) else (if (((rd_T50 x219003 x4).f1).size : Int) > 200 then (some false) else (phalaroperef08_Few.l1 k (wrap64 (x4 + 1)) x219000 x219001 x219002 x219003))) else (none)) else (none)) else (if (x219001.size : Int) ≤ 200 then (if (x219002.length : Int) ≤ 30 then (some (decide ((x219003.length : Int) ≤ 30))) else (some false)) else (some false))
end
def phalaroperef08_Few.f (k : Nat) (a0_0 : Int) (a0_1 : ByteArray) (l0_2 : List ByteArray) (l0_3 : List (S50)) : Option (Bool) := phalaroperef08_Few.l0 k 0 a0_0 a0_1 l0_2 l0_3
theorem phalaroperef08_Few.mono_l : ∀ k, (∀ y0 y1 y2 y3 y4, LeO (phalaroperef08_Few.l0 k y0 y1 y2 y3 y4) (phalaroperef08_Few.l0 (k + 1) y0 y1 y2 y3 y4)) ∧ (∀ y0 y1 y2 y3 y4 y5, LeO (phalaroperef08_Few.j1 k y0 y1 y2 y3 y4 y5) (phalaroperef08_Few.j1 (k + 1) y0 y1 y2 y3 y4 y5)) ∧ (∀ y0 y1 y2 y3 y4, LeO (phalaroperef08_Few.l1 k y0 y1 y2 y3 y4) (phalaroperef08_Few.l1 (k + 1) y0 y1 y2 y3 y4)) ∧ (∀ y0 y1 y2 y3 y4 y5, LeO (phalaroperef08_Few.j3 k y0 y1 y2 y3 y4 y5) (phalaroperef08_Few.j3 (k + 1) y0 y1 y2 y3 y4 y5))
  | 0 => ⟨fun _ _ _ _ _ r h => by simp [phalaroperef08_Few.l0] at h, fun _ _ _ _ _ _ r h => by simp [phalaroperef08_Few.j1] at h, fun _ _ _ _ _ r h => by simp [phalaroperef08_Few.l1] at h, fun _ _ _ _ _ _ r h => by simp [phalaroperef08_Few.j3] at h⟩
  | k + 1 => by
    obtain ⟨ih0, ih1, ih2, ih3⟩ := phalaroperef08_Few.mono_l k
    refine ⟨?_, ?_, ?_, ?_⟩
    · intro y0 y1 y2 y3 y4
      unfold phalaroperef08_Few.l0
      repeat' first
      | (with_reducible exact ih0 _ _ _ _ _)
      | (with_reducible exact ih1 _ _ _ _ _ _)
      | (with_reducible exact ih2 _ _ _ _ _)
      | (with_reducible exact ih3 _ _ _ _ _ _)
      | (with_reducible exact LeO.refl _)
      | (with_reducible exact LeO.none _)
      | (with_reducible refine LeO.ite ?_ ?_)
      | (with_reducible refine LeO.bind ?_ (fun _ => ?_))
      | exact ih0 _ _ _ _ _
      | exact ih1 _ _ _ _ _ _
      | exact ih2 _ _ _ _ _
      | exact ih3 _ _ _ _ _ _
      | exact LeO.none _
      | refine LeO.ite ?_ ?_
      | refine LeO.bind ?_ (fun _ => ?_)
    · intro y0 y1 y2 y3 y4 y5
      unfold phalaroperef08_Few.j1
      repeat' first
      | (with_reducible exact ih0 _ _ _ _ _)
      | (with_reducible exact ih1 _ _ _ _ _ _)
      | (with_reducible exact ih2 _ _ _ _ _)
      | (with_reducible exact ih3 _ _ _ _ _ _)
      | (with_reducible exact LeO.refl _)
      | (with_reducible exact LeO.none _)
      | (with_reducible refine LeO.ite ?_ ?_)
      | (with_reducible refine LeO.bind ?_ (fun _ => ?_))
      | exact ih0 _ _ _ _ _
      | exact ih1 _ _ _ _ _ _
      | exact ih2 _ _ _ _ _
      | exact ih3 _ _ _ _ _ _
      | exact LeO.none _
      | refine LeO.ite ?_ ?_
      | refine LeO.bind ?_ (fun _ => ?_)
    · intro y0 y1 y2 y3 y4
      unfold phalaroperef08_Few.l1
      repeat' first
      | (with_reducible exact ih0 _ _ _ _ _)
      | (with_reducible exact ih1 _ _ _ _ _ _)
      | (with_reducible exact ih2 _ _ _ _ _)
      | (with_reducible exact ih3 _ _ _ _ _ _)
      | (with_reducible exact LeO.refl _)
      | (with_reducible exact LeO.none _)
      | (with_reducible refine LeO.ite ?_ ?_)
      | (with_reducible refine LeO.bind ?_ (fun _ => ?_))
      | exact ih0 _ _ _ _ _
      | exact ih1 _ _ _ _ _ _
      | exact ih2 _ _ _ _ _
      | exact ih3 _ _ _ _ _ _
      | exact LeO.none _
      | refine LeO.ite ?_ ?_
      | refine LeO.bind ?_ (fun _ => ?_)
    · intro y0 y1 y2 y3 y4 y5
      unfold phalaroperef08_Few.j3
      repeat' first
      | (with_reducible exact ih0 _ _ _ _ _)
      | (with_reducible exact ih1 _ _ _ _ _ _)
      | (with_reducible exact ih2 _ _ _ _ _)
      | (with_reducible exact ih3 _ _ _ _ _ _)
      | (with_reducible exact LeO.refl _)
      | (with_reducible exact LeO.none _)
      | (with_reducible refine LeO.ite ?_ ?_)
      | (with_reducible refine LeO.bind ?_ (fun _ => ?_))
      | exact ih0 _ _ _ _ _
      | exact ih1 _ _ _ _ _ _
      | exact ih2 _ _ _ _ _
      | exact ih3 _ _ _ _ _ _
      | exact LeO.none _
      | refine LeO.ite ?_ ?_
      | refine LeO.bind ?_ (fun _ => ?_)
theorem phalaroperef08_Few.mono : ∀ a0 a1 a2 a3 k, LeO (phalaroperef08_Few.f k a0 a1 a2 a3) (phalaroperef08_Few.f (k + 1) a0 a1 a2 a3) := by
  intro a0 a1 a2 a3 k
  obtain ⟨ih0, ih1, ih2, ih3⟩ := phalaroperef08_Few.mono_l k
  unfold phalaroperef08_Few.f
  repeat' first
      | (with_reducible exact ih0 _ _ _ _ _)
      | (with_reducible exact ih1 _ _ _ _ _ _)
      | (with_reducible exact ih2 _ _ _ _ _)
      | (with_reducible exact ih3 _ _ _ _ _ _)
      | (with_reducible exact LeO.refl _)
      | (with_reducible exact LeO.none _)
      | (with_reducible refine LeO.ite ?_ ?_)
      | (with_reducible refine LeO.bind ?_ (fun _ => ?_))
      | exact ih0 _ _ _ _ _
      | exact ih1 _ _ _ _ _ _
      | exact ih2 _ _ _ _ _
      | exact ih3 _ _ _ _ _ _
      | exact LeO.none _
      | refine LeO.ite ?_ ?_
      | refine LeO.bind ?_ (fun _ => ?_)
set_option maxHeartbeats 8000000 in
set_option maxRecDepth 100000 in
theorem phalaroperef08_Few.calls (k : Nat) (a0_0 : Int) (a0_1 : ByteArray) (A0_2 : Option Addr) (c0_2 : Nat) (l0_2 : List ByteArray) (A0_3 : Option Addr) (c0_3 : Nat) (l0_3 : List (S50)) (r : Bool) (w : World) (hr0_2 : Kd.C Kd.string w A0_2 l0_2.length l0_2) (hc0_2 : l0_2.length ≤ c0_2) (hr0_3 : Kd.C k50 w A0_3 l0_3.length l0_3) (hc0_3 : l0_3.length ≤ c0_3) (h : phalaroperef08_Few.f k a0_0 a0_1 l0_2 l0_3 = some r) :
    Calls Try.prog 23 #[.agg #[.int .i64 a0_0, .string a0_1, .slice A0_2 l0_2.length c0_2, .slice A0_3 l0_3.length c0_3]] w fun e w' => e = .returned (.bool r) ∧ Below w.heap.size w w' := by
  have hu28 := Try.underlying28
  have HR0_2 := Aside0.mk hr0_2
  have HC0_2 := Aside0.mk hc0_2
  clear hr0_2 hc0_2
  have HR0_3 := Aside0.mk hr0_3
  have HC0_3 := Aside0.mk hc0_3
  clear hr0_3 hc0_3
  have HB := Aside0.mk (Below.refl w.heap.size w)
  have H : (phalaroperef08_Few.l0 k 0 a0_0 a0_1 l0_2 l0_3) = some r := h
  clear h
  have H' := Aside0.mk H
  clear H
  go_enter Try.func23, Try.ntmps23
  go_wp2_with (first | ((with_reducible refine gate_dst (N := 1) rfl ?_); (try (refine gate_guard (by rfl) ?_; dsimp only)); refine box_event ?hg (N := 1) ?hd (cs := #[.int .i64 a0_0, .string a0_1, .slice A0_2 l0_2.length c0_2, .slice A0_3 l0_3.length c0_3]) (t := 28) ?hr ?_; (case hd => rfl); (case hg => rfl); (case hr => first | (go_simp; done) | (go_simp; rfl)); intro gb218 hg w2 hbox hb; have n0_ := Aside0.mk (below_step (by repeat (first | (with_reducible first | exact HB.out | apply below_alloc | apply pw_below_drewN | apply below_drew1) | exact HB.out)) hb); have n1_ := Aside0.mk (hbox); have n2_ := Aside0.mk ((by rw [hg]; exact (below_size (by repeat (first | (with_reducible first | exact HB.out | apply below_alloc | apply pw_below_drewN | apply below_drew1) | exact HB.out))) : w.heap.size ≤ gb218)); have n3_ := Aside0.mk ((by rw [hg]; exact (below_size (by repeat (first | (with_reducible first | exact HB.out | apply below_alloc | apply pw_below_drewN | apply below_drew1) | exact HB.out))) : w.heap.size ≤ gb218)); clear HB; have HB := n0_; have BK218 := n1_; have GW218 := n2_; have GE218 := n3_; clear n0_ n1_ n2_ n3_; clear hb hbox hg))
  go_loopg [3] k (fun kq v3 w' => ∃ (x3_1 : Int), v3 = .int .i64 x3_1 ∧ Aside0 (phalaroperef08_Few.l0 kq x3_1 a0_0 a0_1 l0_2 l0_3 = some r) ∧ Aside0 (kq ≤ k) ∧ Aside0 (w'.heap[gb218]? = some (.cells #[.int .i64 a0_0, .string a0_1, (.slice A0_2 l0_2.length c0_2), (.slice A0_3 l0_3.length c0_3)] 28 (0, 0))) ∧ Aside0 (Below w.heap.size w w'))
  case atStart => exact ⟨(0), (by first | rfl | (simp; done) | (simp [*]; done)), H', ⟨Nat.le_refl _⟩, ⟨by (with_reducible repeat (first | refine blk_drewN ?_ _ | refine blk_drew ?_ | refine blk_alloc ?_ _)); exact BK218.out⟩, ⟨by repeat (first | (with_reducible first | exact HB.out | apply below_alloc | apply pw_below_drewN | apply below_drew1 | refine below_set ?_ GE218.out) | exact HB.out)⟩⟩
  case round =>
    clear H'
    try clear c2
    try clear p2
    obtain ⟨x3_1, rfl, HA, HK1, BK218, HB⟩ := hrel
    cases gk with
    | zero => exact absurd HA.out (by simp [phalaroperef08_Few.l0])
    | succ k1 =>
      have H := HA.out
      clear HA
      simp only [phalaroperef08_Few.l0] at H
      have HC3 := Aside0.mk H
      clear H
      go_upto_region 2 with (fail)
      go_cut [13] (fun v13 wc => ∃ (kq : Nat) (x13_2 : Bool), v13 = .bool x13_2 ∧ Aside0 (phalaroperef08_Few.j1 kq x3_1 x13_2 a0_0 a0_1 l0_2 l0_3 = some r) ∧ Aside0 (kq ≤ k1) ∧ Aside0 (wc.heap[gb218]? = some (.cells #[.int .i64 a0_0, .string a0_1, (.slice A0_2 l0_2.length c0_2), (.slice A0_3 l0_3.length c0_3)] 28 (0, 0))) ∧ Aside0 (Below w.heap.size w wc))
      case first =>
        have H := HC3.out
        clear HC3
        by_cases c4 : x3_1 < (l0_2.length : Int)
        · rw [if_pos c4] at H
          have c4b0 : decide (x3_1 < (l0_2.length : Int)) = true := decide_eq_true c4
          clear c4
          (first | rw [c4b0] | (simp only [i64_w, i32_w]; rw [c4b0]) | skip)
          have H' := Aside0.mk H
          clear H
          have hcz5_0 : wr.cell? ⟨gb218, 0, none⟩ = some (.int .i64 a0_0) := (blk_cell BK218.out 0).trans rfl
          have hcz5_1 : wr.cell? ⟨gb218, 1, none⟩ = some (.string a0_1) := (blk_cell BK218.out 1).trans rfl
          have hcz5_2 : wr.cell? ⟨gb218, 2, none⟩ = some (.slice A0_2 l0_2.length c0_2) := (blk_cell BK218.out 2).trans rfl
          have hcz5_3 : wr.cell? ⟨gb218, 3, none⟩ = some (.slice A0_3 l0_3.length c0_3) := (blk_cell BK218.out 3).trans rfl
          have hfz5_0 := blk_frozen BK218.out 0
          have hfz5_1 := blk_frozen BK218.out 1
          have hfz5_2 := blk_frozen BK218.out 2
          have hfz5_3 := blk_frozen BK218.out 3
          go_wp2
          go_meet
          case rel => exact ⟨_, (decide (x3_1 < 31)), (by first | rfl | (simp; done) | (simp [*]; done)), H', ⟨by have := HK1.out; first | omega | exact Nat.le_refl _⟩, ⟨by (with_reducible repeat (first | refine blk_drewN ?_ _ | refine blk_drew ?_ | refine blk_alloc ?_ _)); exact BK218.out⟩, ⟨by repeat (first | (with_reducible first | exact HB.out | apply below_alloc | apply pw_below_drewN | apply below_drew1 | refine below_set ?_ GE218.out) | exact HB.out)⟩⟩
        · rw [if_neg c4] at H
          have c4b0 : decide (x3_1 < (l0_2.length : Int)) = false := decide_eq_false c4
          clear c4
          (first | rw [c4b0] | (simp only [i64_w, i32_w]; rw [c4b0]) | skip)
          have H' := Aside0.mk H
          clear H
          have hcz6_0 : wr.cell? ⟨gb218, 0, none⟩ = some (.int .i64 a0_0) := (blk_cell BK218.out 0).trans rfl
          have hcz6_1 : wr.cell? ⟨gb218, 1, none⟩ = some (.string a0_1) := (blk_cell BK218.out 1).trans rfl
          have hcz6_2 : wr.cell? ⟨gb218, 2, none⟩ = some (.slice A0_2 l0_2.length c0_2) := (blk_cell BK218.out 2).trans rfl
          have hcz6_3 : wr.cell? ⟨gb218, 3, none⟩ = some (.slice A0_3 l0_3.length c0_3) := (blk_cell BK218.out 3).trans rfl
          have hfz6_0 := blk_frozen BK218.out 0
          have hfz6_1 := blk_frozen BK218.out 1
          have hfz6_2 := blk_frozen BK218.out 2
          have hfz6_3 := blk_frozen BK218.out 3
          go_wp2
          go_meet
          case rel => exact ⟨_, (false), (by first | rfl | (simp; done) | (simp [*]; done)), H', ⟨by have := HK1.out; first | omega | exact Nat.le_refl _⟩, ⟨by (with_reducible repeat (first | refine blk_drewN ?_ _ | refine blk_drew ?_ | refine blk_alloc ?_ _)); exact BK218.out⟩, ⟨by repeat (first | (with_reducible first | exact HB.out | apply below_alloc | apply pw_below_drewN | apply below_drew1 | refine below_set ?_ GE218.out) | exact HB.out)⟩⟩
      case rest =>
        clear HC3
        try clear c2
        try clear p2
        try clear c4
        try clear c4b0
        try clear hcz5_0
        try clear hcz5_1
        try clear hcz5_2
        try clear hcz5_3
        try clear hcz6_0
        try clear hcz6_1
        try clear hcz6_2
        try clear hcz6_3
        try clear hfz5_0
        try clear hfz5_1
        try clear hfz5_2
        try clear hfz5_3
        try clear hfz6_0
        try clear hfz6_1
        try clear hfz6_2
        try clear hfz6_3
        try clear p2
        obtain ⟨kq, x13_2, rfl, HA, HJ2, BK218, HB⟩ := hcut
        cases kq with
        | zero => exact absurd HA.out (by simp [phalaroperef08_Few.j1])
        | succ kj2 =>
          have H := HA.out
          clear HA
          simp only [phalaroperef08_Few.j1] at H
          by_cases c7 : x13_2 = true
          · subst c7
            have H1 : (if 0 ≤ x3_1 then (if x3_1 < (l0_2.length : Int) then (if ((rdOf ByteArray.empty l0_2 x3_1).size : Int) > 200 then (some false) else (phalaroperef08_Few.l0 kj2 (wrap64 (x3_1 + 1)) a0_0 a0_1 l0_2 l0_3)) else (none)) else (none)) = some r := by rw [if_pos rfl] at H; exact H
            clear H
            have H := H1
            clear H1
            by_cases c8 : 0 ≤ x3_1
            · rw [if_pos c8] at H
              have c8b0 : decide (0 ≤ x3_1) = true := decide_eq_true c8
              clear c8
              by_cases c9 : x3_1 < (l0_2.length : Int)
              · rw [if_pos c9] at H
                have c9b0 : decide (x3_1 < (l0_2.length : Int)) = true := decide_eq_true c9
                clear c9
                by_cases c10 : ((rdOf ByteArray.empty l0_2 x3_1).size : Int) > 200
                · rw [if_pos c10] at H
                  have c10b0 : decide (200 < ((rdOf ByteArray.empty l0_2 x3_1).size : Int)) = true := decide_eq_true c10
                  have c10b1 : decide (200 < (rdOf ByteArray.empty l0_2 x3_1).size) = true := decide_eq_true (by omega)
                  clear c10
                  obtain rfl := Option.some.inj H
                  have hcz11_0 : wc.cell? ⟨gb218, 0, none⟩ = some (.int .i64 a0_0) := (blk_cell BK218.out 0).trans rfl
                  have hcz11_1 : wc.cell? ⟨gb218, 1, none⟩ = some (.string a0_1) := (blk_cell BK218.out 1).trans rfl
                  have hcz11_2 : wc.cell? ⟨gb218, 2, none⟩ = some (.slice A0_2 l0_2.length c0_2) := (blk_cell BK218.out 2).trans rfl
                  have hcz11_3 : wc.cell? ⟨gb218, 3, none⟩ = some (.slice A0_3 l0_3.length c0_3) := (blk_cell BK218.out 3).trans rfl
                  have hfz11_0 := blk_frozen BK218.out 0
                  have hfz11_1 := blk_frozen BK218.out 1
                  have hfz11_2 := blk_frozen BK218.out 2
                  have hfz11_3 := blk_frozen BK218.out 3
                  have p219 : 0 ≤ (x3_1 : Int) := of_decide_eq_true (by first | (with_reducible assumption) | assumption)
                  have q219 : x3_1 < (l0_2.length : Int) := of_decide_eq_true (by first | (with_reducible assumption) | assumption)
                  obtain ⟨ad219, e219, hx219_0⟩ := Kd.at_string HR0_2.out x3_1 p219 q219
                  cases e219
                  replace hx219_0 := (HB.out.cell (World.block_lt_of_cell? w _ hx219_0)).trans hx219_0
                  replace p219 := eq_true p219
                  replace q219 := eq_true q219
                  go_wp2
                  go_ret
                  exact ⟨by first | rfl | (simp [errW_none, errW_some] <;> rfl) | (simp [*, errW_none, errW_some] <;> rfl), by repeat (first | (with_reducible first | exact HB.out | apply below_alloc | apply pw_below_drewN | apply below_drew1 | refine below_set ?_ GE218.out) | exact HB.out)⟩
                · rw [if_neg c10] at H
                  have c10b0 : decide (200 < ((rdOf ByteArray.empty l0_2 x3_1).size : Int)) = false := decide_eq_false c10
                  have c10b1 : decide (200 < (rdOf ByteArray.empty l0_2 x3_1).size) = false := decide_eq_false (by omega)
                  clear c10
                  have H' := Aside0.mk H
                  clear H
                  have hcz12_0 : wc.cell? ⟨gb218, 0, none⟩ = some (.int .i64 a0_0) := (blk_cell BK218.out 0).trans rfl
                  have hcz12_1 : wc.cell? ⟨gb218, 1, none⟩ = some (.string a0_1) := (blk_cell BK218.out 1).trans rfl
                  have hcz12_2 : wc.cell? ⟨gb218, 2, none⟩ = some (.slice A0_2 l0_2.length c0_2) := (blk_cell BK218.out 2).trans rfl
                  have hcz12_3 : wc.cell? ⟨gb218, 3, none⟩ = some (.slice A0_3 l0_3.length c0_3) := (blk_cell BK218.out 3).trans rfl
                  have hfz12_0 := blk_frozen BK218.out 0
                  have hfz12_1 := blk_frozen BK218.out 1
                  have hfz12_2 := blk_frozen BK218.out 2
                  have hfz12_3 := blk_frozen BK218.out 3
                  have p219 : 0 ≤ (x3_1 : Int) := of_decide_eq_true (by first | (with_reducible assumption) | assumption)
                  have q219 : x3_1 < (l0_2.length : Int) := of_decide_eq_true (by first | (with_reducible assumption) | assumption)
                  obtain ⟨ad219, e219, hx219_0⟩ := Kd.at_string HR0_2.out x3_1 p219 q219
                  cases e219
                  replace hx219_0 := (HB.out.cell (World.block_lt_of_cell? w _ hx219_0)).trans hx219_0
                  replace p219 := eq_true p219
                  replace q219 := eq_true q219
                  go_wp2
                  go_roundg kj2
                  case measure => have := HK1.out; have := HJ2.out; omega
                  case rel => exact ⟨(wrap64 (x3_1 + 1)), (by first | rfl | (simp; done) | (simp [*]; done)), H', ⟨by have := HK1.out; have := HJ2.out; omega⟩, ⟨by (with_reducible repeat (first | refine blk_drewN ?_ _ | refine blk_drew ?_ | refine blk_alloc ?_ _)); exact BK218.out⟩, ⟨by repeat (first | (with_reducible first | exact HB.out | apply below_alloc | apply pw_below_drewN | apply below_drew1 | refine below_set ?_ GE218.out) | exact HB.out)⟩⟩
              · rw [if_neg c9] at H
                exact absurd H (by simp)
            · rw [if_neg c8] at H
              exact absurd H (by simp)
          · replace c7 := Bool.eq_false_iff.mpr c7
            subst c7
            have H1 : (phalaroperef08_Few.l1 kj2 0 a0_0 a0_1 l0_2 l0_3) = some r := by rw [if_neg (show ¬ (false = true) by decide)] at H; exact H
            clear H
            have H := H1
            clear H1
            have H' := Aside0.mk H
            clear H
            go_wp2
            go_loopg [4] kj2 (fun kq v4 w' => ∃ (x4_3 : Int), v4 = .int .i64 x4_3 ∧ Aside0 (phalaroperef08_Few.l1 kq x4_3 a0_0 a0_1 l0_2 l0_3 = some r) ∧ Aside0 (kq ≤ kj2) ∧ Aside0 (w'.heap[gb218]? = some (.cells #[.int .i64 a0_0, .string a0_1, (.slice A0_2 l0_2.length c0_2), (.slice A0_3 l0_3.length c0_3)] 28 (0, 0))) ∧ Aside0 (Below w.heap.size w w'))
            case atStart => exact ⟨(0), (by first | rfl | (simp; done) | (simp [*]; done)), H', ⟨Nat.le_refl _⟩, ⟨by (with_reducible repeat (first | refine blk_drewN ?_ _ | refine blk_drew ?_ | refine blk_alloc ?_ _)); exact BK218.out⟩, ⟨by repeat (first | (with_reducible first | exact HB.out | apply below_alloc | apply pw_below_drewN | apply below_drew1 | refine below_set ?_ GE218.out) | exact HB.out)⟩⟩
            case round =>
              clear H'
              try clear c1
              try clear c2
              try clear p2
              try clear q2
              try clear hx2
              try clear c4
              try clear c4b0
              try clear p6
              try clear c7
              try clear c8
              try clear c8b0
              try clear c9
              try clear c9b0
              try clear c10
              try clear c10b0
              try clear c10b1
              try clear hcz11_0
              try clear hcz11_1
              try clear hcz11_2
              try clear hcz11_3
              try clear hcz12_0
              try clear hcz12_1
              try clear hcz12_2
              try clear hcz12_3
              try clear hcz5_0
              try clear hcz5_1
              try clear hcz5_2
              try clear hcz5_3
              try clear hcz6_0
              try clear hcz6_1
              try clear hcz6_2
              try clear hcz6_3
              try clear hfz11_0
              try clear hfz11_1
              try clear hfz11_2
              try clear hfz11_3
              try clear hfz12_0
              try clear hfz12_1
              try clear hfz12_2
              try clear hfz12_3
              try clear hfz5_0
              try clear hfz5_1
              try clear hfz5_2
              try clear hfz5_3
              try clear hfz6_0
              try clear hfz6_1
              try clear hfz6_2
              try clear hfz6_3
              try clear hx219_0
              try clear p2
              try clear p219
              try clear q219
              obtain ⟨x4_3, rfl, HA, HK3, BK218, HB⟩ := hrel
              cases gk with
              | zero => exact absurd HA.out (by simp [phalaroperef08_Few.l1])
              | succ k3 =>
                have H := HA.out
                clear HA
                simp only [phalaroperef08_Few.l1] at H
                have HC13 := Aside0.mk H
                clear H
                go_upto_region 7 with (fail)
                go_cut [31] (fun v31 wc => ∃ (kq : Nat) (x31_12 : Bool), v31 = .bool x31_12 ∧ Aside0 (phalaroperef08_Few.j3 kq x4_3 x31_12 a0_0 a0_1 l0_2 l0_3 = some r) ∧ Aside0 (kq ≤ k3) ∧ Aside0 (wc.heap[gb218]? = some (.cells #[.int .i64 a0_0, .string a0_1, (.slice A0_2 l0_2.length c0_2), (.slice A0_3 l0_3.length c0_3)] 28 (0, 0))) ∧ Aside0 (Below w.heap.size w wc))
                case first =>
                  have H := HC13.out
                  clear HC13
                  by_cases c14 : x4_3 < (l0_3.length : Int)
                  · rw [if_pos c14] at H
                    have c14b0 : decide (x4_3 < (l0_3.length : Int)) = true := decide_eq_true c14
                    clear c14
                    (first | rw [c14b0] | (simp only [i64_w, i32_w]; rw [c14b0]) | skip)
                    have H' := Aside0.mk H
                    clear H
                    have hcz15_0 : wr.cell? ⟨gb218, 0, none⟩ = some (.int .i64 a0_0) := (blk_cell BK218.out 0).trans rfl
                    have hcz15_1 : wr.cell? ⟨gb218, 1, none⟩ = some (.string a0_1) := (blk_cell BK218.out 1).trans rfl
                    have hcz15_2 : wr.cell? ⟨gb218, 2, none⟩ = some (.slice A0_2 l0_2.length c0_2) := (blk_cell BK218.out 2).trans rfl
                    have hcz15_3 : wr.cell? ⟨gb218, 3, none⟩ = some (.slice A0_3 l0_3.length c0_3) := (blk_cell BK218.out 3).trans rfl
                    have hfz15_0 := blk_frozen BK218.out 0
                    have hfz15_1 := blk_frozen BK218.out 1
                    have hfz15_2 := blk_frozen BK218.out 2
                    have hfz15_3 := blk_frozen BK218.out 3
                    go_wp2
                    go_meet
                    case rel => exact ⟨_, (decide (x4_3 < 31)), (by first | rfl | (simp; done) | (simp [*]; done)), H', ⟨by have := HK1.out; have := HJ2.out; have := HK3.out; first | omega | exact Nat.le_refl _⟩, ⟨by (with_reducible repeat (first | refine blk_drewN ?_ _ | refine blk_drew ?_ | refine blk_alloc ?_ _)); exact BK218.out⟩, ⟨by repeat (first | (with_reducible first | exact HB.out | apply below_alloc | apply pw_below_drewN | apply below_drew1 | refine below_set ?_ GE218.out) | exact HB.out)⟩⟩
                  · rw [if_neg c14] at H
                    have c14b0 : decide (x4_3 < (l0_3.length : Int)) = false := decide_eq_false c14
                    clear c14
                    (first | rw [c14b0] | (simp only [i64_w, i32_w]; rw [c14b0]) | skip)
                    have H' := Aside0.mk H
                    clear H
                    have hcz16_0 : wr.cell? ⟨gb218, 0, none⟩ = some (.int .i64 a0_0) := (blk_cell BK218.out 0).trans rfl
                    have hcz16_1 : wr.cell? ⟨gb218, 1, none⟩ = some (.string a0_1) := (blk_cell BK218.out 1).trans rfl
                    have hcz16_2 : wr.cell? ⟨gb218, 2, none⟩ = some (.slice A0_2 l0_2.length c0_2) := (blk_cell BK218.out 2).trans rfl
                    have hcz16_3 : wr.cell? ⟨gb218, 3, none⟩ = some (.slice A0_3 l0_3.length c0_3) := (blk_cell BK218.out 3).trans rfl
                    have hfz16_0 := blk_frozen BK218.out 0
                    have hfz16_1 := blk_frozen BK218.out 1
                    have hfz16_2 := blk_frozen BK218.out 2
                    have hfz16_3 := blk_frozen BK218.out 3
                    go_wp2
                    go_meet
                    case rel => exact ⟨_, (false), (by first | rfl | (simp; done) | (simp [*]; done)), H', ⟨by have := HK1.out; have := HJ2.out; have := HK3.out; first | omega | exact Nat.le_refl _⟩, ⟨by (with_reducible repeat (first | refine blk_drewN ?_ _ | refine blk_drew ?_ | refine blk_alloc ?_ _)); exact BK218.out⟩, ⟨by repeat (first | (with_reducible first | exact HB.out | apply below_alloc | apply pw_below_drewN | apply below_drew1 | refine below_set ?_ GE218.out) | exact HB.out)⟩⟩
                case rest =>
                  clear HC13
                  try clear c1
                  try clear c2
                  try clear p2
                  try clear q2
                  try clear hx2
                  try clear c4
                  try clear c4b0
                  try clear p6
                  try clear c7
                  try clear c8
                  try clear c8b0
                  try clear c9
                  try clear c9b0
                  try clear c10
                  try clear c10b0
                  try clear c10b1
                  try clear c14
                  try clear c14b0
                  try clear hcz11_0
                  try clear hcz11_1
                  try clear hcz11_2
                  try clear hcz11_3
                  try clear hcz12_0
                  try clear hcz12_1
                  try clear hcz12_2
                  try clear hcz12_3
                  try clear hcz15_0
                  try clear hcz15_1
                  try clear hcz15_2
                  try clear hcz15_3
                  try clear hcz16_0
                  try clear hcz16_1
                  try clear hcz16_2
                  try clear hcz16_3
                  try clear hcz5_0
                  try clear hcz5_1
                  try clear hcz5_2
                  try clear hcz5_3
                  try clear hcz6_0
                  try clear hcz6_1
                  try clear hcz6_2
                  try clear hcz6_3
                  try clear hfz11_0
                  try clear hfz11_1
                  try clear hfz11_2
                  try clear hfz11_3
                  try clear hfz12_0
                  try clear hfz12_1
                  try clear hfz12_2
                  try clear hfz12_3
                  try clear hfz15_0
                  try clear hfz15_1
                  try clear hfz15_2
                  try clear hfz15_3
                  try clear hfz16_0
                  try clear hfz16_1
                  try clear hfz16_2
                  try clear hfz16_3
                  try clear hfz5_0
                  try clear hfz5_1
                  try clear hfz5_2
                  try clear hfz5_3
                  try clear hfz6_0
                  try clear hfz6_1
                  try clear hfz6_2
                  try clear hfz6_3
                  try clear hx219_0
                  try clear p2
                  try clear p219
                  try clear p6
                  try clear q2
                  try clear q219
                  obtain ⟨kq, x31_12, rfl, HA, HJ12, BK218, HB⟩ := hcut
                  cases kq with
                  | zero => exact absurd HA.out (by simp [phalaroperef08_Few.j3])
                  | succ kj12 =>
                    have H := HA.out
                    clear HA
                    simp only [phalaroperef08_Few.j3] at H
                    by_cases c17 : x31_12 = true
                    · subst c17
                      have H1 : (if 0 ≤ x4_3 then (if x4_3 < (l0_3.length : Int) then (if (((rd_T50 l0_3 x4_3).f0).size : Int) > 200 then (some false) else (if (((rd_T50 l0_3 x4_3).f1).size : Int) > 200 then (some false) else (phalaroperef08_Few.l1 kj12 (wrap64 (x4_3 + 1)) a0_0 a0_1 l0_2 l0_3))) else (none)) else (none)) = some r := by rw [if_pos rfl] at H; exact H
                      clear H
                      have H := H1
                      clear H1
                      by_cases c18 : 0 ≤ x4_3
                      · rw [if_pos c18] at H
                        have c18b0 : decide (0 ≤ x4_3) = true := decide_eq_true c18
                        clear c18
                        by_cases c19 : x4_3 < (l0_3.length : Int)
                        · rw [if_pos c19] at H
                          have c19b0 : decide (x4_3 < (l0_3.length : Int)) = true := decide_eq_true c19
                          clear c19
                          by_cases c20 : (((rd_T50 l0_3 x4_3).f0).size : Int) > 200
                          · rw [if_pos c20] at H
                            have c20b0 : decide (200 < (((rd_T50 l0_3 x4_3).f0).size : Int)) = true := decide_eq_true c20
                            have c20b1 : decide (200 < ((rd_T50 l0_3 x4_3).f0).size) = true := decide_eq_true (by omega)
                            clear c20
                            obtain rfl := Option.some.inj H
                            have hcz21_0 : wc.cell? ⟨gb218, 0, none⟩ = some (.int .i64 a0_0) := (blk_cell BK218.out 0).trans rfl
                            have hcz21_1 : wc.cell? ⟨gb218, 1, none⟩ = some (.string a0_1) := (blk_cell BK218.out 1).trans rfl
                            have hcz21_2 : wc.cell? ⟨gb218, 2, none⟩ = some (.slice A0_2 l0_2.length c0_2) := (blk_cell BK218.out 2).trans rfl
                            have hcz21_3 : wc.cell? ⟨gb218, 3, none⟩ = some (.slice A0_3 l0_3.length c0_3) := (blk_cell BK218.out 3).trans rfl
                            have hfz21_0 := blk_frozen BK218.out 0
                            have hfz21_1 := blk_frozen BK218.out 1
                            have hfz21_2 := blk_frozen BK218.out 2
                            have hfz21_3 := blk_frozen BK218.out 3
                            have p220 : 0 ≤ (x4_3 : Int) := of_decide_eq_true (by first | (with_reducible assumption) | assumption)
                            have q220 : x4_3 < (l0_3.length : Int) := of_decide_eq_true (by first | (with_reducible assumption) | assumption)
                            obtain ⟨ad220, e220, hx220_0, hx220_1⟩ := at_T50 HR0_3.out x4_3 p220 q220
                            cases e220
                            replace hx220_0 := (HB.out.cell (World.block_lt_of_cell? w _ hx220_0)).trans hx220_0
                            replace hx220_1 := (HB.out.cell (World.block_lt_of_cell? w _ hx220_1)).trans hx220_1
                            replace p220 := eq_true p220
                            replace q220 := eq_true q220
                            go_wp2
                            go_ret
                            exact ⟨by first | rfl | (simp [errW_none, errW_some] <;> rfl) | (simp [*, errW_none, errW_some] <;> rfl), by repeat (first | (with_reducible first | exact HB.out | apply below_alloc | apply pw_below_drewN | apply below_drew1 | refine below_set ?_ GE218.out) | exact HB.out)⟩
                          · rw [if_neg c20] at H
                            have c20b0 : decide (200 < (((rd_T50 l0_3 x4_3).f0).size : Int)) = false := decide_eq_false c20
                            have c20b1 : decide (200 < ((rd_T50 l0_3 x4_3).f0).size) = false := decide_eq_false (by omega)
                            clear c20
                            by_cases c22 : (((rd_T50 l0_3 x4_3).f1).size : Int) > 200
                            · rw [if_pos c22] at H
                              have c22b0 : decide (200 < (((rd_T50 l0_3 x4_3).f1).size : Int)) = true := decide_eq_true c22
                              have c22b1 : decide (200 < ((rd_T50 l0_3 x4_3).f1).size) = true := decide_eq_true (by omega)
                              clear c22
                              obtain rfl := Option.some.inj H
                              have hcz23_0 : wc.cell? ⟨gb218, 0, none⟩ = some (.int .i64 a0_0) := (blk_cell BK218.out 0).trans rfl
                              have hcz23_1 : wc.cell? ⟨gb218, 1, none⟩ = some (.string a0_1) := (blk_cell BK218.out 1).trans rfl
                              have hcz23_2 : wc.cell? ⟨gb218, 2, none⟩ = some (.slice A0_2 l0_2.length c0_2) := (blk_cell BK218.out 2).trans rfl
                              have hcz23_3 : wc.cell? ⟨gb218, 3, none⟩ = some (.slice A0_3 l0_3.length c0_3) := (blk_cell BK218.out 3).trans rfl
                              have hfz23_0 := blk_frozen BK218.out 0
                              have hfz23_1 := blk_frozen BK218.out 1
                              have hfz23_2 := blk_frozen BK218.out 2
                              have hfz23_3 := blk_frozen BK218.out 3
                              have p220 : 0 ≤ (x4_3 : Int) := of_decide_eq_true (by first | (with_reducible assumption) | assumption)
                              have q220 : x4_3 < (l0_3.length : Int) := of_decide_eq_true (by first | (with_reducible assumption) | assumption)
                              obtain ⟨ad220, e220, hx220_0, hx220_1⟩ := at_T50 HR0_3.out x4_3 p220 q220
                              cases e220
                              replace hx220_0 := (HB.out.cell (World.block_lt_of_cell? w _ hx220_0)).trans hx220_0
                              replace hx220_1 := (HB.out.cell (World.block_lt_of_cell? w _ hx220_1)).trans hx220_1
                              replace p220 := eq_true p220
                              replace q220 := eq_true q220
                              have p221 : 0 ≤ (x4_3 : Int) := of_decide_eq_true (by first | (with_reducible assumption) | assumption)
                              have q221 : x4_3 < (l0_3.length : Int) := of_decide_eq_true (by first | (with_reducible assumption) | assumption)
                              obtain ⟨ad221, e221, hx221_0, hx221_1⟩ := at_T50 HR0_3.out x4_3 p221 q221
                              obtain rfl : ad220 = ad221 := (by injection e221)
                              replace hx221_0 := (HB.out.cell (World.block_lt_of_cell? w _ hx221_0)).trans hx221_0
                              replace hx221_1 := (HB.out.cell (World.block_lt_of_cell? w _ hx221_1)).trans hx221_1
                              replace p221 := eq_true p221
                              replace q221 := eq_true q221
                              go_wp2
                              go_ret
                              exact ⟨by first | rfl | (simp [errW_none, errW_some] <;> rfl) | (simp [*, errW_none, errW_some] <;> rfl), by repeat (first | (with_reducible first | exact HB.out | apply below_alloc | apply pw_below_drewN | apply below_drew1 | refine below_set ?_ GE218.out) | exact HB.out)⟩
                            · rw [if_neg c22] at H
                              have c22b0 : decide (200 < (((rd_T50 l0_3 x4_3).f1).size : Int)) = false := decide_eq_false c22
                              have c22b1 : decide (200 < ((rd_T50 l0_3 x4_3).f1).size) = false := decide_eq_false (by omega)
                              clear c22
                              have H' := Aside0.mk H
                              clear H
                              have hcz24_0 : wc.cell? ⟨gb218, 0, none⟩ = some (.int .i64 a0_0) := (blk_cell BK218.out 0).trans rfl
                              have hcz24_1 : wc.cell? ⟨gb218, 1, none⟩ = some (.string a0_1) := (blk_cell BK218.out 1).trans rfl
                              have hcz24_2 : wc.cell? ⟨gb218, 2, none⟩ = some (.slice A0_2 l0_2.length c0_2) := (blk_cell BK218.out 2).trans rfl
                              have hcz24_3 : wc.cell? ⟨gb218, 3, none⟩ = some (.slice A0_3 l0_3.length c0_3) := (blk_cell BK218.out 3).trans rfl
                              have hfz24_0 := blk_frozen BK218.out 0
                              have hfz24_1 := blk_frozen BK218.out 1
                              have hfz24_2 := blk_frozen BK218.out 2
                              have hfz24_3 := blk_frozen BK218.out 3
                              have p220 : 0 ≤ (x4_3 : Int) := of_decide_eq_true (by first | (with_reducible assumption) | assumption)
                              have q220 : x4_3 < (l0_3.length : Int) := of_decide_eq_true (by first | (with_reducible assumption) | assumption)
                              obtain ⟨ad220, e220, hx220_0, hx220_1⟩ := at_T50 HR0_3.out x4_3 p220 q220
                              cases e220
                              replace hx220_0 := (HB.out.cell (World.block_lt_of_cell? w _ hx220_0)).trans hx220_0
                              replace hx220_1 := (HB.out.cell (World.block_lt_of_cell? w _ hx220_1)).trans hx220_1
                              replace p220 := eq_true p220
                              replace q220 := eq_true q220
                              have p221 : 0 ≤ (x4_3 : Int) := of_decide_eq_true (by first | (with_reducible assumption) | assumption)
                              have q221 : x4_3 < (l0_3.length : Int) := of_decide_eq_true (by first | (with_reducible assumption) | assumption)
                              obtain ⟨ad221, e221, hx221_0, hx221_1⟩ := at_T50 HR0_3.out x4_3 p221 q221
                              obtain rfl : ad220 = ad221 := (by injection e221)
                              replace hx221_0 := (HB.out.cell (World.block_lt_of_cell? w _ hx221_0)).trans hx221_0
                              replace hx221_1 := (HB.out.cell (World.block_lt_of_cell? w _ hx221_1)).trans hx221_1
                              replace p221 := eq_true p221
                              replace q221 := eq_true q221
                              go_wp2
                              go_roundg kj12
                              case measure => have := HK1.out; have := HJ2.out; have := HK3.out; have := HJ12.out; omega
                              case rel => exact ⟨(wrap64 (x4_3 + 1)), (by first | rfl | (simp; done) | (simp [*]; done)), H', ⟨by have := HK1.out; have := HJ2.out; have := HK3.out; have := HJ12.out; omega⟩, ⟨by (with_reducible repeat (first | refine blk_drewN ?_ _ | refine blk_drew ?_ | refine blk_alloc ?_ _)); exact BK218.out⟩, ⟨by repeat (first | (with_reducible first | exact HB.out | apply below_alloc | apply pw_below_drewN | apply below_drew1 | refine below_set ?_ GE218.out) | exact HB.out)⟩⟩
                        · rw [if_neg c19] at H
                          exact absurd H (by simp)
                      · rw [if_neg c18] at H
                        exact absurd H (by simp)
                    · replace c17 := Bool.eq_false_iff.mpr c17
                      subst c17
                      have H1 : (if (a0_1.size : Int) ≤ 200 then (if (l0_2.length : Int) ≤ 30 then (some (decide ((l0_3.length : Int) ≤ 30))) else (some false)) else (some false)) = some r := by rw [if_neg (show ¬ (false = true) by decide)] at H; exact H
                      clear H
                      have H := H1
                      clear H1
                      by_cases c25 : (a0_1.size : Int) ≤ 200
                      · rw [if_pos c25] at H
                        have c25b0 : decide ((a0_1.size : Int) ≤ 200) = true := decide_eq_true c25
                        have c25b1 : decide (a0_1.size ≤ 200) = true := decide_eq_true (by omega)
                        clear c25
                        by_cases c26 : (l0_2.length : Int) ≤ 30
                        · rw [if_pos c26] at H
                          have c26b0 : decide ((l0_2.length : Int) ≤ 30) = true := decide_eq_true c26
                          have c26b1 : decide (l0_2.length ≤ 30) = true := decide_eq_true (by omega)
                          clear c26
                          obtain rfl := Option.some.inj H
                          have hcz27_0 : wc.cell? ⟨gb218, 0, none⟩ = some (.int .i64 a0_0) := (blk_cell BK218.out 0).trans rfl
                          have hcz27_1 : wc.cell? ⟨gb218, 1, none⟩ = some (.string a0_1) := (blk_cell BK218.out 1).trans rfl
                          have hcz27_2 : wc.cell? ⟨gb218, 2, none⟩ = some (.slice A0_2 l0_2.length c0_2) := (blk_cell BK218.out 2).trans rfl
                          have hcz27_3 : wc.cell? ⟨gb218, 3, none⟩ = some (.slice A0_3 l0_3.length c0_3) := (blk_cell BK218.out 3).trans rfl
                          have hfz27_0 := blk_frozen BK218.out 0
                          have hfz27_1 := blk_frozen BK218.out 1
                          have hfz27_2 := blk_frozen BK218.out 2
                          have hfz27_3 := blk_frozen BK218.out 3
                          go_wp2
                          go_ret
                          exact ⟨by first | rfl | (simp [errW_none, errW_some] <;> rfl) | (simp [*, errW_none, errW_some] <;> rfl), by repeat (first | (with_reducible first | exact HB.out | apply below_alloc | apply pw_below_drewN | apply below_drew1 | refine below_set ?_ GE218.out) | exact HB.out)⟩
                        · rw [if_neg c26] at H
                          have c26b0 : decide ((l0_2.length : Int) ≤ 30) = false := decide_eq_false c26
                          have c26b1 : decide (l0_2.length ≤ 30) = false := decide_eq_false (by omega)
                          clear c26
                          obtain rfl := Option.some.inj H
                          have hcz28_0 : wc.cell? ⟨gb218, 0, none⟩ = some (.int .i64 a0_0) := (blk_cell BK218.out 0).trans rfl
                          have hcz28_1 : wc.cell? ⟨gb218, 1, none⟩ = some (.string a0_1) := (blk_cell BK218.out 1).trans rfl
                          have hcz28_2 : wc.cell? ⟨gb218, 2, none⟩ = some (.slice A0_2 l0_2.length c0_2) := (blk_cell BK218.out 2).trans rfl
                          have hcz28_3 : wc.cell? ⟨gb218, 3, none⟩ = some (.slice A0_3 l0_3.length c0_3) := (blk_cell BK218.out 3).trans rfl
                          have hfz28_0 := blk_frozen BK218.out 0
                          have hfz28_1 := blk_frozen BK218.out 1
                          have hfz28_2 := blk_frozen BK218.out 2
                          have hfz28_3 := blk_frozen BK218.out 3
                          go_wp2
                          go_ret
                          exact ⟨by first | rfl | (simp [errW_none, errW_some] <;> rfl) | (simp [*, errW_none, errW_some] <;> rfl), by repeat (first | (with_reducible first | exact HB.out | apply below_alloc | apply pw_below_drewN | apply below_drew1 | refine below_set ?_ GE218.out) | exact HB.out)⟩
                      · rw [if_neg c25] at H
                        have c25b0 : decide ((a0_1.size : Int) ≤ 200) = false := decide_eq_false c25
                        have c25b1 : decide (a0_1.size ≤ 200) = false := decide_eq_false (by omega)
                        clear c25
                        obtain rfl := Option.some.inj H
                        have hcz29_0 : wc.cell? ⟨gb218, 0, none⟩ = some (.int .i64 a0_0) := (blk_cell BK218.out 0).trans rfl
                        have hcz29_1 : wc.cell? ⟨gb218, 1, none⟩ = some (.string a0_1) := (blk_cell BK218.out 1).trans rfl
                        have hcz29_2 : wc.cell? ⟨gb218, 2, none⟩ = some (.slice A0_2 l0_2.length c0_2) := (blk_cell BK218.out 2).trans rfl
                        have hcz29_3 : wc.cell? ⟨gb218, 3, none⟩ = some (.slice A0_3 l0_3.length c0_3) := (blk_cell BK218.out 3).trans rfl
                        have hfz29_0 := blk_frozen BK218.out 0
                        have hfz29_1 := blk_frozen BK218.out 1
                        have hfz29_2 := blk_frozen BK218.out 2
                        have hfz29_3 := blk_frozen BK218.out 3
                        go_wp2
                        go_ret
                        exact ⟨by first | rfl | (simp [errW_none, errW_some] <;> rfl) | (simp [*, errW_none, errW_some] <;> rfl), by repeat (first | (with_reducible first | exact HB.out | apply below_alloc | apply pw_below_drewN | apply below_drew1 | refine below_set ?_ GE218.out) | exact HB.out)⟩
end Go.Proofs.Ytfaiplbogchgjaa.PA
end
section
namespace Go.Proofs.Ytfaiplbogchgjaa.PA
open Go.RowKit Go.Proofs.YtfaiplbogchgjaaW.PrintWords Go.Proofs.YtfaiplbogchgjaaW.PrintLast Go.Proofs.YtfaiplbogchgjaaW.PrintMore
attribute [local go_sem] max2_int min2_int max_two min_two max_three min_three max_four min_four   -- for this text's walks alone
set_option linter.unusedVariables false
set_option linter.unusedSimpArgs false
mutual
def phalaroperef09_Few.l0 : Nat → List (S38) → Int → Option (Bool)
  | 0, _, _ => none
  | k + 1, x0, x3 => if x3 < (x0.length : Int) then (phalaroperef09_Few.j1 k x0 x3 (decide (x3 < 21))) else (phalaroperef09_Few.j1 k x0 x3 false)
def phalaroperef09_Few.j1 : Nat → List (S38) → Int → Bool → Option (Bool)
  | 0, _, _, _ => none
  | k + 1, x0, x3, x11 => if x11 = true then (if 0 ≤ x3 then (if x3 < (x0.length : Int) then (if (((rd_T38 x0 x3).f0).size : Int) > 200 then (some false) else ((phalaroperef08_Few.f k ((rd_T38 x0 x3).f1.f0) ((rd_T38 x0 x3).f1.f1) ((rd_T38 x0 x3).f1.f2) ((rd_T38 x0 x3).f1.f3)).bind fun t224 => (if t224 = true then (phalaroperef09_Few.l0 k x0 (wrap64 (x3 + 1))) else (some false)))) else (none)) else (none)) else (some (decide ((x0.length : Int) ≤ 20)))
end
def phalaroperef09_Few.f (k : Nat) (l0 : List (S38)) : Option (Bool) := phalaroperef09_Few.l0 k l0 0
set_option maxHeartbeats 8000000 in
set_option maxRecDepth 100000 in
theorem phalaroperef09_Few.calls (k : Nat) (A0 : Option Addr) (c0 : Nat) (l0 : List (S38)) (r : Bool) (w : World) (hr0 : Kd.C k38 w A0 l0.length l0) (hc0 : l0.length ≤ c0) (h : phalaroperef09_Few.f k l0 = some r) :
    Calls Try.prog 10 #[.slice A0 l0.length c0] w fun e w' => e = .returned (.bool r) ∧ Below w.heap.size w w' := by
  have hu28 := Try.underlying28
  have HR0 := Aside0.mk hr0
  have HC0 := Aside0.mk hc0
  clear hr0 hc0
  have HB := Aside0.mk (Below.refl w.heap.size w)
  have H : (phalaroperef09_Few.l0 k l0 0) = some r := h
  clear h
  have H' := Aside0.mk H
  clear H
  go_enter Try.func10, Try.ntmps10
  go_wp2
  go_loopg [3] k (fun kq v3 w' => ∃ (x3_1 : Int), v3 = .int .i64 x3_1 ∧ Aside0 (phalaroperef09_Few.l0 kq l0 x3_1 = some r) ∧ Aside0 (kq ≤ k) ∧ Aside0 (Below w.heap.size w w'))
  case atStart => exact ⟨(0), (by first | rfl | (simp; done) | (simp [*]; done)), H', ⟨Nat.le_refl _⟩, ⟨by repeat (first | (with_reducible first | exact HB.out | apply below_alloc | apply pw_below_drewN | apply below_drew1) | exact HB.out)⟩⟩
  case round =>
    clear H'
    try clear c1
    obtain ⟨x3_1, rfl, HA, HK1, HB⟩ := hrel
    cases gk with
    | zero => exact absurd HA.out (by simp [phalaroperef09_Few.l0])
    | succ k1 =>
      have H := HA.out
      clear HA
      simp only [phalaroperef09_Few.l0] at H
      have HC2 := Aside0.mk H
      clear H
      go_upto_region 2 with (fail)
      go_cut [11] (fun v11 wc => ∃ (kq : Nat) (x11_1 : Bool), v11 = .bool x11_1 ∧ Aside0 (phalaroperef09_Few.j1 kq l0 x3_1 x11_1 = some r) ∧ Aside0 (kq ≤ k1) ∧ Aside0 (Below w.heap.size w wc))
      case first =>
        have H := HC2.out
        clear HC2
        by_cases c3 : x3_1 < (l0.length : Int)
        · rw [if_pos c3] at H
          have c3b0 : decide (x3_1 < (l0.length : Int)) = true := decide_eq_true c3
          clear c3
          (first | rw [c3b0] | (simp only [i64_w, i32_w]; rw [c3b0]) | skip)
          have H' := Aside0.mk H
          clear H
          go_wp2
          go_meet
          case rel => exact ⟨_, (decide (x3_1 < 21)), (by first | rfl | (simp; done) | (simp [*]; done)), H', ⟨by have := HK1.out; first | omega | exact Nat.le_refl _⟩, ⟨by repeat (first | (with_reducible first | exact HB.out | apply below_alloc | apply pw_below_drewN | apply below_drew1) | exact HB.out)⟩⟩
        · rw [if_neg c3] at H
          have c3b0 : decide (x3_1 < (l0.length : Int)) = false := decide_eq_false c3
          clear c3
          (first | rw [c3b0] | (simp only [i64_w, i32_w]; rw [c3b0]) | skip)
          have H' := Aside0.mk H
          clear H
          go_wp2
          go_meet
          case rel => exact ⟨_, (false), (by first | rfl | (simp; done) | (simp [*]; done)), H', ⟨by have := HK1.out; first | omega | exact Nat.le_refl _⟩, ⟨by repeat (first | (with_reducible first | exact HB.out | apply below_alloc | apply pw_below_drewN | apply below_drew1) | exact HB.out)⟩⟩
      case rest =>
        clear HC2
        try clear c1
        try clear p2
        try clear c3
        try clear c3b0
        obtain ⟨kq, x11_1, rfl, HA, HJ1, HB⟩ := hcut
        cases kq with
        | zero => exact absurd HA.out (by simp [phalaroperef09_Few.j1])
        | succ kj1 =>
          have H := HA.out
          clear HA
          simp only [phalaroperef09_Few.j1] at H
          by_cases c4 : x11_1 = true
          · subst c4
            have H1 : (if 0 ≤ x3_1 then (if x3_1 < (l0.length : Int) then (if (((rd_T38 l0 x3_1).f0).size : Int) > 200 then (some false) else ((phalaroperef08_Few.f kj1 ((rd_T38 l0 x3_1).f1.f0) ((rd_T38 l0 x3_1).f1.f1) ((rd_T38 l0 x3_1).f1.f2) ((rd_T38 l0 x3_1).f1.f3)).bind fun t224 => (if t224 = true then (phalaroperef09_Few.l0 kj1 l0 (wrap64 (x3_1 + 1))) else (some false)))) else (none)) else (none)) = some r := by rw [if_pos rfl] at H; exact H
            clear H
            have H := H1
            clear H1
            by_cases c5 : 0 ≤ x3_1
            · rw [if_pos c5] at H
              have c5b0 : decide (0 ≤ x3_1) = true := decide_eq_true c5
              clear c5
              by_cases c6 : x3_1 < (l0.length : Int)
              · rw [if_pos c6] at H
                have c6b0 : decide (x3_1 < (l0.length : Int)) = true := decide_eq_true c6
                clear c6
                by_cases c7 : (((rd_T38 l0 x3_1).f0).size : Int) > 200
                · rw [if_pos c7] at H
                  have c7b0 : decide (200 < (((rd_T38 l0 x3_1).f0).size : Int)) = true := decide_eq_true c7
                  have c7b1 : decide (200 < ((rd_T38 l0 x3_1).f0).size) = true := decide_eq_true (by omega)
                  clear c7
                  obtain rfl := Option.some.inj H
                  have p222 : 0 ≤ (x3_1 : Int) := of_decide_eq_true (by first | (with_reducible assumption) | assumption)
                  have q222 : x3_1 < (l0.length : Int) := of_decide_eq_true (by first | (with_reducible assumption) | assumption)
                  obtain ⟨ad222, A222_3, c222_3, A222_4, c222_4, e222, hx222_0, hx222_1, hx222_2, hx222_3, hx222_4, hl222_3, hi222_3, hl222_4, hi222_4⟩ := at_T38 HR0.out x3_1 p222 q222
                  cases e222
                  replace hx222_0 := (HB.out.cell (World.block_lt_of_cell? w _ hx222_0)).trans hx222_0
                  replace hx222_1 := (HB.out.cell (World.block_lt_of_cell? w _ hx222_1)).trans hx222_1
                  replace hx222_2 := (HB.out.cell (World.block_lt_of_cell? w _ hx222_2)).trans hx222_2
                  replace hx222_3 := (HB.out.cell (World.block_lt_of_cell? w _ hx222_3)).trans hx222_3
                  replace hx222_4 := (HB.out.cell (World.block_lt_of_cell? w _ hx222_4)).trans hx222_4
                  have HR222_3 := Aside0.mk hi222_3
                  have HC222_3 := Aside0.mk hl222_3
                  clear hi222_3 hl222_3
                  have HR222_4 := Aside0.mk hi222_4
                  have HC222_4 := Aside0.mk hl222_4
                  clear hi222_4 hl222_4
                  replace p222 := eq_true p222
                  replace q222 := eq_true q222
                  go_wp2
                  go_ret
                  exact ⟨by first | rfl | (simp [errW_none, errW_some] <;> rfl) | (simp [*, errW_none, errW_some] <;> rfl), by repeat (first | (with_reducible first | exact HB.out | apply below_alloc | apply pw_below_drewN | apply below_drew1) | exact HB.out)⟩
                · rw [if_neg c7] at H
                  have c7b0 : decide (200 < (((rd_T38 l0 x3_1).f0).size : Int)) = false := decide_eq_false c7
                  have c7b1 : decide (200 < ((rd_T38 l0 x3_1).f0).size) = false := decide_eq_false (by omega)
                  clear c7
                  replace H := Option.bind_eq_some_iff.mp H
                  obtain ⟨t224, A80, H⟩ := H
                  replace H : (if t224 = true then (phalaroperef09_Few.l0 kj1 l0 (wrap64 (x3_1 + 1))) else (some false)) = some r := H
                  have A8 := Aside0.mk A80
                  clear A80
                  by_cases c9 : t224 = true
                  · subst c9
                    have H1 : (phalaroperef09_Few.l0 kj1 l0 (wrap64 (x3_1 + 1))) = some r := by rw [if_pos rfl] at H; exact H
                    clear H
                    have H := H1
                    clear H1
                    have H' := Aside0.mk H
                    clear H
                    have p222 : 0 ≤ (x3_1 : Int) := of_decide_eq_true (by first | (with_reducible assumption) | assumption)
                    have q222 : x3_1 < (l0.length : Int) := of_decide_eq_true (by first | (with_reducible assumption) | assumption)
                    obtain ⟨ad222, A222_3, c222_3, A222_4, c222_4, e222, hx222_0, hx222_1, hx222_2, hx222_3, hx222_4, hl222_3, hi222_3, hl222_4, hi222_4⟩ := at_T38 HR0.out x3_1 p222 q222
                    cases e222
                    replace hx222_0 := (HB.out.cell (World.block_lt_of_cell? w _ hx222_0)).trans hx222_0
                    replace hx222_1 := (HB.out.cell (World.block_lt_of_cell? w _ hx222_1)).trans hx222_1
                    replace hx222_2 := (HB.out.cell (World.block_lt_of_cell? w _ hx222_2)).trans hx222_2
                    replace hx222_3 := (HB.out.cell (World.block_lt_of_cell? w _ hx222_3)).trans hx222_3
                    replace hx222_4 := (HB.out.cell (World.block_lt_of_cell? w _ hx222_4)).trans hx222_4
                    have HR222_3 := Aside0.mk hi222_3
                    have HC222_3 := Aside0.mk hl222_3
                    clear hi222_3 hl222_3
                    have HR222_4 := Aside0.mk hi222_4
                    have HC222_4 := Aside0.mk hl222_4
                    clear hi222_4 hl222_4
                    replace p222 := eq_true p222
                    replace q222 := eq_true q222
                    have p223 : 0 ≤ (x3_1 : Int) := of_decide_eq_true (by first | (with_reducible assumption) | assumption)
                    have q223 : x3_1 < (l0.length : Int) := of_decide_eq_true (by first | (with_reducible assumption) | assumption)
                    obtain ⟨ad223, A223_3, c223_3, A223_4, c223_4, e223, hx223_0, hx223_1, hx223_2, hx223_3, hx223_4, hl223_3, hi223_3, hl223_4, hi223_4⟩ := at_T38 HR0.out x3_1 p223 q223
                    obtain rfl : ad222 = ad223 := (by injection e223)
                    replace hx223_0 := (HB.out.cell (World.block_lt_of_cell? w _ hx223_0)).trans hx223_0
                    replace hx223_1 := (HB.out.cell (World.block_lt_of_cell? w _ hx223_1)).trans hx223_1
                    replace hx223_2 := (HB.out.cell (World.block_lt_of_cell? w _ hx223_2)).trans hx223_2
                    replace hx223_3 := (HB.out.cell (World.block_lt_of_cell? w _ hx223_3)).trans hx223_3
                    replace hx223_4 := (HB.out.cell (World.block_lt_of_cell? w _ hx223_4)).trans hx223_4
                    have HR223_3 := Aside0.mk hi223_3
                    have HC223_3 := Aside0.mk hl223_3
                    clear hi223_3 hl223_3
                    have HR223_4 := Aside0.mk hi223_4
                    have HC223_4 := Aside0.mk hl223_4
                    clear hi223_4 hl223_4
                    replace p223 := eq_true p223
                    replace q223 := eq_true q223
                    have ea_ := Option.some.inj (hx222_3.symm.trans hx223_3)
                    injection ea_ with ea_ en_ ec_
                    subst ea_
                    subst ec_
                    clear en_
                    have ea_ := Option.some.inj (hx222_4.symm.trans hx223_4)
                    injection ea_ with ea_ en_ ec_
                    subst ea_
                    subst ec_
                    clear en_
                    go_wp2_with (first | (go_at_call 23; (with_reducible refine (phalaroperef08_Few.calls kj1 ((rd_T38 l0 x3_1).f1.f0) ((rd_T38 l0 x3_1).f1.f1) _ _ ((rd_T38 l0 x3_1).f1.f2) _ _ ((rd_T38 l0 x3_1).f1.f3) true _ ?side1 ?side2 ?side3 ?side4 A8.out).mono ?_); (case side1 => repeat (first | exact (Kd.C_below HR223_3.out HB.out) | (with_reducible refine Kd.C_alloc ?_ _) | (with_reducible refine Kd.C_drewN ?_ _) | (with_reducible refine Kd.C_drew ?_))); (case side2 => exact HC223_3.out); (case side3 => repeat (first | exact (Kd.C_below HR223_4.out HB.out) | (with_reducible refine Kd.C_alloc ?_ _) | (with_reducible refine Kd.C_drewN ?_ _) | (with_reducible refine Kd.C_drew ?_))); (case side4 => exact HC223_4.out); rintro e w10 ⟨rfl, hb⟩; have n0_ := Aside0.mk (below_step (by repeat (first | (with_reducible first | exact HB.out | apply below_alloc | apply pw_below_drewN | apply below_drew1) | exact HB.out)) hb); clear HB; have HB := n0_; clear n0_; (try clear hb); (try clear hb2); (try clear hk); (try clear hi)))
                    go_roundg kj1
                    case measure => have := HK1.out; have := HJ1.out; omega
                    case rel => exact ⟨(wrap64 (x3_1 + 1)), (by first | rfl | (simp; done) | (simp [*]; done)), H', ⟨by have := HK1.out; have := HJ1.out; omega⟩, ⟨by repeat (first | (with_reducible first | exact HB.out | apply below_alloc | apply pw_below_drewN | apply below_drew1) | exact HB.out)⟩⟩
                  · replace c9 := Bool.eq_false_iff.mpr c9
                    subst c9
                    have H1 : (some false) = some r := by rw [if_neg (show ¬ (false = true) by decide)] at H; exact H
                    clear H
                    have H := H1
                    clear H1
                    obtain rfl := Option.some.inj H
                    have p222 : 0 ≤ (x3_1 : Int) := of_decide_eq_true (by first | (with_reducible assumption) | assumption)
                    have q222 : x3_1 < (l0.length : Int) := of_decide_eq_true (by first | (with_reducible assumption) | assumption)
                    obtain ⟨ad222, A222_3, c222_3, A222_4, c222_4, e222, hx222_0, hx222_1, hx222_2, hx222_3, hx222_4, hl222_3, hi222_3, hl222_4, hi222_4⟩ := at_T38 HR0.out x3_1 p222 q222
                    cases e222
                    replace hx222_0 := (HB.out.cell (World.block_lt_of_cell? w _ hx222_0)).trans hx222_0
                    replace hx222_1 := (HB.out.cell (World.block_lt_of_cell? w _ hx222_1)).trans hx222_1
                    replace hx222_2 := (HB.out.cell (World.block_lt_of_cell? w _ hx222_2)).trans hx222_2
                    replace hx222_3 := (HB.out.cell (World.block_lt_of_cell? w _ hx222_3)).trans hx222_3
                    replace hx222_4 := (HB.out.cell (World.block_lt_of_cell? w _ hx222_4)).trans hx222_4
                    have HR222_3 := Aside0.mk hi222_3
                    have HC222_3 := Aside0.mk hl222_3
                    clear hi222_3 hl222_3
                    have HR222_4 := Aside0.mk hi222_4
                    have HC222_4 := Aside0.mk hl222_4
                    clear hi222_4 hl222_4
                    replace p222 := eq_true p222
                    replace q222 := eq_true q222
                    have p223 : 0 ≤ (x3_1 : Int) := of_decide_eq_true (by first | (with_reducible assumption) | assumption)
                    have q223 : x3_1 < (l0.length : Int) := of_decide_eq_true (by first | (with_reducible assumption) | assumption)
                    obtain ⟨ad223, A223_3, c223_3, A223_4, c223_4, e223, hx223_0, hx223_1, hx223_2, hx223_3, hx223_4, hl223_3, hi223_3, hl223_4, hi223_4⟩ := at_T38 HR0.out x3_1 p223 q223
                    obtain rfl : ad222 = ad223 := (by injection e223)
                    replace hx223_0 := (HB.out.cell (World.block_lt_of_cell? w _ hx223_0)).trans hx223_0
                    replace hx223_1 := (HB.out.cell (World.block_lt_of_cell? w _ hx223_1)).trans hx223_1
                    replace hx223_2 := (HB.out.cell (World.block_lt_of_cell? w _ hx223_2)).trans hx223_2
                    replace hx223_3 := (HB.out.cell (World.block_lt_of_cell? w _ hx223_3)).trans hx223_3
                    replace hx223_4 := (HB.out.cell (World.block_lt_of_cell? w _ hx223_4)).trans hx223_4
                    have HR223_3 := Aside0.mk hi223_3
                    have HC223_3 := Aside0.mk hl223_3
                    clear hi223_3 hl223_3
                    have HR223_4 := Aside0.mk hi223_4
                    have HC223_4 := Aside0.mk hl223_4
                    clear hi223_4 hl223_4
                    replace p223 := eq_true p223
                    replace q223 := eq_true q223
                    have ea_ := Option.some.inj (hx222_3.symm.trans hx223_3)
                    injection ea_ with ea_ en_ ec_
                    subst ea_
                    subst ec_
                    clear en_
                    have ea_ := Option.some.inj (hx222_4.symm.trans hx223_4)
                    injection ea_ with ea_ en_ ec_
                    subst ea_
                    subst ec_
                    clear en_
                    go_wp2_with (first | (go_at_call 23; (with_reducible refine (phalaroperef08_Few.calls kj1 ((rd_T38 l0 x3_1).f1.f0) ((rd_T38 l0 x3_1).f1.f1) _ _ ((rd_T38 l0 x3_1).f1.f2) _ _ ((rd_T38 l0 x3_1).f1.f3) false _ ?side1 ?side2 ?side3 ?side4 A8.out).mono ?_); (case side1 => repeat (first | exact (Kd.C_below HR223_3.out HB.out) | (with_reducible refine Kd.C_alloc ?_ _) | (with_reducible refine Kd.C_drewN ?_ _) | (with_reducible refine Kd.C_drew ?_))); (case side2 => exact HC223_3.out); (case side3 => repeat (first | exact (Kd.C_below HR223_4.out HB.out) | (with_reducible refine Kd.C_alloc ?_ _) | (with_reducible refine Kd.C_drewN ?_ _) | (with_reducible refine Kd.C_drew ?_))); (case side4 => exact HC223_4.out); rintro e w11 ⟨rfl, hb⟩; have n0_ := Aside0.mk (below_step (by repeat (first | (with_reducible first | exact HB.out | apply below_alloc | apply pw_below_drewN | apply below_drew1) | exact HB.out)) hb); clear HB; have HB := n0_; clear n0_; (try clear hb); (try clear hb2); (try clear hk); (try clear hi)))
                    go_ret
                    exact ⟨by first | rfl | (simp [errW_none, errW_some] <;> rfl) | (simp [*, errW_none, errW_some] <;> rfl), by repeat (first | (with_reducible first | exact HB.out | apply below_alloc | apply pw_below_drewN | apply below_drew1) | exact HB.out)⟩
              · rw [if_neg c6] at H
                exact absurd H (by simp)
            · rw [if_neg c5] at H
              exact absurd H (by simp)
          · replace c4 := Bool.eq_false_iff.mpr c4
            subst c4
            have H1 : (some (decide ((l0.length : Int) ≤ 20))) = some r := by rw [if_neg (show ¬ (false = true) by decide)] at H; exact H
            clear H
            have H := H1
            clear H1
            obtain rfl := Option.some.inj H
            go_wp2
            go_ret
            exact ⟨by first | rfl | (simp [errW_none, errW_some] <;> rfl) | (simp [*, errW_none, errW_some] <;> rfl), by repeat (first | (with_reducible first | exact HB.out | apply below_alloc | apply pw_below_drewN | apply below_drew1) | exact HB.out)⟩
end Go.Proofs.Ytfaiplbogchgjaa.PA
end
section
namespace Go.Proofs.Ytfaiplbogchgjaa.PA
set_option linter.unusedSimpArgs false
set_option linter.unusedVariables false
open Go.RowKit Go.Proofs.YtfaiplbogchgjaaW.PrintWords Go.Proofs.YtfaiplbogchgjaaW.PrintLast
theorem w1 (i : Nat) (h : i < 9223372036854775806) : wrap64 ((i : Int) + 1) = ((i + 1 : Nat) : Int) := by unfold wrap64; omega
theorem rdOf_at (l : List ByteArray) (i : Nat) (h : i < l.length) : rdOf ByteArray.empty l (i : Int) = l[i] := rdOf_get l i h
theorem rdb_at (l : List S38) (i : Nat) (h : i < l.length) : rd_T38 l (i : Int) = l[i] := by
  unfold rd_T38; rw [Int.toNat_natCast, List.getD_eq_getElem?_getD, List.getElem?_eq_getElem h]; rfl
section
variable (vk : Int) (s : ByteArray) (l : List ByteArray) (p : List S50)
end
def FewV (s : ByteArray) (l : List ByteArray) (p : List S50) : Prop :=
  s.size ≤ 200 ∧ l.length ≤ 30 ∧ p.length ≤ 30 ∧ (∀ x ∈ l, x.size ≤ 200) ∧ ∀ x ∈ p, x.f0.size ≤ 200 ∧ x.f1.size ≤ 200
theorem FewV.modest {k : Int} {s : ByteArray} {l : List ByteArray} {p : List S50} (h : FewV s l p) : modest ⟨k, s, l, p⟩ := by
  obtain ⟨h0, h1, h2, h3, h4⟩ := h
  exact ⟨show s.size ≤ 1000000 by omega, show l.length ≤ 100000 by omega, show p.length ≤ 100000 by omega, fun x hx => by have := h3 x hx; omega, fun x hx => by have := h4 x hx; omega⟩
section
variable (vk : Int) (s : ByteArray) (l : List ByteArray) (p : List S50)
theorem few_l1 (d : Nat) : ∀ (k i : Nat), i + d = 31 → 2 * d + 3 < k → (∀ j (hj : j < p.length), j < i → p[j].f0.size ≤ 200 ∧ p[j].f1.size ≤ 200) →
    ∃ b, phalaroperef08_Few.l1 k (i : Int) vk s l p = some b ∧ (b = true → s.size ≤ 200 ∧ l.length ≤ 30 ∧ p.length ≤ 30 ∧ ∀ x ∈ p, x.f0.size ≤ 200 ∧ x.f1.size ≤ 200) := by
  induction d with
  | zero =>
    intro k i hi hk hj
    obtain ⟨k, rfl⟩ : ∃ m, k = m + 2 := ⟨k - 2, by omega⟩
    simp only [phalaroperef08_Few.l1, phalaroperef08_Few.j3]
    have hne : ¬ ((i : Int) < 31) := by omega
    rw [decide_eq_false hne]
    have : ∀ {α : Type} (c : Prop) [Decidable c] (x : α), (if c then x else x) = x := fun c _ x => by split <;> rfl
    simp only [Bool.false_eq_true, if_false, this]
    by_cases h1 : (s.size : Int) ≤ 200
    · by_cases h2 : (l.length : Int) ≤ 30
      · refine ⟨decide ((p.length : Int) ≤ 30), by rw [if_pos h1, if_pos h2], fun h => ?_⟩
        rw [decide_eq_true_iff] at h
        refine ⟨by omega, by omega, by omega, fun x hx => ?_⟩
        obtain ⟨j, hjl, rfl⟩ := List.mem_iff_getElem.1 hx
        exact hj j hjl (by omega)
      · exact ⟨false, by rw [if_pos h1, if_neg h2], fun h => by cases h⟩
    · exact ⟨false, by rw [if_neg h1], fun h => by cases h⟩
  | succ d ih =>
    intro k i hi hk hj
    obtain ⟨k, rfl⟩ : ∃ m, k = m + 2 := ⟨k - 2, by omega⟩
    simp only [phalaroperef08_Few.l1, phalaroperef08_Few.j3]
    have hlt : ((i : Int) < 31) := by omega
    rw [decide_eq_true hlt]
    by_cases hp : (i : Int) < (p.length : Int)
    · have hp' : i < p.length := by omega
      rw [if_pos hp, if_pos rfl, if_pos (by omega), if_pos hp, rd_at p i hp']
      by_cases h1 : ((p[i].f0).size : Int) > 200
      · exact ⟨false, by rw [if_pos h1], fun h => by cases h⟩
      by_cases h2 : ((p[i].f1).size : Int) > 200
      · exact ⟨false, by rw [if_neg h1, if_pos h2], fun h => by cases h⟩
      rw [if_neg h1, if_neg h2, w1 i (by omega)]
      exact ih k (i + 1) (by omega) (by omega) (fun j hjl hji => by
        rcases Nat.lt_or_ge j i with h | h
        · exact hj j hjl h
        · obtain rfl : j = i := by omega
          exact ⟨by omega, by omega⟩)
    · rw [if_neg hp]
      simp only [Bool.false_eq_true, if_false]
      by_cases h1 : (s.size : Int) ≤ 200
      · by_cases h2 : (l.length : Int) ≤ 30
        · refine ⟨decide ((p.length : Int) ≤ 30), by rw [if_pos h1, if_pos h2], fun h => ?_⟩
          rw [decide_eq_true_iff] at h
          refine ⟨by omega, by omega, by omega, fun x hx => ?_⟩
          obtain ⟨j, hjl, rfl⟩ := List.mem_iff_getElem.1 hx
          exact hj j hjl (by omega)
        · exact ⟨false, by rw [if_pos h1, if_neg h2], fun h => by cases h⟩
      · exact ⟨false, by rw [if_neg h1], fun h => by cases h⟩
theorem few_l0 (d : Nat) : ∀ (k i : Nat), i + d = 31 → 2 * d + 80 < k → (∀ j (hj : j < l.length), j < i → l[j].size ≤ 200) →
    ∃ b, phalaroperef08_Few.l0 k (i : Int) vk s l p = some b ∧ (b = true → FewV s l p) := by
  induction d with
  | zero =>
    intro k i hi hk hj
    obtain ⟨k, rfl⟩ : ∃ m, k = m + 2 := ⟨k - 2, by omega⟩
    simp only [phalaroperef08_Few.l0, phalaroperef08_Few.j1]
    have hne : ¬ ((i : Int) < 31) := by omega
    rw [decide_eq_false hne]
    have : ∀ {α : Type} (c : Prop) [Decidable c] (x : α), (if c then x else x) = x := fun c _ x => by split <;> rfl
    simp only [Bool.false_eq_true, if_false, this]
    obtain ⟨b, e, hb⟩ := few_l1 vk s l p 31 k 0 (by omega) (by omega) (fun j _ h => by omega)
    refine ⟨b, e, fun h => ?_⟩
    obtain ⟨h0, h1, h2, h3⟩ := hb h
    refine ⟨h0, h1, h2, fun x hx => ?_, h3⟩
    obtain ⟨j, hjl, rfl⟩ := List.mem_iff_getElem.1 hx
    exact hj j hjl (by omega)
  | succ d ih =>
    intro k i hi hk hj
    obtain ⟨k, rfl⟩ : ∃ m, k = m + 2 := ⟨k - 2, by omega⟩
    simp only [phalaroperef08_Few.l0, phalaroperef08_Few.j1]
    have hlt : ((i : Int) < 31) := by omega
    rw [decide_eq_true hlt]
    by_cases hp : (i : Int) < (l.length : Int)
    · have hp' : i < l.length := by omega
      rw [if_pos hp, if_pos rfl, if_pos (by omega), if_pos hp, rdOf_at l i hp']
      by_cases h1 : ((l[i]).size : Int) > 200
      · exact ⟨false, by rw [if_pos h1], fun h => by cases h⟩
      rw [if_neg h1, w1 i (by omega)]
      exact ih k (i + 1) (by omega) (by omega) (fun j hjl hji => by
        rcases Nat.lt_or_ge j i with h | h
        · exact hj j hjl h
        · obtain rfl : j = i := by omega
          omega)
    · rw [if_neg hp]
      simp only [Bool.false_eq_true, if_false]
      obtain ⟨b, e, hb⟩ := few_l1 vk s l p 31 k 0 (by omega) (by omega) (fun j _ h => by omega)
      refine ⟨b, e, fun h => ?_⟩
      obtain ⟨h0, h1, h2, h3⟩ := hb h
      refine ⟨h0, h1, h2, fun x hx => ?_, h3⟩
      obtain ⟨j, hjl, rfl⟩ := List.mem_iff_getElem.1 hx
      exact hj j hjl (by omega)
theorem few_f (k : Nat) (hk : 200 < k) : ∃ b, phalaroperef08_Few.f k vk s l p = some b ∧ (b = true → FewV s l p) :=
  few_l0 vk s l p 31 k 0 (by omega) (by omega) (fun j _ h => by omega)
end
theorem str_eq {a b : ByteArray} : a.toList = b.toList ↔ a.data.toList = b.data.toList := by rw [ByteArray.toList_eq, ByteArray.toList_eq]
def hasN (l : List ByteArray) (nm : ByteArray) : Bool := l.any fun y => y.toList == nm.toList
theorem rhas_l0 (l : List ByteArray) (nm : ByteArray) (hl : l.length ≤ 1000000) (d : Nat) : ∀ k i : Nat, i + d = l.length → d < k → phalaroperef07_Has.l0 k l nm (i : Int) = some (hasN (l.drop i) nm) := by
  induction d with
  | zero =>
    intro k i hi hk
    obtain ⟨k, rfl⟩ : ∃ m, k = m + 1 := ⟨k - 1, by omega⟩
    simp only [phalaroperef07_Has.l0]
    rw [if_neg (by omega), List.drop_eq_nil_iff.2 (by omega)]
    rfl
  | succ d ih =>
    intro k i hi hk
    obtain ⟨k, rfl⟩ : ∃ m, k = m + 1 := ⟨k - 1, by omega⟩
    have hlt : i < l.length := by omega
    simp only [phalaroperef07_Has.l0]
    rw [if_pos (by omega), if_pos (by omega), rdOf_at l i hlt, w1 i (by omega), ih k (i + 1) (by omega) (by omega), List.drop_eq_getElem_cons hlt]
    unfold hasN
    rw [List.any_cons]
    by_cases h : l[i].toList = nm.toList
    · rw [if_pos h, beq_iff_eq.2 h]; rfl
    · rw [if_neg h, beq_eq_false_iff_ne.2 h]; rfl
theorem evHas (l : List ByteArray) (nm : ByteArray) (hl : l.length ≤ 1000000) : Ev (fun k => phalaroperef07_Has.f k l nm) (hasN l nm) := ⟨l.length + 1, fun k hk => rhas_l0 l nm hl l.length k 0 (by omega) (by omega)⟩
def FewB (l : List S38) : Prop := l.length ≤ 20 ∧ ∀ x ∈ l, x.f0.size ≤ 200 ∧ FewV x.f1.f1 x.f1.f2 x.f1.f3
theorem FewB.modest {l : List S38} (h : FewB l) : modestB l := ⟨by have := h.1; omega, fun x hx => ⟨by have := (h.2 x hx).1; omega, (h.2 x hx).2.modest⟩⟩
theorem evFew_l0 (l : List S38) (d : Nat) : ∀ i : Nat, i + d = 21 → (∀ j (h : j < l.length), j < i → l[j].f0.size ≤ 200 ∧ FewV l[j].f1.f1 l[j].f1.f2 l[j].f1.f3) → ∃ b, Ev (fun k => phalaroperef09_Few.l0 k l (i : Int)) b ∧ (b = true → FewB l) := by
  have fin : ∀ i : Nat, ¬ ((i : Int) < l.length ∧ i < 21) → i ≤ 21 → (∀ j (h : j < l.length), j < i → l[j].f0.size ≤ 200 ∧ FewV l[j].f1.f1 l[j].f1.f2 l[j].f1.f3) → ∃ b, Ev (fun k => phalaroperef09_Few.l0 k l (i : Int)) b ∧ (b = true → FewB l) := fun i hi h21 hn => by
    refine ⟨decide ((l.length : Int) ≤ 20), Ev.step (f := fun k => phalaroperef09_Few.j1 k l (i : Int) false) (fun k => ?_) (Ev.step (f := fun _ => some (decide ((l.length : Int) ≤ 20))) (fun k => ?_) (Ev.now _)), fun h => ?_⟩
    · simp only [phalaroperef09_Few.l0]
      by_cases hl : (i : Int) < l.length
      · rw [if_pos hl, decide_eq_false (by omega)]
      · rw [if_neg hl]
    · simp only [phalaroperef09_Few.j1]
      rw [if_neg (by decide)]
    · rw [decide_eq_true_iff] at h
      refine ⟨by omega, fun x hx => ?_⟩
      obtain ⟨j, hj, rfl⟩ := List.getElem_of_mem hx
      exact hn j hj (by omega)
  induction d with
  | zero => intro i hi hn; exact fin i (by omega) (by omega) hn
  | succ d ih =>
    intro i hi hn
    by_cases hl : (i : Int) < l.length
    · have hlt : i < l.length := by omega
      have s1 : ∀ k, phalaroperef09_Few.l0 (k + 1) l (i : Int) = phalaroperef09_Few.j1 k l (i : Int) true := fun k => by
        simp only [phalaroperef09_Few.l0]
        rw [if_pos hl, decide_eq_true (by omega)]
      by_cases hs : ((l[i].f0).size : Int) > 200
      · refine ⟨false, Ev.step s1 (Ev.step (f := fun _ => some false) (fun k => ?_) (Ev.now _)), fun h => by cases h⟩
        simp only [phalaroperef09_Few.j1, if_true]
        rw [if_pos (by omega), if_pos hl, rdb_at l i hlt, if_pos hs]
      · obtain ⟨b, hb, hfv⟩ := few_f l[i].f1.f0 l[i].f1.f1 l[i].f1.f2 l[i].f1.f3 201 (by omega)
        have eb : Ev (fun k => phalaroperef08_Few.f k l[i].f1.f0 l[i].f1.f1 l[i].f1.f2 l[i].f1.f3) b := Ev.of (fun k => phalaroperef08_Few.mono _ _ _ _ _) hb
        cases b with
        | false =>
          refine ⟨false, Ev.step s1 (Ev.step (f := fun k => (phalaroperef08_Few.f k l[i].f1.f0 l[i].f1.f1 l[i].f1.f2 l[i].f1.f3).bind fun t => if t = true then phalaroperef09_Few.l0 k l ((i + 1 : Nat) : Int) else some false) (fun k => ?_) (Ev.bind eb (Ev.now _))), fun h => by cases h⟩
          simp only [phalaroperef09_Few.j1, if_true]
          rw [if_pos (by omega), if_pos hl, rdb_at l i hlt, if_neg hs, w1 i (by omega)]
        | true =>
          obtain ⟨b, h1, h2⟩ := ih (i + 1) (by omega) (fun j hj hji => by
            rcases Nat.lt_or_ge j i with h | h
            · exact hn j hj h
            · obtain rfl : j = i := by omega
              exact ⟨by omega, hfv rfl⟩)
          refine ⟨b, Ev.step s1 (Ev.step (f := fun k => (phalaroperef08_Few.f k l[i].f1.f0 l[i].f1.f1 l[i].f1.f2 l[i].f1.f3).bind fun t => if t = true then phalaroperef09_Few.l0 k l ((i + 1 : Nat) : Int) else some false) (fun k => ?_) (Ev.bind eb h1)), h2⟩
          simp only [phalaroperef09_Few.j1, if_true]
          rw [if_pos (by omega), if_pos hl, rdb_at l i hlt, if_neg hs, w1 i (by omega)]
    · exact fin i (by omega) (by omega) hn
theorem evFew (l : List S38) : ∃ b, Ev (fun k => phalaroperef09_Few.f k l) b ∧ (b = true → FewB l) := evFew_l0 l 21 0 (by omega) (fun j _ h => by omega)
end Go.Proofs.Ytfaiplbogchgjaa.PA
end
section
namespace Go.Proofs.Ytfaiplbogchgjaa.PA
open Go.RowKit Go.Proofs.YtfaiplbogchgjaaW.PrintWords Go.Proofs.YtfaiplbogchgjaaW.PrintLast Go.Proofs.YtfaiplbogchgjaaW.PrintMore
attribute [local go_sem] max2_int min2_int max_two min_two max_three min_three max_four min_four   -- for this text's walks alone
set_option linter.unusedVariables false
set_option linter.unusedSimpArgs false
end Go.Proofs.Ytfaiplbogchgjaa.PA
end
section
namespace Go.Proofs.Ytfaiplbogchgjaa.PA
open Go.RowKit Go.Proofs.YtfaiplbogchgjaaW.PrintWords Go.Proofs.YtfaiplbogchgjaaW.PrintLast Go.Proofs.YtfaiplbogchgjaaW.PrintMore
attribute [local go_sem] max2_int min2_int max_two min_two max_three min_three max_four min_four   -- for this text's walks alone
set_option linter.unusedVariables false
set_option linter.unusedSimpArgs false
end Go.Proofs.Ytfaiplbogchgjaa.PA
end
section
namespace Go.Proofs.Ytfaiplbogchgjaa.PA
open Go.RowKit Go.Proofs.YtfaiplbogchgjaaW.PrintWords Go.Proofs.YtfaiplbogchgjaaW.PrintLast Go.Proofs.YtfaiplbogchgjaaW.PrintMore
attribute [local go_sem] max2_int min2_int max_two min_two max_three min_three max_four min_four   -- for this text's walks alone
set_option linter.unusedVariables false
set_option linter.unusedSimpArgs false
end Go.Proofs.Ytfaiplbogchgjaa.PA
end
section
namespace Go.Proofs.Ytfaiplbogchgjaa.PA
open Go.RowKit Go.Proofs.YtfaiplbogchgjaaW.PrintWords Go.Proofs.YtfaiplbogchgjaaW.PrintLast Go.Proofs.YtfaiplbogchgjaaW.PrintMore
attribute [local go_sem] max2_int min2_int max_two min_two max_three min_three max_four min_four   -- for this text's walks alone
set_option linter.unusedVariables false
set_option linter.unusedSimpArgs false
end Go.Proofs.Ytfaiplbogchgjaa.PA
end
section
namespace Go.Proofs.Ytfaiplbogchgjaa.PA
set_option linter.unusedSimpArgs false
set_option linter.unusedVariables false
open Go.RowKit Go.Proofs.YtfaiplbogchgjaaW.PrintWords Go.Proofs.YtfaiplbogchgjaaW.PrintLast
theorem hasN_iff (l : List ByteArray) (nm : ByteArray) : hasN l nm = true ↔ nm ∈ l := by
  unfold hasN
  rw [List.any_eq_true]
  constructor
  · rintro ⟨y, hy, h⟩
    have := str_eq.1 (beq_iff_eq.1 h)
    rw [show nm = y from (ByteArray.ext (Array.ext' this)).symm]
    exact hy
  · intro h
    exact ⟨nm, h, by simp⟩
theorem canonB_names (l : List S38) : canonB l = (namesS l).map fun nm => ⟨nm, (getL l nm.data.toList).getD z28⟩ := by
  rw [canonB_eq, names_eq, List.map_map]
  rfl
theorem canonB_len (l : List S38) : (canonB l).length = (namesS l).length := by rw [canonB_names, List.length_map]
theorem names_short (l : List S38) : (namesS l).length ≤ l.length := by rw [names_len]; exact sorted_len l
theorem mem_canonB {l : List S38} {x : S38} (h : x ∈ canonB l) : getL l x.f0.data.toList = some x.f1 := by
  rw [canonB_eq, List.mem_map] at h
  obtain ⟨nm, hn, rfl⟩ := h
  obtain ⟨s, hs⟩ := Option.isSome_iff_exists.1 (mem_keysL.1 (List.mem_mergeSort.1 hn))
  show getL l nm = some ((getL l nm).getD z28)
  rw [hs]; rfl
theorem canonB_modest {l : List S38} (hm : modestB l) : modestB (canonB l) := by
  refine ⟨by rw [canonB_len]; exact Nat.le_trans (names_short l) hm.1, fun x hx => ?_⟩
  have hg := mem_canonB hx
  exact ⟨keys_size hm (mem_keysL.2 (by rw [hg]; rfl)), (getL_canon hg).2 hm⟩
theorem getL_def {l : List S38} {nm : List UInt8} {s : S28} (h : getL l nm = some s) : defS s = true := by
  unfold getL at h
  obtain ⟨x, hx, hs⟩ := Option.bind_eq_some_iff.1 h
  split at hs
  · rename_i hd
    obtain rfl := Option.some.inj hs
    unfold defS
    rw [texts_canon]
    exact hd
  · cases hs
theorem getL_canonB (l : List S38) (nm : List UInt8) : getL (canonB l) nm = getL l nm := by
  cases hg : getL l nm with
  | some s =>
    have hmem : (⟨nmOf nm, s⟩ : S38) ∈ canonB l := by
      rw [canonB_eq, List.mem_map]
      exact ⟨nm, List.mem_mergeSort.2 (mem_keysL.2 (by rw [hg]; rfl)), by rw [hg]; rfl⟩
    have hf : ∃ y, (canonB l).find? (fun x => x.f0.data.toList == nm) = some y := by
      cases h : (canonB l).find? (fun x => x.f0.data.toList == nm) with
      | some y => exact ⟨y, rfl⟩
      | none => have := List.find?_eq_none.1 h _ hmem; simp [nmOf] at this
    obtain ⟨y, hy⟩ := hf
    have h1 : y.f0.data.toList = nm := by simpa using List.find?_some hy
    have h2 := mem_canonB (List.mem_of_find?_eq_some hy)
    rw [h1, hg] at h2
    unfold getL
    rw [hy]
    simp only [Option.bind_some]
    rw [← Option.some.inj h2, if_pos (getL_def hg), (getL_canon hg).1]
  | none =>
    unfold getL
    rw [List.find?_eq_none.2 (fun x hx => by
      have h2 := mem_canonB hx
      intro h
      have : x.f0.data.toList = nm := by simpa using h
      rw [this, hg] at h2; cases h2)]
    rfl
theorem canonB_canonB (l : List S38) : canonB (canonB l) = canonB l := canonB_ext (getL_canonB l)
theorem same_canonB (l : List S38) : sameB l (canonB l) = true := by
  unfold sameB
  rw [canonB_canonB, decide_eq_true_iff]
def three : List S38 := [⟨⟨#[98]⟩, ⟨1, ⟨#[49]⟩, [], []⟩⟩, ⟨⟨#[97]⟩, ⟨1, ⟨#[50]⟩, [], []⟩⟩, ⟨⟨#[98]⟩, ⟨1, ⟨#[51]⟩, [], []⟩⟩]
theorem three_a : getL three [97] = some ⟨1, ⟨#[50]⟩, [], []⟩ := by
  unfold getL three
  simp [canonS_eq, defS, textsOf]
theorem three_b : getL three [98] = some ⟨1, ⟨#[49]⟩, [], []⟩ := by
  unfold getL three
  simp [canonS_eq, defS, textsOf]
theorem three_keys : keysL three = [[97], [98]] := by
  have h : (three.map fun x => x.f0.data.toList) = [[98], [97], [98]] := rfl
  unfold keysL
  rw [h]
  simp [three_a, three_b, dedupL]
theorem three_canon : canonB three = [⟨⟨#[97]⟩, ⟨1, ⟨#[50]⟩, [], []⟩⟩, ⟨⟨#[98]⟩, ⟨1, ⟨#[49]⟩, [], []⟩⟩] := by
  have h : sortedL three = [[97], [98]] := by
    unfold sortedL
    rw [three_keys]
    exact List.mergeSort_of_pairwise (by decide)
  rw [canonB_eq, h]
  simp [three_a, three_b, nmOf]
theorem three_modest : modestB three := by
  refine ⟨by decide, fun x hx => ?_⟩
  have : x.f0.size ≤ 1000000 ∧ x.f1.f1.size ≤ 1000000 ∧ x.f1.f2 = [] ∧ x.f1.f3 = [] := by
    unfold three at hx
    simp only [List.mem_cons, List.not_mem_nil, or_false] at hx
    rcases hx with rfl | rfl | rfl <;> exact ⟨by decide, by decide, rfl, rfl⟩
  obtain ⟨h0, h1, h2, h3⟩ := this
  exact ⟨h0, h1, by rw [h2]; decide, by rw [h3]; decide, by rw [h2]; simp, by rw [h3]; simp⟩
end Go.Proofs.Ytfaiplbogchgjaa.PA
end
section
namespace Go.Proofs.Ytfaiplbogchgjaa.PA
set_option linter.unusedSimpArgs false
set_option linter.unusedVariables false
open Go.RowKit Go.Proofs.YtfaiplbogchgjaaW.PrintWords Go.Proofs.YtfaiplbogchgjaaW.PrintLast
set_option maxHeartbeats 8000000 in
set_option maxRecDepth 100000 in
theorem text_any (s : ByteArray) (w : World) : Calls Try.prog 27 #[.string s] w fun e W => e = .returned (.agg #[.int .i64 1, .string s, .slice none 0 0, .slice none 0 0]) ∧ Below w.heap.size w W := by
  go_enter Try.func27, Try.ntmps27
  go_wp2_with fail
  exact bodyPost_ret (results_cell_row rfl _ _ w.heap.size 28 _ (0, 0) _ rfl (blk_new w _) Try.underlying28 rfl (by kernel_rfl)) rfl ⟨rfl, X.below_new1 _ _⟩
theorem C_three {W : World} {b : Nat} (h : W.heap[b]? = some (.cells #[.string ⟨#[98]⟩, .int .i64 1, .string ⟨#[49]⟩, .slice none 0 0, .slice none 0 0, .string ⟨#[97]⟩, .int .i64 1, .string ⟨#[50]⟩, .slice none 0 0, .slice none 0 0, .string ⟨#[98]⟩, .int .i64 1, .string ⟨#[51]⟩, .slice none 0 0, .slice none 0 0] 38 (0, 0))) :
    Kd.C k38 W (some ⟨b, 0, none⟩) 3 three := by
  have hc : ∀ i, W.cell? (Addr.add ⟨b, 0, none⟩ i) = (#[.string ⟨#[98]⟩, .int .i64 1, .string ⟨#[49]⟩, .slice none 0 0, .slice none 0 0, .string ⟨#[97]⟩, .int .i64 1, .string ⟨#[50]⟩, .slice none 0 0, .slice none 0 0, .string ⟨#[98]⟩, .int .i64 1, .string ⟨#[51]⟩, .slice none 0 0, .slice none 0 0] : Array Value)[i]? := fun i => by
    cases i with
    | zero => exact blk_cell h 0
    | succ i =>
      rw [show Addr.add ⟨b, 0, none⟩ (i + 1) = ⟨b, i + 1, none⟩ from by simp [Addr.add]]
      exact blk_cell h (i + 1)
  have hk : ∀ (s t : ByteArray), k38.K W ⟨s, ⟨1, t, [], []⟩⟩ [.string s, .int .i64 1, .string t, .slice none 0 0, .slice none 0 0] := fun s t =>
    k38_mk W ⟨s, ⟨1, t, [], []⟩⟩ (A3 := none) (c3 := 0) (Nat.le_refl _) (Kd.R_reads' (Kd.R_nil Kd.string 9 W 0 (fun _ => True))).2.2 (A4 := none) (c4 := 0) (Nat.le_refl _) (Kd.R_reads' (Kd.R_nil k50 50 W 0 (fun _ => True))).2.2
  refine ⟨rfl, by omega, fun _ => ⟨_, rfl, fun j p hj => ?_⟩⟩
  match j, hj with
  | 0, hj => cases hj; exact ⟨_, rfl, hk _ _, fun i u hu => by rw [hc]; match i, hu with | 0, hu => exact hu | 1, hu => exact hu | 2, hu => exact hu | 3, hu => exact hu | 4, hu => exact hu⟩
  | 1, hj => cases hj; exact ⟨_, rfl, hk _ _, fun i u hu => by rw [hc]; match i, hu with | 0, hu => exact hu | 1, hu => exact hu | 2, hu => exact hu | 3, hu => exact hu | 4, hu => exact hu⟩
  | 2, hj => cases hj; exact ⟨_, rfl, hk _ _, fun i u hu => by rw [hc]; match i, hu with | 0, hu => exact hu | 1, hu => exact hu | 2, hu => exact hu | 3, hu => exact hu | 4, hu => exact hu⟩
set_option maxHeartbeats 8000000 in
set_option maxRecDepth 100000 in
theorem awake_walk (w : World) : Calls Try.prog 9 #[] w fun e W => e = .returned (.bool true) ∧ Below w.heap.size w W := by
  go_enter Try.func9, Try.ntmps9
  go_wp2_with fail
  refine (text_any _ _).mono ?_
  rintro e w1 ⟨rfl, hb1⟩
  go_wp2_with fail
  refine (text_any _ _).mono ?_
  rintro e w2 ⟨rfl, hb2⟩
  go_wp2_with fail
  refine (text_any _ _).mono ?_
  rintro e w3 ⟨rfl, hb3⟩
  have hb := below_step (below_step hb1 hb2) hb3
  clear hb1 hb2 hb3
  go_wp2_with fail
  have h3 := blk_new w3 (.cells #[.string ⟨#[98]⟩, .int .i64 1, .string ⟨#[49]⟩, .slice none 0 0, .slice none 0 0, .string ⟨#[97]⟩, .int .i64 1, .string ⟨#[50]⟩, .slice none 0 0, .slice none 0 0, .string ⟨#[98]⟩, .int .i64 1, .string ⟨#[51]⟩, .slice none 0 0, .slice none 0 0] 38)
  have hC := C_three h3
  refine (canon_of (some ⟨w3.heap.size, 0, none⟩) 3 three _ hC three_modest).mono ?_
  rintro e w4 ⟨v4, rfl, h4, hb4⟩
  have hb' := below_step (below_alloc hb (.cells #[.string ⟨#[98]⟩, .int .i64 1, .string ⟨#[49]⟩, .slice none 0 0, .slice none 0 0, .string ⟨#[97]⟩, .int .i64 1, .string ⟨#[50]⟩, .slice none 0 0, .slice none 0 0, .string ⟨#[98]⟩, .int .i64 1, .string ⟨#[51]⟩, .slice none 0 0, .slice none 0 0] 38)) hb4
  have hC4 := Kd.C_below hC hb4
  obtain ⟨A4, c4, rfl, l4, g4⟩ := Kd.R_reads h4
  have HC := Aside0.mk hC4
  have HB := Aside0.mk hb'
  have HG := Aside0.mk g4
  clear hb h3 hC hb4 hb' hC4 g4 h4
  go_wp2_with fail
  refine (get_of (some ⟨w3.heap.size, 0, none⟩) 3 three ⟨#[98]⟩ _ HC.out three_modest (by decide)).mono ?_
  rintro e w5 ⟨v2, v3, rfl, r2, r3, hb5⟩
  have hg : getL three (ByteArray.mk #[98]).data.toList = some ⟨1, ⟨#[49]⟩, [], []⟩ := three_b
  rw [hg] at r2 r3 ⊢
  obtain ⟨B2, d2, rfl⟩ := Kd.R_slice r2
  obtain ⟨B3, d3, rfl⟩ := Kd.R_slice r3
  have hC5 := Kd.C_below HC.out hb5
  have g5 := Kd.C_below HG.out hb5
  have hb' := below_step HB.out hb5
  have hlen : (canonB three).length = 2 := by rw [three_canon]; rfl
  obtain ⟨ad, E3, f3, E4, f4, ead, x0, _, _, _, _, _⟩ := at_T38 g5 0 (by decide) (by omega)
  obtain ⟨ad', F3, h3, F4, h4, ead', _, _, y2, _, _, _⟩ := at_T38 g5 1 (by decide) (by omega)
  obtain rfl : ad = ad' := by rw [ead] at ead'; injection ead'
  subst ead
  have q0 : (rd_T38 (canonB three) 0).f0 = ⟨#[97]⟩ := by rw [three_canon]; rfl
  have q1 : (rd_T38 (canonB three) 1).f1.f1 = ⟨#[49]⟩ := by rw [three_canon]; rfl
  rw [q0] at x0
  rw [q1] at y2
  have hal := below_alloc (Below.refl w5.heap.size w5) (.cells #[.int .i64 1, .string ⟨#[49]⟩, .slice B2 0 d2, .slice B3 0 d3] 28)
  have x0' := addr_keep hal x0
  have y2' := addr_keep hal y2
  simp only [Int.toNat_zero, Nat.zero_mul, Int.reduceToNat, Nat.reduceMul] at x0' y2'
  have ea : ad.add 0 = ad := by simp [Addr.add]
  rw [ea] at x0'
  have e5 : (⟨(ad.add 5).block, (ad.add 5).off + 2, none⟩ : Addr) = ⟨ad.block, ad.off + 5 + 1 + 1, none⟩ := by simp [Addr.add]
  rw [e5] at y2'
  clear r2 r3 hg q0 q1 x0 y2 hal ea e5
  have HC5 := Aside0.mk hC5
  have HG5 := Aside0.mk g5
  have HB5 := Aside0.mk hb'
  clear hC5 g5 hb' hb5 HC HG HB
  go_wp2_with fail
  have hal := below_alloc (Below.refl w5.heap.size w5) (.cells #[.int .i64 1, .string ⟨#[49]⟩, .slice B2 0 d2, .slice B3 0 d3] 28)
  have hs := same_of (some ⟨w3.heap.size, 0, none⟩) 3 three (some ad) c4 (canonB three) _ (Kd.C_below HC5.out hal) (Kd.C_below HG5.out hal) three_modest (canonB_modest three_modest)
  rw [hlen, same_canonB] at hs
  refine hs.mono ?_
  rintro e w6 ⟨rfl, hb6⟩
  have HB6 := Aside0.mk (below_step (below_alloc HB5.out _) hb6)
  clear hb6 hs hal
  go_wp2_with fail
  go_ret
  exact ⟨rfl, HB6.out⟩
end Go.Proofs.Ytfaiplbogchgjaa.PA
end
section
namespace Go.Proofs.Ytfaiplbogchgjaa.PA
set_option linter.unusedSimpArgs false
set_option linter.unusedVariables false
open Go.RowKit Go.Proofs.YtfaiplbogchgjaaW.PrintWords Go.Proofs.YtfaiplbogchgjaaW.PrintLast
variable {W : World}
theorem few_any (l : List S38) : ∃ b : Bool, (b = true → FewB l) ∧ ∀ (W : World) (A : Option Addr) (c : Nat), Kd.C k38 W A l.length l → l.length ≤ c →
    Calls Try.prog 10 #[.slice A l.length c] W fun e W' => e = .returned (.bool b) ∧ Below W.heap.size W W' := by
  obtain ⟨b, hb, h⟩ := evFew l
  obtain ⟨k, hk⟩ := hb.rounds
  exact ⟨b, h, fun W A c hr hc => phalaroperef09_Few.calls k A c l b W hr hc hk⟩
end Go.Proofs.Ytfaiplbogchgjaa.PA
end
section
namespace Go.Proofs.Ytfaiplbogchgjaa.PA
set_option linter.unusedSimpArgs false
set_option linter.unusedVariables false
open Go.RowKit Go.Proofs.YtfaiplbogchgjaaW.PrintWords Go.Proofs.YtfaiplbogchgjaaW.PrintLast
theorem rhas_any (A : Option Addr) (c : Nat) (l : List ByteArray) (nm : ByteArray) (W : World) (hr : Kd.C Kd.string W A l.length l) (hc : l.length ≤ c) (hl : l.length ≤ 1000000) :
    Calls Try.prog 22 #[.slice A l.length c, .string nm] W fun e W' => e = .returned (.bool (hasN l nm)) ∧ Below W.heap.size W W' := by
  obtain ⟨k, hk⟩ := (evHas l nm hl).rounds
  exact (phalaroperef07_Has.calls k A c l nm _ W hr hc hk).mono fun e W' h => by
    first
      | exact h
      | (obtain ⟨h1, h2⟩ := h; exact ⟨h1, by first | exact h2 | (obtain ⟨n, rfl⟩ := h2; exact pw_below_drewN (Below.refl _ _) n)⟩)
def onceN (xs : List ByteArray) : Bool := decide xs.Nodup
theorem onceN_snoc (xs : List ByteArray) (x : ByteArray) : onceN (xs ++ [x]) = (onceN xs && !hasN xs x) := by
  unfold onceN
  rw [Bool.eq_iff_iff, decide_eq_true_iff, Bool.and_eq_true, decide_eq_true_iff, List.nodup_append]
  have hh := hasN_iff xs x
  constructor
  · rintro ⟨h1, _, h3⟩
    refine ⟨h1, ?_⟩
    cases hx : hasN xs x with
    | false => rfl
    | true => exact absurd rfl (h3 x (hh.1 hx) x (by simp))
  · rintro ⟨h1, h2⟩
    refine ⟨h1, by simp, fun a ha b hb => ?_⟩
    rw [List.mem_singleton] at hb
    subst hb
    rintro rfl
    rw [hh.2 ha] at h2
    cases h2
def namesA (l : List S38) : List ByteArray := l.map fun x => x.f0
theorem find_perm {α : Type} {l m : List α} (p : α → Bool) (hp : l.Perm m) (hu : ∀ x ∈ l, ∀ y ∈ l, p x = true → p y = true → x = y) : l.find? p = m.find? p := by
  cases h : l.find? p with
  | none =>
    rw [List.find?_eq_none] at h
    exact (List.find?_eq_none.2 fun x hx => h x (hp.mem_iff.2 hx)).symm
  | some x =>
    have hx := List.mem_of_find?_eq_some h
    have px := List.find?_some h
    cases h' : m.find? p with
    | none => exact absurd px (List.find?_eq_none.1 h' x (hp.mem_iff.1 hx))
    | some y => rw [hu x hx y (hp.mem_iff.2 (List.mem_of_find?_eq_some h')) px (List.find?_some h')]
theorem getL_reverse {l : List S38} (h : onceN (namesA l) = true) (nm : List UInt8) : getL l.reverse nm = getL l nm := by
  unfold onceN namesA at h
  rw [decide_eq_true_iff] at h
  have hpw : l.Pairwise fun x y => x.f0 ≠ y.f0 := List.pairwise_map.1 h
  unfold getL
  rw [find_perm _ (List.reverse_perm l).symm fun x hx y hy px py => ?_]
  obtain ⟨i, hi, rfl⟩ := List.getElem_of_mem hx
  obtain ⟨j, hj, rfl⟩ := List.getElem_of_mem hy
  have e : l[i].f0 = l[j].f0 := by
    have a := beq_iff_eq.1 px
    have b := beq_iff_eq.1 py
    exact ByteArray.ext (Array.ext' (a.trans b.symm))
  rcases Nat.lt_trichotomy i j with hlt | rfl | hlt
  · exact absurd e (List.pairwise_iff_getElem.1 hpw i j hi hj hlt)
  · rfl
  · exact absurd e.symm (List.pairwise_iff_getElem.1 hpw j i hj hi hlt)
theorem same_reverse {l : List S38} (h : onceN (namesA l) = true) : sameB l l.reverse = true := by
  unfold sameB
  rw [decide_eq_true_iff]
  exact (canonB_ext (getL_reverse h)).symm
theorem getL_snoc {l : List S38} {b : S38} (h : hasN (namesA l) b.f0 = true) (nm : List UInt8) : getL (l ++ [b]) nm = getL l nm := by
  unfold getL
  rw [List.find?_append]
  cases hf : l.find? (fun x => x.f0.data.toList == nm) with
  | some x => rfl
  | none =>
    have hm := (hasN_iff _ _).1 h
    unfold namesA at hm
    obtain ⟨x, hx, e⟩ := List.mem_map.1 hm
    have hb : (b.f0.data.toList == nm) = false := by
      have := List.find?_eq_none.1 hf x hx
      rw [e] at this
      simpa using this
    rw [List.find?_cons_of_neg (by rw [hb]; decide)]
    rfl
theorem same_snoc {l : List S38} {b : S38} (h : hasN (namesA l) b.f0 = true) : sameB l (l ++ [b]) = true := by
  unfold sameB
  rw [decide_eq_true_iff]
  exact (canonB_ext (getL_snoc h)).symm
def seen {α : Type} (d : Kd α) (w0 : World) : Kd α where
  sz := d.sz
  E := []
  K := fun _ x cs => d.K w0 x cs
  M := fun _ _ _ x cs => d.K w0 x cs
  K_len := fun h => d.K_len h
  K_one := fun h => d.K_one h
  K_below := fun _ h => h
  K_of_M := fun h => h
  M_mono := fun _ h => h
  M_bound := fun h => h
  M_move := fun _ h => h
  M_lower := fun _ h => h
theorem C_seen {α : Type} {d : Kd α} {w0 W : World} {A : Option Addr} {n : Nat} {xs : List α} (h : (seen d w0).C W A n xs) (hb : Below w0.heap.size w0 W) : d.C W A n xs :=
  ReadsRow.imp_ h (Below.refl _ _) (fun _ _ hp => d.K_below hb hp)
theorem C_one {W : World} {b : Nat} {x : S38} {A3 A4 : Option Addr} {c3 c4 : Nat} (l3 : x.f1.f2.length ≤ c3) (g3 : Kd.C Kd.string W A3 x.f1.f2.length x.f1.f2) (l4 : x.f1.f3.length ≤ c4) (g4 : Kd.C k50 W A4 x.f1.f3.length x.f1.f3)
    (h : W.heap[b]? = some (.cells #[.string x.f0, .int .i64 x.f1.f0, .string x.f1.f1, .slice A3 x.f1.f2.length c3, .slice A4 x.f1.f3.length c4] 38 (0, 0))) : Kd.C k38 W (some ⟨b, 0, none⟩) 1 [x] := by
  refine ⟨rfl, by omega, fun _ => ⟨_, rfl, fun j p hj => ?_⟩⟩
  match j, hj with
  | 0, hj =>
    cases hj
    refine ⟨_, rfl, k38_mk W x l3 g3 l4 g4, fun i u hu => ?_⟩
    match i, hu with
    | 0, hu => cases hu; exact blk_cell h 0
    | 1, hu => cases hu; exact blk_cell h 1
    | 2, hu => cases hu; exact blk_cell h 2
    | 3, hu => cases hu; exact blk_cell h 3
    | 4, hu => cases hu; exact blk_cell h 4
def turn.T : Bool × List (List Nat × List Nat) := (true, [([], []), ([], []), ([0, 1], [0, 1]), ([], []), ([3], [3]), ([2, 4, 2], [2, 4]), ([5, 5, 0, 1, 2, 3, 4, 5], [5])])
def turn.B : List Nat := [0, 0, 3, 0, 8, 31, 63]
theorem turn.tab : rtab .any (opsOf Try.f5 16) = turn.T := by kernel_rfl
theorem turn.bits : waitsOk turn.T.2 turn.B = true := by kernel_rfl
def MoreI (w wr : World) (l : List S38) (x : S38) (obj : Obj) (bb : Nat → Bool) (ww : World) (v0 v2 v4 v5 v6 : Value) : Prop :=
  Below wr.heap.size wr ww ∧
  (bb 0 = true → bb 2 = false → (seen k38 w).R 38 ww wr.heap.size (fun _ => True) v0 []) ∧
  (bb 2 = true → bb 5 = false → (seen k38 w).R 38 ww wr.heap.size (fun _ => True) v2 l) ∧
  (bb 4 = true → bb 5 = false → ∃ g, v4 = .slice (some ⟨g, 0, none⟩) 1 1 ∧ ww.heap[g]? = some obj ∧ (bb 0 = true → bb 2 = false → some g ≠ v0.ownBlock) ∧ (bb 2 = true → some g ≠ v2.ownBlock)) ∧
  (bb 5 = true → (seen k38 w).R 38 ww wr.heap.size (fun _ => True) v5 (l ++ [x])) ∧ (bb 6 = true → v6 = v5)
theorem rows_one {w W : World} {g : Nat} {x : S38} {A3 A4 : Option Addr} {c3 c4 : Nat} (hK : k38.K w x [.string x.f0, .int .i64 x.f1.f0, .string x.f1.f1, .slice A3 x.f1.f2.length c3, .slice A4 x.f1.f3.length c4])
    (h : W.heap[g]? = some (.cells #[.string x.f0, .int .i64 x.f1.f0, .string x.f1.f1, .slice A3 x.f1.f2.length c3, .slice A4 x.f1.f3.length c4] 38 (0, 0))) : ReadsRow (k38.K w) 5 W (some ⟨g, 0, none⟩) 1 [x] := by
  refine ⟨rfl, by omega, fun _ => ⟨_, rfl, fun j p hj => ?_⟩⟩
  match j, hj with
  | 0, hj =>
    cases hj
    refine ⟨_, rfl, hK, fun i u hu => ?_⟩
    match i, hu with
    | 0, hu => cases hu; exact blk_cell h 0
    | 1, hu => cases hu; exact blk_cell h 1
    | 2, hu => cases hu; exact blk_cell h 2
    | 3, hu => cases hu; exact blk_cell h 3
    | 4, hu => cases hu; exact blk_cell h 4
theorem R_empty (w W : World) (base : Nat) (hb : base ≤ W.heap.size) : (seen k38 w).R 38 (W.alloc (.cells #[] 38)) base (fun _ => True) (.slice (some ⟨W.heap.size, 0, none⟩) 0 0) [] := by
  have h2 := World.ownsRow_lit (base := base) (e := 38) (size := 5) W #[] 0 hb (by simp [maxLen]) (by simp)
  have h3 : (W.alloc (.cells #[] 38)).ownsRow base 38 5 (.slice (some ⟨W.heap.size, 0, none⟩) 0 0) 0 [] := by simpa using h2
  exact ⟨fun _ _ => trivial, [], h3, Reps.none _ _⟩
end Go.Proofs.Ytfaiplbogchgjaa.PA
end
