/- SchemaIn, SchemaWider: what the printed laws come to. -/
import Derived.Test.YtaigmfkgobklbaaZs
namespace Go.Proofs.Ytaigmfkgobklbaa.PA
set_option linter.unusedSimpArgs false
set_option linter.unusedVariables false
open Go.RowKit Go.Proofs.YtaigmfkgobklbaaW.PrintWords Go.Proofs.YtaigmfkgobklbaaW.PrintLast Y
/-- What 'few' says of a value, as it bears on us. -/
def FewV (s : ByteArray) (l : List ByteArray) (p : List S44) : Prop :=
  s.size ≤ 200 ∧ l.length ≤ 30 ∧ p.length ≤ 30 ∧ (∀ x ∈ l, x.size ≤ 200) ∧ ∀ x ∈ p, x.f0.size ≤ 200 ∧ x.f1.size ≤ 200
theorem FewV.modest {s : ByteArray} {l : List ByteArray} {p : List S44} (h : FewV s l p) : modest s l p := by
  obtain ⟨h0, h1, h2, h3, h4⟩ := h
  exact ⟨by omega, by omega, by omega, fun x hx => by have := h3 x hx; omega, fun x hx => by have := h4 x hx; omega⟩
section
variable (vk : Int) (s : ByteArray) (l : List ByteArray) (p : List S44)
/-- From pair i on: the rest is small. -/
theorem few_l1 (d : Nat) : ∀ (k i : Nat), i + d = 31 → 2 * d + 3 < k → (∀ j (hj : j < p.length), j < i → p[j].f0.size ≤ 200 ∧ p[j].f1.size ≤ 200) →
    ∃ b, phalaroperef08_Few.l1 k (i : Int) vk s l p = some b ∧ (b = true → s.size ≤ 200 ∧ l.length ≤ 30 ∧ p.length ≤ 30 ∧ ∀ x ∈ p, x.f0.size ≤ 200 ∧ x.f1.size ≤ 200) := by
  induction d with
  | zero =>
    intro k i hi hk hj
    obtain ⟨k, rfl⟩ : ∃ m, k = m + 2 := ⟨k - 2, by omega⟩
    simp only [phalaroperef08_Few.l1, phalaroperef08_Few.j3]
    have hne : ¬ ((i : Int) < 31) := by omega
    rw [decide_eq_false hne]
    have : ∀ {α : Type} (c : Prop) [Decidable c] (x : α), (if c then x else x) = x := fun c _ x => by split <;> rfl
    simp only [Bool.false_eq_true, if_false, this]
    by_cases h1 : (s.size : Int) ≤ 200
    · by_cases h2 : (l.length : Int) ≤ 30
      · refine ⟨decide ((p.length : Int) ≤ 30), by rw [if_pos h1, if_pos h2], fun h => ?_⟩
        rw [decide_eq_true_iff] at h
        refine ⟨by omega, by omega, by omega, fun x hx => ?_⟩
        obtain ⟨j, hjl, rfl⟩ := List.mem_iff_getElem.1 hx
        exact hj j hjl (by omega)
      · exact ⟨false, by rw [if_pos h1, if_neg h2], fun h => by cases h⟩
    · exact ⟨false, by rw [if_neg h1], fun h => by cases h⟩
  | succ d ih =>
    intro k i hi hk hj
    obtain ⟨k, rfl⟩ : ∃ m, k = m + 2 := ⟨k - 2, by omega⟩
    simp only [phalaroperef08_Few.l1, phalaroperef08_Few.j3]
    have hlt : ((i : Int) < 31) := by omega
    rw [decide_eq_true hlt]
    by_cases hp : (i : Int) < (p.length : Int)
    · have hp' : i < p.length := by omega
      rw [if_pos hp, if_pos rfl, if_pos (by omega), if_pos hp, rd_at p i hp']
      by_cases h1 : ((p[i].f0).size : Int) > 200
      · exact ⟨false, by rw [if_pos h1], fun h => by cases h⟩
      by_cases h2 : ((p[i].f1).size : Int) > 200
      · exact ⟨false, by rw [if_neg h1, if_pos h2], fun h => by cases h⟩
      rw [if_neg h1, if_neg h2, w1 i (by omega)]
      exact ih k (i + 1) (by omega) (by omega) (fun j hjl hji => by
        rcases Nat.lt_or_ge j i with h | h
        · exact hj j hjl h
        · obtain rfl : j = i := by omega
          exact ⟨by omega, by omega⟩)
    · rw [if_neg hp]
      simp only [Bool.false_eq_true, if_false]
      by_cases h1 : (s.size : Int) ≤ 200
      · by_cases h2 : (l.length : Int) ≤ 30
        · refine ⟨decide ((p.length : Int) ≤ 30), by rw [if_pos h1, if_pos h2], fun h => ?_⟩
          rw [decide_eq_true_iff] at h
          refine ⟨by omega, by omega, by omega, fun x hx => ?_⟩
          obtain ⟨j, hjl, rfl⟩ := List.mem_iff_getElem.1 hx
          exact hj j hjl (by omega)
        · exact ⟨false, by rw [if_pos h1, if_neg h2], fun h => by cases h⟩
      · exact ⟨false, by rw [if_neg h1], fun h => by cases h⟩
theorem few_l0 (d : Nat) : ∀ (k i : Nat), i + d = 31 → 2 * d + 80 < k → (∀ j (hj : j < l.length), j < i → l[j].size ≤ 200) →
    ∃ b, phalaroperef08_Few.l0 k (i : Int) vk s l p = some b ∧ (b = true → FewV s l p) := by
  induction d with
  | zero =>
    intro k i hi hk hj
    obtain ⟨k, rfl⟩ : ∃ m, k = m + 2 := ⟨k - 2, by omega⟩
    simp only [phalaroperef08_Few.l0, phalaroperef08_Few.j1]
    have hne : ¬ ((i : Int) < 31) := by omega
    rw [decide_eq_false hne]
    have : ∀ {α : Type} (c : Prop) [Decidable c] (x : α), (if c then x else x) = x := fun c _ x => by split <;> rfl
    simp only [Bool.false_eq_true, if_false, this]
    obtain ⟨b, e, hb⟩ := few_l1 vk s l p 31 k 0 (by omega) (by omega) (fun j _ h => by omega)
    refine ⟨b, e, fun h => ?_⟩
    obtain ⟨h0, h1, h2, h3⟩ := hb h
    refine ⟨h0, h1, h2, fun x hx => ?_, h3⟩
    obtain ⟨j, hjl, rfl⟩ := List.mem_iff_getElem.1 hx
    exact hj j hjl (by omega)
  | succ d ih =>
    intro k i hi hk hj
    obtain ⟨k, rfl⟩ : ∃ m, k = m + 2 := ⟨k - 2, by omega⟩
    simp only [phalaroperef08_Few.l0, phalaroperef08_Few.j1]
    have hlt : ((i : Int) < 31) := by omega
    rw [decide_eq_true hlt]
    by_cases hp : (i : Int) < (l.length : Int)
    · have hp' : i < l.length := by omega
      rw [if_pos hp, if_pos rfl, if_pos (by omega), if_pos hp, rdOf_at l i hp']
      by_cases h1 : ((l[i]).size : Int) > 200
      · exact ⟨false, by rw [if_pos h1], fun h => by cases h⟩
      rw [if_neg h1, w1 i (by omega)]
      exact ih k (i + 1) (by omega) (by omega) (fun j hjl hji => by
        rcases Nat.lt_or_ge j i with h | h
        · exact hj j hjl h
        · obtain rfl : j = i := by omega
          omega)
    · rw [if_neg hp]
      simp only [Bool.false_eq_true, if_false]
      obtain ⟨b, e, hb⟩ := few_l1 vk s l p 31 k 0 (by omega) (by omega) (fun j _ h => by omega)
      refine ⟨b, e, fun h => ?_⟩
      obtain ⟨h0, h1, h2, h3⟩ := hb h
      refine ⟨h0, h1, h2, fun x hx => ?_, h3⟩
      obtain ⟨j, hjl, rfl⟩ := List.mem_iff_getElem.1 hx
      exact hj j hjl (by omega)
theorem few_f (k : Nat) (hk : 200 < k) : ∃ b, phalaroperef08_Few.f k vk s l p = some b ∧ (b = true → FewV s l p) :=
  few_l0 vk s l p 31 k 0 (by omega) (by omega) (fun j _ h => by omega)
end
theorem in_f (nm : ByteArray) (kd : Int) (nd : Bool) (cl mx vk : Int) (s : ByteArray) (l : List ByteArray) (p : List S44) (hm : modest s l p) : schema_In.f nm kd nd cl mx vk s l p = some (inV kd cl mx vk s l p) := if_pos hm
theorem SchemaIn_pure (nm : ByteArray) (kd : Int) (nd : Bool) (cl mx vk : Int) (s : ByteArray) (l : List ByteArray) (p : List S44) :
    ∃ k, phalaropelaw14_SchemaIn.f k nm kd nd cl mx vk s l p = some true := by
  obtain ⟨K, hK⟩ : ∃ K, K = fu 1000000 + 5000001 := ⟨_, rfl⟩
  refine ⟨K, ?_⟩
  unfold phalaropelaw14_SchemaIn.f phalaropelaw14_awake.f
  obtain ⟨b, e, hb⟩ := few_f vk s l p K (by omega)
  rw [e]
  simp only [Option.bind_some]
  cases b with
  | false => rfl
  | true =>
    have hm := (hb rfl).modest
    rw [if_pos rfl, if_pos trivial, in_f nm kd nd cl mx vk s l p hm, rin_f K nm kd nd cl mx vk s l p hm (by omega)]
    simp
theorem hasC_mono (c : Int) (g : Int) (h1 : 1 ≤ g) (h4 : g < 4) (h : hasC g c = true) : hasC (g + 1) c = true := by
  rcases (by omega : g = 1 ∨ g = 2 ∨ g = 3) with rfl | rfl | rfl
  · have h : isDigit c = true := h
    show isWord c = true
    unfold isWord; rw [h]; simp
  · have h : isWord c = true := h
    show (mayC c && !(c == 37)) = true
    have := may_of_word h
    rw [this.1]
    unfold isWord isAlpha isDigit at h
    simp only [Bool.or_eq_true, Bool.and_eq_true, decide_eq_true_eq, beq_iff_eq] at h
    rw [show (c == 37) = false from beq_eq_false_iff_ne.2 (by omega)]; rfl
  · have h : (mayC c && !(c == 37)) = true := h
    show (mayC c && (4 : Int) == 4) = true
    rw [Bool.and_eq_true] at h
    rw [h.1]; rfl
theorem hasC_any (c g : Int) (h : hasC g c = true) : hasC 4 c = true := by
  by_cases h1 : g = 1
  · subst h1; exact hasC_mono c 3 (by omega) (by omega) (hasC_mono c 2 (by omega) (by omega) (hasC_mono c 1 (by omega) (by omega) h))
  by_cases h2 : g = 2
  · subst h2; exact hasC_mono c 3 (by omega) (by omega) (hasC_mono c 2 (by omega) (by omega) h)
  by_cases h3 : g = 3
  · subst h3; exact hasC_mono c 3 (by omega) (by omega) h
  · unfold hasC at h
    rw [if_neg h1, if_neg h2, if_neg h3, Bool.and_eq_true] at h
    show (mayC c && (4 : Int) == 4) = true
    rw [h.1]; rfl
theorem fits_wide (cl mx : Int) (t : ByteArray) (h : X.fitsS cl mx t = true) : X.fitsS 4 mx t = true ∧ X.fitsS cl 0 t = true := by
  unfold X.fitsS at h ⊢
  rw [Bool.and_eq_true, Bool.and_eq_true] at h
  obtain ⟨h1, h2, h3⟩ := h
  refine ⟨?_, ?_⟩
  · rw [h1, h2, Bool.true_and, Bool.true_and, List.not_any_eq_all_not, List.all_eq_true]
    rw [List.not_any_eq_all_not, List.all_eq_true] at h3
    intro x hx
    have := h3 x hx
    rw [Bool.not_not] at this ⊢
    exact hasC_any x cl this
  · rw [h1, h3]; rfl
theorem in_wide (kd cl mx vk : Int) (s : ByteArray) (l : List ByteArray) (p : List S44) (h : inV kd cl mx vk s l p = true) : inV kd 4 mx vk s l p = true ∧ inV kd cl 0 vk s l p = true := by
  unfold inV at h ⊢
  rw [Bool.and_eq_true] at h
  obtain ⟨h1, h2⟩ := h
  rw [h1, Bool.true_and, Bool.true_and]
  rw [List.not_any_eq_all_not, List.all_eq_true] at h2
  constructor
  · rw [List.not_any_eq_all_not, List.all_eq_true]
    intro x hx
    have := h2 x hx
    rw [Bool.not_not] at this ⊢
    exact (fits_wide cl mx x this).1
  · rw [List.not_any_eq_all_not, List.all_eq_true]
    intro x hx
    have := h2 x hx
    rw [Bool.not_not] at this ⊢
    exact (fits_wide cl mx x this).2
theorem SchemaWider_pure (nm : ByteArray) (kd : Int) (nd : Bool) (cl mx vk : Int) (s : ByteArray) (l : List ByteArray) (p : List S44) (c : Int) :
    ∃ k, phalaropelaw14_SchemaWider.f k nm kd nd cl mx vk s l p c = some true := by
  refine ⟨1000, ?_⟩
  unfold phalaropelaw14_SchemaWider.f phalaropelaw14_awake.f
  obtain ⟨b, e, hb⟩ := few_f vk s l p 1000 (by omega)
  rw [e]
  simp only [Option.bind_some]
  cases b with
  | false => rfl
  | true =>
    have hm := (hb rfl).modest
    rw [if_pos rfl]
    have hf := fun g m => in_f nm kd nd g m vk s l p hm
    have last : ∀ k, phalaropelaw14_SchemaWider.l0 (k + 1) c true 4 nm kd nd cl mx vk s l p = some true := fun k => by
      simp only [phalaropelaw14_SchemaWider.l0]
      rw [if_neg (by omega), hf, hf, hf]
      simp only [Option.bind_some, if_true]
      cases hi : inV kd cl mx vk s l p with
      | false => rfl
      | true => obtain ⟨h1, h2⟩ := in_wide kd cl mx vk s l p hi; simp [h1, h2]
    have step : ∀ (g : Nat) (k : Nat) , 1 ≤ g → g < 4 → phalaropelaw14_SchemaWider.l0 (k + 1) c true (g : Int) nm kd nd cl mx vk s l p = phalaropelaw14_SchemaWider.l0 k c true ((g + 1 : Nat) : Int) nm kd nd cl mx vk s l p := fun g k h1 h4 => by
      simp only [phalaropelaw14_SchemaWider.l0, schema_Has.f]
      rw [if_pos (by omega), w1 g (by omega)]
      simp only [Option.bind_some]
      cases hh : hasC (g : Int) c with
      | false => rfl
      | true =>
        have := hasC_mono c (g : Int) (by omega) (by omega) hh
        rw [show (((g + 1 : Nat) : Int)) = (g : Int) + 1 from by omega, this]; simp
    have s1 := step 1 999 (by omega) (by omega)
    have s2 := step 2 998 (by omega) (by omega)
    have s3 := step 3 997 (by omega) (by omega)
    exact s1.trans (s2.trans (s3.trans (last 996)))
theorem SchemaIn_walk {nm : ByteArray} {kd : Int} {nd : Bool} {cl mx vk : Int} {s : ByteArray} {A0 : Option Addr} {l : List ByteArray} {c0 : Nat} {A1 : Option Addr} {p : List S44} {c1 : Nat} (w : World) (h0 : Kd.C Kd.string w A0 l.length l) (h1 : l.length ≤ c0) (h2 : Kd.C k44 w A1 p.length p) (h3 : p.length ≤ c1) :
    Calls Try.prog 3 #[.agg #[.string nm, .int .i64 kd, .bool nd, .int .i64 cl, .int .i64 mx], .agg #[.int .i64 vk, .string s, .slice A0 l.length c0, .slice A1 p.length c1]] w fun e w' => e = .returned (.bool true) ∧ Below w.heap.size w w' := by
  obtain ⟨K, hK⟩ := SchemaIn_pure nm kd nd cl mx vk s l p
  exact phalaropelaw14_SchemaIn.calls K nm kd nd cl mx vk s A0 c0 l A1 c1 p true w h0 h1 h2 h3 hK
theorem SchemaWider_walk {nm : ByteArray} {kd : Int} {nd : Bool} {cl mx vk : Int} {s : ByteArray} {A0 : Option Addr} {l : List ByteArray} {c0 : Nat} {A1 : Option Addr} {p : List S44} {c1 : Nat} (c : Int) (w : World) (h0 : Kd.C Kd.string w A0 l.length l) (h1 : l.length ≤ c0) (h2 : Kd.C k44 w A1 p.length p) (h3 : p.length ≤ c1) :
    Calls Try.prog 4 #[.agg #[.string nm, .int .i64 kd, .bool nd, .int .i64 cl, .int .i64 mx], .agg #[.int .i64 vk, .string s, .slice A0 l.length c0, .slice A1 p.length c1], .int .i64 c] w fun e w' => e = .returned (.bool true) ∧ Below w.heap.size w w' := by
  obtain ⟨K, hK⟩ := SchemaWider_pure nm kd nd cl mx vk s l p c
  exact phalaropelaw14_SchemaWider.calls K nm kd nd cl mx vk s A0 c0 l A1 c1 p c true w h0 h1 h2 h3 hK
end Go.Proofs.Ytaigmfkgobklbaa.PA
