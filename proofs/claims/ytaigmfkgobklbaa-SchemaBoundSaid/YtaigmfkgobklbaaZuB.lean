/- The reference's characters (phalaroperef01), as printed, say what Go's decoding says. -/
import Derived.Test.YtaigmfkgobklbaaYu
import Derived.Test.YtaigmfkgobklbaaYh
import Derived.Test.YtaigmfkgobklbaaPBx10
import Derived.Test.YtaigmfkgobklbaaPBx11
import Derived.Test.YtaigmfkgobklbaaPBx12
import Derived.Test.YtaigmfkgobklbaaPBx7
import Derived.Test.YtaigmfkgobklbaaPBx8
import Derived.Test.YtaigmfkgobklbaaPBx9
namespace Go.Proofs.Ytaigmfkgobklbaa.PB
set_option linter.unusedSimpArgs false
set_option linter.unusedVariables false
open Go.RowKit Go.Proofs.YtaigmfkgobklbaaW.PrintWords Go.Proofs.YtaigmfkgobklbaaW.PrintLast Y
theorem w64 (n : Int) (h0 : -9223372036854775808 ≤ n) (h1 : n ≤ 9223372036854775807) : wrap64 n = n := by unfold wrap64; omega
theorem get!_out (s : ByteArray) (i : Nat) (h : ¬ i < s.size) : byteAt s i = 0 := by
  unfold byteAt
  have : s.get! i = default := getElem!_neg s.data i h
  rw [this]; rfl
theorem bt_byteAt (s : ByteArray) (i : Nat) : bt s (i : Int) = (byteAt s i : Int) := by
  unfold bt
  rw [Int.toNat_natCast]
  split
  · rename_i h
    unfold byteAt
    rw [get!_at s i h]; rfl
  · rename_i h
    rw [get!_out s i h]; rfl
def encL (c : Nat) : List Nat := if c < 128 then [c] else if c < 2048 then [192 + c / 64, 128 + c % 64] else if c < 65536 then [224 + c / 4096, 128 + c / 64 % 64, 128 + c % 64] else [240 + c / 262144, 128 + c / 4096 % 64, 128 + c / 64 % 64, 128 + c % 64]
theorem encL_lt (c : Nat) (hc : c ≤ 1114111) : ∀ x ∈ encL c, x < 256 := by
  intro x hx
  unfold encL at hx
  split at hx
  · simp at hx; omega
  split at hx
  · simp at hx; omega
  split at hx
  · simp at hx; omega
  · simp at hx; omega
theorem tdiv64 (c : Nat) (n : Nat) : Int.tdiv (c : Int) (n : Int) = ((c / n : Nat) : Int) := by
  rw [Int.tdiv_eq_ediv_of_nonneg (by omega)]; rfl
theorem tmod64 (c : Nat) (n : Nat) : Int.tmod (c : Int) (n : Int) = ((c % n : Nat) : Int) := by
  rw [Int.tmod_eq_emod_of_nonneg (by omega)]; rfl
theorem tail_l0 (k : Nat) (c : Nat) (hc : c ≤ 1114111) (m i : Nat) (hm : i ≤ m) (h3 : m ≤ 3) (hk : m - i < k) : phalaroperef01_tail.l0 k (c : Int) (m : Int) (i : Int) = some ((128 + c / 64 ^ (m - i) % 64 : Nat) : Int) := by
  induction k generalizing c i with
  | zero => omega
  | succ k ih =>
    simp only [phalaroperef01_tail.l0]
    by_cases h : i < m
    · rw [if_pos (by omega), show (64 : Int) = ((64 : Nat) : Int) from rfl, tdiv64, w64 _ (by omega) (by have : c / 64 ≤ c := Nat.div_le_self _ _; omega),
        show wrap64 ((i : Int) + 1) = ((i + 1 : Nat) : Int) from w64 _ (by omega) (by omega), ih (c / 64) (by have : c / 64 ≤ c := Nat.div_le_self _ _; omega) (i + 1) (by omega) (by omega)]
      congr 3
      rw [Nat.div_div_eq_div_mul, ← Nat.pow_succ', show (m - (i + 1)).succ = m - i from by omega]
    · rw [if_neg (by omega), show (64 : Int) = ((64 : Nat) : Int) from rfl, tmod64, w64 _ (by omega) (by omega), show m - i = 0 from by omega]
      congr 1
      rw [Nat.pow_zero, Nat.div_one]
      omega
theorem tail_f (k c : Nat) (hc : c ≤ 1114111) (m : Nat) (h3 : m ≤ 3) (hk : m < k) : phalaroperef01_tail.f k (c : Int) (m : Int) = some ((128 + c / 64 ^ m % 64 : Nat) : Int) := by
  have := tail_l0 k c hc m 0 (by omega) h3 (by omega)
  simpa [phalaroperef01_tail.f] using this
theorem one_f (k c : Nat) (hc : c ≤ 1114111) (hk : 3 < k) : phalaroperef01_One.f k (c : Int) = some (strOfNums ((encL c).map fun (n : Nat) => (n : Int))) := by
  have t0 := tail_f k c hc 0 (by omega) (by omega)
  have t1 := tail_f k c hc 1 (by omega) (by omega)
  have t2 := tail_f k c hc 2 (by omega) (by omega)
  unfold phalaroperef01_One.f encL
  by_cases h1 : c < 128
  · rw [if_pos (by omega), if_pos h1]
    congr 2
    simp only [List.map_cons, List.map_nil, List.cons.injEq, and_true]
    omega
  rw [if_neg (by omega), if_neg h1]
  by_cases h2 : c < 2048
  · rw [if_pos (by omega), if_pos h2, show (0 : Int) = ((0 : Nat) : Int) from rfl, t0]
    simp only [Option.bind_some]
    congr 2
    rw [show (64 : Int) = ((64 : Nat) : Int) from rfl, tdiv64, w64 ((c / 64 : Nat) : Int) (by omega) (by omega), w64 _ (by omega) (by omega)]
    simp only [List.map_cons, List.map_nil, List.cons.injEq, and_true]
    constructor
    · omega
    · simp
  rw [if_neg (by omega), if_neg h2]
  by_cases h3 : c < 65536
  · rw [if_pos (by omega), if_pos h3, show (0 : Int) = ((0 : Nat) : Int) from rfl, t0, show (1 : Int) = ((1 : Nat) : Int) from rfl, t1]
    simp only [Option.bind_some]
    congr 2
    rw [show (4096 : Int) = ((4096 : Nat) : Int) from rfl, tdiv64, w64 ((c / 4096 : Nat) : Int) (by omega) (by omega), w64 _ (by omega) (by omega)]
    simp only [List.map_cons, List.map_nil, List.cons.injEq, and_true]
    refine ⟨by omega, by simp, by simp⟩
  · rw [if_neg (by omega), if_neg h3, show (0 : Int) = ((0 : Nat) : Int) from rfl, t0, show (1 : Int) = ((1 : Nat) : Int) from rfl, t1, show (2 : Int) = ((2 : Nat) : Int) from rfl, t2]
    simp only [Option.bind_some]
    congr 2
    rw [show (262144 : Int) = ((262144 : Nat) : Int) from rfl, tdiv64, w64 ((c / 262144 : Nat) : Int) (by omega) (by omega), w64 _ (by omega) (by omega)]
    simp only [List.map_cons, List.map_nil, List.cons.injEq, and_true]
    refine ⟨by omega, by simp, by simp, by simp⟩
theorem may_f (c : Int) : phalaroperef01_May.f c = some (mayC c) := by
  unfold phalaroperef01_May.f mayC
  by_cases h0 : 0 ≤ c
  · by_cases h1 : c ≤ 1114111
    · by_cases h2 : c < 55296
      · rw [if_pos h0, if_pos h1, if_pos h2]; simp [h0, h1, h2]
      · rw [if_pos h0, if_pos h1, if_neg h2]; simp [h0, h1, h2]
    · rw [if_pos h0, if_neg h1]; simp [h0, h1]
  · rw [if_neg h0]; simp [h0]
def bytesN (s : ByteArray) (n : Nat) : List Nat := (List.range n).map (byteAt s)
theorem toNat_inj_list {a b : List UInt8} (h : a.map UInt8.toNat = b.map UInt8.toNat) : a = b := by
  induction a generalizing b with
  | nil => cases b with
    | nil => rfl
    | cons y b => simp at h
  | cons x a ih => cases b with
    | nil => simp at h
    | cons y b =>
      simp only [List.map_cons, List.cons.injEq] at h
      rw [UInt8.toNat_inj.1 h.1, ih h.2]
theorem extract_nats (s : ByteArray) (n : Nat) (h : n ≤ s.size) : (s.extract 0 n).toList.map UInt8.toNat = bytesN s n := by
  rw [ByteArray.toList_eq]
  have hs : s.data.size = s.size := rfl
  apply List.ext_getElem
  · simp [ByteArray.data_extract, bytesN]; omega
  · intro i h1 h2
    have hi : i < n := by simpa [bytesN] using h2
    simp only [bytesN, List.getElem_map, List.getElem_range]
    unfold byteAt
    rw [get!_at s i (by omega)]
    simp [ByteArray.data_extract]
theorem same_text (s : ByteArray) (l : List Nat) (hl : ∀ x ∈ l, x < 256) (n : Nat) (h : n ≤ s.size) : ((strOfNums (l.map fun (n : Nat) => (n : Int))).toList = (s.extract 0 n).toList) = (l = bytesN s n) := by
  have e : (strOfNums (l.map fun (n : Nat) => (n : Int))).toList.map UInt8.toNat = l := by
    rw [ByteArray.toList_eq, strOfNums_data, List.map_map, List.map_map]
    conv => rhs; rw [← List.map_id l]
    refine List.map_congr_left fun x hx => ?_
    have := hl x hx
    simp
    omega
  rw [eq_iff_iff]
  constructor
  · intro he; rw [← e, he, extract_nats s n h]
  · intro he; exact toNat_inj_list (by rw [e, extract_nats s n h]; exact he)
/-- Is the character c the first n bytes? -/
def tst (s : ByteArray) (n c : Nat) : Prop := mayC (c : Int) = true ∧ encL c = bytesN s n
instance (s : ByteArray) (n c : Nat) : Decidable (tst s n c) := by unfold tst; infer_instance
theorem mayC_le {c : Nat} (h : mayC (c : Int) = true) : c ≤ 1114111 := by
  unfold mayC at h
  rw [Bool.and_eq_true, Bool.and_eq_true, decide_eq_true_iff, decide_eq_true_iff] at h
  omega
theorem j3_step (s : ByteArray) (k n c : Nat) (hk : 3 < k) (hn : n ≤ s.size) (hn4 : n ≤ 4) : phalaroperef01_First.j3 (k + 1) s (c : Int) (n : Int) = if tst s n c then some ((c : Int), (n : Int)) else phalaroperef01_First.l0 k s (c : Int) ((n + 1 : Nat) : Int) := by
  simp only [phalaroperef01_First.j3]
  rw [may_f]
  simp only [Option.bind_some]
  have hw : wrap64 ((n : Int) + 1) = ((n + 1 : Nat) : Int) := w64 _ (by omega) (by omega)
  by_cases hm : mayC (c : Int) = true
  · rw [if_pos hm, one_f k c (mayC_le hm) hk]
    simp only [Option.bind_some]
    rw [if_pos (by omega), if_pos (by omega), Int.toNat_natCast, hw]
    by_cases ht : encL c = bytesN s n
    · rw [if_pos (by rw [same_text s _ (encL_lt c (mayC_le hm)) n hn]; exact ht), if_pos ⟨hm, ht⟩]
    · rw [if_neg (by rw [same_text s _ (encL_lt c (mayC_le hm)) n hn]; exact ht), if_neg (fun h => ht h.2)]
  · rw [if_neg hm, hw, if_neg (fun h => hm h.1)]
theorem l0_step (s : ByteArray) (k n c : Nat) (hk : 3 < k) (hn2 : 2 ≤ n) (hc : c ≤ 100000000) : phalaroperef01_First.l0 (k + 3) s (c : Int) (n : Int) =
    if n ≤ 4 ∧ n ≤ s.size then (if tst s n (64 * c + byteAt s (n - 1) % 64) then some (((64 * c + byteAt s (n - 1) % 64 : Nat) : Int), (n : Int)) else phalaroperef01_First.l0 k s ((64 * c + byteAt s (n - 1) % 64 : Nat) : Int) ((n + 1 : Nat) : Int)) else some (0, 0) := by
  have hb := byteAt_lt s (n - 1)
  simp only [phalaroperef01_First.l0]
  by_cases h4 : n ≤ 4
  · rw [if_pos (by omega)]
    by_cases hs : n ≤ s.size
    · rw [if_pos ⟨h4, hs⟩]
      simp only [phalaroperef01_First.j1]
      have hw : wrap64 ((n : Int) - 1) = ((n - 1 : Nat) : Int) := by rw [w64 _ (by omega) (by omega)]; omega
      rw [if_pos (decide_eq_true (by omega)), hw, if_pos (by omega), if_pos (by omega), if_neg (by omega), bt_byteAt, w64 (byteAt s (n - 1) : Int) (by omega) (by omega), show (64 : Int) = ((64 : Nat) : Int) from rfl, tmod64, w64 (((64 : Nat) : Int) * (c : Int)) (by omega) (by omega), w64 _ (by omega) (by omega)]
      rw [show (((64 : Nat) : Int) * (c : Int) + ((byteAt s (n - 1) % 64 : Nat) : Int)) = ((64 * c + byteAt s (n - 1) % 64 : Nat) : Int) from by omega]
      exact j3_step s k n _ hk hs h4
    · rw [if_neg (fun h => hs h.2)]
      simp only [phalaroperef01_First.j1]
      rw [if_neg (by rw [decide_eq_true_iff]; omega)]
  · rw [if_neg (by omega), if_neg (fun h => h4 h.1)]
    simp only [phalaroperef01_First.j1]
    rw [if_neg (by decide)]
def lead (b : Nat) : Nat := if b < 192 then b else if b < 224 then b - 192 else if b < 240 then b - 224 else b - 240
theorem l0_first (s : ByteArray) (k : Nat) (hk : 3 < k) : phalaroperef01_First.l0 (k + 4) s 0 1 =
    if 1 ≤ s.size then (if tst s 1 (lead (byteAt s 0)) then some ((lead (byteAt s 0) : Int), 1) else phalaroperef01_First.l0 k s (lead (byteAt s 0) : Int) 2) else some (0, 0) := by
  have hb := byteAt_lt s 0
  simp only [phalaroperef01_First.l0]
  rw [if_pos (by omega)]
  by_cases hs : 1 ≤ s.size
  · rw [if_pos hs]
    simp only [phalaroperef01_First.j1]
    have hw : wrap64 ((1 : Int) - 1) = ((0 : Nat) : Int) := by rw [w64 _ (by omega) (by omega)]; rfl
    have hbt : wrap64 (bt s ((0 : Nat) : Int)) = (byteAt s 0 : Int) := by rw [bt_byteAt, w64 _ (by omega) (by omega)]
    rw [if_pos (decide_eq_true (by omega)), hw, if_pos (by omega), if_pos (by omega), if_pos trivial, hbt]
    have j := fun c => j3_step s k 1 c hk hs (by omega)
    unfold lead
    by_cases h1 : byteAt s 0 < 192
    · rw [if_neg (by omega), if_pos h1]
      simp only [phalaroperef01_First.j2]
      rw [if_neg (by omega), if_neg (by omega)]
      exact j _
    · rw [if_pos (by omega), if_neg h1]
      simp only [phalaroperef01_First.j2]
      by_cases h2 : byteAt s 0 < 224
      · rw [if_neg (by omega), if_neg (by omega), if_pos h2, w64 _ (by omega) (by omega), show ((byteAt s 0 : Int) - 192) = ((byteAt s 0 - 192 : Nat) : Int) from by omega]
        exact j _
      · rw [if_pos (by omega), if_neg h2]
        by_cases h3 : byteAt s 0 < 240
        · rw [if_neg (by omega), if_pos h3, w64 _ (by omega) (by omega), show ((byteAt s 0 : Int) - 224) = ((byteAt s 0 - 224 : Nat) : Int) from by omega]
          exact j _
        · rw [if_pos (by omega), if_neg h3, w64 _ (by omega) (by omega), show ((byteAt s 0 : Int) - 240) = ((byteAt s 0 - 240 : Nat) : Int) from by omega]
          exact j _
  · rw [if_neg hs]
    simp only [phalaroperef01_First.j1]
    rw [if_neg (by rw [decide_eq_true_iff]; omega)]
theorem bytesN_1 (s : ByteArray) : bytesN s 1 = [byteAt s 0] := rfl
theorem bytesN_2 (s : ByteArray) : bytesN s 2 = [byteAt s 0, byteAt s 1] := rfl
theorem bytesN_3 (s : ByteArray) : bytesN s 3 = [byteAt s 0, byteAt s 1, byteAt s 2] := rfl
theorem bytesN_4 (s : ByteArray) : bytesN s 4 = [byteAt s 0, byteAt s 1, byteAt s 2, byteAt s 3] := rfl
theorem mayC_nat (c : Nat) : mayC (c : Int) = true ↔ (c ≤ 1114111 ∧ (c < 55296 ∨ 57343 < c)) := by
  unfold mayC
  rw [Bool.and_eq_true, Bool.and_eq_true, Bool.or_eq_true, decide_eq_true_iff, decide_eq_true_iff, decide_eq_true_iff, decide_eq_true_iff]
  omega
/-- encL's four forms. -/
theorem encL_forms (c : Nat) : (c < 128 ∧ encL c = [c]) ∨ (128 ≤ c ∧ c < 2048 ∧ encL c = [192 + c / 64, 128 + c % 64]) ∨ (2048 ≤ c ∧ c < 65536 ∧ encL c = [224 + c / 4096, 128 + c / 64 % 64, 128 + c % 64]) ∨ (65536 ≤ c ∧ encL c = [240 + c / 262144, 128 + c / 4096 % 64, 128 + c / 64 % 64, 128 + c % 64]) := by
  unfold encL
  by_cases h1 : c < 128
  · exact .inl ⟨h1, if_pos h1⟩
  by_cases h2 : c < 2048
  · exact .inr (.inl ⟨by omega, h2, by rw [if_neg h1, if_pos h2]⟩)
  by_cases h3 : c < 65536
  · exact .inr (.inr (.inl ⟨by omega, h3, by rw [if_neg h1, if_neg h2, if_pos h3]⟩))
  · exact .inr (.inr (.inr ⟨by omega, by rw [if_neg h1, if_neg h2, if_neg h3]⟩))
theorem tst1 (s : ByteArray) (c : Nat) : tst s 1 c ↔ (c < 128 ∧ byteAt s 0 = c) := by
  unfold tst
  rw [mayC_nat, bytesN_1]
  rcases encL_forms c with ⟨h, e⟩ | ⟨h, h', e⟩ | ⟨h, h', e⟩ | ⟨h, e⟩ <;> rw [e] <;> simp only [List.cons.injEq, and_true, reduceCtorEq, and_false, false_iff, List.cons_ne_nil] <;> omega
theorem tst2 (s : ByteArray) (c : Nat) : tst s 2 c ↔ (128 ≤ c ∧ c < 2048 ∧ byteAt s 0 = 192 + c / 64 ∧ byteAt s 1 = 128 + c % 64) := by
  unfold tst
  rw [mayC_nat, bytesN_2]
  rcases encL_forms c with ⟨h, e⟩ | ⟨h, h', e⟩ | ⟨h, h', e⟩ | ⟨h, e⟩ <;> rw [e] <;> simp only [List.cons.injEq, and_true, reduceCtorEq, and_false, false_iff, List.cons_ne_nil] <;> omega
theorem tst3 (s : ByteArray) (c : Nat) : tst s 3 c ↔ (2048 ≤ c ∧ c < 65536 ∧ (c < 55296 ∨ 57343 < c) ∧ byteAt s 0 = 224 + c / 4096 ∧ byteAt s 1 = 128 + c / 64 % 64 ∧ byteAt s 2 = 128 + c % 64) := by
  unfold tst
  rw [mayC_nat, bytesN_3]
  rcases encL_forms c with ⟨h, e⟩ | ⟨h, h', e⟩ | ⟨h, h', e⟩ | ⟨h, e⟩ <;> rw [e] <;> simp only [List.cons.injEq, and_true, reduceCtorEq, and_false, false_iff, List.cons_ne_nil] <;> omega
theorem tst4 (s : ByteArray) (c : Nat) : tst s 4 c ↔ (65536 ≤ c ∧ c ≤ 1114111 ∧ byteAt s 0 = 240 + c / 262144 ∧ byteAt s 1 = 128 + c / 4096 % 64 ∧ byteAt s 2 = 128 + c / 64 % 64 ∧ byteAt s 3 = 128 + c % 64) := by
  unfold tst
  rw [mayC_nat, bytesN_4]
  rcases encL_forms c with ⟨h, e⟩ | ⟨h, h', e⟩ | ⟨h, h', e⟩ | ⟨h, e⟩ <;> rw [e] <;> simp only [List.cons.injEq, and_true, reduceCtorEq, and_false, false_iff, List.cons_ne_nil] <;> omega
/-- What First answers. -/
def firstS (s : ByteArray) : Int × Int := if s.size = 0 ∨ badAt s 0 = true then (0, 0) else (((Utf8.decode s 0).1 : Int), ((Utf8.decode s 0).2 : Int))
theorem lead_le (b : Nat) (h : b < 256) : lead b ≤ 255 := by unfold lead; split <;> (try split) <;> (try split) <;> omega
set_option maxHeartbeats 4000000 in
theorem first_f (s : ByteArray) (k : Nat) (hk : 20 < k) : phalaroperef01_First.f k s = some (firstS s) := by
  have u0 := byteAt_lt s 0
  have u1 := byteAt_lt s 1
  have u2 := byteAt_lt s 2
  have u3 := byteAt_lt s 3
  have hl := lead_le _ u0
  unfold phalaroperef01_First.f
  obtain ⟨k, rfl⟩ : ∃ m, k = m + 9 + 4 := ⟨k - 13, by omega⟩
  rw [l0_first s (k + 9) (by omega)]
  have e2 : ∀ c : Nat, c ≤ 255 → phalaroperef01_First.l0 (k + 9) s (c : Int) 2 = _ := fun c hc => l0_step s (k + 6) 2 c (by omega) (by omega) (by omega)
  have e3 : ∀ c : Nat, c ≤ 20000 → phalaroperef01_First.l0 (k + 6) s (c : Int) ((2 + 1 : Nat) : Int) = _ := fun c hc => l0_step s (k + 3) 3 c (by omega) (by omega) (by omega)
  have e4 : ∀ c : Nat, c ≤ 2000000 → phalaroperef01_First.l0 (k + 3) s (c : Int) ((3 + 1 : Nat) : Int) = _ := fun c hc => l0_step s k 4 c (by omega) (by omega) (by omega)
  have e5 : ∀ c : Nat, phalaroperef01_First.l0 k s (c : Int) ((4 + 1 : Nat) : Int) = some (0, 0) := fun c => by
    obtain ⟨k, rfl⟩ : ∃ m, k = m + 2 := ⟨k - 2, by omega⟩
    simp only [phalaroperef01_First.l0]
    rw [if_neg (by omega)]
    simp only [phalaroperef01_First.j1]
    rw [if_neg (by decide)]
  unfold firstS
  by_cases hs : s.size = 0
  · rw [if_neg (by omega), if_pos (.inl hs)]
  rw [if_pos (by omega), e2 _ hl]
  obtain ⟨c1, hc1⟩ : ∃ c1, c1 = lead (byteAt s 0) := ⟨_, rfl⟩
  rw [← hc1] at hl ⊢
  have hc1' : (byteAt s 0 < 192 ∧ c1 = byteAt s 0) ∨ (192 ≤ byteAt s 0 ∧ byteAt s 0 < 224 ∧ c1 = byteAt s 0 - 192) ∨ (224 ≤ byteAt s 0 ∧ byteAt s 0 < 240 ∧ c1 = byteAt s 0 - 224) ∨ (240 ≤ byteAt s 0 ∧ c1 = byteAt s 0 - 240) := by
    rw [hc1]; unfold lead; split
    · omega
    split
    · omega
    split <;> omega
  clear hc1
  rw [show 2 - 1 = 1 from rfl, e3 _ (by omega), show 3 - 1 = 2 from rfl, e4 _ (by omega), show 4 - 1 = 3 from rfl, e5]
  clear e2 e3 e4 e5
  obtain ⟨c2, hc2⟩ : ∃ c2, c2 = 64 * c1 + byteAt s 1 % 64 := ⟨_, rfl⟩
  rw [← hc2]
  obtain ⟨c3, hc3⟩ : ∃ c3, c3 = 64 * c2 + byteAt s 2 % 64 := ⟨_, rfl⟩
  rw [← hc3]
  obtain ⟨c4, hc4⟩ : ∃ c4, c4 = 64 * c3 + byteAt s 3 % 64 := ⟨_, rfl⟩
  rw [← hc4]
  have bad_no : ∀ c n : Nat, Utf8.decode s 0 = (c, n) → (n ≠ 1 ∨ c ≠ 65533) → ¬ (s.size = 0 ∨ badAt s 0 = true) := by
    intro c n e h h'
    rcases h' with h' | h'
    · exact hs h'
    · unfold badAt at h'
      rw [e, Bool.and_eq_true, beq_iff_eq, beq_iff_eq] at h'
      rcases h with h | h
      · exact h h'.2
      · exact h h'.1
  have ha := decode_arms s 0
  rw [show 0 + 1 = 1 from rfl, show 0 + 2 = 2 from rfl, show 0 + 3 = 3 from rfl] at ha
  rcases ha with ⟨h0, e⟩ | ⟨c, h0, h1, h2, h3, h4, e⟩ | ⟨c, h0, h1, h2, h3, h4, h5, h6, e⟩ | ⟨c, h0, h1, h2, h3, h4, h5, h6, h7, e⟩ | ⟨e, g0, g2, g3, g4⟩
  · rw [if_pos ((tst1 s c1).2 (by omega)), if_neg (bad_no _ _ e (.inr (by omega))), e]
    have : c1 = byteAt s 0 := by omega
    rw [this]; rfl
  · have q : c2 = c := by omega
    rw [if_neg (fun h => by have := (tst1 s c1).1 h; omega), if_pos (by omega), if_pos ((tst2 s c2).2 (by omega)), if_neg (bad_no _ _ e (.inl (by omega))), e, q]
    try rfl
  · have q : c3 = c := by omega
    rw [if_neg (fun h => by have := (tst1 s c1).1 h; omega), if_pos (by omega), if_neg (fun h => by have := (tst2 s c2).1 h; omega), if_pos (by omega), if_pos ((tst3 s c3).2 (by omega)), if_neg (bad_no _ _ e (.inl (by omega))), e, q]
    try rfl
  · have q : c4 = c := by omega
    rw [if_neg (fun h => by have := (tst1 s c1).1 h; omega), if_pos (by omega), if_neg (fun h => by have := (tst2 s c2).1 h; omega), if_pos (by omega), if_neg (fun h => by have := (tst3 s c3).1 h; omega), if_pos (by omega), if_pos ((tst4 s c4).2 (by omega)), if_neg (bad_no _ _ e (.inl (by omega))), e, q]
    try rfl
  · have hb : badAt s 0 = true := by unfold badAt; rw [e]; rfl
    rw [if_pos (show s.size = 0 ∨ badAt s 0 = true from .inr hb), if_neg (show ¬ tst s 1 c1 from fun h => by have := (tst1 s c1).1 h; omega)]
    by_cases s2 : 2 ≤ 4 ∧ 2 ≤ s.size
    · rw [if_pos s2, if_neg (fun h => by have := (tst2 s c2).1 h; clear g3 g4 h hc3 hc4; omega)]
      by_cases s3 : 3 ≤ 4 ∧ 3 ≤ s.size
      · rw [if_pos s3, if_neg (fun h => by have := (tst3 s c3).1 h; clear g2 g4 h hc4; omega)]
        by_cases s4 : 4 ≤ 4 ∧ 4 ≤ s.size
        · rw [if_pos s4, if_neg (fun h => by have := (tst4 s c4).1 h; clear g2 g3 h; omega)]
        · rw [if_neg s4]
      · rw [if_neg s3]
    · rw [if_neg s2]
theorem extract_size (s : ByteArray) (p : Nat) : (s.extract p s.size).size = s.size - p := by
  have hs : s.data.size = s.size := rfl
  show (s.extract p s.size).data.size = _
  rw [ByteArray.data_extract, Array.size_extract]
  omega
theorem extract_byteAt (s : ByteArray) (p i : Nat) : byteAt (s.extract p s.size) i = byteAt s (p + i) := by
  by_cases h : p + i < s.size
  · have h1 : i < (s.extract p s.size).size := by rw [extract_size]; omega
    unfold byteAt
    rw [get!_at _ _ h1, get!_at _ _ h]
    congr 1
    simp [ByteArray.data_extract]
  · rw [get!_out _ _ h, get!_out _ _ (by rw [extract_size]; omega)]
theorem decode_extract (s : ByteArray) (p : Nat) : Utf8.decode (s.extract p s.size) 0 = Utf8.decode s p := by
  have b := fun i => extract_byteAt s p i
  have hz : ∀ i, decide (0 + i < (s.extract p s.size).size) = decide (p + i < s.size) := fun i => by rw [extract_size]; exact decide_eq_decide.2 (by omega)
  unfold byteAt at b
  unfold Utf8.decode
  simp only [hz]
  simp only [Nat.zero_add, b, Nat.add_zero]
theorem badAt_extract (s : ByteArray) (p : Nat) : badAt (s.extract p s.size) 0 = badAt s p := by unfold badAt; rw [decode_extract]
theorem begin_l0 (s : ByteArray) (hs : s.size ≤ 1000000) (f : Nat) : ∀ (k p : Nat) (acc : List Int), s.size ≤ p + f → p ≤ s.size → acc.length ≤ p → f + 25 < k →
    phalaroperef01_Begin.l0 k s acc (p : Int) = some (acc ++ (charsFrom s f p).1, ((charsFrom s f p).2 : Int)) := by
  induction f with
  | zero =>
    intro k p acc h1 h2 h3 hk
    obtain ⟨k, rfl⟩ : ∃ m, k = m + 1 := ⟨k - 1, by omega⟩
    simp only [phalaroperef01_Begin.l0, charsFrom]
    rw [if_neg (by omega), List.append_nil]
  | succ f ih =>
    intro k p acc h1 h2 h3 hk
    obtain ⟨k, rfl⟩ : ∃ m, k = m + 1 := ⟨k - 1, by omega⟩
    simp only [phalaroperef01_Begin.l0]
    by_cases hp : p < s.size
    · rw [if_pos (by omega), if_pos (by omega), if_pos (by omega), Int.toNat_natCast, first_f _ k (by omega)]
      have hF : firstS (s.extract p s.size) = if badAt s p = true then (0, 0) else (((Utf8.decode s p).1 : Int), ((Utf8.decode s p).2 : Int)) := by
        unfold firstS
        rw [extract_size, badAt_extract, decode_extract]
        by_cases hb : badAt s p = true
        · rw [if_pos (.inr hb), if_pos hb]
        · rw [if_neg (fun h => by rcases h with h | h; (· omega); exact hb h), if_neg hb]
      rw [hF]
      by_cases hb : badAt s p = true
      · rw [if_pos hb]
        simp only [Option.bind_some]
        rw [if_pos trivial, charsFrom_bad s _ p hb, List.append_nil]
      · have hb' : badAt s p = false := by simpa using hb
        have hd := decode_in s p hp
        have hd2 := decode_pos s p
        rw [if_neg hb]
        simp only [Option.bind_some]
        rw [if_neg (by omega), if_pos (by omega)]
        rw [show wrap64 ((p : Int) + ((Utf8.decode s p).2 : Int)) = ((p + (Utf8.decode s p).2 : Nat) : Int) from w64 _ (by omega) (by omega),
          ih k _ _ (by omega) hd (by rw [List.length_append, List.length_singleton]; omega) (by omega), charsFrom_go s f p hp hb', List.append_assoc]
        rfl
    · rw [if_neg (by omega), charsFrom_end s _ p hp, List.append_nil]
theorem begin_f (s : ByteArray) (hs : s.size ≤ 1000000) (k : Nat) (hk : s.size + 25 < k) : phalaroperef01_Begin.f k s = some (chars s, (badPos s : Int)) := by
  have := begin_l0 s hs s.size k 0 [] (by omega) (by omega) (by simp) hk
  rw [List.nil_append] at this
  exact this
theorem charsFrom_le (s : ByteArray) (f : Nat) : ∀ p, p ≤ s.size → (charsFrom s f p).2 ≤ s.size := by
  induction f with
  | zero => intro p h; exact h
  | succ f ih =>
    intro p h
    simp only [charsFrom]
    split
    · rename_i hp
      split
      · exact h
      · exact ih _ (decode_in s p hp)
    · exact h
theorem badPos_le (s : ByteArray) : badPos s ≤ s.size := charsFrom_le s s.size 0 (by omega)
theorem validS_iff (s : ByteArray) : validS s = true ↔ badPos s = s.size := by
  unfold validS; rw [decide_eq_true_iff]; have := badPos_le s; omega
theorem chars_f (s : ByteArray) (hs : s.size ≤ 1000000) (k : Nat) (hk : s.size + 25 < k) : phalaroperef01_Chars.f k s = some (charsOr s, validS s) := by
  unfold phalaroperef01_Chars.f
  rw [begin_f s hs k hk]
  simp only [Option.bind_some]
  cases hv : validS s with
  | true => rw [if_pos (by rw [(validS_iff s).1 hv]), charsOr_yes hv]
  | false =>
    rw [if_neg (fun h => by have := (validS_iff s).2 (by omega); rw [hv] at this; cases this), charsOr_no hv]
end Go.Proofs.Ytaigmfkgobklbaa.PB
