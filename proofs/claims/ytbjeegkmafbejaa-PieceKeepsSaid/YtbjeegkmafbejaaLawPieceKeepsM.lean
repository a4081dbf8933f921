/- Small words over a print, and the reference's classes of characters as printed. The reference's characters (phalaroperef01), as printed, say what Go's decoding says. The reference's values (phalaroperef08), as printed, say what our plain words say (the first part of Zs). PieceKeeps: the law. The law PieceKeeps, as a statement over the printed functions. -/
import Derived.Test.YtbjeegkmafbejaaYu
import Derived.Test.YtbjeegkmafbejaaYh
import Derived.Test.YtbjeegkmafbejaaYn
import Derived.Test.YtbjeegkmafbejaaPKx0
import Derived.Test.YtbjeegkmafbejaaPKx4
import Derived.Test.YtbjeegkmafbejaaPKx5
import Derived.Test.YtbjeegkmafbejaaPKx6
import Derived.Test.YtbjeegkmafbejaaPKx1
import Derived.Test.YtbjeegkmafbejaaPKx3
import Derived.Test.YtbjeegkmafbejaaPKx7
import Derived.Test.YtbjeegkmafbejaaRows
import Derived.WalkKit
import Derived.ProofKit
import Derived.OpenShut
import Derived.ShutString
import Derived.ChangeOld
import Derived.Below
import Derived.SizedLaws
namespace Go.Proofs.Ytbjeegkmafbejaa.PK
set_option linter.unusedSimpArgs false
set_option linter.unusedVariables false
open Go.RowKit Go.Proofs.YtbjeegkmafbejaaW.PrintWords Go.Proofs.YtbjeegkmafbejaaW.PrintLast Y
theorem w64 (n : Int) (h0 : -9223372036854775808 ≤ n) (h1 : n ≤ 9223372036854775807) : wrap64 n = n := by unfold wrap64; omega
theorem get!_out (s : ByteArray) (i : Nat) (h : ¬ i < s.size) : byteAt s i = 0 := by
  unfold byteAt
  have : s.get! i = default := getElem!_neg s.data i h
  rw [this]; rfl
theorem bt_byteAt (s : ByteArray) (i : Nat) : bt s (i : Int) = (byteAt s i : Int) := by
  unfold bt
  rw [Int.toNat_natCast]
  split
  · rename_i h
    unfold byteAt
    rw [get!_at s i h]; rfl
  · rename_i h
    rw [get!_out s i h]; rfl
theorem tdiv64 (c : Nat) (n : Nat) : Int.tdiv (c : Int) (n : Int) = ((c / n : Nat) : Int) := by
  rw [Int.tdiv_eq_ediv_of_nonneg (by omega)]; rfl
theorem tmod64 (c : Nat) (n : Nat) : Int.tmod (c : Int) (n : Int) = ((c % n : Nat) : Int) := by
  rw [Int.tmod_eq_emod_of_nonneg (by omega)]; rfl
theorem rdOf_at (xs : List ByteArray) (k : Nat) (h : k < xs.length) : rdOf ByteArray.empty xs (k : Int) = xs[k] := by
  unfold rdOf; rw [Int.toNat_natCast, List.getD_eq_getElem?_getD, List.getElem?_eq_getElem h]; rfl
theorem rd_int (xs : List Int) (k : Nat) (h : k < xs.length) : rd xs (k : Int) = xs[k] := by
  unfold rd; rw [Int.toNat_natCast, List.getD_eq_getElem?_getD, List.getElem?_eq_getElem h]; rfl
theorem w1 (i : Nat) (h : i < 1000000000) : wrap64 ((i : Int) + 1) = ((i + 1 : Nat) : Int) := w64 _ (by omega) (by omega)
theorem may_of_digit {c : Int} (h : isDigit c = true) : mayC c = true ∧ 0 ≤ c ∧ c < 256 := by
  unfold isDigit at h
  rw [Bool.and_eq_true, decide_eq_true_iff, decide_eq_true_iff] at h
  refine ⟨?_, by omega, by omega⟩
  unfold mayC
  rw [Bool.and_eq_true, Bool.and_eq_true, Bool.or_eq_true, decide_eq_true_iff, decide_eq_true_iff, decide_eq_true_iff]
  omega
theorem may_of_word {c : Int} (h : isWord c = true) : mayC c = true ∧ 0 ≤ c ∧ c < 256 := by
  unfold isWord isAlpha isDigit at h
  simp only [Bool.or_eq_true, Bool.and_eq_true, decide_eq_true_eq, beq_iff_eq] at h
  refine ⟨?_, by omega, by omega⟩
  unfold mayC
  rw [Bool.and_eq_true, Bool.and_eq_true, Bool.or_eq_true, decide_eq_true_iff, decide_eq_true_iff, decide_eq_true_iff]
  omega
theorem may_pos {c : Int} (h : mayC c = true) : 0 ≤ c := by
  unfold mayC at h
  rw [Bool.and_eq_true, Bool.and_eq_true, decide_eq_true_iff] at h
  exact h.1.1
theorem nil_of_size {s : ByteArray} (h : s.size = 0) : s.toList = [] := by
  rw [ByteArray.toList_eq]
  exact List.eq_nil_of_length_eq_zero (by simpa using h)
theorem size_of_nil {s : ByteArray} (h : s.toList = []) : s.size = 0 := by
  rw [ByteArray.toList_eq] at h
  have := congrArg List.length h
  simpa using this
theorem may_f (c : Int) : phalaroperef01_May.f c = some (mayC c) := by
  unfold phalaroperef01_May.f mayC
  by_cases h0 : 0 ≤ c
  · by_cases h1 : c ≤ 1114111
    · by_cases h2 : c < 55296
      · rw [if_pos h0, if_pos h1, if_pos h2]; simp [h0, h1, h2]
      · rw [if_pos h0, if_pos h1, if_neg h2]; simp [h0, h1, h2]
    · rw [if_pos h0, if_neg h1]; simp [h0, h1]
  · rw [if_neg h0]; simp [h0]
end Go.Proofs.Ytbjeegkmafbejaa.PK
namespace Go.Proofs.Ytbjeegkmafbejaa.PK
set_option linter.unusedSimpArgs false
set_option linter.unusedVariables false
open Go.RowKit Go.Proofs.YtbjeegkmafbejaaW.PrintWords Go.Proofs.YtbjeegkmafbejaaW.PrintLast Y
def encL (c : Nat) : List Nat := if c < 128 then [c] else if c < 2048 then [192 + c / 64, 128 + c % 64] else if c < 65536 then [224 + c / 4096, 128 + c / 64 % 64, 128 + c % 64] else [240 + c / 262144, 128 + c / 4096 % 64, 128 + c / 64 % 64, 128 + c % 64]
theorem encL_lt (c : Nat) (hc : c ≤ 1114111) : ∀ x ∈ encL c, x < 256 := by
  intro x hx
  unfold encL at hx
  split at hx
  · simp at hx; omega
  split at hx
  · simp at hx; omega
  split at hx
  · simp at hx; omega
  · simp at hx; omega
theorem tail_l0 (k : Nat) (c : Nat) (hc : c ≤ 1114111) (m i : Nat) (hm : i ≤ m) (h3 : m ≤ 3) (hk : m - i < k) : phalaroperef01_tail.l0 k (c : Int) (m : Int) (i : Int) = some ((128 + c / 64 ^ (m - i) % 64 : Nat) : Int) := by
  induction k generalizing c i with
  | zero => omega
  | succ k ih =>
    simp only [phalaroperef01_tail.l0]
    by_cases h : i < m
    · rw [if_pos (by omega), show (64 : Int) = ((64 : Nat) : Int) from rfl, tdiv64, w64 _ (by omega) (by have : c / 64 ≤ c := Nat.div_le_self _ _; omega),
        show wrap64 ((i : Int) + 1) = ((i + 1 : Nat) : Int) from w64 _ (by omega) (by omega), ih (c / 64) (by have : c / 64 ≤ c := Nat.div_le_self _ _; omega) (i + 1) (by omega) (by omega)]
      congr 3
      rw [Nat.div_div_eq_div_mul, ← Nat.pow_succ', show (m - (i + 1)).succ = m - i from by omega]
    · rw [if_neg (by omega), show (64 : Int) = ((64 : Nat) : Int) from rfl, tmod64, w64 _ (by omega) (by omega), show m - i = 0 from by omega]
      congr 1
      rw [Nat.pow_zero, Nat.div_one]
      omega
theorem tail_f (k c : Nat) (hc : c ≤ 1114111) (m : Nat) (h3 : m ≤ 3) (hk : m < k) : phalaroperef01_tail.f k (c : Int) (m : Int) = some ((128 + c / 64 ^ m % 64 : Nat) : Int) := by
  have := tail_l0 k c hc m 0 (by omega) h3 (by omega)
  simpa [phalaroperef01_tail.f] using this
theorem one_f (k c : Nat) (hc : c ≤ 1114111) (hk : 3 < k) : phalaroperef01_One.f k (c : Int) = some (strOfNums ((encL c).map fun (n : Nat) => (n : Int))) := by
  have t0 := tail_f k c hc 0 (by omega) (by omega)
  have t1 := tail_f k c hc 1 (by omega) (by omega)
  have t2 := tail_f k c hc 2 (by omega) (by omega)
  unfold phalaroperef01_One.f encL
  by_cases h1 : c < 128
  · rw [if_pos (by omega), if_pos h1]
    congr 2
    simp only [List.map_cons, List.map_nil, List.cons.injEq, and_true]
    omega
  rw [if_neg (by omega), if_neg h1]
  by_cases h2 : c < 2048
  · rw [if_pos (by omega), if_pos h2, show (0 : Int) = ((0 : Nat) : Int) from rfl, t0]
    simp only [Option.bind_some]
    congr 2
    rw [show (64 : Int) = ((64 : Nat) : Int) from rfl, tdiv64, w64 ((c / 64 : Nat) : Int) (by omega) (by omega), w64 _ (by omega) (by omega)]
    simp only [List.map_cons, List.map_nil, List.cons.injEq, and_true]
    constructor
    · omega
    · simp
  rw [if_neg (by omega), if_neg h2]
  by_cases h3 : c < 65536
  · rw [if_pos (by omega), if_pos h3, show (0 : Int) = ((0 : Nat) : Int) from rfl, t0, show (1 : Int) = ((1 : Nat) : Int) from rfl, t1]
    simp only [Option.bind_some]
    congr 2
    rw [show (4096 : Int) = ((4096 : Nat) : Int) from rfl, tdiv64, w64 ((c / 4096 : Nat) : Int) (by omega) (by omega), w64 _ (by omega) (by omega)]
    simp only [List.map_cons, List.map_nil, List.cons.injEq, and_true]
    refine ⟨by omega, by simp, by simp⟩
  · rw [if_neg (by omega), if_neg h3, show (0 : Int) = ((0 : Nat) : Int) from rfl, t0, show (1 : Int) = ((1 : Nat) : Int) from rfl, t1, show (2 : Int) = ((2 : Nat) : Int) from rfl, t2]
    simp only [Option.bind_some]
    congr 2
    rw [show (262144 : Int) = ((262144 : Nat) : Int) from rfl, tdiv64, w64 ((c / 262144 : Nat) : Int) (by omega) (by omega), w64 _ (by omega) (by omega)]
    simp only [List.map_cons, List.map_nil, List.cons.injEq, and_true]
    refine ⟨by omega, by simp, by simp, by simp⟩
def bytesN (s : ByteArray) (n : Nat) : List Nat := (List.range n).map (byteAt s)
theorem toNat_inj_list {a b : List UInt8} (h : a.map UInt8.toNat = b.map UInt8.toNat) : a = b := by
  induction a generalizing b with
  | nil => cases b with
    | nil => rfl
    | cons y b => simp at h
  | cons x a ih => cases b with
    | nil => simp at h
    | cons y b =>
      simp only [List.map_cons, List.cons.injEq] at h
      rw [UInt8.toNat_inj.1 h.1, ih h.2]
theorem extract_nats (s : ByteArray) (n : Nat) (h : n ≤ s.size) : (s.extract 0 n).toList.map UInt8.toNat = bytesN s n := by
  rw [ByteArray.toList_eq]
  have hs : s.data.size = s.size := rfl
  apply List.ext_getElem
  · simp [ByteArray.data_extract, bytesN]; omega
  · intro i h1 h2
    have hi : i < n := by simpa [bytesN] using h2
    simp only [bytesN, List.getElem_map, List.getElem_range]
    unfold byteAt
    rw [get!_at s i (by omega)]
    simp [ByteArray.data_extract]
theorem same_text (s : ByteArray) (l : List Nat) (hl : ∀ x ∈ l, x < 256) (n : Nat) (h : n ≤ s.size) : ((strOfNums (l.map fun (n : Nat) => (n : Int))).toList = (s.extract 0 n).toList) = (l = bytesN s n) := by
  have e : (strOfNums (l.map fun (n : Nat) => (n : Int))).toList.map UInt8.toNat = l := by
    rw [ByteArray.toList_eq, strOfNums_data, List.map_map, List.map_map]
    conv => rhs; rw [← List.map_id l]
    refine List.map_congr_left fun x hx => ?_
    have := hl x hx
    simp
    omega
  rw [eq_iff_iff]
  constructor
  · intro he; rw [← e, he, extract_nats s n h]
  · intro he; exact toNat_inj_list (by rw [e, extract_nats s n h]; exact he)
/-- Is the character c the first n bytes? -/
def tst (s : ByteArray) (n c : Nat) : Prop := mayC (c : Int) = true ∧ encL c = bytesN s n
instance (s : ByteArray) (n c : Nat) : Decidable (tst s n c) := by unfold tst; infer_instance
theorem mayC_le {c : Nat} (h : mayC (c : Int) = true) : c ≤ 1114111 := by
  unfold mayC at h
  rw [Bool.and_eq_true, Bool.and_eq_true, decide_eq_true_iff, decide_eq_true_iff] at h
  omega
theorem j3_step (s : ByteArray) (k n c : Nat) (hk : 3 < k) (hn : n ≤ s.size) (hn4 : n ≤ 4) : phalaroperef01_First.j3 (k + 1) s (c : Int) (n : Int) = if tst s n c then some ((c : Int), (n : Int)) else phalaroperef01_First.l0 k s (c : Int) ((n + 1 : Nat) : Int) := by
  simp only [phalaroperef01_First.j3]
  rw [may_f]
  simp only [Option.bind_some]
  have hw : wrap64 ((n : Int) + 1) = ((n + 1 : Nat) : Int) := w64 _ (by omega) (by omega)
  by_cases hm : mayC (c : Int) = true
  · rw [if_pos hm, one_f k c (mayC_le hm) hk]
    simp only [Option.bind_some]
    rw [if_pos (by omega), if_pos (by omega), Int.toNat_natCast, hw]
    by_cases ht : encL c = bytesN s n
    · rw [if_pos (by rw [same_text s _ (encL_lt c (mayC_le hm)) n hn]; exact ht), if_pos ⟨hm, ht⟩]
    · rw [if_neg (by rw [same_text s _ (encL_lt c (mayC_le hm)) n hn]; exact ht), if_neg (fun h => ht h.2)]
  · rw [if_neg hm, hw, if_neg (fun h => hm h.1)]
theorem l0_step (s : ByteArray) (k n c : Nat) (hk : 3 < k) (hn2 : 2 ≤ n) (hc : c ≤ 100000000) : phalaroperef01_First.l0 (k + 3) s (c : Int) (n : Int) =
    if n ≤ 4 ∧ n ≤ s.size then (if tst s n (64 * c + byteAt s (n - 1) % 64) then some (((64 * c + byteAt s (n - 1) % 64 : Nat) : Int), (n : Int)) else phalaroperef01_First.l0 k s ((64 * c + byteAt s (n - 1) % 64 : Nat) : Int) ((n + 1 : Nat) : Int)) else some (0, 0) := by
  have hb := byteAt_lt s (n - 1)
  simp only [phalaroperef01_First.l0]
  by_cases h4 : n ≤ 4
  · rw [if_pos (by omega)]
    by_cases hs : n ≤ s.size
    · rw [if_pos ⟨h4, hs⟩]
      simp only [phalaroperef01_First.j1]
      have hw : wrap64 ((n : Int) - 1) = ((n - 1 : Nat) : Int) := by rw [w64 _ (by omega) (by omega)]; omega
      rw [if_pos (decide_eq_true (by omega)), hw, if_pos (by omega), if_pos (by omega), if_neg (by omega), bt_byteAt, w64 (byteAt s (n - 1) : Int) (by omega) (by omega), show (64 : Int) = ((64 : Nat) : Int) from rfl, tmod64, w64 (((64 : Nat) : Int) * (c : Int)) (by omega) (by omega), w64 _ (by omega) (by omega)]
      rw [show (((64 : Nat) : Int) * (c : Int) + ((byteAt s (n - 1) % 64 : Nat) : Int)) = ((64 * c + byteAt s (n - 1) % 64 : Nat) : Int) from by omega]
      exact j3_step s k n _ hk hs h4
    · rw [if_neg (fun h => hs h.2)]
      simp only [phalaroperef01_First.j1]
      rw [if_neg (by rw [decide_eq_true_iff]; omega)]
  · rw [if_neg (by omega), if_neg (fun h => h4 h.1)]
    simp only [phalaroperef01_First.j1]
    rw [if_neg (by decide)]
def lead (b : Nat) : Nat := if b < 192 then b else if b < 224 then b - 192 else if b < 240 then b - 224 else b - 240
theorem l0_first (s : ByteArray) (k : Nat) (hk : 3 < k) : phalaroperef01_First.l0 (k + 4) s 0 1 =
    if 1 ≤ s.size then (if tst s 1 (lead (byteAt s 0)) then some ((lead (byteAt s 0) : Int), 1) else phalaroperef01_First.l0 k s (lead (byteAt s 0) : Int) 2) else some (0, 0) := by
  have hb := byteAt_lt s 0
  simp only [phalaroperef01_First.l0]
  rw [if_pos (by omega)]
  by_cases hs : 1 ≤ s.size
  · rw [if_pos hs]
    simp only [phalaroperef01_First.j1]
    have hw : wrap64 ((1 : Int) - 1) = ((0 : Nat) : Int) := by rw [w64 _ (by omega) (by omega)]; rfl
    have hbt : wrap64 (bt s ((0 : Nat) : Int)) = (byteAt s 0 : Int) := by rw [bt_byteAt, w64 _ (by omega) (by omega)]
    rw [if_pos (decide_eq_true (by omega)), hw, if_pos (by omega), if_pos (by omega), if_pos trivial, hbt]
    have j := fun c => j3_step s k 1 c hk hs (by omega)
    unfold lead
    by_cases h1 : byteAt s 0 < 192
    · rw [if_neg (by omega), if_pos h1]
      simp only [phalaroperef01_First.j2]
      rw [if_neg (by omega), if_neg (by omega)]
      exact j _
    · rw [if_pos (by omega), if_neg h1]
      simp only [phalaroperef01_First.j2]
      by_cases h2 : byteAt s 0 < 224
      · rw [if_neg (by omega), if_neg (by omega), if_pos h2, w64 _ (by omega) (by omega), show ((byteAt s 0 : Int) - 192) = ((byteAt s 0 - 192 : Nat) : Int) from by omega]
        exact j _
      · rw [if_pos (by omega), if_neg h2]
        by_cases h3 : byteAt s 0 < 240
        · rw [if_neg (by omega), if_pos h3, w64 _ (by omega) (by omega), show ((byteAt s 0 : Int) - 224) = ((byteAt s 0 - 224 : Nat) : Int) from by omega]
          exact j _
        · rw [if_pos (by omega), if_neg h3, w64 _ (by omega) (by omega), show ((byteAt s 0 : Int) - 240) = ((byteAt s 0 - 240 : Nat) : Int) from by omega]
          exact j _
  · rw [if_neg hs]
    simp only [phalaroperef01_First.j1]
    rw [if_neg (by rw [decide_eq_true_iff]; omega)]
theorem bytesN_1 (s : ByteArray) : bytesN s 1 = [byteAt s 0] := rfl
theorem bytesN_2 (s : ByteArray) : bytesN s 2 = [byteAt s 0, byteAt s 1] := rfl
theorem bytesN_3 (s : ByteArray) : bytesN s 3 = [byteAt s 0, byteAt s 1, byteAt s 2] := rfl
theorem bytesN_4 (s : ByteArray) : bytesN s 4 = [byteAt s 0, byteAt s 1, byteAt s 2, byteAt s 3] := rfl
theorem mayC_nat (c : Nat) : mayC (c : Int) = true ↔ (c ≤ 1114111 ∧ (c < 55296 ∨ 57343 < c)) := by
  unfold mayC
  rw [Bool.and_eq_true, Bool.and_eq_true, Bool.or_eq_true, decide_eq_true_iff, decide_eq_true_iff, decide_eq_true_iff, decide_eq_true_iff]
  omega
/-- encL's four forms. -/
theorem encL_forms (c : Nat) : (c < 128 ∧ encL c = [c]) ∨ (128 ≤ c ∧ c < 2048 ∧ encL c = [192 + c / 64, 128 + c % 64]) ∨ (2048 ≤ c ∧ c < 65536 ∧ encL c = [224 + c / 4096, 128 + c / 64 % 64, 128 + c % 64]) ∨ (65536 ≤ c ∧ encL c = [240 + c / 262144, 128 + c / 4096 % 64, 128 + c / 64 % 64, 128 + c % 64]) := by
  unfold encL
  by_cases h1 : c < 128
  · exact .inl ⟨h1, if_pos h1⟩
  by_cases h2 : c < 2048
  · exact .inr (.inl ⟨by omega, h2, by rw [if_neg h1, if_pos h2]⟩)
  by_cases h3 : c < 65536
  · exact .inr (.inr (.inl ⟨by omega, h3, by rw [if_neg h1, if_neg h2, if_pos h3]⟩))
  · exact .inr (.inr (.inr ⟨by omega, by rw [if_neg h1, if_neg h2, if_neg h3]⟩))
theorem tst1 (s : ByteArray) (c : Nat) : tst s 1 c ↔ (c < 128 ∧ byteAt s 0 = c) := by
  unfold tst
  rw [mayC_nat, bytesN_1]
  rcases encL_forms c with ⟨h, e⟩ | ⟨h, h', e⟩ | ⟨h, h', e⟩ | ⟨h, e⟩ <;> rw [e] <;> simp only [List.cons.injEq, and_true, reduceCtorEq, and_false, false_iff, List.cons_ne_nil] <;> omega
theorem tst2 (s : ByteArray) (c : Nat) : tst s 2 c ↔ (128 ≤ c ∧ c < 2048 ∧ byteAt s 0 = 192 + c / 64 ∧ byteAt s 1 = 128 + c % 64) := by
  unfold tst
  rw [mayC_nat, bytesN_2]
  rcases encL_forms c with ⟨h, e⟩ | ⟨h, h', e⟩ | ⟨h, h', e⟩ | ⟨h, e⟩ <;> rw [e] <;> simp only [List.cons.injEq, and_true, reduceCtorEq, and_false, false_iff, List.cons_ne_nil] <;> omega
theorem tst3 (s : ByteArray) (c : Nat) : tst s 3 c ↔ (2048 ≤ c ∧ c < 65536 ∧ (c < 55296 ∨ 57343 < c) ∧ byteAt s 0 = 224 + c / 4096 ∧ byteAt s 1 = 128 + c / 64 % 64 ∧ byteAt s 2 = 128 + c % 64) := by
  unfold tst
  rw [mayC_nat, bytesN_3]
  rcases encL_forms c with ⟨h, e⟩ | ⟨h, h', e⟩ | ⟨h, h', e⟩ | ⟨h, e⟩ <;> rw [e] <;> simp only [List.cons.injEq, and_true, reduceCtorEq, and_false, false_iff, List.cons_ne_nil] <;> omega
theorem tst4 (s : ByteArray) (c : Nat) : tst s 4 c ↔ (65536 ≤ c ∧ c ≤ 1114111 ∧ byteAt s 0 = 240 + c / 262144 ∧ byteAt s 1 = 128 + c / 4096 % 64 ∧ byteAt s 2 = 128 + c / 64 % 64 ∧ byteAt s 3 = 128 + c % 64) := by
  unfold tst
  rw [mayC_nat, bytesN_4]
  rcases encL_forms c with ⟨h, e⟩ | ⟨h, h', e⟩ | ⟨h, h', e⟩ | ⟨h, e⟩ <;> rw [e] <;> simp only [List.cons.injEq, and_true, reduceCtorEq, and_false, false_iff, List.cons_ne_nil] <;> omega
/-- What First answers. -/
def firstS (s : ByteArray) : Int × Int := if s.size = 0 ∨ badAt s 0 = true then (0, 0) else (((Utf8.decode s 0).1 : Int), ((Utf8.decode s 0).2 : Int))
theorem lead_le (b : Nat) (h : b < 256) : lead b ≤ 255 := by unfold lead; split <;> (try split) <;> (try split) <;> omega
set_option maxHeartbeats 4000000 in
theorem first_f (s : ByteArray) (k : Nat) (hk : 20 < k) : phalaroperef01_First.f k s = some (firstS s) := by
  have u0 := byteAt_lt s 0
  have u1 := byteAt_lt s 1
  have u2 := byteAt_lt s 2
  have u3 := byteAt_lt s 3
  have hl := lead_le _ u0
  unfold phalaroperef01_First.f
  obtain ⟨k, rfl⟩ : ∃ m, k = m + 9 + 4 := ⟨k - 13, by omega⟩
  rw [l0_first s (k + 9) (by omega)]
  have e2 : ∀ c : Nat, c ≤ 255 → phalaroperef01_First.l0 (k + 9) s (c : Int) 2 = _ := fun c hc => l0_step s (k + 6) 2 c (by omega) (by omega) (by omega)
  have e3 : ∀ c : Nat, c ≤ 20000 → phalaroperef01_First.l0 (k + 6) s (c : Int) ((2 + 1 : Nat) : Int) = _ := fun c hc => l0_step s (k + 3) 3 c (by omega) (by omega) (by omega)
  have e4 : ∀ c : Nat, c ≤ 2000000 → phalaroperef01_First.l0 (k + 3) s (c : Int) ((3 + 1 : Nat) : Int) = _ := fun c hc => l0_step s k 4 c (by omega) (by omega) (by omega)
  have e5 : ∀ c : Nat, phalaroperef01_First.l0 k s (c : Int) ((4 + 1 : Nat) : Int) = some (0, 0) := fun c => by
    obtain ⟨k, rfl⟩ : ∃ m, k = m + 2 := ⟨k - 2, by omega⟩
    simp only [phalaroperef01_First.l0]
    rw [if_neg (by omega)]
    simp only [phalaroperef01_First.j1]
    rw [if_neg (by decide)]
  unfold firstS
  by_cases hs : s.size = 0
  · rw [if_neg (by omega), if_pos (.inl hs)]
  rw [if_pos (by omega), e2 _ hl]
  obtain ⟨c1, hc1⟩ : ∃ c1, c1 = lead (byteAt s 0) := ⟨_, rfl⟩
  rw [← hc1] at hl ⊢
  have hc1' : (byteAt s 0 < 192 ∧ c1 = byteAt s 0) ∨ (192 ≤ byteAt s 0 ∧ byteAt s 0 < 224 ∧ c1 = byteAt s 0 - 192) ∨ (224 ≤ byteAt s 0 ∧ byteAt s 0 < 240 ∧ c1 = byteAt s 0 - 224) ∨ (240 ≤ byteAt s 0 ∧ c1 = byteAt s 0 - 240) := by
    rw [hc1]; unfold lead; split
    · omega
    split
    · omega
    split <;> omega
  clear hc1
  rw [show 2 - 1 = 1 from rfl, e3 _ (by omega), show 3 - 1 = 2 from rfl, e4 _ (by omega), show 4 - 1 = 3 from rfl, e5]
  clear e2 e3 e4 e5
  obtain ⟨c2, hc2⟩ : ∃ c2, c2 = 64 * c1 + byteAt s 1 % 64 := ⟨_, rfl⟩
  rw [← hc2]
  obtain ⟨c3, hc3⟩ : ∃ c3, c3 = 64 * c2 + byteAt s 2 % 64 := ⟨_, rfl⟩
  rw [← hc3]
  obtain ⟨c4, hc4⟩ : ∃ c4, c4 = 64 * c3 + byteAt s 3 % 64 := ⟨_, rfl⟩
  rw [← hc4]
  have bad_no : ∀ c n : Nat, Utf8.decode s 0 = (c, n) → (n ≠ 1 ∨ c ≠ 65533) → ¬ (s.size = 0 ∨ badAt s 0 = true) := by
    intro c n e h h'
    rcases h' with h' | h'
    · exact hs h'
    · unfold badAt at h'
      rw [e, Bool.and_eq_true, beq_iff_eq, beq_iff_eq] at h'
      rcases h with h | h
      · exact h h'.2
      · exact h h'.1
  have ha := decode_arms s 0
  rw [show 0 + 1 = 1 from rfl, show 0 + 2 = 2 from rfl, show 0 + 3 = 3 from rfl] at ha
  rcases ha with ⟨h0, e⟩ | ⟨c, h0, h1, h2, h3, h4, e⟩ | ⟨c, h0, h1, h2, h3, h4, h5, h6, e⟩ | ⟨c, h0, h1, h2, h3, h4, h5, h6, h7, e⟩ | ⟨e, g0, g2, g3, g4⟩
  · rw [if_pos ((tst1 s c1).2 (by omega)), if_neg (bad_no _ _ e (.inr (by omega))), e]
    have : c1 = byteAt s 0 := by omega
    rw [this]; rfl
  · have q : c2 = c := by omega
    rw [if_neg (fun h => by have := (tst1 s c1).1 h; omega), if_pos (by omega), if_pos ((tst2 s c2).2 (by omega)), if_neg (bad_no _ _ e (.inl (by omega))), e, q]
    try rfl
  · have q : c3 = c := by omega
    rw [if_neg (fun h => by have := (tst1 s c1).1 h; omega), if_pos (by omega), if_neg (fun h => by have := (tst2 s c2).1 h; omega), if_pos (by omega), if_pos ((tst3 s c3).2 (by omega)), if_neg (bad_no _ _ e (.inl (by omega))), e, q]
    try rfl
  · have q : c4 = c := by omega
    rw [if_neg (fun h => by have := (tst1 s c1).1 h; omega), if_pos (by omega), if_neg (fun h => by have := (tst2 s c2).1 h; omega), if_pos (by omega), if_neg (fun h => by have := (tst3 s c3).1 h; omega), if_pos (by omega), if_pos ((tst4 s c4).2 (by omega)), if_neg (bad_no _ _ e (.inl (by omega))), e, q]
    try rfl
  · have hb : badAt s 0 = true := by unfold badAt; rw [e]; rfl
    rw [if_pos (show s.size = 0 ∨ badAt s 0 = true from .inr hb), if_neg (show ¬ tst s 1 c1 from fun h => by have := (tst1 s c1).1 h; omega)]
    by_cases s2 : 2 ≤ 4 ∧ 2 ≤ s.size
    · rw [if_pos s2, if_neg (fun h => by have := (tst2 s c2).1 h; clear g3 g4 h hc3 hc4; omega)]
      by_cases s3 : 3 ≤ 4 ∧ 3 ≤ s.size
      · rw [if_pos s3, if_neg (fun h => by have := (tst3 s c3).1 h; clear g2 g4 h hc4; omega)]
        by_cases s4 : 4 ≤ 4 ∧ 4 ≤ s.size
        · rw [if_pos s4, if_neg (fun h => by have := (tst4 s c4).1 h; clear g2 g3 h; omega)]
        · rw [if_neg s4]
      · rw [if_neg s3]
    · rw [if_neg s2]
theorem extract_size (s : ByteArray) (p : Nat) : (s.extract p s.size).size = s.size - p := by
  have hs : s.data.size = s.size := rfl
  show (s.extract p s.size).data.size = _
  rw [ByteArray.data_extract, Array.size_extract]
  omega
theorem extract_byteAt (s : ByteArray) (p i : Nat) : byteAt (s.extract p s.size) i = byteAt s (p + i) := by
  by_cases h : p + i < s.size
  · have h1 : i < (s.extract p s.size).size := by rw [extract_size]; omega
    unfold byteAt
    rw [get!_at _ _ h1, get!_at _ _ h]
    congr 1
    simp [ByteArray.data_extract]
  · rw [get!_out _ _ h, get!_out _ _ (by rw [extract_size]; omega)]
theorem decode_extract (s : ByteArray) (p : Nat) : Utf8.decode (s.extract p s.size) 0 = Utf8.decode s p := by
  have b := fun i => extract_byteAt s p i
  have hz : ∀ i, decide (0 + i < (s.extract p s.size).size) = decide (p + i < s.size) := fun i => by rw [extract_size]; exact decide_eq_decide.2 (by omega)
  unfold byteAt at b
  unfold Utf8.decode
  simp only [hz]
  simp only [Nat.zero_add, b, Nat.add_zero]
theorem badAt_extract (s : ByteArray) (p : Nat) : badAt (s.extract p s.size) 0 = badAt s p := by unfold badAt; rw [decode_extract]
theorem begin_l0 (s : ByteArray) (hs : s.size ≤ 1000000) (f : Nat) : ∀ (k p : Nat) (acc : List Int), s.size ≤ p + f → p ≤ s.size → acc.length ≤ p → f + 25 < k →
    phalaroperef01_Begin.l0 k s acc (p : Int) = some (acc ++ (charsFrom s f p).1, ((charsFrom s f p).2 : Int)) := by
  induction f with
  | zero =>
    intro k p acc h1 h2 h3 hk
    obtain ⟨k, rfl⟩ : ∃ m, k = m + 1 := ⟨k - 1, by omega⟩
    simp only [phalaroperef01_Begin.l0, charsFrom]
    rw [if_neg (by omega), List.append_nil]
  | succ f ih =>
    intro k p acc h1 h2 h3 hk
    obtain ⟨k, rfl⟩ : ∃ m, k = m + 1 := ⟨k - 1, by omega⟩
    simp only [phalaroperef01_Begin.l0]
    by_cases hp : p < s.size
    · rw [if_pos (by omega), if_pos (by omega), if_pos (by omega), Int.toNat_natCast, first_f _ k (by omega)]
      have hF : firstS (s.extract p s.size) = if badAt s p = true then (0, 0) else (((Utf8.decode s p).1 : Int), ((Utf8.decode s p).2 : Int)) := by
        unfold firstS
        rw [extract_size, badAt_extract, decode_extract]
        by_cases hb : badAt s p = true
        · rw [if_pos (.inr hb), if_pos hb]
        · rw [if_neg (fun h => by rcases h with h | h; (· omega); exact hb h), if_neg hb]
      rw [hF]
      by_cases hb : badAt s p = true
      · rw [if_pos hb]
        simp only [Option.bind_some]
        rw [if_pos trivial, charsFrom_bad s _ p hb, List.append_nil]
      · have hb' : badAt s p = false := by simpa using hb
        have hd := decode_in s p hp
        have hd2 := decode_pos s p
        rw [if_neg hb]
        simp only [Option.bind_some]
        rw [if_neg (by omega), if_pos (by omega)]
        rw [show wrap64 ((p : Int) + ((Utf8.decode s p).2 : Int)) = ((p + (Utf8.decode s p).2 : Nat) : Int) from w64 _ (by omega) (by omega),
          ih k _ _ (by omega) hd (by rw [List.length_append, List.length_singleton]; omega) (by omega), charsFrom_go s f p hp hb', List.append_assoc]
        rfl
    · rw [if_neg (by omega), charsFrom_end s _ p hp, List.append_nil]
theorem begin_f (s : ByteArray) (hs : s.size ≤ 1000000) (k : Nat) (hk : s.size + 25 < k) : phalaroperef01_Begin.f k s = some (chars s, (badPos s : Int)) := by
  have := begin_l0 s hs s.size k 0 [] (by omega) (by omega) (by simp) hk
  rw [List.nil_append] at this
  exact this
theorem charsFrom_le (s : ByteArray) (f : Nat) : ∀ p, p ≤ s.size → (charsFrom s f p).2 ≤ s.size := by
  induction f with
  | zero => intro p h; exact h
  | succ f ih =>
    intro p h
    simp only [charsFrom]
    split
    · rename_i hp
      split
      · exact h
      · exact ih _ (decode_in s p hp)
    · exact h
theorem badPos_le (s : ByteArray) : badPos s ≤ s.size := charsFrom_le s s.size 0 (by omega)
theorem validS_iff (s : ByteArray) : validS s = true ↔ badPos s = s.size := by
  unfold validS; rw [decide_eq_true_iff]; have := badPos_le s; omega
theorem valid_f (s : ByteArray) (hs : s.size ≤ 1000000) (k : Nat) (hk : s.size + 25 < k) : phalaroperef01_Valid.f k s = some (validS s) := by
  unfold phalaroperef01_Valid.f
  rw [begin_f s hs k hk]
  simp only [Option.bind_some]
  congr 1
  cases hv : validS s with
  | true => rw [(validS_iff s).1 hv]; simp
  | false =>
    rw [beq_eq_false_iff_ne]
    intro h
    have := (validS_iff s).2 (by omega)
    rw [hv] at this; cases this
end Go.Proofs.Ytbjeegkmafbejaa.PK
namespace Go.Proofs.Ytbjeegkmafbejaa.PK
set_option linter.unusedSimpArgs false
set_option linter.unusedVariables false
open Go.RowKit Go.Proofs.YtbjeegkmafbejaaW.PrintWords Go.Proofs.YtbjeegkmafbejaaW.PrintLast Y
section
variable (vk : Int) (s : ByteArray) (l : List ByteArray) (p : List S69)
theorem rtexts_l1 (h3 : vk = 3) (hp : p.length ≤ 100000) (d : Nat) : ∀ (k i : Nat) (acc : List ByteArray), i + d = p.length → d < k → acc.length + 2 * d ≤ 300000 →
    phalaroperef08_Texts.l1 k acc (i : Int) vk s l p = some (acc ++ (p.drop i).flatMap (fun x => [x.f0, x.f1])) := by
  induction d with
  | zero =>
    intro k i acc hi hk ha
    obtain ⟨k, rfl⟩ : ∃ m, k = m + 1 := ⟨k - 1, by omega⟩
    simp only [phalaroperef08_Texts.l1]
    rw [if_neg (by omega), List.drop_eq_nil_of_le (by omega)]
    simp
  | succ d ih =>
    intro k i acc hi hk ha
    obtain ⟨k, rfl⟩ : ∃ m, k = m + 1 := ⟨k - 1, by omega⟩
    simp only [phalaroperef08_Texts.l1]
    rw [if_pos (by omega), if_pos h3, if_pos (by omega), rd_at p i (by omega)]
    simp only [Option.bind_some, List.length_cons, List.length_nil]
    rw [if_pos (by omega), w1 i (by omega),
      ih k (i + 1) _ (by omega) (by omega) (by rw [List.length_append]; simp; omega), List.drop_eq_getElem_cons (show i < p.length by omega), List.flatMap_cons, List.append_assoc]
theorem rtexts_l1_not (h3 : vk ≠ 3) (k i : Nat) (acc : List ByteArray) (hk : 0 < k) : phalaroperef08_Texts.l1 k acc (i : Int) vk s l p = some acc := by
  obtain ⟨k, rfl⟩ : ∃ m, k = m + 1 := ⟨k - 1, by omega⟩
  simp only [phalaroperef08_Texts.l1]
  split
  · first | rfl | rw [if_neg h3]
  · rfl
theorem rtexts_l0 (h2 : vk = 2) (hl : l.length ≤ 100000) (d : Nat) : ∀ (k i : Nat) (acc : List ByteArray), i + d = l.length → d + 3 < k → acc.length + d ≤ 300000 →
    phalaroperef08_Texts.l0 k acc (i : Int) vk s l p = some (acc ++ l.drop i) := by
  induction d with
  | zero =>
    intro k i acc hi hk ha
    obtain ⟨k, rfl⟩ : ∃ m, k = m + 2 := ⟨k - 2, by omega⟩
    simp only [phalaroperef08_Texts.l0, phalaroperef08_Texts.j2]
    rw [if_neg (by omega), List.drop_eq_nil_of_le (by omega), List.append_nil]
    exact rtexts_l1_not vk s l p (by omega) k 0 acc (by omega)
  | succ d ih =>
    intro k i acc hi hk ha
    obtain ⟨k, rfl⟩ : ∃ m, k = m + 1 := ⟨k - 1, by omega⟩
    simp only [phalaroperef08_Texts.l0]
    rw [if_pos (by omega), if_pos h2, if_pos (by omega), if_pos (by omega), rdOf_at l i (by omega), w1 i (by omega),
      ih k (i + 1) _ (by omega) (by omega) (by rw [List.length_append]; simp; omega), List.drop_eq_getElem_cons (show i < l.length by omega), List.append_assoc]
    rfl
theorem rtexts_l0_not (h2 : vk ≠ 2) (k : Nat) (acc : List ByteArray) : phalaroperef08_Texts.l0 (k + 2) acc 0 vk s l p = phalaroperef08_Texts.l1 k acc 0 vk s l p := by
  simp only [phalaroperef08_Texts.l0, phalaroperef08_Texts.j2]
  split
  · first | rfl | rw [if_neg h2]
  · rfl
theorem rtexts_f (k : Nat) (hm : modest s l p) (hk : l.length + p.length + 10 < k) : phalaroperef08_Texts.f k vk s l p = some (textsOf vk s l p) := by
  obtain ⟨_, hl, hp, _, _⟩ := hm
  obtain ⟨k, rfl⟩ : ∃ m, k = m + 3 := ⟨k - 3, by omega⟩
  unfold phalaroperef08_Texts.f textsOf
  by_cases h1 : vk = 1
  · rw [if_pos h1, if_pos h1, if_pos (by simp)]
    simp only [phalaroperef08_Texts.j0]
    rw [rtexts_l0_not vk s l p (by omega)]
    exact rtexts_l1_not vk s l p (by omega) k 0 _ (by omega)
  rw [if_neg h1, if_neg h1]
  simp only [phalaroperef08_Texts.j0]
  by_cases h2 : vk = 2
  · rw [if_pos h2]
    have := rtexts_l0 vk s l p h2 hl l.length (k + 2) 0 [] (by omega) (by omega) (by simp; omega)
    simpa using this
  rw [if_neg h2, rtexts_l0_not vk s l p h2]
  by_cases h3 : vk = 3
  · rw [if_pos h3]
    have := rtexts_l1 vk s l p h3 hp p.length k 0 [] (by omega) (by omega) (by simp; omega)
    simpa using this
  · rw [if_neg h3]
    exact rtexts_l1_not vk s l p h3 k 0 [] (by omega)
end
theorem rvalid_l0 (ts : List ByteArray) (hs : ∀ x ∈ ts, x.size ≤ 1000000) (hl : ts.length ≤ 1000000) (d : Nat) : ∀ (k i : Nat), i + d = ts.length → d + 1000030 < k →
    phalaroperef08_Valid.l0 k ts (i : Int) = some ((ts.drop i).all validS) := by
  induction d with
  | zero =>
    intro k i hi hk
    obtain ⟨k, rfl⟩ : ∃ m, k = m + 1 := ⟨k - 1, by omega⟩
    simp only [phalaroperef08_Valid.l0]
    rw [if_neg (by omega), List.drop_eq_nil_of_le (by omega)]
    rfl
  | succ d ih =>
    intro k i hi hk
    obtain ⟨k, rfl⟩ : ∃ m, k = m + 1 := ⟨k - 1, by omega⟩
    have hi' : i < ts.length := by omega
    have hx := hs _ (List.getElem_mem hi')
    simp only [phalaroperef08_Valid.l0]
    rw [if_pos (by omega), if_pos (by omega), rdOf_at ts i hi', valid_f _ hx k (by omega), List.drop_eq_getElem_cons hi', List.all_cons]
    simp only [Option.bind_some]
    cases validS ts[i] with
    | true => rw [if_pos rfl, w1 i (by omega), ih k (i + 1) (by omega) (by omega)]; rfl
    | false => rw [if_neg (by decide)]; rfl
theorem rvalid_f (k : Nat) (vk : Int) (s : ByteArray) (l : List ByteArray) (p : List S69) (hm : modest s l p) (hk : 3000000 < k) : phalaroperef08_Valid.f k vk s l p = some ((textsOf vk s l p).all validS) := by
  have ht := texts_small (vk := vk) hm
  unfold phalaroperef08_Valid.f
  rw [rtexts_f vk s l p k hm (by have := hm.2.1; have := hm.2.2.1; omega)]
  simp only [Option.bind_some]
  have := rvalid_l0 (textsOf vk s l p) ht.2 ht.1 _ k 0 (Nat.zero_add _) (by have := ht.1; omega)
  simpa using this
end Go.Proofs.Ytbjeegkmafbejaa.PK
namespace Go.Proofs.Ytbjeegkmafbejaa.PK
set_option linter.unusedSimpArgs false
set_option linter.unusedVariables false
open Go.RowKit Go.Proofs.YtbjeegkmafbejaaW.PrintWords Go.Proofs.YtbjeegkmafbejaaW.PrintLast Y
/-- Is a byte reserved? -/
def isRes (c : Int) : Bool := [58, 47, 63, 35, 91, 93, 64, 33, 36, 38, 39, 40, 41, 42, 43, 44, 59, 61].contains c
theorem res02 : ∀ c : Fin 256, phalaroperef02_Reserved.f 20 (c.val : Int) = some (isRes (c.val : Int)) := by decide +kernel
theorem evRes (c : Int) (h0 : 0 ≤ c) (h1 : c < 256) : Ev (fun k => phalaroperef02_Reserved.f k c) (isRes c) := by
  have := res02 ⟨c.toNat, by omega⟩
  simp only [Int.toNat_of_nonneg h0] at this
  exact Ev.of (phalaroperef02_Reserved.mono c) this
/-- So many reserved bytes has a text from place i on. -/
def cR (s : ByteArray) : Nat → Nat → Nat
  | 0, _ => 0
  | d + 1, i => (if isRes (bI s i) = true then 1 else 0) + cR s d (i + 1)
theorem cR_le (s : ByteArray) (d : Nat) : ∀ i, cR s d i ≤ d := by
  induction d with
  | zero => intro i; exact Nat.le_refl _
  | succ d ih => intro i; have := ih (i + 1); simp only [cR]; split <;> omega
def pR (x : UInt8) : Bool := isRes (x.toNat : Int)
theorem cR_list (s : ByteArray) (d : Nat) : ∀ i, i + d = s.size → cR s d i = ((s.data.toList.drop i).filter pR).length := by
  induction d with
  | zero => intro i hi; rw [List.drop_eq_nil_of_le (by have : s.data.toList.length = s.size := rfl; omega)]; rfl
  | succ d ih =>
    intro i hi
    have hl : i < s.data.toList.length := by have : s.data.toList.length = s.size := rfl; omega
    have hb : bI s i = ((s.data.toList[i]).toNat : Int) := by rw [bI_at s i (by omega)]; rfl
    rw [List.drop_eq_getElem_cons hl, List.filter_cons]
    simp only [cR]
    rw [ih (i + 1) (by omega), hb]
    unfold pR
    cases isRes ((s.data.toList[i]).toNat : Int) with
    | true => simp; omega
    | false => simp
theorem cR_all (s : ByteArray) : cR s s.size 0 = (s.data.toList.filter pR).length := by have := cR_list s s.size 0 (by omega); rwa [List.drop_zero] at this
/-! ### A piece -/
theorem kFree : ∀ c : Fin 256, unreservedSet.has (c.val : Int) = true → isRes (c.val : Int) = false := by decide +kernel
theorem kStay : ∀ c : Fin 256, (X.staySet true).has (c.val : Int) = false → isRes (c.val : Int) = false := by decide +kernel
theorem kTrip : ∀ c : Fin 256, (X.tripS (c.val : Int)).data.toList.filter pR = [] := by decide +kernel
theorem kByte : ∀ c : Fin 256, pR (UInt8.ofNat (c.val : Int).toNat) = isRes (c.val : Int) := by decide +kernel
theorem res_piece (keep : Bool) (s : ByteArray) (i : Nat) : ((X.pieceE keep s i).filter pR).length = if (keep && isRes (bI s i)) = true then 1 else 0 := by
  obtain ⟨h0, h1⟩ := bI_range s i
  have tr : tri s i = true → isRes (bI s i) = false := fun h => by
    unfold tri at h
    simp only [Bool.and_eq_true, beq_iff_eq] at h
    rw [h.1.2]; decide
  have e1 := kFree ⟨(bI s i).toNat, by omega⟩
  have e2 := kStay ⟨(bI s i).toNat, by omega⟩
  have e3 := kTrip ⟨(bI s i).toNat, by omega⟩
  have e4 := kByte ⟨(bI s i).toNat, by omega⟩
  simp only [Int.toNat_of_nonneg h0] at e1 e2 e3 e4
  have e5 : ((([UInt8.ofNat (bI s i).toNat] : List UInt8).filter pR).length) = if isRes (bI s i) = true then 1 else 0 := by
    rw [List.filter_cons, e4]
    cases isRes (bI s i) <;> rfl
  unfold X.pieceE
  cases hk : keep with
  | false =>
    rw [Bool.false_and, Bool.or_false, Bool.false_and, if_neg (by decide : ¬ false = true)]
    cases hs : (X.staySet false).has (bI s i) with
    | true =>
      rw [if_pos rfl, e5, e1 hs]; rfl
    | false => rw [if_neg (by decide : ¬ false = true), e3]; rfl
  | true =>
    rw [Bool.true_and, Bool.true_and]
    cases hs : (X.staySet true).has (bI s i) with
    | true => rw [Bool.true_or, if_pos rfl, e5]
    | false =>
      rw [Bool.false_or, e2 hs, if_neg (by decide : ¬ false = true)]
      cases ht : tri s i with
      | true => rw [if_pos rfl, e5, e2 hs]; rfl
      | false => rw [if_neg (by decide : ¬ false = true), e3]; rfl
theorem cR_step (s : ByteArray) (d : Nat) : ∀ i, cR s (d + 1) i = cR s d i + if isRes (bI s (i + d)) = true then 1 else 0 := by
  induction d with
  | zero => intro i; simp [cR]
  | succ d ih =>
    intro i
    have h := ih (i + 1)
    rw [show cR s (d + 1 + 1) i = (if isRes (bI s i) = true then 1 else 0) + cR s (d + 1) (i + 1) from rfl, h, show cR s (d + 1) i = (if isRes (bI s i) = true then 1 else 0) + cR s d (i + 1) from rfl, show i + 1 + d = i + (d + 1) by omega]
    omega
theorem res_to (keep : Bool) (s : ByteArray) (k : Nat) : ((X.encTo keep s k).filter pR).length = if keep = true then cR s k 0 else 0 := by
  induction k with
  | zero => cases keep <;> rfl
  | succ k ih =>
    rw [X.encTo_step, List.filter_append, List.length_append, ih, res_piece, cR_step, Nat.zero_add]
    cases keep <;> simp
theorem res_enc (keep : Bool) (s : ByteArray) : cR (X.encS keep s) (X.encS keep s).size 0 = if keep = true then cR s s.size 0 else 0 := by
  rw [cR_all]
  show ((X.encTo keep s s.size).toArray.toList.filter pR).length = _
  rw [List.toList_toArray]
  exact res_to keep s s.size
/-! ### The loops -/
theorem keeps_l1 (s : ByteArray) (hs : s.size ≤ 1000000) (e : Int) (n : Nat) (a b : ByteArray) (c : Bool) (d' : ByteArray) (keep : Bool) (he : e = 0) (hn : n = if keep = true then cR s s.size 0 else 0) (d : Nat) : ∀ (m i : Nat), i + d = s.size → m + cR s d i = cR s s.size 0 →
    Ev (fun k => phalaropelaw11_PieceKeeps.l1 k s true e (n : Int) (m : Int) (i : Int) a b c d' keep) true := by
  induction d with
  | zero =>
    intro m i hi hm
    refine Ev.step (fun k => ?_) (Ev.now true)
    simp only [phalaropelaw11_PieceKeeps.l1]
    rw [if_neg (by omega), if_pos trivial, if_pos he]
    simp only [cR] at hm
    cases keep with
    | true => rw [if_pos rfl, if_pos (by simp at hn; omega)]
    | false => simp at hn; subst hn; rfl
  | succ d ih =>
    intro m i hi hm
    have hc := bI_range s i
    have hbt : bt s (i : Int) = bI s i := bt_byteAt s i
    have hmle := cR_le s s.size 0
    simp only [cR] at hm
    have e1 : ∀ k, phalaropelaw11_PieceKeeps.l1 (k + 1) s true e (n : Int) (m : Int) (i : Int) a b c d' keep = (phalaroperef02_Reserved.f k (bI s i)).bind fun t => if t = true then phalaropelaw11_PieceKeeps.l1 k s true e (n : Int) ((m + 1 : Nat) : Int) ((i + 1 : Nat) : Int) a b c d' keep else phalaropelaw11_PieceKeeps.l1 k s true e (n : Int) (m : Int) ((i + 1 : Nat) : Int) a b c d' keep := fun k => by
      simp only [phalaropelaw11_PieceKeeps.l1]
      rw [if_pos (by omega), if_pos (by omega), hbt, w1 i (by omega), w1 m (by omega)]
    refine Ev.step e1 (Ev.bind (evRes _ hc.1 hc.2) ?_)
    cases hr : isRes (bI s i) with
    | true => exact Ev.congr (fun k => if_pos rfl) (ih (m + 1) (i + 1) (by omega) (by rw [hr, if_pos rfl] at hm; omega))
    | false => exact Ev.congr (fun k => if_neg (by decide)) (ih m (i + 1) (by omega) (by rw [hr, if_neg (by decide)] at hm; omega))
theorem keeps_l0 (s t : ByteArray) (hs : s.size ≤ 1000000) (ht : t.size ≤ 10000000) (e : Int) (a b : ByteArray) (c : Bool) (d' : ByteArray) (keep : Bool) (he : e = 0) (hn : cR t t.size 0 = if keep = true then cR s s.size 0 else 0) (d : Nat) : ∀ (n i : Nat), i + d = t.size → n + cR t d i = cR t t.size 0 →
    Ev (fun k => phalaropelaw11_PieceKeeps.l0 k s true t e (n : Int) (i : Int) a b c d' keep) true := by
  induction d with
  | zero =>
    intro n i hi hm
    simp only [cR] at hm
    refine Ev.step (fun k => ?_) (keeps_l1 s hs e n a b c d' keep he (by omega) s.size 0 0 (by omega) (by omega))
    simp only [phalaropelaw11_PieceKeeps.l0]
    rw [if_neg (by omega)]
    rfl
  | succ d ih =>
    intro n i hi hm
    have hc := bI_range t i
    have hbt : bt t (i : Int) = bI t i := bt_byteAt t i
    have hmle := cR_le t t.size 0
    simp only [cR] at hm
    have e1 : ∀ k, phalaropelaw11_PieceKeeps.l0 (k + 1) s true t e (n : Int) (i : Int) a b c d' keep = (phalaroperef02_Reserved.f k (bI t i)).bind fun u => if u = true then phalaropelaw11_PieceKeeps.l0 k s true t e ((n + 1 : Nat) : Int) ((i + 1 : Nat) : Int) a b c d' keep else phalaropelaw11_PieceKeeps.l0 k s true t e (n : Int) ((i + 1 : Nat) : Int) a b c d' keep := fun k => by
      simp only [phalaropelaw11_PieceKeeps.l0]
      rw [if_pos (by omega), if_pos (by omega), hbt, w1 i (by omega), w1 n (by omega)]
    refine Ev.step e1 (Ev.bind (evRes _ hc.1 hc.2) ?_)
    cases hr : isRes (bI t i) with
    | true => exact Ev.congr (fun k => if_pos rfl) (ih (n + 1) (i + 1) (by omega) (by rw [hr, if_pos rfl] at hm; omega))
    | false => exact Ev.congr (fun k => if_neg (by decide)) (ih n (i + 1) (by omega) (by rw [hr, if_neg (by decide)] at hm; omega))
theorem awake_f : phalaropelaw11_awake.f = some true := by decide +kernel
theorem nameA : Y.nameMay (⟨#[97]⟩ : ByteArray) = true := by decide +kernel
theorem PieceKeeps_pure (op : Int) (s : ByteArray) (h0 : 0 ≤ op) (h1 : op ≤ 255) : ∃ k, phalaropelaw11_PieceKeeps.f k op s = some true := by
  refine Ev.rounds ?_
  have up : ∀ (a b : ByteArray) (c : Bool) (d : ByteArray) (e : Bool), Ev (fun k => phalaropelaw11_PieceKeeps.j0 k op s true true a b c d e 1 s) true := fun a b c d e => Ev.step (fun k => by simp only [phalaropelaw11_PieceKeeps.j0]; rfl) (Ev.now true)
  have e0 : ∀ k, phalaropelaw11_PieceKeeps.f k op s = if X.isOper op = true then (if X.ruleNamed op = true then (phalaropelaw11_PieceKeeps.j0 k op s true true (X.ruleFirst op) (X.ruleSep op) (X.ruleNamed op) (X.ruleEmpty op) (X.ruleKeep op) 1 s) else (if (s.size : Int) > 200 then (phalaropelaw11_PieceKeeps.j0 k op s true true (X.ruleFirst op) (X.ruleSep op) (X.ruleNamed op) (X.ruleEmpty op) (X.ruleKeep op) 1 s) else ((phalaroperef08_Valid.f k 1 s [] []).bind fun t => phalaropelaw11_PieceKeeps.j0 k op s true (!t) (X.ruleFirst op) (X.ruleSep op) (X.ruleNamed op) (X.ruleEmpty op) (X.ruleKeep op) 1 s))) else (phalaropelaw11_PieceKeeps.j0 k op s true true (X.ruleFirst op) (X.ruleSep op) (X.ruleNamed op) (X.ruleEmpty op) (X.ruleKeep op) 1 s) := fun k => by
    unfold phalaropelaw11_PieceKeeps.f
    rw [awake_f, Option.bind_some]
    unfold oper_Of.f
    rw [if_pos ⟨h0, h1⟩, Option.bind_some]
  refine Ev.congr e0 ?_
  by_cases hop : X.isOper op = true
  · simp only [if_pos hop]
    by_cases hn : X.ruleNamed op = true
    · simp only [if_pos hn]; exact up _ _ _ _ _
    simp only [if_neg hn]
    by_cases hs : (s.size : Int) > 200
    · simp only [if_pos hs]; exact up _ _ _ _ _
    simp only [if_neg hs]
    have hmd : modest s [] [] := ⟨by omega, by simp, by simp, by simp, by simp⟩
    refine Ev.bind (a := Y.validS s) ⟨3000001, fun k hk => by show phalaroperef08_Valid.f k 1 s [] [] = _; rw [rvalid_f k 1 s [] [] hmd (by omega)]; simp [textsOf]⟩ ?_
    cases hv : Y.validS s with
    | false => exact up _ _ _ _ _
    | true =>
      have hone : piece_One.f op (⟨#[97]⟩ : ByteArray) 0 false 1 s [] [] = some (X.encS (X.ruleKeep op) s, true, 0) := by
        unfold piece_One.f
        rw [if_pos ⟨hmd, h0, h1, by decide, rfl⟩]
        unfold oneT sMay
        rw [hop, nameA, hv]
        have : X.textS op (⟨#[97]⟩ : ByteArray) 0 s = X.encS (X.ruleKeep op) s := by unfold X.textS X.maybeS; rw [if_neg hn, if_neg (by decide)]
        rw [this]; rfl
      refine Ev.step (f := fun k => phalaropelaw11_PieceKeeps.l0 k s true (X.encS (X.ruleKeep op) s) 0 0 0 (X.ruleFirst op) (X.ruleSep op) (X.ruleNamed op) (X.ruleEmpty op) (X.ruleKeep op)) (fun k => by simp only [phalaropelaw11_PieceKeeps.j0]; rw [hone]; rfl) ?_
      have hz := X.encS_size (X.ruleKeep op) s
      exact keeps_l0 s (X.encS (X.ruleKeep op) s) (by omega) (by omega) 0 _ _ _ _ _ rfl (res_enc _ s) (X.encS (X.ruleKeep op) s).size 0 0 (by omega) (by omega)
  · simp only [if_neg hop]; exact up _ _ _ _ _
end Go.Proofs.Ytbjeegkmafbejaa.PK
namespace Go.Proofs.Ytbjeegkmafbejaa.Pure
open Go.RowKit Go.Proofs.Ytbjeegkmafbejaa.PK Go.Proofs.YtbjeegkmafbejaaW.PrintWords Go.Proofs.YtbjeegkmafbejaaW.PrintLast
theorem u8_in {a0 : Int} (hw : (Lit.int .u8 a0).wf = true) : 0 ≤ a0 ∧ a0 ≤ 255 := by
  have hw : (decide (IntKind.u8.min ≤ a0) && decide (a0 ≤ IntKind.u8.max)) = true := hw
  rwa [show IntKind.u8.min = 0 from by decide, show IntKind.u8.max = 255 from by decide, Bool.and_eq_true, decide_eq_true_eq, decide_eq_true_eq] at hw
theorem PieceKeeps : phalaropelaw11_PieceKeeps.Pure := fun a0 a1 hw _ => PieceKeeps_pure a0 a1 (u8_in hw).1 (u8_in hw).2
end Go.Proofs.Ytbjeegkmafbejaa.Pure
-- Printed by wip/xprint.py of this claim's authors, over the kit's print; not trusted: Lean checks it.
namespace Go.Proofs.Ytbjeegkmafbejaa.pieceKeeps
open Go.ChangeShapes Go.WideShapes Go.ChangeAt Go.RowKit
open Go.ChangeMaps (open_string shut_string)
set_option linter.unusedVariables false
theorem own : ownKnob Try.prog.godebug = none := by kernel_rfl
set_option maxRecDepth 100000 in
theorem lifted (os : Os) (started : os.Started) (H : Type) (enc : TypeId × Value → H) :
    ReturnsInHanded {} Try.checked os 6 .any (Rows.pieceKeepsSpec.pre6 enc Try.prog Try.f6 Rows.pieceKeepsRow.domain false) (Rows.pieceKeepsSpec.post enc Try.prog Try.f6 false true false false) := by
  refine returnsInHanded_of_change_sized (C := Try.checked) own started (by kernel_rfl) Try.func6
    (ChangeSpec.witness6 (enc := enc) (C := Try.checked) false ⟨#[], #[.int .u8 0, .string ByteArray.empty], []⟩ 8 (by kernel_rfl) (by kernel_rfl) (by kernel_rfl) (by kernel_rfl)) ?_
  intro W base args ds gs before hval0 hW hcnd hsz0 _
  have hsz : (DataW.weightsEach Try.prog (Try.f6.params.toList ++ Rows.pieceKeepsSpec.plain.varTypes Try.prog) (ds ++ gs)).all (· ≤ reachBytes) = true := hsz0
  have hval : ∀ (j : Nat) t v, Try.f6.params[j]? = some t → args[j]? = some v → Value.okWide Try.prog W .any base t v := hval0
  have hW' := hW
  obtain ⟨p, q, hA0, hV, rfl, hfz, hnd⟩ := hW
  have hA : DataW.TrodAll enc Try.prog W 0 (fun _ => true) true Try.f6.params.toList args.toList ds p := hA0
  rw [Try.params6] at hA hval hsz
  obtain ⟨v0, vs0, d0, ds0, p0, q0, hargs, rfl, rfl, h0, r0⟩ := trodAll_cons hA
  obtain ⟨v1, vs1, d1, ds1, p1, q1, rfl, rfl, rfl, h1, r1⟩ := trodAll_cons r0
  obtain ⟨rfl, rfl, rfl⟩ := trodAll_nil r1
  obtain rfl : args = #[v0, v1] := by cases args; simp_all
  obtain ⟨rfl, rfl⟩ := trodVars_none hV
  obtain ⟨a0, rfl, rfl, rfl, w0⟩ := open_int Try.underlying5 (hval 0 5 v0 rfl rfl) h0
  obtain ⟨a1, rfl, rfl, rfl, y1⟩ := open_string Try.underlying9 (hval 1 9 v1 rfl rfl) h1
  have w1 : a1.size ≤ 140737488351232 := by
    have z := sized_string hsz (j := 1) (t := 9) rfl rfl
    rw [Array.length_toList] at z
    exact z
  clear hA0 hval0 hsz0 hsz
  refine (PK.phalaropelaw11_PieceKeeps.walk Pure.PieceKeeps a0 a1 W w0 w1).mono fun e W' ⟨he, bel⟩ => ?_
  subst he
  exact ⟨_, rfl, _, _, _, [], _, [], hW', trodAll_mk1 (shut_bool Try.underlying4 _), (trodAll_cons_mk (shut_int Try.underlying5 w0) (trodAll_cons_mk (shut_string Try.underlying9 y1) trodAll_mk0)), rfl, bel.frame _, fun h => by cases h⟩
theorem over : Rows.pieceKeepsRow.holds Try.pinned (OpenSpec.ofChange Rows.pieceKeepsSpec) :=
  OpenClaim.holds_of_wide 6 Try.f6 rfl rfl rfl rfl rfl rfl rfl ⟨rfl, rfl, rfl, rfl, rfl⟩ rfl rfl rfl rfl rfl (by kernel_rfl) Try.func6 (by kernel_rfl)
    (of_decide_eq_true (by kernel_rfl)) (by unfold Func.isWrapper; first | (rw [if_pos (by decide +kernel)]; kernel_rfl) | (rw [if_neg (by decide +kernel)]; exact ⟨rfl, rfl⟩))
    (fun os started H enc _ => lifted os started H enc)
theorem proved : Rows.PieceKeepsSaid := over
#print axioms proved
end Go.Proofs.Ytbjeegkmafbejaa.pieceKeeps
namespace Go.Proofs.Ytbjeegkmafbejaa
/-- The row, under a short name, for the claim. -/
theorem pieceKeeps_holds : Rows.PieceKeepsSaid := pieceKeeps.proved
end Go.Proofs.Ytbjeegkmafbejaa
