/- Arguments read down: what the data of an argument say of its cells, kind by kind. No function of the program. Small words over a print, and the reference's classes of characters as printed. FitNarrower, FitMissing: what the printed laws come to. Schemas and names, for FitTexts (the first part of Zg). The reference's first character (phalaroperef01.First), as printed, says what Go's decoding says (the first part of Zu). FitTexts: the law. Arguments of the program's own types, read down: each kind that the print holds. FitTexts: the law, joined with the walk. The law FitTexts, for every input: true; each argument reads as it did. -/
import Derived.Test.YtjhihohofhhknaaProg
import Derived.Below
import Derived.Deep.Draws
import Derived.Deep.AppendLies
import Derived.Maps.AppendAt
import Derived.OwnWalk
import Derived.Laws.BytesArg
import Derived.Laws.MakeOwn
import Derived.Laws.OwnMore
import Derived.Deep.OwnRows
import Derived.Tactics
import Derived.Lib.ConvBytes
import Derived.Laws.Slices
import Derived.WalkKit
import Derived.KernelRfl
import Derived.RowKit3
import Derived.Deep.LoopGhost
import Derived.Deep.QuietTactic
import Derived.BigQuiet
import Derived.WideLaws
import Derived.Deep.DeepCutAuto
import Derived.Deep.CutBlock
import Derived.Deep.RegionHeld3
import Derived.Laws.Rows
import Derived.Lib.AppendStr
import Derived.ArgAppend
import Derived.Laws.IdiomCopy
import Derived.OrdersHeld
import Derived.Laws.BitsLemmas
import Derived.RowKit
import Derived.Test.YtjhihohofhhknaaWWords
import Derived.Test.YtjhihohofhhknaaWLast
import Derived.Test.YtjhihohofhhknaaWMore
import Derived.ProofKit
import Derived.OpenShut
import Derived.ShutString
import Derived.Deep.Slices
import Derived.Lib.SmallJoins
import Derived.Test.YtjhihohofhhknaaYu
import Derived.Test.YtjhihohofhhknaaYh
import Derived.Test.YtjhihohofhhknaaYn
import Derived.Test.YtjhihohofhhknaaPFx0
import Derived.Test.YtjhihohofhhknaaPFx6
import Derived.Test.YtjhihohofhhknaaPFx8
import Derived.Test.YtjhihohofhhknaaPFx9
import Derived.Test.YtjhihohofhhknaaPFx2
import Derived.Test.YtjhihohofhhknaaPFx4
import Derived.Test.YtjhihohofhhknaaPFx5
import Derived.Test.YtjhihohofhhknaaPFx7
import Derived.Test.YtjhihohofhhknaaPFx10
import Derived.Test.YtjhihohofhhknaaPFx3
import Derived.Test.YtjhihohofhhknaaRows
import Derived.ChangeOld
import Derived.SizedLaws
namespace Go.Proofs.Ytjhihohofhhknaa.X
set_option linter.unusedSimpArgs false
set_option linter.unusedVariables false
open Go.RowKit Go.Joins Go.WideShapes Go.ChangeShapes Go.Proofs.YtjhihohofhhknaaW.PrintWords
/-- Whatever reads as data of type t reads as one of kind d; ok: what its numbers are within. -/
def Down {α : Type} (P : Program) (d : Kd α) (ok : α → Prop) (t : TypeId) : Prop :=
  ∀ (H : Type) (enc : TypeId × Value → H) (w : World) (base : Nat) (spare : Nat → Bool) (held : Bool) (fuel : Nat) (cs : List Value) (x : DataW H × List MemPlace), DataW.trod enc P w base spare held fuel t cs = some x → ∃ a, d.K w a cs ∧ ok a
variable {P : Program}
theorem down_int {t : TypeId} {k : IntKind} (ht : P.underlying t = some (.int k)) : Down P (Kd.int k) (fun n => (Lit.int k n).wf = true) t := by
  intro H enc w base spare held fuel cs x h
  obtain ⟨n, rfl, _, hw⟩ := DataW.trod_int ht h
  exact ⟨n, rfl, hw⟩
theorem down_bool {t : TypeId} (ht : P.underlying t = some .bool) : Down P Kd.bool (fun _ => True) t := by
  intro H enc w base spare held fuel cs x h
  obtain ⟨n, rfl, _⟩ := DataW.trod_bool ht h
  exact ⟨n, rfl, trivial⟩
theorem down_string {t : TypeId} (ht : P.underlying t = some .string) : Down P Kd.string (fun s => s.size ≤ maxLen) t := by
  intro H enc w base spare held fuel cs x h
  obtain ⟨n, rfl, _, hw⟩ := DataW.trod_string ht h
  exact ⟨n, rfl, hw⟩
theorem list_of {α : Type} (R : Nat → α → Prop) : ∀ n : Nat, (∀ i, i < n → ∃ a, R i a) → ∃ xs : List α, xs.length = n ∧ ∀ i a, xs[i]? = some a → R i a := by
  intro n
  induction n with
  | zero => intro _; exact ⟨[], rfl, fun i a h => by simp at h⟩
  | succ n ih =>
    intro h
    obtain ⟨xs, hl, hx⟩ := ih (fun i hi => h i (by omega))
    obtain ⟨a, ha⟩ := h n (by omega)
    refine ⟨xs ++ [a], by simp [hl], fun i b hb => ?_⟩
    rcases Nat.lt_or_ge i xs.length with hi | hi
    · rw [List.getElem?_append_left hi] at hb; exact hx i b hb
    · have hlt := (List.getElem?_eq_some_iff.1 hb).1
      rw [List.length_append, List.length_singleton] at hlt
      have : i = xs.length := by omega
      subst this
      simp at hb
      rw [← hb, hl]; exact ha
theorem down_slice {α : Type} {d : Kd α} {ok : α → Prop} {t e : TypeId} (ht : P.underlying t = some (.slice e)) (he : Down P d ok e) (hsz : P.cellsOf e = d.sz) : Down P (Kd.slice e d) (fun xs => ∀ x ∈ xs, ok x) t := by
  intro H enc w base spare held fuel cs x h
  rcases Go.Deep.open_slice ht h with ⟨rfl, _⟩ | ⟨a, len, cap, m, n, D, Pl, rfl, hb, hl, hm, hmm, _, hel⟩
  · exact ⟨[], ⟨none, 0, rfl, Nat.le_refl _, rfl, by simp, fun h => absurd h (Nat.lt_irrefl 0)⟩, fun x hx => by simp at hx⟩
  · have hlm : len ≤ m := by rw [hmm]; split <;> omega
    obtain ⟨xs, hxl, hx⟩ := list_of (fun i p => ∃ c, d.K w p c ∧ ok p ∧ w.cells? base (a.add (i * P.cellsOf e)) (P.cellsOf e) = some c) len (fun i hi => by
      obtain ⟨c, h1, h2⟩ := hel i (by omega)
      obtain ⟨p, h3, h4⟩ := he H enc w base spare held n c _ h2
      exact ⟨p, c, h3, h4, h1⟩)
    have hmax : maxLen = 9223372036854775807 := by decide
    refine ⟨xs, ⟨some a, cap, by rw [hxl], by omega, rfl, by omega, fun _ => ⟨a, rfl, fun j p hj => ?_⟩⟩, fun p hp => ?_⟩
    · obtain ⟨c, h1, _, h3⟩ := hx j p hj
      refine ⟨c, d.K_len h1, h1, fun i u hu => ?_⟩
      obtain ⟨_, h5, h6⟩ := World.cells?_some h3
      have hi : i < P.cellsOf e := by rw [hsz, ← d.K_len h1]; exact (List.getElem?_eq_some_iff.1 hu).1
      have h7 := h6 i hi
      rw [Go.Deep.add_add, hsz] at h7
      rw [h7]; exact hu
    · obtain ⟨i, hi, rfl⟩ := List.mem_iff_getElem.1 hp
      obtain ⟨_, _, h2, _⟩ := hx i _ (List.getElem?_eq_getElem hi)
      exact h2
/-- Fields in a row, from a cell on. -/
def FDown {α : Type} (P : Program) (d : Kd α) (ok : α → Prop) (fs : List Field) (o : Nat) : Prop :=
  ∀ (H : Type) (enc : TypeId × Value → H) (w : World) (base : Nat) (spare : Nat → Bool) (held : Bool) (n : Nat) (cs : List Value), cs.length = o + d.sz →
    (∀ f ∈ fs, ∃ x, DataW.trod enc P w base spare held n f.type ((cs.drop f.offset).take (P.cellsOf f.type)) = some x) → ∃ a, d.K w a (cs.drop o) ∧ ok a
theorem fdown_one {α : Type} {d : Kd α} {ok : α → Prop} {f : Field} {o : Nat} (hf : Down P d ok f.type) (ho : f.offset = o) (hs : P.cellsOf f.type = d.sz) : FDown P d ok [f] o := by
  intro H enc w base spare held n cs hl h
  obtain ⟨x, hx⟩ := h f (List.mem_singleton.2 rfl)
  rw [ho, List.take_of_length_le (by rw [List.length_drop, hs]; omega)] at hx
  exact hf H enc w base spare held n _ x hx
theorem fdown_cons {α β : Type} {a : Kd α} {b : Kd β} {oka : α → Prop} {okb : β → Prop} {f : Field} {fs : List Field} {o : Nat} (hf : Down P a oka f.type) (ho : f.offset = o) (hs : P.cellsOf f.type = a.sz) (hr : FDown P b okb fs (o + a.sz)) :
    FDown P (Kd.pair a b) (fun x => oka x.1 ∧ okb x.2) (f :: fs) o := by
  intro H enc w base spare held n cs hl h
  have hl : cs.length = o + (a.sz + b.sz) := hl
  obtain ⟨x, hx⟩ := h f List.mem_cons_self
  rw [ho, hs] at hx
  obtain ⟨p, hp, hpo⟩ := hf H enc w base spare held n _ x hx
  obtain ⟨q, hq, hqo⟩ := hr H enc w base spare held n cs (by omega) (fun g hg => h g (List.mem_cons_of_mem _ hg))
  refine ⟨(p, q), ⟨_, _, ?_, hp, hq⟩, hpo, hqo⟩
  rw [← List.drop_drop, List.take_append_drop]
theorem down_struct {α : Type} {d : Kd α} {ok : α → Prop} {t : TypeId} {fs : Array Field} (ht : P.underlying t = some (.struct fs)) (hf : FDown P d ok fs.toList 0) (hs : P.cellsOf t = d.sz) : Down P d ok t := by
  intro H enc w base spare held fuel cs x h
  obtain ⟨xs, n, _, _, hl, hxl, hx⟩ := DataW.trod_struct ht h
  have := hf H enc w base spare held n cs (by omega) (fun f hfm => by
    obtain ⟨i, hi, rfl⟩ := List.mem_iff_getElem.1 hfm
    have h1 : fs[i]? = some fs.toList[i] := by simp at hi; simp [hi]
    have h2 := hx i _ h1
    simp at hi
    rw [List.getElem?_eq_getElem (by omega)] at h2
    exact ⟨_, h2⟩)
  simpa using this
theorem down_iso {α β : Type} {d : Kd α} {ok : α → Prop} {t : TypeId} {f : β → α} (g : α → β) (hg : ∀ x, f (g x) = x) (h : Down P d ok t) : Down P (Kd.iso d f) (fun y => ok (f y)) t := by
  intro H enc w base spare held fuel cs x hx
  obtain ⟨a, h1, h2⟩ := h H enc w base spare held fuel cs x hx
  exact ⟨g a, by show d.K w (f (g a)) cs; rw [hg]; exact h1, by show ok (f (g a)); rw [hg]; exact h2⟩
/-- An argument that is a struct. -/
theorem arg_struct {α : Type} {d : Kd α} {ok : α → Prop} {t : TypeId} {fs : Array Field} (ht : P.underlying t = some (.struct fs)) (hd : Down P d ok t) {H : Type} {enc : TypeId × Value → H} {w : World} {r : Reach} {b0 : Nat} {base : Nat} {spare : Nat → Bool} {held : Bool} {v : Value} {x : DataW H} {p : List MemPlace}
    (hv : Value.okWide P w r b0 t v) (h : DataW.Trod enc P w base spare held t v x p) : ∃ a cs, v = .agg cs ∧ d.K w a cs.toList ∧ ok a := by
  obtain ⟨cs, rfl, _⟩ := okWide_struct ht hv
  obtain ⟨fuel, hf⟩ := h
  obtain ⟨a, h1, h2⟩ := hd H enc w base spare held fuel _ _ hf
  exact ⟨a, cs, rfl, by simpa [Value.cells] using h1, h2⟩
/-- An argument that is a slice. -/
theorem arg_slice {α : Type} {d : Kd α} {ok : α → Prop} {t e : TypeId} (ht : P.underlying t = some (.slice e)) (hd : Down P d ok e) (hsz : P.cellsOf e = d.sz) {H : Type} {enc : TypeId × Value → H} {w : World} {r : Reach} {b0 : Nat} {base : Nat} {spare : Nat → Bool} {held : Bool} {v : Value} {x : DataW H} {p : List MemPlace}
    (hv : Value.okWide P w r b0 t v) (h : DataW.Trod enc P w base spare held t v x p) : ∃ (A : Option Addr) (xs : List α) (c : Nat), v = .slice A xs.length c ∧ xs.length ≤ c ∧ d.C w A xs.length xs ∧ ∀ x ∈ xs, ok x := by
  obtain ⟨a0, len, cap, rfl⟩ := okWide_slice ht hv
  obtain ⟨fuel, hf⟩ := h
  obtain ⟨xs, ⟨A, c, he, hl, hc⟩, ho⟩ := down_slice ht hd hsz H enc w base spare held fuel _ _ hf
  simp [Value.cells] at he
  obtain ⟨rfl, rfl, rfl⟩ := he
  exact ⟨_, xs, _, rfl, hl, hc, ho⟩
end Go.Proofs.Ytjhihohofhhknaa.X
namespace Go.Proofs.Ytjhihohofhhknaa.PF
set_option linter.unusedSimpArgs false
set_option linter.unusedVariables false
open Go.RowKit Go.Proofs.YtjhihohofhhknaaW.PrintWords Go.Proofs.YtjhihohofhhknaaW.PrintLast Y
theorem w64 (n : Int) (h0 : -9223372036854775808 ≤ n) (h1 : n ≤ 9223372036854775807) : wrap64 n = n := by unfold wrap64; omega
theorem get!_out (s : ByteArray) (i : Nat) (h : ¬ i < s.size) : byteAt s i = 0 := by
  unfold byteAt
  have : s.get! i = default := getElem!_neg s.data i h
  rw [this]; rfl
theorem bt_byteAt (s : ByteArray) (i : Nat) : bt s (i : Int) = (byteAt s i : Int) := by
  unfold bt
  rw [Int.toNat_natCast]
  split
  · rename_i h
    unfold byteAt
    rw [get!_at s i h]; rfl
  · rename_i h
    rw [get!_out s i h]; rfl
theorem tdiv64 (c : Nat) (n : Nat) : Int.tdiv (c : Int) (n : Int) = ((c / n : Nat) : Int) := by
  rw [Int.tdiv_eq_ediv_of_nonneg (by omega)]; rfl
theorem tmod64 (c : Nat) (n : Nat) : Int.tmod (c : Int) (n : Int) = ((c % n : Nat) : Int) := by
  rw [Int.tmod_eq_emod_of_nonneg (by omega)]; rfl
theorem rdOf_at (xs : List ByteArray) (k : Nat) (h : k < xs.length) : rdOf ByteArray.empty xs (k : Int) = xs[k] := by
  unfold rdOf; rw [Int.toNat_natCast, List.getD_eq_getElem?_getD, List.getElem?_eq_getElem h]; rfl
theorem rd_int (xs : List Int) (k : Nat) (h : k < xs.length) : rd xs (k : Int) = xs[k] := by
  unfold rd; rw [Int.toNat_natCast, List.getD_eq_getElem?_getD, List.getElem?_eq_getElem h]; rfl
theorem w1 (i : Nat) (h : i < 1000000000) : wrap64 ((i : Int) + 1) = ((i + 1 : Nat) : Int) := w64 _ (by omega) (by omega)
theorem may_of_digit {c : Int} (h : isDigit c = true) : mayC c = true ∧ 0 ≤ c ∧ c < 256 := by
  unfold isDigit at h
  rw [Bool.and_eq_true, decide_eq_true_iff, decide_eq_true_iff] at h
  refine ⟨?_, by omega, by omega⟩
  unfold mayC
  rw [Bool.and_eq_true, Bool.and_eq_true, Bool.or_eq_true, decide_eq_true_iff, decide_eq_true_iff, decide_eq_true_iff]
  omega
theorem may_of_word {c : Int} (h : isWord c = true) : mayC c = true ∧ 0 ≤ c ∧ c < 256 := by
  unfold isWord isAlpha isDigit at h
  simp only [Bool.or_eq_true, Bool.and_eq_true, decide_eq_true_eq, beq_iff_eq] at h
  refine ⟨?_, by omega, by omega⟩
  unfold mayC
  rw [Bool.and_eq_true, Bool.and_eq_true, Bool.or_eq_true, decide_eq_true_iff, decide_eq_true_iff, decide_eq_true_iff]
  omega
theorem may_pos {c : Int} (h : mayC c = true) : 0 ≤ c := by
  unfold mayC at h
  rw [Bool.and_eq_true, Bool.and_eq_true, decide_eq_true_iff] at h
  exact h.1.1
theorem nil_of_size {s : ByteArray} (h : s.size = 0) : s.toList = [] := by
  rw [ByteArray.toList_eq]
  exact List.eq_nil_of_length_eq_zero (by simpa using h)
theorem size_of_nil {s : ByteArray} (h : s.toList = []) : s.size = 0 := by
  rw [ByteArray.toList_eq] at h
  have := congrArg List.length h
  simpa using this
theorem may_f (c : Int) : phalaroperef01_May.f c = some (mayC c) := by
  unfold phalaroperef01_May.f mayC
  by_cases h0 : 0 ≤ c
  · by_cases h1 : c ≤ 1114111
    · by_cases h2 : c < 55296
      · rw [if_pos h0, if_pos h1, if_pos h2]; simp [h0, h1, h2]
      · rw [if_pos h0, if_pos h1, if_neg h2]; simp [h0, h1, h2]
    · rw [if_pos h0, if_neg h1]; simp [h0, h1]
  · rw [if_neg h0]; simp [h0]
theorem digit_f (c : Int) : phalaroperef02_Digit.f c = some (isDigit c) := by
  unfold phalaroperef02_Digit.f isDigit
  by_cases h : 48 ≤ c
  · rw [if_pos h, decide_eq_true h]; rfl
  · rw [if_neg h, decide_eq_false h]; rfl
theorem alpha_f (c : Int) : phalaroperef02_Alpha.f c = some (isAlpha c) := by
  unfold phalaroperef02_Alpha.f isAlpha
  by_cases h : 65 ≤ c
  · by_cases h2 : c ≤ 90
    · rw [if_pos h, if_pos h2]; simp [h, h2]
    · by_cases h3 : 97 ≤ c
      · rw [if_pos h, if_neg h2, if_pos h3]; simp [h, h2, h3]
      · rw [if_pos h, if_neg h2, if_neg h3]; simp [h, h2, h3]
  · have h3 : ¬ 97 ≤ c := by omega
    rw [if_neg h, if_neg h3]; simp [h, h3]
theorem word_f (c : Int) : phalaroperef02_Word.f c = some (isWord c) := by
  unfold phalaroperef02_Word.f isWord
  rw [alpha_f]
  simp only [Option.bind_some]
  cases isAlpha c
  · rw [if_neg (by decide), digit_f]
    simp only [Option.bind_some]
    cases isDigit c
    · rw [if_neg (by decide)]; rfl
    · rw [if_pos rfl]; rfl
  · rw [if_pos rfl]; rfl
theorem hex_f (c : Int) : phalaroperef02_Hex.f c = some (isHex c) := by
  unfold phalaroperef02_Hex.f
  rw [digit_f]
  simp only [Option.bind_some]
  unfold isHex
  cases isDigit c with
  | true => rfl
  | false =>
    by_cases h1 : c ≥ 65
    · by_cases h2 : c ≤ 70
      · simp [h1, h2]
      · by_cases h3 : c ≥ 97 <;> simp [h1, h2, h3]
    · by_cases h3 : c ≥ 97 <;> simp [h1, h3]
theorem trip_f (s : ByteArray) : phalaroperef03_Triplet.f s = some (tri s 0) := by
  unfold phalaroperef03_Triplet.f tri bI
  have b0 : bt s 0 = (byteAt s 0 : Int) := bt_byteAt s 0
  have b1 : bt s 1 = (byteAt s 1 : Int) := bt_byteAt s 1
  have b2 : bt s 2 = (byteAt s 2 : Int) := bt_byteAt s 2
  by_cases h3 : 3 ≤ s.size
  · rw [if_pos (by omega), if_pos (by omega), decide_eq_true (by omega), b0, b1, b2]
    by_cases hp : (byteAt s 0 : Int) = 37
    · rw [if_pos hp, if_pos (by omega), hex_f, hp]
      simp only [Option.bind_some]
      cases isHex (byteAt s 1 : Int) with
      | true => rw [if_pos rfl, if_pos (by omega), hex_f]; simp
      | false => simp
    · rw [if_neg hp]; simp [hp]
  · rw [if_neg (by omega), decide_eq_false (by omega)]; rfl
/-- A name's end, as the reference tells it, is what our walk through it tells. -/
theorem may2_at (s : ByteArray) (f : Nat) : ∀ (k p e : Nat), s.size ≤ p + f → p ≤ s.size → e ≤ p → 0 < s.size → f + 1 < k →
    phalaroperef05_May2.f k (s.extract p s.size) (decide (p = e ∧ 0 < p)) = some ((endsN s f p e).2 == s.size) := by
  induction f with
  | zero =>
    intro k p e hf hp he hz hk
    obtain ⟨k, rfl⟩ : ∃ m, k = m + 1 := ⟨k - 1, by omega⟩
    have hps : p = s.size := by omega
    rw [phalaroperef05_May2.f, if_pos (nil_of_size (by rw [ext_size]; omega))]
    show _ = some ((p, e).2 == s.size)
    congr 1
    exact Bool.eq_iff_iff.2 (by simp; omega)
  | succ f ih =>
    intro k p e hf hp he hz hk
    obtain ⟨k, rfl⟩ : ∃ m, k = m + 1 := ⟨k - 1, by omega⟩
    by_cases hlt : p < s.size
    · have hsz := ext_size s p
      have hb : bt (s.extract p s.size) 0 = bI s p := by
        have h0 := bt_byteAt (s.extract p s.size) 0
        rw [ext_byteAt] at h0
        exact h0
      have hex : ∀ n, n ≤ s.size - p → (s.extract p s.size).extract n (s.extract p s.size).size = s.extract (p + n) s.size := fun n hn => by
        rw [hsz, ByteArray.extract_extract]
        congr 1
        omega
      have hE := endsN_in s f p e hlt
      have hL : phalaroperef05_May2.f (k + 1) (s.extract p s.size) (decide (p = e ∧ 0 < p)) = if isWord (bI s p) = true then (if 1 ≤ ((s.extract p s.size).size : Int) then (phalaroperef05_May2.f k (s.extract (p + 1) s.size) true) else none)
          else if tri s p = true then (if 3 ≤ ((s.extract p s.size).size : Int) then (phalaroperef05_May2.f k (s.extract (p + 3) s.size) true) else none)
          else if bI s p = 46 then (if decide (p = e ∧ 0 < p) = true then (if 1 ≤ ((s.extract p s.size).size : Int) then (phalaroperef05_May2.f k (s.extract (p + 1) s.size) false) else none) else some false) else some false := by
        rw [phalaroperef05_May2.f, if_neg (fun h => by have := size_of_nil h; omega), if_pos (by omega), hb, word_f, trip_f, tri_ext s p hp]
        simp only [Option.bind_some]
        rw [hex 1 (by omega)]
        by_cases ht : tri s p = true
        · have hin := tri_in ht
          rw [hex 3 (by omega)]
          simp [ht]
        · simp [ht]
      rw [hL, hE]
      clear hL hE
      by_cases hw : isWord (bI s p) = true
      · rw [if_pos hw, if_pos hw, if_pos (by omega), show true = decide (p + 1 = p + 1 ∧ 0 < p + 1) from by simp, ih k (p + 1) (p + 1) (by omega) (by omega) (by omega) hz (by omega)]
      rw [if_neg hw, if_neg hw]
      by_cases ht : tri s p = true
      · have hin := tri_in ht
        have h37 : bI s p = 37 := by unfold tri at ht; simp only [Bool.and_eq_true, beq_iff_eq] at ht; exact ht.1.2
        have hn : ¬ (bI s p = 46 ∧ 0 < p ∧ p = e) := by omega
        have h3 : (3 : Int) ≤ ((s.extract p s.size).size : Int) := by omega
        rw [if_pos ht, if_neg hn, if_pos ht, if_pos h3, show true = decide (p + 3 = p + 3 ∧ 0 < p + 3) from by simp, ih k (p + 3) (p + 3) (by omega) (by omega) (by omega) hz (by omega)]
      rw [if_neg ht]
      by_cases h46 : bI s p = 46
      · rw [if_pos h46]
        by_cases hb2 : p = e ∧ 0 < p
        · have hp2 : bI s p = 46 ∧ 0 < p ∧ p = e := ⟨h46, hb2.2, hb2.1⟩
          have h1 : (1 : Int) ≤ ((s.extract p s.size).size : Int) := by omega
          rw [if_pos (decide_eq_true hb2), if_pos hp2, if_pos h1, show false = decide (p + 1 = e ∧ 0 < p + 1) from (decide_eq_false (by omega)).symm, ih k (p + 1) e (by omega) (by omega) (by omega) hz (by omega)]
        · have hp2 : ¬ (bI s p = 46 ∧ 0 < p ∧ p = e) := fun h => hb2 ⟨h.2.2, h.2.1⟩
          have h37 : ¬ bI s p = 37 := by omega
          rw [if_neg (by rw [decide_eq_false hb2]; decide), if_neg hp2, if_neg ht, if_neg h37]
          congr 1
          exact (beq_eq_false_iff_ne.2 (by dsimp only; omega)).symm
      · have hp2 : ¬ (bI s p = 46 ∧ 0 < p ∧ p = e) := fun h => h46 h.1
        rw [if_neg h46, if_neg hp2, if_neg ht]
        congr 1
        refine (beq_eq_false_iff_ne.2 ?_).symm
        split
        · split <;> dsimp only <;> omega
        · dsimp only; omega
    · rw [endsN_out _ _ _ _ hlt]
      have hps : p = s.size := by omega
      rw [phalaroperef05_May2.f, if_pos (nil_of_size (by rw [ext_size]; omega))]
      congr 1
      exact Bool.eq_iff_iff.2 (by simp; omega)
theorem rname_f (s : ByteArray) (k : Nat) (hk : s.size + 1 < k) : phalaroperef05_May.f k s = some (nameMay s) := by
  unfold phalaroperef05_May.f
  by_cases h0 : 0 < s.size
  · have h := may2_at s s.size k 0 0 (by omega) (by omega) (by omega) h0 (by omega)
    rw [show s.extract 0 s.size = s from by simp, show decide (0 = 0 ∧ 0 < 0) = false from by simp] at h
    rw [h]
    unfold nameMay ends
    rw [decide_eq_true h0]; simp
  · obtain ⟨k, rfl⟩ : ∃ m, k = m + 1 := ⟨k - 1, by omega⟩
    rw [phalaroperef05_May2.f, if_pos (nil_of_size (by omega))]
    unfold nameMay
    rw [decide_eq_false h0]; rfl
end Go.Proofs.Ytjhihohofhhknaa.PF
namespace Go.Proofs.Ytjhihohofhhknaa.PF
set_option linter.unusedSimpArgs false
set_option linter.unusedVariables false
open Go.RowKit Go.Proofs.YtjhihohofhhknaaW.PrintWords Go.Proofs.YtjhihohofhhknaaW.PrintLast Y
theorem wm1 (i : Nat) (h : 0 < i) (h2 : i < 1000000000) : wrap64 ((i : Int) - 1) = ((i - 1 : Nat) : Int) := by unfold wrap64; omega
/-- Few parts, of few variables, of short texts. -/
def okQ (q : S42) : Prop := q.f0.size ≤ 200 ∧ q.f2.length ≤ 20 ∧ ∀ x ∈ q.f2, x.f0.size ≤ 200
def FewT (t : List S42) : Prop := t.length ≤ 30 ∧ ∀ q ∈ t, okQ q
theorem rfewT_l1 (t : List S42) (i : Nat) (hi : i < t.length) (hb : i < 1000000) (hn : t[i].f2.length ≤ 20) (P : Prop) (d : Nat) : ∀ j : Nat, j + d = t[i].f2.length → (∀ j' (h : j' < t[i].f2.length), j' < j → t[i].f2[j'].f0.size ≤ 200) →
    ((∀ x ∈ t[i].f2, x.f0.size ≤ 200) → ∃ b, Ev (fun k => phalaroperef07_Few.l0 k t ((i + 1 : Nat) : Int)) b ∧ (b = true → P)) → ∃ b, Ev (fun k => phalaroperef07_Few.l1 k t (i : Int) (j : Int)) b ∧ (b = true → P) := by
  induction d with
  | zero =>
    intro j hj hok next
    obtain ⟨b, h1, h2⟩ := next (fun x hx => by
      obtain ⟨j', hl, rfl⟩ := List.mem_iff_getElem.1 hx
      exact hok j' hl (by omega))
    refine ⟨b, Ev.step (fun k => ?_) h1, h2⟩
    simp only [phalaroperef07_Few.l1]
    rw [if_pos (by omega), if_pos (by omega), rdp_at t i hi, if_neg (by omega), w1 i (by omega)]
  | succ d ih =>
    intro j hj hok next
    have hlt : j < t[i].f2.length := by omega
    by_cases hs : t[i].f2[j].f0.size ≤ 200
    · obtain ⟨b, h1, h2⟩ := ih (j + 1) (by omega) (fun j' hl hjj => by
        rcases Nat.lt_or_ge j' j with h | h
        · exact hok j' hl h
        · obtain rfl : j' = j := by omega
          exact hs) next
      refine ⟨b, Ev.step (fun k => ?_) h1, h2⟩
      simp only [phalaroperef07_Few.l1]
      rw [if_pos (by omega), if_pos (by omega), rdp_at t i hi, if_pos (by omega), if_pos (by omega), rds_at _ j hlt, if_neg (by omega), w1 j (by omega)]
    · refine ⟨false, Ev.step (fun k => ?_) (Ev.now false), fun h => by cases h⟩
      simp only [phalaroperef07_Few.l1]
      rw [if_pos (by omega), if_pos (by omega), rdp_at t i hi, if_pos (by omega), if_pos (by omega), rds_at _ j hlt, if_pos (by omega)]
theorem rfewT_l0 (t : List S42) (d : Nat) : ∀ i : Nat, i + d = 31 → (∀ j (h : j < t.length), j < i → okQ t[j]) → ∃ b, Ev (fun k => phalaroperef07_Few.l0 k t (i : Int)) b ∧ (b = true → FewT t) := by
  induction d with
  | zero =>
    intro i hi hok
    refine ⟨decide ((t.length : Int) ≤ 30), Ev.step (f := fun k => phalaroperef07_Few.j1 k t (i : Int) false) (fun k => ?_) (Ev.step (fun k => ?_) (Ev.now _)), fun h => ?_⟩
    · simp only [phalaroperef07_Few.l0]
      rw [decide_eq_false (by omega : ¬ ((i : Int) < 31))]
      split <;> rfl
    · simp [phalaroperef07_Few.j1]
    · rw [decide_eq_true_iff] at h
      refine ⟨by omega, fun q hq => ?_⟩
      obtain ⟨j, hl, rfl⟩ := List.mem_iff_getElem.1 hq
      exact hok j hl (by omega)
  | succ d ih =>
    intro i hi hok
    by_cases hlt : i < t.length
    · have hj1 : ∀ k, phalaroperef07_Few.l0 (k + 1) t (i : Int) = phalaroperef07_Few.j1 k t (i : Int) true := fun k => by
        simp only [phalaroperef07_Few.l0]
        rw [if_pos (by omega), decide_eq_true (by omega : ((i : Int) < 31))]
      by_cases h0 : t[i].f0.size ≤ 200 ∧ t[i].f2.length ≤ 20
      · have := rfewT_l1 t i hlt (by omega) h0.2 (FewT t) t[i].f2.length 0 (by omega) (fun _ _ h => by omega) (fun hx => ih (i + 1) (by omega) (fun j hl hji => by
          rcases Nat.lt_or_ge j i with h | h
          · exact hok j hl h
          · obtain rfl : j = i := by omega
            exact ⟨h0.1, h0.2, hx⟩))
        obtain ⟨b, h1, h2⟩ := this
        refine ⟨b, Ev.step hj1 (Ev.step (f := fun k => phalaroperef07_Few.j2 k t (i : Int) false) (fun k => ?_) (Ev.step (fun k => ?_) h1)), h2⟩
        · simp only [phalaroperef07_Few.j1]
          rw [if_pos trivial, if_pos (by omega), if_pos (by omega), rdp_at t i hlt, if_neg (by omega), decide_eq_false (by omega)]
        · simp [phalaroperef07_Few.j2]
      · refine ⟨false, Ev.step hj1 (Ev.step (f := fun k => phalaroperef07_Few.j2 k t (i : Int) true) (fun k => ?_) (Ev.step (fun k => ?_) (Ev.now false))), fun h => by cases h⟩
        · simp only [phalaroperef07_Few.j1]
          rw [if_pos trivial, if_pos (by omega), if_pos (by omega), rdp_at t i hlt]
          by_cases h1 : t[i].f0.size ≤ 200
          · rw [if_neg (by omega), decide_eq_true (by omega)]
          · rw [if_pos (by omega)]
        · simp [phalaroperef07_Few.j2]
    · refine ⟨decide ((t.length : Int) ≤ 30), Ev.step (f := fun k => phalaroperef07_Few.j1 k t (i : Int) false) (fun k => ?_) (Ev.step (fun k => ?_) (Ev.now _)), fun h => ?_⟩
      · simp only [phalaroperef07_Few.l0]
        rw [if_neg (by omega)]
      · simp [phalaroperef07_Few.j1]
      · rw [decide_eq_true_iff] at h
        refine ⟨by omega, fun q hq => ?_⟩
        obtain ⟨j, hl, rfl⟩ := List.mem_iff_getElem.1 hq
        exact hok j hl (by omega)
theorem rfewT_f (t : List S42) : ∃ b, Ev (fun k => phalaroperef07_Few.f k t) b ∧ (b = true → FewT t) := rfewT_l0 t 31 0 (by omega) (fun _ _ h => by omega)
/-- Few variables, of short names. -/
def FewS (l : List S30) : Prop := l.length ≤ 12 ∧ ∀ x ∈ l, x.f0.size ≤ 200
theorem FewS.small {l : List S30} (h : FewS l) : smallV l := ⟨by have := h.1; omega, fun x hx => by have := h.2 x hx; omega⟩
/-- The piece of a literal lies in it. -/
theorem pieceN_le (s : ByteArray) : 0 ≤ X.pieceN s ∧ X.pieceN s ≤ s.size := by
  unfold X.pieceN
  split
  · omega
  split
  · omega
  split
  · rename_i h; have := tri_in h; omega
  · unfold X.takeU X.takeOf
    have := X.prefixS_le s 1
    split <;> dsimp only <;> omega
theorem pieces_l0 (s : ByteArray) (hs : s.size ≤ 1000000) (d : Nat) : ∀ (k : Nat) (a n : Int), (s.size : Int) - a ≤ d → 0 ≤ a → 0 ≤ n → a + n ≤ s.size → d < k → ∃ r, tmpl_pieces.l0 k s a n = some r := by
  induction d with
  | zero =>
    intro k a n hd ha hn han hk
    obtain ⟨k, rfl⟩ : ∃ m, k = m + 1 := ⟨k - 1, by omega⟩
    exact ⟨a, by simp only [tmpl_pieces.l0]; rw [if_neg (by omega)]⟩
  | succ d ih =>
    intro k a n hd ha hn han hk
    obtain ⟨k, rfl⟩ : ∃ m, k = m + 1 := ⟨k - 1, by omega⟩
    simp only [tmpl_pieces.l0]
    by_cases h0 : n > 0
    · have hsz := ext_size s (a + n).toNat
      have hp := pieceN_le (s.extract (a + n).toNat s.size)
      rw [if_pos h0, w64 _ (by omega) (by omega), if_pos (by omega), if_pos (by omega)]
      have hf : tmpl_piece.f (s.extract (a + n).toNat s.size) = some (X.pieceN (s.extract (a + n).toNat s.size)) := by unfold tmpl_piece.f; rw [if_pos (by omega)]
      rw [hf]
      simp only [Option.bind_some]
      exact ih k (a + n) _ (by omega) (by omega) hp.1 (by omega) (by omega)
    · exact ⟨a, by rw [if_neg h0]⟩
theorem pieces_f (s : ByteArray) (hs : s.size ≤ 1000000) : ∃ r, tmpl_pieces.f bigK s = some r := by
  unfold tmpl_pieces.f
  have hf : tmpl_piece.f s = some (X.pieceN s) := by unfold tmpl_piece.f; rw [if_pos (by omega)]
  rw [hf]
  have hp := pieceN_le s
  exact pieces_l0 s hs s.size bigK 0 _ (by omega) (by omega) hp.1 (by omega) (by unfold bigK; omega)
/-- Is a part a literal, or an expression? -/
def fineP (x : S42) : Bool := (tmpl_fine.f x.f0 x.f1 x.f2).getD false
def okB (x : S42) : Prop := 0 ≤ x.f1 ∧ x.f1 ≤ 255
theorem fine_f (x : S42) (h : okQ x) (hb : okB x) : tmpl_fine.f x.f0 x.f1 x.f2 = some (fineP x) := by
  have hsm : fineSmall x.f0 x.f1 x.f2 := ⟨⟨by have := h.1; omega, hb.1, hb.2⟩, by have := h.2.1; omega, fun y hy => by have := h.2.2 y hy; omega⟩
  obtain ⟨r, hr⟩ := pieces_f x.f0 (by have := h.1; omega)
  unfold fineP tmpl_fine.f
  rw [if_pos hsm, show tmpl_pieces.f Y.bigK x.f0 = some r from hr]
  rfl
/-- Are parts a template, behind one? -/
def mayP : Option S42 → List S42 → Bool
  | _, [] => true
  | p, x :: l => fineP x && !(p.any fun q => x.f2.length == 0 && q.f2.length == 0) && mayP (some x) l
def prevP (t : List S42) (i : Nat) : Option S42 := if i = 0 then none else t[i - 1]?
theorem tmay_l0 (t : List S42) (ht : t.length ≤ 1000) (hq : ∀ q ∈ t, okQ q ∧ okB q) (d : Nat) : ∀ k i : Nat, i + d = t.length → d < k → tmpl_May.l0 k t t (t.length : Int) (i : Int) = some (mayP (prevP t i) (t.drop i)) := by
  induction d with
  | zero =>
    intro k i hi hk
    obtain ⟨k, rfl⟩ : ∃ m, k = m + 1 := ⟨k - 1, by omega⟩
    simp only [tmpl_May.l0]
    rw [if_neg (by omega), List.drop_eq_nil_iff.2 (by omega)]
    rfl
  | succ d ih =>
    intro k i hi hk
    obtain ⟨k, rfl⟩ : ∃ m, k = m + 1 := ⟨k - 1, by omega⟩
    have hlt : i < t.length := by omega
    have hx := hq t[i] (List.getElem_mem hlt)
    have hnext := ih k (i + 1) (by omega) (by omega)
    have hprev : prevP t (i + 1) = some t[i] := by unfold prevP; rw [if_neg (by omega)]; simp [hlt]
    rw [hprev] at hnext
    simp only [tmpl_May.l0]
    rw [if_pos (by omega), if_pos (by omega), if_pos (by omega), rdp_at t i hlt, fine_f _ hx.1 hx.2, List.drop_eq_getElem_cons hlt]
    simp only [Option.bind_some, mayP]
    cases hf : fineP t[i] with
    | false => simp
    | true =>
      rw [if_pos rfl]
      by_cases h0 : i = 0
      · subst h0
        rw [if_neg (by omega), w1 0 (by omega), hnext]
        simp [prevP]
      · have hp : prevP t i = some t[i - 1] := by unfold prevP; rw [if_neg h0]; simp [show i - 1 < t.length by omega]
        rw [if_pos (by omega), wm1 i (by omega) (by omega), hp, rdp_at t (i - 1) (by omega), w1 i (by omega), hnext]
        by_cases e1 : t[i].f2.length = 0
        · rw [if_pos (by omega), if_pos (by omega), if_pos (by omega)]
          by_cases e2 : t[i - 1].f2.length = 0
          · rw [if_pos (by omega)]; simp [e1, e2]
          · rw [if_neg (by omega)]; simp [e1, e2]
        · rw [if_neg (by omega)]; simp [e1]
theorem tmay_f (t : List S42) (ht : t.length ≤ 1000) (hq : ∀ q ∈ t, okQ q ∧ okB q) : tmpl_May.f bigK t = some (mayP none t) := by
  exact tmay_l0 t ht hq t.length bigK 0 (by omega) (by unfold bigK; omega)
theorem mayP_take (t : List S42) : ∀ (p : Option S42) (n : Nat), mayP p t = true → mayP p (t.take n) = true := by
  induction t with
  | nil => intro p n _; simp [mayP]
  | cons x l ih =>
    intro p n h
    cases n with
    | zero => simp [mayP]
    | succ n =>
      rw [List.take_succ_cons]
      unfold mayP at h ⊢
      rw [Bool.and_eq_true] at h ⊢
      exact ⟨h.1, ih _ n h.2⟩
theorem fit_f (t : List S42) (s : List S30) (ht : t.length ≤ 1000) (hq : ∀ q ∈ t, okQ q ∧ okB q) (hs : smallV s) : fit_Fit.f t s = some (fitV (mayP none t) t s) := by
  have hsm : fitSmall t s := ⟨⟨hs, by omega⟩, fun q h => ⟨(hq q h).2, by have := (hq q h).1.2.1; omega⟩⟩
  unfold fit_Fit.f
  rw [if_pos hsm, show tmpl_May.f Y.bigK t = some (mayP none t) from tmay_f t ht hq]
  rfl
theorem fitV_ok (tm : Bool) (t : List S42) (s : List S30) : fitV tm t s = 0 ↔ tm = true ∧ mayS s = true ∧ ∀ q ∈ t, ∀ x ∈ q.f2, badB s q.f1 x = false := by
  have e : (t.any fun q => q.f2.any (badB s q.f1)) = true ↔ ∃ q ∈ t, ∃ x ∈ q.f2, badB s q.f1 x = true := by simp [List.any_eq_true]
  unfold fitV
  split
  · rename_i h
    rw [Bool.and_eq_true] at h
    split
    · rename_i hb
      obtain ⟨q, hq, x, hx, hb⟩ := e.1 hb
      refine ⟨fun h => by omega, fun h' => ?_⟩
      have := h'.2.2 q hq x hx
      rw [hb] at this; cases this
    · rename_i hb
      refine ⟨fun _ => ⟨h.1, h.2, fun q hq x hx => ?_⟩, fun _ => rfl⟩
      cases hbb : badB s q.f1 x with
      | false => rfl
      | true => exact absurd (e.2 ⟨q, hq, x, hx, hbb⟩) hb
  · rename_i h
    refine ⟨fun h => by omega, fun h' => absurd (by rw [h'.1, h'.2.1]; rfl) h⟩
end Go.Proofs.Ytjhihohofhhknaa.PF
namespace Go.Proofs.Ytjhihohofhhknaa.PF
set_option linter.unusedSimpArgs false
set_option linter.unusedVariables false
open Go.RowKit Go.Proofs.YtjhihohofhhknaaW.PrintWords Go.Proofs.YtjhihohofhhknaaW.PrintLast Y
theorem mayFrom_iff (l : List S30) : ∀ seen, mayFrom seen l = true ↔ (∀ x ∈ l, varOk x = true ∧ ∀ y ∈ seen, y.toList ≠ x.f0.toList) ∧ l.Pairwise (fun a b => a.f0.toList ≠ b.f0.toList) := by
  induction l with
  | nil => intro seen; simp [mayFrom]
  | cons x l ih =>
    intro seen
    unfold mayFrom
    by_cases hs : (seen.any fun y => y.toList == x.f0.toList) = true
    · rw [if_pos hs]
      refine ⟨(fun h => by cases h), fun h => ?_⟩
      obtain ⟨y, hy, he⟩ := List.any_eq_true.1 hs
      exact absurd (beq_iff_eq.1 he) ((h.1 x List.mem_cons_self).2 y hy)
    · rw [if_neg hs]
      have hs' : ∀ y ∈ seen, y.toList ≠ x.f0.toList := fun y hy he => hs (List.any_eq_true.2 ⟨y, hy, beq_iff_eq.2 he⟩)
      by_cases hv : varOk x = true
      · rw [if_pos hv, ih, List.pairwise_cons]
        constructor
        · rintro ⟨h1, h2⟩
          refine ⟨fun y hy => ?_, fun y hy => ((h1 y hy).2 _ List.mem_cons_self), h2⟩
          rcases List.mem_cons.1 hy with rfl | hy
          · exact ⟨hv, hs'⟩
          · exact ⟨(h1 y hy).1, fun z hz => (h1 y hy).2 z (List.mem_cons_of_mem _ hz)⟩
        · rintro ⟨h1, h2, h3⟩
          refine ⟨fun y hy => ⟨(h1 y (List.mem_cons_of_mem _ hy)).1, fun z hz => ?_⟩, h3⟩
          rcases List.mem_cons.1 hz with rfl | hz
          · exact h2 y hy
          · exact (h1 y (List.mem_cons_of_mem _ hy)).2 z hz
      · rw [if_neg hv]
        exact ⟨(fun h => by cases h), fun h => absurd (h.1 x List.mem_cons_self).1 hv⟩
theorem mayS_iff (s : List S30) : mayS s = true ↔ ((∀ x ∈ s, varOk x = true) ∧ s.Pairwise (fun a b => a.f0.toList ≠ b.f0.toList)) ∧ s.length ≤ 8 := by
  unfold mayS
  rw [Bool.and_eq_true, mayFrom_iff, decide_eq_true_iff]
  simp
theorem varOk_iff (x : S30) : varOk x = true ↔ nameMay x.f0 = true ∧ (1 ≤ x.f1 ∧ x.f1 ≤ 3) ∧ (1 ≤ x.f3 ∧ x.f3 ≤ 4) ∧ 0 ≤ x.f4 ∧ x.f4 ≤ 8 := by
  unfold varOk
  simp [Bool.and_eq_true, and_assoc]
theorem findV_mem (l : List S30) (nm : ByteArray) : (findV l nm).2 = true → (findV l nm).1 ∈ l ∧ (findV l nm).1.f0.toList = nm.toList := by
  induction l with
  | nil => intro h; cases h
  | cons x l ih =>
    unfold findV
    split
    · rename_i h; intro _; exact ⟨List.mem_cons_self, beq_iff_eq.1 h⟩
    · intro h; exact ⟨List.mem_cons_of_mem _ (ih h).1, (ih h).2⟩
theorem findV_none (l : List S30) (nm : ByteArray) (h : ∀ x ∈ l, x.f0.toList ≠ nm.toList) : (findV l nm).2 = false := by
  cases e : (findV l nm).2 with
  | false => rfl
  | true => have := findV_mem l nm e; exact absurd this.2 (h _ this.1)
theorem findV_map (f : S30 → S30) (hf : ∀ x, (f x).f0 = x.f0) (l : List S30) (nm : ByteArray) : (findV (l.map f) nm).2 = (findV l nm).2 ∧ ((findV l nm).2 = true → (findV (l.map f) nm).1 = f (findV l nm).1) := by
  induction l with
  | nil => exact ⟨rfl, fun h => by cases h⟩
  | cons x l ih =>
    rw [List.map_cons]
    unfold findV
    rw [hf]
    split
    · exact ⟨rfl, fun _ => rfl⟩
    · exact ih
theorem findV_without (l : List S30) (nm : ByteArray) : ∀ i (h : i < l.length), l[i].f0.toList ≠ nm.toList → findV (l.take i ++ l.drop (i + 1)) nm = findV l nm := by
  induction l with
  | nil => intro i h; simp at h
  | cons x l ih =>
    intro i h hne
    cases i with
    | zero =>
      simp only [List.take_zero, List.nil_append, Nat.zero_add, List.drop_succ_cons, List.drop_zero]
      conv => rhs; unfold findV
      have hne' : ¬ (x.f0.toList == nm.toList) = true := fun e => hne (beq_iff_eq.1 e)
      rw [if_neg hne']
    | succ i =>
      rw [List.take_succ_cons, List.drop_succ_cons, List.cons_append]
      unfold findV
      rw [ih i (by simpa using h) (by simpa using hne)]
theorem mem_without {l : List S30} {i : Nat} {x : S30} (h : x ∈ l.take i ++ l.drop (i + 1)) : x ∈ l := by
  rcases List.mem_append.1 h with h | h
  · exact List.mem_of_mem_take h
  · exact List.mem_of_mem_drop h
theorem without_sub (l : List S30) (i : Nat) : (l.take i ++ l.drop (i + 1)).Sublist l := by
  rw [← List.eraseIdx_eq_take_drop_succ]; exact List.eraseIdx_sublist l i
theorem mayS_sub {l m : List S30} (h : m.Sublist l) (hl : mayS l = true) : mayS m = true := by
  rw [mayS_iff] at hl ⊢
  exact ⟨⟨fun x hx => hl.1.1 x (h.mem hx), hl.1.2.sublist h⟩, Nat.le_trans h.length_le hl.2⟩
theorem smallV_of {s s' : List S30} (h : FewS s) (hl : s'.length ≤ s.length) (hx : ∀ x ∈ s', x.f0.size ≤ 200) : smallV s' := ⟨by have := h.1; omega, fun x hx' => by have := hx x hx'; omega⟩
/-! ### FitMissing -/
def hasN (l : List ByteArray) (nm : ByteArray) : Bool := l.any fun y => y.toList == nm.toList
theorem rhas_l0 (l : List ByteArray) (nm : ByteArray) (hl : l.length ≤ 1000000) (d : Nat) : ∀ k i : Nat, i + d = l.length → d < k → phalaroperef07_Has.l0 k l nm (i : Int) = some (hasN (l.drop i) nm) := by
  induction d with
  | zero =>
    intro k i hi hk
    obtain ⟨k, rfl⟩ : ∃ m, k = m + 1 := ⟨k - 1, by omega⟩
    simp only [phalaroperef07_Has.l0]
    rw [if_neg (by omega), List.drop_eq_nil_iff.2 (by omega)]
    rfl
  | succ d ih =>
    intro k i hi hk
    obtain ⟨k, rfl⟩ : ∃ m, k = m + 1 := ⟨k - 1, by omega⟩
    have hlt : i < l.length := by omega
    simp only [phalaroperef07_Has.l0]
    rw [if_pos (by omega), if_pos (by omega), rdOf_at l i hlt, w1 i (by omega), ih k (i + 1) (by omega) (by omega), List.drop_eq_getElem_cons hlt]
    unfold hasN
    rw [List.any_cons]
    by_cases h : l[i].toList = nm.toList
    · rw [if_pos h, beq_iff_eq.2 h]; rfl
    · rw [if_neg h, beq_eq_false_iff_ne.2 h]; rfl
theorem rhas_f (l : List ByteArray) (nm : ByteArray) (hl : l.length ≤ 1000000) (k : Nat) (hk : l.length < k) : phalaroperef07_Has.f k l nm = some (hasN l nm) := by
  exact rhas_l0 l nm hl l.length k 0 (by omega) (by omega)
theorem evHas (l : List ByteArray) (nm : ByteArray) (hl : l.length ≤ 1000000) : Ev (fun k => phalaroperef07_Has.f k l nm) (hasN l nm) := ⟨l.length + 1, fun k hk => rhas_f l nm hl k (by omega)⟩
/-- One name more, if it isn't there. -/
def addN (l : List ByteArray) (nm : ByteArray) : List ByteArray := if hasN l nm = true then l else l ++ [nm]
def namesQ (acc : List ByteArray) (xs : List S37) : List ByteArray := xs.foldl (fun a x => addN a x.f0) acc
def namesT (acc : List ByteArray) (t : List S42) : List ByteArray := t.foldl (fun a q => namesQ a q.f2) acc
theorem addN_len (l : List ByteArray) (nm : ByteArray) : (addN l nm).length ≤ l.length + 1 := by unfold addN; split <;> simp
theorem rnames_l1 (t : List S42) (i : Nat) (hi : i < t.length) (hib : i < 1000000) (R : List ByteArray) (d : Nat) : ∀ (j : Nat) (acc : List ByteArray), j + d = t[i].f2.length → t[i].f2.length ≤ 1000000 → acc.length + d ≤ 1000000 →
    Ev (fun k => phalaroperef07_Names.l0 k t (namesQ acc (t[i].f2.drop j)) ((i + 1 : Nat) : Int)) R → Ev (fun k => phalaroperef07_Names.l1 k t acc (i : Int) (j : Int)) R := by
  induction d with
  | zero =>
    intro j acc hj hm hl next
    rw [List.drop_eq_nil_iff.2 (by omega)] at next
    refine Ev.step (fun k => ?_) next
    simp only [phalaroperef07_Names.l1]
    rw [if_pos (by omega), if_pos (by omega), rdp_at t i hi, if_neg (by omega), w1 i (by omega)]
    rfl
  | succ d ih =>
    intro j acc hj hm hl next
    have hlt : j < t[i].f2.length := by omega
    rw [List.drop_eq_getElem_cons hlt] at next
    refine Ev.step (f := fun k => (phalaroperef07_Has.f k acc t[i].f2[j].f0).bind fun b => if b = true then phalaroperef07_Names.l1 k t acc (i : Int) ((j + 1 : Nat) : Int) else if acc.length < 8796093022208 then phalaroperef07_Names.l1 k t (acc ++ [t[i].f2[j].f0]) (i : Int) ((j + 1 : Nat) : Int) else none) (fun k => ?_) ?_
    · simp only [phalaroperef07_Names.l1]
      rw [if_pos (by omega), if_pos (by omega), rdp_at t i hi, if_pos (by omega), if_pos (by omega), rds_at _ j hlt, w1 j (by omega)]
    · refine Ev.bind (evHas acc _ (by omega)) ?_
      cases hb : hasN acc t[i].f2[j].f0 with
      | true =>
        simp only [if_true]
        refine ih (j + 1) acc (by omega) hm (by omega) ?_
        have e : namesQ acc (t[i].f2[j] :: t[i].f2.drop (j + 1)) = namesQ acc (t[i].f2.drop (j + 1)) := by unfold namesQ; rw [List.foldl_cons]; unfold addN; rw [if_pos hb]
        rw [e] at next; exact next
      | false =>
        simp only [Bool.false_eq_true, if_false, if_pos (show acc.length < 8796093022208 by omega)]
        refine ih (j + 1) (acc ++ [t[i].f2[j].f0]) (by omega) hm (by simp; omega) ?_
        have e : namesQ acc (t[i].f2[j] :: t[i].f2.drop (j + 1)) = namesQ (acc ++ [t[i].f2[j].f0]) (t[i].f2.drop (j + 1)) := by unfold namesQ; rw [List.foldl_cons]; unfold addN; rw [if_neg (by rw [hb]; decide)]
        rw [e] at next; exact next
theorem namesQ_len (xs : List S37) : ∀ acc, (namesQ acc xs).length ≤ acc.length + xs.length := by
  induction xs with
  | nil => intro acc; simp [namesQ]
  | cons x xs ih =>
    intro acc
    have h1 := ih (addN acc x.f0)
    have h2 := addN_len acc x.f0
    unfold namesQ at h1 ⊢
    rw [List.foldl_cons, List.length_cons]; omega
theorem rnames_l0 (t : List S42) (ht : t.length ≤ 30) (hq : ∀ q ∈ t, q.f2.length ≤ 20) (d : Nat) : ∀ (i : Nat) (acc : List ByteArray), i + d = t.length → acc.length + 20 * d ≤ 1000 →
    Ev (fun k => phalaroperef07_Names.l0 k t acc (i : Int)) (namesT acc (t.drop i)) := by
  induction d with
  | zero =>
    intro i acc hi hl
    rw [List.drop_eq_nil_iff.2 (by omega)]
    refine Ev.step (fun k => ?_) (Ev.now _)
    simp only [phalaroperef07_Names.l0]
    rw [if_neg (by omega)]
    rfl
  | succ d ih =>
    intro i acc hi hl
    have hlt : i < t.length := by omega
    have h20 := hq t[i] (List.getElem_mem hlt)
    have hn := namesQ_len t[i].f2 acc
    refine Ev.step (f := fun k => phalaroperef07_Names.l1 k t acc (i : Int) 0) (fun k => ?_) (rnames_l1 t i hlt (by omega) _ t[i].f2.length 0 acc (by omega) (by omega) (by omega) ?_)
    · simp only [phalaroperef07_Names.l0]
      rw [if_pos (by omega)]
    · have := ih (i + 1) (namesQ acc t[i].f2) (by omega) (by omega)
      rw [List.drop_eq_getElem_cons hlt]
      exact this
theorem evNames (t : List S42) (ht : FewT t) : Ev (fun k => phalaroperef07_Names.f k t) (namesT [] t) := by
  exact rnames_l0 t ht.1 (fun q h => (ht.2 q h).2.1) t.length 0 [] (by omega) (by have := ht.1; simp; omega)
theorem addN_mem (l : List ByteArray) (nm y : ByteArray) : hasN (addN l nm) y = true ↔ hasN l y = true ∨ nm.toList = y.toList := by
  unfold addN
  split
  · rename_i h
    refine ⟨.inl, fun h' => ?_⟩
    rcases h' with h' | h'
    · exact h'
    · unfold hasN at h ⊢; rw [← h']; exact h
  · unfold hasN; rw [List.any_append]; simp
theorem namesQ_mem (xs : List S37) (y : ByteArray) : ∀ acc, hasN (namesQ acc xs) y = true ↔ hasN acc y = true ∨ ∃ x ∈ xs, x.f0.toList = y.toList := by
  induction xs with
  | nil => intro acc; simp [namesQ]
  | cons x xs ih =>
    intro acc
    show hasN (namesQ (addN acc x.f0) xs) y = true ↔ _
    rw [ih, addN_mem]; simp only [List.mem_cons, exists_eq_or_imp, or_assoc]
theorem namesT_mem (t : List S42) (y : ByteArray) : ∀ acc, hasN (namesT acc t) y = true ↔ hasN acc y = true ∨ ∃ q ∈ t, ∃ x ∈ q.f2, x.f0.toList = y.toList := by
  induction t with
  | nil => intro acc; simp [namesT]
  | cons q t ih =>
    intro acc
    show hasN (namesT (namesQ acc q.f2) t) y = true ↔ _
    rw [ih, namesQ_mem]; simp only [List.mem_cons, exists_eq_or_imp, or_assoc]
theorem namesT_len (t : List S42) (h : ∀ q ∈ t, q.f2.length ≤ 20) : ∀ acc, (namesT acc t).length ≤ acc.length + 20 * t.length := by
  induction t with
  | nil => intro acc; simp [namesT]
  | cons q t ih =>
    intro acc
    have h1 := ih (fun q' h' => h q' (List.mem_cons_of_mem _ h')) (namesQ acc q.f2)
    have h2 := namesQ_len q.f2 acc
    have h3 := h q List.mem_cons_self
    unfold namesT at h1 ⊢
    rw [List.foldl_cons, List.length_cons]; omega
theorem FewT.names {t : List S42} (h : FewT t) : (namesT [] t).length ≤ 600 := by
  have := namesT_len t (fun q hq => (h.2 q hq).2.1) []
  have := h.1
  simp at *; omega
end Go.Proofs.Ytjhihohofhhknaa.PF
namespace Go.Proofs.Ytjhihohofhhknaa.PF
set_option linter.unusedSimpArgs false
set_option linter.unusedVariables false
open Go.RowKit Go.Proofs.YtjhihohofhhknaaW.PrintWords Go.Proofs.YtjhihohofhhknaaW.PrintLast Y
def encL (c : Nat) : List Nat := if c < 128 then [c] else if c < 2048 then [192 + c / 64, 128 + c % 64] else if c < 65536 then [224 + c / 4096, 128 + c / 64 % 64, 128 + c % 64] else [240 + c / 262144, 128 + c / 4096 % 64, 128 + c / 64 % 64, 128 + c % 64]
theorem encL_lt (c : Nat) (hc : c ≤ 1114111) : ∀ x ∈ encL c, x < 256 := by
  intro x hx
  unfold encL at hx
  split at hx
  · simp at hx; omega
  split at hx
  · simp at hx; omega
  split at hx
  · simp at hx; omega
  · simp at hx; omega
theorem tail_l0 (k : Nat) (c : Nat) (hc : c ≤ 1114111) (m i : Nat) (hm : i ≤ m) (h3 : m ≤ 3) (hk : m - i < k) : phalaroperef01_tail.l0 k (c : Int) (m : Int) (i : Int) = some ((128 + c / 64 ^ (m - i) % 64 : Nat) : Int) := by
  induction k generalizing c i with
  | zero => omega
  | succ k ih =>
    simp only [phalaroperef01_tail.l0]
    by_cases h : i < m
    · rw [if_pos (by omega), show (64 : Int) = ((64 : Nat) : Int) from rfl, tdiv64, w64 _ (by omega) (by have : c / 64 ≤ c := Nat.div_le_self _ _; omega),
        show wrap64 ((i : Int) + 1) = ((i + 1 : Nat) : Int) from w64 _ (by omega) (by omega), ih (c / 64) (by have : c / 64 ≤ c := Nat.div_le_self _ _; omega) (i + 1) (by omega) (by omega)]
      congr 3
      rw [Nat.div_div_eq_div_mul, ← Nat.pow_succ', show (m - (i + 1)).succ = m - i from by omega]
    · rw [if_neg (by omega), show (64 : Int) = ((64 : Nat) : Int) from rfl, tmod64, w64 _ (by omega) (by omega), show m - i = 0 from by omega]
      congr 1
      rw [Nat.pow_zero, Nat.div_one]
      omega
theorem tail_f (k c : Nat) (hc : c ≤ 1114111) (m : Nat) (h3 : m ≤ 3) (hk : m < k) : phalaroperef01_tail.f k (c : Int) (m : Int) = some ((128 + c / 64 ^ m % 64 : Nat) : Int) := by
  have := tail_l0 k c hc m 0 (by omega) h3 (by omega)
  simpa [phalaroperef01_tail.f] using this
theorem one_f (k c : Nat) (hc : c ≤ 1114111) (hk : 3 < k) : phalaroperef01_One.f k (c : Int) = some (strOfNums ((encL c).map fun (n : Nat) => (n : Int))) := by
  have t0 := tail_f k c hc 0 (by omega) (by omega)
  have t1 := tail_f k c hc 1 (by omega) (by omega)
  have t2 := tail_f k c hc 2 (by omega) (by omega)
  unfold phalaroperef01_One.f encL
  by_cases h1 : c < 128
  · rw [if_pos (by omega), if_pos h1]
    congr 2
    simp only [List.map_cons, List.map_nil, List.cons.injEq, and_true]
    omega
  rw [if_neg (by omega), if_neg h1]
  by_cases h2 : c < 2048
  · rw [if_pos (by omega), if_pos h2, show (0 : Int) = ((0 : Nat) : Int) from rfl, t0]
    simp only [Option.bind_some]
    congr 2
    rw [show (64 : Int) = ((64 : Nat) : Int) from rfl, tdiv64, w64 ((c / 64 : Nat) : Int) (by omega) (by omega), w64 _ (by omega) (by omega)]
    simp only [List.map_cons, List.map_nil, List.cons.injEq, and_true]
    constructor
    · omega
    · simp
  rw [if_neg (by omega), if_neg h2]
  by_cases h3 : c < 65536
  · rw [if_pos (by omega), if_pos h3, show (0 : Int) = ((0 : Nat) : Int) from rfl, t0, show (1 : Int) = ((1 : Nat) : Int) from rfl, t1]
    simp only [Option.bind_some]
    congr 2
    rw [show (4096 : Int) = ((4096 : Nat) : Int) from rfl, tdiv64, w64 ((c / 4096 : Nat) : Int) (by omega) (by omega), w64 _ (by omega) (by omega)]
    simp only [List.map_cons, List.map_nil, List.cons.injEq, and_true]
    refine ⟨by omega, by simp, by simp⟩
  · rw [if_neg (by omega), if_neg h3, show (0 : Int) = ((0 : Nat) : Int) from rfl, t0, show (1 : Int) = ((1 : Nat) : Int) from rfl, t1, show (2 : Int) = ((2 : Nat) : Int) from rfl, t2]
    simp only [Option.bind_some]
    congr 2
    rw [show (262144 : Int) = ((262144 : Nat) : Int) from rfl, tdiv64, w64 ((c / 262144 : Nat) : Int) (by omega) (by omega), w64 _ (by omega) (by omega)]
    simp only [List.map_cons, List.map_nil, List.cons.injEq, and_true]
    refine ⟨by omega, by simp, by simp, by simp⟩
def bytesN (s : ByteArray) (n : Nat) : List Nat := (List.range n).map (byteAt s)
theorem toNat_inj_list {a b : List UInt8} (h : a.map UInt8.toNat = b.map UInt8.toNat) : a = b := by
  induction a generalizing b with
  | nil => cases b with
    | nil => rfl
    | cons y b => simp at h
  | cons x a ih => cases b with
    | nil => simp at h
    | cons y b =>
      simp only [List.map_cons, List.cons.injEq] at h
      rw [UInt8.toNat_inj.1 h.1, ih h.2]
theorem extract_nats (s : ByteArray) (n : Nat) (h : n ≤ s.size) : (s.extract 0 n).toList.map UInt8.toNat = bytesN s n := by
  rw [ByteArray.toList_eq]
  have hs : s.data.size = s.size := rfl
  apply List.ext_getElem
  · simp [ByteArray.data_extract, bytesN]; omega
  · intro i h1 h2
    have hi : i < n := by simpa [bytesN] using h2
    simp only [bytesN, List.getElem_map, List.getElem_range]
    unfold byteAt
    rw [get!_at s i (by omega)]
    simp [ByteArray.data_extract]
theorem same_text (s : ByteArray) (l : List Nat) (hl : ∀ x ∈ l, x < 256) (n : Nat) (h : n ≤ s.size) : ((strOfNums (l.map fun (n : Nat) => (n : Int))).toList = (s.extract 0 n).toList) = (l = bytesN s n) := by
  have e : (strOfNums (l.map fun (n : Nat) => (n : Int))).toList.map UInt8.toNat = l := by
    rw [ByteArray.toList_eq, strOfNums_data, List.map_map, List.map_map]
    conv => rhs; rw [← List.map_id l]
    refine List.map_congr_left fun x hx => ?_
    have := hl x hx
    simp
    omega
  rw [eq_iff_iff]
  constructor
  · intro he; rw [← e, he, extract_nats s n h]
  · intro he; exact toNat_inj_list (by rw [e, extract_nats s n h]; exact he)
/-- Is the character c the first n bytes? -/
def tst (s : ByteArray) (n c : Nat) : Prop := mayC (c : Int) = true ∧ encL c = bytesN s n
instance (s : ByteArray) (n c : Nat) : Decidable (tst s n c) := by unfold tst; infer_instance
theorem mayC_le {c : Nat} (h : mayC (c : Int) = true) : c ≤ 1114111 := by
  unfold mayC at h
  rw [Bool.and_eq_true, Bool.and_eq_true, decide_eq_true_iff, decide_eq_true_iff] at h
  omega
theorem j3_step (s : ByteArray) (k n c : Nat) (hk : 3 < k) (hn : n ≤ s.size) (hn4 : n ≤ 4) : phalaroperef01_First.j3 (k + 1) s (c : Int) (n : Int) = if tst s n c then some ((c : Int), (n : Int)) else phalaroperef01_First.l0 k s (c : Int) ((n + 1 : Nat) : Int) := by
  simp only [phalaroperef01_First.j3]
  rw [may_f]
  simp only [Option.bind_some]
  have hw : wrap64 ((n : Int) + 1) = ((n + 1 : Nat) : Int) := w64 _ (by omega) (by omega)
  by_cases hm : mayC (c : Int) = true
  · rw [if_pos hm, one_f k c (mayC_le hm) hk]
    simp only [Option.bind_some]
    rw [if_pos (by omega), if_pos (by omega), Int.toNat_natCast, hw]
    by_cases ht : encL c = bytesN s n
    · rw [if_pos (by rw [same_text s _ (encL_lt c (mayC_le hm)) n hn]; exact ht), if_pos ⟨hm, ht⟩]
    · rw [if_neg (by rw [same_text s _ (encL_lt c (mayC_le hm)) n hn]; exact ht), if_neg (fun h => ht h.2)]
  · rw [if_neg hm, hw, if_neg (fun h => hm h.1)]
theorem l0_step (s : ByteArray) (k n c : Nat) (hk : 3 < k) (hn2 : 2 ≤ n) (hc : c ≤ 100000000) : phalaroperef01_First.l0 (k + 3) s (c : Int) (n : Int) =
    if n ≤ 4 ∧ n ≤ s.size then (if tst s n (64 * c + byteAt s (n - 1) % 64) then some (((64 * c + byteAt s (n - 1) % 64 : Nat) : Int), (n : Int)) else phalaroperef01_First.l0 k s ((64 * c + byteAt s (n - 1) % 64 : Nat) : Int) ((n + 1 : Nat) : Int)) else some (0, 0) := by
  have hb := byteAt_lt s (n - 1)
  simp only [phalaroperef01_First.l0]
  by_cases h4 : n ≤ 4
  · rw [if_pos (by omega)]
    by_cases hs : n ≤ s.size
    · rw [if_pos ⟨h4, hs⟩]
      simp only [phalaroperef01_First.j1]
      have hw : wrap64 ((n : Int) - 1) = ((n - 1 : Nat) : Int) := by rw [w64 _ (by omega) (by omega)]; omega
      rw [if_pos (decide_eq_true (by omega)), hw, if_pos (by omega), if_pos (by omega), if_neg (by omega), bt_byteAt, w64 (byteAt s (n - 1) : Int) (by omega) (by omega), show (64 : Int) = ((64 : Nat) : Int) from rfl, tmod64, w64 (((64 : Nat) : Int) * (c : Int)) (by omega) (by omega), w64 _ (by omega) (by omega)]
      rw [show (((64 : Nat) : Int) * (c : Int) + ((byteAt s (n - 1) % 64 : Nat) : Int)) = ((64 * c + byteAt s (n - 1) % 64 : Nat) : Int) from by omega]
      exact j3_step s k n _ hk hs h4
    · rw [if_neg (fun h => hs h.2)]
      simp only [phalaroperef01_First.j1]
      rw [if_neg (by rw [decide_eq_true_iff]; omega)]
  · rw [if_neg (by omega), if_neg (fun h => h4 h.1)]
    simp only [phalaroperef01_First.j1]
    rw [if_neg (by decide)]
def lead (b : Nat) : Nat := if b < 192 then b else if b < 224 then b - 192 else if b < 240 then b - 224 else b - 240
theorem l0_first (s : ByteArray) (k : Nat) (hk : 3 < k) : phalaroperef01_First.l0 (k + 4) s 0 1 =
    if 1 ≤ s.size then (if tst s 1 (lead (byteAt s 0)) then some ((lead (byteAt s 0) : Int), 1) else phalaroperef01_First.l0 k s (lead (byteAt s 0) : Int) 2) else some (0, 0) := by
  have hb := byteAt_lt s 0
  simp only [phalaroperef01_First.l0]
  rw [if_pos (by omega)]
  by_cases hs : 1 ≤ s.size
  · rw [if_pos hs]
    simp only [phalaroperef01_First.j1]
    have hw : wrap64 ((1 : Int) - 1) = ((0 : Nat) : Int) := by rw [w64 _ (by omega) (by omega)]; rfl
    have hbt : wrap64 (bt s ((0 : Nat) : Int)) = (byteAt s 0 : Int) := by rw [bt_byteAt, w64 _ (by omega) (by omega)]
    rw [if_pos (decide_eq_true (by omega)), hw, if_pos (by omega), if_pos (by omega), if_pos trivial, hbt]
    have j := fun c => j3_step s k 1 c hk hs (by omega)
    unfold lead
    by_cases h1 : byteAt s 0 < 192
    · rw [if_neg (by omega), if_pos h1]
      simp only [phalaroperef01_First.j2]
      rw [if_neg (by omega), if_neg (by omega)]
      exact j _
    · rw [if_pos (by omega), if_neg h1]
      simp only [phalaroperef01_First.j2]
      by_cases h2 : byteAt s 0 < 224
      · rw [if_neg (by omega), if_neg (by omega), if_pos h2, w64 _ (by omega) (by omega), show ((byteAt s 0 : Int) - 192) = ((byteAt s 0 - 192 : Nat) : Int) from by omega]
        exact j _
      · rw [if_pos (by omega), if_neg h2]
        by_cases h3 : byteAt s 0 < 240
        · rw [if_neg (by omega), if_pos h3, w64 _ (by omega) (by omega), show ((byteAt s 0 : Int) - 224) = ((byteAt s 0 - 224 : Nat) : Int) from by omega]
          exact j _
        · rw [if_pos (by omega), if_neg h3, w64 _ (by omega) (by omega), show ((byteAt s 0 : Int) - 240) = ((byteAt s 0 - 240 : Nat) : Int) from by omega]
          exact j _
  · rw [if_neg hs]
    simp only [phalaroperef01_First.j1]
    rw [if_neg (by rw [decide_eq_true_iff]; omega)]
theorem bytesN_1 (s : ByteArray) : bytesN s 1 = [byteAt s 0] := rfl
theorem bytesN_2 (s : ByteArray) : bytesN s 2 = [byteAt s 0, byteAt s 1] := rfl
theorem bytesN_3 (s : ByteArray) : bytesN s 3 = [byteAt s 0, byteAt s 1, byteAt s 2] := rfl
theorem bytesN_4 (s : ByteArray) : bytesN s 4 = [byteAt s 0, byteAt s 1, byteAt s 2, byteAt s 3] := rfl
theorem mayC_nat (c : Nat) : mayC (c : Int) = true ↔ (c ≤ 1114111 ∧ (c < 55296 ∨ 57343 < c)) := by
  unfold mayC
  rw [Bool.and_eq_true, Bool.and_eq_true, Bool.or_eq_true, decide_eq_true_iff, decide_eq_true_iff, decide_eq_true_iff, decide_eq_true_iff]
  omega
/-- encL's four forms. -/
theorem encL_forms (c : Nat) : (c < 128 ∧ encL c = [c]) ∨ (128 ≤ c ∧ c < 2048 ∧ encL c = [192 + c / 64, 128 + c % 64]) ∨ (2048 ≤ c ∧ c < 65536 ∧ encL c = [224 + c / 4096, 128 + c / 64 % 64, 128 + c % 64]) ∨ (65536 ≤ c ∧ encL c = [240 + c / 262144, 128 + c / 4096 % 64, 128 + c / 64 % 64, 128 + c % 64]) := by
  unfold encL
  by_cases h1 : c < 128
  · exact .inl ⟨h1, if_pos h1⟩
  by_cases h2 : c < 2048
  · exact .inr (.inl ⟨by omega, h2, by rw [if_neg h1, if_pos h2]⟩)
  by_cases h3 : c < 65536
  · exact .inr (.inr (.inl ⟨by omega, h3, by rw [if_neg h1, if_neg h2, if_pos h3]⟩))
  · exact .inr (.inr (.inr ⟨by omega, by rw [if_neg h1, if_neg h2, if_neg h3]⟩))
theorem tst1 (s : ByteArray) (c : Nat) : tst s 1 c ↔ (c < 128 ∧ byteAt s 0 = c) := by
  unfold tst
  rw [mayC_nat, bytesN_1]
  rcases encL_forms c with ⟨h, e⟩ | ⟨h, h', e⟩ | ⟨h, h', e⟩ | ⟨h, e⟩ <;> rw [e] <;> simp only [List.cons.injEq, and_true, reduceCtorEq, and_false, false_iff, List.cons_ne_nil] <;> omega
theorem tst2 (s : ByteArray) (c : Nat) : tst s 2 c ↔ (128 ≤ c ∧ c < 2048 ∧ byteAt s 0 = 192 + c / 64 ∧ byteAt s 1 = 128 + c % 64) := by
  unfold tst
  rw [mayC_nat, bytesN_2]
  rcases encL_forms c with ⟨h, e⟩ | ⟨h, h', e⟩ | ⟨h, h', e⟩ | ⟨h, e⟩ <;> rw [e] <;> simp only [List.cons.injEq, and_true, reduceCtorEq, and_false, false_iff, List.cons_ne_nil] <;> omega
theorem tst3 (s : ByteArray) (c : Nat) : tst s 3 c ↔ (2048 ≤ c ∧ c < 65536 ∧ (c < 55296 ∨ 57343 < c) ∧ byteAt s 0 = 224 + c / 4096 ∧ byteAt s 1 = 128 + c / 64 % 64 ∧ byteAt s 2 = 128 + c % 64) := by
  unfold tst
  rw [mayC_nat, bytesN_3]
  rcases encL_forms c with ⟨h, e⟩ | ⟨h, h', e⟩ | ⟨h, h', e⟩ | ⟨h, e⟩ <;> rw [e] <;> simp only [List.cons.injEq, and_true, reduceCtorEq, and_false, false_iff, List.cons_ne_nil] <;> omega
theorem tst4 (s : ByteArray) (c : Nat) : tst s 4 c ↔ (65536 ≤ c ∧ c ≤ 1114111 ∧ byteAt s 0 = 240 + c / 262144 ∧ byteAt s 1 = 128 + c / 4096 % 64 ∧ byteAt s 2 = 128 + c / 64 % 64 ∧ byteAt s 3 = 128 + c % 64) := by
  unfold tst
  rw [mayC_nat, bytesN_4]
  rcases encL_forms c with ⟨h, e⟩ | ⟨h, h', e⟩ | ⟨h, h', e⟩ | ⟨h, e⟩ <;> rw [e] <;> simp only [List.cons.injEq, and_true, reduceCtorEq, and_false, false_iff, List.cons_ne_nil] <;> omega
/-- What First answers. -/
def firstS (s : ByteArray) : Int × Int := if s.size = 0 ∨ badAt s 0 = true then (0, 0) else (((Utf8.decode s 0).1 : Int), ((Utf8.decode s 0).2 : Int))
theorem lead_le (b : Nat) (h : b < 256) : lead b ≤ 255 := by unfold lead; split <;> (try split) <;> (try split) <;> omega
set_option maxHeartbeats 4000000 in
theorem first_f (s : ByteArray) (k : Nat) (hk : 20 < k) : phalaroperef01_First.f k s = some (firstS s) := by
  have u0 := byteAt_lt s 0
  have u1 := byteAt_lt s 1
  have u2 := byteAt_lt s 2
  have u3 := byteAt_lt s 3
  have hl := lead_le _ u0
  unfold phalaroperef01_First.f
  obtain ⟨k, rfl⟩ : ∃ m, k = m + 9 + 4 := ⟨k - 13, by omega⟩
  rw [l0_first s (k + 9) (by omega)]
  have e2 : ∀ c : Nat, c ≤ 255 → phalaroperef01_First.l0 (k + 9) s (c : Int) 2 = _ := fun c hc => l0_step s (k + 6) 2 c (by omega) (by omega) (by omega)
  have e3 : ∀ c : Nat, c ≤ 20000 → phalaroperef01_First.l0 (k + 6) s (c : Int) ((2 + 1 : Nat) : Int) = _ := fun c hc => l0_step s (k + 3) 3 c (by omega) (by omega) (by omega)
  have e4 : ∀ c : Nat, c ≤ 2000000 → phalaroperef01_First.l0 (k + 3) s (c : Int) ((3 + 1 : Nat) : Int) = _ := fun c hc => l0_step s k 4 c (by omega) (by omega) (by omega)
  have e5 : ∀ c : Nat, phalaroperef01_First.l0 k s (c : Int) ((4 + 1 : Nat) : Int) = some (0, 0) := fun c => by
    obtain ⟨k, rfl⟩ : ∃ m, k = m + 2 := ⟨k - 2, by omega⟩
    simp only [phalaroperef01_First.l0]
    rw [if_neg (by omega)]
    simp only [phalaroperef01_First.j1]
    rw [if_neg (by decide)]
  unfold firstS
  by_cases hs : s.size = 0
  · rw [if_neg (by omega), if_pos (.inl hs)]
  rw [if_pos (by omega), e2 _ hl]
  obtain ⟨c1, hc1⟩ : ∃ c1, c1 = lead (byteAt s 0) := ⟨_, rfl⟩
  rw [← hc1] at hl ⊢
  have hc1' : (byteAt s 0 < 192 ∧ c1 = byteAt s 0) ∨ (192 ≤ byteAt s 0 ∧ byteAt s 0 < 224 ∧ c1 = byteAt s 0 - 192) ∨ (224 ≤ byteAt s 0 ∧ byteAt s 0 < 240 ∧ c1 = byteAt s 0 - 224) ∨ (240 ≤ byteAt s 0 ∧ c1 = byteAt s 0 - 240) := by
    rw [hc1]; unfold lead; split
    · omega
    split
    · omega
    split <;> omega
  clear hc1
  rw [show 2 - 1 = 1 from rfl, e3 _ (by omega), show 3 - 1 = 2 from rfl, e4 _ (by omega), show 4 - 1 = 3 from rfl, e5]
  clear e2 e3 e4 e5
  obtain ⟨c2, hc2⟩ : ∃ c2, c2 = 64 * c1 + byteAt s 1 % 64 := ⟨_, rfl⟩
  rw [← hc2]
  obtain ⟨c3, hc3⟩ : ∃ c3, c3 = 64 * c2 + byteAt s 2 % 64 := ⟨_, rfl⟩
  rw [← hc3]
  obtain ⟨c4, hc4⟩ : ∃ c4, c4 = 64 * c3 + byteAt s 3 % 64 := ⟨_, rfl⟩
  rw [← hc4]
  have bad_no : ∀ c n : Nat, Utf8.decode s 0 = (c, n) → (n ≠ 1 ∨ c ≠ 65533) → ¬ (s.size = 0 ∨ badAt s 0 = true) := by
    intro c n e h h'
    rcases h' with h' | h'
    · exact hs h'
    · unfold badAt at h'
      rw [e, Bool.and_eq_true, beq_iff_eq, beq_iff_eq] at h'
      rcases h with h | h
      · exact h h'.2
      · exact h h'.1
  have ha := decode_arms s 0
  rw [show 0 + 1 = 1 from rfl, show 0 + 2 = 2 from rfl, show 0 + 3 = 3 from rfl] at ha
  rcases ha with ⟨h0, e⟩ | ⟨c, h0, h1, h2, h3, h4, e⟩ | ⟨c, h0, h1, h2, h3, h4, h5, h6, e⟩ | ⟨c, h0, h1, h2, h3, h4, h5, h6, h7, e⟩ | ⟨e, g0, g2, g3, g4⟩
  · rw [if_pos ((tst1 s c1).2 (by omega)), if_neg (bad_no _ _ e (.inr (by omega))), e]
    have : c1 = byteAt s 0 := by omega
    rw [this]; rfl
  · have q : c2 = c := by omega
    rw [if_neg (fun h => by have := (tst1 s c1).1 h; omega), if_pos (by omega), if_pos ((tst2 s c2).2 (by omega)), if_neg (bad_no _ _ e (.inl (by omega))), e, q]
    try rfl
  · have q : c3 = c := by omega
    rw [if_neg (fun h => by have := (tst1 s c1).1 h; omega), if_pos (by omega), if_neg (fun h => by have := (tst2 s c2).1 h; omega), if_pos (by omega), if_pos ((tst3 s c3).2 (by omega)), if_neg (bad_no _ _ e (.inl (by omega))), e, q]
    try rfl
  · have q : c4 = c := by omega
    rw [if_neg (fun h => by have := (tst1 s c1).1 h; omega), if_pos (by omega), if_neg (fun h => by have := (tst2 s c2).1 h; omega), if_pos (by omega), if_neg (fun h => by have := (tst3 s c3).1 h; omega), if_pos (by omega), if_pos ((tst4 s c4).2 (by omega)), if_neg (bad_no _ _ e (.inl (by omega))), e, q]
    try rfl
  · have hb : badAt s 0 = true := by unfold badAt; rw [e]; rfl
    rw [if_pos (show s.size = 0 ∨ badAt s 0 = true from .inr hb), if_neg (show ¬ tst s 1 c1 from fun h => by have := (tst1 s c1).1 h; omega)]
    by_cases s2 : 2 ≤ 4 ∧ 2 ≤ s.size
    · rw [if_pos s2, if_neg (fun h => by have := (tst2 s c2).1 h; clear g3 g4 h hc3 hc4; omega)]
      by_cases s3 : 3 ≤ 4 ∧ 3 ≤ s.size
      · rw [if_pos s3, if_neg (fun h => by have := (tst3 s c3).1 h; clear g2 g4 h hc4; omega)]
        by_cases s4 : 4 ≤ 4 ∧ 4 ≤ s.size
        · rw [if_pos s4, if_neg (fun h => by have := (tst4 s c4).1 h; clear g2 g3 h; omega)]
        · rw [if_neg s4]
      · rw [if_neg s3]
    · rw [if_neg s2]
end Go.Proofs.Ytjhihohofhhknaa.PF
namespace Go.Proofs.Ytjhihohofhhknaa.PF
set_option linter.unusedSimpArgs false
set_option linter.unusedVariables false
open Go.RowKit Go.Proofs.YtjhihohofhhknaaW.PrintWords Go.Proofs.YtjhihohofhhknaaW.PrintLast Y
/-! ### The first character, and a text that is cut behind it -/
theorem pre_size (s : ByteArray) (m : Nat) (hm : m ≤ s.size) : (s.extract 0 m).size = m := by rw [ByteArray.size_extract]; omega
theorem pre_byte (s : ByteArray) (m i : Nat) (hm : m ≤ s.size) (hi : i < m) : byteAt (s.extract 0 m) i = byteAt s i := by
  have h1 : i < (s.extract 0 m).size := by rw [pre_size s m hm]; exact hi
  unfold byteAt
  rw [get!_at _ _ h1, get!_at _ _ (show i < s.size by omega)]
  congr 1
  simp [ByteArray.data_extract]
set_option maxHeartbeats 2000000 in
theorem decode_pre (s : ByteArray) (m : Nat) (hm : m ≤ s.size) (h0 : 0 < m) (hb : badAt s 0 = false) (hn : (Utf8.decode s 0).2 ≤ m) : Utf8.decode (s.extract 0 m) 0 = Utf8.decode s 0 := by
  have z := pre_size s m hm
  have b := pre_byte s m
  have ha := decode_arms s 0
  have hu := decode_arms (s.extract 0 m) 0
  rw [show 0 + 1 = 1 from rfl, show 0 + 2 = 2 from rfl, show 0 + 3 = 3 from rfl] at ha hu
  rw [z] at hu
  have b0 := b 0 hm h0
  rw [b0] at hu
  rcases ha with ⟨g0, e⟩ | ⟨c, g0, g1, g2, g3, g4, e⟩ | ⟨c, g0, g1, g2, g3, g4, g5, g6, e⟩ | ⟨c, g0, g1, g2, g3, g4, g5, g6, g7, e⟩ | ⟨e, _⟩
  · rcases hu with ⟨k0, k⟩ | ⟨d, k0, _⟩ | ⟨d, k0, _⟩ | ⟨d, k0, _⟩ | ⟨_, k0, _⟩
    · rw [e, k]
    all_goals exfalso; omega
  · rw [e] at hn
    have b1 := b 1 hm (by simp only at hn; omega)
    rw [b1] at hu
    rcases hu with ⟨k0, k⟩ | ⟨d, k0, k1, k2, k3, k4, k⟩ | ⟨d, k0, _⟩ | ⟨d, k0, _⟩ | ⟨_, k0, k1, _⟩
    · exfalso; omega
    · rw [e, k, k3, ← g3]
    · exfalso; omega
    · exfalso; omega
    · exact absurd ⟨g0, by simp only at hn; omega, g2, by omega⟩ k1
  · rw [e] at hn
    have b1 := b 1 hm (by simp only at hn; omega)
    have b2 := b 2 hm (by simp only at hn; omega)
    rw [b1, b2] at hu
    rcases hu with ⟨k0, k⟩ | ⟨d, k0, k1, k2, k3, k4, k⟩ | ⟨d, k0, k1, k2, k3, k4, k5, k6, k⟩ | ⟨d, k0, _⟩ | ⟨_, k0, _, k1, _⟩
    · exfalso; omega
    · exfalso; omega
    · rw [e, k, k4, ← g4]
    · exfalso; omega
    · exact absurd ⟨g0, by simp only at hn; omega, g2, g3, by omega, by omega⟩ k1
  · rw [e] at hn
    have b1 := b 1 hm (by simp only at hn; omega)
    have b2 := b 2 hm (by simp only at hn; omega)
    have b3 := b 3 hm (by simp only at hn; omega)
    rw [b1, b2, b3] at hu
    rcases hu with ⟨k0, k⟩ | ⟨d, k0, _⟩ | ⟨d, k0, _⟩ | ⟨d, k0, k1, k2, k3, k4, k5, k6, k7, k⟩ | ⟨_, k0, _, _, k1⟩
    · exfalso; omega
    · exfalso; omega
    · exfalso; omega
    · rw [e, k, k5, ← g5]
    · exact absurd ⟨g0, by simp only at hn; omega, g2, g3, g4, by omega, by omega⟩ k1
  · exfalso
    unfold badAt at hb
    rw [e] at hb
    exact absurd hb (by decide)
theorem charsFrom_ge (s : ByteArray) (f : Nat) : ∀ p, p ≤ (charsFrom s f p).2 := by
  induction f with
  | zero => intro p; exact Nat.le_refl _
  | succ f ih =>
    intro p
    unfold charsFrom
    split
    · split
      · exact Nat.le_refl _
      · exact Nat.le_trans (Nat.le_add_right _ _) (ih _)
    · exact Nat.le_refl _
theorem badPos_ge (s : ByteArray) (h0 : 0 < s.size) (hb : badAt s 0 = false) : (Utf8.decode s 0).2 ≤ badPos s := by
  obtain ⟨f, hf⟩ : ∃ f, s.size = f + 1 := ⟨s.size - 1, by omega⟩
  unfold badPos
  rw [hf, charsFrom_go s f 0 h0 hb, Nat.zero_add]
  exact charsFrom_ge s f _
/-- What is taken of a text that begins with a character that may stand. -/
theorem takeU_first (s : ByteArray) (h0 : 0 < s.size) (hb : badAt s 0 = false) (hok : X.okU ((Utf8.decode s 0).1 : Int) = true) : (X.takeU s).2 = ((Utf8.decode s 0).2 : Int) := by
  have hge := badPos_ge s h0 hb
  have hle := X.badPos_le s
  have hp := decode_pos s 0
  obtain ⟨n, hn⟩ : ∃ n, n = (Utf8.decode s 0).2 := ⟨_, rfl⟩
  obtain ⟨v, hv⟩ : ∃ v, v = s.extract 0 (badPos s) := ⟨_, rfl⟩
  have hvs : v.size = badPos s := by rw [hv]; exact pre_size s _ hle
  have hvd : Utf8.decode v 0 = Utf8.decode s 0 := by rw [hv]; exact decode_pre s _ hle (by omega) hb hge
  have hvb : badAt v 0 = false := by unfold badAt; rw [hvd]; exact hb
  obtain ⟨u, hu⟩ : ∃ u, u = v.extract 0 n := ⟨_, rfl⟩
  have hus : u.size = n := by rw [hu]; exact pre_size v _ (by omega)
  have hud : Utf8.decode u 0 = Utf8.decode s 0 := by rw [hu, decode_pre v n (by omega) (by omega) hvb (by rw [hvd]; omega), hvd]
  have hub : badAt u 0 = false := by unfold badAt; rw [hud]; exact hb
  have hpre : X.prefixS s 1 = u := by
    unfold X.prefixS
    rw [← hv, hu]
    congr 1
    show (if 0 < v.size then (0 + (Utf8.decode v 0).2) else 0) = n
    rw [if_pos (by omega), hvd, hn]; omega
  have hcf : charsFrom u u.size 0 = ([((Utf8.decode s 0).1 : Int)], n) := by
    obtain ⟨f, hf⟩ : ∃ f, u.size = f + 1 := ⟨u.size - 1, by omega⟩
    rw [hf, charsFrom_go u f 0 (by omega) hub, hud, Nat.zero_add, charsFrom_end u f _ (by omega), ← hn]
  have hval : validS u = true := by unfold validS badPos; rw [hcf, hus]; simp
  have hch : charsOr u = [((Utf8.decode s 0).1 : Int)] := by rw [charsOr_yes hval]; unfold chars; rw [hcf]
  unfold X.takeU
  rw [hpre, hch, X.takeOf_some (c := ((Utf8.decode s 0).1 : Int)) (by rw [List.find?_cons, hok]), hus, hn]
/-! ### The reference's pieces -/
theorem lit02 : ∀ c : Fin 256, phalaroperef02_Literal.f 20 (c.val : Int) = some (X.literalSet.has (c.val : Int)) := by decide +kernel
theorem evLit (c : Int) (h0 : 0 ≤ c) (h1 : c < 256) : Ev (fun k => phalaroperef02_Literal.f k c) (X.literalSet.has c) := by
  have := lit02 ⟨c.toNat, by omega⟩
  simp only [Int.toNat_of_nonneg h0] at this
  exact Ev.of (phalaroperef02_Literal.mono c) this
theorem may04 (c : Int) (h : 0 ≤ c) : ∃ b, phalaroperef04_May.f c = some b ∧ (b = true → X.okU c = true) := by
  have key2 : ∀ p : Int × Int, p ∈ X.spanL → p.1 ≤ c → c ≤ p.2 → X.okU c = true := fun p hp h1 h2 => by
    unfold X.okU X.meetsL
    exact List.any_eq_true.2 ⟨p, hp, by rw [decide_eq_true h1, decide_eq_true h2]; rfl⟩
  have key : ((160 ≤ c ∧ c ≤ 55295) ∨ (57344 ≤ c ∧ c ≤ 64975) ∨ (65008 ≤ c ∧ c ≤ 65519) ∨ (65536 ≤ c ∧ c ≤ 1114109 ∧ ¬ (917504 ≤ c ∧ c < 921600) ∧ c % 65536 ≤ 65533)) → X.okU c = true := by
    intro hc
    rcases hc with h' | h' | h' | ⟨h1, h2, h3, h4⟩
    · exact key2 (160, 55295) (by decide) h'.1 h'.2
    · exact key2 (57344, 64975) (by decide) h'.1 h'.2
    · exact key2 (65008, 65519) (by decide) h'.1 h'.2
    · have hq : c = 65536 * (c / 65536) + c % 65536 := by omega
      have h5 : 0 ≤ c % 65536 := by omega
      generalize c / 65536 = q at hq
      generalize c % 65536 = r at hq h4 h5
      have hq1 : 1 ≤ q ∧ q ≤ 16 := by omega
      by_cases h14 : q = 14
      · exact key2 (921600, 983037) (by decide) (by show 921600 ≤ c; omega) (by show c ≤ 983037; omega)
      have hw : q = 1 ∨ q = 2 ∨ q = 3 ∨ q = 4 ∨ q = 5 ∨ q = 6 ∨ q = 7 ∨ q = 8 ∨ q = 9 ∨ q = 10 ∨ q = 11 ∨ q = 12 ∨ q = 13 ∨ q = 15 ∨ q = 16 := by omega
      rcases hw with h | h | h | h | h | h | h | h | h | h | h | h | h | h | h
      · exact key2 (65536, 131069) (by decide) (by show 65536 ≤ c; omega) (by show c ≤ 131069; omega)
      · exact key2 (131072, 196605) (by decide) (by show 131072 ≤ c; omega) (by show c ≤ 196605; omega)
      · exact key2 (196608, 262141) (by decide) (by show 196608 ≤ c; omega) (by show c ≤ 262141; omega)
      · exact key2 (262144, 327677) (by decide) (by show 262144 ≤ c; omega) (by show c ≤ 327677; omega)
      · exact key2 (327680, 393213) (by decide) (by show 327680 ≤ c; omega) (by show c ≤ 393213; omega)
      · exact key2 (393216, 458749) (by decide) (by show 393216 ≤ c; omega) (by show c ≤ 458749; omega)
      · exact key2 (458752, 524285) (by decide) (by show 458752 ≤ c; omega) (by show c ≤ 524285; omega)
      · exact key2 (524288, 589821) (by decide) (by show 524288 ≤ c; omega) (by show c ≤ 589821; omega)
      · exact key2 (589824, 655357) (by decide) (by show 589824 ≤ c; omega) (by show c ≤ 655357; omega)
      · exact key2 (655360, 720893) (by decide) (by show 655360 ≤ c; omega) (by show c ≤ 720893; omega)
      · exact key2 (720896, 786429) (by decide) (by show 720896 ≤ c; omega) (by show c ≤ 786429; omega)
      · exact key2 (786432, 851965) (by decide) (by show 786432 ≤ c; omega) (by show c ≤ 851965; omega)
      · exact key2 (851968, 917501) (by decide) (by show 851968 ≤ c; omega) (by show c ≤ 917501; omega)
      · exact key2 (983040, 1048573) (by decide) (by show 983040 ≤ c; omega) (by show c ≤ 1048573; omega)
      · exact key2 (1048576, 1114109) (by decide) (by show 1048576 ≤ c; omega) (by show c ≤ 1114109; omega)
  have hm : Int.tmod c 65536 = c % 65536 := Int.tmod_eq_emod_of_nonneg h
  unfold phalaroperef04_May.f
  rw [hm]
  repeat' split
  all_goals refine ⟨_, rfl, fun hb => ?_⟩
  all_goals first | (cases hb; done) | skip
  all_goals (try rw [decide_eq_true_eq] at hb)
  all_goals exact key (by omega)
theorem evFirst (s : ByteArray) : Ev (fun k => phalaroperef01_First.f k s) (firstS s) := ⟨21, fun k hk => first_f s k (by omega)⟩
theorem evTake (s : ByteArray) (h0 : 0 < s.size) : ∃ r, Ev (fun k => phalaroperef04_Take.f k s) r ∧ (r.2 ≠ 0 → r.2 = (X.takeU s).2) := by
  by_cases hb : badAt s 0 = true
  · refine ⟨(0, 0), ?_, fun h => absurd rfl h⟩
    have e : firstS s = (0, 0) := by unfold firstS; rw [if_pos (.inr hb)]
    have := evFirst s
    rw [e] at this
    exact Ev.bind this (Ev.congr (fun k => if_pos rfl) (Ev.now _))
  · have hb' : badAt s 0 = false := by simpa using hb
    have e : firstS s = (((Utf8.decode s 0).1 : Int), ((Utf8.decode s 0).2 : Int)) := by unfold firstS; rw [if_neg (fun h => by rcases h with h | h; (· omega); exact hb h)]
    have hp := decode_pos s 0
    have ev := evFirst s
    rw [e] at ev
    obtain ⟨b, e4, hok⟩ := may04 ((Utf8.decode s 0).1 : Int) (by omega)
    refine ⟨if b = true then (((Utf8.decode s 0).1 : Int), ((Utf8.decode s 0).2 : Int)) else (0, 0), Ev.bind ev (Ev.congr (fun k => ?_) (Ev.now _)), fun h => ?_⟩
    · simp only
      rw [if_neg (by omega), e4]
      cases b <;> rfl
    · cases b with
      | false => exact absurd rfl h
      | true => rw [takeU_first s h0 hb' (hok rfl)]; rfl
theorem evPiece (s : ByteArray) (h0 : 0 < s.size) : ∃ n, Ev (fun k => phalaroperef07_Piece.f k s) n ∧ (n ≠ 0 → n = X.pieceN s) := by
  have hne : ¬ s.toList = [] := fun h => by have := size_of_nil h; omega
  have hc := bI_range s 0
  have hbt : bt s 0 = bI s 0 := bt_byteAt s 0
  have e1 : ∀ k, phalaroperef07_Piece.f k s = (phalaroperef02_Literal.f k (bI s 0)).bind fun t218 => (if t218 = true then (some 1) else ((phalaroperef03_Triplet.f s).bind fun t219 => (if t219 = true then (some 3) else ((phalaroperef04_Take.f k s).bind fun bt220 => (some bt220.2))))) := fun k => by
    unfold phalaroperef07_Piece.f
    rw [if_neg hne, if_pos (by omega), hbt]
  have ev := evLit (bI s 0) hc.1 hc.2
  cases hl : X.literalSet.has (bI s 0) with
  | true =>
    rw [hl] at ev
    exact ⟨1, Ev.congr e1 (Ev.bind ev (Ev.congr (fun k => if_pos rfl) (Ev.now _))), fun _ => by unfold X.pieceN; rw [if_neg (by omega), if_pos hl]⟩
  | false =>
    rw [hl] at ev
    have ht := trip_f s
    cases htr : tri s 0 with
    | true =>
      rw [htr] at ht
      exact ⟨3, Ev.congr e1 (Ev.bind ev (Ev.congr (fun k => by rw [if_neg (by decide), ht]; rfl) (Ev.now _))), fun _ => by unfold X.pieceN; rw [if_neg (by omega), if_neg (by rw [hl]; decide), if_pos htr]⟩
    | false =>
      rw [htr] at ht
      obtain ⟨r, er, hr⟩ := evTake s h0
      refine ⟨r.2, Ev.congr e1 (Ev.bind ev (Ev.congr (f := fun k => (phalaroperef04_Take.f k s).bind fun bt220 => some bt220.2) (fun k => by rw [if_neg (by decide), ht]; rfl) (Ev.bind er (Ev.now _)))), fun h => ?_⟩
      unfold X.pieceN
      rw [if_neg (by omega), if_neg (by rw [hl]; decide), if_neg (by rw [htr]; decide)]
      exact hr h
theorem ext_ext (s : ByteArray) (a n : Nat) (h : a + n ≤ s.size) : (s.extract a s.size).extract n (s.extract a s.size).size = s.extract (a + n) s.size := by
  rw [ext_size]
  apply ByteArray.ext
  simp only [ByteArray.data_extract, Array.extract_extract]
  congr 1
  omega
theorem evLitL (s : ByteArray) (hs : s.size ≤ 100000) (d : Nat) : ∀ a : Nat, s.size - a ≤ d → a ≤ s.size → ∃ b, Ev (fun k => phalaroperef07_Literal.l0 k (s.extract a s.size)) b ∧ (b = true → ∀ k, d < k → tmpl_pieces.l0 k s (a : Int) (X.pieceN (s.extract a s.size)) = some (s.size : Int)) := by
  have last : ∀ a : Nat, a = s.size → ∃ b, Ev (fun k => phalaroperef07_Literal.l0 k (s.extract a s.size)) b ∧ (b = true → ∀ k, 0 < k → tmpl_pieces.l0 k s (a : Int) (X.pieceN (s.extract a s.size)) = some (s.size : Int)) := by
    intro a ha
    have hz : (s.extract a s.size).size = 0 := by rw [ext_size]; omega
    refine ⟨true, Ev.step (fun k => ?_) (Ev.now true), fun _ k hk => ?_⟩
    · simp only [phalaroperef07_Literal.l0]
      rw [if_pos (nil_of_size hz)]
    · obtain ⟨k, rfl⟩ : ∃ m, k = m + 1 := ⟨k - 1, by omega⟩
      simp only [tmpl_pieces.l0]
      rw [if_neg (by unfold X.pieceN; rw [if_pos hz]; omega), ha]
  induction d with
  | zero =>
    intro a h1 h2
    exact last a (by omega)
  | succ d ih =>
    intro a h1 h2
    by_cases hlt : a < s.size
    · have hz := ext_size s a
      obtain ⟨n, en, hn⟩ := evPiece (s.extract a s.size) (by omega)
      have hne : ¬ (s.extract a s.size).toList = [] := fun h => by have := size_of_nil h; omega
      by_cases h0 : n = 0
      · refine ⟨false, Ev.step (f := fun k => (phalaroperef07_Piece.f k (s.extract a s.size)).bind fun t222 => if t222 = 0 then some false else (if 0 ≤ t222 then (if t222 ≤ ((s.extract a s.size).size : Int) then (phalaroperef07_Literal.l0 k ((s.extract a s.size).extract (t222 : Int).toNat (s.extract a s.size).size)) else none) else none)) (fun k => ?_) (Ev.bind en ?_), fun h => by cases h⟩
        · simp only [phalaroperef07_Literal.l0]; rw [if_neg hne]
        · exact Ev.congr (fun k => if_pos h0) (Ev.now _)
      · have hpn := hn h0
        have hle := pieceN_le (s.extract a s.size)
        obtain ⟨j, hj⟩ : ∃ j : Nat, n = (j : Int) := ⟨n.toNat, by omega⟩
        subst hj
        obtain ⟨b, eb, hb⟩ := ih (a + j) (by omega) (by omega)
        refine ⟨b, Ev.step (f := fun k => (phalaroperef07_Piece.f k (s.extract a s.size)).bind fun t222 => if t222 = 0 then some false else (if 0 ≤ t222 then (if t222 ≤ ((s.extract a s.size).size : Int) then (phalaroperef07_Literal.l0 k ((s.extract a s.size).extract (t222 : Int).toNat (s.extract a s.size).size)) else none) else none)) (fun k => ?_) (Ev.bind en ?_), fun h k hk => ?_⟩
        · simp only [phalaroperef07_Literal.l0]; rw [if_neg hne]
        · refine Ev.congr (fun k => ?_) eb
          rw [if_neg h0, if_pos (by omega), if_pos (by omega), Int.toNat_natCast, ext_ext s a j (by omega)]
        · obtain ⟨k, rfl⟩ : ∃ m, k = m + 1 := ⟨k - 1, by omega⟩
          rw [← hpn]
          simp only [tmpl_pieces.l0]
          have hw : wrap64 ((a : Int) + (j : Int)) = ((a + j : Nat) : Int) := w64 _ (by omega) (by omega)
          have hp : tmpl_piece.f (s.extract (a + j) s.size) = some (X.pieceN (s.extract (a + j) s.size)) := by unfold tmpl_piece.f; rw [if_pos (by rw [ext_size]; omega)]
          rw [if_pos (by omega), hw, if_pos (by omega), if_pos (by omega), Int.toNat_natCast, hp]
          exact hb h k (by omega)
    · obtain ⟨b, eb, hb⟩ := last a (by omega)
      exact ⟨b, eb, fun h k hk => hb h k (by omega)⟩
theorem ext_all (s : ByteArray) : s.extract 0 s.size = s := by
  apply ByteArray.ext
  simp [ByteArray.data_extract]
theorem evLiteral (s : ByteArray) (hs : s.size ≤ 100000) : ∃ b, Ev (fun k => phalaroperef07_Literal.f k s) b ∧ (b = true → 0 < s.size ∧ tmpl_pieces.f bigK s = some (s.size : Int)) := by
  by_cases h0 : 0 < s.size
  · have hne : ¬ s.toList = [] := fun h => by have := size_of_nil h; omega
    obtain ⟨b, eb, hb⟩ := evLitL s hs s.size 0 (by omega) (by omega)
    rw [ext_all] at eb hb
    refine ⟨b, Ev.congr (fun k => ?_) eb, fun h => ⟨h0, ?_⟩⟩
    · unfold phalaroperef07_Literal.f; rw [if_neg hne]
    · have hp : tmpl_piece.f s = some (X.pieceN s) := by unfold tmpl_piece.f; rw [if_pos (by omega)]
      obtain ⟨K, hK⟩ : ∃ K, K = bigK := ⟨_, rfl⟩
      have hlt : s.size < K := by rw [hK]; unfold bigK; omega
      rw [← hK]
      unfold tmpl_pieces.f
      rw [hp]
      exact hb h K hlt
  · refine ⟨false, Ev.congr (fun k => ?_) (Ev.now _), fun h => by cases h⟩
    unfold phalaroperef07_Literal.f; rw [if_pos (nil_of_size (by omega))]
end Go.Proofs.Ytjhihohofhhknaa.PF
namespace Go.Proofs.Ytjhihohofhhknaa.PF
set_option linter.unusedSimpArgs false
set_option linter.unusedVariables false
open Go.RowKit Go.Joins Go.WideShapes Go.ChangeShapes Go.Proofs.YtjhihohofhhknaaW.PrintWords X
theorem down_vars : Down Try.prog k30 (fun x => x.f0.size ≤ maxLen ∧ (Lit.int .i64 x.f1).wf = true ∧ True ∧ (Lit.int .i64 x.f3).wf = true ∧ (Lit.int .i64 x.f4).wf = true) 30 :=
  down_iso (fun p => ⟨p.1, p.2.1, p.2.2.1, p.2.2.2.1, p.2.2.2.2⟩) (fun _ => rfl) (down_struct Try.underlying30 (fdown_cons (down_string Try.underlying9) rfl (by kernel_rfl) (fdown_cons (down_int Try.underlying3) rfl (by kernel_rfl) (fdown_cons (down_bool Try.underlying4) rfl (by kernel_rfl) (fdown_cons (down_int Try.underlying3) rfl (by kernel_rfl) (fdown_one (down_int Try.underlying3) rfl (by kernel_rfl)))))) (by kernel_rfl))
theorem down_spec : Down Try.prog k37 (fun x => x.f0.size ≤ maxLen ∧ (Lit.int .i64 x.f1).wf = true ∧ True) 37 :=
  down_iso (fun p => ⟨p.1, p.2.1, p.2.2⟩) (fun _ => rfl) (down_struct Try.underlying37 (fdown_cons (down_string Try.underlying9) rfl (by kernel_rfl) (fdown_cons (down_int Try.underlying3) rfl (by kernel_rfl) (fdown_one (down_bool Try.underlying4) rfl (by kernel_rfl)))) (by kernel_rfl))
theorem down_part : Down Try.prog k42 (fun x => x.f0.size ≤ maxLen ∧ (Lit.int .u8 x.f1).wf = true ∧ ∀ y ∈ x.f2, y.f0.size ≤ maxLen ∧ (Lit.int .i64 y.f1).wf = true ∧ True) 42 :=
  down_iso (fun p => ⟨p.1, p.2.1, p.2.2⟩) (fun _ => rfl) (down_struct Try.underlying42 (fdown_cons (down_string Try.underlying9) rfl (by kernel_rfl) (fdown_cons (down_int Try.underlying5) rfl (by kernel_rfl) (fdown_one (down_slice Try.underlying40 down_spec (by kernel_rfl)) rfl (by kernel_rfl)))) (by kernel_rfl))
end Go.Proofs.Ytjhihohofhhknaa.PF
namespace Go.Proofs.Ytjhihohofhhknaa.PF
set_option linter.unusedSimpArgs false
set_option linter.unusedVariables false
open Go.RowKit Go.Joins Go.WideShapes Go.ChangeShapes Go.Proofs.YtjhihohofhhknaaW.PrintWords Go.Proofs.YtjhihohofhhknaaW.PrintLast Y
/-! ### Which parts are fine -/
theorem fine_small (x : S42) (h : okQ x) (hb : okB x) : fineSmall x.f0 x.f1 x.f2 := ⟨⟨by have := h.1; omega, hb.1, hb.2⟩, by have := h.2.1; omega, fun y hy => by have := h.2.2 y hy; omega⟩
theorem fine_lit (x : S42) (h : okQ x) (hb : okB x) (h1 : x.f1 = 0) (h2 : x.f2.length = 0) (h3 : 0 < x.f0.size) (hp : tmpl_pieces.f bigK x.f0 = some (x.f0.size : Int)) : fineP x = true := by
  unfold fineP tmpl_fine.f
  rw [if_pos (fine_small x h hb), show tmpl_pieces.f Y.bigK x.f0 = _ from hp]
  show fineB x.f0 x.f1 x.f2 _ = true
  unfold fineB
  rw [if_pos h2, h1]
  simp [h3]
theorem fine_exp (x : S42) (h : okQ x) (hb : okB x) (h2 : x.f2.length ≠ 0) (h0 : x.f0.size = 0) (ho : X.isOper x.f1 = true) (hs : ∀ y ∈ x.f2, specOk y = true) : fineP x = true := by
  obtain ⟨r, hr⟩ := pieces_f x.f0 (by omega)
  unfold fineP tmpl_fine.f
  rw [if_pos (fine_small x h hb), show tmpl_pieces.f Y.bigK x.f0 = _ from hr]
  show fineB x.f0 x.f1 x.f2 _ = true
  unfold fineB
  have hn : (x.f2.any fun y => !specOk y) = false := by
    rw [List.any_eq_false]
    intro y hy
    rw [hs y hy]; decide
  rw [if_neg h2, h0, ho, hn]
  rfl
theorem fine_specs (x : S42) (h : okQ x) (hb : okB x) (hf : fineP x = true) : ∀ y ∈ x.f2, specOk y = true := by
  obtain ⟨r, hr⟩ := pieces_f x.f0 (by have := h.1; omega)
  unfold fineP tmpl_fine.f at hf
  rw [if_pos (fine_small x h hb), show tmpl_pieces.f Y.bigK x.f0 = _ from hr] at hf
  have hf : fineB x.f0 x.f1 x.f2 r = true := hf
  intro y hy
  unfold fineB at hf
  have hne : x.f2.length ≠ 0 := by have := List.length_pos_of_mem hy; omega
  rw [if_neg hne, Bool.and_eq_true] at hf
  cases hs : specOk y with
  | true => rfl
  | false =>
    have : (x.f2.any fun y => !specOk y) = true := List.any_eq_true.2 ⟨y, hy, by rw [hs]; rfl⟩
    rw [this] at hf
    exact absurd hf.2 (by decide)
theorem mayP_fine (t : List S42) : ∀ p, mayP p t = true → ∀ q ∈ t, fineP q = true := by
  induction t with
  | nil => intro p _ q hq; cases hq
  | cons x l ih =>
    intro p h q hq
    unfold mayP at h
    rw [Bool.and_eq_true, Bool.and_eq_true] at h
    rcases List.mem_cons.1 hq with rfl | hq
    · exact h.1.1
    · exact ih _ h.2 q hq
/-! ### The reference's May -/
theorem oper07 : ∀ c : Fin 256, phalaroperef07_Operator.f 20 (c.val : Int) = some (X.isOper (c.val : Int)) := by decide +kernel
theorem evOper (c : Int) (h0 : 0 ≤ c) (h1 : c ≤ 255) : Ev (fun k => phalaroperef07_Operator.f k c) (X.isOper c) := by
  have := oper07 ⟨c.toNat, by omega⟩
  simp only [Int.toNat_of_nonneg h0] at this
  exact Ev.of (phalaroperef07_Operator.mono c) this
theorem evSpec (x : S37) : Ev (fun k => phalaroperef06_May.f k x.f0 x.f1 x.f2) (specOk x) := by
  have ev : Ev (fun k => phalaroperef05_May.f k x.f0) (nameMay x.f0) := ⟨x.f0.size + 2, fun k hk => rname_f x.f0 k (by omega)⟩
  refine Ev.bind ev (Ev.congr (fun k => ?_) (Ev.now _))
  unfold specOk
  cases nameMay x.f0 with
  | false => rfl
  | true =>
    simp only [if_true]
    by_cases h0 : 0 ≤ x.f1
    · rw [if_pos (by omega)]
      by_cases h9 : x.f1 ≤ 9999
      · rw [if_pos (by omega)]
        cases x.f2 with
        | true =>
          rw [if_pos rfl]
          by_cases hz : x.f1 = 0
          · rw [hz]; rfl
          · have hp : 0 < x.f1 := by omega
            simp [h0, h9, hz, hp]
        | false => rw [if_neg (by decide)]; simp [h0, h9]
      · rw [if_neg (by omega)]; simp [h9]
    · rw [if_neg (by omega)]; simp [h0]
theorem rmay_l1 (t : List S42) (i : Nat) (hib : i < 1000000) (a0 : ByteArray) (a1 : Int) (l : List S37) (hl : l.length ≤ 1000) (P : Prop) (next : ∃ b, Ev (fun k => phalaroperef07_May.l0 k t ((i + 1 : Nat) : Int)) b ∧ (b = true → P)) (d : Nat) : ∀ j : Nat, j + d = l.length →
    ∃ b, Ev (fun k => phalaroperef07_May.l1 k t (i : Int) (j : Int) a0 a1 l) b ∧ (b = true → P ∧ ∀ x ∈ l.drop j, specOk x = true) := by
  induction d with
  | zero =>
    intro j hj
    obtain ⟨b, eb, hb⟩ := next
    refine ⟨b, Ev.step (fun k => ?_) eb, fun h => ⟨hb h, fun x hx => ?_⟩⟩
    · simp only [phalaroperef07_May.l1]
      rw [if_neg (by omega), w1 i (by omega)]
    · rw [List.drop_eq_nil_iff.2 (by omega)] at hx; cases hx
  | succ d ih =>
    intro j hj
    have hlt : j < l.length := by omega
    obtain ⟨b, eb, hb⟩ := ih (j + 1) (by omega)
    have ev := evSpec l[j]
    have e1 : ∀ k, phalaroperef07_May.l1 (k + 1) t (i : Int) (j : Int) a0 a1 l = (phalaroperef06_May.f k l[j].f0 l[j].f1 l[j].f2).bind fun t240 => if t240 = true then phalaroperef07_May.l1 k t (i : Int) ((j + 1 : Nat) : Int) a0 a1 l else some false := fun k => by
      simp only [phalaroperef07_May.l1]
      rw [if_pos (by omega), if_pos (by omega), rds_at l j hlt, w1 j (by omega)]
    cases hs : specOk l[j] with
    | true =>
      rw [hs] at ev
      refine ⟨b, Ev.step e1 (Ev.bind ev (Ev.congr (fun k => if_pos rfl) eb)), fun h => ⟨(hb h).1, fun x hx => ?_⟩⟩
      rw [List.drop_eq_getElem_cons hlt] at hx
      rcases List.mem_cons.1 hx with rfl | hx
      · exact hs
      · exact (hb h).2 x hx
    | false =>
      rw [hs] at ev
      exact ⟨false, Ev.step e1 (Ev.bind ev (Ev.congr (fun k => if_neg (by decide)) (Ev.now _))), fun h => by cases h⟩
theorem rmay_l0 (t : List S42) (ht : FewT t) (hbb : ∀ q ∈ t, okB q) (d : Nat) : ∀ i : Nat, i + d = t.length → ∃ b, Ev (fun k => phalaroperef07_May.l0 k t (i : Int)) b ∧ (b = true → mayP (prevP t i) (t.drop i) = true) := by
  have htl := ht.1
  induction d with
  | zero =>
    intro i hi
    refine ⟨true, Ev.step (fun k => ?_) (Ev.now true), fun _ => ?_⟩
    · simp only [phalaroperef07_May.l0]; rw [if_neg (by omega)]
    · rw [List.drop_eq_nil_iff.2 (by omega)]; rfl
  | succ d ih =>
    intro i hi
    have hlt : i < t.length := by omega
    have hq := ht.2 t[i] (List.getElem_mem hlt)
    have hb := hbb t[i] (List.getElem_mem hlt)
    have next := ih (i + 1) (by omega)
    have hprev : prevP t (i + 1) = some t[i] := by unfold prevP; rw [if_neg (by omega)]; simp [hlt]
    rw [hprev] at next
    rw [List.drop_eq_getElem_cons hlt]
    by_cases hn : t[i].f2.length = 0
    · by_cases h1 : t[i].f1 = 0
      · obtain ⟨b, eb, hlit⟩ := evLiteral t[i].f0 (by have := hq.1; omega)
        have e1 : ∀ k, phalaroperef07_May.l0 (k + 1) t (i : Int) = (phalaroperef07_Literal.f k t[i].f0).bind fun t236 => (if t236 = true then (if (i : Int) > 0 then (if 0 ≤ (wrap64 ((i : Int) - 1)) then (if (wrap64 ((i : Int) - 1)) < (t.length : Int) then (if (((rd_T42 t (wrap64 ((i : Int) - 1))).f2).length : Int) = 0 then (some false) else (phalaroperef07_May.l0 k t ((i + 1 : Nat) : Int))) else (none)) else (none)) else (phalaroperef07_May.l0 k t ((i + 1 : Nat) : Int))) else (some false)) := fun k => by
          simp only [phalaroperef07_May.l0]
          rw [if_pos (by omega), if_pos (by omega), rdp_at t i hlt, if_pos (by omega), if_pos h1, w1 i (by omega)]
        cases b with
        | false => exact ⟨false, Ev.step e1 (Ev.bind eb (Ev.congr (fun k => if_neg (by decide)) (Ev.now _))), fun h => by cases h⟩
        | true =>
          obtain ⟨h3, hp⟩ := hlit rfl
          have hf := fine_lit t[i] hq hb h1 hn h3 hp
          by_cases h0 : i = 0
          · obtain ⟨b', eb', hb'⟩ := next
            refine ⟨b', Ev.step e1 (Ev.bind eb (Ev.congr (fun k => ?_) eb')), fun h => ?_⟩
            · rw [if_pos rfl, if_neg (by omega)]
            · unfold mayP
              have hpn : prevP t i = none := by unfold prevP; rw [if_pos h0]
              rw [hf, hb' h, hpn]; rfl
          · have hpp : prevP t i = some t[i - 1] := by unfold prevP; rw [if_neg h0]; simp [show i - 1 < t.length by omega]
            by_cases hz : t[i - 1].f2.length = 0
            · refine ⟨false, Ev.step e1 (Ev.bind eb (Ev.congr (fun k => ?_) (Ev.now _))), fun h => by cases h⟩
              rw [if_pos rfl, if_pos (by omega), wm1 i (by omega) (by omega), if_pos (by omega), if_pos (by omega), rdp_at t (i - 1) (by omega), if_pos (by omega)]
            · obtain ⟨b', eb', hb'⟩ := next
              refine ⟨b', Ev.step e1 (Ev.bind eb (Ev.congr (fun k => ?_) eb')), fun h => ?_⟩
              · rw [if_pos rfl, if_pos (by omega), wm1 i (by omega) (by omega), if_pos (by omega), if_pos (by omega), rdp_at t (i - 1) (by omega), if_neg (by omega)]
              · unfold mayP
                rw [hf, hb' h, hpp]
                simp [hz]
      · refine ⟨false, Ev.step (fun k => ?_) (Ev.now _), fun h => by cases h⟩
        simp only [phalaroperef07_May.l0]
        rw [if_pos (by omega), if_pos (by omega), rdp_at t i hlt, if_pos (by omega), if_neg h1]
    · by_cases h0 : t[i].f0.toList = []
      · have e1 : ∀ k, phalaroperef07_May.l0 (k + 1) t (i : Int) = (phalaroperef07_Operator.f k t[i].f1).bind fun t238 => phalaroperef07_May.j1 k t (i : Int) (!t238) t[i].f0 t[i].f1 t[i].f2 := fun k => by
          simp only [phalaroperef07_May.l0]
          rw [if_pos (by omega), if_pos (by omega), rdp_at t i hlt, if_neg (by omega), if_pos h0]
        have ev := evOper t[i].f1 hb.1 hb.2
        cases ho : X.isOper t[i].f1 with
        | false =>
          rw [ho] at ev
          refine ⟨false, Ev.step e1 (Ev.bind ev (Ev.step (fun k => ?_) (Ev.now _))), fun h => by cases h⟩
          simp only [phalaroperef07_May.j1]; rfl
        | true =>
          rw [ho] at ev
          obtain ⟨b', eb', hb'⟩ := rmay_l1 t i (by omega) t[i].f0 t[i].f1 t[i].f2 (by have := hq.2.1; omega) _ next t[i].f2.length 0 (by omega)
          refine ⟨b', Ev.step e1 (Ev.bind ev (Ev.step (f := fun k => phalaroperef07_May.l1 k t (i : Int) ((0 : Nat) : Int) t[i].f0 t[i].f1 t[i].f2) (fun k => ?_) eb')), fun h => ?_⟩
          · simp only [phalaroperef07_May.j1]; rfl
          · obtain ⟨g1, g2⟩ := hb' h
            have hf := fine_exp t[i] hq hb hn (size_of_nil h0) ho g2
            unfold mayP
            rw [hf, g1]
            have : ((prevP t i).any fun q => t[i].f2.length == 0 && q.f2.length == 0) = false := by
              cases prevP t i with
              | none => rfl
              | some q => simp [hn]
            rw [this]; rfl
      · refine ⟨false, Ev.step (f := fun k => phalaroperef07_May.j1 k t (i : Int) true t[i].f0 t[i].f1 t[i].f2) (fun k => ?_) (Ev.step (fun k => ?_) (Ev.now _)), fun h => by cases h⟩
        · simp only [phalaroperef07_May.l0]
          rw [if_pos (by omega), if_pos (by omega), rdp_at t i hlt, if_neg (by omega), if_neg h0]
        · simp only [phalaroperef07_May.j1]; rfl
theorem evMay (t : List S42) (ht : FewT t) (hbb : ∀ q ∈ t, okB q) : ∃ b, Ev (fun k => phalaroperef07_May.f k t) b ∧ (b = true → mayP none t = true) := rmay_l0 t ht hbb t.length 0 (by omega)
/-! ### The names -/
theorem tl_eq {a b : ByteArray} (h : a.toList = b.toList) : a = b := by
  rw [ByteArray.toList_eq, ByteArray.toList_eq] at h
  cases a; cases b; simp at h; simp [h]
theorem addN_in (l : List ByteArray) (nm y : ByteArray) (h : y ∈ addN l nm) : y ∈ l ∨ y = nm := by
  unfold addN at h
  split at h
  · exact .inl h
  · simpa using h
theorem namesQ_in (xs : List S37) (y : ByteArray) : ∀ acc, y ∈ namesQ acc xs → y ∈ acc ∨ ∃ x ∈ xs, x.f0 = y := by
  induction xs with
  | nil => intro acc h; exact .inl h
  | cons x xs ih =>
    intro acc h
    rcases ih (addN acc x.f0) h with h | ⟨z, hz, e⟩
    · rcases addN_in _ _ _ h with h | h
      · exact .inl h
      · exact .inr ⟨x, List.mem_cons_self, h.symm⟩
    · exact .inr ⟨z, List.mem_cons_of_mem _ hz, e⟩
theorem namesT_in (t : List S42) (y : ByteArray) : ∀ acc, y ∈ namesT acc t → y ∈ acc ∨ ∃ q ∈ t, ∃ x ∈ q.f2, x.f0 = y := by
  induction t with
  | nil => intro acc h; exact .inl h
  | cons q t ih =>
    intro acc h
    rcases ih (namesQ acc q.f2) h with h | ⟨z, hz, e⟩
    · rcases namesQ_in _ _ _ h with h | h
      · exact .inl h
      · exact .inr ⟨q, List.mem_cons_self, h⟩
    · exact .inr ⟨z, List.mem_cons_of_mem _ hz, e⟩
def Apart (l : List ByteArray) : Prop := l.Pairwise (fun a b => a.toList ≠ b.toList)
theorem addN_apart (l : List ByteArray) (nm : ByteArray) (h : Apart l) : Apart (addN l nm) := by
  unfold addN
  split
  · exact h
  · rename_i hn
    unfold Apart at h ⊢
    rw [List.pairwise_append]
    refine ⟨h, List.pairwise_singleton _ _, fun a ha b hb => ?_⟩
    obtain rfl : b = nm := by simpa using hb
    intro e
    exact hn (List.any_eq_true.2 ⟨a, ha, beq_iff_eq.2 e⟩)
theorem namesQ_apart (xs : List S37) : ∀ acc, Apart acc → Apart (namesQ acc xs) := by
  induction xs with
  | nil => intro acc h; exact h
  | cons x xs ih => intro acc h; exact ih _ (addN_apart acc x.f0 h)
theorem namesT_apart (t : List S42) : ∀ acc, Apart acc → Apart (namesT acc t) := by
  induction t with
  | nil => intro acc h; exact h
  | cons q t ih => intro acc h; exact ih _ (namesQ_apart q.f2 acc h)
theorem index_l0 (l : List ByteArray) (nm : ByteArray) (hl : l.length ≤ 1000000) (d : Nat) : ∀ k i : Nat, i + d = l.length → d < k → ∃ r : Int, slices_Index_string_string.l0 k l nm (l.length : Int) (i : Int) = some r ∧ decide (r ≥ 0) = hasN (l.drop i) nm := by
  induction d with
  | zero =>
    intro k i hi hk
    obtain ⟨k, rfl⟩ : ∃ m, k = m + 1 := ⟨k - 1, by omega⟩
    refine ⟨-1, ?_, ?_⟩
    · simp only [slices_Index_string_string.l0]; rw [if_neg (by omega)]
    · rw [List.drop_eq_nil_iff.2 (by omega)]; rfl
  | succ d ih =>
    intro k i hi hk
    obtain ⟨k, rfl⟩ : ∃ m, k = m + 1 := ⟨k - 1, by omega⟩
    have hlt : i < l.length := by omega
    have hd : hasN (l.drop i) nm = ((l[i].toList == nm.toList) || hasN (l.drop (i + 1)) nm) := by rw [List.drop_eq_getElem_cons hlt]; rfl
    by_cases h : nm.toList = l[i].toList
    · refine ⟨(i : Int), ?_, ?_⟩
      · simp only [slices_Index_string_string.l0]
        rw [if_pos (by omega), if_pos (by omega), if_pos (by omega), rdOf_at l i hlt, if_pos h]
      · rw [hd, beq_iff_eq.2 h.symm, decide_eq_true (by omega)]; rfl
    · obtain ⟨r, hr, hr2⟩ := ih k (i + 1) (by omega) (by omega)
      refine ⟨r, ?_, ?_⟩
      · simp only [slices_Index_string_string.l0]
        rw [if_pos (by omega), if_pos (by omega), if_pos (by omega), rdOf_at l i hlt, if_neg h, w1 i (by omega)]
        exact hr
      · rw [hd, beq_eq_false_iff_ne.2 (fun e => h e.symm), hr2]; rfl
theorem contains_f (l : List ByteArray) (nm : ByteArray) (hl : l.length ≤ 1000000) (k : Nat) (hk : l.length < k) : slices_Contains_string_string.f k l nm = some (hasN l nm) := by
  obtain ⟨r, hr, hr2⟩ := index_l0 l nm hl l.length k 0 (by omega) hk
  unfold slices_Contains_string_string.f slices_Index_string_string.f
  rw [show (0 : Int) = ((0 : Nat) : Int) from rfl, hr]
  show some (decide (r ≥ 0)) = _
  rw [hr2]; rfl
theorem tnames_l1 (t : List S42) (n : Int) (i : Nat) (hib : i < 1000000) (l : List S37) (hl : l.length ≤ 1000000) (d : Nat) : ∀ (k j : Nat) (acc : List ByteArray) (c : Int), j + d = l.length → acc.length + d ≤ 1000000 → acc.length + d ≤ k →
    ∃ c', tmpl_names.l1 (k + d + 1) acc c t n (i : Int) l (l.length : Int) (j : Int) = tmpl_names.l0 k (namesQ acc (l.drop j)) c' t n ((i + 1 : Nat) : Int) := by
  induction d with
  | zero =>
    intro k j acc c hj ha hk
    refine ⟨c, ?_⟩
    rw [List.drop_eq_nil_iff.2 (by omega)]
    simp only [tmpl_names.l1]
    rw [if_neg (by omega), w1 i (by omega)]
    rfl
  | succ d ih =>
    intro k j acc c hj ha hk
    have hlt : j < l.length := by omega
    obtain ⟨m, hm⟩ : ∃ m, m = k + d + 1 := ⟨_, rfl⟩
    have e1 : tmpl_names.l1 (m + 1) acc c t n (i : Int) l (l.length : Int) (j : Int) = if hasN acc l[j].f0 = true then tmpl_names.l1 m acc (wrap64 (c + 1)) t n (i : Int) l (l.length : Int) ((j + 1 : Nat) : Int) else tmpl_names.l1 m (acc ++ [l[j].f0]) (wrap64 (c + 1)) t n (i : Int) l (l.length : Int) ((j + 1 : Nat) : Int) := by
      simp only [tmpl_names.l1]
      rw [if_pos (by omega), if_pos (by omega), if_pos (by omega), rds_at l j hlt, contains_f acc _ (by omega) m (by omega), w1 j (by omega), if_pos (show acc.length < 8796093022208 by omega)]
      rfl
    rw [hm] at e1
    rw [show k + (d + 1) + 1 = k + d + 1 + 1 from rfl]
    have e2 : namesQ acc (l.drop j) = namesQ (addN acc l[j].f0) (l.drop (j + 1)) := by rw [List.drop_eq_getElem_cons hlt]; rfl
    rw [e1, e2]
    unfold addN
    by_cases hh : hasN acc l[j].f0 = true
    · rw [if_pos hh, if_pos hh]
      exact ih k (j + 1) acc _ (by omega) (by omega) (by omega)
    · rw [if_neg hh, if_neg hh]
      exact ih k (j + 1) _ _ (by omega) (by simp; omega) (by simp; omega)
theorem tnames_l0 (t : List S42) (ht : t.length ≤ 30) (hq : ∀ q ∈ t, q.f2.length ≤ 20) (d : Nat) : ∀ (k i : Nat) (acc : List ByteArray) (c : Int), i + d = t.length → acc.length + 20 * d ≤ 1000 → 1000 + 22 * d < k → ∃ c', tmpl_names.l0 k acc c t (t.length : Int) (i : Int) = some (namesT acc (t.drop i), c') := by
  induction d with
  | zero =>
    intro k i acc c hi ha hk
    obtain ⟨k, rfl⟩ : ∃ m, k = m + 1 := ⟨k - 1, by omega⟩
    refine ⟨c, ?_⟩
    rw [List.drop_eq_nil_iff.2 (by omega)]
    simp only [tmpl_names.l0]
    rw [if_neg (by omega)]
    rfl
  | succ d ih =>
    intro k i acc c hi ha hk
    have hlt : i < t.length := by omega
    have h20 := hq t[i] (List.getElem_mem hlt)
    have hn := namesQ_len t[i].f2 acc
    obtain ⟨m, rfl⟩ : ∃ m, k = (m + t[i].f2.length + 1) + 1 := ⟨k - t[i].f2.length - 2, by omega⟩
    obtain ⟨c1, h1⟩ := tnames_l1 t (t.length : Int) i (by omega) t[i].f2 (by omega) t[i].f2.length m 0 acc c (by omega) (by omega) (by omega)
    obtain ⟨c2, h2⟩ := ih m (i + 1) (namesQ acc t[i].f2) c1 (by omega) (by omega) (by omega)
    refine ⟨c2, ?_⟩
    simp only [tmpl_names.l0]
    rw [if_pos (by omega), if_pos (by omega), if_pos (by omega), rdp_at t i hlt, show (0 : Int) = ((0 : Nat) : Int) from rfl, h1, List.drop_zero, h2, List.drop_eq_getElem_cons hlt]
    rfl
theorem tnames_f (t : List S42) (ht : FewT t) (K : Nat) (hK : 2000 < K) : tmpl_Names.f K t = some (namesT [] t) := by
  have h30 := ht.1
  obtain ⟨c, h⟩ := tnames_l0 t h30 (fun q hq => (ht.2 q hq).2.1) t.length K 0 [] 0 (by omega) (by simp; omega) (by omega)
  unfold tmpl_Names.f tmpl_names.f
  rw [show tmpl_names.l0 K [] 0 t (t.length : Int) 0 = _ from h]
  rfl
/-! ### FitTexts -/
def textV (n : ByteArray) : S30 := ⟨n, 1, false, 1, 1⟩
theorem text_find (l : List ByteArray) (nm : ByteArray) : (findV (l.map textV) nm).2 = hasN l nm ∧ (hasN l nm = true → (findV (l.map textV) nm).1.f1 = 1 ∧ (findV (l.map textV) nm).1.f3 = 1 ∧ (findV (l.map textV) nm).1.f4 = 1) := by
  induction l with
  | nil => exact ⟨rfl, fun h => by cases h⟩
  | cons x l ih =>
    rw [List.map_cons]
    have hd : hasN (x :: l) nm = ((x.toList == nm.toList) || hasN l nm) := rfl
    unfold findV
    by_cases h : (x.toList == nm.toList) = true
    · rw [if_pos (show ((textV x).f0.toList == nm.toList) = true from h), hd, h]
      exact ⟨rfl, fun _ => ⟨rfl, rfl, rfl⟩⟩
    · rw [if_neg (show ¬ ((textV x).f0.toList == nm.toList) = true from h), hd, (by simpa using h : (x.toList == nm.toList) = false)]
      exact ih
theorem hasN_in {l : List ByteArray} {nm : ByteArray} (h : nm ∈ l) : hasN l nm = true := List.any_eq_true.2 ⟨nm, h, beq_iff_eq.2 rfl⟩
theorem texts_bad (t : List S42) (q : S42) (hq : q ∈ t) (x : S37) (hx : x ∈ q.f2) : badB ((namesT [] t).map textV) q.f1 x = false := by
  have hn : hasN (namesT [] t) x.f0 = true := (namesT_mem t x.f0 []).2 (.inr ⟨q, hq, x, hx, rfl⟩)
  obtain ⟨h1, h2⟩ := text_find (namesT [] t) x.f0
  obtain ⟨g1, g3, _⟩ := h2 hn
  unfold badB
  rw [h1, hn, g1, g3]
  simp
theorem texts_lost (t : List S42) (nm : ByteArray) (h : nm ∈ namesT [] t) : lostB t ((namesT [] t).map textV) nm = false := by
  obtain ⟨h1, h2⟩ := text_find (namesT [] t) nm
  obtain ⟨_, _, g4⟩ := h2 (hasN_in h)
  rcases namesT_in t nm [] h with h' | ⟨q, hq, x, hx, e⟩
  · cases h'
  · have hu : uncut nm (findV ((namesT [] t).map textV) nm).1 q.f1 x = true := by
      unfold uncut cutB
      rw [g4, e]
      simp
      omega
    have ha : (t.any fun q => q.f2.any (uncut nm (findV ((namesT [] t).map textV) nm).1 q.f1)) = true := List.any_eq_true.2 ⟨q, hq, List.any_eq_true.2 ⟨x, hx, hu⟩⟩
    unfold lostB
    rw [ha]
    simp
theorem texts_may (t : List S42) (ht : FewT t) (hb : ∀ q ∈ t, okB q) (hm : mayP none t = true) : mayS ((namesT [] t).map textV) = decide ((namesT [] t).length ≤ 8) := by
  rw [Bool.eq_iff_iff, mayS_iff, decide_eq_true_iff, List.length_map]
  refine ⟨fun h => h.2, fun h => ⟨⟨fun x hx => ?_, ?_⟩, h⟩⟩
  · obtain ⟨n, hn, rfl⟩ := List.mem_map.1 hx
    rcases namesT_in t n [] hn with h' | ⟨q, hq, y, hy, rfl⟩
    · cases h'
    · have := fine_specs q (ht.2 q hq) (hb q hq) (mayP_fine t none hm q hq) y hy
      unfold specOk at this
      simp only [Bool.and_eq_true] at this
      rw [varOk_iff]
      exact ⟨this.1.1.1, by show (1 : Int) ≤ 1 ∧ (1 : Int) ≤ 3; decide, by show (1 : Int) ≤ 1 ∧ (1 : Int) ≤ 4; decide, by show (0 : Int) ≤ 1; decide, by show (1 : Int) ≤ 8; decide⟩
  · rw [List.pairwise_map]
    exact namesT_apart t [] List.Pairwise.nil
theorem texts_small (t : List S42) (ht : FewT t) : smallV ((namesT [] t).map textV) := by
  have hl := ht.names
  refine ⟨by rw [List.length_map]; omega, fun x hx => ?_⟩
  obtain ⟨n, hn, rfl⟩ := List.mem_map.1 hx
  rcases namesT_in t n [] hn with h' | ⟨q, hq, y, hy, rfl⟩
  · cases h'
  · have := (ht.2 q hq).2.2 y hy
    show y.f0.size ≤ 1000000
    omega
theorem whole_f (t : List S42) (ht : FewT t) (hb : ∀ q ∈ t, okB q) : fit_Whole.f t ((namesT [] t).map textV) = some true := by
  have hl := ht.names
  have hsm : fitSmall t ((namesT [] t).map textV) := ⟨⟨texts_small t ht, by have := ht.1; omega⟩, fun q h => ⟨hb q h, by have := (ht.2 q h).2.1; omega⟩⟩
  obtain ⟨K, hK⟩ : ∃ K, K = Y.bigK := ⟨_, rfl⟩
  have hlt : 2000 < K := by rw [hK]; unfold bigK; omega
  unfold fit_Whole.f
  rw [if_pos hsm, ← hK, tnames_f t ht K hlt]
  show (if (namesT [] t).length ≤ 1000000 then some (!(namesT [] t).any (lostB t ((namesT [] t).map textV))) else none) = some true
  rw [if_pos (by omega)]
  have : (namesT [] t).any (lostB t ((namesT [] t).map textV)) = false := by
    rw [List.any_eq_false]
    intro n hn
    rw [texts_lost t n hn]; decide
  rw [this]; rfl
theorem texts_l0 (t : List S42) (ht : FewT t) (hb : ∀ q ∈ t, okB q) (hm : mayP none t = true) (d : Nat) : ∀ i : Nat, i + d = (namesT [] t).length →
    Ev (fun k => phalaropelaw15_FitTexts.l0 k t true (namesT [] t) (((namesT [] t).take i).map textV) (i : Int)) true := by
  have hl := ht.names
  induction d with
  | zero =>
    intro i hi
    refine Ev.step (fun k => ?_) (Ev.now true)
    have hfit := fit_f t ((namesT [] t).map textV) (by have := ht.1; omega) (fun q h => ⟨ht.2 q h, hb q h⟩) (texts_small t ht)
    have hms := texts_may t ht hb hm
    simp only [phalaropelaw15_FitTexts.l0]
    rw [if_neg (by omega), List.take_of_length_le (by omega), hfit, whole_f t ht hb]
    by_cases h8 : (namesT [] t).length ≤ 8
    · rw [(fitV_ok _ _ _).2 ⟨hm, by rw [hms, decide_eq_true h8], fun q hq x hx => texts_bad t q hq x hx⟩, if_neg (by omega)]
      rfl
    · have h1 : fitV (mayP none t) t ((namesT [] t).map textV) = 1 := by
        unfold fitV
        rw [hms, decide_eq_false h8, Bool.and_false, if_neg (by decide)]
      rw [h1, if_pos (by omega)]
      rfl
  | succ d ih =>
    intro i hi
    have hlt : i < (namesT [] t).length := by omega
    refine Ev.step (fun k => ?_) (ih (i + 1) (by omega))
    simp only [phalaropelaw15_FitTexts.l0]
    rw [if_pos (by omega), if_pos (by omega), if_pos (by simp; omega), rdOf_at _ i hlt, w1 i (by omega), List.take_succ_eq_append_getElem hlt, List.map_append]
    rfl
theorem FitTexts_pure (t : List S42) (hb : ∀ q ∈ t, okB q) : ∃ k, phalaropelaw15_FitTexts.f k t = some true := by
  refine Ev.rounds ?_
  have up : ∀ b, b = true → Ev (fun k => phalaropelaw15_FitTexts.j0 k t true b) true := fun b hb => Ev.step (fun k => by simp only [phalaropelaw15_FitTexts.j0]; rw [if_pos hb]) (Ev.now true)
  unfold phalaropelaw15_FitTexts.f
  rw [awake_f]
  simp only [Option.bind_some]
  obtain ⟨b, e, ht⟩ := rfewT_f t
  refine Ev.bind e ?_
  cases b with
  | false => simp only [Bool.false_eq_true, if_false]; exact up true rfl
  | true =>
    simp only [if_true]
    have ht := ht rfl
    obtain ⟨b, e, hm⟩ := evMay t ht hb
    refine Ev.bind e ?_
    cases b with
    | false => exact up true rfl
    | true =>
      refine Ev.step (f := fun k => (phalaroperef07_Names.f k t).bind fun n => phalaropelaw15_FitTexts.l0 k t true n ([] : List S30) 0) (fun k => by simp [phalaropelaw15_FitTexts.j0]) ?_
      exact Ev.bind (evNames t ht) (texts_l0 t ht hb (hm rfl) (namesT [] t).length 0 (by omega))
theorem u8_rangeT {n : Int} (h : (Lit.int .u8 n).wf = true) : 0 ≤ n ∧ n ≤ 255 := by
  have hw : (decide (IntKind.u8.min ≤ n) && decide (n ≤ IntKind.u8.max)) = true := h
  rw [show IntKind.u8.min = 0 from by decide, show IntKind.u8.max = 255 from by decide, Bool.and_eq_true, decide_eq_true_eq, decide_eq_true_eq] at hw
  exact hw
theorem FitTexts_walk {A0 : Option Addr} {c0 : Nat} {l0 : List S42} (w : World) (hl0 : Kd.C k42 w A0 l0.length l0) (hc0 : l0.length ≤ c0)
    (ho : ∀ x ∈ l0, x.f0.size ≤ maxLen ∧ (Lit.int .u8 x.f1).wf = true ∧ ∀ y ∈ x.f2, y.f0.size ≤ maxLen ∧ (Lit.int .i64 y.f1).wf = true ∧ True) :
    Calls Try.prog 5 #[.slice A0 l0.length c0] w fun e w' => e = .returned (.bool true) ∧ Below w.heap.size w w' := by
  obtain ⟨k, hk⟩ := FitTexts_pure l0 (fun q hq => u8_rangeT (ho q hq).2.1)
  exact phalaropelaw15_FitTexts.calls k A0 c0 l0 true w hl0 hc0 hk
end Go.Proofs.Ytjhihohofhhknaa.PF
namespace Go.Proofs.Ytjhihohofhhknaa.fitTexts
open Go.ChangeShapes Go.WideShapes Go.ChangeAt Go.RowKit
open Go.ChangeMaps (open_string shut_string)
set_option linter.unusedVariables false
theorem own : ownKnob Try.prog.godebug = none := by kernel_rfl
theorem laidOut : laidOutB Try.prog = true := by kernel_rfl
set_option maxRecDepth 100000 in
theorem lifted (os : Os) (started : os.Started) (H : Type) (enc : TypeId × Value → H) :
    ReturnsInHanded {} Try.checked os 5 .any (Rows.fitTextsSpec.pre6 enc Try.prog Try.f5 Rows.fitTextsRow.domain false) (Rows.fitTextsSpec.post enc Try.prog Try.f5 false true false false) := by
  refine returnsInHanded_of_change_sized (C := Try.checked) own started (by kernel_rfl) Try.func5
    (ChangeSpec.witness6 (enc := enc) (C := Try.checked) false ⟨#[], #[.slice none 0 0], []⟩ 8 (by kernel_rfl) (by kernel_rfl) (by kernel_rfl) (by kernel_rfl)) ?_
  intro W base args ds gs before hval0 hW hcnd _ _
  have hval : ∀ (j : Nat) t v, Try.f5.params[j]? = some t → args[j]? = some v → Value.okWide Try.prog W .any base t v := hval0
  have hW' := hW
  obtain ⟨p, q, hA0, hV, rfl, hfz, hnd⟩ := hW
  have hA : DataW.TrodAll enc Try.prog W 0 (fun _ => true) true Try.f5.params.toList args.toList ds p := hA0
  rw [Try.params5] at hA hval
  obtain ⟨v0, vs0, d0, ds0, p0, r0, hargs, rfl, rfl, h0, t0⟩ := trodAll_cons hA
  obtain ⟨rfl, rfl, rfl⟩ := trodAll_nil t0
  obtain rfl : args = #[v0] := by cases args; simp_all
  obtain ⟨rfl, rfl⟩ := trodVars_none hV
  have k0 := h0
  have lt0 : ∀ x ∈ p0, x.block < W.heap.size := by obtain ⟨m, hm⟩ := k0; exact DataW.trod_lt m _ _ _ hm
  obtain ⟨A0, l0, c0, rfl, hc0, hl0, o0⟩ := X.arg_slice Try.underlying22 PF.down_part (by kernel_rfl) (hval 0 22 v0 rfl rfl) h0
  refine (PF.FitTexts_walk W hl0 hc0 o0).mono fun e W' ⟨he, bel⟩ => ?_
  subst he
  exact ⟨_, rfl, _, _, _, [], _, [], hW', trodAll_mk1 (shut_bool Try.underlying4 _), (trodAll_cons_mk (Below.trod laidOut (by kernel_rfl) (of_decide_eq_true (by kernel_rfl)) k0 bel lt0) trodAll_mk0), rfl, bel.frame _, fun h => by cases h⟩
theorem over : Rows.fitTextsRow.holds Try.pinned (OpenSpec.ofChange Rows.fitTextsSpec) :=
  OpenClaim.holds_of_wide 5 Try.f5 rfl rfl rfl rfl rfl rfl rfl ⟨rfl, rfl, rfl, rfl, rfl⟩ rfl rfl rfl rfl rfl (by kernel_rfl) Try.func5 (by kernel_rfl)
    (of_decide_eq_true (by kernel_rfl)) (by unfold Func.isWrapper; first | (rw [if_pos (by decide +kernel)]; kernel_rfl) | (rw [if_neg (by decide +kernel)]; exact ⟨rfl, rfl⟩))
    (fun os started H enc _ => lifted os started H enc)
end Go.Proofs.Ytjhihohofhhknaa.fitTexts
namespace Go.Proofs.Ytjhihohofhhknaa
theorem fitTexts_holds : Rows.FitTextsSaid := fitTexts.over
#print axioms fitTexts_holds
end Go.Proofs.Ytjhihohofhhknaa
