/- What is told has nothing but unreserved and reserved bytes, and triplets. Small words over a print, and the reference's classes of characters as printed. Few texts (phalaroperef08.Few, the first part of Za). PieceURI: the law. Arguments of the api's own types, read down. A spec as an argument, read down (no print in it). The law PieceURI, for every input: true; each argument reads as it did. -/
import Derived.Test.YtbjeegkmafbejaaXbl
import Derived.Test.YtbjeegkmafbejaaYh
import Derived.Test.YtbjeegkmafbejaaPUx0
import Derived.Test.YtbjeegkmafbejaaPUx2
import Derived.Test.YtbjeegkmafbejaaPUx4
import Derived.Test.YtbjeegkmafbejaaYu
import Derived.Test.YtbjeegkmafbejaaYn
import Derived.Test.YtbjeegkmafbejaaPUx1
import Derived.Test.YtbjeegkmafbejaaPUx3
import Derived.Test.YtbjeegkmafbejaaXr
import Derived.Test.YtbjeegkmafbejaaRows
import Derived.WalkKit
import Derived.ProofKit
import Derived.OpenShut
import Derived.ShutString
import Derived.ChangeOld
import Derived.Below
import Derived.SizedLaws
namespace Go.Proofs.Ytbjeegkmafbejaa.X
set_option linter.unusedSimpArgs false
set_option linter.unusedVariables false
open Go.RowKit Go.Proofs.YtbjeegkmafbejaaW.PrintWords Go.Proofs.Ytbjeegkmafbejaa.Y
/-- Is a byte reserved? -/
def resB (c : Int) : Bool := [58, 47, 63, 35, 91, 93, 64, 33, 36, 38, 39, 40, 41, 42, 43, 44, 59, 61].contains c
def okB (x : UInt8) : Bool := isUnres (x.toNat : Int) || resB (x.toNat : Int)
def hxB (x : UInt8) : Bool := isHex (x.toNat : Int)
/-- Nothing but unreserved and reserved bytes, and triplets. -/
inductive GG : List UInt8 → Prop where
  | nil : GG []
  | ok (x : UInt8) (l : List UInt8) : okB x = true → GG l → GG (x :: l)
  | tri (a b : UInt8) (l : List UInt8) : hxB a = true → hxB b = true → GG (a :: b :: l) → GG (37 :: a :: b :: l)
theorem GG.append {l k : List UInt8} (h : GG l) (hk : GG k) : GG (l ++ k) := by
  induction h with
  | nil => exact hk
  | ok x l hx _ ih => exact GG.ok x _ hx ih
  | tri a b l ha hb _ ih => exact GG.tri a b _ ha hb ih
/-- At each place. -/
theorem GG.at_ {l : List UInt8} (h : GG l) : ∀ (i : Nat) (x : UInt8), l[i]? = some x → okB x = true ∨ (x = 37 ∧ ∃ a b, l[i + 1]? = some a ∧ l[i + 2]? = some b ∧ hxB a = true ∧ hxB b = true) := by
  induction h with
  | nil => intro i x hx; simp at hx
  | ok y l hy _ ih =>
    intro i x hx
    cases i with
    | zero => simp at hx; subst hx; exact .inl hy
    | succ i => exact ih i x (by simpa using hx)
  | tri a b l ha hb _ ih =>
    intro i x hx
    cases i with
    | zero => simp at hx; subst hx; exact .inr ⟨rfl, a, b, rfl, rfl, ha, hb⟩
    | succ i => exact ih i x (by simpa using hx)
theorem all_u8 {p : UInt8 → Bool} (h : ∀ c : Fin 256, p (UInt8.ofNat c.val) = true) (x : UInt8) : p x = true := by
  have := h ⟨x.toNat, x.toNat_lt⟩
  simpa using this
theorem hx_ok (x : UInt8) (h : hxB x = true) : okB x = true := by
  have := all_u8 (p := fun x => !hxB x || okB x) (by decide +kernel) x
  rw [h] at this; simpa using this
theorem word_ok (x : UInt8) (h : isWord (x.toNat : Int) = true) : okB x = true := by
  have := all_u8 (p := fun x => !isWord (x.toNat : Int) || okB x) (by decide +kernel) x
  rw [h] at this; simpa using this
theorem gStay : ∀ c : Fin 256, ((staySet true).has (c.val : Int) = true → okB (UInt8.ofNat (c.val : Int).toNat) = true) ∧ ((staySet false).has (c.val : Int) = true → okB (UInt8.ofNat (c.val : Int).toNat) = true) := by decide +kernel
theorem gHex : ∀ c : Fin 256, isHex (c.val : Int) = true → (staySet true).has (c.val : Int) = true ∧ hxB (UInt8.ofNat (c.val : Int).toNat) = true := by decide +kernel
theorem gTrip : ∀ c : Fin 256, (tripS (c.val : Int)).data.toList = [37, UInt8.ofNat (hexD ((c.val : Int) / 16)).toNat, UInt8.ofNat (hexD ((c.val : Int) % 16)).toNat] ∧ hxB (UInt8.ofNat (hexD ((c.val : Int) / 16)).toNat) = true ∧ hxB (UInt8.ofNat (hexD ((c.val : Int) % 16)).toNat) = true := by decide +kernel
theorem enc_rest (keep : Bool) (s : ByteArray) (m : Nat) : ∀ i, i + m = s.size → GG (((List.range s.size).drop i).flatMap (pieceE keep s)) := by
  have step : ∀ i, i < s.size → ((List.range s.size).drop i).flatMap (pieceE keep s) = pieceE keep s i ++ ((List.range s.size).drop (i + 1)).flatMap (pieceE keep s) := fun i h => by
    rw [List.drop_eq_getElem_cons (show i < (List.range s.size).length by rw [List.length_range]; omega), List.getElem_range, List.flatMap_cons]
  induction m with
  | zero =>
    intro i hi
    have hr : (List.range s.size).drop i = [] := List.drop_eq_nil_of_le (by rw [List.length_range]; omega)
    rw [hr]; exact GG.nil
  | succ m ih =>
    intro i hi
    have h := ih (i + 1) (by omega)
    rw [step i (by omega)]
    obtain ⟨h0, h1⟩ := bI_range s i
    have g := gStay ⟨(bI s i).toNat, by omega⟩
    obtain ⟨t1, t2, t3⟩ := gTrip ⟨(bI s i).toNat, by omega⟩
    simp only [Int.toNat_of_nonneg h0] at g t1 t2 t3
    cases hs : (staySet keep).has (bI s i) with
    | true =>
      have hp : pieceE keep s i = [UInt8.ofNat (bI s i).toNat] := by unfold pieceE; rw [hs, Bool.true_or, if_pos rfl]
      rw [hp]
      refine GG.ok _ _ ?_ h
      cases keep with
      | true => exact g.1 hs
      | false => exact g.2 hs
    | false =>
      cases ht : (keep && tri s i) with
      | false =>
        have hp : pieceE keep s i = (tripS (bI s i)).data.toList := by unfold pieceE; rw [hs, ht, Bool.or_false, if_neg (by decide)]
        rw [hp, t1]
        exact GG.tri _ _ _ t2 t3 (GG.ok _ _ (hx_ok _ t2) (GG.ok _ _ (hx_ok _ t3) h))
      | true =>
        rw [Bool.and_eq_true] at ht
        obtain ⟨rfl, ht⟩ := ht
        have hp : pieceE true s i = [UInt8.ofNat (bI s i).toNat] := by unfold pieceE; rw [ht, Bool.true_and, Bool.or_true, if_pos rfl]
        have hin := tri_in ht
        unfold tri at ht
        simp only [Bool.and_eq_true, beq_iff_eq] at ht
        obtain ⟨⟨_, h37⟩, hx1, hx2⟩ := ht
        obtain ⟨a0, a1⟩ := bI_range s (i + 1)
        obtain ⟨b0, b1⟩ := bI_range s (i + 2)
        obtain ⟨s1, z1⟩ := gHex ⟨(bI s (i + 1)).toNat, by omega⟩ (by simpa only [Int.toNat_of_nonneg a0] using hx1)
        obtain ⟨s2, z2⟩ := gHex ⟨(bI s (i + 2)).toNat, by omega⟩ (by simpa only [Int.toNat_of_nonneg b0] using hx2)
        simp only [Int.toNat_of_nonneg a0] at s1 z1
        simp only [Int.toNat_of_nonneg b0] at s2 z2
        have p1 : pieceE true s (i + 1) = [UInt8.ofNat (bI s (i + 1)).toNat] := by unfold pieceE; rw [s1, Bool.true_or, if_pos rfl]
        have p2 : pieceE true s (i + 2) = [UInt8.ofNat (bI s (i + 2)).toNat] := by unfold pieceE; rw [s2, Bool.true_or, if_pos rfl]
        rw [step (i + 1) (by omega), step (i + 1 + 1) (by omega), p1, show i + 1 + 1 = i + 2 from rfl, p2] at h ⊢
        rw [hp, h37]
        exact GG.tri _ _ _ z1 z2 h
theorem enc_GG (keep : Bool) (s : ByteArray) : GG (encS keep s).data.toList := by
  have := enc_rest keep s s.size 0 (by omega)
  rw [List.drop_zero] at this
  exact this
theorem app_GG {a b : ByteArray} (ha : GG a.data.toList) (hb : GG b.data.toList) : GG (a ++ b).data.toList := by
  rw [ByteArray.data_append, Array.toList_append]
  exact ha.append hb
theorem joinT_GG (sep : List UInt8) (hs : GG sep) (l : List (List UInt8)) (h : ∀ x ∈ l, GG x) : GG (Lib.joinTail sep l) := by
  induction l with
  | nil => exact GG.nil
  | cons x l ih =>
    have h1 := ih fun y hy => h y (List.mem_cons_of_mem _ hy)
    exact (hs.append (h x (List.mem_cons_self ..))).append h1
theorem join_GG (sep : ByteArray) (hs : GG sep.data.toList) (l : List ByteArray) (h : ∀ x ∈ l, GG x.data.toList) : GG (joinB l sep).data.toList := by
  show GG (Lib.join (l.map (·.data.toList)) sep.data.toList)
  cases l with
  | nil => exact GG.nil
  | cons x l =>
    rw [List.map_cons, Lib.join_cons]
    exact (h x (List.mem_cons_self ..)).append (joinT_GG _ hs _ fun y hy => by
      obtain ⟨z, hz, rfl⟩ := List.mem_map.1 hy
      exact h z (List.mem_cons_of_mem _ hz))
theorem one_GG (c : UInt8) (h : okB c = true) : GG (⟨#[c]⟩ : ByteArray).data.toList := GG.ok c [] h GG.nil
theorem nil_GG : GG (⟨#[]⟩ : ByteArray).data.toList := GG.nil
theorem empty_GG (c : Int) : GG (ruleEmpty c).data.toList := by
  unfold ruleEmpty
  repeat (split; · exact one_GG _ (by decide))
  exact nil_GG
theorem sep_GG (c : Int) : GG (ruleSep c).data.toList := by
  unfold ruleSep
  repeat (split; · exact one_GG _ (by decide))
  exact nil_GG
theorem drop_cons (s : ByteArray) (a : Nat) (h : a < s.size) : ∃ x : UInt8, s.data.toList.drop a = x :: s.data.toList.drop (a + 1) ∧ bI s a = (x.toNat : Int) := by
  have hl : a < s.data.toList.length := h
  exact ⟨_, List.drop_eq_getElem_cons hl, by rw [bI_at s a h]; rfl⟩
theorem name_rest (s : ByteArray) (f : Nat) : ∀ a e, a ≤ s.size → e ≤ a → s.size ≤ a + f → (endsN s f a e).2 = s.size → GG (s.data.toList.drop a) := by
  induction f with
  | zero => intro a e h1 h2 h3 h4; rw [List.drop_eq_nil_of_le (by have : s.data.toList.length = s.size := rfl; omega)]; exact GG.nil
  | succ f ih =>
    intro a e h1 h2 h3 h4
    by_cases ha : a < s.size
    · obtain ⟨x, hd, hb⟩ := drop_cons s a ha
      rw [endsN, if_pos ha] at h4
      rw [hd]
      by_cases hw : isWord (bI s a) = true
      · rw [if_pos hw] at h4
        exact GG.ok x _ (word_ok x (by rw [← hb]; exact hw)) (ih (a + 1) (a + 1) (by omega) (by omega) (by omega) h4)
      rw [if_neg hw] at h4
      by_cases hdot : bI s a = 46 ∧ 0 < a ∧ a = e
      · rw [if_pos hdot] at h4
        refine GG.ok x _ ?_ (ih (a + 1) e (by omega) (by omega) (by omega) h4)
        have : x = 46 := by
          have h := hdot.1
          rw [hb] at h
          exact UInt8.toNat_inj.1 (by show x.toNat = 46; omega)
        rw [this]; decide
      rw [if_neg hdot] at h4
      by_cases ht : tri s a = true
      · rw [if_pos ht] at h4
        have hin := tri_in ht
        have h := ih (a + 3) (a + 3) (by omega) (by omega) (by omega) h4
        unfold tri at ht
        simp only [Bool.and_eq_true, beq_iff_eq] at ht
        obtain ⟨⟨_, h37⟩, hx1, hx2⟩ := ht
        obtain ⟨y, hd1, hb1⟩ := drop_cons s (a + 1) (by omega)
        obtain ⟨z, hd2, hb2⟩ := drop_cons s (a + 1 + 1) (by omega)
        have hx : x = 37 := by
          rw [hb] at h37
          exact UInt8.toNat_inj.1 (by show x.toNat = 37; omega)
        have hy : hxB y = true := by unfold hxB; rw [← hb1]; exact hx1
        have hz : hxB z = true := by unfold hxB; rw [← hb2]; exact hx2
        rw [hd1, hd2, hx]
        exact GG.tri y z _ hy hz (GG.ok _ _ (hx_ok _ hy) (GG.ok _ _ (hx_ok _ hz) h))
      rw [if_neg ht] at h4
      exfalso
      split at h4
      · split at h4 <;> (dsimp only at h4; omega)
      · dsimp only at h4; omega
    · rw [List.drop_eq_nil_of_le (by have : s.data.toList.length = s.size := rfl; omega)]; exact GG.nil
theorem name_GG (s : ByteArray) (h : nameMay s = true) : GG s.data.toList := by
  unfold nameMay at h
  rw [Bool.and_eq_true, beq_iff_eq] at h
  have := name_rest s s.size 0 0 (by omega) (by omega) (by omega) h.2
  rwa [List.drop_zero] at this
theorem named_GG (c : Int) (nm s : ByteArray) (hn : GG nm.data.toList) (hs : GG s.data.toList) : GG (namedS c nm s).data.toList := by
  unfold namedS
  split
  · exact app_GG hn (empty_GG c)
  · exact app_GG (app_GG hn (one_GG 61 (by decide))) hs
theorem maybe_GG (c : Int) (nm s : ByteArray) (hn : GG nm.data.toList) (hs : GG s.data.toList) : GG (maybeS c nm s).data.toList := by
  unfold maybeS
  split
  · exact named_GG c nm s hn hs
  · exact hs
theorem text_GG (c : Int) (nm : ByteArray) (mx : Int) (s : ByteArray) (hn : GG nm.data.toList) : GG (textS c nm mx s).data.toList := maybe_GG c nm _ hn (enc_GG _ _)
theorem pair_GG (c : Int) (k v : ByteArray) : GG (pairS c k v).data.toList := by
  unfold pairS
  split
  · exact named_GG c _ _ (enc_GG _ _) (enc_GG _ _)
  · exact app_GG (app_GG (enc_GG _ _) (one_GG 61 (by decide))) (enc_GG _ _)
theorem star_GG (c : Int) (nm : ByteArray) (vk : Int) (l : List ByteArray) (p : List (ByteArray × ByteArray)) (hn : GG nm.data.toList) : GG (starS c nm vk l p).data.toList := by
  unfold starS
  split
  · exact join_GG _ (sep_GG c) _ fun x hx => by
      obtain ⟨y, _, rfl⟩ := List.mem_map.1 hx
      exact maybe_GG c nm _ hn (enc_GG _ _)
  · exact join_GG _ (sep_GG c) _ fun x hx => by
      obtain ⟨y, _, rfl⟩ := List.mem_map.1 hx
      exact pair_GG c _ _
theorem whole_GG (c : Int) (nm : ByteArray) (T : List ByteArray) (hn : GG nm.data.toList) : GG (wholeS c nm T).data.toList := by
  have hj : GG (joinB (T.map (encS (ruleKeep c))) ⟨#[44]⟩).data.toList := join_GG _ (one_GG 44 (by decide)) _ fun x hx => by
    obtain ⟨y, _, rfl⟩ := List.mem_map.1 hx
    exact enc_GG _ _
  unfold wholeS
  split
  · exact app_GG (app_GG hn (one_GG 61 (by decide))) hj
  · exact hj
/-- The same, byte by byte of a text. -/
theorem GG.text {s : ByteArray} (h : GG s.data.toList) (i : Nat) (hi : i < s.size) : isUnres (bI s i) = true ∨ resB (bI s i) = true ∨ Y.tri s i = true := by
  have hl : i < s.data.toList.length := hi
  have hb : bI s i = ((s.data.toList[i]).toNat : Int) := by rw [bI_at s i hi]; rfl
  rcases h.at_ i _ (List.getElem?_eq_getElem hl) with h1 | ⟨h37, a, b, ha, hb', hxa, hxb⟩
  · unfold okB at h1
    rw [← hb, Bool.or_eq_true] at h1
    rcases h1 with h1 | h1
    · exact .inl h1
    · exact .inr (.inl h1)
  · refine .inr (.inr ?_)
    obtain ⟨l1, e1⟩ := List.getElem?_eq_some_iff.1 ha
    obtain ⟨l2, e2⟩ := List.getElem?_eq_some_iff.1 hb'
    have q1 : i + 1 < s.size := l1
    have q2 : i + 2 < s.size := l2
    have b1 : bI s (i + 1) = (a.toNat : Int) := by rw [bI_at s (i + 1) q1, ← e1]; rfl
    have b2 : bI s (i + 2) = (b.toNat : Int) := by rw [bI_at s (i + 2) q2, ← e2]; rfl
    unfold Y.tri
    rw [hb, h37, b1, b2, decide_eq_true (by omega)]
    unfold hxB at hxa hxb
    rw [hxa, hxb]; rfl
end Go.Proofs.Ytbjeegkmafbejaa.X
-- Printed by wip/xprint.py of this claim's authors, over the kit's print; not trusted: Lean checks it.
namespace Go.Proofs.Ytbjeegkmafbejaa.PU
open Go.RowKit Go.Proofs.YtbjeegkmafbejaaW.PrintWords Go.Proofs.YtbjeegkmafbejaaW.PrintLast Go.Proofs.YtbjeegkmafbejaaW.PrintMore
attribute [local go_sem] max2_int min2_int max_two min_two max_three min_three max_four min_four   -- for this text's walks alone
set_option linter.unusedVariables false
set_option linter.unusedSimpArgs false

/-! ### phalaropelaw11_PieceURI: function 3 -/
def phalaropelaw11_PieceURI.l0 : Nat → Bool → ByteArray → Int → Option (Bool)
  | 0, _, _, _ => none
  | k + 1, x7, x8, x11 => if x11 < (x8.size : Int) then (if 0 ≤ x11 then ((phalaroperef02_Unreserved.f k (bt x8 x11)).bind fun t151 => (if t151 = true then (phalaropelaw11_PieceURI.l0 k x7 x8 (wrap64 (x11 + 1))) else ((phalaroperef02_Reserved.f k (bt x8 x11)).bind fun t152 => (if t152 = true then (phalaropelaw11_PieceURI.l0 k x7 x8 (wrap64 (x11 + 1))) else (if x11 ≤ (x8.size : Int) then ((phalaroperef03_Triplet.f (x8.extract (x11 : Int).toNat x8.size)).bind fun t153 => (if t153 = true then (phalaropelaw11_PieceURI.l0 k x7 x8 (wrap64 (x11 + 1))) else (some false))) else (none)))))) else (none)) else (some x7)
def phalaropelaw11_PieceURI.f (k : Nat) (a0 : Int) (a1_0 : ByteArray) (a1_1 : Int) (a1_2 : Bool) (a2_0 : Int) (a2_1 : ByteArray) (l2_2 : List ByteArray) (l2_3 : List (S69)) : Option (Bool) := (phalaropelaw11_awake.f).bind fun t146 => ((phalaropelaw11_few.f k a1_0 a1_1 a1_2 a2_0 a2_1 l2_2 l2_3).bind fun t147 => (if t147 = true then ((piece_One.f a0 a1_0 a1_1 a1_2 a2_0 a2_1 l2_2 l2_3).bind fun bt148 => (phalaropelaw11_PieceURI.l0 k t146 bt148.1 0)) else (some t146)))
theorem phalaropelaw11_PieceURI.mono_l : ∀ k, (∀ y0 y1 y2, LeO (phalaropelaw11_PieceURI.l0 k y0 y1 y2) (phalaropelaw11_PieceURI.l0 (k + 1) y0 y1 y2))
  | 0 => fun _ _ _ r h => by simp [phalaropelaw11_PieceURI.l0] at h
  | k + 1 => by
    have ih0 := phalaropelaw11_PieceURI.mono_l k
    · intro y0 y1 y2
      unfold phalaropelaw11_PieceURI.l0
      repeat' first
      | (with_reducible exact ih0 _ _ _)
      | (with_reducible exact phalaropelaw11_few.mono _ _ _ _ _ _ _ _)
      | (with_reducible exact phalaroperef02_Reserved.mono _ _)
      | (with_reducible exact phalaroperef02_Unreserved.mono _ _)
      | (with_reducible exact LeO.refl _)
      | (with_reducible exact LeO.none _)
      | (with_reducible refine LeO.ite ?_ ?_)
      | (with_reducible refine LeO.bind ?_ (fun _ => ?_))
      | exact ih0 _ _ _
      | exact phalaropelaw11_few.mono _ _ _ _ _ _ _ _
      | exact phalaroperef02_Reserved.mono _ _
      | exact phalaroperef02_Unreserved.mono _ _
      | exact LeO.none _
      | refine LeO.ite ?_ ?_
      | refine LeO.bind ?_ (fun _ => ?_)
theorem phalaropelaw11_PieceURI.mono : ∀ a0 a1 a2 a3 a4 a5 a6 a7 k, LeO (phalaropelaw11_PieceURI.f k a0 a1 a2 a3 a4 a5 a6 a7) (phalaropelaw11_PieceURI.f (k + 1) a0 a1 a2 a3 a4 a5 a6 a7) := by
  intro a0 a1 a2 a3 a4 a5 a6 a7 k
  have ih0 := phalaropelaw11_PieceURI.mono_l k
  unfold phalaropelaw11_PieceURI.f
  repeat' first
      | (with_reducible exact ih0 _ _ _)
      | (with_reducible exact phalaropelaw11_few.mono _ _ _ _ _ _ _ _)
      | (with_reducible exact phalaroperef02_Reserved.mono _ _)
      | (with_reducible exact phalaroperef02_Unreserved.mono _ _)
      | (with_reducible exact LeO.refl _)
      | (with_reducible exact LeO.none _)
      | (with_reducible refine LeO.ite ?_ ?_)
      | (with_reducible refine LeO.bind ?_ (fun _ => ?_))
      | exact ih0 _ _ _
      | exact phalaropelaw11_few.mono _ _ _ _ _ _ _ _
      | exact phalaroperef02_Reserved.mono _ _
      | exact phalaroperef02_Unreserved.mono _ _
      | exact LeO.none _
      | refine LeO.ite ?_ ?_
      | refine LeO.bind ?_ (fun _ => ?_)
set_option maxHeartbeats 8000000 in
set_option maxRecDepth 100000 in
theorem phalaropelaw11_PieceURI.calls (k : Nat) (a0 : Int) (a1_0 : ByteArray) (a1_1 : Int) (a1_2 : Bool) (a2_0 : Int) (a2_1 : ByteArray) (A2_2 : Option Addr) (c2_2 : Nat) (l2_2 : List ByteArray) (A2_3 : Option Addr) (c2_3 : Nat) (l2_3 : List (S69)) (r : Bool) (w : World) (hr2_2 : Kd.C Kd.string w A2_2 l2_2.length l2_2) (hc2_2 : l2_2.length ≤ c2_2) (hr2_3 : Kd.C k69 w A2_3 l2_3.length l2_3) (hc2_3 : l2_3.length ≤ c2_3) (h : phalaropelaw11_PieceURI.f k a0 a1_0 a1_1 a1_2 a2_0 a2_1 l2_2 l2_3 = some r) :
    Calls Try.prog 3 #[.int .u8 a0, .agg #[.string a1_0, .int .i64 a1_1, .bool a1_2], .agg #[.int .i64 a2_0, .string a2_1, .slice A2_2 l2_2.length c2_2, .slice A2_3 l2_3.length c2_3]] w fun e w' => e = .returned (.bool r) ∧ Below w.heap.size w w' := by
  have hu23 := Try.underlying23
  have hu27 := Try.underlying27
  have HR2_2 := Aside0.mk hr2_2
  have HC2_2 := Aside0.mk hc2_2
  clear hr2_2 hc2_2
  have HR2_3 := Aside0.mk hr2_3
  have HC2_3 := Aside0.mk hc2_3
  clear hr2_3 hc2_3
  have HB := Aside0.mk (Below.refl w.heap.size w)
  have H : ((phalaropelaw11_awake.f).bind fun t146 => ((phalaropelaw11_few.f k a1_0 a1_1 a1_2 a2_0 a2_1 l2_2 l2_3).bind fun t147 => (if t147 = true then ((piece_One.f a0 a1_0 a1_1 a1_2 a2_0 a2_1 l2_2 l2_3).bind fun bt148 => (phalaropelaw11_PieceURI.l0 k t146 bt148.1 0)) else (some t146)))) = some r := h
  clear h
  replace H := Option.bind_eq_some_iff.mp H
  obtain ⟨t146, A40, H⟩ := H
  replace H : ((phalaropelaw11_few.f k a1_0 a1_1 a1_2 a2_0 a2_1 l2_2 l2_3).bind fun t147 => (if t147 = true then ((piece_One.f a0 a1_0 a1_1 a1_2 a2_0 a2_1 l2_2 l2_3).bind fun bt148 => (phalaropelaw11_PieceURI.l0 k t146 bt148.1 0)) else (some t146))) = some r := H
  have A4 := Aside0.mk A40
  clear A40
  replace H := Option.bind_eq_some_iff.mp H
  obtain ⟨t147, A50, H⟩ := H
  replace H : (if t147 = true then ((piece_One.f a0 a1_0 a1_1 a1_2 a2_0 a2_1 l2_2 l2_3).bind fun bt148 => (phalaropelaw11_PieceURI.l0 k t146 bt148.1 0)) else (some t146)) = some r := H
  have A5 := Aside0.mk A50
  clear A50
  by_cases c6 : t147 = true
  · subst c6
    have H1 : ((piece_One.f a0 a1_0 a1_1 a1_2 a2_0 a2_1 l2_2 l2_3).bind fun bt148 => (phalaropelaw11_PieceURI.l0 k t146 bt148.1 0)) = some r := by rw [if_pos rfl] at H; exact H
    clear H
    have H := H1
    clear H1
    replace H := Option.bind_eq_some_iff.mp H
    obtain ⟨⟨t148, t149, t150⟩, A70, H⟩ := H
    replace H : (phalaropelaw11_PieceURI.l0 k t146 t148 0) = some r := H
    have A7 := Aside0.mk A70
    clear A70
    have H' := Aside0.mk H
    clear H
    go_enter Try.func3, Try.ntmps3
    go_wp2_with (first | ((with_reducible refine gate_dst (N := 4) rfl ?_); refine box_event ?hg (N := 4) ?hd (cs := #[.string a1_0, .int .i64 a1_1, .bool a1_2]) (t := 23) ?hr ?_; (case hd => rfl); (case hg => rfl); (case hr => first | (go_simp; done) | (go_simp; rfl)); intro gb144 hg w8 hbox hb; have n0_ := Aside0.mk (below_step (by repeat (first | (with_reducible first | exact HB.out | apply below_alloc | apply pw_below_drewN | apply below_drew1) | exact HB.out)) hb); have n1_ := Aside0.mk (hbox); have n2_ := Aside0.mk ((by rw [hg]; exact (below_size (by repeat (first | (with_reducible first | exact HB.out | apply below_alloc | apply pw_below_drewN | apply below_drew1) | exact HB.out))) : w.heap.size ≤ gb144)); have n3_ := Aside0.mk ((by rw [hg]; exact (below_size (by repeat (first | (with_reducible first | exact HB.out | apply below_alloc | apply pw_below_drewN | apply below_drew1) | exact HB.out))) : w.heap.size ≤ gb144)); clear HB; have HB := n0_; have BK144 := n1_; have GW144 := n2_; have GE144 := n3_; clear n0_ n1_ n2_ n3_; clear hb hbox hg) | ((with_reducible refine gate_dst (N := 5) rfl ?_); refine box_event ?hg (N := 5) ?hd (cs := #[.int .i64 a2_0, .string a2_1, .slice A2_2 l2_2.length c2_2, .slice A2_3 l2_3.length c2_3]) (t := 27) ?hr ?_; (case hd => rfl); (case hg => rfl); (case hr => first | (go_simp; done) | (go_simp; rfl)); intro gb145 hg w9 hbox hb; have n0_ := Aside0.mk (blk_below (g := gb144) (o := .cells #[.string a1_0, .int .i64 a1_1, .bool a1_2] 23 (0, 0)) (by (with_reducible repeat (first | refine blk_drewN ?_ _ | refine blk_drew ?_ | refine blk_alloc ?_ _)); exact BK144.out) hb); have n1_ := Aside0.mk (below_step (by repeat (first | (with_reducible first | exact HB.out | apply below_alloc | apply pw_below_drewN | apply below_drew1 | refine below_set ?_ GE144.out) | exact HB.out)) hb); have n2_ := Aside0.mk (hbox); have n3_ := Aside0.mk ((by rw [hg]; exact (below_size (by repeat (first | (with_reducible first | exact HB.out | apply below_alloc | apply pw_below_drewN | apply below_drew1 | refine below_set ?_ GE144.out) | exact HB.out))) : w.heap.size ≤ gb145)); have n4_ := Aside0.mk ((by rw [hg]; exact (below_size (by repeat (first | (with_reducible first | exact HB.out | apply below_alloc | apply pw_below_drewN | apply below_drew1 | refine below_set ?_ GE144.out) | exact HB.out))) : w.heap.size ≤ gb145)); have n5_ := Aside0.mk ((by rw [hg]; exact Nat.ne_of_lt (blk_lt (g := gb144) (o := .cells #[.string a1_0, .int .i64 a1_1, .bool a1_2] 23 (0, 0)) (by (with_reducible repeat (first | refine blk_drewN ?_ _ | refine blk_drew ?_ | refine blk_alloc ?_ _)); exact BK144.out)) : gb144 ≠ gb145)); have n6_ := Aside0.mk ((by rw [hg]; exact Nat.ne_of_gt (blk_lt (g := gb144) (o := .cells #[.string a1_0, .int .i64 a1_1, .bool a1_2] 23 (0, 0)) (by (with_reducible repeat (first | refine blk_drewN ?_ _ | refine blk_drew ?_ | refine blk_alloc ?_ _)); exact BK144.out)) : gb145 ≠ gb144)); clear BK144; clear HB; have BK144 := n0_; have HB := n1_; have BK145 := n2_; have GW145 := n3_; have GE145 := n4_; have NB144_145 := n5_; have NB145_144 := n6_; clear n0_ n1_ n2_ n3_ n4_ n5_ n6_; clear hb hbox hg) | ((with_reducible refine gate_callee (f := 8) rfl ?_); refine goesL_ (some 12) rfl rfl Try.func8 (by kernel_rfl) rfl #[] rfl (by (try simp only [List.map_toArray, List.map_cons, List.map_nil]); first | done | rfl | (simp only [List.length_drop, List.length_take]; rfl)) ?_; (with_reducible refine (phalaropelaw11_awake.calls  t146 _ A4.out).mono ?_); rintro e w10 ⟨rfl, hb⟩; refine ⟨_, rfl, ?_⟩; have n0_ := Aside0.mk (blk_below (g := gb144) (o := .cells #[.string a1_0, .int .i64 a1_1, .bool a1_2] 23 (0, 0)) (by (with_reducible repeat (first | refine blk_drewN ?_ _ | refine blk_drew ?_ | refine blk_alloc ?_ _)); exact BK144.out) hb); have n1_ := Aside0.mk (blk_below (g := gb145) (o := .cells #[.int .i64 a2_0, .string a2_1, .slice A2_2 l2_2.length c2_2, .slice A2_3 l2_3.length c2_3] 27 (0, 0)) (by (with_reducible repeat (first | refine blk_drewN ?_ _ | refine blk_drew ?_ | refine blk_alloc ?_ _)); exact BK145.out) hb); have n2_ := Aside0.mk (below_step (by repeat (first | (with_reducible first | exact HB.out | apply below_alloc | apply pw_below_drewN | apply below_drew1 | refine below_set ?_ GE144.out | refine below_set ?_ GE145.out) | exact HB.out)) hb); clear BK144; clear BK145; clear HB; have BK144 := n0_; have BK145 := n1_; have HB := n2_; clear n0_ n1_ n2_; (try clear hb); (try clear hb2); (try clear hk); (try clear hi); have hnb11 := NB144_145.out; have hnc11 := NB145_144.out; have hcz12_0 : w10.cell? ⟨gb144, 0, none⟩ = some (.string a1_0) := (blk_cell BK144.out 0).trans rfl; have hcz12_1 : w10.cell? ⟨gb144, 1, none⟩ = some (.int .i64 a1_1) := (blk_cell BK144.out 1).trans rfl; have hcz12_2 : w10.cell? ⟨gb144, 2, none⟩ = some (.bool a1_2) := (blk_cell BK144.out 2).trans rfl; have hfz12_0 := blk_frozen BK144.out 0; have hfz12_1 := blk_frozen BK144.out 1; have hfz12_2 := blk_frozen BK144.out 2; have hcz13_0 : w10.cell? ⟨gb145, 0, none⟩ = some (.int .i64 a2_0) := (blk_cell BK145.out 0).trans rfl; have hcz13_1 : w10.cell? ⟨gb145, 1, none⟩ = some (.string a2_1) := (blk_cell BK145.out 1).trans rfl; have hcz13_2 : w10.cell? ⟨gb145, 2, none⟩ = some (.slice A2_2 l2_2.length c2_2) := (blk_cell BK145.out 2).trans rfl; have hcz13_3 : w10.cell? ⟨gb145, 3, none⟩ = some (.slice A2_3 l2_3.length c2_3) := (blk_cell BK145.out 3).trans rfl; have hfz13_0 := blk_frozen BK145.out 0; have hfz13_1 := blk_frozen BK145.out 1; have hfz13_2 := blk_frozen BK145.out 2; have hfz13_3 := blk_frozen BK145.out 3) | ((with_reducible refine gate_callee (f := 9) rfl ?_); refine goesL_ (some 15) rfl rfl Try.func9 (by kernel_rfl) rfl #[.agg #[.string a1_0, .int .i64 a1_1, .bool a1_2], .agg #[.int .i64 a2_0, .string a2_1, .slice A2_2 l2_2.length c2_2, .slice A2_3 l2_3.length c2_3]] rfl (by (try simp only [List.map_toArray, List.map_cons, List.map_nil]); first | done | rfl | (simp only [List.length_drop, List.length_take]; rfl)) ?_; (with_reducible refine (phalaropelaw11_few.calls k a1_0 a1_1 a1_2 a2_0 a2_1 _ _ l2_2 _ _ l2_3 true _ ?side1 ?side2 ?side3 ?side4 A5.out).mono ?_); (case side1 => repeat (first | exact (Kd.C_below HR2_2.out HB.out) | (with_reducible refine Kd.C_alloc ?_ _) | (with_reducible refine Kd.C_drewN ?_ _) | (with_reducible refine Kd.C_drew ?_))); (case side2 => exact HC2_2.out); (case side3 => repeat (first | exact (Kd.C_below HR2_3.out HB.out) | (with_reducible refine Kd.C_alloc ?_ _) | (with_reducible refine Kd.C_drewN ?_ _) | (with_reducible refine Kd.C_drew ?_))); (case side4 => exact HC2_3.out); rintro e w14 ⟨rfl, hb⟩; refine ⟨_, rfl, ?_⟩; have n0_ := Aside0.mk (blk_below (g := gb144) (o := .cells #[.string a1_0, .int .i64 a1_1, .bool a1_2] 23 (0, 0)) (by (with_reducible repeat (first | refine blk_drewN ?_ _ | refine blk_drew ?_ | refine blk_alloc ?_ _)); exact BK144.out) hb); have n1_ := Aside0.mk (blk_below (g := gb145) (o := .cells #[.int .i64 a2_0, .string a2_1, .slice A2_2 l2_2.length c2_2, .slice A2_3 l2_3.length c2_3] 27 (0, 0)) (by (with_reducible repeat (first | refine blk_drewN ?_ _ | refine blk_drew ?_ | refine blk_alloc ?_ _)); exact BK145.out) hb); have n2_ := Aside0.mk (below_step (by repeat (first | (with_reducible first | exact HB.out | apply below_alloc | apply pw_below_drewN | apply below_drew1 | refine below_set ?_ GE144.out | refine below_set ?_ GE145.out) | exact HB.out)) hb); clear BK144; clear BK145; clear HB; have BK144 := n0_; have BK145 := n1_; have HB := n2_; clear n0_ n1_ n2_; (try clear hb); (try clear hb2); (try clear hk); (try clear hi); have hcz15_0 : w14.cell? ⟨gb144, 0, none⟩ = some (.string a1_0) := (blk_cell BK144.out 0).trans rfl; have hcz15_1 : w14.cell? ⟨gb144, 1, none⟩ = some (.int .i64 a1_1) := (blk_cell BK144.out 1).trans rfl; have hcz15_2 : w14.cell? ⟨gb144, 2, none⟩ = some (.bool a1_2) := (blk_cell BK144.out 2).trans rfl; have hfz15_0 := blk_frozen BK144.out 0; have hfz15_1 := blk_frozen BK144.out 1; have hfz15_2 := blk_frozen BK144.out 2; have hcz16_0 : w14.cell? ⟨gb145, 0, none⟩ = some (.int .i64 a2_0) := (blk_cell BK145.out 0).trans rfl; have hcz16_1 : w14.cell? ⟨gb145, 1, none⟩ = some (.string a2_1) := (blk_cell BK145.out 1).trans rfl; have hcz16_2 : w14.cell? ⟨gb145, 2, none⟩ = some (.slice A2_2 l2_2.length c2_2) := (blk_cell BK145.out 2).trans rfl; have hcz16_3 : w14.cell? ⟨gb145, 3, none⟩ = some (.slice A2_3 l2_3.length c2_3) := (blk_cell BK145.out 3).trans rfl; have hfz16_0 := blk_frozen BK145.out 0; have hfz16_1 := blk_frozen BK145.out 1; have hfz16_2 := blk_frozen BK145.out 2; have hfz16_3 := blk_frozen BK145.out 3) | ((with_reducible refine gate_callee (f := 10) rfl ?_); refine goesL_ (some 22) rfl rfl Try.func10 (by kernel_rfl) rfl #[.int .u8 a0, .agg #[.string a1_0, .int .i64 a1_1, .bool a1_2], .agg #[.int .i64 a2_0, .string a2_1, .slice A2_2 l2_2.length c2_2, .slice A2_3 l2_3.length c2_3]] rfl (by (try simp only [List.map_toArray, List.map_cons, List.map_nil]); first | done | rfl | (simp only [List.length_drop, List.length_take]; rfl)) ?_; (with_reducible refine (piece_One.calls a0 a1_0 a1_1 a1_2 a2_0 a2_1 _ _ l2_2 _ _ l2_3 t148 t149 t150 _ ?side1 ?side2 ?side3 ?side4 A7.out).mono ?_); (case side1 => repeat (first | exact (Kd.C_below HR2_2.out HB.out) | (with_reducible refine Kd.C_alloc ?_ _) | (with_reducible refine Kd.C_drewN ?_ _) | (with_reducible refine Kd.C_drew ?_))); (case side2 => exact HC2_2.out); (case side3 => repeat (first | exact (Kd.C_below HR2_3.out HB.out) | (with_reducible refine Kd.C_alloc ?_ _) | (with_reducible refine Kd.C_drewN ?_ _) | (with_reducible refine Kd.C_drew ?_))); (case side4 => exact HC2_3.out); rintro e w17 ⟨rfl, hb⟩; refine ⟨_, rfl, ?_⟩; have n0_ := Aside0.mk (blk_below (g := gb144) (o := .cells #[.string a1_0, .int .i64 a1_1, .bool a1_2] 23 (0, 0)) (by (with_reducible repeat (first | refine blk_drewN ?_ _ | refine blk_drew ?_ | refine blk_alloc ?_ _)); exact BK144.out) hb); have n1_ := Aside0.mk (blk_below (g := gb145) (o := .cells #[.int .i64 a2_0, .string a2_1, .slice A2_2 l2_2.length c2_2, .slice A2_3 l2_3.length c2_3] 27 (0, 0)) (by (with_reducible repeat (first | refine blk_drewN ?_ _ | refine blk_drew ?_ | refine blk_alloc ?_ _)); exact BK145.out) hb); have n2_ := Aside0.mk (below_step (by repeat (first | (with_reducible first | exact HB.out | apply below_alloc | apply pw_below_drewN | apply below_drew1 | refine below_set ?_ GE144.out | refine below_set ?_ GE145.out) | exact HB.out)) hb); clear BK144; clear BK145; clear HB; have BK144 := n0_; have BK145 := n1_; have HB := n2_; clear n0_ n1_ n2_; (try clear hb); (try clear hb2); (try clear hk); (try clear hi)))
    go_loopg [11] k (fun kq v11 w' => ∃ (x11_1 : Int), v11 = .int .i64 x11_1 ∧ Aside0 (phalaropelaw11_PieceURI.l0 kq t146 t148 x11_1 = some r) ∧ Aside0 (kq ≤ k) ∧ Aside0 (w'.heap[gb144]? = some (.cells #[.string a1_0, .int .i64 a1_1, .bool a1_2] 23 (0, 0))) ∧ Aside0 (w'.heap[gb145]? = some (.cells #[.int .i64 a2_0, .string a2_1, (.slice A2_2 l2_2.length c2_2), (.slice A2_3 l2_3.length c2_3)] 27 (0, 0))) ∧ Aside0 (Below w.heap.size w w'))
    case atStart => exact ⟨(0), (by first | rfl | (simp; done) | (simp [*]; done)), H', ⟨Nat.le_refl _⟩, ⟨by (with_reducible repeat (first | refine blk_drewN ?_ _ | refine blk_drew ?_ | refine blk_alloc ?_ _)); exact BK144.out⟩, ⟨by (with_reducible repeat (first | refine blk_drewN ?_ _ | refine blk_drew ?_ | refine blk_alloc ?_ _)); exact BK145.out⟩, ⟨by repeat (first | (with_reducible first | exact HB.out | apply below_alloc | apply pw_below_drewN | apply below_drew1 | refine below_set ?_ GE144.out | refine below_set ?_ GE145.out) | exact HB.out)⟩⟩
    case round =>
      clear H'
      try clear c1
      try clear c2
      try clear p2
      try clear c3
      try clear c6
      try clear c8
      try clear c9
      try clear c10
      try clear c11
      try clear hcz12_0
      try clear hcz12_1
      try clear hcz12_2
      try clear hcz13_0
      try clear hcz13_1
      try clear hcz13_2
      try clear hcz13_3
      try clear hcz15_0
      try clear hcz15_1
      try clear hcz15_2
      try clear hcz16_0
      try clear hcz16_1
      try clear hcz16_2
      try clear hcz16_3
      try clear hfz12_0
      try clear hfz12_1
      try clear hfz12_2
      try clear hfz13_0
      try clear hfz13_1
      try clear hfz13_2
      try clear hfz13_3
      try clear hfz15_0
      try clear hfz15_1
      try clear hfz15_2
      try clear hfz16_0
      try clear hfz16_1
      try clear hfz16_2
      try clear hfz16_3
      obtain ⟨x11_1, rfl, HA, HK1, BK144, BK145, HB⟩ := hrel
      cases gk with
      | zero => exact absurd HA.out (by simp [phalaropelaw11_PieceURI.l0])
      | succ k1 =>
        have H := HA.out
        clear HA
        simp only [phalaropelaw11_PieceURI.l0] at H
        by_cases c18 : x11_1 < (t148.size : Int)
        · rw [if_pos c18] at H
          have c18b0 : decide (x11_1 < (t148.size : Int)) = true := decide_eq_true c18
          clear c18
          by_cases c19 : 0 ≤ x11_1
          · rw [if_pos c19] at H
            have c19b0 : decide (0 ≤ x11_1) = true := decide_eq_true c19
            clear c19
            replace H := Option.bind_eq_some_iff.mp H
            obtain ⟨t151, A210, H⟩ := H
            replace H : (if t151 = true then (phalaropelaw11_PieceURI.l0 k1 t146 t148 (wrap64 (x11_1 + 1))) else ((phalaroperef02_Reserved.f k1 (bt t148 x11_1)).bind fun t152 => (if t152 = true then (phalaropelaw11_PieceURI.l0 k1 t146 t148 (wrap64 (x11_1 + 1))) else (if x11_1 ≤ (t148.size : Int) then ((phalaroperef03_Triplet.f (t148.extract (x11_1 : Int).toNat t148.size)).bind fun t153 => (if t153 = true then (phalaropelaw11_PieceURI.l0 k1 t146 t148 (wrap64 (x11_1 + 1))) else (some false))) else (none))))) = some r := H
            have A21 := Aside0.mk A210
            clear A210
            by_cases c22 : t151 = true
            · subst c22
              have H1 : (phalaropelaw11_PieceURI.l0 k1 t146 t148 (wrap64 (x11_1 + 1))) = some r := by rw [if_pos rfl] at H; exact H
              clear H
              have H := H1
              clear H1
              have H' := Aside0.mk H
              clear H
              have p20 : 0 ≤ (x11_1 : Int) := of_decide_eq_true (by first | (with_reducible assumption) | assumption)
              have q20 : x11_1 < (t148.size : Int) := of_decide_eq_true (by first | (with_reducible assumption) | assumption)
              have hx20 := bt_at t148 x11_1
              replace p20 := eq_true p20
              replace q20 := eq_true q20
              go_wp2_with (first | ((with_reducible refine gate_callee (f := 11) rfl ?_); refine goesL_ (some 35) rfl rfl Try.func11 (by kernel_rfl) rfl #[.int .u8 (bt t148 x11_1)] rfl (by (try simp only [List.map_toArray, List.map_cons, List.map_nil]); first | done | rfl | (simp only [List.length_drop, List.length_take]; rfl)) ?_; (with_reducible refine (phalaroperef02_Unreserved.calls k1 (bt t148 x11_1) true _ A21.out).mono ?_); rintro e w' ⟨rfl, ⟨nd, rfl⟩⟩; refine ⟨_, rfl, ?_⟩))
              go_roundg k1
              case measure => have := HK1.out; omega
              case rel => exact ⟨(wrap64 (x11_1 + 1)), (by first | rfl | (simp; done) | (simp [*]; done)), H', ⟨by have := HK1.out; omega⟩, ⟨by (with_reducible repeat (first | refine blk_drewN ?_ _ | refine blk_drew ?_ | refine blk_alloc ?_ _)); exact BK144.out⟩, ⟨by (with_reducible repeat (first | refine blk_drewN ?_ _ | refine blk_drew ?_ | refine blk_alloc ?_ _)); exact BK145.out⟩, ⟨by repeat (first | (with_reducible first | exact HB.out | apply below_alloc | apply pw_below_drewN | apply below_drew1 | refine below_set ?_ GE144.out | refine below_set ?_ GE145.out) | exact HB.out)⟩⟩
            · replace c22 := Bool.eq_false_iff.mpr c22
              subst c22
              have H1 : ((phalaroperef02_Reserved.f k1 (bt t148 x11_1)).bind fun t152 => (if t152 = true then (phalaropelaw11_PieceURI.l0 k1 t146 t148 (wrap64 (x11_1 + 1))) else (if x11_1 ≤ (t148.size : Int) then ((phalaroperef03_Triplet.f (t148.extract (x11_1 : Int).toNat t148.size)).bind fun t153 => (if t153 = true then (phalaropelaw11_PieceURI.l0 k1 t146 t148 (wrap64 (x11_1 + 1))) else (some false))) else (none)))) = some r := by rw [if_neg (show ¬ (false = true) by decide)] at H; exact H
              clear H
              have H := H1
              clear H1
              replace H := Option.bind_eq_some_iff.mp H
              obtain ⟨t152, A240, H⟩ := H
              replace H : (if t152 = true then (phalaropelaw11_PieceURI.l0 k1 t146 t148 (wrap64 (x11_1 + 1))) else (if x11_1 ≤ (t148.size : Int) then ((phalaroperef03_Triplet.f (t148.extract (x11_1 : Int).toNat t148.size)).bind fun t153 => (if t153 = true then (phalaropelaw11_PieceURI.l0 k1 t146 t148 (wrap64 (x11_1 + 1))) else (some false))) else (none))) = some r := H
              have A24 := Aside0.mk A240
              clear A240
              by_cases c25 : t152 = true
              · subst c25
                have H1 : (phalaropelaw11_PieceURI.l0 k1 t146 t148 (wrap64 (x11_1 + 1))) = some r := by rw [if_pos rfl] at H; exact H
                clear H
                have H := H1
                clear H1
                have H' := Aside0.mk H
                clear H
                have p20 : 0 ≤ (x11_1 : Int) := of_decide_eq_true (by first | (with_reducible assumption) | assumption)
                have q20 : x11_1 < (t148.size : Int) := of_decide_eq_true (by first | (with_reducible assumption) | assumption)
                have hx20 := bt_at t148 x11_1
                replace p20 := eq_true p20
                replace q20 := eq_true q20
                go_wp2_with (first | ((with_reducible refine gate_callee (f := 11) rfl ?_); refine goesL_ (some 35) rfl rfl Try.func11 (by kernel_rfl) rfl #[.int .u8 (bt t148 x11_1)] rfl (by (try simp only [List.map_toArray, List.map_cons, List.map_nil]); first | done | rfl | (simp only [List.length_drop, List.length_take]; rfl)) ?_; (with_reducible refine (phalaroperef02_Unreserved.calls k1 (bt t148 x11_1) false _ A21.out).mono ?_); rintro e w' ⟨rfl, ⟨nd, rfl⟩⟩; refine ⟨_, rfl, ?_⟩; have p23 : 0 ≤ (x11_1 : Int) := of_decide_eq_true (by first | (with_reducible assumption) | assumption); have q23 : x11_1 < (t148.size : Int) := of_decide_eq_true (by first | (with_reducible assumption) | assumption); have hx23 := bt_at t148 x11_1; replace p23 := eq_true p23; replace q23 := eq_true q23) | (go_at_call 12; (with_reducible refine (phalaroperef02_Reserved.calls k1 (bt t148 x11_1) true _ A24.out).mono ?_); rintro e w' ⟨rfl, ⟨nd, rfl⟩⟩))
                go_roundg k1
                case measure => have := HK1.out; omega
                case rel => exact ⟨(wrap64 (x11_1 + 1)), (by first | rfl | (simp; done) | (simp [*]; done)), H', ⟨by have := HK1.out; omega⟩, ⟨by (with_reducible repeat (first | refine blk_drewN ?_ _ | refine blk_drew ?_ | refine blk_alloc ?_ _)); exact BK144.out⟩, ⟨by (with_reducible repeat (first | refine blk_drewN ?_ _ | refine blk_drew ?_ | refine blk_alloc ?_ _)); exact BK145.out⟩, ⟨by repeat (first | (with_reducible first | exact HB.out | apply below_alloc | apply pw_below_drewN | apply below_drew1 | refine below_set ?_ GE144.out | refine below_set ?_ GE145.out) | exact HB.out)⟩⟩
              · replace c25 := Bool.eq_false_iff.mpr c25
                subst c25
                have H1 : (if x11_1 ≤ (t148.size : Int) then ((phalaroperef03_Triplet.f (t148.extract (x11_1 : Int).toNat t148.size)).bind fun t153 => (if t153 = true then (phalaropelaw11_PieceURI.l0 k1 t146 t148 (wrap64 (x11_1 + 1))) else (some false))) else (none)) = some r := by rw [if_neg (show ¬ (false = true) by decide)] at H; exact H
                clear H
                have H := H1
                clear H1
                have c26b0 := eq_true (of_decide_eq_true (by first | (with_reducible assumption) | assumption) : 0 ≤ x11_1)
                by_cases c27 : x11_1 ≤ (t148.size : Int)
                · rw [if_pos c27] at H
                  have c27b0 := eq_true c27
                  have c27b1 : decide (x11_1 ≤ (t148.size : Int)) = true := decide_eq_true c27
                  clear c27
                  replace H := Option.bind_eq_some_iff.mp H
                  obtain ⟨t153, A280, H⟩ := H
                  replace H : (if t153 = true then (phalaropelaw11_PieceURI.l0 k1 t146 t148 (wrap64 (x11_1 + 1))) else (some false)) = some r := H
                  have A28 := Aside0.mk A280
                  clear A280
                  by_cases c29 : t153 = true
                  · subst c29
                    have H1 : (phalaropelaw11_PieceURI.l0 k1 t146 t148 (wrap64 (x11_1 + 1))) = some r := by rw [if_pos rfl] at H; exact H
                    clear H
                    have H := H1
                    clear H1
                    have H' := Aside0.mk H
                    clear H
                    have p20 : 0 ≤ (x11_1 : Int) := of_decide_eq_true (by first | (with_reducible assumption) | assumption)
                    have q20 : x11_1 < (t148.size : Int) := of_decide_eq_true (by first | (with_reducible assumption) | assumption)
                    have hx20 := bt_at t148 x11_1
                    replace p20 := eq_true p20
                    replace q20 := eq_true q20
                    go_wp2_with (first | ((with_reducible refine gate_callee (f := 11) rfl ?_); refine goesL_ (some 35) rfl rfl Try.func11 (by kernel_rfl) rfl #[.int .u8 (bt t148 x11_1)] rfl (by (try simp only [List.map_toArray, List.map_cons, List.map_nil]); first | done | rfl | (simp only [List.length_drop, List.length_take]; rfl)) ?_; (with_reducible refine (phalaroperef02_Unreserved.calls k1 (bt t148 x11_1) false _ A21.out).mono ?_); rintro e w' ⟨rfl, ⟨nd, rfl⟩⟩; refine ⟨_, rfl, ?_⟩; have p23 : 0 ≤ (x11_1 : Int) := of_decide_eq_true (by first | (with_reducible assumption) | assumption); have q23 : x11_1 < (t148.size : Int) := of_decide_eq_true (by first | (with_reducible assumption) | assumption); have hx23 := bt_at t148 x11_1; replace p23 := eq_true p23; replace q23 := eq_true q23) | (go_at_call 12; (with_reducible refine (phalaroperef02_Reserved.calls k1 (bt t148 x11_1) false _ A24.out).mono ?_); rintro e w' ⟨rfl, ⟨nd, rfl⟩⟩) | (go_at_call 13; (with_reducible refine (phalaroperef03_Triplet.calls (t148.extract (x11_1 : Int).toNat t148.size) true _ A28.out).mono ?_); rintro e w' ⟨rfl, ⟨nd, rfl⟩⟩))
                    go_roundg k1
                    case measure => have := HK1.out; omega
                    case rel => exact ⟨(wrap64 (x11_1 + 1)), (by first | rfl | (simp; done) | (simp [*]; done)), H', ⟨by have := HK1.out; omega⟩, ⟨by (with_reducible repeat (first | refine blk_drewN ?_ _ | refine blk_drew ?_ | refine blk_alloc ?_ _)); exact BK144.out⟩, ⟨by (with_reducible repeat (first | refine blk_drewN ?_ _ | refine blk_drew ?_ | refine blk_alloc ?_ _)); exact BK145.out⟩, ⟨by repeat (first | (with_reducible first | exact HB.out | apply below_alloc | apply pw_below_drewN | apply below_drew1 | refine below_set ?_ GE144.out | refine below_set ?_ GE145.out) | exact HB.out)⟩⟩
                  · replace c29 := Bool.eq_false_iff.mpr c29
                    subst c29
                    have H1 : (some false) = some r := by rw [if_neg (show ¬ (false = true) by decide)] at H; exact H
                    clear H
                    have H := H1
                    clear H1
                    obtain rfl := Option.some.inj H
                    have p20 : 0 ≤ (x11_1 : Int) := of_decide_eq_true (by first | (with_reducible assumption) | assumption)
                    have q20 : x11_1 < (t148.size : Int) := of_decide_eq_true (by first | (with_reducible assumption) | assumption)
                    have hx20 := bt_at t148 x11_1
                    replace p20 := eq_true p20
                    replace q20 := eq_true q20
                    go_wp2_with (first | ((with_reducible refine gate_callee (f := 11) rfl ?_); refine goesL_ (some 35) rfl rfl Try.func11 (by kernel_rfl) rfl #[.int .u8 (bt t148 x11_1)] rfl (by (try simp only [List.map_toArray, List.map_cons, List.map_nil]); first | done | rfl | (simp only [List.length_drop, List.length_take]; rfl)) ?_; (with_reducible refine (phalaroperef02_Unreserved.calls k1 (bt t148 x11_1) false _ A21.out).mono ?_); rintro e w' ⟨rfl, ⟨nd, rfl⟩⟩; refine ⟨_, rfl, ?_⟩; have p23 : 0 ≤ (x11_1 : Int) := of_decide_eq_true (by first | (with_reducible assumption) | assumption); have q23 : x11_1 < (t148.size : Int) := of_decide_eq_true (by first | (with_reducible assumption) | assumption); have hx23 := bt_at t148 x11_1; replace p23 := eq_true p23; replace q23 := eq_true q23) | (go_at_call 12; (with_reducible refine (phalaroperef02_Reserved.calls k1 (bt t148 x11_1) false _ A24.out).mono ?_); rintro e w' ⟨rfl, ⟨nd, rfl⟩⟩) | (go_at_call 13; (with_reducible refine (phalaroperef03_Triplet.calls (t148.extract (x11_1 : Int).toNat t148.size) false _ A28.out).mono ?_); rintro e w' ⟨rfl, ⟨nd, rfl⟩⟩))
                    go_ret
                    exact ⟨by first | rfl | (simp [errW_none, errW_some] <;> rfl) | (simp [*, errW_none, errW_some] <;> rfl), by repeat (first | (with_reducible first | exact HB.out | apply below_alloc | apply pw_below_drewN | apply below_drew1 | refine below_set ?_ GE144.out | refine below_set ?_ GE145.out) | exact HB.out)⟩
                · rw [if_neg c27] at H
                  exact absurd H (by simp)
          · rw [if_neg c19] at H
            exact absurd H (by simp)
        · rw [if_neg c18] at H
          have c18b0 : decide (x11_1 < (t148.size : Int)) = false := decide_eq_false c18
          clear c18
          obtain rfl := Option.some.inj H
          go_wp2
          go_ret
          exact ⟨by first | rfl | (simp [errW_none, errW_some] <;> rfl) | (simp [*, errW_none, errW_some] <;> rfl), by repeat (first | (with_reducible first | exact HB.out | apply below_alloc | apply pw_below_drewN | apply below_drew1 | refine below_set ?_ GE144.out | refine below_set ?_ GE145.out) | exact HB.out)⟩
  · replace c6 := Bool.eq_false_iff.mpr c6
    subst c6
    have H1 : (some t146) = some r := by rw [if_neg (show ¬ (false = true) by decide)] at H; exact H
    clear H
    have H := H1
    clear H1
    obtain rfl := Option.some.inj H
    go_enter Try.func3, Try.ntmps3
    go_wp2_with (first | ((with_reducible refine gate_dst (N := 4) rfl ?_); refine box_event ?hg (N := 4) ?hd (cs := #[.string a1_0, .int .i64 a1_1, .bool a1_2]) (t := 23) ?hr ?_; (case hd => rfl); (case hg => rfl); (case hr => first | (go_simp; done) | (go_simp; rfl)); intro gb144 hg w30 hbox hb; have n0_ := Aside0.mk (below_step (by repeat (first | (with_reducible first | exact HB.out | apply below_alloc | apply pw_below_drewN | apply below_drew1) | exact HB.out)) hb); have n1_ := Aside0.mk (hbox); have n2_ := Aside0.mk ((by rw [hg]; exact (below_size (by repeat (first | (with_reducible first | exact HB.out | apply below_alloc | apply pw_below_drewN | apply below_drew1) | exact HB.out))) : w.heap.size ≤ gb144)); have n3_ := Aside0.mk ((by rw [hg]; exact (below_size (by repeat (first | (with_reducible first | exact HB.out | apply below_alloc | apply pw_below_drewN | apply below_drew1) | exact HB.out))) : w.heap.size ≤ gb144)); clear HB; have HB := n0_; have BK144 := n1_; have GW144 := n2_; have GE144 := n3_; clear n0_ n1_ n2_ n3_; clear hb hbox hg) | ((with_reducible refine gate_dst (N := 5) rfl ?_); refine box_event ?hg (N := 5) ?hd (cs := #[.int .i64 a2_0, .string a2_1, .slice A2_2 l2_2.length c2_2, .slice A2_3 l2_3.length c2_3]) (t := 27) ?hr ?_; (case hd => rfl); (case hg => rfl); (case hr => first | (go_simp; done) | (go_simp; rfl)); intro gb145 hg w31 hbox hb; have n0_ := Aside0.mk (blk_below (g := gb144) (o := .cells #[.string a1_0, .int .i64 a1_1, .bool a1_2] 23 (0, 0)) (by (with_reducible repeat (first | refine blk_drewN ?_ _ | refine blk_drew ?_ | refine blk_alloc ?_ _)); exact BK144.out) hb); have n1_ := Aside0.mk (below_step (by repeat (first | (with_reducible first | exact HB.out | apply below_alloc | apply pw_below_drewN | apply below_drew1 | refine below_set ?_ GE144.out) | exact HB.out)) hb); have n2_ := Aside0.mk (hbox); have n3_ := Aside0.mk ((by rw [hg]; exact (below_size (by repeat (first | (with_reducible first | exact HB.out | apply below_alloc | apply pw_below_drewN | apply below_drew1 | refine below_set ?_ GE144.out) | exact HB.out))) : w.heap.size ≤ gb145)); have n4_ := Aside0.mk ((by rw [hg]; exact (below_size (by repeat (first | (with_reducible first | exact HB.out | apply below_alloc | apply pw_below_drewN | apply below_drew1 | refine below_set ?_ GE144.out) | exact HB.out))) : w.heap.size ≤ gb145)); have n5_ := Aside0.mk ((by rw [hg]; exact Nat.ne_of_lt (blk_lt (g := gb144) (o := .cells #[.string a1_0, .int .i64 a1_1, .bool a1_2] 23 (0, 0)) (by (with_reducible repeat (first | refine blk_drewN ?_ _ | refine blk_drew ?_ | refine blk_alloc ?_ _)); exact BK144.out)) : gb144 ≠ gb145)); have n6_ := Aside0.mk ((by rw [hg]; exact Nat.ne_of_gt (blk_lt (g := gb144) (o := .cells #[.string a1_0, .int .i64 a1_1, .bool a1_2] 23 (0, 0)) (by (with_reducible repeat (first | refine blk_drewN ?_ _ | refine blk_drew ?_ | refine blk_alloc ?_ _)); exact BK144.out)) : gb145 ≠ gb144)); clear BK144; clear HB; have BK144 := n0_; have HB := n1_; have BK145 := n2_; have GW145 := n3_; have GE145 := n4_; have NB144_145 := n5_; have NB145_144 := n6_; clear n0_ n1_ n2_ n3_ n4_ n5_ n6_; clear hb hbox hg) | ((with_reducible refine gate_callee (f := 8) rfl ?_); refine goesL_ (some 12) rfl rfl Try.func8 (by kernel_rfl) rfl #[] rfl (by (try simp only [List.map_toArray, List.map_cons, List.map_nil]); first | done | rfl | (simp only [List.length_drop, List.length_take]; rfl)) ?_; (with_reducible refine (phalaropelaw11_awake.calls  t146 _ A4.out).mono ?_); rintro e w32 ⟨rfl, hb⟩; refine ⟨_, rfl, ?_⟩; have n0_ := Aside0.mk (blk_below (g := gb144) (o := .cells #[.string a1_0, .int .i64 a1_1, .bool a1_2] 23 (0, 0)) (by (with_reducible repeat (first | refine blk_drewN ?_ _ | refine blk_drew ?_ | refine blk_alloc ?_ _)); exact BK144.out) hb); have n1_ := Aside0.mk (blk_below (g := gb145) (o := .cells #[.int .i64 a2_0, .string a2_1, .slice A2_2 l2_2.length c2_2, .slice A2_3 l2_3.length c2_3] 27 (0, 0)) (by (with_reducible repeat (first | refine blk_drewN ?_ _ | refine blk_drew ?_ | refine blk_alloc ?_ _)); exact BK145.out) hb); have n2_ := Aside0.mk (below_step (by repeat (first | (with_reducible first | exact HB.out | apply below_alloc | apply pw_below_drewN | apply below_drew1 | refine below_set ?_ GE144.out | refine below_set ?_ GE145.out) | exact HB.out)) hb); clear BK144; clear BK145; clear HB; have BK144 := n0_; have BK145 := n1_; have HB := n2_; clear n0_ n1_ n2_; (try clear hb); (try clear hb2); (try clear hk); (try clear hi); have hnb33 := NB144_145.out; have hnc33 := NB145_144.out; have hcz34_0 : w32.cell? ⟨gb144, 0, none⟩ = some (.string a1_0) := (blk_cell BK144.out 0).trans rfl; have hcz34_1 : w32.cell? ⟨gb144, 1, none⟩ = some (.int .i64 a1_1) := (blk_cell BK144.out 1).trans rfl; have hcz34_2 : w32.cell? ⟨gb144, 2, none⟩ = some (.bool a1_2) := (blk_cell BK144.out 2).trans rfl; have hfz34_0 := blk_frozen BK144.out 0; have hfz34_1 := blk_frozen BK144.out 1; have hfz34_2 := blk_frozen BK144.out 2; have hcz35_0 : w32.cell? ⟨gb145, 0, none⟩ = some (.int .i64 a2_0) := (blk_cell BK145.out 0).trans rfl; have hcz35_1 : w32.cell? ⟨gb145, 1, none⟩ = some (.string a2_1) := (blk_cell BK145.out 1).trans rfl; have hcz35_2 : w32.cell? ⟨gb145, 2, none⟩ = some (.slice A2_2 l2_2.length c2_2) := (blk_cell BK145.out 2).trans rfl; have hcz35_3 : w32.cell? ⟨gb145, 3, none⟩ = some (.slice A2_3 l2_3.length c2_3) := (blk_cell BK145.out 3).trans rfl; have hfz35_0 := blk_frozen BK145.out 0; have hfz35_1 := blk_frozen BK145.out 1; have hfz35_2 := blk_frozen BK145.out 2; have hfz35_3 := blk_frozen BK145.out 3) | ((with_reducible refine gate_callee (f := 9) rfl ?_); refine goesL_ (some 15) rfl rfl Try.func9 (by kernel_rfl) rfl #[.agg #[.string a1_0, .int .i64 a1_1, .bool a1_2], .agg #[.int .i64 a2_0, .string a2_1, .slice A2_2 l2_2.length c2_2, .slice A2_3 l2_3.length c2_3]] rfl (by (try simp only [List.map_toArray, List.map_cons, List.map_nil]); first | done | rfl | (simp only [List.length_drop, List.length_take]; rfl)) ?_; (with_reducible refine (phalaropelaw11_few.calls k a1_0 a1_1 a1_2 a2_0 a2_1 _ _ l2_2 _ _ l2_3 false _ ?side1 ?side2 ?side3 ?side4 A5.out).mono ?_); (case side1 => repeat (first | exact (Kd.C_below HR2_2.out HB.out) | (with_reducible refine Kd.C_alloc ?_ _) | (with_reducible refine Kd.C_drewN ?_ _) | (with_reducible refine Kd.C_drew ?_))); (case side2 => exact HC2_2.out); (case side3 => repeat (first | exact (Kd.C_below HR2_3.out HB.out) | (with_reducible refine Kd.C_alloc ?_ _) | (with_reducible refine Kd.C_drewN ?_ _) | (with_reducible refine Kd.C_drew ?_))); (case side4 => exact HC2_3.out); rintro e w36 ⟨rfl, hb⟩; refine ⟨_, rfl, ?_⟩; have n0_ := Aside0.mk (blk_below (g := gb144) (o := .cells #[.string a1_0, .int .i64 a1_1, .bool a1_2] 23 (0, 0)) (by (with_reducible repeat (first | refine blk_drewN ?_ _ | refine blk_drew ?_ | refine blk_alloc ?_ _)); exact BK144.out) hb); have n1_ := Aside0.mk (blk_below (g := gb145) (o := .cells #[.int .i64 a2_0, .string a2_1, .slice A2_2 l2_2.length c2_2, .slice A2_3 l2_3.length c2_3] 27 (0, 0)) (by (with_reducible repeat (first | refine blk_drewN ?_ _ | refine blk_drew ?_ | refine blk_alloc ?_ _)); exact BK145.out) hb); have n2_ := Aside0.mk (below_step (by repeat (first | (with_reducible first | exact HB.out | apply below_alloc | apply pw_below_drewN | apply below_drew1 | refine below_set ?_ GE144.out | refine below_set ?_ GE145.out) | exact HB.out)) hb); clear BK144; clear BK145; clear HB; have BK144 := n0_; have BK145 := n1_; have HB := n2_; clear n0_ n1_ n2_; (try clear hb); (try clear hb2); (try clear hk); (try clear hi)))
    go_ret
    exact ⟨by first | rfl | (simp [errW_none, errW_some] <;> rfl) | (simp [*, errW_none, errW_some] <;> rfl), by repeat (first | (with_reducible first | exact HB.out | apply below_alloc | apply pw_below_drewN | apply below_drew1 | refine below_set ?_ GE144.out | refine below_set ?_ GE145.out) | exact HB.out)⟩

end Go.Proofs.Ytbjeegkmafbejaa.PU
namespace Go.Proofs.Ytbjeegkmafbejaa.PU
set_option linter.unusedSimpArgs false
set_option linter.unusedVariables false
open Go.RowKit Go.Proofs.YtbjeegkmafbejaaW.PrintWords Go.Proofs.YtbjeegkmafbejaaW.PrintLast Y
theorem w64 (n : Int) (h0 : -9223372036854775808 ≤ n) (h1 : n ≤ 9223372036854775807) : wrap64 n = n := by unfold wrap64; omega
theorem get!_out (s : ByteArray) (i : Nat) (h : ¬ i < s.size) : byteAt s i = 0 := by
  unfold byteAt
  have : s.get! i = default := getElem!_neg s.data i h
  rw [this]; rfl
theorem bt_byteAt (s : ByteArray) (i : Nat) : bt s (i : Int) = (byteAt s i : Int) := by
  unfold bt
  rw [Int.toNat_natCast]
  split
  · rename_i h
    unfold byteAt
    rw [get!_at s i h]; rfl
  · rename_i h
    rw [get!_out s i h]; rfl
theorem tdiv64 (c : Nat) (n : Nat) : Int.tdiv (c : Int) (n : Int) = ((c / n : Nat) : Int) := by
  rw [Int.tdiv_eq_ediv_of_nonneg (by omega)]; rfl
theorem tmod64 (c : Nat) (n : Nat) : Int.tmod (c : Int) (n : Int) = ((c % n : Nat) : Int) := by
  rw [Int.tmod_eq_emod_of_nonneg (by omega)]; rfl
theorem rdOf_at (xs : List ByteArray) (k : Nat) (h : k < xs.length) : rdOf ByteArray.empty xs (k : Int) = xs[k] := by
  unfold rdOf; rw [Int.toNat_natCast, List.getD_eq_getElem?_getD, List.getElem?_eq_getElem h]; rfl
theorem rd_int (xs : List Int) (k : Nat) (h : k < xs.length) : rd xs (k : Int) = xs[k] := by
  unfold rd; rw [Int.toNat_natCast, List.getD_eq_getElem?_getD, List.getElem?_eq_getElem h]; rfl
theorem w1 (i : Nat) (h : i < 1000000000) : wrap64 ((i : Int) + 1) = ((i + 1 : Nat) : Int) := w64 _ (by omega) (by omega)
theorem may_of_digit {c : Int} (h : isDigit c = true) : mayC c = true ∧ 0 ≤ c ∧ c < 256 := by
  unfold isDigit at h
  rw [Bool.and_eq_true, decide_eq_true_iff, decide_eq_true_iff] at h
  refine ⟨?_, by omega, by omega⟩
  unfold mayC
  rw [Bool.and_eq_true, Bool.and_eq_true, Bool.or_eq_true, decide_eq_true_iff, decide_eq_true_iff, decide_eq_true_iff]
  omega
theorem may_of_word {c : Int} (h : isWord c = true) : mayC c = true ∧ 0 ≤ c ∧ c < 256 := by
  unfold isWord isAlpha isDigit at h
  simp only [Bool.or_eq_true, Bool.and_eq_true, decide_eq_true_eq, beq_iff_eq] at h
  refine ⟨?_, by omega, by omega⟩
  unfold mayC
  rw [Bool.and_eq_true, Bool.and_eq_true, Bool.or_eq_true, decide_eq_true_iff, decide_eq_true_iff, decide_eq_true_iff]
  omega
theorem may_pos {c : Int} (h : mayC c = true) : 0 ≤ c := by
  unfold mayC at h
  rw [Bool.and_eq_true, Bool.and_eq_true, decide_eq_true_iff] at h
  exact h.1.1
theorem nil_of_size {s : ByteArray} (h : s.size = 0) : s.toList = [] := by
  rw [ByteArray.toList_eq]
  exact List.eq_nil_of_length_eq_zero (by simpa using h)
theorem size_of_nil {s : ByteArray} (h : s.toList = []) : s.size = 0 := by
  rw [ByteArray.toList_eq] at h
  have := congrArg List.length h
  simpa using this
theorem digit_f (c : Int) : phalaroperef02_Digit.f c = some (isDigit c) := by
  unfold phalaroperef02_Digit.f isDigit
  by_cases h : 48 ≤ c
  · rw [if_pos h, decide_eq_true h]; rfl
  · rw [if_neg h, decide_eq_false h]; rfl
theorem alpha_f (c : Int) : phalaroperef02_Alpha.f c = some (isAlpha c) := by
  unfold phalaroperef02_Alpha.f isAlpha
  by_cases h : 65 ≤ c
  · by_cases h2 : c ≤ 90
    · rw [if_pos h, if_pos h2]; simp [h, h2]
    · by_cases h3 : 97 ≤ c
      · rw [if_pos h, if_neg h2, if_pos h3]; simp [h, h2, h3]
      · rw [if_pos h, if_neg h2, if_neg h3]; simp [h, h2, h3]
  · have h3 : ¬ 97 ≤ c := by omega
    rw [if_neg h, if_neg h3]; simp [h, h3]
theorem hex_f (c : Int) : phalaroperef02_Hex.f c = some (isHex c) := by
  unfold phalaroperef02_Hex.f
  rw [digit_f]
  simp only [Option.bind_some]
  unfold isHex
  cases isDigit c with
  | true => rfl
  | false =>
    by_cases h1 : c ≥ 65
    · by_cases h2 : c ≤ 70
      · simp [h1, h2]
      · by_cases h3 : c ≥ 97 <;> simp [h1, h2, h3]
    · by_cases h3 : c ≥ 97 <;> simp [h1, h3]
theorem trip_f (s : ByteArray) : phalaroperef03_Triplet.f s = some (tri s 0) := by
  unfold phalaroperef03_Triplet.f tri bI
  have b0 : bt s 0 = (byteAt s 0 : Int) := bt_byteAt s 0
  have b1 : bt s 1 = (byteAt s 1 : Int) := bt_byteAt s 1
  have b2 : bt s 2 = (byteAt s 2 : Int) := bt_byteAt s 2
  by_cases h3 : 3 ≤ s.size
  · rw [if_pos (by omega), if_pos (by omega), decide_eq_true (by omega), b0, b1, b2]
    by_cases hp : (byteAt s 0 : Int) = 37
    · rw [if_pos hp, if_pos (by omega), hex_f, hp]
      simp only [Option.bind_some]
      cases isHex (byteAt s 1 : Int) with
      | true => rw [if_pos rfl, if_pos (by omega), hex_f]; simp
      | false => simp
    · rw [if_neg hp]; simp [hp]
  · rw [if_neg (by omega), decide_eq_false (by omega)]; rfl
end Go.Proofs.Ytbjeegkmafbejaa.PU
namespace Go.Proofs.Ytbjeegkmafbejaa.PU
set_option linter.unusedSimpArgs false
set_option linter.unusedVariables false
open Go.RowKit Go.Proofs.YtbjeegkmafbejaaW.PrintWords Go.Proofs.YtbjeegkmafbejaaW.PrintLast Y
/-- What 'few' says of a value, as it bears on us. -/
def FewV (s : ByteArray) (l : List ByteArray) (p : List S69) : Prop :=
  s.size ≤ 200 ∧ l.length ≤ 30 ∧ p.length ≤ 30 ∧ (∀ x ∈ l, x.size ≤ 200) ∧ ∀ x ∈ p, x.f0.size ≤ 200 ∧ x.f1.size ≤ 200
theorem FewV.modest {s : ByteArray} {l : List ByteArray} {p : List S69} (h : FewV s l p) : modest s l p := by
  obtain ⟨h0, h1, h2, h3, h4⟩ := h
  exact ⟨by omega, by omega, by omega, fun x hx => by have := h3 x hx; omega, fun x hx => by have := h4 x hx; omega⟩
section
variable (vk : Int) (s : ByteArray) (l : List ByteArray) (p : List S69)
/-- From pair i on: the rest is small. -/
theorem few_l1 (d : Nat) : ∀ (k i : Nat), i + d = 31 → 2 * d + 3 < k → (∀ j (hj : j < p.length), j < i → p[j].f0.size ≤ 200 ∧ p[j].f1.size ≤ 200) →
    ∃ b, phalaroperef08_Few.l1 k (i : Int) vk s l p = some b ∧ (b = true → s.size ≤ 200 ∧ l.length ≤ 30 ∧ p.length ≤ 30 ∧ ∀ x ∈ p, x.f0.size ≤ 200 ∧ x.f1.size ≤ 200) := by
  induction d with
  | zero =>
    intro k i hi hk hj
    obtain ⟨k, rfl⟩ : ∃ m, k = m + 2 := ⟨k - 2, by omega⟩
    simp only [phalaroperef08_Few.l1, phalaroperef08_Few.j3]
    have hne : ¬ ((i : Int) < 31) := by omega
    rw [decide_eq_false hne]
    have : ∀ {α : Type} (c : Prop) [Decidable c] (x : α), (if c then x else x) = x := fun c _ x => by split <;> rfl
    simp only [Bool.false_eq_true, if_false, this]
    by_cases h1 : (s.size : Int) ≤ 200
    · by_cases h2 : (l.length : Int) ≤ 30
      · refine ⟨decide ((p.length : Int) ≤ 30), by rw [if_pos h1, if_pos h2], fun h => ?_⟩
        rw [decide_eq_true_iff] at h
        refine ⟨by omega, by omega, by omega, fun x hx => ?_⟩
        obtain ⟨j, hjl, rfl⟩ := List.mem_iff_getElem.1 hx
        exact hj j hjl (by omega)
      · exact ⟨false, by rw [if_pos h1, if_neg h2], fun h => by cases h⟩
    · exact ⟨false, by rw [if_neg h1], fun h => by cases h⟩
  | succ d ih =>
    intro k i hi hk hj
    obtain ⟨k, rfl⟩ : ∃ m, k = m + 2 := ⟨k - 2, by omega⟩
    simp only [phalaroperef08_Few.l1, phalaroperef08_Few.j3]
    have hlt : ((i : Int) < 31) := by omega
    rw [decide_eq_true hlt]
    by_cases hp : (i : Int) < (p.length : Int)
    · have hp' : i < p.length := by omega
      rw [if_pos hp, if_pos rfl, if_pos (by omega), if_pos hp, rd_at p i hp']
      by_cases h1 : ((p[i].f0).size : Int) > 200
      · exact ⟨false, by rw [if_pos h1], fun h => by cases h⟩
      by_cases h2 : ((p[i].f1).size : Int) > 200
      · exact ⟨false, by rw [if_neg h1, if_pos h2], fun h => by cases h⟩
      rw [if_neg h1, if_neg h2, w1 i (by omega)]
      exact ih k (i + 1) (by omega) (by omega) (fun j hjl hji => by
        rcases Nat.lt_or_ge j i with h | h
        · exact hj j hjl h
        · obtain rfl : j = i := by omega
          exact ⟨by omega, by omega⟩)
    · rw [if_neg hp]
      simp only [Bool.false_eq_true, if_false]
      by_cases h1 : (s.size : Int) ≤ 200
      · by_cases h2 : (l.length : Int) ≤ 30
        · refine ⟨decide ((p.length : Int) ≤ 30), by rw [if_pos h1, if_pos h2], fun h => ?_⟩
          rw [decide_eq_true_iff] at h
          refine ⟨by omega, by omega, by omega, fun x hx => ?_⟩
          obtain ⟨j, hjl, rfl⟩ := List.mem_iff_getElem.1 hx
          exact hj j hjl (by omega)
        · exact ⟨false, by rw [if_pos h1, if_neg h2], fun h => by cases h⟩
      · exact ⟨false, by rw [if_neg h1], fun h => by cases h⟩
theorem few_l0 (d : Nat) : ∀ (k i : Nat), i + d = 31 → 2 * d + 80 < k → (∀ j (hj : j < l.length), j < i → l[j].size ≤ 200) →
    ∃ b, phalaroperef08_Few.l0 k (i : Int) vk s l p = some b ∧ (b = true → FewV s l p) := by
  induction d with
  | zero =>
    intro k i hi hk hj
    obtain ⟨k, rfl⟩ : ∃ m, k = m + 2 := ⟨k - 2, by omega⟩
    simp only [phalaroperef08_Few.l0, phalaroperef08_Few.j1]
    have hne : ¬ ((i : Int) < 31) := by omega
    rw [decide_eq_false hne]
    have : ∀ {α : Type} (c : Prop) [Decidable c] (x : α), (if c then x else x) = x := fun c _ x => by split <;> rfl
    simp only [Bool.false_eq_true, if_false, this]
    obtain ⟨b, e, hb⟩ := few_l1 vk s l p 31 k 0 (by omega) (by omega) (fun j _ h => by omega)
    refine ⟨b, e, fun h => ?_⟩
    obtain ⟨h0, h1, h2, h3⟩ := hb h
    refine ⟨h0, h1, h2, fun x hx => ?_, h3⟩
    obtain ⟨j, hjl, rfl⟩ := List.mem_iff_getElem.1 hx
    exact hj j hjl (by omega)
  | succ d ih =>
    intro k i hi hk hj
    obtain ⟨k, rfl⟩ : ∃ m, k = m + 2 := ⟨k - 2, by omega⟩
    simp only [phalaroperef08_Few.l0, phalaroperef08_Few.j1]
    have hlt : ((i : Int) < 31) := by omega
    rw [decide_eq_true hlt]
    by_cases hp : (i : Int) < (l.length : Int)
    · have hp' : i < l.length := by omega
      rw [if_pos hp, if_pos rfl, if_pos (by omega), if_pos hp, rdOf_at l i hp']
      by_cases h1 : ((l[i]).size : Int) > 200
      · exact ⟨false, by rw [if_pos h1], fun h => by cases h⟩
      rw [if_neg h1, w1 i (by omega)]
      exact ih k (i + 1) (by omega) (by omega) (fun j hjl hji => by
        rcases Nat.lt_or_ge j i with h | h
        · exact hj j hjl h
        · obtain rfl : j = i := by omega
          omega)
    · rw [if_neg hp]
      simp only [Bool.false_eq_true, if_false]
      obtain ⟨b, e, hb⟩ := few_l1 vk s l p 31 k 0 (by omega) (by omega) (fun j _ h => by omega)
      refine ⟨b, e, fun h => ?_⟩
      obtain ⟨h0, h1, h2, h3⟩ := hb h
      refine ⟨h0, h1, h2, fun x hx => ?_, h3⟩
      obtain ⟨j, hjl, rfl⟩ := List.mem_iff_getElem.1 hx
      exact hj j hjl (by omega)
theorem few_f (k : Nat) (hk : 200 < k) : ∃ b, phalaroperef08_Few.f k vk s l p = some b ∧ (b = true → FewV s l p) :=
  few_l0 vk s l p 31 k 0 (by omega) (by omega) (fun j _ h => by omega)
end
end Go.Proofs.Ytbjeegkmafbejaa.PU
namespace Go.Proofs.Ytbjeegkmafbejaa.PU
set_option linter.unusedSimpArgs false
set_option linter.unusedVariables false
open Go.RowKit Go.Proofs.YtbjeegkmafbejaaW.PrintWords Go.Proofs.YtbjeegkmafbejaaW.PrintLast Y
theorem u8_in {a0 : Int} (hw : (Lit.int .u8 a0).wf = true) : 0 ≤ a0 ∧ a0 ≤ 255 := by
  have hw : (decide (IntKind.u8.min ≤ a0) && decide (a0 ≤ IntKind.u8.max)) = true := hw
  rwa [show IntKind.u8.min = 0 from by decide, show IntKind.u8.max = 255 from by decide, Bool.and_eq_true, decide_eq_true_eq, decide_eq_true_eq] at hw
theorem awake_f : phalaropelaw11_awake.f = some true := by decide +kernel
theorem evFew (nm : ByteArray) (mx : Int) (st : Bool) (vk : Int) (s : ByteArray) (l : List ByteArray) (p : List S69) : ∃ b, Ev (fun k => phalaropelaw11_few.f k nm mx st vk s l p) b ∧ (b = true → nm.size ≤ 200 ∧ FewV s l p) := by
  by_cases hn : (nm.size : Int) ≤ 200
  · obtain ⟨b, h1, h2⟩ := few_f vk s l p 201 (by omega)
    refine ⟨b, Ev.congr (f := fun k => (phalaroperef08_Few.f k vk s l p).bind fun t => some t) (fun k => if_pos hn) (Ev.bind (Ev.of (phalaroperef08_Few.mono vk s l p) h1) (Ev.now b)), fun h => ⟨by omega, h2 h⟩⟩
  · exact ⟨false, Ev.congr (f := fun _ => some false) (fun k => if_neg hn) (Ev.now false), fun h => by cases h⟩
theorem FewV.smallP {s : ByteArray} {l : List ByteArray} {p : List S69} (h : FewV s l p) : smallP p := fun x hx => by have := h.2.2.2.2 x hx; omega
theorem oneV_f (op : Int) (nm : ByteArray) (mx : Int) (st : Bool) (vk : Int) (s : ByteArray) (l : List ByteArray) (p : List S69) (h0 : 0 ≤ op) (h1 : op ≤ 255) (hn : nm.size ≤ 200) (hf : FewV s l p) : piece_One.f op nm mx st vk s l p = some (oneV op nm mx st vk s l p) := by
  unfold piece_One.f
  rw [if_pos ⟨hf.modest, h0, h1, by omega, hf.smallP⟩]
theorem res02 : ∀ c : Fin 256, phalaroperef02_Reserved.f 20 (c.val : Int) = some (X.resB (c.val : Int)) := by decide +kernel
theorem unr02 : ∀ c : Fin 256, phalaroperef02_Unreserved.f 20 (c.val : Int) = some (isUnres (c.val : Int)) := by decide +kernel
theorem evRes (c : Int) (h0 : 0 ≤ c) (h1 : c < 256) : Ev (fun k => phalaroperef02_Reserved.f k c) (X.resB c) := by
  have := res02 ⟨c.toNat, by omega⟩
  simp only [Int.toNat_of_nonneg h0] at this
  exact Ev.of (phalaroperef02_Reserved.mono c) this
theorem evUnr (c : Int) (h0 : 0 ≤ c) (h1 : c < 256) : Ev (fun k => phalaroperef02_Unreserved.f k c) (isUnres c) := by
  have := unr02 ⟨c.toNat, by omega⟩
  simp only [Int.toNat_of_nonneg h0] at this
  exact Ev.of (phalaroperef02_Unreserved.mono c) this
theorem oneV_GG (op : Int) (nm : ByteArray) (mx : Int) (st : Bool) (vk : Int) (s : ByteArray) (l : List ByteArray) (p : List S69) : X.GG (oneV op nm mx st vk s l p).1.data.toList := by
  unfold oneV
  split
  · rename_i h
    rw [Bool.and_eq_true] at h
    have hn : nameMay nm = true := by
      have h2 := h.2
      unfold sMay at h2
      rw [Bool.and_eq_true] at h2
      exact h2.1
    have hg := X.name_GG nm hn
    split
    · exact X.GG.nil
    split
    · exact X.GG.nil
    split
    · show X.GG (if vk = 1 then X.textS op nm mx s else if st = true then X.starS op nm vk l (pairsOf p) else X.wholeS op nm (textsOf vk s l p)).data.toList
      split
      · exact X.text_GG op nm mx s hg
      split
      · exact X.star_GG op nm vk l _ hg
      · exact X.whole_GG op nm _ hg
    · exact X.GG.nil
  · exact X.GG.nil
theorem uri_l0 (x : ByteArray) (hx : x.size ≤ 100000000) (hg : ∀ i, i < x.size → isUnres (bI x i) = true ∨ X.resB (bI x i) = true ∨ tri x i = true) (d : Nat) : ∀ i, i + d = x.size → Ev (fun k => phalaropelaw11_PieceURI.l0 k true x (i : Int)) true := by
  induction d with
  | zero =>
    intro i hi
    refine Ev.step (f := fun _ => some true) (fun k => ?_) (Ev.now true)
    simp only [phalaropelaw11_PieceURI.l0]
    rw [if_neg (by omega)]
  | succ d ih =>
    intro i hi
    have hc := bI_range x i
    have hbt : bt x (i : Int) = bI x i := bt_byteAt x i
    have hnext := ih (i + 1) (by omega)
    have ht := trip_f (x.extract i x.size)
    rw [tri_ext x i (by omega)] at ht
    have e1 : ∀ k, phalaropelaw11_PieceURI.l0 (k + 1) true x (i : Int) = (phalaroperef02_Unreserved.f k (bI x i)).bind fun t => if t = true then phalaropelaw11_PieceURI.l0 k true x ((i + 1 : Nat) : Int) else ((phalaroperef02_Reserved.f k (bI x i)).bind fun t2 => if t2 = true then phalaropelaw11_PieceURI.l0 k true x ((i + 1 : Nat) : Int) else if tri x i = true then phalaropelaw11_PieceURI.l0 k true x ((i + 1 : Nat) : Int) else some false) := fun k => by
      simp only [phalaropelaw11_PieceURI.l0]
      rw [if_pos (by omega), if_pos (by omega), hbt, w1 i (by omega), if_pos (by omega : (i : Int) ≤ (x.size : Int)), Int.toNat_natCast, ht]
      rfl
    refine Ev.step e1 (Ev.bind (evUnr _ hc.1 hc.2) ?_)
    cases h1 : isUnres (bI x i) with
    | true => exact Ev.congr (fun k => if_pos rfl) hnext
    | false =>
      refine Ev.congr (fun k => if_neg (by decide)) (Ev.bind (evRes _ hc.1 hc.2) ?_)
      cases h2 : X.resB (bI x i) with
      | true => exact Ev.congr (fun k => if_pos rfl) hnext
      | false =>
        refine Ev.congr (fun k => if_neg (by decide)) ?_
        rcases hg i (by omega) with h | h | h
        · rw [h] at h1; cases h1
        · rw [h] at h2; cases h2
        · exact Ev.congr (fun k => if_pos h) hnext
theorem textsOf_few {vk : Int} {s : ByteArray} {l : List ByteArray} {p : List S69} (h : FewV s l p) : (textsOf vk s l p).length ≤ 1000 ∧ ∀ x ∈ textsOf vk s l p, x.size ≤ 1000000 := by
  obtain ⟨h0, h1, h2, h3, h4⟩ := h
  refine ⟨?_, (texts_small (vk := vk) (FewV.modest ⟨h0, h1, h2, h3, h4⟩)).2⟩
  unfold textsOf
  split
  · simp
  split
  · omega
  split
  · have : ∀ q : List S69, (q.flatMap (fun x => [x.f0, x.f1])).length = 2 * q.length := fun q => by
      induction q with
      | nil => rfl
      | cons a q ih => rw [List.flatMap_cons, List.length_append, ih]; simp; omega
    rw [this]; omega
  · simp
theorem oneV_size (op : Int) (nm : ByteArray) (mx : Int) (st : Bool) (vk : Int) (s : ByteArray) (l : List ByteArray) (p : List S69) (hn : nm.size ≤ 200) (hf : FewV s l p) : (oneV op nm mx st vk s l p).1.size ≤ 100000000 := by
  obtain ⟨h0, h1, h2, h3, h4⟩ := hf
  have z : (⟨#[]⟩ : ByteArray).size = 0 := rfl
  unfold oneV
  split
  · split
    · show (⟨#[]⟩ : ByteArray).size ≤ _; omega
    split
    · show (⟨#[]⟩ : ByteArray).size ≤ _; omega
    split
    · show (if vk = 1 then X.textS op nm mx s else if st = true then X.starS op nm vk l (pairsOf p) else X.wholeS op nm (textsOf vk s l p)).size ≤ _
      split
      · unfold X.textS
        have a1 := X.maybeS_size op nm (X.encS (X.ruleKeep op) (if 0 < mx then X.prefixS s mx.toNat else s))
        have a2 := X.encS_size (X.ruleKeep op) (if 0 < mx then X.prefixS s mx.toNat else s)
        have a3 : (if 0 < mx then X.prefixS s mx.toNat else s).size ≤ s.size := by
          split
          · exact X.prefixS_size s _
          · exact Nat.le_refl _
        omega
      have hsep := X.ruleSep_size op
      split
      · unfold X.starS
        split
        · have a1 := X.joinB_size 10000 (X.ruleSep op) (l.map (X.itemS op nm)) (fun x hx => by
            obtain ⟨y, hy, rfl⟩ := List.mem_map.1 hx
            have := X.itemS_size op nm y
            have := h3 y hy
            omega)
          rw [List.length_map] at a1
          have a2 : l.length * (10000 + (X.ruleSep op).size) ≤ 30 * 10001 := Nat.mul_le_mul h1 (by omega)
          omega
        · have a1 := X.joinB_size 10000 (X.ruleSep op) ((pairsOf p).map fun x => X.pairS op x.1 x.2) (fun x hx => by
            obtain ⟨y, hy, rfl⟩ := List.mem_map.1 hx
            unfold pairsOf at hy
            obtain ⟨z, hz, rfl⟩ := List.mem_map.1 hy
            have a3 := X.pairS_size op z.f0 z.f1
            have a4 := h4 z hz
            show (X.pairS op z.f0 z.f1).size ≤ 10000
            omega)
          have a5 : ((pairsOf p).map fun x => X.pairS op x.1 x.2).length = p.length := by unfold pairsOf; rw [List.length_map, List.length_map]
          rw [a5] at a1
          have a2 : p.length * (10000 + (X.ruleSep op).size) ≤ 30 * 10001 := Nat.mul_le_mul h2 (by omega)
          omega
      · have hT : (textsOf vk s l p).length ≤ 1000 ∧ ∀ x ∈ textsOf vk s l p, x.size ≤ 200 := by
          refine ⟨(textsOf_few ⟨h0, h1, h2, h3, h4⟩).1, fun x hx => ?_⟩
          unfold textsOf at hx
          split at hx
          · rw [List.mem_singleton.1 hx]; exact h0
          split at hx
          · exact h3 x hx
          split at hx
          · obtain ⟨y, hy, hx⟩ := List.mem_flatMap.1 hx
            have := h4 y hy
            simp at hx
            rcases hx with rfl | rfl
            · exact this.1
            · exact this.2
          · simp at hx
        have a1 := X.joinB_size 10000 (⟨#[44]⟩ : ByteArray) ((textsOf vk s l p).map (X.encS (X.ruleKeep op))) (fun x hx => by
          obtain ⟨y, hy, rfl⟩ := List.mem_map.1 hx
          have := X.encS_size (X.ruleKeep op) y
          have := hT.2 y hy
          omega)
        rw [List.length_map] at a1
        have a2 : (textsOf vk s l p).length * (10000 + (⟨#[44]⟩ : ByteArray).size) ≤ 1000 * 10001 := Nat.mul_le_mul hT.1 (by decide)
        unfold X.wholeS
        split
        · rw [ByteArray.size_append, ByteArray.size_append]
          show nm.size + 1 + _ ≤ _
          omega
        · omega
    · show (⟨#[]⟩ : ByteArray).size ≤ _; omega
  · show (⟨#[]⟩ : ByteArray).size ≤ _; omega
theorem PieceURI_pure (op : Int) (nm : ByteArray) (mx : Int) (st : Bool) (vk : Int) (s : ByteArray) (l : List ByteArray) (p : List S69) (h0 : 0 ≤ op) (h1 : op ≤ 255) : ∃ k, phalaropelaw11_PieceURI.f k op nm mx st vk s l p = some true := by
  refine Ev.rounds ?_
  obtain ⟨b, hb1, hb2⟩ := evFew nm mx st vk s l p
  have e0 : ∀ k, phalaropelaw11_PieceURI.f k op nm mx st vk s l p = (phalaropelaw11_few.f k nm mx st vk s l p).bind fun t147 => (if t147 = true then ((piece_One.f op nm mx st vk s l p).bind fun bt148 => (phalaropelaw11_PieceURI.l0 k true bt148.1 0)) else (some true)) := fun k => by
    unfold phalaropelaw11_PieceURI.f
    rw [awake_f, Option.bind_some]
  refine Ev.congr e0 (Ev.bind hb1 ?_)
  cases b with
  | false => exact Ev.congr (f := fun _ => some true) (fun k => if_neg (by decide)) (Ev.now true)
  | true =>
    obtain ⟨hn, hf⟩ := hb2 rfl
    refine Ev.congr (f := fun k => phalaropelaw11_PieceURI.l0 k true (oneV op nm mx st vk s l p).1 0) (fun k => by rw [if_pos rfl, oneV_f op nm mx st vk s l p h0 h1 hn hf]; rfl) ?_
    exact uri_l0 (oneV op nm mx st vk s l p).1 (oneV_size op nm mx st vk s l p hn hf) (fun i hi => X.GG.text (oneV_GG op nm mx st vk s l p) i hi) (oneV op nm mx st vk s l p).1.size 0 (by omega)
theorem PieceURI_walk {op : Int} {nm : ByteArray} {mx : Int} {st : Bool} {vk : Int} {s : ByteArray} {A0 : Option Addr} {l : List ByteArray} {c0 : Nat} {A1 : Option Addr} {p : List S69} {c1 : Nat} (w : World) (o0 : 0 ≤ op) (o1 : op ≤ 255) (h0 : Kd.C Kd.string w A0 l.length l) (h1 : l.length ≤ c0) (h2 : Kd.C k69 w A1 p.length p) (h3 : p.length ≤ c1) :
    Calls Try.prog 3 #[.int .u8 op, .agg #[.string nm, .int .i64 mx, .bool st], .agg #[.int .i64 vk, .string s, .slice A0 l.length c0, .slice A1 p.length c1]] w fun e w' => e = .returned (.bool true) ∧ Below w.heap.size w w' := by
  obtain ⟨K, hK⟩ := PieceURI_pure op nm mx st vk s l p o0 o1
  exact phalaropelaw11_PieceURI.calls K op nm mx st vk s A0 c0 l A1 c1 p true w h0 h1 h2 h3 hK
end Go.Proofs.Ytbjeegkmafbejaa.PU
namespace Go.Proofs.Ytbjeegkmafbejaa.PU
set_option linter.unusedSimpArgs false
set_option linter.unusedVariables false
open Go.RowKit Go.Joins Go.WideShapes Go.ChangeShapes Go.Proofs.YtbjeegkmafbejaaW.PrintWords X
theorem down_pair : Down Try.prog k69 (fun x => x.f0.size ≤ maxLen ∧ x.f1.size ≤ maxLen) 69 :=
  down_iso (fun p => ⟨p.1, p.2⟩) (fun _ => rfl) (down_struct Try.underlying69 (fdown_cons (down_string Try.underlying9) rfl (by kernel_rfl) (fdown_one (down_string Try.underlying9) rfl (by kernel_rfl))) (by kernel_rfl))
def valueK : Kd (Int × ByteArray × List ByteArray × List S69) := Kd.pair (Kd.int .i64) (Kd.pair Kd.string (Kd.pair (Kd.slice 9 Kd.string) (Kd.slice 69 k69)))
set_option maxRecDepth 100000 in
theorem down_value : Down Try.prog valueK (fun x => (Lit.int .i64 x.1).wf = true ∧ x.2.1.size ≤ maxLen ∧ (∀ y ∈ x.2.2.1, y.size ≤ maxLen) ∧ ∀ y ∈ x.2.2.2, y.f0.size ≤ maxLen ∧ y.f1.size ≤ maxLen) 27 :=
  down_struct Try.underlying27 (fdown_cons (down_int Try.underlying3) rfl (by kernel_rfl) (fdown_cons (down_string Try.underlying9) rfl (by kernel_rfl) (fdown_cons (down_slice Try.underlying24 (down_string Try.underlying9) (by kernel_rfl)) rfl (by kernel_rfl) (fdown_one (down_slice Try.underlying25 down_pair (by kernel_rfl)) rfl (by kernel_rfl))))) (by kernel_rfl)
set_option maxRecDepth 100000 in
theorem arg_value {H : Type} {enc : TypeId × Value → H} {w : World} {r : Reach} {b0 base : Nat} {spare : Nat → Bool} {held : Bool} {v : Value} {x : DataW H} {p : List MemPlace} (hv : Value.okWide Try.prog w r b0 27 v) (h : DataW.Trod enc Try.prog w base spare held 27 v x p) :
    ∃ (k : Int) (s : ByteArray) (A0 : Option Addr) (l : List ByteArray) (c0 : Nat) (A1 : Option Addr) (q : List S69) (c1 : Nat), v = .agg #[.int .i64 k, .string s, .slice A0 l.length c0, .slice A1 q.length c1] ∧ (Lit.int .i64 k).wf = true ∧
      Kd.C Kd.string w A0 l.length l ∧ l.length ≤ c0 ∧ Kd.C k69 w A1 q.length q ∧ q.length ≤ c1 := by
  obtain ⟨⟨k, s, l, q⟩, cs, rfl, ⟨_, _, e, rfl, _, _, rfl, rfl, _, _, rfl, ⟨A0, c0, rfl, hl, hr⟩, ⟨A1, c1, rfl, hq, hs⟩⟩, hk, _⟩ := arg_struct Try.underlying27 down_value hv h
  refine ⟨k, s, A0, l, c0, A1, q, c1, ?_, hk, hr, hl, hs, hq⟩
  have : cs = #[.int .i64 k, .string s, .slice A0 l.length c0, .slice A1 q.length c1] := by rw [← Array.toArray_toList (xs := cs), e]; rfl
  rw [this]
end Go.Proofs.Ytbjeegkmafbejaa.PU
namespace Go.Proofs.Ytbjeegkmafbejaa.PU
open Go.RowKit Go.Proofs.YtbjeegkmafbejaaW.PrintWords Go.Proofs.YtbjeegkmafbejaaW.PrintLast X
def specK : Kd (ByteArray × Int × Bool) := Kd.pair Kd.string (Kd.pair (Kd.int .i64) Kd.bool)
set_option maxRecDepth 100000 in
theorem down_spec : Down Try.prog specK (fun x => x.1.size ≤ maxLen ∧ (Lit.int .i64 x.2.1).wf = true ∧ True) 23 :=
  down_struct Try.underlying23 (fdown_cons (down_string Try.underlying9) rfl (by kernel_rfl) (fdown_cons (down_int Try.underlying3) rfl (by kernel_rfl) (fdown_one (down_bool Try.underlying4) rfl (by kernel_rfl)))) (by kernel_rfl)
set_option maxRecDepth 100000 in
theorem arg_spec {H : Type} {enc : TypeId × Value → H} {w : World} {r : Reach} {b0 base : Nat} {spare : Nat → Bool} {held : Bool} {v : Value} {x : DataW H} {p : List MemPlace} (hv : Value.okWide Try.prog w r b0 23 v) (h : DataW.Trod enc Try.prog w base spare held 23 v x p) :
    ∃ (nm : ByteArray) (k : Int) (b : Bool), v = .agg #[.string nm, .int .i64 k, .bool b] ∧ nm.size ≤ maxLen ∧ (Lit.int .i64 k).wf = true := by
  obtain ⟨⟨nm, k, b⟩, cs, rfl, ⟨_, _, e, rfl, _, _, rfl, rfl, rfl⟩, h1, h2, _⟩ := arg_struct Try.underlying23 down_spec hv h
  refine ⟨nm, k, b, ?_, h1, h2⟩
  have : cs = #[.string nm, .int .i64 k, .bool b] := by rw [← Array.toArray_toList (xs := cs), e]; rfl
  rw [this]
end Go.Proofs.Ytbjeegkmafbejaa.PU
namespace Go.Proofs.Ytbjeegkmafbejaa.pieceURI
open Go.ChangeShapes Go.WideShapes Go.ChangeAt Go.RowKit
open Go.ChangeMaps (open_string shut_string)
set_option linter.unusedVariables false
theorem own : ownKnob Try.prog.godebug = none := by kernel_rfl
theorem laidOut : laidOutB Try.prog = true := by kernel_rfl
set_option maxRecDepth 100000 in
theorem lifted (os : Os) (started : os.Started) (H : Type) (enc : TypeId × Value → H) :
    ReturnsInHanded {} Try.checked os 3 .any (Rows.pieceURISpec.pre6 enc Try.prog Try.f3 Rows.pieceURIRow.domain false) (Rows.pieceURISpec.post enc Try.prog Try.f3 false true false false) := by
  refine returnsInHanded_of_change_sized (C := Try.checked) own started (by kernel_rfl) Try.func3
    (ChangeSpec.witness6 (enc := enc) (C := Try.checked) false ⟨#[], #[.int .u8 0, .agg #[.string ByteArray.empty, .int .i64 0, .bool false], .agg #[.int .i64 0, .string ByteArray.empty, .slice none 0 0, .slice none 0 0]], []⟩ 8 (by kernel_rfl) (by kernel_rfl) (by kernel_rfl) (by kernel_rfl)) ?_
  intro W base args ds gs before hval0 hW hcnd _ _
  have hval : ∀ (j : Nat) t v, Try.f3.params[j]? = some t → args[j]? = some v → Value.okWide Try.prog W .any base t v := hval0
  have hW' := hW
  obtain ⟨p, q, hA0, hV, rfl, hfz, hnd⟩ := hW
  have hA : DataW.TrodAll enc Try.prog W 0 (fun _ => true) true Try.f3.params.toList args.toList ds p := hA0
  rw [Try.params3] at hA hval
  obtain ⟨v0, vs0, d0, ds0, p0, r0, hargs, rfl, rfl, h0, t0⟩ := trodAll_cons hA
  obtain ⟨v1, vs1, d1, ds1, p1, r1, rfl, rfl, rfl, h1, t1⟩ := trodAll_cons t0
  obtain ⟨v2, vs2, d2, ds2, p2, r2, rfl, rfl, rfl, h2, t2⟩ := trodAll_cons t1
  obtain ⟨rfl, rfl, rfl⟩ := trodAll_nil t2
  obtain rfl : args = #[v0, v1, v2] := by cases args; simp_all
  obtain ⟨rfl, rfl⟩ := trodVars_none hV
  have k0 := h0
  have lt0 : ∀ x ∈ p0, x.block < W.heap.size := by obtain ⟨m, hm⟩ := k0; exact DataW.trod_lt m _ _ _ hm
  obtain ⟨a0, rfl, rfl, rfl, w0⟩ := open_int Try.underlying5 (hval 0 5 v0 rfl rfl) h0
  have k1 := h1
  have lt1 : ∀ x ∈ p1, x.block < W.heap.size := by obtain ⟨m, hm⟩ := k1; exact DataW.trod_lt m _ _ _ hm
  obtain ⟨nm1, m1, st1, rfl, y1, wm1⟩ := PU.arg_spec (hval 1 23 v1 rfl rfl) h1
  have k2 := h2
  have lt2 : ∀ x ∈ p2, x.block < W.heap.size := by obtain ⟨m, hm⟩ := k2; exact DataW.trod_lt m _ _ _ hm
  obtain ⟨k2_, s2, A2, l2, c2, B2, q2, e2, rfl, wk2, hl2, hc2, hq2, he2⟩ := PU.arg_value (hval 2 27 v2 rfl rfl) h2
  refine (PU.PieceURI_walk W (PU.u8_in w0).1 (PU.u8_in w0).2 hl2 hc2 hq2 he2).mono fun e W' ⟨he, bel⟩ => ?_
  subst he
  exact ⟨_, rfl, _, _, _, [], _, [], hW', trodAll_mk1 (shut_bool Try.underlying4 _), (trodAll_cons_mk (Below.trod laidOut (by kernel_rfl) (of_decide_eq_true (by kernel_rfl)) k0 bel lt0) (trodAll_cons_mk (Below.trod laidOut (by kernel_rfl) (of_decide_eq_true (by kernel_rfl)) k1 bel lt1) (trodAll_cons_mk (Below.trod laidOut (by kernel_rfl) (of_decide_eq_true (by kernel_rfl)) k2 bel lt2) trodAll_mk0))), rfl, bel.frame _, fun h => by cases h⟩
theorem over : Rows.pieceURIRow.holds Try.pinned (OpenSpec.ofChange Rows.pieceURISpec) :=
  OpenClaim.holds_of_wide 3 Try.f3 rfl rfl rfl rfl rfl rfl rfl ⟨rfl, rfl, rfl, rfl, rfl⟩ rfl rfl rfl rfl rfl (by kernel_rfl) Try.func3 (by kernel_rfl)
    (of_decide_eq_true (by kernel_rfl)) (by unfold Func.isWrapper; first | (rw [if_pos (by decide +kernel)]; kernel_rfl) | (rw [if_neg (by decide +kernel)]; exact ⟨rfl, rfl⟩))
    (fun os started H enc _ => lifted os started H enc)
end Go.Proofs.Ytbjeegkmafbejaa.pieceURI
namespace Go.Proofs.Ytbjeegkmafbejaa
theorem pieceURI_holds : Rows.PieceURISaid := pieceURI.over
#print axioms pieceURI_holds
end Go.Proofs.Ytbjeegkmafbejaa
