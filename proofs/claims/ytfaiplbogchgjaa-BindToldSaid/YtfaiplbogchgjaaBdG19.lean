/- Texts of this claim, those that nothing needs left out: PAx6 PAx14 PAx4. -/
import Derived.Test.YtfaiplbogchgjaaBdG16
import Derived.Test.YtfaiplbogchgjaaBdG18
import Derived.Test.YtfaiplbogchgjaaBdG17
section
namespace Go.Proofs.Ytfaiplbogchgjaa.PA
open Go.RowKit Go.Proofs.YtfaiplbogchgjaaW.PrintWords Go.Proofs.YtfaiplbogchgjaaW.PrintLast Go.Proofs.YtfaiplbogchgjaaW.PrintMore
attribute [local go_sem] max2_int min2_int max_two min_two max_three min_three max_four min_four   -- for this text's walks alone
set_option linter.unusedVariables false
set_option linter.unusedSimpArgs false
def textsOf (v : S28) : List ByteArray :=
  if v.f0 = 1 then [v.f1] else if v.f0 = 2 then v.f2 else if v.f0 = 3 then v.f3.flatMap (fun x => [x.f0, x.f1]) else []
def canonS (v : S28) : S28 := ⟨(ofV v.f0 (textsOf v)).1, (ofV v.f0 (textsOf v)).2.1, (ofV v.f0 (textsOf v)).2.2.1, (ofV v.f0 (textsOf v)).2.2.2.1⟩
def defS (v : S28) : Bool := decide (0 < (textsOf v).length)
def modest (v : S28) : Prop :=
  v.f1.size ≤ 1000000 ∧ v.f2.length ≤ 100000 ∧ v.f3.length ≤ 100000 ∧ (∀ x ∈ v.f2, x.size ≤ 1000000) ∧ ∀ x ∈ v.f3, x.f0.size ≤ 1000000 ∧ x.f1.size ≤ 1000000
instance (v : S28) : Decidable (modest v) := by unfold modest; infer_instance
def modestB (l : List S38) : Prop := l.length ≤ 1000 ∧ ∀ x ∈ l, x.f0.size ≤ 1000000 ∧ modest x.f1
instance (l : List S38) : Decidable (modestB l) := by unfold modestB; infer_instance
def getL (l : List S38) (nm : List UInt8) : Option S28 := (l.find? fun x => x.f0.data.toList == nm).bind fun x => if defS x.f1 = true then some (canonS x.f1) else none
def dedupL : List (List UInt8) → List (List UInt8)
  | [] => []
  | x :: l => if x ∈ dedupL l then dedupL l else x :: dedupL l
def keysL (l : List S38) : List (List UInt8) := dedupL ((l.map fun x => x.f0.data.toList).filter fun nm => (getL l nm).isSome)
def leL (x y : List UInt8) : Bool := decide (x ≤ y)
def nmOf (x : List UInt8) : ByteArray := ⟨x.toArray⟩
def namesS (l : List S38) : List ByteArray := ((keysL l).mergeSort leL).map nmOf
def canonB (l : List S38) : List S38 := ((keysL l).mergeSort leL).map fun nm => ⟨nmOf nm, (getL l nm).getD z28⟩
instance decP : DecidableEq S50 := fun a b => if h : a.f0 = b.f0 ∧ a.f1 = b.f1 then isTrue (by cases a; cases b; simp_all) else isFalse (by rintro rfl; exact h ⟨rfl, rfl⟩)
instance decV : DecidableEq S28 := fun a b => if h : a.f0 = b.f0 ∧ a.f1 = b.f1 ∧ a.f2 = b.f2 ∧ a.f3 = b.f3 then isTrue (by cases a; cases b; simp_all) else isFalse (by rintro rfl; exact h ⟨rfl, rfl, rfl, rfl⟩)
instance decB : DecidableEq S38 := fun a b => if h : a.f0 = b.f0 ∧ a.f1 = b.f1 then isTrue (by cases a; cases b; simp_all) else isFalse (by rintro rfl; exact h ⟨rfl, rfl⟩)
def sameB (a b : List S38) : Bool := decide (canonB a = canonB b)
theorem rd_at (xs : List S50) (k : Nat) (h : k < xs.length) : rd_T50 xs (k : Int) = xs[k] := by
  unfold rd_T50; rw [Int.toNat_natCast, List.getD_eq_getElem?_getD, List.getElem?_eq_getElem h]; rfl
theorem texts_l0 (p : List S50) (hp : p.length ≤ 100000) (d : Nat) : ∀ (k : Nat) (i : Nat) (acc : List ByteArray), i + d = p.length → d < k → acc.length + 2 * d ≤ 200000 →
    value_Texts.l0 k acc p (p.length : Int) (i : Int) = some (acc ++ (p.drop i).flatMap (fun x => [x.f0, x.f1])) := by
  induction d with
  | zero =>
    intro k i acc hi hk ha
    obtain ⟨k, rfl⟩ : ∃ m, k = m + 1 := ⟨k - 1, by omega⟩
    simp only [value_Texts.l0]
    rw [if_neg (by omega), List.drop_eq_nil_of_le (by omega)]
    simp
  | succ d ih =>
    intro k i acc hi hk ha
    obtain ⟨k, rfl⟩ : ∃ m, k = m + 1 := ⟨k - 1, by omega⟩
    simp only [value_Texts.l0]
    rw [if_pos (by omega), if_pos (by omega), if_pos (by omega), rd_at p i (by omega)]
    simp only [Option.bind_some, List.length_cons, List.length_nil]
    rw [if_pos (by omega), show wrap64 ((i : Int) + 1) = ((i + 1 : Nat) : Int) from by unfold wrap64; omega,
      ih k (i + 1) _ (by omega) (by omega) (by rw [List.length_append]; simp; omega), List.drop_eq_getElem_cons (show i < p.length by omega), List.flatMap_cons, List.append_assoc]
theorem texts_f (k : Nat) (v : S28) (hm : modest v) (hk : 100000 < k) : value_Texts.f k v.f0 v.f1 v.f2 v.f3 = some (textsOf v) := by
  obtain ⟨_, hl, hp, _, _⟩ := hm
  unfold value_Texts.f textsOf
  by_cases h1 : v.f0 = 1
  · rw [if_pos h1, if_pos h1]
  rw [if_neg h1, if_neg h1]
  by_cases h2 : v.f0 = 2
  · rw [if_pos h2, if_pos h2]; unfold slices_Clone_string_string.f; rw [if_pos (by omega)]; rfl
  rw [if_neg h2, if_neg h2]
  by_cases h3 : v.f0 = 3
  · rw [if_pos h3, if_pos h3]
    have := texts_l0 v.f3 hp v.f3.length k 0 [] (by omega) (by omega) (by simp; omega)
    simpa using this
  · rw [if_neg h3, if_neg h3]
theorem flat_len (p : List S50) : (p.flatMap fun x => [x.f0, x.f1]).length = 2 * p.length := by
  induction p with
  | nil => rfl
  | cons x p ih => rw [List.flatMap_cons, List.length_append, ih]; simp; omega
theorem texts_small {v : S28} (hm : modest v) : (textsOf v).length ≤ 1000000 := by
  obtain ⟨_, hl, hp, _, _⟩ := hm
  unfold textsOf
  split
  · simp
  · split
    · omega
    · split
      · rw [flat_len]; omega
      · simp
theorem def_f (k : Nat) (v : S28) (hm : modest v) (hk : 100000 < k) : value_Defined.f k v.f0 v.f1 v.f2 v.f3 = some (defS v) := by
  unfold value_Defined.f
  rw [texts_f k v hm hk]
  simp [defS]
theorem canon_f (k : Nat) (v : S28) (hm : modest v) (hk : 100000 < k) : value_Canon.f k v.f0 v.f1 v.f2 v.f3 = some ((canonS v).f0, (canonS v).f1, (canonS v).f2, (canonS v).f3) := by
  unfold value_Canon.f
  rw [texts_f k v hm hk]
  simp only [Option.bind_some]
  unfold value_Of.f
  rw [if_pos (texts_small hm)]
  rfl
def OkV (W : World) (base : Nat) (v : Value) (s : S28) : Prop := ∃ v2 v3, v = .agg #[.int .i64 s.f0, .string s.f1, v2, v3] ∧ Kd.R Kd.string 9 W base (fun _ => True) v2 s.f2 ∧ Kd.R k50 50 W base (fun _ => True) v3 s.f3
theorem OkV.grown {W W' : World} {base : Nat} {v : Value} {s : S28} (h : OkV W base v s) {row : Option Nat} (hg : W.grownBy W' row) (hr : ∀ r, row = some r → ∃ o : Obj, W.heap[r]? = some o ∧ o.isCells = false) : OkV W' base v s := by
  obtain ⟨v2, v3, rfl, h2, h3⟩ := h
  have no : ∀ (k q : Nat) (cells : Array Value), W.heap[k]? = some (.cells cells q (0, 0)) → some k ≠ row := fun k q cells hc e => by
    obtain ⟨o, ho, hx⟩ := hr k e.symm
    rw [hc] at ho
    cases ho
    cases hx
  exact ⟨v2, v3, rfl, Kd.R_mono (Kd.R_grown (Kd.R_bound h2) hg (fun k hk => by obtain ⟨_, _, _, q, _, cells, hc⟩ := hk; exact no k q cells hc)) (fun _ _ => trivial),
    Kd.R_mono (Kd.R_grown (Kd.R_bound h3) hg (fun k hk => by obtain ⟨_, _, _, q, _, cells, hc⟩ := hk; exact no k q cells hc)) (fun _ _ => trivial)⟩
theorem enc_own {w : World} {base n size : Nat} {e : TypeId} {v : Value} {xs : List Value} (h : w.ownsRow base e size v n xs) : ∃ A c x, v = .slice A n c ∧ X.encA A n c = some x := by
  rcases h.2 with ⟨rfl, hn⟩ | ⟨g, cap, cur, rfl, _⟩
  · subst hn
    exact ⟨none, 0, _, rfl, rfl⟩
  · exact ⟨_, _, _, rfl, rfl⟩
theorem OkV.reads {W : World} {base : Nat} {v : Value} {s : S28} (h : OkV W base v s) : ∃ z, X.valR v = some z := by
  obtain ⟨v2, v3, rfl, h2, h3⟩ := h
  obtain ⟨i2, o2⟩ := Kd.R_own h2
  obtain ⟨i3, o3⟩ := Kd.R_own h3
  obtain ⟨A, c, x, rfl, hx⟩ := enc_own o2
  obtain ⟨B, d, y, rfl, hy⟩ := enc_own o3
  exact ⟨(.agg [.lit (.int .i64 s.f0), .lit (.string s.f1.data.toList), x, y], []), by simp [X.valR, X.valRL, hx, hy]⟩
def IsBV (w : World) (A : Option Addr) (k : Nat) (y : S38) (x : X.BV) : Prop :=
  (∃ ad, A = some ad ∧ w.cell? (ad.add (k * 5)) = some (.string x.nm) ∧ w.cell? ⟨(ad.add (k * 5)).block, (ad.add (k * 5)).off + 1, none⟩ = some (.int .i64 x.k) ∧
    w.cell? ⟨(ad.add (k * 5)).block, (ad.add (k * 5)).off + 2, none⟩ = some (.string x.s) ∧ w.cell? ⟨(ad.add (k * 5)).block, (ad.add (k * 5)).off + 3, none⟩ = some (.slice x.A x.n x.c) ∧ w.cell? ⟨(ad.add (k * 5)).block, (ad.add (k * 5)).off + 4, none⟩ = some (.slice x.B x.m x.d)) ∧
  x.tag = k ∧ x.nm = y.f0 ∧ x.k = y.f1.f0 ∧ x.s = y.f1.f1 ∧ x.n = y.f1.f2.length ∧ x.n ≤ x.c ∧ Kd.C Kd.string w x.A x.n y.f1.f2 ∧ x.m = y.f1.f3.length ∧ x.m ≤ x.d ∧ Kd.C k50 w x.B x.m y.f1.f3
theorem bvs {w : World} {A : Option Addr} {l : List S38} (hr : Kd.C k38 w A l.length l) : ∃ xs : List X.BV, xs.length = l.length ∧ ∀ k (h : k < xs.length), IsBV w A k (l.getD k z38) xs[k] := by
  have : ∀ k : Fin l.length, ∃ x, IsBV w A k.1 (l.getD k.1 z38) x := fun k => by
    obtain ⟨ad, A3, c3, A4, c4, e, h0, h1, h2, h3, h4, l3, g3, l4, g4⟩ := at_T38 hr (k.1 : Int) (by omega) (by omega)
    rw [Int.toNat_natCast] at h0 h1 h2 h3 h4
    exact ⟨⟨_, _, _, A3, _, c3, A4, _, c4, k.1⟩, ⟨ad, e, h0, h1, h2, h3, h4⟩, rfl, rfl, rfl, rfl, rfl, l3, g3, rfl, l4, g4⟩
  obtain ⟨f, hf⟩ := Classical.axiomOfChoice this
  refine ⟨List.ofFn f, by simp, fun k h => ?_⟩
  rw [List.getElem_ofFn]
  exact hf ⟨k, by simpa using h⟩
theorem addr_keep {W W' : World} (hb : Below W.heap.size W W') {p : Addr} {v : Value} (h : W.cell? p = some v) : W'.cell? p = some v := (hb.cell (p := p) (World.block_lt_of_cell? W _ h)).trans h
def MapOf (W : World) (b n base : Nat) (l : List S38) : Prop := ∃ C, X.VM W b n C ∧ ∀ nm, match getL l nm with | some s => ∃ v, C nm = some v ∧ OkV W base v s | none => C nm = none
set_option maxHeartbeats 8000000 in
theorem all_of (A : Option Addr) (c : Nat) (l : List S38) (w : World) (hr : Kd.C k38 w A l.length l) (hm : modestB l) :
    Calls Try.prog 28 #[.slice A l.length c] w fun e W => e = .returned (.map (some w.heap.size)) ∧ MapOf W w.heap.size l.length w.heap.size l ∧ Below w.heap.size w W := by
  obtain ⟨xs, hxl, hxs⟩ := bvs hr
  obtain ⟨hlen, hmem⟩ := hm
  have hdat : l = xs.map fun x => l.getD x.tag z38 := by
    apply List.ext_getElem (by simp [hxl])
    intro i h1 h2
    rw [List.getElem_map, (hxs i (by simpa using h2)).2.1, List.getD_eq_getElem?_getD, List.getElem?_eq_getElem h1]
    rfl
  have hin : ∀ x ∈ xs, ∃ k, k < l.length ∧ x.tag = k ∧ IsBV w A k (l.getD k z38) x := fun x hx => by
    obtain ⟨k, hk, rfl⟩ := List.getElem_of_mem hx
    exact ⟨k, by omega, (hxs k hk).2.1, hxs k hk⟩
  have hget : ∀ k, k < l.length → (l.getD k z38).f0.size ≤ 1000000 ∧ modest (l.getD k z38).f1 := fun k hk => by
    rw [List.getD_eq_getElem?_getD, List.getElem?_eq_getElem hk]
    exact hmem _ (List.getElem_mem hk)
  have h := X.all_any (fun W v x => OkV W w.heap.size v (canonS (l.getD x.tag z38).f1)) (fun x => defS (l.getD x.tag z38).f1) A c xs (by omega)
    (fun x hx => by obtain ⟨k, hk, _, hi⟩ := hin x hx; rw [hi.2.2.1]; exact Nat.le_trans (hget k hk).1 (by unfold maxLen; omega)) w
    (fun W' hb k hk => by
      obtain ⟨⟨ad, e, h0, h1, h2, h3, h4⟩, _⟩ := hxs k hk
      exact ⟨ad, e, addr_keep hb h0, addr_keep hb h1, addr_keep hb h2, addr_keep hb h3, addr_keep hb h4⟩)
    (fun W W' row v x h hg hr => h.grown hg hr)
    (fun x hx W hb => by
      obtain ⟨k, hk, ht, _, _, hnm, hkk, hs, hn, hc, hC, hmm, hd, hD⟩ := hin x hx
      obtain ⟨nm, k', s, A', n, c', B, m, d, tag⟩ := x
      dsimp only at ht hnm hkk hs hn hc hC hmm hd hD
      subst ht hnm hkk hs hn hmm
      exact value_Defined.calls 100001 _ _ _ _ _ _ _ _ _ W (Kd.C_below hC hb) hc (Kd.C_below hD hb) hd (def_f 100001 _ (hget _ hk).2 (by decide)))
    (fun x hx hdf W hb => by
      obtain ⟨k, hk, ht, _, _, hnm, hkk, hs, hn, hc, hC, hmm, hd, hD⟩ := hin x hx
      obtain ⟨nm, k', s, A', n, c', B, m, d, tag⟩ := x
      dsimp only at ht hnm hkk hs hn hc hC hmm hd hD
      subst ht hnm hkk hs hn hmm
      refine (value_Canon.calls 100001 _ _ _ _ _ _ _ _ _ _ _ _ W (Kd.C_below hC hb) hc (Kd.C_below hD hb) hd (canon_f 100001 _ (hget _ hk).2 (by decide))).mono ?_
      rintro e W' ⟨v2, v3, rfl, h2, h3, hb'⟩
      have ok : OkV W' w.heap.size (.agg #[.int .i64 (canonS (l.getD tag z38).f1).f0, .string (canonS (l.getD tag z38).f1).f1, v2, v3]) (canonS (l.getD tag z38).f1) := ⟨v2, v3, rfl, Kd.R_lower h2 hb.size, Kd.R_lower h3 hb.size⟩
      obtain ⟨z, hz⟩ := ok.reads
      exact ⟨_, z, rfl, hz, ok, hb'⟩)
  rw [hxl] at h
  refine h.mono ?_
  rintro e W ⟨rfl, ⟨C, hv, hs⟩, hb⟩
  refine ⟨rfl, ⟨C, hv, fun nm => ?_⟩, hb⟩
  have hs := hs nm
  have hf : (l.find? fun x => x.f0.data.toList == nm) = (X.firstBV xs nm).map fun x => l.getD x.tag z38 := by
    rw [hdat, List.find?_map]
    unfold X.firstBV
    rw [← hdat]
    congr 1
    have : ∀ ys : List X.BV, (∀ x ∈ ys, x ∈ xs) → ys.find? ((fun x => x.f0.data.toList == nm) ∘ fun x : X.BV => l.getD x.tag z38) = ys.find? fun x => x.nm.data.toList == nm := fun ys => by
      induction ys with
      | nil => intro _; rfl
      | cons y ys ih =>
        intro hy
        obtain ⟨k, hk, ht, hi⟩ := hin y (hy y List.mem_cons_self)
        have e : ((fun x : S38 => x.f0.data.toList == nm) ∘ fun x : X.BV => l.getD x.tag z38) y = (y.nm.data.toList == nm) := by
          show ((l.getD y.tag z38).f0.data.toList == nm) = _
          rw [ht, ← hi.2.2.1]
        rw [List.find?_cons, List.find?_cons, e, ih (fun x hx => hy x (List.mem_cons_of_mem _ hx))]
    exact this xs (fun _ h => h)
  unfold getL
  rw [hf]
  cases hfb : X.firstBV xs nm with
  | none => rw [hfb] at hs; exact hs
  | some x =>
    rw [hfb] at hs
    dsimp only at hs
    simp only [Option.map_some, Option.bind_some]
    split at hs
    · rename_i hd
      rw [if_pos hd]
      exact hs
    · rename_i hd
      rw [if_neg hd]
      exact hs
theorem MapOf.look' {W W' : World} {b n base : Nat} {l : List S38} (h : MapOf W b n base l) (hb : Below W.heap.size W W') (nm : ByteArray) (hn : nm.size ≤ 1000000) :
    ∃ A2 c2 A3 c3, (Instr.lookup 47 (.map (some b)) (.string nm) true).run Try.prog W' = .ok (.tuple #[.agg #[.int .i64 ((getL l nm.data.toList).getD z28).f0, .string ((getL l nm.data.toList).getD z28).f1, .slice A2 ((getL l nm.data.toList).getD z28).f2.length c2, .slice A3 ((getL l nm.data.toList).getD z28).f3.length c3], .bool (getL l nm.data.toList).isSome]) W' ∧
      (Instr.lookup 47 (.map (some b)) (.string nm) false).run Try.prog W' = .ok (.agg #[.int .i64 ((getL l nm.data.toList).getD z28).f0, .string ((getL l nm.data.toList).getD z28).f1, .slice A2 ((getL l nm.data.toList).getD z28).f2.length c2, .slice A3 ((getL l nm.data.toList).getD z28).f3.length c3]) W' ∧
      Kd.R Kd.string 9 W base (fun _ => True) (.slice A2 ((getL l nm.data.toList).getD z28).f2.length c2) ((getL l nm.data.toList).getD z28).f2 ∧ Kd.R k50 50 W base (fun _ => True) (.slice A3 ((getL l nm.data.toList).getD z28).f3.length c3) ((getL l nm.data.toList).getD z28).f3 := by
  obtain ⟨C, hv, hs⟩ := h
  obtain ⟨h1, h2⟩ := X.vm_look (hv.below hb) nm (by unfold maxLen; omega)
  have hs := hs nm.data.toList
  cases hg : getL l nm.data.toList with
  | none =>
    rw [hg] at hs
    rw [show C nm.data.toList = none from hs] at h1 h2
    exact ⟨none, 0, none, 0, h1, h2, Kd.R_nil _ _ _ _ _, Kd.R_nil _ _ _ _ _⟩
  | some s =>
    rw [hg] at hs
    obtain ⟨v, hc, v2, v3, rfl, r2, r3⟩ := hs
    rw [hc] at h1 h2
    obtain ⟨A2, c2, rfl⟩ := Kd.R_slice r2
    obtain ⟨A3, c3, rfl⟩ := Kd.R_slice r3
    exact ⟨A2, c2, A3, c3, h1, h2, r2, r3⟩
theorem MapOf.look {W : World} {b n base : Nat} {l : List S38} (h : MapOf W b n base l) (nm : ByteArray) (hn : nm.size ≤ 1000000) :
    ∃ A2 c2 A3 c3, (Instr.lookup 47 (.map (some b)) (.string nm) true).run Try.prog W = .ok (.tuple #[.agg #[.int .i64 ((getL l nm.data.toList).getD z28).f0, .string ((getL l nm.data.toList).getD z28).f1, .slice A2 ((getL l nm.data.toList).getD z28).f2.length c2, .slice A3 ((getL l nm.data.toList).getD z28).f3.length c3], .bool (getL l nm.data.toList).isSome]) W ∧
      (Instr.lookup 47 (.map (some b)) (.string nm) false).run Try.prog W = .ok (.agg #[.int .i64 ((getL l nm.data.toList).getD z28).f0, .string ((getL l nm.data.toList).getD z28).f1, .slice A2 ((getL l nm.data.toList).getD z28).f2.length c2, .slice A3 ((getL l nm.data.toList).getD z28).f3.length c3]) W ∧
      Kd.R Kd.string 9 W base (fun _ => True) (.slice A2 ((getL l nm.data.toList).getD z28).f2.length c2) ((getL l nm.data.toList).getD z28).f2 ∧ Kd.R k50 50 W base (fun _ => True) (.slice A3 ((getL l nm.data.toList).getD z28).f3.length c3) ((getL l nm.data.toList).getD z28).f3 := h.look' (Below.refl _ _) nm hn
set_option maxHeartbeats 8000000 in
set_option maxRecDepth 100000 in
theorem get_of (A : Option Addr) (c : Nat) (l : List S38) (a1 : ByteArray) (w : World) (hr : Kd.C k38 w A l.length l) (hm : modestB l) (hn : a1.size ≤ 1000000) :
    Calls Try.prog 11 #[.slice A l.length c, .string a1] w fun e W => ∃ v2 v3, e = .returned (.tuple #[.agg #[.int .i64 ((getL l a1.data.toList).getD z28).f0, .string ((getL l a1.data.toList).getD z28).f1, v2, v3], .bool (getL l a1.data.toList).isSome]) ∧
      Kd.R Kd.string 9 W w.heap.size (fun _ => True) v2 ((getL l a1.data.toList).getD z28).f2 ∧ Kd.R k50 50 W w.heap.size (fun _ => True) v3 ((getL l a1.data.toList).getD z28).f3 ∧ Below w.heap.size w W := by
  have HR := Aside0.mk hr
  have HM := Aside0.mk hm
  clear hr hm
  go_enter Try.func11, Try.ntmps11
  go_wp2_with fail
  refine (all_of A c l _ (Kd.C_below HR.out (X.below_new1 _ _)) HM.out).mono ?_
  rintro e W1 ⟨rfl, hmo, hb⟩
  obtain ⟨A2, c2, A3, c3, h1, _, r2, r3⟩ := hmo.look a1 hn
  rw [X.size_alloc1] at h1
  have k0 := blk_below (blk_new w (.cells #[.int .i64 0, .string ⟨#[]⟩, .slice none 0 0, .slice none 0 0] 28)) hb
  have hbw := below_step (w := w) (X.below_new1 w _) hb
  obtain ⟨g, hgg⟩ : ∃ g, g = getL l a1.data.toList := ⟨_, rfl⟩
  rw [← hgg] at h1 r2 r3
  obtain ⟨s, hss⟩ : ∃ s, s = g.getD z28 := ⟨_, rfl⟩
  rw [← hss] at h1 r2 r3
  have HG := Aside0.mk hgg
  have HS := Aside0.mk hss
  clear hgg hss
  have hl : w.heap.size < W1.heap.size := blk_lt k0
  have r2' := Kd.R_mono (ok' := fun k => k ≠ w.heap.size ∧ k < W1.heap.size) (Kd.R_lower (Kd.R_bound r2) (Nat.le_of_lt (by rw [X.size_alloc1]; omega : w.heap.size < _))) (fun k hk => ⟨by have := hk.2.1; rw [X.size_alloc1] at this; omega, hk.2.2.1⟩)
  have r3' := Kd.R_mono (ok' := fun k => k ≠ w.heap.size ∧ k < W1.heap.size) (Kd.R_lower (Kd.R_bound r3) (Nat.le_of_lt (by rw [X.size_alloc1]; omega : w.heap.size < _))) (fun k hk => ⟨by have := hk.2.1; rw [X.size_alloc1] at this; omega, hk.2.2.1⟩)
  have K0 := Aside0.mk k0
  have R2 := Aside0.mk r2'
  have R3 := Aside0.mk r3'
  have HB := Aside0.mk hbw
  have hc0 := X.cells4 k0
  clear k0 hb hbw r2 r3 r2' r3' hmo
  go_wp2_with fail
  obtain rfl := HS.out
  obtain rfl := HG.out
  have k2 := blk_put (blk_put (blk_put (blk_put K0.out 0 (.int .i64 ((getL l a1.data.toList).getD z28).f0) rfl) 1 (.string ((getL l a1.data.toList).getD z28).f1) rfl) 2 (.slice A2 ((getL l a1.data.toList).getD z28).f2.length c2) rfl) 3 (.slice A3 ((getL l a1.data.toList).getD z28).f3.length c3) rfl
  refine bodyPost_ret (results_ct rfl _ _ w.heap.size 28 _ (0, 0) _ rfl (blk_alloc k2 _) Try.underlying28 rfl (by kernel_rfl)) rfl ⟨_, _, rfl, ?_, ?_, ?_⟩
  · exact Kd.R_mono (Kd.R_alloc (Kd.R_far (Kd.R_far (Kd.R_far (Kd.R_far R2.out (fun k hk => hk.1) _) (fun k hk => hk.1) _) (fun k hk => hk.1) _) (fun k hk => hk.1) _) _) (fun _ _ => trivial)
  · exact Kd.R_mono (Kd.R_alloc (Kd.R_far (Kd.R_far (Kd.R_far (Kd.R_far R3.out (fun k hk => hk.1) _) (fun k hk => hk.1) _) (fun k hk => hk.1) _) (fun k hk => hk.1) _) _) (fun _ _ => trivial)
  · exact below_alloc (below_set (below_set (below_set (below_set HB.out (Nat.le_refl _)) (Nat.le_refl _)) (Nat.le_refl _)) (Nat.le_refl _)) _
theorem mem_dedupL (l : List (List UInt8)) (x : List UInt8) : x ∈ dedupL l ↔ x ∈ l := by
  induction l with
  | nil => rfl
  | cons y l ih =>
    unfold dedupL
    split
    · rename_i h
      rw [ih, List.mem_cons]
      constructor
      · exact .inr
      · rintro (rfl | h')
        · exact ih.1 (by rwa [ih] at h ⊢) |> fun h => h
        · exact h'
    · rw [List.mem_cons, List.mem_cons, ih]
theorem nodup_dedupL : ∀ l : List (List UInt8), (dedupL l).Nodup
  | [] => List.nodup_nil
  | y :: l => by
    unfold dedupL
    split
    · exact nodup_dedupL l
    · rename_i h
      exact List.nodup_cons.2 ⟨h, nodup_dedupL l⟩
theorem mem_keysL {l : List S38} {x : List UInt8} : x ∈ keysL l ↔ (getL l x).isSome = true := by
  unfold keysL
  rw [mem_dedupL, List.mem_filter, List.mem_map]
  constructor
  · exact fun h => h.2
  · intro h
    refine ⟨?_, h⟩
    unfold getL at h
    cases hf : l.find? (fun y => y.f0.data.toList == x) with
    | none => rw [hf] at h; cases h
    | some y => exact ⟨y, List.mem_of_find?_eq_some hf, by simpa using List.find?_some hf⟩
theorem keys_size {l : List S38} (hm : modestB l) {x : List UInt8} (h : x ∈ keysL l) : x.length ≤ 1000000 := by
  unfold keysL at h
  rw [mem_dedupL, List.mem_filter, List.mem_map] at h
  obtain ⟨⟨y, hy, rfl⟩, _⟩ := h
  have := (hm.2 y hy).1
  simpa using this
def sortedL (l : List S38) : List (List UInt8) := (keysL l).mergeSort leL
theorem names_eq (l : List S38) : namesS l = (sortedL l).map nmOf := rfl
theorem canonB_eq (l : List S38) : canonB l = (sortedL l).map fun nm => ⟨nmOf nm, (getL l nm).getD z28⟩ := rfl
theorem names_len (l : List S38) : (namesS l).length = (sortedL l).length := by rw [names_eq, List.length_map]
theorem sorted_size {l : List S38} (hm : modestB l) {x : List UInt8} (h : x ∈ sortedL l) : x.length ≤ 1000000 := keys_size hm (List.mem_mergeSort.1 h)
theorem dedup_len : ∀ l : List (List UInt8), (dedupL l).length ≤ l.length
  | [] => Nat.le_refl _
  | y :: l => by
    have := dedup_len l
    unfold dedupL
    split
    · rw [List.length_cons]; omega
    · rw [List.length_cons, List.length_cons]; omega
theorem sorted_len (l : List S38) : (sortedL l).length ≤ l.length := by
  unfold sortedL keysL
  rw [List.length_mergeSort]
  exact Nat.le_trans (dedup_len _) (Nat.le_trans (List.length_filter_le _ _) (by simp))
theorem names_of (A : Option Addr) (c : Nat) (l : List S38) (w : World) (hr : Kd.C k38 w A l.length l) (hm : modestB l) :
    Calls Try.prog 15 #[.slice A l.length c] w fun e W => ∃ v, e = .returned v ∧ Kd.R Kd.string 9 W w.heap.size (fun _ => True) v (namesS l) ∧ Below w.heap.size w W := by
  have h := X.names_any (.slice A l.length c) w.heap.size l.length X.valR (fun _ D => ∀ nm : ByteArray, nm.size ≤ maxLen → Maps.has D (.string nm.data.toList) = (getL l nm.data.toList).isSome) w (by have := hm.1; omega)
    ((all_of A c l w hr hm).mono (fun e W ⟨h1, ⟨C, ⟨D, hD, hD2⟩, hs⟩, hb⟩ => ⟨h1, ⟨D, hD, fun nm hn => by
      rw [(hD2 nm hn).1]
      have := hs nm.data.toList
      split at this
      · rename_i s hg
        obtain ⟨v, hv, _⟩ := this
        rw [hv, hg]; rfl
      · rename_i hg
        rw [this, hg]; rfl⟩, hb⟩))
  refine h.mono ?_
  rintro e W ⟨v, ss, D0, W0, rfl, hown, hQ, hp, hrow, hb⟩
  obtain ⟨es, hD, hpw, _⟩ := hown.entries X.strKeyed
  obtain ⟨es', hD', hko⟩ := hown.keysOf
  obtain rfl : es = es' := by rw [hD] at hD'; simpa using hD'
  have hkp : (keysL l).Perm (strKeys D0) := by
    rw [hD]
    refine perm_strKeys hpw (fun p hp => by obtain ⟨v, hv⟩ := hko p hp; obtain ⟨x, _, hx, _⟩ := Maps.keyOf_str Try.underlying9 hv; exact ⟨x, hx⟩) (nodup_dedupL _) (fun x => ?_)
    rw [mem_keysL, ← hD]
    constructor
    · intro hx
      have := keys_size hm (mem_keysL.2 hx)
      exact (hQ (nmOf x) (by show x.toArray.size ≤ maxLen; rw [List.size_toArray]; unfold maxLen; omega)).trans hx
    · intro hx
      have hlen : x.length ≤ maxLen := by
        rw [hD, Maps.has_eq, List.any_eq_true] at hx
        obtain ⟨p, hp, hs⟩ := hx
        obtain ⟨v, hv⟩ := hko p hp
        obtain ⟨y, _, hy, hl⟩ := Maps.keyOf_str Try.underlying9 hv
        rw [hy] at hs
        have : y = x := by simpa [Lit.sameKey] using hs
        rw [← this]; exact hl
      exact (hQ (nmOf x) (by show x.toArray.size ≤ maxLen; rw [List.size_toArray]; exact hlen)).symm.trans hx
  have hms : ss.mergeSort (fun x y => decide (x ≤ y)) = sortedL l := mergeSort_of_perm (hp.trans hkp.symm)
  have hlen : ss.length = (sortedL l).length := by rw [← hms, List.length_mergeSort]
  rw [hms] at hrow
  refine ⟨v, rfl, Kd.R_of_own (enc := Value.string) ?_ (fun _ _ => trivial), hb⟩
  have e1 : (namesS l).length = ss.length := by rw [names_len, hlen]
  rw [e1]
  have e2 : encs Value.string (namesS l) = (sortedL l).map encStr := by
    unfold encs
    rw [names_eq, List.map_map]
    rfl
  rw [e2]
  exact hrow
theorem bind_info : (Try.prog.info? 38).map (fun i => (i.zero, i.size, i.bytes)) = some (some (.agg #[(.string ⟨#[]⟩), (.int .i64 0), (.string ⟨#[]⟩), (.slice none 0 0), (.slice none 0 0)]), 5, 88) := by kernel_rfl
set_option maxHeartbeats 8000000 in
set_option maxRecDepth 100000 in
theorem canon_of (A : Option Addr) (c : Nat) (l : List S38) (w : World) (hr : Kd.C k38 w A l.length l) (hm : modestB l) :
    Calls Try.prog 18 #[.slice A l.length c] w fun e W => ∃ v, e = .returned v ∧ Kd.R k38 38 W w.heap.size (fun _ => True) v (canonB l) ∧ Below w.heap.size w W := by
  have HR := Aside0.mk hr
  have HM := Aside0.mk hm
  clear hr hm
  have hN := names_len l
  have hNl := sorted_len l
  have hl1 := HM.out.1
  go_enter Try.func18, Try.ntmps18
  go_wp2_with fail
  refine (all_of A c l _ HR.out HM.out).mono ?_
  rintro e W1 ⟨rfl, hmo, hb1⟩
  go_wp2_with fail
  refine (names_of A c l _ (Kd.C_below HR.out hb1) HM.out).mono ?_
  rintro e W2 ⟨v, rfl, hv, hb2⟩
  obtain ⟨A2, c2, rfl, hc2, hrd⟩ := Kd.R_reads hv
  have hb3 : Below w.heap.size w W2 := below_step hb1 hb2
  have hmo2 : MapOf W2 w.heap.size l.length w.heap.size l := by
    obtain ⟨C, hvm, hs⟩ := hmo
    refine ⟨C, hvm.below hb2, fun nm => ?_⟩
    have := hs nm
    split at this
    · obtain ⟨v, h1, h2⟩ := this
      exact ⟨v, h1, h2.grown (grown_of_below hb2 none) (fun r e => by cases e)⟩
    · exact this
  have hw2 := hb3.size
  clear hmo hb1 hb2 hv
  obtain ⟨N, hNN⟩ : ∃ N, N = (sortedL l).length := ⟨_, rfl⟩
  rw [← hNN] at hN hNl
  have HRD := Aside0.mk hrd
  have HM2 := Aside0.mk hmo2
  have HB3 := Aside0.mk hb3
  have HNN := Aside0.mk hNN
  rw [hN] at hc2 ⊢
  have HN := Aside0.mk hN
  clear hrd hmo2 hb3 hN hNN
  go_wp2_with fail
  go_loopw [4, 6, 12] (fun v4 _ v12 wr => ∃ k : Nat, k ≤ N ∧ v12 = .int .i64 k ∧ Below W2.heap.size W2 wr ∧ ∃ u inner, u = v4 ∧ wr.ownsRow W2.heap.size 38 5 u k inner ∧ Reps (k38.M W2 w.heap.size (fun j => j < W2.heap.size)) 5 ((canonB l).take k) inner)
    (fun _ _ v12 _ => (N - intOf v12).toNat)
  case atStart =>
    exact ⟨0, Nat.zero_le _, rfl, Below.refl _ _, _, [], rfl, ⟨rfl, .inl ⟨rfl, rfl⟩⟩, Reps.none _ _⟩
  case round =>
    obtain ⟨k, hk, rfl, hb, v4, inner, hv4, hown, hreps⟩ := hrel
    subst hv4
    by_cases hlt : k < N
    · have hrdw := Kd.C_below HRD.out hb
      obtain ⟨ad2, rfl, _⟩ := HRD.out.2.2 (by rw [HN.out]; omega)
      have hkl : k < (sortedL l).length := by rw [← HNN.out]; exact hlt
      have hce := X.cell_str hrdw k (by rw [HN.out]; exact hlt)
      have hnm : X.gAt (namesS l) k = nmOf (sortedL l)[k] := by
        unfold X.gAt
        rw [names_eq, List.getD_eq_getElem?_getD, List.getElem?_map, List.getElem?_eq_getElem hkl]
        rfl
      rw [hnm] at hce
      have hsz : (nmOf (sortedL l)[k]).size ≤ 1000000 := sorted_size HM.out (List.getElem_mem hkl)
      obtain ⟨A3, c3, A4, c4, _, hlk, r3, r4⟩ := HM2.out.look' hb (nmOf (sortedL l)[k]) hsz
      have hdl : (nmOf (sortedL l)[k]).data.toList = (sortedL l)[k] := rfl
      rw [hdl] at hlk r3 r4
      have hx : (canonB l).take (k + 1) = (canonB l).take k ++ [(⟨nmOf (sortedL l)[k], (getL l (sortedL l)[k]).getD z28⟩ : S38)] := by
        rw [List.take_succ_eq_append_getElem (by rw [canonB_eq, List.length_map]; exact hkl)]
        congr 2
        simp [canonB_eq]
      obtain ⟨nm, hnm'⟩ : ∃ nm, nm = nmOf (sortedL l)[k] := ⟨_, rfl⟩
      obtain ⟨s, hs⟩ : ∃ s, s = (getL l (sortedL l)[k]).getD z28 := ⟨_, rfl⟩
      rw [← hnm'] at hce hlk hx
      rw [← hs] at hlk r3 r4 hx
      have hM : k38.M W2 w.heap.size (fun j => j < W2.heap.size) ⟨nm, s⟩ [.string nm, .int .i64 s.f0, .string s.f1, .slice A3 s.f2.length c3, .slice A4 s.f3.length c4] :=
        k38_mkM W2 w.heap.size _ ⟨nm, s⟩ (Kd.R_mono (Kd.R_bound r3) (fun j hj => hj.2.2.1)) (Kd.R_mono (Kd.R_bound r4) (fun j hj => hj.2.2.1))
      have HX := Aside0.mk (hx ▸ hreps.snoc hM rfl)
      have HO := Aside0.mk hown
      have HF := Aside0.mk hb
      have HS := Aside0.mk hs
      have HNM := Aside0.mk hnm'
      clear hs hnm' hx hM hreps hown hb hrdw r3 r4 hnm
      go_wp2_with (at_builtin; refine print_append_cells (w0 := W2) W2.heap.size rfl (.tmp 16) (.tmp 22) 22 38 (.agg #[(.string ⟨#[]⟩), (.int .i64 0), (.string ⟨#[]⟩), (.slice none 0 0), (.slice none 0 0)]) 5 88 rfl Try.underlying22 bind_info rfl (by decide) (by decide) v4 k inner [.string nm, .int .i64 s.f0, .string s.f1, .slice A3 s.f2.length c3, .slice A4 s.f3.length c4] rfl rfl rfl (by simp [Value.oneCell']) HO.out HF.out (below_size HF.out) (by omega) ?_; intro v1 w1 q1 q2 q3 q4; have HQ := Aside0.mk q1; have HF1 := Aside0.mk q2; clear q1 q2 q3 q4)
      go_roundw
      case rel => exact ⟨k + 1, by omega, by go_num, HF1.out, _, _, rfl, HQ.out, HX.out⟩
      case measure => simp [intOf]; omega
    · have hkN : k = N := by omega
      subst hkN
      have HF := Aside0.mk hb
      have HO := Aside0.mk hown
      have HP := Aside0.mk hreps
      clear hb hown hreps hlt
      go_wp2_with fail
      go_ret
      have hlen : (canonB l).length = k := by rw [canonB_eq, List.length_map, ← HNN.out]
      have hp := HP.out
      rw [List.take_of_length_le (by omega)] at hp
      refine ⟨_, rfl, ⟨fun _ _ => trivial, inner, own_weaken (by rw [hlen]; exact HO.out) hw2, hp.imp_ (fun x cs h => Kd.M_mono _ (fun j hj => ⟨trivial, fun e => by have := X.own_base HO.out j e.symm; omega⟩) (Kd.M_move _ (fun j hj => HF.out.block j hj) h))⟩, HB3.out.trans (HF.out.mono hw2)⟩
end Go.Proofs.Ytfaiplbogchgjaa.PA
end
section
namespace Go.Proofs.Ytfaiplbogchgjaa.PA
open Go.RowKit Go.Proofs.YtfaiplbogchgjaaW.PrintWords Go.Proofs.YtfaiplbogchgjaaW.PrintLast Go.Proofs.YtfaiplbogchgjaaW.PrintMore
attribute [local go_sem] max2_int min2_int max_two min_two max_three min_three max_four min_four   -- for this text's walks alone
set_option linter.unusedVariables false
set_option linter.unusedSimpArgs false
attribute [local go_sem high] eqA50
def phalaroperef08_Very.l0 : Nat → Int → Int → ByteArray → List ByteArray → List (S50) → Int → ByteArray → List ByteArray → List (S50) → Option (Bool)
  | 0, _, _, _, _, _, _, _, _, _ => none
  | k + 1, x5, x285000, x285001, x285002, x285003, x286000, x286001, x286002, x286003 => if x5 < (x285003.length : Int) then (if 0 ≤ x5 then (if x5 < (x286003.length : Int) then (if (!((((rd_T50 x285003 x5).f0).toList) == (((rd_T50 x286003 x5).f0).toList)) || (!((((rd_T50 x285003 x5).f1).toList) == (((rd_T50 x286003 x5).f1).toList)))) = true then (some false) else (phalaroperef08_Very.l0 k (wrap64 (x5 + 1)) x285000 x285001 x285002 x285003 x286000 x286001 x286002 x286003)) else (none)) else (none)) else (if x285000 = x286000 then (if x285001.toList = x286001.toList then ((phalaroperef05_Texts.f k x285002 x286002).bind fun t288 => (some t288)) else (some false)) else (some false))
def phalaroperef08_Very.f (k : Nat) (a0_0 : Int) (a0_1 : ByteArray) (l0_2 : List ByteArray) (l0_3 : List (S50)) (a1_0 : Int) (a1_1 : ByteArray) (l1_2 : List ByteArray) (l1_3 : List (S50)) : Option (Bool) := if (l0_3.length : Int) = (l1_3.length : Int) then (phalaroperef08_Very.l0 k 0 a0_0 a0_1 l0_2 l0_3 a1_0 a1_1 l1_2 l1_3) else (some false)
set_option maxHeartbeats 8000000 in
set_option maxRecDepth 100000 in
theorem phalaroperef08_Very.calls (k : Nat) (a0_0 : Int) (a0_1 : ByteArray) (A0_2 : Option Addr) (c0_2 : Nat) (l0_2 : List ByteArray) (A0_3 : Option Addr) (c0_3 : Nat) (l0_3 : List (S50)) (a1_0 : Int) (a1_1 : ByteArray) (A1_2 : Option Addr) (c1_2 : Nat) (l1_2 : List ByteArray) (A1_3 : Option Addr) (c1_3 : Nat) (l1_3 : List (S50)) (r : Bool) (w : World) (hr0_2 : Kd.C Kd.string w A0_2 l0_2.length l0_2) (hc0_2 : l0_2.length ≤ c0_2) (hr0_3 : Kd.C k50 w A0_3 l0_3.length l0_3) (hc0_3 : l0_3.length ≤ c0_3) (hr1_2 : Kd.C Kd.string w A1_2 l1_2.length l1_2) (hc1_2 : l1_2.length ≤ c1_2) (hr1_3 : Kd.C k50 w A1_3 l1_3.length l1_3) (hc1_3 : l1_3.length ≤ c1_3) (h : phalaroperef08_Very.f k a0_0 a0_1 l0_2 l0_3 a1_0 a1_1 l1_2 l1_3 = some r) :
    Calls Try.prog 13 #[.agg #[.int .i64 a0_0, .string a0_1, .slice A0_2 l0_2.length c0_2, .slice A0_3 l0_3.length c0_3], .agg #[.int .i64 a1_0, .string a1_1, .slice A1_2 l1_2.length c1_2, .slice A1_3 l1_3.length c1_3]] w fun e w' => e = .returned (.bool r) ∧ Below w.heap.size w w' := by
  have hu28 := Try.underlying28
  have hu50 := Try.underlying50
  have HR0_2 := Aside0.mk hr0_2
  have HC0_2 := Aside0.mk hc0_2
  clear hr0_2 hc0_2
  have HR0_3 := Aside0.mk hr0_3
  have HC0_3 := Aside0.mk hc0_3
  clear hr0_3 hc0_3
  have HR1_2 := Aside0.mk hr1_2
  have HC1_2 := Aside0.mk hc1_2
  clear hr1_2 hc1_2
  have HR1_3 := Aside0.mk hr1_3
  have HC1_3 := Aside0.mk hc1_3
  clear hr1_3 hc1_3
  have HB := Aside0.mk (Below.refl w.heap.size w)
  have H : (if (l0_3.length : Int) = (l1_3.length : Int) then (phalaroperef08_Very.l0 k 0 a0_0 a0_1 l0_2 l0_3 a1_0 a1_1 l1_2 l1_3) else (some false)) = some r := h
  clear h
  by_cases c3 : (l0_3.length : Int) = (l1_3.length : Int)
  · rw [if_pos c3] at H
    have c3b0 : ((l0_3.length : Int) == (l1_3.length : Int)) = true := beq_iff_eq.mpr c3
    have c3b1 : ((l0_3.length : Int) != (l1_3.length : Int)) = false := bne_eq_false_iff_eq.mpr c3
    have c3b2 : (l0_3.length == l1_3.length) = true := by first | simpa using c3 | (simp at c3 ⊢; omega)
    clear c3
    have H' := Aside0.mk H
    clear H
    go_enter Try.func13, Try.ntmps13
    go_wp2_with (first | ((with_reducible refine gate_dst (N := 2) rfl ?_); refine box_event ?hg (N := 2) ?hd (cs := #[.int .i64 a0_0, .string a0_1, .slice A0_2 l0_2.length c0_2, .slice A0_3 l0_3.length c0_3]) (t := 28) ?hr ?_; (case hd => rfl); (case hg => rfl); (case hr => first | (go_simp; done) | (go_simp; rfl)); intro gb284 hg w4 hbox hb; have n0_ := Aside0.mk (below_step (by repeat (first | (with_reducible first | exact HB.out | apply below_alloc | apply pw_below_drewN | apply below_drew1) | exact HB.out)) hb); have n1_ := Aside0.mk (hbox); have n2_ := Aside0.mk ((by rw [hg]; exact (below_size (by repeat (first | (with_reducible first | exact HB.out | apply below_alloc | apply pw_below_drewN | apply below_drew1) | exact HB.out))) : w.heap.size ≤ gb284)); have n3_ := Aside0.mk ((by rw [hg]; exact (below_size (by repeat (first | (with_reducible first | exact HB.out | apply below_alloc | apply pw_below_drewN | apply below_drew1) | exact HB.out))) : w.heap.size ≤ gb284)); clear HB; have HB := n0_; have BK284 := n1_; have GW284 := n2_; have GE284 := n3_; clear n0_ n1_ n2_ n3_; clear hb hbox hg) | ((with_reducible refine gate_dst (N := 3) rfl ?_); refine box_event ?hg (N := 3) ?hd (cs := #[.int .i64 a1_0, .string a1_1, .slice A1_2 l1_2.length c1_2, .slice A1_3 l1_3.length c1_3]) (t := 28) ?hr ?_; (case hd => rfl); (case hg => rfl); (case hr => first | (go_simp; done) | (go_simp; rfl)); intro gb285 hg w5 hbox hb; have n0_ := Aside0.mk (blk_below (g := gb284) (o := .cells #[.int .i64 a0_0, .string a0_1, .slice A0_2 l0_2.length c0_2, .slice A0_3 l0_3.length c0_3] 28 (0, 0)) (by (with_reducible repeat (first | refine blk_drewN ?_ _ | refine blk_drew ?_ | refine blk_alloc ?_ _)); exact BK284.out) hb); have n1_ := Aside0.mk (below_step (by repeat (first | (with_reducible first | exact HB.out | apply below_alloc | apply pw_below_drewN | apply below_drew1 | refine below_set ?_ GE284.out) | exact HB.out)) hb); have n2_ := Aside0.mk (hbox); have n3_ := Aside0.mk ((by rw [hg]; exact (below_size (by repeat (first | (with_reducible first | exact HB.out | apply below_alloc | apply pw_below_drewN | apply below_drew1 | refine below_set ?_ GE284.out) | exact HB.out))) : w.heap.size ≤ gb285)); have n4_ := Aside0.mk ((by rw [hg]; exact (below_size (by repeat (first | (with_reducible first | exact HB.out | apply below_alloc | apply pw_below_drewN | apply below_drew1 | refine below_set ?_ GE284.out) | exact HB.out))) : w.heap.size ≤ gb285)); have n5_ := Aside0.mk ((by rw [hg]; exact Nat.ne_of_lt (blk_lt (g := gb284) (o := .cells #[.int .i64 a0_0, .string a0_1, .slice A0_2 l0_2.length c0_2, .slice A0_3 l0_3.length c0_3] 28 (0, 0)) (by (with_reducible repeat (first | refine blk_drewN ?_ _ | refine blk_drew ?_ | refine blk_alloc ?_ _)); exact BK284.out)) : gb284 ≠ gb285)); have n6_ := Aside0.mk ((by rw [hg]; exact Nat.ne_of_gt (blk_lt (g := gb284) (o := .cells #[.int .i64 a0_0, .string a0_1, .slice A0_2 l0_2.length c0_2, .slice A0_3 l0_3.length c0_3] 28 (0, 0)) (by (with_reducible repeat (first | refine blk_drewN ?_ _ | refine blk_drew ?_ | refine blk_alloc ?_ _)); exact BK284.out)) : gb285 ≠ gb284)); clear BK284; clear HB; have BK284 := n0_; have HB := n1_; have BK285 := n2_; have GW285 := n3_; have GE285 := n4_; have NB284_285 := n5_; have NB285_284 := n6_; clear n0_ n1_ n2_ n3_ n4_ n5_ n6_; clear hb hbox hg; have hnb6 := NB284_285.out; have hnc6 := NB285_284.out; have hcz7_0 : w5.cell? ⟨gb284, 0, none⟩ = some (.int .i64 a0_0) := (blk_cell BK284.out 0).trans rfl; have hcz7_1 : w5.cell? ⟨gb284, 1, none⟩ = some (.string a0_1) := (blk_cell BK284.out 1).trans rfl; have hcz7_2 : w5.cell? ⟨gb284, 2, none⟩ = some (.slice A0_2 l0_2.length c0_2) := (blk_cell BK284.out 2).trans rfl; have hcz7_3 : w5.cell? ⟨gb284, 3, none⟩ = some (.slice A0_3 l0_3.length c0_3) := (blk_cell BK284.out 3).trans rfl; have hfz7_0 := blk_frozen BK284.out 0; have hfz7_1 := blk_frozen BK284.out 1; have hfz7_2 := blk_frozen BK284.out 2; have hfz7_3 := blk_frozen BK284.out 3; have hcz8_0 : w5.cell? ⟨gb285, 0, none⟩ = some (.int .i64 a1_0) := (blk_cell BK285.out 0).trans rfl; have hcz8_1 : w5.cell? ⟨gb285, 1, none⟩ = some (.string a1_1) := (blk_cell BK285.out 1).trans rfl; have hcz8_2 : w5.cell? ⟨gb285, 2, none⟩ = some (.slice A1_2 l1_2.length c1_2) := (blk_cell BK285.out 2).trans rfl; have hcz8_3 : w5.cell? ⟨gb285, 3, none⟩ = some (.slice A1_3 l1_3.length c1_3) := (blk_cell BK285.out 3).trans rfl; have hfz8_0 := blk_frozen BK285.out 0; have hfz8_1 := blk_frozen BK285.out 1; have hfz8_2 := blk_frozen BK285.out 2; have hfz8_3 := blk_frozen BK285.out 3))
    repeat (go_quiet (first | ((with_reducible refine gate_dst (N := 2) rfl ?_); refine box_event ?hg (N := 2) ?hd (cs := #[.int .i64 a0_0, .string a0_1, .slice A0_2 l0_2.length c0_2, .slice A0_3 l0_3.length c0_3]) (t := 28) ?hr ?_; (case hd => rfl); (case hg => rfl); (case hr => first | (go_simp; done) | (go_simp; rfl)); intro gb284 hg w4 hbox hb; have n0_ := Aside0.mk (below_step (by repeat (first | (with_reducible first | exact HB.out | apply below_alloc | apply pw_below_drewN | apply below_drew1) | exact HB.out)) hb); have n1_ := Aside0.mk (hbox); have n2_ := Aside0.mk ((by rw [hg]; exact (below_size (by repeat (first | (with_reducible first | exact HB.out | apply below_alloc | apply pw_below_drewN | apply below_drew1) | exact HB.out))) : w.heap.size ≤ gb284)); have n3_ := Aside0.mk ((by rw [hg]; exact (below_size (by repeat (first | (with_reducible first | exact HB.out | apply below_alloc | apply pw_below_drewN | apply below_drew1) | exact HB.out))) : w.heap.size ≤ gb284)); clear HB; have HB := n0_; have BK284 := n1_; have GW284 := n2_; have GE284 := n3_; clear n0_ n1_ n2_ n3_; clear hb hbox hg) | ((with_reducible refine gate_dst (N := 3) rfl ?_); refine box_event ?hg (N := 3) ?hd (cs := #[.int .i64 a1_0, .string a1_1, .slice A1_2 l1_2.length c1_2, .slice A1_3 l1_3.length c1_3]) (t := 28) ?hr ?_; (case hd => rfl); (case hg => rfl); (case hr => first | (go_simp; done) | (go_simp; rfl)); intro gb285 hg w5 hbox hb; have n0_ := Aside0.mk (blk_below (g := gb284) (o := .cells #[.int .i64 a0_0, .string a0_1, .slice A0_2 l0_2.length c0_2, .slice A0_3 l0_3.length c0_3] 28 (0, 0)) (by (with_reducible repeat (first | refine blk_drewN ?_ _ | refine blk_drew ?_ | refine blk_alloc ?_ _)); exact BK284.out) hb); have n1_ := Aside0.mk (below_step (by repeat (first | (with_reducible first | exact HB.out | apply below_alloc | apply pw_below_drewN | apply below_drew1 | refine below_set ?_ GE284.out) | exact HB.out)) hb); have n2_ := Aside0.mk (hbox); have n3_ := Aside0.mk ((by rw [hg]; exact (below_size (by repeat (first | (with_reducible first | exact HB.out | apply below_alloc | apply pw_below_drewN | apply below_drew1 | refine below_set ?_ GE284.out) | exact HB.out))) : w.heap.size ≤ gb285)); have n4_ := Aside0.mk ((by rw [hg]; exact (below_size (by repeat (first | (with_reducible first | exact HB.out | apply below_alloc | apply pw_below_drewN | apply below_drew1 | refine below_set ?_ GE284.out) | exact HB.out))) : w.heap.size ≤ gb285)); have n5_ := Aside0.mk ((by rw [hg]; exact Nat.ne_of_lt (blk_lt (g := gb284) (o := .cells #[.int .i64 a0_0, .string a0_1, .slice A0_2 l0_2.length c0_2, .slice A0_3 l0_3.length c0_3] 28 (0, 0)) (by (with_reducible repeat (first | refine blk_drewN ?_ _ | refine blk_drew ?_ | refine blk_alloc ?_ _)); exact BK284.out)) : gb284 ≠ gb285)); have n6_ := Aside0.mk ((by rw [hg]; exact Nat.ne_of_gt (blk_lt (g := gb284) (o := .cells #[.int .i64 a0_0, .string a0_1, .slice A0_2 l0_2.length c0_2, .slice A0_3 l0_3.length c0_3] 28 (0, 0)) (by (with_reducible repeat (first | refine blk_drewN ?_ _ | refine blk_drew ?_ | refine blk_alloc ?_ _)); exact BK284.out)) : gb285 ≠ gb284)); clear BK284; clear HB; have BK284 := n0_; have HB := n1_; have BK285 := n2_; have GW285 := n3_; have GE285 := n4_; have NB284_285 := n5_; have NB285_284 := n6_; clear n0_ n1_ n2_ n3_ n4_ n5_ n6_; clear hb hbox hg; have hnb6 := NB284_285.out; have hnc6 := NB285_284.out; have hcz7_0 : w5.cell? ⟨gb284, 0, none⟩ = some (.int .i64 a0_0) := (blk_cell BK284.out 0).trans rfl; have hcz7_1 : w5.cell? ⟨gb284, 1, none⟩ = some (.string a0_1) := (blk_cell BK284.out 1).trans rfl; have hcz7_2 : w5.cell? ⟨gb284, 2, none⟩ = some (.slice A0_2 l0_2.length c0_2) := (blk_cell BK284.out 2).trans rfl; have hcz7_3 : w5.cell? ⟨gb284, 3, none⟩ = some (.slice A0_3 l0_3.length c0_3) := (blk_cell BK284.out 3).trans rfl; have hfz7_0 := blk_frozen BK284.out 0; have hfz7_1 := blk_frozen BK284.out 1; have hfz7_2 := blk_frozen BK284.out 2; have hfz7_3 := blk_frozen BK284.out 3; have hcz8_0 : w5.cell? ⟨gb285, 0, none⟩ = some (.int .i64 a1_0) := (blk_cell BK285.out 0).trans rfl; have hcz8_1 : w5.cell? ⟨gb285, 1, none⟩ = some (.string a1_1) := (blk_cell BK285.out 1).trans rfl; have hcz8_2 : w5.cell? ⟨gb285, 2, none⟩ = some (.slice A1_2 l1_2.length c1_2) := (blk_cell BK285.out 2).trans rfl; have hcz8_3 : w5.cell? ⟨gb285, 3, none⟩ = some (.slice A1_3 l1_3.length c1_3) := (blk_cell BK285.out 3).trans rfl; have hfz8_0 := blk_frozen BK285.out 0; have hfz8_1 := blk_frozen BK285.out 1; have hfz8_2 := blk_frozen BK285.out 2; have hfz8_3 := blk_frozen BK285.out 3)); try go_wp2_with (first | ((with_reducible refine gate_dst (N := 2) rfl ?_); refine box_event ?hg (N := 2) ?hd (cs := #[.int .i64 a0_0, .string a0_1, .slice A0_2 l0_2.length c0_2, .slice A0_3 l0_3.length c0_3]) (t := 28) ?hr ?_; (case hd => rfl); (case hg => rfl); (case hr => first | (go_simp; done) | (go_simp; rfl)); intro gb284 hg w4 hbox hb; have n0_ := Aside0.mk (below_step (by repeat (first | (with_reducible first | exact HB.out | apply below_alloc | apply pw_below_drewN | apply below_drew1) | exact HB.out)) hb); have n1_ := Aside0.mk (hbox); have n2_ := Aside0.mk ((by rw [hg]; exact (below_size (by repeat (first | (with_reducible first | exact HB.out | apply below_alloc | apply pw_below_drewN | apply below_drew1) | exact HB.out))) : w.heap.size ≤ gb284)); have n3_ := Aside0.mk ((by rw [hg]; exact (below_size (by repeat (first | (with_reducible first | exact HB.out | apply below_alloc | apply pw_below_drewN | apply below_drew1) | exact HB.out))) : w.heap.size ≤ gb284)); clear HB; have HB := n0_; have BK284 := n1_; have GW284 := n2_; have GE284 := n3_; clear n0_ n1_ n2_ n3_; clear hb hbox hg) | ((with_reducible refine gate_dst (N := 3) rfl ?_); refine box_event ?hg (N := 3) ?hd (cs := #[.int .i64 a1_0, .string a1_1, .slice A1_2 l1_2.length c1_2, .slice A1_3 l1_3.length c1_3]) (t := 28) ?hr ?_; (case hd => rfl); (case hg => rfl); (case hr => first | (go_simp; done) | (go_simp; rfl)); intro gb285 hg w5 hbox hb; have n0_ := Aside0.mk (blk_below (g := gb284) (o := .cells #[.int .i64 a0_0, .string a0_1, .slice A0_2 l0_2.length c0_2, .slice A0_3 l0_3.length c0_3] 28 (0, 0)) (by (with_reducible repeat (first | refine blk_drewN ?_ _ | refine blk_drew ?_ | refine blk_alloc ?_ _)); exact BK284.out) hb); have n1_ := Aside0.mk (below_step (by repeat (first | (with_reducible first | exact HB.out | apply below_alloc | apply pw_below_drewN | apply below_drew1 | refine below_set ?_ GE284.out) | exact HB.out)) hb); have n2_ := Aside0.mk (hbox); have n3_ := Aside0.mk ((by rw [hg]; exact (below_size (by repeat (first | (with_reducible first | exact HB.out | apply below_alloc | apply pw_below_drewN | apply below_drew1 | refine below_set ?_ GE284.out) | exact HB.out))) : w.heap.size ≤ gb285)); have n4_ := Aside0.mk ((by rw [hg]; exact (below_size (by repeat (first | (with_reducible first | exact HB.out | apply below_alloc | apply pw_below_drewN | apply below_drew1 | refine below_set ?_ GE284.out) | exact HB.out))) : w.heap.size ≤ gb285)); have n5_ := Aside0.mk ((by rw [hg]; exact Nat.ne_of_lt (blk_lt (g := gb284) (o := .cells #[.int .i64 a0_0, .string a0_1, .slice A0_2 l0_2.length c0_2, .slice A0_3 l0_3.length c0_3] 28 (0, 0)) (by (with_reducible repeat (first | refine blk_drewN ?_ _ | refine blk_drew ?_ | refine blk_alloc ?_ _)); exact BK284.out)) : gb284 ≠ gb285)); have n6_ := Aside0.mk ((by rw [hg]; exact Nat.ne_of_gt (blk_lt (g := gb284) (o := .cells #[.int .i64 a0_0, .string a0_1, .slice A0_2 l0_2.length c0_2, .slice A0_3 l0_3.length c0_3] 28 (0, 0)) (by (with_reducible repeat (first | refine blk_drewN ?_ _ | refine blk_drew ?_ | refine blk_alloc ?_ _)); exact BK284.out)) : gb285 ≠ gb284)); clear BK284; clear HB; have BK284 := n0_; have HB := n1_; have BK285 := n2_; have GW285 := n3_; have GE285 := n4_; have NB284_285 := n5_; have NB285_284 := n6_; clear n0_ n1_ n2_ n3_ n4_ n5_ n6_; clear hb hbox hg; have hnb6 := NB284_285.out; have hnc6 := NB285_284.out; have hcz7_0 : w5.cell? ⟨gb284, 0, none⟩ = some (.int .i64 a0_0) := (blk_cell BK284.out 0).trans rfl; have hcz7_1 : w5.cell? ⟨gb284, 1, none⟩ = some (.string a0_1) := (blk_cell BK284.out 1).trans rfl; have hcz7_2 : w5.cell? ⟨gb284, 2, none⟩ = some (.slice A0_2 l0_2.length c0_2) := (blk_cell BK284.out 2).trans rfl; have hcz7_3 : w5.cell? ⟨gb284, 3, none⟩ = some (.slice A0_3 l0_3.length c0_3) := (blk_cell BK284.out 3).trans rfl; have hfz7_0 := blk_frozen BK284.out 0; have hfz7_1 := blk_frozen BK284.out 1; have hfz7_2 := blk_frozen BK284.out 2; have hfz7_3 := blk_frozen BK284.out 3; have hcz8_0 : w5.cell? ⟨gb285, 0, none⟩ = some (.int .i64 a1_0) := (blk_cell BK285.out 0).trans rfl; have hcz8_1 : w5.cell? ⟨gb285, 1, none⟩ = some (.string a1_1) := (blk_cell BK285.out 1).trans rfl; have hcz8_2 : w5.cell? ⟨gb285, 2, none⟩ = some (.slice A1_2 l1_2.length c1_2) := (blk_cell BK285.out 2).trans rfl; have hcz8_3 : w5.cell? ⟨gb285, 3, none⟩ = some (.slice A1_3 l1_3.length c1_3) := (blk_cell BK285.out 3).trans rfl; have hfz8_0 := blk_frozen BK285.out 0; have hfz8_1 := blk_frozen BK285.out 1; have hfz8_2 := blk_frozen BK285.out 2; have hfz8_3 := blk_frozen BK285.out 3)))
    go_loopg [5] k (fun kq v5 w' => ∃ (x5_1 : Int), v5 = .int .i64 x5_1 ∧ Aside0 (phalaroperef08_Very.l0 kq x5_1 a0_0 a0_1 l0_2 l0_3 a1_0 a1_1 l1_2 l1_3 = some r) ∧ Aside0 (kq ≤ k) ∧ Aside0 (w'.heap[gb284]? = some (.cells #[.int .i64 a0_0, .string a0_1, (.slice A0_2 l0_2.length c0_2), (.slice A0_3 l0_3.length c0_3)] 28 (0, 0))) ∧ Aside0 (w'.heap[gb285]? = some (.cells #[.int .i64 a1_0, .string a1_1, (.slice A1_2 l1_2.length c1_2), (.slice A1_3 l1_3.length c1_3)] 28 (0, 0))) ∧ Aside0 (Below w.heap.size w w'))
    case atStart => exact ⟨(0), (by first | rfl | (simp; done) | (simp [*]; done)), H', ⟨Nat.le_refl _⟩, ⟨by (with_reducible repeat (first | refine blk_drewN ?_ _ | refine blk_drew ?_ | refine blk_alloc ?_ _)); exact BK284.out⟩, ⟨by (with_reducible repeat (first | refine blk_drewN ?_ _ | refine blk_drew ?_ | refine blk_alloc ?_ _)); exact BK285.out⟩, ⟨by repeat (first | (with_reducible first | exact HB.out | apply below_alloc | apply pw_below_drewN | apply below_drew1 | refine below_set ?_ GE284.out | refine below_set ?_ GE285.out) | exact HB.out)⟩⟩
    case round =>
      clear H'
      try clear c1
      try clear p2
      try clear c3
      try clear c3b0
      try clear c3b1
      try clear c3b2
      try clear c6
      try clear hcz7_0
      try clear hcz7_1
      try clear hcz7_2
      try clear hcz7_3
      try clear hcz8_0
      try clear hcz8_1
      try clear hcz8_2
      try clear hcz8_3
      try clear hfz7_0
      try clear hfz7_1
      try clear hfz7_2
      try clear hfz7_3
      try clear hfz8_0
      try clear hfz8_1
      try clear hfz8_2
      try clear hfz8_3
      obtain ⟨x5_1, rfl, HA, HK1, BK284, BK285, HB⟩ := hrel
      cases gk with
      | zero => exact absurd HA.out (by simp [phalaroperef08_Very.l0])
      | succ k1 =>
        have H := HA.out
        clear HA
        simp only [phalaroperef08_Very.l0] at H
        by_cases c9 : x5_1 < (l0_3.length : Int)
        · rw [if_pos c9] at H
          have c9b0 : decide (x5_1 < (l0_3.length : Int)) = true := decide_eq_true c9
          clear c9
          by_cases c10 : 0 ≤ x5_1
          · rw [if_pos c10] at H
            have c10b0 : decide (0 ≤ x5_1) = true := decide_eq_true c10
            clear c10
            by_cases c11 : x5_1 < (l1_3.length : Int)
            · rw [if_pos c11] at H
              have c11b0 : decide (x5_1 < (l1_3.length : Int)) = true := decide_eq_true c11
              clear c11
              by_cases c12 : (!((((rd_T50 l0_3 x5_1).f0).toList) == (((rd_T50 l1_3 x5_1).f0).toList)) || (!((((rd_T50 l0_3 x5_1).f1).toList) == (((rd_T50 l1_3 x5_1).f1).toList)))) = true
              · rw [if_pos c12] at H
                have c12b0 : (!((((rd_T50 l0_3 x5_1).f0).toList) == (((rd_T50 l1_3 x5_1).f0).toList)) || (!((((rd_T50 l0_3 x5_1).f1).toList) == (((rd_T50 l1_3 x5_1).f1).toList)))) = true := c12
                clear c12
                obtain rfl := Option.some.inj H
                have hnb13 := NB284_285.out
                have hnc13 := NB285_284.out
                have hcz14_0 : wr.cell? ⟨gb284, 0, none⟩ = some (.int .i64 a0_0) := (blk_cell BK284.out 0).trans rfl
                have hcz14_1 : wr.cell? ⟨gb284, 1, none⟩ = some (.string a0_1) := (blk_cell BK284.out 1).trans rfl
                have hcz14_2 : wr.cell? ⟨gb284, 2, none⟩ = some (.slice A0_2 l0_2.length c0_2) := (blk_cell BK284.out 2).trans rfl
                have hcz14_3 : wr.cell? ⟨gb284, 3, none⟩ = some (.slice A0_3 l0_3.length c0_3) := (blk_cell BK284.out 3).trans rfl
                have hfz14_0 := blk_frozen BK284.out 0
                have hfz14_1 := blk_frozen BK284.out 1
                have hfz14_2 := blk_frozen BK284.out 2
                have hfz14_3 := blk_frozen BK284.out 3
                have p286 : 0 ≤ (x5_1 : Int) := of_decide_eq_true (by first | (with_reducible assumption) | assumption)
                have q286 : x5_1 < (l0_3.length : Int) := of_decide_eq_true (by first | (with_reducible assumption) | assumption)
                obtain ⟨ad286, e286, hx286_0, hx286_1⟩ := at_T50 HR0_3.out x5_1 p286 q286
                cases e286
                replace hx286_0 := (HB.out.cell (World.block_lt_of_cell? w _ hx286_0)).trans hx286_0
                replace hx286_1 := (HB.out.cell (World.block_lt_of_cell? w _ hx286_1)).trans hx286_1
                replace p286 := eq_true p286
                replace q286 := eq_true q286
                have hcz15_0 : wr.cell? ⟨gb285, 0, none⟩ = some (.int .i64 a1_0) := (blk_cell BK285.out 0).trans rfl
                have hcz15_1 : wr.cell? ⟨gb285, 1, none⟩ = some (.string a1_1) := (blk_cell BK285.out 1).trans rfl
                have hcz15_2 : wr.cell? ⟨gb285, 2, none⟩ = some (.slice A1_2 l1_2.length c1_2) := (blk_cell BK285.out 2).trans rfl
                have hcz15_3 : wr.cell? ⟨gb285, 3, none⟩ = some (.slice A1_3 l1_3.length c1_3) := (blk_cell BK285.out 3).trans rfl
                have hfz15_0 := blk_frozen BK285.out 0
                have hfz15_1 := blk_frozen BK285.out 1
                have hfz15_2 := blk_frozen BK285.out 2
                have hfz15_3 := blk_frozen BK285.out 3
                have p287 : 0 ≤ (x5_1 : Int) := of_decide_eq_true (by first | (with_reducible assumption) | assumption)
                have q287 : x5_1 < (l1_3.length : Int) := of_decide_eq_true (by first | (with_reducible assumption) | assumption)
                obtain ⟨ad287, e287, hx287_0, hx287_1⟩ := at_T50 HR1_3.out x5_1 p287 q287
                cases e287
                replace hx287_0 := (HB.out.cell (World.block_lt_of_cell? w _ hx287_0)).trans hx287_0
                replace hx287_1 := (HB.out.cell (World.block_lt_of_cell? w _ hx287_1)).trans hx287_1
                replace p287 := eq_true p287
                replace q287 := eq_true q287
                go_wp2
                repeat (go_quiet (fail); try go_wp2)
                go_ret
                exact ⟨by first | rfl | (simp [errW_none, errW_some] <;> rfl) | (simp [*, errW_none, errW_some] <;> rfl), by repeat (first | (with_reducible first | exact HB.out | apply below_alloc | apply pw_below_drewN | apply below_drew1 | refine below_set ?_ GE284.out | refine below_set ?_ GE285.out) | exact HB.out)⟩
              · rw [if_neg c12] at H
                have c12b0 : (!((((rd_T50 l0_3 x5_1).f0).toList) == (((rd_T50 l1_3 x5_1).f0).toList)) || (!((((rd_T50 l0_3 x5_1).f1).toList) == (((rd_T50 l1_3 x5_1).f1).toList)))) = false := by simpa using c12
                clear c12
                have H' := Aside0.mk H
                clear H
                have hnb16 := NB284_285.out
                have hnc16 := NB285_284.out
                have hcz17_0 : wr.cell? ⟨gb284, 0, none⟩ = some (.int .i64 a0_0) := (blk_cell BK284.out 0).trans rfl
                have hcz17_1 : wr.cell? ⟨gb284, 1, none⟩ = some (.string a0_1) := (blk_cell BK284.out 1).trans rfl
                have hcz17_2 : wr.cell? ⟨gb284, 2, none⟩ = some (.slice A0_2 l0_2.length c0_2) := (blk_cell BK284.out 2).trans rfl
                have hcz17_3 : wr.cell? ⟨gb284, 3, none⟩ = some (.slice A0_3 l0_3.length c0_3) := (blk_cell BK284.out 3).trans rfl
                have hfz17_0 := blk_frozen BK284.out 0
                have hfz17_1 := blk_frozen BK284.out 1
                have hfz17_2 := blk_frozen BK284.out 2
                have hfz17_3 := blk_frozen BK284.out 3
                have p286 : 0 ≤ (x5_1 : Int) := of_decide_eq_true (by first | (with_reducible assumption) | assumption)
                have q286 : x5_1 < (l0_3.length : Int) := of_decide_eq_true (by first | (with_reducible assumption) | assumption)
                obtain ⟨ad286, e286, hx286_0, hx286_1⟩ := at_T50 HR0_3.out x5_1 p286 q286
                cases e286
                replace hx286_0 := (HB.out.cell (World.block_lt_of_cell? w _ hx286_0)).trans hx286_0
                replace hx286_1 := (HB.out.cell (World.block_lt_of_cell? w _ hx286_1)).trans hx286_1
                replace p286 := eq_true p286
                replace q286 := eq_true q286
                have hcz18_0 : wr.cell? ⟨gb285, 0, none⟩ = some (.int .i64 a1_0) := (blk_cell BK285.out 0).trans rfl
                have hcz18_1 : wr.cell? ⟨gb285, 1, none⟩ = some (.string a1_1) := (blk_cell BK285.out 1).trans rfl
                have hcz18_2 : wr.cell? ⟨gb285, 2, none⟩ = some (.slice A1_2 l1_2.length c1_2) := (blk_cell BK285.out 2).trans rfl
                have hcz18_3 : wr.cell? ⟨gb285, 3, none⟩ = some (.slice A1_3 l1_3.length c1_3) := (blk_cell BK285.out 3).trans rfl
                have hfz18_0 := blk_frozen BK285.out 0
                have hfz18_1 := blk_frozen BK285.out 1
                have hfz18_2 := blk_frozen BK285.out 2
                have hfz18_3 := blk_frozen BK285.out 3
                have p287 : 0 ≤ (x5_1 : Int) := of_decide_eq_true (by first | (with_reducible assumption) | assumption)
                have q287 : x5_1 < (l1_3.length : Int) := of_decide_eq_true (by first | (with_reducible assumption) | assumption)
                obtain ⟨ad287, e287, hx287_0, hx287_1⟩ := at_T50 HR1_3.out x5_1 p287 q287
                cases e287
                replace hx287_0 := (HB.out.cell (World.block_lt_of_cell? w _ hx287_0)).trans hx287_0
                replace hx287_1 := (HB.out.cell (World.block_lt_of_cell? w _ hx287_1)).trans hx287_1
                replace p287 := eq_true p287
                replace q287 := eq_true q287
                go_wp2
                repeat (go_quiet (fail); try go_wp2)
                go_roundg k1
                case measure => have := HK1.out; omega
                case rel => exact ⟨(wrap64 (x5_1 + 1)), (by first | rfl | (simp; done) | (simp [*]; done)), H', ⟨by have := HK1.out; omega⟩, ⟨by (with_reducible repeat (first | refine blk_drewN ?_ _ | refine blk_drew ?_ | refine blk_alloc ?_ _)); exact BK284.out⟩, ⟨by (with_reducible repeat (first | refine blk_drewN ?_ _ | refine blk_drew ?_ | refine blk_alloc ?_ _)); exact BK285.out⟩, ⟨by repeat (first | (with_reducible first | exact HB.out | apply below_alloc | apply pw_below_drewN | apply below_drew1 | refine below_set ?_ GE284.out | refine below_set ?_ GE285.out) | exact HB.out)⟩⟩
            · rw [if_neg c11] at H
              exact absurd H (by simp)
          · rw [if_neg c10] at H
            exact absurd H (by simp)
        · rw [if_neg c9] at H
          have c9b0 : decide (x5_1 < (l0_3.length : Int)) = false := decide_eq_false c9
          clear c9
          by_cases c19 : a0_0 = a1_0
          · rw [if_pos c19] at H
            have c19b0 : (a0_0 == a1_0) = true := beq_iff_eq.mpr c19
            have c19b1 : (a0_0 != a1_0) = false := bne_eq_false_iff_eq.mpr c19
            clear c19
            by_cases c20 : a0_1.toList = a1_1.toList
            · rw [if_pos c20] at H
              have c20b0 : (a0_1.toList == a1_1.toList) = true := beq_iff_eq.mpr c20
              have c20b1 : (a0_1.toList != a1_1.toList) = false := bne_eq_false_iff_eq.mpr c20
              clear c20
              replace H := Option.bind_eq_some_iff.mp H
              obtain ⟨t288, A210, H⟩ := H
              replace H : (some t288) = some r := H
              have A21 := Aside0.mk A210
              clear A210
              obtain rfl := Option.some.inj H
              have hnb22 := NB284_285.out
              have hnc22 := NB285_284.out
              have hcz23_0 : wr.cell? ⟨gb284, 0, none⟩ = some (.int .i64 a0_0) := (blk_cell BK284.out 0).trans rfl
              have hcz23_1 : wr.cell? ⟨gb284, 1, none⟩ = some (.string a0_1) := (blk_cell BK284.out 1).trans rfl
              have hcz23_2 : wr.cell? ⟨gb284, 2, none⟩ = some (.slice A0_2 l0_2.length c0_2) := (blk_cell BK284.out 2).trans rfl
              have hcz23_3 : wr.cell? ⟨gb284, 3, none⟩ = some (.slice A0_3 l0_3.length c0_3) := (blk_cell BK284.out 3).trans rfl
              have hfz23_0 := blk_frozen BK284.out 0
              have hfz23_1 := blk_frozen BK284.out 1
              have hfz23_2 := blk_frozen BK284.out 2
              have hfz23_3 := blk_frozen BK284.out 3
              have hcz24_0 : wr.cell? ⟨gb285, 0, none⟩ = some (.int .i64 a1_0) := (blk_cell BK285.out 0).trans rfl
              have hcz24_1 : wr.cell? ⟨gb285, 1, none⟩ = some (.string a1_1) := (blk_cell BK285.out 1).trans rfl
              have hcz24_2 : wr.cell? ⟨gb285, 2, none⟩ = some (.slice A1_2 l1_2.length c1_2) := (blk_cell BK285.out 2).trans rfl
              have hcz24_3 : wr.cell? ⟨gb285, 3, none⟩ = some (.slice A1_3 l1_3.length c1_3) := (blk_cell BK285.out 3).trans rfl
              have hfz24_0 := blk_frozen BK285.out 0
              have hfz24_1 := blk_frozen BK285.out 1
              have hfz24_2 := blk_frozen BK285.out 2
              have hfz24_3 := blk_frozen BK285.out 3
              go_wp2_with (first | (go_at_call 14; (with_reducible refine (phalaroperef05_Texts.calls k1 _ _ l0_2 _ _ l1_2 t288 _ ?side1 ?side2 ?side3 ?side4 A21.out).mono ?_); (case side1 => repeat (first | exact (Kd.C_below HR0_2.out HB.out) | (with_reducible refine Kd.C_alloc ?_ _) | (with_reducible refine Kd.C_drewN ?_ _) | (with_reducible refine Kd.C_drew ?_))); (case side2 => exact HC0_2.out); (case side3 => repeat (first | exact (Kd.C_below HR1_2.out HB.out) | (with_reducible refine Kd.C_alloc ?_ _) | (with_reducible refine Kd.C_drewN ?_ _) | (with_reducible refine Kd.C_drew ?_))); (case side4 => exact HC1_2.out); rintro e w' ⟨rfl, ⟨nd, rfl⟩⟩; (try first | exact ⟨rfl, _, World.drewN_drewN _ _ _⟩ | exact ⟨rfl, _, Eq.trans (World.drewN_drewN _ _ _) (congrArg (World.drewN _) (Nat.add_assoc _ _ _))⟩)))
              repeat (go_quiet (first | (go_at_call 14; (with_reducible refine (phalaroperef05_Texts.calls k1 _ _ l0_2 _ _ l1_2 t288 _ ?side1 ?side2 ?side3 ?side4 A21.out).mono ?_); (case side1 => repeat (first | exact (Kd.C_below HR0_2.out HB.out) | (with_reducible refine Kd.C_alloc ?_ _) | (with_reducible refine Kd.C_drewN ?_ _) | (with_reducible refine Kd.C_drew ?_))); (case side2 => exact HC0_2.out); (case side3 => repeat (first | exact (Kd.C_below HR1_2.out HB.out) | (with_reducible refine Kd.C_alloc ?_ _) | (with_reducible refine Kd.C_drewN ?_ _) | (with_reducible refine Kd.C_drew ?_))); (case side4 => exact HC1_2.out); rintro e w' ⟨rfl, ⟨nd, rfl⟩⟩; (try first | exact ⟨rfl, _, World.drewN_drewN _ _ _⟩ | exact ⟨rfl, _, Eq.trans (World.drewN_drewN _ _ _) (congrArg (World.drewN _) (Nat.add_assoc _ _ _))⟩))); try go_wp2_with (first | (go_at_call 14; (with_reducible refine (phalaroperef05_Texts.calls k1 _ _ l0_2 _ _ l1_2 t288 _ ?side1 ?side2 ?side3 ?side4 A21.out).mono ?_); (case side1 => repeat (first | exact (Kd.C_below HR0_2.out HB.out) | (with_reducible refine Kd.C_alloc ?_ _) | (with_reducible refine Kd.C_drewN ?_ _) | (with_reducible refine Kd.C_drew ?_))); (case side2 => exact HC0_2.out); (case side3 => repeat (first | exact (Kd.C_below HR1_2.out HB.out) | (with_reducible refine Kd.C_alloc ?_ _) | (with_reducible refine Kd.C_drewN ?_ _) | (with_reducible refine Kd.C_drew ?_))); (case side4 => exact HC1_2.out); rintro e w' ⟨rfl, ⟨nd, rfl⟩⟩; (try first | exact ⟨rfl, _, World.drewN_drewN _ _ _⟩ | exact ⟨rfl, _, Eq.trans (World.drewN_drewN _ _ _) (congrArg (World.drewN _) (Nat.add_assoc _ _ _))⟩))))
              go_ret
              exact ⟨by first | rfl | (simp [errW_none, errW_some] <;> rfl) | (simp [*, errW_none, errW_some] <;> rfl), by repeat (first | (with_reducible first | exact HB.out | apply below_alloc | apply pw_below_drewN | apply below_drew1 | refine below_set ?_ GE284.out | refine below_set ?_ GE285.out) | exact HB.out)⟩
            · rw [if_neg c20] at H
              have c20b0 : (a0_1.toList == a1_1.toList) = false := beq_eq_false_iff_ne.mpr c20
              have c20b1 : (a0_1.toList != a1_1.toList) = true := bne_iff_ne.mpr c20
              obtain rfl := Option.some.inj H
              have hnb25 := NB284_285.out
              have hnc25 := NB285_284.out
              have hcz26_0 : wr.cell? ⟨gb284, 0, none⟩ = some (.int .i64 a0_0) := (blk_cell BK284.out 0).trans rfl
              have hcz26_1 : wr.cell? ⟨gb284, 1, none⟩ = some (.string a0_1) := (blk_cell BK284.out 1).trans rfl
              have hcz26_2 : wr.cell? ⟨gb284, 2, none⟩ = some (.slice A0_2 l0_2.length c0_2) := (blk_cell BK284.out 2).trans rfl
              have hcz26_3 : wr.cell? ⟨gb284, 3, none⟩ = some (.slice A0_3 l0_3.length c0_3) := (blk_cell BK284.out 3).trans rfl
              have hfz26_0 := blk_frozen BK284.out 0
              have hfz26_1 := blk_frozen BK284.out 1
              have hfz26_2 := blk_frozen BK284.out 2
              have hfz26_3 := blk_frozen BK284.out 3
              have hcz27_0 : wr.cell? ⟨gb285, 0, none⟩ = some (.int .i64 a1_0) := (blk_cell BK285.out 0).trans rfl
              have hcz27_1 : wr.cell? ⟨gb285, 1, none⟩ = some (.string a1_1) := (blk_cell BK285.out 1).trans rfl
              have hcz27_2 : wr.cell? ⟨gb285, 2, none⟩ = some (.slice A1_2 l1_2.length c1_2) := (blk_cell BK285.out 2).trans rfl
              have hcz27_3 : wr.cell? ⟨gb285, 3, none⟩ = some (.slice A1_3 l1_3.length c1_3) := (blk_cell BK285.out 3).trans rfl
              have hfz27_0 := blk_frozen BK285.out 0
              have hfz27_1 := blk_frozen BK285.out 1
              have hfz27_2 := blk_frozen BK285.out 2
              have hfz27_3 := blk_frozen BK285.out 3
              go_wp2
              repeat (go_quiet (fail); try go_wp2)
              go_ret
              exact ⟨by first | rfl | (simp [errW_none, errW_some] <;> rfl) | (simp [*, errW_none, errW_some] <;> rfl), by repeat (first | (with_reducible first | exact HB.out | apply below_alloc | apply pw_below_drewN | apply below_drew1 | refine below_set ?_ GE284.out | refine below_set ?_ GE285.out) | exact HB.out)⟩
          · rw [if_neg c19] at H
            have c19b0 : (a0_0 == a1_0) = false := beq_eq_false_iff_ne.mpr c19
            have c19b1 : (a0_0 != a1_0) = true := bne_iff_ne.mpr c19
            obtain rfl := Option.some.inj H
            have hnb28 := NB284_285.out
            have hnc28 := NB285_284.out
            have hcz29_0 : wr.cell? ⟨gb284, 0, none⟩ = some (.int .i64 a0_0) := (blk_cell BK284.out 0).trans rfl
            have hcz29_1 : wr.cell? ⟨gb284, 1, none⟩ = some (.string a0_1) := (blk_cell BK284.out 1).trans rfl
            have hcz29_2 : wr.cell? ⟨gb284, 2, none⟩ = some (.slice A0_2 l0_2.length c0_2) := (blk_cell BK284.out 2).trans rfl
            have hcz29_3 : wr.cell? ⟨gb284, 3, none⟩ = some (.slice A0_3 l0_3.length c0_3) := (blk_cell BK284.out 3).trans rfl
            have hfz29_0 := blk_frozen BK284.out 0
            have hfz29_1 := blk_frozen BK284.out 1
            have hfz29_2 := blk_frozen BK284.out 2
            have hfz29_3 := blk_frozen BK284.out 3
            have hcz30_0 : wr.cell? ⟨gb285, 0, none⟩ = some (.int .i64 a1_0) := (blk_cell BK285.out 0).trans rfl
            have hcz30_1 : wr.cell? ⟨gb285, 1, none⟩ = some (.string a1_1) := (blk_cell BK285.out 1).trans rfl
            have hcz30_2 : wr.cell? ⟨gb285, 2, none⟩ = some (.slice A1_2 l1_2.length c1_2) := (blk_cell BK285.out 2).trans rfl
            have hcz30_3 : wr.cell? ⟨gb285, 3, none⟩ = some (.slice A1_3 l1_3.length c1_3) := (blk_cell BK285.out 3).trans rfl
            have hfz30_0 := blk_frozen BK285.out 0
            have hfz30_1 := blk_frozen BK285.out 1
            have hfz30_2 := blk_frozen BK285.out 2
            have hfz30_3 := blk_frozen BK285.out 3
            go_wp2
            repeat (go_quiet (fail); try go_wp2)
            go_ret
            exact ⟨by first | rfl | (simp [errW_none, errW_some] <;> rfl) | (simp [*, errW_none, errW_some] <;> rfl), by repeat (first | (with_reducible first | exact HB.out | apply below_alloc | apply pw_below_drewN | apply below_drew1 | refine below_set ?_ GE284.out | refine below_set ?_ GE285.out) | exact HB.out)⟩
  · rw [if_neg c3] at H
    have c3b0 : ((l0_3.length : Int) == (l1_3.length : Int)) = false := beq_eq_false_iff_ne.mpr c3
    have c3b1 : ((l0_3.length : Int) != (l1_3.length : Int)) = true := bne_iff_ne.mpr c3
    have c3b2 : (l0_3.length == l1_3.length) = false := by first | simpa using c3 | (simp at c3 ⊢; omega)
    obtain rfl := Option.some.inj H
    go_enter Try.func13, Try.ntmps13
    go_wp2_with (first | ((with_reducible refine gate_dst (N := 2) rfl ?_); refine box_event ?hg (N := 2) ?hd (cs := #[.int .i64 a0_0, .string a0_1, .slice A0_2 l0_2.length c0_2, .slice A0_3 l0_3.length c0_3]) (t := 28) ?hr ?_; (case hd => rfl); (case hg => rfl); (case hr => first | (go_simp; done) | (go_simp; rfl)); intro gb284 hg w31 hbox hb; have n0_ := Aside0.mk (below_step (by repeat (first | (with_reducible first | exact HB.out | apply below_alloc | apply pw_below_drewN | apply below_drew1) | exact HB.out)) hb); have n1_ := Aside0.mk (hbox); have n2_ := Aside0.mk ((by rw [hg]; exact (below_size (by repeat (first | (with_reducible first | exact HB.out | apply below_alloc | apply pw_below_drewN | apply below_drew1) | exact HB.out))) : w.heap.size ≤ gb284)); have n3_ := Aside0.mk ((by rw [hg]; exact (below_size (by repeat (first | (with_reducible first | exact HB.out | apply below_alloc | apply pw_below_drewN | apply below_drew1) | exact HB.out))) : w.heap.size ≤ gb284)); clear HB; have HB := n0_; have BK284 := n1_; have GW284 := n2_; have GE284 := n3_; clear n0_ n1_ n2_ n3_; clear hb hbox hg) | ((with_reducible refine gate_dst (N := 3) rfl ?_); refine box_event ?hg (N := 3) ?hd (cs := #[.int .i64 a1_0, .string a1_1, .slice A1_2 l1_2.length c1_2, .slice A1_3 l1_3.length c1_3]) (t := 28) ?hr ?_; (case hd => rfl); (case hg => rfl); (case hr => first | (go_simp; done) | (go_simp; rfl)); intro gb285 hg w32 hbox hb; have n0_ := Aside0.mk (blk_below (g := gb284) (o := .cells #[.int .i64 a0_0, .string a0_1, .slice A0_2 l0_2.length c0_2, .slice A0_3 l0_3.length c0_3] 28 (0, 0)) (by (with_reducible repeat (first | refine blk_drewN ?_ _ | refine blk_drew ?_ | refine blk_alloc ?_ _)); exact BK284.out) hb); have n1_ := Aside0.mk (below_step (by repeat (first | (with_reducible first | exact HB.out | apply below_alloc | apply pw_below_drewN | apply below_drew1 | refine below_set ?_ GE284.out) | exact HB.out)) hb); have n2_ := Aside0.mk (hbox); have n3_ := Aside0.mk ((by rw [hg]; exact (below_size (by repeat (first | (with_reducible first | exact HB.out | apply below_alloc | apply pw_below_drewN | apply below_drew1 | refine below_set ?_ GE284.out) | exact HB.out))) : w.heap.size ≤ gb285)); have n4_ := Aside0.mk ((by rw [hg]; exact (below_size (by repeat (first | (with_reducible first | exact HB.out | apply below_alloc | apply pw_below_drewN | apply below_drew1 | refine below_set ?_ GE284.out) | exact HB.out))) : w.heap.size ≤ gb285)); have n5_ := Aside0.mk ((by rw [hg]; exact Nat.ne_of_lt (blk_lt (g := gb284) (o := .cells #[.int .i64 a0_0, .string a0_1, .slice A0_2 l0_2.length c0_2, .slice A0_3 l0_3.length c0_3] 28 (0, 0)) (by (with_reducible repeat (first | refine blk_drewN ?_ _ | refine blk_drew ?_ | refine blk_alloc ?_ _)); exact BK284.out)) : gb284 ≠ gb285)); have n6_ := Aside0.mk ((by rw [hg]; exact Nat.ne_of_gt (blk_lt (g := gb284) (o := .cells #[.int .i64 a0_0, .string a0_1, .slice A0_2 l0_2.length c0_2, .slice A0_3 l0_3.length c0_3] 28 (0, 0)) (by (with_reducible repeat (first | refine blk_drewN ?_ _ | refine blk_drew ?_ | refine blk_alloc ?_ _)); exact BK284.out)) : gb285 ≠ gb284)); clear BK284; clear HB; have BK284 := n0_; have HB := n1_; have BK285 := n2_; have GW285 := n3_; have GE285 := n4_; have NB284_285 := n5_; have NB285_284 := n6_; clear n0_ n1_ n2_ n3_ n4_ n5_ n6_; clear hb hbox hg; have hnb33 := NB284_285.out; have hnc33 := NB285_284.out; have hcz34_0 : w32.cell? ⟨gb284, 0, none⟩ = some (.int .i64 a0_0) := (blk_cell BK284.out 0).trans rfl; have hcz34_1 : w32.cell? ⟨gb284, 1, none⟩ = some (.string a0_1) := (blk_cell BK284.out 1).trans rfl; have hcz34_2 : w32.cell? ⟨gb284, 2, none⟩ = some (.slice A0_2 l0_2.length c0_2) := (blk_cell BK284.out 2).trans rfl; have hcz34_3 : w32.cell? ⟨gb284, 3, none⟩ = some (.slice A0_3 l0_3.length c0_3) := (blk_cell BK284.out 3).trans rfl; have hfz34_0 := blk_frozen BK284.out 0; have hfz34_1 := blk_frozen BK284.out 1; have hfz34_2 := blk_frozen BK284.out 2; have hfz34_3 := blk_frozen BK284.out 3; have hcz35_0 : w32.cell? ⟨gb285, 0, none⟩ = some (.int .i64 a1_0) := (blk_cell BK285.out 0).trans rfl; have hcz35_1 : w32.cell? ⟨gb285, 1, none⟩ = some (.string a1_1) := (blk_cell BK285.out 1).trans rfl; have hcz35_2 : w32.cell? ⟨gb285, 2, none⟩ = some (.slice A1_2 l1_2.length c1_2) := (blk_cell BK285.out 2).trans rfl; have hcz35_3 : w32.cell? ⟨gb285, 3, none⟩ = some (.slice A1_3 l1_3.length c1_3) := (blk_cell BK285.out 3).trans rfl; have hfz35_0 := blk_frozen BK285.out 0; have hfz35_1 := blk_frozen BK285.out 1; have hfz35_2 := blk_frozen BK285.out 2; have hfz35_3 := blk_frozen BK285.out 3))
    repeat (go_quiet (first | ((with_reducible refine gate_dst (N := 2) rfl ?_); refine box_event ?hg (N := 2) ?hd (cs := #[.int .i64 a0_0, .string a0_1, .slice A0_2 l0_2.length c0_2, .slice A0_3 l0_3.length c0_3]) (t := 28) ?hr ?_; (case hd => rfl); (case hg => rfl); (case hr => first | (go_simp; done) | (go_simp; rfl)); intro gb284 hg w31 hbox hb; have n0_ := Aside0.mk (below_step (by repeat (first | (with_reducible first | exact HB.out | apply below_alloc | apply pw_below_drewN | apply below_drew1) | exact HB.out)) hb); have n1_ := Aside0.mk (hbox); have n2_ := Aside0.mk ((by rw [hg]; exact (below_size (by repeat (first | (with_reducible first | exact HB.out | apply below_alloc | apply pw_below_drewN | apply below_drew1) | exact HB.out))) : w.heap.size ≤ gb284)); have n3_ := Aside0.mk ((by rw [hg]; exact (below_size (by repeat (first | (with_reducible first | exact HB.out | apply below_alloc | apply pw_below_drewN | apply below_drew1) | exact HB.out))) : w.heap.size ≤ gb284)); clear HB; have HB := n0_; have BK284 := n1_; have GW284 := n2_; have GE284 := n3_; clear n0_ n1_ n2_ n3_; clear hb hbox hg) | ((with_reducible refine gate_dst (N := 3) rfl ?_); refine box_event ?hg (N := 3) ?hd (cs := #[.int .i64 a1_0, .string a1_1, .slice A1_2 l1_2.length c1_2, .slice A1_3 l1_3.length c1_3]) (t := 28) ?hr ?_; (case hd => rfl); (case hg => rfl); (case hr => first | (go_simp; done) | (go_simp; rfl)); intro gb285 hg w32 hbox hb; have n0_ := Aside0.mk (blk_below (g := gb284) (o := .cells #[.int .i64 a0_0, .string a0_1, .slice A0_2 l0_2.length c0_2, .slice A0_3 l0_3.length c0_3] 28 (0, 0)) (by (with_reducible repeat (first | refine blk_drewN ?_ _ | refine blk_drew ?_ | refine blk_alloc ?_ _)); exact BK284.out) hb); have n1_ := Aside0.mk (below_step (by repeat (first | (with_reducible first | exact HB.out | apply below_alloc | apply pw_below_drewN | apply below_drew1 | refine below_set ?_ GE284.out) | exact HB.out)) hb); have n2_ := Aside0.mk (hbox); have n3_ := Aside0.mk ((by rw [hg]; exact (below_size (by repeat (first | (with_reducible first | exact HB.out | apply below_alloc | apply pw_below_drewN | apply below_drew1 | refine below_set ?_ GE284.out) | exact HB.out))) : w.heap.size ≤ gb285)); have n4_ := Aside0.mk ((by rw [hg]; exact (below_size (by repeat (first | (with_reducible first | exact HB.out | apply below_alloc | apply pw_below_drewN | apply below_drew1 | refine below_set ?_ GE284.out) | exact HB.out))) : w.heap.size ≤ gb285)); have n5_ := Aside0.mk ((by rw [hg]; exact Nat.ne_of_lt (blk_lt (g := gb284) (o := .cells #[.int .i64 a0_0, .string a0_1, .slice A0_2 l0_2.length c0_2, .slice A0_3 l0_3.length c0_3] 28 (0, 0)) (by (with_reducible repeat (first | refine blk_drewN ?_ _ | refine blk_drew ?_ | refine blk_alloc ?_ _)); exact BK284.out)) : gb284 ≠ gb285)); have n6_ := Aside0.mk ((by rw [hg]; exact Nat.ne_of_gt (blk_lt (g := gb284) (o := .cells #[.int .i64 a0_0, .string a0_1, .slice A0_2 l0_2.length c0_2, .slice A0_3 l0_3.length c0_3] 28 (0, 0)) (by (with_reducible repeat (first | refine blk_drewN ?_ _ | refine blk_drew ?_ | refine blk_alloc ?_ _)); exact BK284.out)) : gb285 ≠ gb284)); clear BK284; clear HB; have BK284 := n0_; have HB := n1_; have BK285 := n2_; have GW285 := n3_; have GE285 := n4_; have NB284_285 := n5_; have NB285_284 := n6_; clear n0_ n1_ n2_ n3_ n4_ n5_ n6_; clear hb hbox hg; have hnb33 := NB284_285.out; have hnc33 := NB285_284.out; have hcz34_0 : w32.cell? ⟨gb284, 0, none⟩ = some (.int .i64 a0_0) := (blk_cell BK284.out 0).trans rfl; have hcz34_1 : w32.cell? ⟨gb284, 1, none⟩ = some (.string a0_1) := (blk_cell BK284.out 1).trans rfl; have hcz34_2 : w32.cell? ⟨gb284, 2, none⟩ = some (.slice A0_2 l0_2.length c0_2) := (blk_cell BK284.out 2).trans rfl; have hcz34_3 : w32.cell? ⟨gb284, 3, none⟩ = some (.slice A0_3 l0_3.length c0_3) := (blk_cell BK284.out 3).trans rfl; have hfz34_0 := blk_frozen BK284.out 0; have hfz34_1 := blk_frozen BK284.out 1; have hfz34_2 := blk_frozen BK284.out 2; have hfz34_3 := blk_frozen BK284.out 3; have hcz35_0 : w32.cell? ⟨gb285, 0, none⟩ = some (.int .i64 a1_0) := (blk_cell BK285.out 0).trans rfl; have hcz35_1 : w32.cell? ⟨gb285, 1, none⟩ = some (.string a1_1) := (blk_cell BK285.out 1).trans rfl; have hcz35_2 : w32.cell? ⟨gb285, 2, none⟩ = some (.slice A1_2 l1_2.length c1_2) := (blk_cell BK285.out 2).trans rfl; have hcz35_3 : w32.cell? ⟨gb285, 3, none⟩ = some (.slice A1_3 l1_3.length c1_3) := (blk_cell BK285.out 3).trans rfl; have hfz35_0 := blk_frozen BK285.out 0; have hfz35_1 := blk_frozen BK285.out 1; have hfz35_2 := blk_frozen BK285.out 2; have hfz35_3 := blk_frozen BK285.out 3)); try go_wp2_with (first | ((with_reducible refine gate_dst (N := 2) rfl ?_); refine box_event ?hg (N := 2) ?hd (cs := #[.int .i64 a0_0, .string a0_1, .slice A0_2 l0_2.length c0_2, .slice A0_3 l0_3.length c0_3]) (t := 28) ?hr ?_; (case hd => rfl); (case hg => rfl); (case hr => first | (go_simp; done) | (go_simp; rfl)); intro gb284 hg w31 hbox hb; have n0_ := Aside0.mk (below_step (by repeat (first | (with_reducible first | exact HB.out | apply below_alloc | apply pw_below_drewN | apply below_drew1) | exact HB.out)) hb); have n1_ := Aside0.mk (hbox); have n2_ := Aside0.mk ((by rw [hg]; exact (below_size (by repeat (first | (with_reducible first | exact HB.out | apply below_alloc | apply pw_below_drewN | apply below_drew1) | exact HB.out))) : w.heap.size ≤ gb284)); have n3_ := Aside0.mk ((by rw [hg]; exact (below_size (by repeat (first | (with_reducible first | exact HB.out | apply below_alloc | apply pw_below_drewN | apply below_drew1) | exact HB.out))) : w.heap.size ≤ gb284)); clear HB; have HB := n0_; have BK284 := n1_; have GW284 := n2_; have GE284 := n3_; clear n0_ n1_ n2_ n3_; clear hb hbox hg) | ((with_reducible refine gate_dst (N := 3) rfl ?_); refine box_event ?hg (N := 3) ?hd (cs := #[.int .i64 a1_0, .string a1_1, .slice A1_2 l1_2.length c1_2, .slice A1_3 l1_3.length c1_3]) (t := 28) ?hr ?_; (case hd => rfl); (case hg => rfl); (case hr => first | (go_simp; done) | (go_simp; rfl)); intro gb285 hg w32 hbox hb; have n0_ := Aside0.mk (blk_below (g := gb284) (o := .cells #[.int .i64 a0_0, .string a0_1, .slice A0_2 l0_2.length c0_2, .slice A0_3 l0_3.length c0_3] 28 (0, 0)) (by (with_reducible repeat (first | refine blk_drewN ?_ _ | refine blk_drew ?_ | refine blk_alloc ?_ _)); exact BK284.out) hb); have n1_ := Aside0.mk (below_step (by repeat (first | (with_reducible first | exact HB.out | apply below_alloc | apply pw_below_drewN | apply below_drew1 | refine below_set ?_ GE284.out) | exact HB.out)) hb); have n2_ := Aside0.mk (hbox); have n3_ := Aside0.mk ((by rw [hg]; exact (below_size (by repeat (first | (with_reducible first | exact HB.out | apply below_alloc | apply pw_below_drewN | apply below_drew1 | refine below_set ?_ GE284.out) | exact HB.out))) : w.heap.size ≤ gb285)); have n4_ := Aside0.mk ((by rw [hg]; exact (below_size (by repeat (first | (with_reducible first | exact HB.out | apply below_alloc | apply pw_below_drewN | apply below_drew1 | refine below_set ?_ GE284.out) | exact HB.out))) : w.heap.size ≤ gb285)); have n5_ := Aside0.mk ((by rw [hg]; exact Nat.ne_of_lt (blk_lt (g := gb284) (o := .cells #[.int .i64 a0_0, .string a0_1, .slice A0_2 l0_2.length c0_2, .slice A0_3 l0_3.length c0_3] 28 (0, 0)) (by (with_reducible repeat (first | refine blk_drewN ?_ _ | refine blk_drew ?_ | refine blk_alloc ?_ _)); exact BK284.out)) : gb284 ≠ gb285)); have n6_ := Aside0.mk ((by rw [hg]; exact Nat.ne_of_gt (blk_lt (g := gb284) (o := .cells #[.int .i64 a0_0, .string a0_1, .slice A0_2 l0_2.length c0_2, .slice A0_3 l0_3.length c0_3] 28 (0, 0)) (by (with_reducible repeat (first | refine blk_drewN ?_ _ | refine blk_drew ?_ | refine blk_alloc ?_ _)); exact BK284.out)) : gb285 ≠ gb284)); clear BK284; clear HB; have BK284 := n0_; have HB := n1_; have BK285 := n2_; have GW285 := n3_; have GE285 := n4_; have NB284_285 := n5_; have NB285_284 := n6_; clear n0_ n1_ n2_ n3_ n4_ n5_ n6_; clear hb hbox hg; have hnb33 := NB284_285.out; have hnc33 := NB285_284.out; have hcz34_0 : w32.cell? ⟨gb284, 0, none⟩ = some (.int .i64 a0_0) := (blk_cell BK284.out 0).trans rfl; have hcz34_1 : w32.cell? ⟨gb284, 1, none⟩ = some (.string a0_1) := (blk_cell BK284.out 1).trans rfl; have hcz34_2 : w32.cell? ⟨gb284, 2, none⟩ = some (.slice A0_2 l0_2.length c0_2) := (blk_cell BK284.out 2).trans rfl; have hcz34_3 : w32.cell? ⟨gb284, 3, none⟩ = some (.slice A0_3 l0_3.length c0_3) := (blk_cell BK284.out 3).trans rfl; have hfz34_0 := blk_frozen BK284.out 0; have hfz34_1 := blk_frozen BK284.out 1; have hfz34_2 := blk_frozen BK284.out 2; have hfz34_3 := blk_frozen BK284.out 3; have hcz35_0 : w32.cell? ⟨gb285, 0, none⟩ = some (.int .i64 a1_0) := (blk_cell BK285.out 0).trans rfl; have hcz35_1 : w32.cell? ⟨gb285, 1, none⟩ = some (.string a1_1) := (blk_cell BK285.out 1).trans rfl; have hcz35_2 : w32.cell? ⟨gb285, 2, none⟩ = some (.slice A1_2 l1_2.length c1_2) := (blk_cell BK285.out 2).trans rfl; have hcz35_3 : w32.cell? ⟨gb285, 3, none⟩ = some (.slice A1_3 l1_3.length c1_3) := (blk_cell BK285.out 3).trans rfl; have hfz35_0 := blk_frozen BK285.out 0; have hfz35_1 := blk_frozen BK285.out 1; have hfz35_2 := blk_frozen BK285.out 2; have hfz35_3 := blk_frozen BK285.out 3)))
    go_ret
    exact ⟨by first | rfl | (simp [errW_none, errW_some] <;> rfl) | (simp [*, errW_none, errW_some] <;> rfl), by repeat (first | (with_reducible first | exact HB.out | apply below_alloc | apply pw_below_drewN | apply below_drew1 | refine below_set ?_ GE284.out | refine below_set ?_ GE285.out) | exact HB.out)⟩
end Go.Proofs.Ytfaiplbogchgjaa.PA
end
section
namespace Go.Proofs.Ytfaiplbogchgjaa.PA
open Go.RowKit Go.Proofs.YtfaiplbogchgjaaW.PrintWords Go.Proofs.YtfaiplbogchgjaaW.PrintLast Go.Proofs.YtfaiplbogchgjaaW.PrintMore
attribute [local go_sem] max2_int min2_int max_two min_two max_three min_three max_four min_four   -- for this text's walks alone
set_option linter.unusedVariables false
set_option linter.unusedSimpArgs false
def cmp_isNaN_int.f (a0 : Int) : Option (Bool) := some (a0 != a0)
set_option maxHeartbeats 8000000 in
set_option maxRecDepth 100000 in
theorem cmp_isNaN_int.calls (a0 : Int) (r : Bool) (w : World) (h : cmp_isNaN_int.f a0 = some r) :
    Calls Try.prog 69 #[.int .i64 a0] w fun e w' => e = .returned (.bool r) ∧ Drawn0 w w' := by
  have H : (some (a0 != a0)) = some r := h
  clear h
  obtain rfl := Option.some.inj H
  go_enter Try.func69, Try.ntmps69
  go_wp2
  go_ret
  exact ⟨by first | rfl | (simp; done) | (simp [*]; done), by repeat (first | exact Drawn0.refl _ | apply Drawn0.step)⟩
def cmp_Compare_int.f (a0 : Int) (a1 : Int) : Option (Int) := (cmp_isNaN_int.f a0).bind fun t136 => ((cmp_isNaN_int.f a1).bind fun t137 => (if t136 = true then (if t137 = true then (some 0) else (some (-1))) else (if t137 = true then (some 1) else (if a0 < a1 then (some (-1)) else (if a0 > a1 then (some 1) else (some 0))))))
set_option maxHeartbeats 8000000 in
set_option maxRecDepth 100000 in
theorem cmp_Compare_int.calls (a0 : Int) (a1 : Int) (r : Int) (w : World) (h : cmp_Compare_int.f a0 a1 = some r) :
    Calls Try.prog 53 #[.int .i64 a0, .int .i64 a1] w fun e w' => e = .returned (.int .i64 r) ∧ Drawn0 w w' := by
  have H : ((cmp_isNaN_int.f a0).bind fun t136 => ((cmp_isNaN_int.f a1).bind fun t137 => (if t136 = true then (if t137 = true then (some 0) else (some (-1))) else (if t137 = true then (some 1) else (if a0 < a1 then (some (-1)) else (if a0 > a1 then (some 1) else (some 0))))))) = some r := h
  clear h
  replace H := Option.bind_eq_some_iff.mp H
  obtain ⟨t136, A30, H⟩ := H
  replace H : ((cmp_isNaN_int.f a1).bind fun t137 => (if t136 = true then (if t137 = true then (some 0) else (some (-1))) else (if t137 = true then (some 1) else (if a0 < a1 then (some (-1)) else (if a0 > a1 then (some 1) else (some 0)))))) = some r := H
  have A3 := Aside0.mk A30
  clear A30
  replace H := Option.bind_eq_some_iff.mp H
  obtain ⟨t137, A40, H⟩ := H
  replace H : (if t136 = true then (if t137 = true then (some 0) else (some (-1))) else (if t137 = true then (some 1) else (if a0 < a1 then (some (-1)) else (if a0 > a1 then (some 1) else (some 0))))) = some r := H
  have A4 := Aside0.mk A40
  clear A40
  by_cases c5 : t136 = true
  · subst c5
    have H1 : (if t137 = true then (some 0) else (some (-1))) = some r := by rw [if_pos rfl] at H; exact H
    clear H
    have H := H1
    clear H1
    by_cases c6 : t137 = true
    · subst c6
      have H1 : (some 0) = some r := by rw [if_pos rfl] at H; exact H
      clear H
      have H := H1
      clear H1
      obtain rfl := Option.some.inj H
      go_enter Try.func53, Try.ntmps53
      go_wp2_with (first | ((with_reducible refine gate_callee (f := 69) rfl ?_); refine goesL_ (some 8) rfl rfl Try.func69 (by kernel_rfl) rfl #[.int .i64 a0] rfl (by (try simp only [List.map_toArray, List.map_cons, List.map_nil]); first | done | rfl | (simp only [List.length_drop, List.length_take]; rfl)) ?_; (with_reducible refine (cmp_isNaN_int.calls a0 true _ A3.out).mono ?_); rintro e w' ⟨rfl, ⟨nd, rfl⟩⟩; refine ⟨_, rfl, ?_⟩) | ((with_reducible refine gate_callee (f := 69) rfl ?_); refine goesL_ (some 10) rfl rfl Try.func69 (by kernel_rfl) rfl #[.int .i64 a1] rfl (by (try simp only [List.map_toArray, List.map_cons, List.map_nil]); first | done | rfl | (simp only [List.length_drop, List.length_take]; rfl)) ?_; (with_reducible refine (cmp_isNaN_int.calls a1 true _ A4.out).mono ?_); rintro e w' ⟨rfl, ⟨nd, rfl⟩⟩; refine ⟨_, rfl, ?_⟩))
      go_ret
      exact ⟨by first | rfl | (simp; done) | (simp [*]; done), by repeat (first | exact Drawn0.refl _ | apply Drawn0.step)⟩
    · replace c6 := Bool.eq_false_iff.mpr c6
      subst c6
      have H1 : (some (-1)) = some r := by rw [if_neg (show ¬ (false = true) by decide)] at H; exact H
      clear H
      have H := H1
      clear H1
      obtain rfl := Option.some.inj H
      go_enter Try.func53, Try.ntmps53
      go_wp2_with (first | ((with_reducible refine gate_callee (f := 69) rfl ?_); refine goesL_ (some 8) rfl rfl Try.func69 (by kernel_rfl) rfl #[.int .i64 a0] rfl (by (try simp only [List.map_toArray, List.map_cons, List.map_nil]); first | done | rfl | (simp only [List.length_drop, List.length_take]; rfl)) ?_; (with_reducible refine (cmp_isNaN_int.calls a0 true _ A3.out).mono ?_); rintro e w' ⟨rfl, ⟨nd, rfl⟩⟩; refine ⟨_, rfl, ?_⟩) | ((with_reducible refine gate_callee (f := 69) rfl ?_); refine goesL_ (some 10) rfl rfl Try.func69 (by kernel_rfl) rfl #[.int .i64 a1] rfl (by (try simp only [List.map_toArray, List.map_cons, List.map_nil]); first | done | rfl | (simp only [List.length_drop, List.length_take]; rfl)) ?_; (with_reducible refine (cmp_isNaN_int.calls a1 false _ A4.out).mono ?_); rintro e w' ⟨rfl, ⟨nd, rfl⟩⟩; refine ⟨_, rfl, ?_⟩))
      go_ret
      exact ⟨by first | rfl | (simp; done) | (simp [*]; done), by repeat (first | exact Drawn0.refl _ | apply Drawn0.step)⟩
  · replace c5 := Bool.eq_false_iff.mpr c5
    subst c5
    have H1 : (if t137 = true then (some 1) else (if a0 < a1 then (some (-1)) else (if a0 > a1 then (some 1) else (some 0)))) = some r := by rw [if_neg (show ¬ (false = true) by decide)] at H; exact H
    clear H
    have H := H1
    clear H1
    by_cases c7 : t137 = true
    · subst c7
      have H1 : (some 1) = some r := by rw [if_pos rfl] at H; exact H
      clear H
      have H := H1
      clear H1
      obtain rfl := Option.some.inj H
      go_enter Try.func53, Try.ntmps53
      go_wp2_with (first | ((with_reducible refine gate_callee (f := 69) rfl ?_); refine goesL_ (some 8) rfl rfl Try.func69 (by kernel_rfl) rfl #[.int .i64 a0] rfl (by (try simp only [List.map_toArray, List.map_cons, List.map_nil]); first | done | rfl | (simp only [List.length_drop, List.length_take]; rfl)) ?_; (with_reducible refine (cmp_isNaN_int.calls a0 false _ A3.out).mono ?_); rintro e w' ⟨rfl, ⟨nd, rfl⟩⟩; refine ⟨_, rfl, ?_⟩) | ((with_reducible refine gate_callee (f := 69) rfl ?_); refine goesL_ (some 10) rfl rfl Try.func69 (by kernel_rfl) rfl #[.int .i64 a1] rfl (by (try simp only [List.map_toArray, List.map_cons, List.map_nil]); first | done | rfl | (simp only [List.length_drop, List.length_take]; rfl)) ?_; (with_reducible refine (cmp_isNaN_int.calls a1 true _ A4.out).mono ?_); rintro e w' ⟨rfl, ⟨nd, rfl⟩⟩; refine ⟨_, rfl, ?_⟩))
      go_ret
      exact ⟨by first | rfl | (simp; done) | (simp [*]; done), by repeat (first | exact Drawn0.refl _ | apply Drawn0.step)⟩
    · replace c7 := Bool.eq_false_iff.mpr c7
      subst c7
      have H1 : (if a0 < a1 then (some (-1)) else (if a0 > a1 then (some 1) else (some 0))) = some r := by rw [if_neg (show ¬ (false = true) by decide)] at H; exact H
      clear H
      have H := H1
      clear H1
      by_cases c8 : a0 < a1
      · rw [if_pos c8] at H
        have c8b0 : decide (a0 < a1) = true := decide_eq_true c8
        clear c8
        obtain rfl := Option.some.inj H
        go_enter Try.func53, Try.ntmps53
        go_wp2_with (first | ((with_reducible refine gate_callee (f := 69) rfl ?_); refine goesL_ (some 8) rfl rfl Try.func69 (by kernel_rfl) rfl #[.int .i64 a0] rfl (by (try simp only [List.map_toArray, List.map_cons, List.map_nil]); first | done | rfl | (simp only [List.length_drop, List.length_take]; rfl)) ?_; (with_reducible refine (cmp_isNaN_int.calls a0 false _ A3.out).mono ?_); rintro e w' ⟨rfl, ⟨nd, rfl⟩⟩; refine ⟨_, rfl, ?_⟩) | ((with_reducible refine gate_callee (f := 69) rfl ?_); refine goesL_ (some 10) rfl rfl Try.func69 (by kernel_rfl) rfl #[.int .i64 a1] rfl (by (try simp only [List.map_toArray, List.map_cons, List.map_nil]); first | done | rfl | (simp only [List.length_drop, List.length_take]; rfl)) ?_; (with_reducible refine (cmp_isNaN_int.calls a1 false _ A4.out).mono ?_); rintro e w' ⟨rfl, ⟨nd, rfl⟩⟩; refine ⟨_, rfl, ?_⟩))
        go_ret
        exact ⟨by first | rfl | (simp; done) | (simp [*]; done), by repeat (first | exact Drawn0.refl _ | apply Drawn0.step)⟩
      · rw [if_neg c8] at H
        have c8b0 : decide (a0 < a1) = false := decide_eq_false c8
        clear c8
        by_cases c9 : a0 > a1
        · rw [if_pos c9] at H
          have c9b0 : decide (a1 < a0) = true := decide_eq_true c9
          clear c9
          obtain rfl := Option.some.inj H
          go_enter Try.func53, Try.ntmps53
          go_wp2_with (first | ((with_reducible refine gate_callee (f := 69) rfl ?_); refine goesL_ (some 8) rfl rfl Try.func69 (by kernel_rfl) rfl #[.int .i64 a0] rfl (by (try simp only [List.map_toArray, List.map_cons, List.map_nil]); first | done | rfl | (simp only [List.length_drop, List.length_take]; rfl)) ?_; (with_reducible refine (cmp_isNaN_int.calls a0 false _ A3.out).mono ?_); rintro e w' ⟨rfl, ⟨nd, rfl⟩⟩; refine ⟨_, rfl, ?_⟩) | ((with_reducible refine gate_callee (f := 69) rfl ?_); refine goesL_ (some 10) rfl rfl Try.func69 (by kernel_rfl) rfl #[.int .i64 a1] rfl (by (try simp only [List.map_toArray, List.map_cons, List.map_nil]); first | done | rfl | (simp only [List.length_drop, List.length_take]; rfl)) ?_; (with_reducible refine (cmp_isNaN_int.calls a1 false _ A4.out).mono ?_); rintro e w' ⟨rfl, ⟨nd, rfl⟩⟩; refine ⟨_, rfl, ?_⟩))
          go_ret
          exact ⟨by first | rfl | (simp; done) | (simp [*]; done), by repeat (first | exact Drawn0.refl _ | apply Drawn0.step)⟩
        · rw [if_neg c9] at H
          have c9b0 : decide (a1 < a0) = false := decide_eq_false c9
          clear c9
          obtain rfl := Option.some.inj H
          go_enter Try.func53, Try.ntmps53
          go_wp2_with (first | ((with_reducible refine gate_callee (f := 69) rfl ?_); refine goesL_ (some 8) rfl rfl Try.func69 (by kernel_rfl) rfl #[.int .i64 a0] rfl (by (try simp only [List.map_toArray, List.map_cons, List.map_nil]); first | done | rfl | (simp only [List.length_drop, List.length_take]; rfl)) ?_; (with_reducible refine (cmp_isNaN_int.calls a0 false _ A3.out).mono ?_); rintro e w' ⟨rfl, ⟨nd, rfl⟩⟩; refine ⟨_, rfl, ?_⟩) | ((with_reducible refine gate_callee (f := 69) rfl ?_); refine goesL_ (some 10) rfl rfl Try.func69 (by kernel_rfl) rfl #[.int .i64 a1] rfl (by (try simp only [List.map_toArray, List.map_cons, List.map_nil]); first | done | rfl | (simp only [List.length_drop, List.length_take]; rfl)) ?_; (with_reducible refine (cmp_isNaN_int.calls a1 false _ A4.out).mono ?_); rintro e w' ⟨rfl, ⟨nd, rfl⟩⟩; refine ⟨_, rfl, ?_⟩))
          go_ret
          exact ⟨by first | rfl | (simp; done) | (simp [*]; done), by repeat (first | exact Drawn0.refl _ | apply Drawn0.step)⟩
def cmp_isNaN_string.f (a0 : ByteArray) : Option (Bool) := some (a0.toList != a0.toList)
set_option maxHeartbeats 8000000 in
set_option maxRecDepth 100000 in
theorem cmp_isNaN_string.calls (a0 : ByteArray) (r : Bool) (w : World) (h : cmp_isNaN_string.f a0 = some r) :
    Calls Try.prog 78 #[.string a0] w fun e w' => e = .returned (.bool r) ∧ Drawn0 w w' := by
  have H : (some (a0.toList != a0.toList)) = some r := h
  clear h
  obtain rfl := Option.some.inj H
  go_enter Try.func78, Try.ntmps78
  go_wp2
  go_ret
  exact ⟨by first | rfl | (simp; done) | (simp [*]; done), by repeat (first | exact Drawn0.refl _ | apply Drawn0.step)⟩
def cmpS (a b : ByteArray) : Int := if Op.bytesLess a.toList b.toList = true then -1 else if (a.toList == b.toList) = true then 0 else 1
def cmp_Compare_string.f (a0 : ByteArray) (a1 : ByteArray) : Option (Int) := some (cmpS a0 a1)
set_option maxHeartbeats 8000000 in
set_option maxRecDepth 100000 in
theorem cmp_Compare_string.calls (a0 : ByteArray) (a1 : ByteArray) (r : Int) (w : World) (h : cmp_Compare_string.f a0 a1 = some r) :
    Calls Try.prog 70 #[.string a0, .string a1] w fun e w' => e = .returned (.int .i64 r) ∧ Drawn0 w w' := by
  obtain rfl := Option.some.inj h
  clear h
  have n0 : cmp_isNaN_string.f a0 = some false := by simp [cmp_isNaN_string.f]
  have n1 : cmp_isNaN_string.f a1 = some false := by simp [cmp_isNaN_string.f]
  have N0 := Aside0.mk n0
  have N1 := Aside0.mk n1
  clear n0 n1
  unfold cmpS
  go_enter Try.func70, Try.ntmps70
  cases c1 : Op.bytesLess a0.toList a1.toList with
  | true =>
    rw [if_pos rfl]
    go_wp2_with fail
    refine (cmp_isNaN_string.calls a0 false _ N0.out).mono ?_
    rintro e w' ⟨rfl, ⟨nd, rfl⟩⟩
    go_wp2_with fail
    refine (cmp_isNaN_string.calls a1 false _ N1.out).mono ?_
    rintro e w' ⟨rfl, ⟨nd1, rfl⟩⟩
    go_wp2_with fail
    go_ret
    exact ⟨by first | rfl | (simp; done) | (simp [*]; done), by repeat (first | exact Drawn0.refl _ | apply Drawn0.step)⟩
  | false =>
    rw [if_neg (by decide)]
    cases c2 : (a0.toList == a1.toList) with
    | true =>
      rw [if_pos rfl]
      go_wp2_with fail
      refine (cmp_isNaN_string.calls a0 false _ N0.out).mono ?_
      rintro e w' ⟨rfl, ⟨nd, rfl⟩⟩
      go_wp2_with fail
      refine (cmp_isNaN_string.calls a1 false _ N1.out).mono ?_
      rintro e w' ⟨rfl, ⟨nd1, rfl⟩⟩
      go_wp2_with fail
      go_ret
      exact ⟨by first | rfl | (simp; done) | (simp [*]; done), by repeat (first | exact Drawn0.refl _ | apply Drawn0.step)⟩
    | false =>
      rw [if_neg (by decide)]
      go_wp2_with fail
      refine (cmp_isNaN_string.calls a0 false _ N0.out).mono ?_
      rintro e w' ⟨rfl, ⟨nd, rfl⟩⟩
      go_wp2_with fail
      refine (cmp_isNaN_string.calls a1 false _ N1.out).mono ?_
      rintro e w' ⟨rfl, ⟨nd1, rfl⟩⟩
      go_wp2_with fail
      go_ret
      exact ⟨by first | rfl | (simp; done) | (simp [*]; done), by repeat (first | exact Drawn0.refl _ | apply Drawn0.step)⟩
def slices_Compare_string_string.l0 : Nat → List ByteArray → List ByteArray → List ByteArray → Int → Int → Option (Int)
  | 0, _, _, _, _, _ => none
  | k + 1, x0, x1, x9, x10, x11 => if x11 < x10 then (if 0 ≤ x11 then (if x11 < (x9.length : Int) then (if x11 ≥ (x1.length : Int) then (some 1) else (if x11 < (x1.length : Int) then ((cmp_Compare_string.f (rdOf ByteArray.empty x9 x11) (rdOf ByteArray.empty x1 x11)).bind fun t140 => (if t140 = 0 then (slices_Compare_string_string.l0 k x0 x1 x9 x10 (wrap64 (x11 + 1))) else (some t140))) else (none))) else (none)) else (none)) else (if (x0.length : Int) < (x1.length : Int) then (some (-1)) else (some 0))
def slices_Compare_string_string.f (k : Nat) (l0 : List ByteArray) (l1 : List ByteArray) : Option (Int) := slices_Compare_string_string.l0 k l0 l1 l0 (l0.length : Int) 0
set_option maxHeartbeats 8000000 in
set_option maxRecDepth 100000 in
theorem slices_Compare_string_string.calls (k : Nat) (A0 : Option Addr) (c0 : Nat) (l0 : List ByteArray) (A1 : Option Addr) (c1 : Nat) (l1 : List ByteArray) (r : Int) (w : World) (hr0 : Kd.C Kd.string w A0 l0.length l0) (hc0 : l0.length ≤ c0) (hr1 : Kd.C Kd.string w A1 l1.length l1) (hc1 : l1.length ≤ c1) (h : slices_Compare_string_string.f k l0 l1 = some r) :
    Calls Try.prog 54 #[.slice A0 l0.length c0, .slice A1 l1.length c1] w fun e w' => e = .returned (.int .i64 r) ∧ Drawn0 w w' := by
  have HR0 := Aside0.mk hr0
  have HC0 := Aside0.mk hc0
  clear hr0 hc0
  have HR1 := Aside0.mk hr1
  have HC1 := Aside0.mk hc1
  clear hr1 hc1
  have H : (slices_Compare_string_string.l0 k l0 l1 l0 (l0.length : Int) 0) = some r := h
  clear h
  have H' := Aside0.mk H
  clear H
  go_enter Try.func54, Try.ntmps54
  go_wp2
  go_loopg [11] k (fun kq v11 w' => ∃ (x11_1 : Int), v11 = .int .i64 x11_1 ∧ Aside0 (slices_Compare_string_string.l0 kq l0 l1 l0 (l0.length : Int) x11_1 = some r) ∧ Aside0 (kq ≤ k) ∧ Drawn0 w w')
  case atStart => exact ⟨(0), (by first | rfl | (simp; done) | (simp [*]; done)), H', ⟨Nat.le_refl _⟩, by repeat (first | exact Drawn0.refl _ | apply Drawn0.step)⟩
  case round =>
    clear H'
    try clear c1
    try clear p2
    obtain ⟨x11_1, rfl, HA, HK1, ⟨m1, rfl⟩⟩ := hrel
    cases gk with
    | zero => exact absurd HA.out (by simp [slices_Compare_string_string.l0])
    | succ k1 =>
      have H := HA.out
      clear HA
      simp only [slices_Compare_string_string.l0] at H
      by_cases c3 : x11_1 < (l0.length : Int)
      · rw [if_pos c3] at H
        have c3b0 : decide (x11_1 < (l0.length : Int)) = true := decide_eq_true c3
        clear c3
        by_cases c4 : 0 ≤ x11_1
        · rw [if_pos c4] at H
          have c4b0 : decide (0 ≤ x11_1) = true := decide_eq_true c4
          clear c4
          by_cases c5 : x11_1 < (l0.length : Int)
          · rw [if_pos c5] at H
            have c5b0 : decide (x11_1 < (l0.length : Int)) = true := decide_eq_true c5
            clear c5
            by_cases c6 : x11_1 ≥ (l1.length : Int)
            · rw [if_pos c6] at H
              have c6b0 : decide ((l1.length : Int) ≤ x11_1) = true := decide_eq_true c6
              clear c6
              obtain rfl := Option.some.inj H
              have p138 : 0 ≤ (x11_1 : Int) := of_decide_eq_true (by first | (with_reducible assumption) | assumption)
              have q138 : x11_1 < (l0.length : Int) := of_decide_eq_true (by first | (with_reducible assumption) | assumption)
              obtain ⟨ad138, e138, hx138_0⟩ := Kd.at_string HR0.out x11_1 p138 q138
              cases e138
              replace p138 := eq_true p138
              replace q138 := eq_true q138
              go_wp2
              go_ret
              exact ⟨by first | rfl | (simp; done) | (simp [*]; done), by repeat (first | exact Drawn0.refl _ | apply Drawn0.step)⟩
            · rw [if_neg c6] at H
              have c6b0 : decide ((l1.length : Int) ≤ x11_1) = false := decide_eq_false c6
              clear c6
              by_cases c7 : x11_1 < (l1.length : Int)
              · rw [if_pos c7] at H
                have c7b0 : decide (x11_1 < (l1.length : Int)) = true := decide_eq_true c7
                clear c7
                replace H := Option.bind_eq_some_iff.mp H
                obtain ⟨t140, A80, H⟩ := H
                replace H : (if t140 = 0 then (slices_Compare_string_string.l0 k1 l0 l1 l0 (l0.length : Int) (wrap64 (x11_1 + 1))) else (some t140)) = some r := H
                have A8 := Aside0.mk A80
                clear A80
                by_cases c9 : t140 = 0
                · rw [if_pos c9] at H
                  have c9b0 : (t140 == 0) = true := beq_iff_eq.mpr c9
                  have c9b1 : (t140 != 0) = false := bne_eq_false_iff_eq.mpr c9
                  clear c9
                  have H' := Aside0.mk H
                  clear H
                  have p138 : 0 ≤ (x11_1 : Int) := of_decide_eq_true (by first | (with_reducible assumption) | assumption)
                  have q138 : x11_1 < (l0.length : Int) := of_decide_eq_true (by first | (with_reducible assumption) | assumption)
                  obtain ⟨ad138, e138, hx138_0⟩ := Kd.at_string HR0.out x11_1 p138 q138
                  cases e138
                  replace p138 := eq_true p138
                  replace q138 := eq_true q138
                  have p139 : 0 ≤ (x11_1 : Int) := of_decide_eq_true (by first | (with_reducible assumption) | assumption)
                  have q139 : x11_1 < (l1.length : Int) := of_decide_eq_true (by first | (with_reducible assumption) | assumption)
                  obtain ⟨ad139, e139, hx139_0⟩ := Kd.at_string HR1.out x11_1 p139 q139
                  cases e139
                  replace p139 := eq_true p139
                  replace q139 := eq_true q139
                  go_wp2_with (first | ((with_reducible refine gate_callee (f := 70) rfl ?_); refine goesL_ (some 26) rfl rfl Try.func70 (by kernel_rfl) rfl #[.string (rdOf ByteArray.empty l0 x11_1), .string (rdOf ByteArray.empty l1 x11_1)] rfl (by (try simp only [List.map_toArray, List.map_cons, List.map_nil]); first | done | rfl | (simp only [List.length_drop, List.length_take]; rfl)) ?_; (with_reducible refine (cmp_Compare_string.calls (rdOf ByteArray.empty l0 x11_1) (rdOf ByteArray.empty l1 x11_1) t140 _ A8.out).mono ?_); rintro e w' ⟨rfl, ⟨nd, rfl⟩⟩; refine ⟨_, rfl, ?_⟩))
                  go_roundg k1
                  case measure => have := HK1.out; omega
                  case rel => exact ⟨(wrap64 (x11_1 + 1)), (by first | rfl | (simp; done) | (simp [*]; done)), H', ⟨by have := HK1.out; omega⟩, by repeat (first | exact Drawn0.refl _ | apply Drawn0.step)⟩
                · rw [if_neg c9] at H
                  have c9b0 : (t140 == 0) = false := beq_eq_false_iff_ne.mpr c9
                  have c9b1 : (t140 != 0) = true := bne_iff_ne.mpr c9
                  obtain rfl := Option.some.inj H
                  have p138 : 0 ≤ (x11_1 : Int) := of_decide_eq_true (by first | (with_reducible assumption) | assumption)
                  have q138 : x11_1 < (l0.length : Int) := of_decide_eq_true (by first | (with_reducible assumption) | assumption)
                  obtain ⟨ad138, e138, hx138_0⟩ := Kd.at_string HR0.out x11_1 p138 q138
                  cases e138
                  replace p138 := eq_true p138
                  replace q138 := eq_true q138
                  have p139 : 0 ≤ (x11_1 : Int) := of_decide_eq_true (by first | (with_reducible assumption) | assumption)
                  have q139 : x11_1 < (l1.length : Int) := of_decide_eq_true (by first | (with_reducible assumption) | assumption)
                  obtain ⟨ad139, e139, hx139_0⟩ := Kd.at_string HR1.out x11_1 p139 q139
                  cases e139
                  replace p139 := eq_true p139
                  replace q139 := eq_true q139
                  go_wp2_with (first | ((with_reducible refine gate_callee (f := 70) rfl ?_); refine goesL_ (some 26) rfl rfl Try.func70 (by kernel_rfl) rfl #[.string (rdOf ByteArray.empty l0 x11_1), .string (rdOf ByteArray.empty l1 x11_1)] rfl (by (try simp only [List.map_toArray, List.map_cons, List.map_nil]); first | done | rfl | (simp only [List.length_drop, List.length_take]; rfl)) ?_; (with_reducible refine (cmp_Compare_string.calls (rdOf ByteArray.empty l0 x11_1) (rdOf ByteArray.empty l1 x11_1) t140 _ A8.out).mono ?_); rintro e w' ⟨rfl, ⟨nd, rfl⟩⟩; refine ⟨_, rfl, ?_⟩))
                  go_ret
                  exact ⟨by first | rfl | (simp; done) | (simp [*]; done), by repeat (first | exact Drawn0.refl _ | apply Drawn0.step)⟩
              · rw [if_neg c7] at H
                exact absurd H (by simp)
          · rw [if_neg c5] at H
            exact absurd H (by simp)
        · rw [if_neg c4] at H
          exact absurd H (by simp)
      · rw [if_neg c3] at H
        have c3b0 : decide (x11_1 < (l0.length : Int)) = false := decide_eq_false c3
        clear c3
        by_cases c10 : (l0.length : Int) < (l1.length : Int)
        · rw [if_pos c10] at H
          have c10b0 : decide ((l0.length : Int) < (l1.length : Int)) = true := decide_eq_true c10
          have c10b1 : decide (l0.length < l1.length) = true := decide_eq_true (Int.ofNat_lt.mp c10)
          clear c10
          obtain rfl := Option.some.inj H
          go_wp2
          go_ret
          exact ⟨by first | rfl | (simp; done) | (simp [*]; done), by repeat (first | exact Drawn0.refl _ | apply Drawn0.step)⟩
        · rw [if_neg c10] at H
          have c10b0 : decide ((l0.length : Int) < (l1.length : Int)) = false := decide_eq_false c10
          have c10b1 : decide (l0.length < l1.length) = false := decide_eq_false (fun h => c10 (Int.ofNat_lt.mpr h))
          clear c10
          obtain rfl := Option.some.inj H
          go_wp2
          go_ret
          exact ⟨by first | rfl | (simp; done) | (simp [*]; done), by repeat (first | exact Drawn0.refl _ | apply Drawn0.step)⟩
end Go.Proofs.Ytfaiplbogchgjaa.PA
end
