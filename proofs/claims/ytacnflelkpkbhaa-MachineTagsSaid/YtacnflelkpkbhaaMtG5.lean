/- Texts of this claim, those that nothing needs left out: Zmr Zmw Xr Xvn PAx1 PAx2. -/
import Derived.Test.YtacnflelkpkbhaaMtG3
import Derived.Test.YtacnflelkpkbhaaMtG1
import Derived.Test.YtacnflelkpkbhaaProg
import Derived.Below
import Derived.Deep.Draws
import Derived.Deep.AppendLies
import Derived.Maps.AppendAt
import Derived.OwnWalk
import Derived.Laws.BytesArg
import Derived.Laws.MakeOwn
import Derived.Laws.OwnMore
import Derived.Deep.OwnRows
import Derived.Tactics
import Derived.Lib.ConvBytes
import Derived.Laws.Slices
import Derived.WalkKit
import Derived.KernelRfl
import Derived.RowKit3
import Derived.Deep.LoopGhost
import Derived.Deep.QuietTactic
import Derived.BigQuiet
import Derived.WideLaws
import Derived.Deep.DeepCutAuto
import Derived.Deep.CutBlock
import Derived.Deep.RegionHeld3
import Derived.Laws.Rows
import Derived.Lib.AppendStr
import Derived.ArgAppend
import Derived.Laws.IdiomCopy
import Derived.OrdersHeld
import Derived.Laws.BitsLemmas
import Derived.RowKit
import Derived.Test.YtacnflelkpkbhaaMtG0
import Derived.ProofKit
import Derived.OpenShut
import Derived.ShutString
import Derived.Deep.Slices
import Derived.Lib.SmallJoins
section
namespace Go.Proofs.Ytacnflelkpkbhaa.PA
set_option linter.unusedSimpArgs false
set_option linter.unusedVariables false
open Go.RowKit Go.Maps Go.Proofs.YtacnflelkpkbhaaW.PrintWords Go.Proofs.YtacnflelkpkbhaaW.PrintLast Go.Proofs.YtacnflelkpkbhaaW.PrintMore
theorem add_zero_off (g n : Nat) : ((⟨g, 0, none⟩ : Addr).add n) = ⟨g, 0 + n, none⟩ := by cases n <;> simp [Addr.add]
theorem cells5m {w : World} {B : Nat} {a b c d e : Value} {t : TypeId} (h : w.heap[B]? = some (.cells #[a, b, c, d, e] t (0, 0))) :
    w.cell? ⟨B, 0, none⟩ = some a ∧ w.cell? ⟨B, 1, none⟩ = some b ∧ w.cell? ⟨B, 2, none⟩ = some c ∧ w.cell? ⟨B, 3, none⟩ = some d ∧ w.cell? ⟨B, 4, none⟩ = some e := by
  refine ⟨?_, ?_, ?_, ?_, ?_⟩ <;> simp [blk_cell h]
theorem addr_keep {W W' : World} (hb : Below W.heap.size W W') {p : Addr} {v : Value} (h : W.cell? p = some v) : W'.cell? p = some v := (hb.cell (p := p) (World.block_lt_of_cell? W _ h)).trans h
theorem own_below {w w' : World} {b : Nat} {e : TypeId} {sz n : Nat} {v : Value} {xs : List Value} (h : w.ownsRow b e sz v n xs) (hb : Below w.heap.size w w') : w'.ownsRow b e sz v n xs :=
  own_move h fun k hk => hb.block k (own_lt h k hk)
theorem own_lower {w : World} {b b' : Nat} {e : TypeId} {sz n : Nat} {v : Value} {xs : List Value} (h : w.ownsRow b e sz v n xs) (hb : b' ≤ b) : w.ownsRow b' e sz v n xs := by
  obtain ⟨h1, h2⟩ := h
  refine ⟨h1, ?_⟩
  rcases h2 with h2 | ⟨g, cap, cur, hv, hg, hr⟩
  · exact .inl h2
  · exact .inr ⟨g, cap, cur, hv, Nat.le_trans hb hg, hr⟩
theorem own_base {w : World} {b : Nat} {e : TypeId} {sz n : Nat} {v : Value} {xs : List Value} (h : w.ownsRow b e sz v n xs) (k : Nat) (hk : v.ownBlock = some k) : b ≤ k := by
  rcases h.2 with ⟨rfl, _⟩ | ⟨g, cap, cur, rfl, hg, _⟩
  · cases hk
  · have : g = k := by injection hk
    omega
theorem blk_row {W W' : World} {x : Nat} {cs : Array Value} {t : TypeId} (h : W.heap[x]? = some (.cells cs t (0, 0))) {base k : Nat} {e : TypeId} {sz : Nat} {v : Value} {xs : List Value} (ho : W.ownsRow base e sz v k xs) (he : t ≠ e) (hg : W.grownBy W' v.ownBlock) : W'.heap[x]? = some (.cells cs t (0, 0)) := by
  refine (hg.block _ (blk_lt h) (fun e1 => ?_)).trans h
  obtain ⟨cells, hc⟩ := own_typed ho x e1.symm
  rw [h] at hc
  injection hc with hc
  injection hc with _ h3 _
  exact he h3
theorem own_other {W W' : World} {base k : Nat} {e : TypeId} {sz : Nat} {v : Value} {xs : List Value} (ho : W.ownsRow base e sz v k xs) {x : Nat} {o : Obj} (hx : W.heap[x]? = some o) (hne : ∀ cells, o ≠ .cells cells e (0, 0)) (hg : W.grownBy W' (some x)) : W'.ownsRow base e sz v k xs := by
  refine own_move ho fun j hj => hg.block j (own_lt ho j hj) fun e1 => ?_
  obtain ⟨cells, hc⟩ := own_typed ho j hj
  injection e1 with e1
  rw [e1, hx] at hc
  exact hne _ (Option.some.inj hc)
theorem nodes_row {w : World} {b n : Nat} {v : Value} {l : List S33} {inner : List Value} (h : w.ownsRow b 33 5 v n inner) (hn : n = l.length) (hr : Reps (k33.K w) 5 l inner) : ∃ A c, v = .slice A l.length c ∧ l.length ≤ c ∧ Kd.C k33 w A l.length l := by
  subst hn
  exact OwnRow.reads ⟨inner, h, hr⟩
theorem ints_row {w : World} {b : Nat} {l : List Int} {v : Value} (h : w.ownsRow b 3 1 v l.length (l.map (Value.int .i64))) : ∃ A c, v = .slice A l.length c ∧ l.length ≤ c ∧ Kd.C (Kd.int .i64) w A l.length l := by
  refine OwnRow.reads (R := fun x cs => (Kd.int .i64).K w x cs) ⟨_, h, ?_⟩
  clear h
  induction l with
  | nil => exact Reps.none _ _
  | cons x r ih => exact Reps.one (show (Kd.int .i64).K w x [.int .i64 x] from rfl) ih
end Go.Proofs.Ytacnflelkpkbhaa.PA
end
section
namespace Go.Proofs.Ytacnflelkpkbhaa.PA
set_option linter.unusedSimpArgs false
set_option linter.unusedVariables false
open Go.RowKit Go.Proofs.YtacnflelkpkbhaaW.PrintWords Go.Proofs.YtacnflelkpkbhaaW.PrintLast
def stepE (s : List UInt8) (p : Nat) (e : S48) : Bool := match s[p]? with
  | some c => decide (e.f0 ≤ (c.toNat : Int)) && decide ((c.toNat : Int) ≤ e.f1)
  | none => false
def nextsN (s : List UInt8) (p : Nat) (n : S33) : List (Nat × Nat) :=
  if n.f0 = 3 then [(n.f4.toNat, p)]
  else if n.f0 = 2 then n.f2.map fun t => (t.toNat, p)
  else if n.f0 = 1 then (n.f1.filter (stepE s p)).map fun e => (e.f2.toNat, p + 1)
  else []
def nexts (m : List S33) (s : List UInt8) (p : Nat × Nat) : List (Nat × Nat) := match m[p.1]? with
  | some n => nextsN s p.2 n
  | none => []
def endsB (m : List S33) (s : List UInt8) (p : Nat × Nat) : Bool := match m[p.1]? with
  | some n => decide (n.f0 = 4) && decide (p.2 = s.length)
  | none => false
def addW (f : Nat × Nat → Nat) (n : Nat) (q : Nat × Nat) : Nat := min (n + f q) 1000
def ways (m : List S33) (s : List UInt8) : Nat → Nat × Nat → Nat
  | 0, _ => 0
  | k + 1, p => (nexts m s p).foldl (addW (ways m s k)) (if endsB m s p = true then 1 else 0)
def validP (m : List S33) (s : List UInt8) (p : Nat × Nat) : Prop := p.1 < m.length ∧ p.2 ≤ s.length
def mu (m : List S33) (s : List UInt8) (p : Nat × Nat) : Nat := (s.length - p.2) * m.length + (m.length - p.1)
def waysOf (m : List S33) (s : List UInt8) (p : Nat × Nat) : Nat := ways m s (mu m s p) p
theorem right_at {m : List S33} (h : mayB m = true) {i : Nat} {n : S33} (hi : m[i]? = some n) : rightB m.length (i : Int) n = true := by
  obtain ⟨hl, rfl⟩ := List.getElem?_eq_some_iff.1 hi
  exact (mayB_iff.1 h).2 i hl
theorem nexts_valid {m : List S33} {s : List UInt8} (hm : mayB m = true) {p q : Nat × Nat} (hp : validP m s p) (hq : q ∈ nexts m s p) : validP m s q ∧ mu m s q < mu m s p ∧ p.2 ≤ q.2 := by
  obtain ⟨i, a⟩ := p
  obtain ⟨h1, h2⟩ := hp
  dsimp only at h1 h2
  have hn := List.getElem?_eq_getElem h1
  unfold nexts at hq
  rw [show ((i, a) : Nat × Nat).1 = i from rfl, hn] at hq
  have hr := right_at hm hn
  generalize m[i] = n at hq hr
  dsimp only at hq
  have same : ∀ t : Int, (i : Int) < t → t < m.length → validP m s (t.toNat, a) ∧ mu m s (t.toNat, a) < mu m s (i, a) ∧ a ≤ a := by
    intro t h3 h4
    refine ⟨⟨by dsimp only; omega, h2⟩, ?_, Nat.le_refl _⟩
    unfold mu
    dsimp only
    omega
  unfold nextsN at hq
  unfold rightB at hr
  by_cases k3 : n.f0 = 3
  · rw [if_pos k3] at hq
    rw [if_neg (by omega), if_neg (by omega), if_pos k3] at hr
    simp only [Bool.and_eq_true, decide_eq_true_eq, List.isEmpty_iff] at hr
    obtain rfl := List.mem_singleton.1 hq
    exact same _ hr.2.1 hr.2.2
  · rw [if_neg k3] at hq
    by_cases k2 : n.f0 = 2
    · rw [if_pos k2] at hq
      rw [if_neg (by omega), if_pos k2] at hr
      simp only [Bool.and_eq_true, decide_eq_true_eq, List.isEmpty_iff, List.all_eq_true] at hr
      obtain ⟨t, ht, rfl⟩ := List.mem_map.1 hq
      exact same _ (hr.2 t ht).1 (hr.2 t ht).2
    · rw [if_neg k2] at hq
      by_cases k1 : n.f0 = 1
      · rw [if_pos k1] at hq
        rw [if_pos k1] at hr
        simp only [Bool.and_eq_true, decide_eq_true_eq, List.isEmpty_iff] at hr
        obtain ⟨e, he, rfl⟩ := List.mem_map.1 hq
        obtain ⟨he1, he2⟩ := List.mem_filter.1 he
        have ho := (eatsB_iff.1 hr.2).1 e he1
        simp only [okE, Bool.and_eq_true, decide_eq_true_eq] at ho
        have ha : a < s.length := by
          unfold stepE at he2
          split at he2
          · exact (List.getElem?_eq_some_iff.1 (by assumption)).1
          · cases he2
        refine ⟨⟨by dsimp only; omega, ha⟩, ?_, Nat.le_succ _⟩
        unfold mu
        dsimp only
        have e1 : s.length - a = (s.length - (a + 1)) + 1 := by omega
        rw [e1, Nat.succ_mul]
        omega
      · rw [if_neg k1] at hq
        cases hq
theorem foldl_addW_congr {f g : Nat × Nat → Nat} : ∀ (l : List (Nat × Nat)) (n : Nat), (∀ q ∈ l, f q = g q) → l.foldl (addW f) n = l.foldl (addW g) n
  | [], _, _ => rfl
  | q :: r, n, h => by
    rw [List.foldl_cons, List.foldl_cons, show addW f n q = addW g n q from by unfold addW; rw [h q (by simp)]]
    exact foldl_addW_congr r _ fun x hx => h x (by simp [hx])
theorem mu_pos {m : List S33} {s : List UInt8} {p : Nat × Nat} (hp : validP m s p) : 0 < mu m s p := by
  unfold mu
  have := hp.1
  omega
theorem ways_stable {m : List S33} {s : List UInt8} (hm : mayB m = true) : ∀ (n : Nat) (p : Nat × Nat), mu m s p ≤ n → validP m s p → ∀ k, mu m s p ≤ k → ways m s k p = waysOf m s p := by
  intro n
  induction n with
  | zero => intro p h hp; have := mu_pos hp; omega
  | succ n ih =>
    intro p h hp k hk
    have h0 := mu_pos hp
    unfold waysOf
    obtain ⟨j, hj⟩ : ∃ j, mu m s p = j + 1 := ⟨mu m s p - 1, by omega⟩
    obtain ⟨i, hi⟩ : ∃ i, k = i + 1 := ⟨k - 1, by omega⟩
    rw [hj, hi, ways, ways]
    refine foldl_addW_congr _ _ fun q hq => ?_
    obtain ⟨h1, h2, _⟩ := nexts_valid hm hp hq
    rw [ih q (by omega) h1 i (by omega), ih q (by omega) h1 j (by omega)]
theorem waysOf_eq {m : List S33} {s : List UInt8} (hm : mayB m = true) {p : Nat × Nat} (hp : validP m s p) : waysOf m s p = (nexts m s p).foldl (addW (waysOf m s)) (if endsB m s p = true then 1 else 0) := by
  have h0 := mu_pos hp
  obtain ⟨j, hj⟩ : ∃ j, mu m s p = j + 1 := ⟨mu m s p - 1, by omega⟩
  conv => lhs; unfold waysOf
  rw [hj, ways]
  refine foldl_addW_congr _ _ fun q hq => ?_
  obtain ⟨h1, h2, _⟩ := nexts_valid hm hp hq
  exact ways_stable hm _ q (Nat.le_refl _) h1 j (by omega)
end Go.Proofs.Ytacnflelkpkbhaa.PA
end
section
namespace Go.Proofs.Ytacnflelkpkbhaa.X
set_option linter.unusedSimpArgs false
set_option linter.unusedVariables false
open Go.RowKit Go.Joins Go.WideShapes Go.ChangeShapes Go.Proofs.YtacnflelkpkbhaaW.PrintWords
def Down {α : Type} (P : Program) (d : Kd α) (ok : α → Prop) (t : TypeId) : Prop :=
  ∀ (H : Type) (enc : TypeId × Value → H) (w : World) (base : Nat) (spare : Nat → Bool) (held : Bool) (fuel : Nat) (cs : List Value) (x : DataW H × List MemPlace), DataW.trod enc P w base spare held fuel t cs = some x → ∃ a, d.K w a cs ∧ ok a
variable {P : Program}
theorem down_int {t : TypeId} {k : IntKind} (ht : P.underlying t = some (.int k)) : Down P (Kd.int k) (fun n => (Lit.int k n).wf = true) t := by
  intro H enc w base spare held fuel cs x h
  obtain ⟨n, rfl, _, hw⟩ := DataW.trod_int ht h
  exact ⟨n, rfl, hw⟩
theorem list_of {α : Type} (R : Nat → α → Prop) : ∀ n : Nat, (∀ i, i < n → ∃ a, R i a) → ∃ xs : List α, xs.length = n ∧ ∀ i a, xs[i]? = some a → R i a := by
  intro n
  induction n with
  | zero => intro _; exact ⟨[], rfl, fun i a h => by simp at h⟩
  | succ n ih =>
    intro h
    obtain ⟨xs, hl, hx⟩ := ih (fun i hi => h i (by omega))
    obtain ⟨a, ha⟩ := h n (by omega)
    refine ⟨xs ++ [a], by simp [hl], fun i b hb => ?_⟩
    rcases Nat.lt_or_ge i xs.length with hi | hi
    · rw [List.getElem?_append_left hi] at hb; exact hx i b hb
    · have hlt := (List.getElem?_eq_some_iff.1 hb).1
      rw [List.length_append, List.length_singleton] at hlt
      have : i = xs.length := by omega
      subst this
      simp at hb
      rw [← hb, hl]; exact ha
theorem down_slice {α : Type} {d : Kd α} {ok : α → Prop} {t e : TypeId} (ht : P.underlying t = some (.slice e)) (he : Down P d ok e) (hsz : P.cellsOf e = d.sz) : Down P (Kd.slice e d) (fun xs => ∀ x ∈ xs, ok x) t := by
  intro H enc w base spare held fuel cs x h
  rcases Go.Deep.open_slice ht h with ⟨rfl, _⟩ | ⟨a, len, cap, m, n, D, Pl, rfl, hb, hl, hm, hmm, _, hel⟩
  · exact ⟨[], ⟨none, 0, rfl, Nat.le_refl _, rfl, by simp, fun h => absurd h (Nat.lt_irrefl 0)⟩, fun x hx => by simp at hx⟩
  · have hlm : len ≤ m := by rw [hmm]; split <;> omega
    obtain ⟨xs, hxl, hx⟩ := list_of (fun i p => ∃ c, d.K w p c ∧ ok p ∧ w.cells? base (a.add (i * P.cellsOf e)) (P.cellsOf e) = some c) len (fun i hi => by
      obtain ⟨c, h1, h2⟩ := hel i (by omega)
      obtain ⟨p, h3, h4⟩ := he H enc w base spare held n c _ h2
      exact ⟨p, c, h3, h4, h1⟩)
    have hmax : maxLen = 9223372036854775807 := by decide
    refine ⟨xs, ⟨some a, cap, by rw [hxl], by omega, rfl, by omega, fun _ => ⟨a, rfl, fun j p hj => ?_⟩⟩, fun p hp => ?_⟩
    · obtain ⟨c, h1, _, h3⟩ := hx j p hj
      refine ⟨c, d.K_len h1, h1, fun i u hu => ?_⟩
      obtain ⟨_, h5, h6⟩ := World.cells?_some h3
      have hi : i < P.cellsOf e := by rw [hsz, ← d.K_len h1]; exact (List.getElem?_eq_some_iff.1 hu).1
      have h7 := h6 i hi
      rw [Go.Deep.add_add, hsz] at h7
      rw [h7]; exact hu
    · obtain ⟨i, hi, rfl⟩ := List.mem_iff_getElem.1 hp
      obtain ⟨_, _, h2, _⟩ := hx i _ (List.getElem?_eq_getElem hi)
      exact h2
def FDown {α : Type} (P : Program) (d : Kd α) (ok : α → Prop) (fs : List Field) (o : Nat) : Prop :=
  ∀ (H : Type) (enc : TypeId × Value → H) (w : World) (base : Nat) (spare : Nat → Bool) (held : Bool) (n : Nat) (cs : List Value), cs.length = o + d.sz →
    (∀ f ∈ fs, ∃ x, DataW.trod enc P w base spare held n f.type ((cs.drop f.offset).take (P.cellsOf f.type)) = some x) → ∃ a, d.K w a (cs.drop o) ∧ ok a
theorem fdown_one {α : Type} {d : Kd α} {ok : α → Prop} {f : Field} {o : Nat} (hf : Down P d ok f.type) (ho : f.offset = o) (hs : P.cellsOf f.type = d.sz) : FDown P d ok [f] o := by
  intro H enc w base spare held n cs hl h
  obtain ⟨x, hx⟩ := h f (List.mem_singleton.2 rfl)
  rw [ho, List.take_of_length_le (by rw [List.length_drop, hs]; omega)] at hx
  exact hf H enc w base spare held n _ x hx
theorem fdown_cons {α β : Type} {a : Kd α} {b : Kd β} {oka : α → Prop} {okb : β → Prop} {f : Field} {fs : List Field} {o : Nat} (hf : Down P a oka f.type) (ho : f.offset = o) (hs : P.cellsOf f.type = a.sz) (hr : FDown P b okb fs (o + a.sz)) :
    FDown P (Kd.pair a b) (fun x => oka x.1 ∧ okb x.2) (f :: fs) o := by
  intro H enc w base spare held n cs hl h
  have hl : cs.length = o + (a.sz + b.sz) := hl
  obtain ⟨x, hx⟩ := h f List.mem_cons_self
  rw [ho, hs] at hx
  obtain ⟨p, hp, hpo⟩ := hf H enc w base spare held n _ x hx
  obtain ⟨q, hq, hqo⟩ := hr H enc w base spare held n cs (by omega) (fun g hg => h g (List.mem_cons_of_mem _ hg))
  refine ⟨(p, q), ⟨_, _, ?_, hp, hq⟩, hpo, hqo⟩
  rw [← List.drop_drop, List.take_append_drop]
theorem down_struct {α : Type} {d : Kd α} {ok : α → Prop} {t : TypeId} {fs : Array Field} (ht : P.underlying t = some (.struct fs)) (hf : FDown P d ok fs.toList 0) (hs : P.cellsOf t = d.sz) : Down P d ok t := by
  intro H enc w base spare held fuel cs x h
  obtain ⟨xs, n, _, _, hl, hxl, hx⟩ := DataW.trod_struct ht h
  have := hf H enc w base spare held n cs (by omega) (fun f hfm => by
    obtain ⟨i, hi, rfl⟩ := List.mem_iff_getElem.1 hfm
    have h1 : fs[i]? = some fs.toList[i] := by simp at hi; simp [hi]
    have h2 := hx i _ h1
    simp at hi
    rw [List.getElem?_eq_getElem (by omega)] at h2
    exact ⟨_, h2⟩)
  simpa using this
theorem down_iso {α β : Type} {d : Kd α} {ok : α → Prop} {t : TypeId} {f : β → α} (g : α → β) (hg : ∀ x, f (g x) = x) (h : Down P d ok t) : Down P (Kd.iso d f) (fun y => ok (f y)) t := by
  intro H enc w base spare held fuel cs x hx
  obtain ⟨a, h1, h2⟩ := h H enc w base spare held fuel cs x hx
  exact ⟨g a, by show d.K w (f (g a)) cs; rw [hg]; exact h1, by show ok (f (g a)); rw [hg]; exact h2⟩
theorem arg_slice {α : Type} {d : Kd α} {ok : α → Prop} {t e : TypeId} (ht : P.underlying t = some (.slice e)) (hd : Down P d ok e) (hsz : P.cellsOf e = d.sz) {H : Type} {enc : TypeId × Value → H} {w : World} {r : Reach} {b0 : Nat} {base : Nat} {spare : Nat → Bool} {held : Bool} {v : Value} {x : DataW H} {p : List MemPlace}
    (hv : Value.okWide P w r b0 t v) (h : DataW.Trod enc P w base spare held t v x p) : ∃ (A : Option Addr) (xs : List α) (c : Nat), v = .slice A xs.length c ∧ xs.length ≤ c ∧ d.C w A xs.length xs ∧ ∀ x ∈ xs, ok x := by
  obtain ⟨a0, len, cap, rfl⟩ := okWide_slice ht hv
  obtain ⟨fuel, hf⟩ := h
  obtain ⟨xs, ⟨A, c, he, hl, hc⟩, ho⟩ := down_slice ht hd hsz H enc w base spare held fuel _ _ hf
  simp [Value.cells] at he
  obtain ⟨rfl, rfl, rfl⟩ := he
  exact ⟨_, xs, _, rfl, hl, hc, ho⟩
end Go.Proofs.Ytacnflelkpkbhaa.X
end
section
namespace Go.Proofs.Ytacnflelkpkbhaa.PA
set_option linter.unusedSimpArgs false
set_option linter.unusedVariables false
open Go.RowKit Go.Joins Go.WideShapes Go.ChangeShapes Go.Proofs.YtacnflelkpkbhaaW.PrintWords X
def okRE (x : S50) : Prop := (Lit.int .u8 x.f0).wf = true ∧ (Lit.int .u8 x.f1).wf = true ∧ (Lit.int .i64 x.f2).wf = true
set_option maxRecDepth 100000 in
theorem down_edge : Down Try.prog k50 okRE 50 :=
  down_iso (fun p => ⟨p.1, p.2.1, p.2.2⟩) (fun _ => rfl) (down_struct Try.underlying50 (fdown_cons (down_int Try.underlying5) rfl (by kernel_rfl) (fdown_cons (down_int Try.underlying5) rfl (by kernel_rfl) (fdown_one (down_int Try.underlying3) rfl (by kernel_rfl)))) (by kernel_rfl))
def okRN (x : S46) : Prop := (Lit.int .i64 x.f0).wf = true ∧ (∀ e ∈ x.f1, okRE e) ∧ (∀ t ∈ x.f2, (Lit.int .i64 t).wf = true) ∧ (Lit.int .i64 x.f3).wf = true ∧ (Lit.int .i64 x.f4).wf = true
set_option maxRecDepth 100000 in
theorem down_node : Down Try.prog k46 okRN 46 :=
  down_iso (fun p => ⟨p.1, p.2.1, p.2.2.1, p.2.2.2.1, p.2.2.2.2⟩) (fun _ => rfl) (down_struct Try.underlying46 (fdown_cons (down_int Try.underlying3) rfl (by kernel_rfl) (fdown_cons (down_slice Try.underlying44 down_edge (by kernel_rfl)) rfl (by kernel_rfl) (fdown_cons (down_slice Try.underlying23 (down_int Try.underlying3) (by kernel_rfl)) rfl (by kernel_rfl) (fdown_cons (down_int Try.underlying3) rfl (by kernel_rfl) (fdown_one (down_int Try.underlying3) rfl (by kernel_rfl)))))) (by kernel_rfl))
end Go.Proofs.Ytacnflelkpkbhaa.PA
end
section
namespace Go.Proofs.Ytacnflelkpkbhaa.PA
open Go.RowKit Go.Proofs.YtacnflelkpkbhaaW.PrintWords Go.Proofs.YtacnflelkpkbhaaW.PrintLast Go.Proofs.YtacnflelkpkbhaaW.PrintMore
attribute [local go_sem] max2_int min2_int max_two min_two max_three min_three max_four min_four   -- for this text's walks alone
set_option linter.unusedVariables false
set_option linter.unusedSimpArgs false
mutual
def phalaroperef16_Few.l0 : Nat → List (S46) → Int → Option (Bool)
  | 0, _, _ => none
  | k + 1, x0, x3 => if x3 < (x0.length : Int) then (phalaroperef16_Few.j1 k x0 x3 (decide (x3 < 61))) else (phalaroperef16_Few.j1 k x0 x3 false)
def phalaroperef16_Few.j1 : Nat → List (S46) → Int → Bool → Option (Bool)
  | 0, _, _, _ => none
  | k + 1, x0, x3, x11 => if x11 = true then (if 0 ≤ x3 then (if x3 < (x0.length : Int) then (if (((rd_T46 x0 x3).f1).length : Int) > 20 then (some false) else (if (((rd_T46 x0 x3).f2).length : Int) > 20 then (some false) else (phalaroperef16_Few.l0 k x0 (wrap64 (x3 + 1))))) else (none)) else (none)) else (some (decide ((x0.length : Int) ≤ 60)))
end
def phalaroperef16_Few.f (k : Nat) (l0 : List (S46)) : Option (Bool) := phalaroperef16_Few.l0 k l0 0
set_option maxHeartbeats 8000000 in
set_option maxRecDepth 100000 in
theorem phalaroperef16_Few.calls (k : Nat) (A0 : Option Addr) (c0 : Nat) (l0 : List (S46)) (r : Bool) (w : World) (hr0 : Kd.C k46 w A0 l0.length l0) (hc0 : l0.length ≤ c0) (h : phalaroperef16_Few.f k l0 = some r) :
    Calls Try.prog 10 #[.slice A0 l0.length c0] w fun e w' => e = .returned (.bool r) ∧ Drawn0 w w' := by
  have HR0 := Aside0.mk hr0
  have HC0 := Aside0.mk hc0
  clear hr0 hc0
  have H : (phalaroperef16_Few.l0 k l0 0) = some r := h
  clear h
  have H' := Aside0.mk H
  clear H
  go_enter Try.func10, Try.ntmps10
  go_wp2
  go_loopg [3] k (fun kq v3 w' => ∃ (x3_1 : Int), v3 = .int .i64 x3_1 ∧ Aside0 (phalaroperef16_Few.l0 kq l0 x3_1 = some r) ∧ Aside0 (kq ≤ k) ∧ Drawn0 w w')
  case atStart => exact ⟨(0), (by first | rfl | (simp; done) | (simp [*]; done)), H', ⟨Nat.le_refl _⟩, by repeat (first | exact Drawn0.refl _ | apply Drawn0.step)⟩
  case round =>
    clear H'
    try clear c1
    obtain ⟨x3_1, rfl, HA, HK1, ⟨m1, rfl⟩⟩ := hrel
    cases gk with
    | zero => exact absurd HA.out (by simp [phalaroperef16_Few.l0])
    | succ k1 =>
      have H := HA.out
      clear HA
      simp only [phalaroperef16_Few.l0] at H
      have HC2 := Aside0.mk H
      clear H
      go_upto_region 2 with (fail)
      go_cut [11] (fun v11 wc => ∃ (kq : Nat) (x11_1 : Bool), v11 = .bool x11_1 ∧ Aside0 (phalaroperef16_Few.j1 kq l0 x3_1 x11_1 = some r) ∧ Aside0 (kq ≤ k1) ∧ Drawn0 w wc)
      case first =>
        have H := HC2.out
        clear HC2
        by_cases c3 : x3_1 < (l0.length : Int)
        · rw [if_pos c3] at H
          have c3b0 : decide (x3_1 < (l0.length : Int)) = true := decide_eq_true c3
          clear c3
          (first | rw [c3b0] | (simp only [i64_w, i32_w]; rw [c3b0]) | skip)
          have H' := Aside0.mk H
          clear H
          go_wp2
          go_meet
          case rel => exact ⟨_, (decide (x3_1 < 61)), (by first | rfl | (simp; done) | (simp [*]; done)), H', ⟨by have := HK1.out; first | omega | exact Nat.le_refl _⟩, by repeat (first | exact Drawn0.refl _ | apply Drawn0.step)⟩
        · rw [if_neg c3] at H
          have c3b0 : decide (x3_1 < (l0.length : Int)) = false := decide_eq_false c3
          clear c3
          (first | rw [c3b0] | (simp only [i64_w, i32_w]; rw [c3b0]) | skip)
          have H' := Aside0.mk H
          clear H
          go_wp2
          go_meet
          case rel => exact ⟨_, (false), (by first | rfl | (simp; done) | (simp [*]; done)), H', ⟨by have := HK1.out; first | omega | exact Nat.le_refl _⟩, by repeat (first | exact Drawn0.refl _ | apply Drawn0.step)⟩
      case rest =>
        clear HC2
        try clear c1
        try clear p2
        try clear c3
        try clear c3b0
        obtain ⟨kq, x11_1, rfl, HA, HJ1, ⟨mc1, rfl⟩⟩ := hcut
        cases kq with
        | zero => exact absurd HA.out (by simp [phalaroperef16_Few.j1])
        | succ kj1 =>
          have H := HA.out
          clear HA
          simp only [phalaroperef16_Few.j1] at H
          by_cases c4 : x11_1 = true
          · subst c4
            have H1 : (if 0 ≤ x3_1 then (if x3_1 < (l0.length : Int) then (if (((rd_T46 l0 x3_1).f1).length : Int) > 20 then (some false) else (if (((rd_T46 l0 x3_1).f2).length : Int) > 20 then (some false) else (phalaroperef16_Few.l0 kj1 l0 (wrap64 (x3_1 + 1))))) else (none)) else (none)) = some r := by rw [if_pos rfl] at H; exact H
            clear H
            have H := H1
            clear H1
            by_cases c5 : 0 ≤ x3_1
            · rw [if_pos c5] at H
              have c5b0 : decide (0 ≤ x3_1) = true := decide_eq_true c5
              clear c5
              by_cases c6 : x3_1 < (l0.length : Int)
              · rw [if_pos c6] at H
                have c6b0 : decide (x3_1 < (l0.length : Int)) = true := decide_eq_true c6
                clear c6
                by_cases c7 : (((rd_T46 l0 x3_1).f1).length : Int) > 20
                · rw [if_pos c7] at H
                  have c7b0 : decide (20 < (((rd_T46 l0 x3_1).f1).length : Int)) = true := decide_eq_true c7
                  have c7b1 : decide (20 < ((rd_T46 l0 x3_1).f1).length) = true := decide_eq_true (by omega)
                  clear c7
                  obtain rfl := Option.some.inj H
                  have p101 : 0 ≤ (x3_1 : Int) := of_decide_eq_true (by first | (with_reducible assumption) | assumption)
                  have q101 : x3_1 < (l0.length : Int) := of_decide_eq_true (by first | (with_reducible assumption) | assumption)
                  obtain ⟨ad101, A101_1, c101_1, A101_2, c101_2, e101, hx101_0, hx101_1, hx101_2, hx101_3, hx101_4, hl101_1, hi101_1, hl101_2, hi101_2⟩ := at_T46 HR0.out x3_1 p101 q101
                  cases e101
                  have HR101_1 := Aside0.mk hi101_1
                  have HC101_1 := Aside0.mk hl101_1
                  clear hi101_1 hl101_1
                  have HR101_2 := Aside0.mk hi101_2
                  have HC101_2 := Aside0.mk hl101_2
                  clear hi101_2 hl101_2
                  replace p101 := eq_true p101
                  replace q101 := eq_true q101
                  go_wp2
                  go_ret
                  exact ⟨by first | rfl | (simp; done) | (simp [*]; done), by repeat (first | exact Drawn0.refl _ | apply Drawn0.step)⟩
                · rw [if_neg c7] at H
                  have c7b0 : decide (20 < (((rd_T46 l0 x3_1).f1).length : Int)) = false := decide_eq_false c7
                  have c7b1 : decide (20 < ((rd_T46 l0 x3_1).f1).length) = false := decide_eq_false (by omega)
                  clear c7
                  by_cases c8 : (((rd_T46 l0 x3_1).f2).length : Int) > 20
                  · rw [if_pos c8] at H
                    have c8b0 : decide (20 < (((rd_T46 l0 x3_1).f2).length : Int)) = true := decide_eq_true c8
                    have c8b1 : decide (20 < ((rd_T46 l0 x3_1).f2).length) = true := decide_eq_true (by omega)
                    clear c8
                    obtain rfl := Option.some.inj H
                    have p101 : 0 ≤ (x3_1 : Int) := of_decide_eq_true (by first | (with_reducible assumption) | assumption)
                    have q101 : x3_1 < (l0.length : Int) := of_decide_eq_true (by first | (with_reducible assumption) | assumption)
                    obtain ⟨ad101, A101_1, c101_1, A101_2, c101_2, e101, hx101_0, hx101_1, hx101_2, hx101_3, hx101_4, hl101_1, hi101_1, hl101_2, hi101_2⟩ := at_T46 HR0.out x3_1 p101 q101
                    cases e101
                    have HR101_1 := Aside0.mk hi101_1
                    have HC101_1 := Aside0.mk hl101_1
                    clear hi101_1 hl101_1
                    have HR101_2 := Aside0.mk hi101_2
                    have HC101_2 := Aside0.mk hl101_2
                    clear hi101_2 hl101_2
                    replace p101 := eq_true p101
                    replace q101 := eq_true q101
                    have p102 : 0 ≤ (x3_1 : Int) := of_decide_eq_true (by first | (with_reducible assumption) | assumption)
                    have q102 : x3_1 < (l0.length : Int) := of_decide_eq_true (by first | (with_reducible assumption) | assumption)
                    obtain ⟨ad102, A102_1, c102_1, A102_2, c102_2, e102, hx102_0, hx102_1, hx102_2, hx102_3, hx102_4, hl102_1, hi102_1, hl102_2, hi102_2⟩ := at_T46 HR0.out x3_1 p102 q102
                    obtain rfl : ad101 = ad102 := (by injection e102)
                    have HR102_1 := Aside0.mk hi102_1
                    have HC102_1 := Aside0.mk hl102_1
                    clear hi102_1 hl102_1
                    have HR102_2 := Aside0.mk hi102_2
                    have HC102_2 := Aside0.mk hl102_2
                    clear hi102_2 hl102_2
                    replace p102 := eq_true p102
                    replace q102 := eq_true q102
                    have ea_ := Option.some.inj (hx101_1.symm.trans hx102_1)
                    injection ea_ with ea_ en_ ec_
                    subst ea_
                    subst ec_
                    clear en_
                    have ea_ := Option.some.inj (hx101_2.symm.trans hx102_2)
                    injection ea_ with ea_ en_ ec_
                    subst ea_
                    subst ec_
                    clear en_
                    go_wp2
                    go_ret
                    exact ⟨by first | rfl | (simp; done) | (simp [*]; done), by repeat (first | exact Drawn0.refl _ | apply Drawn0.step)⟩
                  · rw [if_neg c8] at H
                    have c8b0 : decide (20 < (((rd_T46 l0 x3_1).f2).length : Int)) = false := decide_eq_false c8
                    have c8b1 : decide (20 < ((rd_T46 l0 x3_1).f2).length) = false := decide_eq_false (by omega)
                    clear c8
                    have H' := Aside0.mk H
                    clear H
                    have p101 : 0 ≤ (x3_1 : Int) := of_decide_eq_true (by first | (with_reducible assumption) | assumption)
                    have q101 : x3_1 < (l0.length : Int) := of_decide_eq_true (by first | (with_reducible assumption) | assumption)
                    obtain ⟨ad101, A101_1, c101_1, A101_2, c101_2, e101, hx101_0, hx101_1, hx101_2, hx101_3, hx101_4, hl101_1, hi101_1, hl101_2, hi101_2⟩ := at_T46 HR0.out x3_1 p101 q101
                    cases e101
                    have HR101_1 := Aside0.mk hi101_1
                    have HC101_1 := Aside0.mk hl101_1
                    clear hi101_1 hl101_1
                    have HR101_2 := Aside0.mk hi101_2
                    have HC101_2 := Aside0.mk hl101_2
                    clear hi101_2 hl101_2
                    replace p101 := eq_true p101
                    replace q101 := eq_true q101
                    have p102 : 0 ≤ (x3_1 : Int) := of_decide_eq_true (by first | (with_reducible assumption) | assumption)
                    have q102 : x3_1 < (l0.length : Int) := of_decide_eq_true (by first | (with_reducible assumption) | assumption)
                    obtain ⟨ad102, A102_1, c102_1, A102_2, c102_2, e102, hx102_0, hx102_1, hx102_2, hx102_3, hx102_4, hl102_1, hi102_1, hl102_2, hi102_2⟩ := at_T46 HR0.out x3_1 p102 q102
                    obtain rfl : ad101 = ad102 := (by injection e102)
                    have HR102_1 := Aside0.mk hi102_1
                    have HC102_1 := Aside0.mk hl102_1
                    clear hi102_1 hl102_1
                    have HR102_2 := Aside0.mk hi102_2
                    have HC102_2 := Aside0.mk hl102_2
                    clear hi102_2 hl102_2
                    replace p102 := eq_true p102
                    replace q102 := eq_true q102
                    have ea_ := Option.some.inj (hx101_1.symm.trans hx102_1)
                    injection ea_ with ea_ en_ ec_
                    subst ea_
                    subst ec_
                    clear en_
                    have ea_ := Option.some.inj (hx101_2.symm.trans hx102_2)
                    injection ea_ with ea_ en_ ec_
                    subst ea_
                    subst ec_
                    clear en_
                    go_wp2
                    go_roundg kj1
                    case measure => have := HK1.out; have := HJ1.out; omega
                    case rel => exact ⟨(wrap64 (x3_1 + 1)), (by first | rfl | (simp; done) | (simp [*]; done)), H', ⟨by have := HK1.out; have := HJ1.out; omega⟩, by repeat (first | exact Drawn0.refl _ | apply Drawn0.step)⟩
              · rw [if_neg c6] at H
                exact absurd H (by simp)
            · rw [if_neg c5] at H
              exact absurd H (by simp)
          · replace c4 := Bool.eq_false_iff.mpr c4
            subst c4
            have H1 : (some (decide ((l0.length : Int) ≤ 60))) = some r := by rw [if_neg (show ¬ (false = true) by decide)] at H; exact H
            clear H
            have H := H1
            clear H1
            obtain rfl := Option.some.inj H
            go_wp2
            go_ret
            exact ⟨by first | rfl | (simp; done) | (simp [*]; done), by repeat (first | exact Drawn0.refl _ | apply Drawn0.step)⟩
end Go.Proofs.Ytacnflelkpkbhaa.PA
end
section
namespace Go.Proofs.Ytacnflelkpkbhaa.PA
open Go.RowKit Go.Proofs.YtacnflelkpkbhaaW.PrintWords Go.Proofs.YtacnflelkpkbhaaW.PrintLast Go.Proofs.YtacnflelkpkbhaaW.PrintMore
attribute [local go_sem] max2_int min2_int max_two min_two max_three min_three max_four min_four   -- for this text's walks alone
set_option linter.unusedVariables false
set_option linter.unusedSimpArgs false
mutual
def phalaroperef16_eater.l0 : Nat → Int → Int → Int → List (S50) → List Int → Int → Int → Option (Bool)
  | 0, _, _, _, _, _, _, _ => none
  | k + 1, x1, x5, x104000, x104001, x104002, x104003, x104004 => if x5 < (x104001.length : Int) then (if 0 ≤ x5 then (if ((rd_T50 x104001 x5).f0) > ((rd_T50 x104001 x5).f1) then (phalaroperef16_eater.j1 k x1 x5 true x104000 x104001 x104002 x104003 x104004 ((rd_T50 x104001 x5).f0) ((rd_T50 x104001 x5).f1) ((rd_T50 x104001 x5).f2)) else (if ((rd_T50 x104001 x5).f2) < 0 then (phalaroperef16_eater.j1 k x1 x5 true x104000 x104001 x104002 x104003 x104004 ((rd_T50 x104001 x5).f0) ((rd_T50 x104001 x5).f1) ((rd_T50 x104001 x5).f2)) else (phalaroperef16_eater.j1 k x1 x5 (decide (((rd_T50 x104001 x5).f2) ≥ x1)) x104000 x104001 x104002 x104003 x104004 ((rd_T50 x104001 x5).f0) ((rd_T50 x104001 x5).f1) ((rd_T50 x104001 x5).f2)))) else (none)) else (if (x104002.length : Int) = 0 then (some (x104004 == 0)) else (some false))
def phalaroperef16_eater.j1 : Nat → Int → Int → Bool → Int → List (S50) → List Int → Int → Int → Int → Int → Int → Option (Bool)
  | 0, _, _, _, _, _, _, _, _, _, _, _ => none
  | k + 1, x1, x5, x35, x104000, x104001, x104002, x104003, x104004, x106000, x106001, x106002 => if x35 = true then (some false) else (phalaroperef16_eater.l1 k x1 x5 0 x104000 x104001 x104002 x104003 x104004 x106000 x106001 x106002)
def phalaroperef16_eater.l1 : Nat → Int → Int → Int → Int → List (S50) → List Int → Int → Int → Int → Int → Int → Option (Bool)
  | 0, _, _, _, _, _, _, _, _, _, _, _ => none
  | k + 1, x1, x5, x7, x104000, x104001, x104002, x104003, x104004, x106000, x106001, x106002 => if x7 < x5 then (if 0 ≤ x7 then (if x7 < (x104001.length : Int) then (if x106000 ≤ ((rd_T50 x104001 x7).f1) then (if ((rd_T50 x104001 x7).f0) ≤ x106001 then (some false) else (phalaroperef16_eater.l1 k x1 x5 (wrap64 (x7 + 1)) x104000 x104001 x104002 x104003 x104004 x106000 x106001 x106002)) else (phalaroperef16_eater.l1 k x1 x5 (wrap64 (x7 + 1)) x104000 x104001 x104002 x104003 x104004 x106000 x106001 x106002)) else (none)) else (none)) else (phalaroperef16_eater.l0 k x1 (wrap64 (x5 + 1)) x104000 x104001 x104002 x104003 x104004)
end
def phalaroperef16_eater.f (k : Nat) (a0_0 : Int) (l0_1 : List (S50)) (l0_2 : List Int) (a0_3 : Int) (a0_4 : Int) (a1 : Int) : Option (Bool) := phalaroperef16_eater.l0 k a1 0 a0_0 l0_1 l0_2 a0_3 a0_4
set_option maxHeartbeats 8000000 in
set_option maxRecDepth 100000 in
theorem phalaroperef16_eater.calls (k : Nat) (a0_0 : Int) (A0_1 : Option Addr) (c0_1 : Nat) (l0_1 : List (S50)) (A0_2 : Option Addr) (c0_2 : Nat) (l0_2 : List Int) (a0_3 : Int) (a0_4 : Int) (a1 : Int) (r : Bool) (w : World) (hr0_1 : Kd.C k50 w A0_1 l0_1.length l0_1) (hc0_1 : l0_1.length ≤ c0_1) (hr0_2 : Kd.C (Kd.int .i64) w A0_2 l0_2.length l0_2) (hc0_2 : l0_2.length ≤ c0_2) (h : phalaroperef16_eater.f k a0_0 l0_1 l0_2 a0_3 a0_4 a1 = some r) :
    Calls Try.prog 22 #[.agg #[.int .i64 a0_0, .slice A0_1 l0_1.length c0_1, .slice A0_2 l0_2.length c0_2, .int .i64 a0_3, .int .i64 a0_4], .int .i64 a1] w fun e w' => e = .returned (.bool r) ∧ Below w.heap.size w w' := by
  have hu46 := Try.underlying46
  have hu50 := Try.underlying50
  have HR0_1 := Aside0.mk hr0_1
  have HC0_1 := Aside0.mk hc0_1
  clear hr0_1 hc0_1
  have HR0_2 := Aside0.mk hr0_2
  have HC0_2 := Aside0.mk hc0_2
  clear hr0_2 hc0_2
  have HB := Aside0.mk (Below.refl w.heap.size w)
  have H : (phalaroperef16_eater.l0 k a1 0 a0_0 l0_1 l0_2 a0_3 a0_4) = some r := h
  clear h
  have H' := Aside0.mk H
  clear H
  go_enter Try.func22, Try.ntmps22
  go_wp2_with (first | ((with_reducible refine gate_dst (N := 2) rfl ?_); refine box_event ?hg (N := 2) ?hd (cs := #[.int .i64 a0_0, .slice A0_1 l0_1.length c0_1, .slice A0_2 l0_2.length c0_2, .int .i64 a0_3, .int .i64 a0_4]) (t := 46) ?hr ?_; (case hd => rfl); (case hg => rfl); (case hr => first | (go_simp; done) | (go_simp; rfl)); intro gb103 hg w3 hbox hb; have n0_ := Aside0.mk (below_step (by repeat (first | (with_reducible first | exact HB.out | apply below_alloc | apply pw_below_drewN | apply below_drew1) | exact HB.out)) hb); have n1_ := Aside0.mk (hbox); have n2_ := Aside0.mk ((by rw [hg]; exact (below_size (by repeat (first | (with_reducible first | exact HB.out | apply below_alloc | apply pw_below_drewN | apply below_drew1) | exact HB.out))) : w.heap.size ≤ gb103)); have n3_ := Aside0.mk ((by rw [hg]; exact (below_size (by repeat (first | (with_reducible first | exact HB.out | apply below_alloc | apply pw_below_drewN | apply below_drew1) | exact HB.out))) : w.heap.size ≤ gb103)); clear HB; have HB := n0_; have BK103 := n1_; have GW103 := n2_; have GE103 := n3_; clear n0_ n1_ n2_ n3_; clear hb hbox hg))
  repeat (go_quiet (first | ((with_reducible refine gate_dst (N := 2) rfl ?_); refine box_event ?hg (N := 2) ?hd (cs := #[.int .i64 a0_0, .slice A0_1 l0_1.length c0_1, .slice A0_2 l0_2.length c0_2, .int .i64 a0_3, .int .i64 a0_4]) (t := 46) ?hr ?_; (case hd => rfl); (case hg => rfl); (case hr => first | (go_simp; done) | (go_simp; rfl)); intro gb103 hg w3 hbox hb; have n0_ := Aside0.mk (below_step (by repeat (first | (with_reducible first | exact HB.out | apply below_alloc | apply pw_below_drewN | apply below_drew1) | exact HB.out)) hb); have n1_ := Aside0.mk (hbox); have n2_ := Aside0.mk ((by rw [hg]; exact (below_size (by repeat (first | (with_reducible first | exact HB.out | apply below_alloc | apply pw_below_drewN | apply below_drew1) | exact HB.out))) : w.heap.size ≤ gb103)); have n3_ := Aside0.mk ((by rw [hg]; exact (below_size (by repeat (first | (with_reducible first | exact HB.out | apply below_alloc | apply pw_below_drewN | apply below_drew1) | exact HB.out))) : w.heap.size ≤ gb103)); clear HB; have HB := n0_; have BK103 := n1_; have GW103 := n2_; have GE103 := n3_; clear n0_ n1_ n2_ n3_; clear hb hbox hg)); try go_wp2_with (first | ((with_reducible refine gate_dst (N := 2) rfl ?_); refine box_event ?hg (N := 2) ?hd (cs := #[.int .i64 a0_0, .slice A0_1 l0_1.length c0_1, .slice A0_2 l0_2.length c0_2, .int .i64 a0_3, .int .i64 a0_4]) (t := 46) ?hr ?_; (case hd => rfl); (case hg => rfl); (case hr => first | (go_simp; done) | (go_simp; rfl)); intro gb103 hg w3 hbox hb; have n0_ := Aside0.mk (below_step (by repeat (first | (with_reducible first | exact HB.out | apply below_alloc | apply pw_below_drewN | apply below_drew1) | exact HB.out)) hb); have n1_ := Aside0.mk (hbox); have n2_ := Aside0.mk ((by rw [hg]; exact (below_size (by repeat (first | (with_reducible first | exact HB.out | apply below_alloc | apply pw_below_drewN | apply below_drew1) | exact HB.out))) : w.heap.size ≤ gb103)); have n3_ := Aside0.mk ((by rw [hg]; exact (below_size (by repeat (first | (with_reducible first | exact HB.out | apply below_alloc | apply pw_below_drewN | apply below_drew1) | exact HB.out))) : w.heap.size ≤ gb103)); clear HB; have HB := n0_; have BK103 := n1_; have GW103 := n2_; have GE103 := n3_; clear n0_ n1_ n2_ n3_; clear hb hbox hg)))
  go_loopg [5] k (fun kq v5 w' => ∃ (x5_1 : Int), v5 = .int .i64 x5_1 ∧ Aside0 (phalaroperef16_eater.l0 kq a1 x5_1 a0_0 l0_1 l0_2 a0_3 a0_4 = some r) ∧ Aside0 (kq ≤ k) ∧ Aside0 (w'.heap[gb103]? = some (.cells #[.int .i64 a0_0, (.slice A0_1 l0_1.length c0_1), (.slice A0_2 l0_2.length c0_2), .int .i64 a0_3, .int .i64 a0_4] 46 (0, 0))) ∧ Aside0 (Below w.heap.size w w'))
  case atStart => exact ⟨(0), (by first | rfl | (simp; done) | (simp [*]; done)), H', ⟨Nat.le_refl _⟩, ⟨by (with_reducible repeat (first | refine blk_drewN ?_ _ | refine blk_drew ?_ | refine blk_alloc ?_ _)); exact BK103.out⟩, ⟨by repeat (first | (with_reducible first | exact HB.out | apply below_alloc | apply pw_below_drewN | apply below_drew1 | refine below_set ?_ GE103.out) | exact HB.out)⟩⟩
  case round =>
    clear H'
    try clear c2
    try clear p2
    obtain ⟨x5_1, rfl, HA, HK1, BK103, HB⟩ := hrel
    cases gk with
    | zero => exact absurd HA.out (by simp [phalaroperef16_eater.l0])
    | succ k1 =>
      have H := HA.out
      clear HA
      simp only [phalaroperef16_eater.l0] at H
      by_cases c4 : x5_1 < (l0_1.length : Int)
      · rw [if_pos c4] at H
        have c4b0 : decide (x5_1 < (l0_1.length : Int)) = true := decide_eq_true c4
        clear c4
        by_cases c5 : 0 ≤ x5_1
        · rw [if_pos c5] at H
          have c5b0 : decide (0 ≤ x5_1) = true := decide_eq_true c5
          clear c5
          have HC6 := Aside0.mk H
          clear H
          have hcz7_0 : wr.cell? ⟨gb103, 0, none⟩ = some (.int .i64 a0_0) := (blk_cell BK103.out 0).trans rfl
          have hcz7_1 : wr.cell? ⟨gb103, 1, none⟩ = some (.slice A0_1 l0_1.length c0_1) := (blk_cell BK103.out 1).trans rfl
          have hcz7_2 : wr.cell? ⟨gb103, 2, none⟩ = some (.slice A0_2 l0_2.length c0_2) := (blk_cell BK103.out 2).trans rfl
          have hcz7_3 : wr.cell? ⟨gb103, 3, none⟩ = some (.int .i64 a0_3) := (blk_cell BK103.out 3).trans rfl
          have hcz7_4 : wr.cell? ⟨gb103, 4, none⟩ = some (.int .i64 a0_4) := (blk_cell BK103.out 4).trans rfl
          have hfz7_0 := blk_frozen BK103.out 0
          have hfz7_1 := blk_frozen BK103.out 1
          have hfz7_2 := blk_frozen BK103.out 2
          have hfz7_3 := blk_frozen BK103.out 3
          have hfz7_4 := blk_frozen BK103.out 4
          have p104 : 0 ≤ (x5_1 : Int) := of_decide_eq_true (by first | (with_reducible assumption) | assumption)
          have q104 : x5_1 < (l0_1.length : Int) := of_decide_eq_true (by first | (with_reducible assumption) | assumption)
          obtain ⟨ad104, e104, hx104_0, hx104_1, hx104_2⟩ := at_T50 HR0_1.out x5_1 p104 q104
          cases e104
          replace hx104_0 := (HB.out.cell (World.block_lt_of_cell? w _ hx104_0)).trans hx104_0
          replace hx104_1 := (HB.out.cell (World.block_lt_of_cell? w _ hx104_1)).trans hx104_1
          replace hx104_2 := (HB.out.cell (World.block_lt_of_cell? w _ hx104_2)).trans hx104_2
          replace p104 := eq_true p104
          replace q104 := eq_true q104
          go_upto_region 5 with (first | ((with_reducible refine gate_dst (N := 6) rfl ?_); refine box_event ?hg (N := 6) ?hd (cs := #[.int .u8 0, .int .u8 0, .int .i64 0]) (t := 50) ?hr ?_; (case hd => rfl); (case hg => rfl); (case hr => first | (go_simp; done) | (go_simp; rfl)); intro gb105 hg w8 hbox hb; have n0_ := Aside0.mk (blk_below (g := gb103) (o := .cells #[.int .i64 a0_0, .slice (some ad104) l0_1.length c0_1, .slice A0_2 l0_2.length c0_2, .int .i64 a0_3, .int .i64 a0_4] 46 (0, 0)) (by (with_reducible repeat (first | refine blk_drewN ?_ _ | refine blk_drew ?_ | refine blk_alloc ?_ _)); exact BK103.out) hb); have n1_ := Aside0.mk (below_step (by repeat (first | (with_reducible first | exact HB.out | apply below_alloc | apply pw_below_drewN | apply below_drew1 | refine below_set ?_ GE103.out) | exact HB.out)) hb); have n2_ := Aside0.mk (hbox); have n3_ := Aside0.mk ((by rw [hg]; exact (below_size (by repeat (first | (with_reducible first | exact HB.out | apply below_alloc | apply pw_below_drewN | apply below_drew1 | refine below_set ?_ GE103.out) | exact HB.out))) : w.heap.size ≤ gb105)); have n4_ := Aside0.mk ((by rw [hg]; exact (below_size (by repeat (first | (with_reducible first | exact HB.out | apply below_alloc | apply pw_below_drewN | apply below_drew1 | refine below_set ?_ GE103.out) | exact HB.out))) : w.heap.size ≤ gb105)); have n5_ := Aside0.mk ((by rw [hg]; exact Nat.ne_of_lt (blk_lt (g := gb103) (o := .cells #[.int .i64 a0_0, .slice (some ad104) l0_1.length c0_1, .slice A0_2 l0_2.length c0_2, .int .i64 a0_3, .int .i64 a0_4] 46 (0, 0)) (by (with_reducible repeat (first | refine blk_drewN ?_ _ | refine blk_drew ?_ | refine blk_alloc ?_ _)); exact BK103.out)) : gb103 ≠ gb105)); have n6_ := Aside0.mk ((by rw [hg]; exact Nat.ne_of_gt (blk_lt (g := gb103) (o := .cells #[.int .i64 a0_0, .slice (some ad104) l0_1.length c0_1, .slice A0_2 l0_2.length c0_2, .int .i64 a0_3, .int .i64 a0_4] 46 (0, 0)) (by (with_reducible repeat (first | refine blk_drewN ?_ _ | refine blk_drew ?_ | refine blk_alloc ?_ _)); exact BK103.out)) : gb105 ≠ gb103)); clear BK103; clear HB; have BK103 := n0_; have HB := n1_; have BK105 := n2_; have GW105 := n3_; have GE105 := n4_; have NB103_105 := n5_; have NB105_103 := n6_; clear n0_ n1_ n2_ n3_ n4_ n5_ n6_; clear hb hbox hg; have hnb9 := NB105_103.out; have hnc9 := NB103_105.out; have hcz10_0 : w8.cell? ⟨gb105, 0, none⟩ = some (.int .u8 0) := (blk_cell BK105.out 0).trans rfl; have hcz10_1 : w8.cell? ⟨gb105, 1, none⟩ = some (.int .u8 0) := (blk_cell BK105.out 1).trans rfl; have hcz10_2 : w8.cell? ⟨gb105, 2, none⟩ = some (.int .i64 0) := (blk_cell BK105.out 2).trans rfl; have hfz10_0 := blk_frozen BK105.out 0; have hfz10_1 := blk_frozen BK105.out 1; have hfz10_2 := blk_frozen BK105.out 2))
          repeat (go_quiet (first | ((with_reducible refine gate_dst (N := 6) rfl ?_); refine box_event ?hg (N := 6) ?hd (cs := #[.int .u8 0, .int .u8 0, .int .i64 0]) (t := 50) ?hr ?_; (case hd => rfl); (case hg => rfl); (case hr => first | (go_simp; done) | (go_simp; rfl)); intro gb105 hg w8 hbox hb; have n0_ := Aside0.mk (blk_below (g := gb103) (o := .cells #[.int .i64 a0_0, .slice (some ad104) l0_1.length c0_1, .slice A0_2 l0_2.length c0_2, .int .i64 a0_3, .int .i64 a0_4] 46 (0, 0)) (by (with_reducible repeat (first | refine blk_drewN ?_ _ | refine blk_drew ?_ | refine blk_alloc ?_ _)); exact BK103.out) hb); have n1_ := Aside0.mk (below_step (by repeat (first | (with_reducible first | exact HB.out | apply below_alloc | apply pw_below_drewN | apply below_drew1 | refine below_set ?_ GE103.out) | exact HB.out)) hb); have n2_ := Aside0.mk (hbox); have n3_ := Aside0.mk ((by rw [hg]; exact (below_size (by repeat (first | (with_reducible first | exact HB.out | apply below_alloc | apply pw_below_drewN | apply below_drew1 | refine below_set ?_ GE103.out) | exact HB.out))) : w.heap.size ≤ gb105)); have n4_ := Aside0.mk ((by rw [hg]; exact (below_size (by repeat (first | (with_reducible first | exact HB.out | apply below_alloc | apply pw_below_drewN | apply below_drew1 | refine below_set ?_ GE103.out) | exact HB.out))) : w.heap.size ≤ gb105)); have n5_ := Aside0.mk ((by rw [hg]; exact Nat.ne_of_lt (blk_lt (g := gb103) (o := .cells #[.int .i64 a0_0, .slice (some ad104) l0_1.length c0_1, .slice A0_2 l0_2.length c0_2, .int .i64 a0_3, .int .i64 a0_4] 46 (0, 0)) (by (with_reducible repeat (first | refine blk_drewN ?_ _ | refine blk_drew ?_ | refine blk_alloc ?_ _)); exact BK103.out)) : gb103 ≠ gb105)); have n6_ := Aside0.mk ((by rw [hg]; exact Nat.ne_of_gt (blk_lt (g := gb103) (o := .cells #[.int .i64 a0_0, .slice (some ad104) l0_1.length c0_1, .slice A0_2 l0_2.length c0_2, .int .i64 a0_3, .int .i64 a0_4] 46 (0, 0)) (by (with_reducible repeat (first | refine blk_drewN ?_ _ | refine blk_drew ?_ | refine blk_alloc ?_ _)); exact BK103.out)) : gb105 ≠ gb103)); clear BK103; clear HB; have BK103 := n0_; have HB := n1_; have BK105 := n2_; have GW105 := n3_; have GE105 := n4_; have NB103_105 := n5_; have NB105_103 := n6_; clear n0_ n1_ n2_ n3_ n4_ n5_ n6_; clear hb hbox hg; have hnb9 := NB105_103.out; have hnc9 := NB103_105.out; have hcz10_0 : w8.cell? ⟨gb105, 0, none⟩ = some (.int .u8 0) := (blk_cell BK105.out 0).trans rfl; have hcz10_1 : w8.cell? ⟨gb105, 1, none⟩ = some (.int .u8 0) := (blk_cell BK105.out 1).trans rfl; have hcz10_2 : w8.cell? ⟨gb105, 2, none⟩ = some (.int .i64 0) := (blk_cell BK105.out 2).trans rfl; have hfz10_0 := blk_frozen BK105.out 0; have hfz10_1 := blk_frozen BK105.out 1; have hfz10_2 := blk_frozen BK105.out 2)); go_upto_region 5 with (first | ((with_reducible refine gate_dst (N := 6) rfl ?_); refine box_event ?hg (N := 6) ?hd (cs := #[.int .u8 0, .int .u8 0, .int .i64 0]) (t := 50) ?hr ?_; (case hd => rfl); (case hg => rfl); (case hr => first | (go_simp; done) | (go_simp; rfl)); intro gb105 hg w8 hbox hb; have n0_ := Aside0.mk (blk_below (g := gb103) (o := .cells #[.int .i64 a0_0, .slice (some ad104) l0_1.length c0_1, .slice A0_2 l0_2.length c0_2, .int .i64 a0_3, .int .i64 a0_4] 46 (0, 0)) (by (with_reducible repeat (first | refine blk_drewN ?_ _ | refine blk_drew ?_ | refine blk_alloc ?_ _)); exact BK103.out) hb); have n1_ := Aside0.mk (below_step (by repeat (first | (with_reducible first | exact HB.out | apply below_alloc | apply pw_below_drewN | apply below_drew1 | refine below_set ?_ GE103.out) | exact HB.out)) hb); have n2_ := Aside0.mk (hbox); have n3_ := Aside0.mk ((by rw [hg]; exact (below_size (by repeat (first | (with_reducible first | exact HB.out | apply below_alloc | apply pw_below_drewN | apply below_drew1 | refine below_set ?_ GE103.out) | exact HB.out))) : w.heap.size ≤ gb105)); have n4_ := Aside0.mk ((by rw [hg]; exact (below_size (by repeat (first | (with_reducible first | exact HB.out | apply below_alloc | apply pw_below_drewN | apply below_drew1 | refine below_set ?_ GE103.out) | exact HB.out))) : w.heap.size ≤ gb105)); have n5_ := Aside0.mk ((by rw [hg]; exact Nat.ne_of_lt (blk_lt (g := gb103) (o := .cells #[.int .i64 a0_0, .slice (some ad104) l0_1.length c0_1, .slice A0_2 l0_2.length c0_2, .int .i64 a0_3, .int .i64 a0_4] 46 (0, 0)) (by (with_reducible repeat (first | refine blk_drewN ?_ _ | refine blk_drew ?_ | refine blk_alloc ?_ _)); exact BK103.out)) : gb103 ≠ gb105)); have n6_ := Aside0.mk ((by rw [hg]; exact Nat.ne_of_gt (blk_lt (g := gb103) (o := .cells #[.int .i64 a0_0, .slice (some ad104) l0_1.length c0_1, .slice A0_2 l0_2.length c0_2, .int .i64 a0_3, .int .i64 a0_4] 46 (0, 0)) (by (with_reducible repeat (first | refine blk_drewN ?_ _ | refine blk_drew ?_ | refine blk_alloc ?_ _)); exact BK103.out)) : gb105 ≠ gb103)); clear BK103; clear HB; have BK103 := n0_; have HB := n1_; have BK105 := n2_; have GW105 := n3_; have GE105 := n4_; have NB103_105 := n5_; have NB105_103 := n6_; clear n0_ n1_ n2_ n3_ n4_ n5_ n6_; clear hb hbox hg; have hnb9 := NB105_103.out; have hnc9 := NB103_105.out; have hcz10_0 : w8.cell? ⟨gb105, 0, none⟩ = some (.int .u8 0) := (blk_cell BK105.out 0).trans rfl; have hcz10_1 : w8.cell? ⟨gb105, 1, none⟩ = some (.int .u8 0) := (blk_cell BK105.out 1).trans rfl; have hcz10_2 : w8.cell? ⟨gb105, 2, none⟩ = some (.int .i64 0) := (blk_cell BK105.out 2).trans rfl; have hfz10_0 := blk_frozen BK105.out 0; have hfz10_1 := blk_frozen BK105.out 1; have hfz10_2 := blk_frozen BK105.out 2)))
          (try simp only [Act.put, List.setIfInBounds_toArray, List.set_cons_zero, List.set_cons_succ])
          go_cut [35] (fun v35 wc => ∃ (kq : Nat) (x35_5 : Bool), v35 = .bool x35_5 ∧ Aside0 (phalaroperef16_eater.j1 kq a1 x5_1 x35_5 a0_0 l0_1 l0_2 a0_3 a0_4 ((rd_T50 l0_1 x5_1).f0) ((rd_T50 l0_1 x5_1).f1) ((rd_T50 l0_1 x5_1).f2) = some r) ∧ Aside0 (kq ≤ k1) ∧ Aside0 (wc.heap[gb103]? = some (.cells #[.int .i64 a0_0, (.slice (some ad104) l0_1.length c0_1), (.slice A0_2 l0_2.length c0_2), .int .i64 a0_3, .int .i64 a0_4] 46 (0, 0))) ∧ Aside0 (wc.heap[gb105]? = some (.cells #[.int .u8 ((rd_T50 l0_1 x5_1).f0), .int .u8 ((rd_T50 l0_1 x5_1).f1), .int .i64 ((rd_T50 l0_1 x5_1).f2)] 50 (0, 0))) ∧ Aside0 (Below w.heap.size w wc))
          case first =>
            have H := HC6.out
            clear HC6
            by_cases c11 : ((rd_T50 l0_1 x5_1).f0) > ((rd_T50 l0_1 x5_1).f1)
            · rw [if_pos c11] at H
              have c11b0 : decide (((rd_T50 l0_1 x5_1).f1) < ((rd_T50 l0_1 x5_1).f0)) = true := decide_eq_true c11
              clear c11
              (first | rw [c11b0] | (simp only [i64_w, i32_w]; rw [c11b0]) | skip)
              have H' := Aside0.mk H
              clear H
              have hnb12 := NB105_103.out
              have hnc12 := NB103_105.out
              have hcz13_0 : w8.cell? ⟨gb105, 0, none⟩ = some (.int .u8 0) := (blk_cell BK105.out 0).trans rfl
              have hcz13_1 : w8.cell? ⟨gb105, 1, none⟩ = some (.int .u8 0) := (blk_cell BK105.out 1).trans rfl
              have hcz13_2 : w8.cell? ⟨gb105, 2, none⟩ = some (.int .i64 0) := (blk_cell BK105.out 2).trans rfl
              have hfz13_0 := blk_frozen BK105.out 0
              have hfz13_1 := blk_frozen BK105.out 1
              have hfz13_2 := blk_frozen BK105.out 2
              go_wp2
              repeat (go_quiet (fail); try go_wp2)
              go_meet
              case rel => exact ⟨_, (true), (by first | rfl | (simp; done) | (simp [*]; done)), H', ⟨by have := HK1.out; first | omega | exact Nat.le_refl _⟩, ⟨by (with_reducible repeat (first | refine blk_drewN ?_ _ | refine blk_drew ?_ | refine blk_alloc ?_ _)); refine blk_far ?_ NB103_105.out _; (with_reducible repeat (first | refine blk_drewN ?_ _ | refine blk_drew ?_ | refine blk_alloc ?_ _)); refine blk_far ?_ NB103_105.out _; (with_reducible repeat (first | refine blk_drewN ?_ _ | refine blk_drew ?_ | refine blk_alloc ?_ _)); refine blk_far ?_ NB103_105.out _; (with_reducible repeat (first | refine blk_drewN ?_ _ | refine blk_drew ?_ | refine blk_alloc ?_ _)); exact BK103.out⟩, ⟨by (with_reducible repeat (first | refine blk_drewN ?_ _ | refine blk_drew ?_ | refine blk_alloc ?_ _)); refine blk_put (cs := #[.int .u8 ((rd_T50 l0_1 x5_1).f0), .int .u8 ((rd_T50 l0_1 x5_1).f1), .int .i64 0]) ?_ 2 _ rfl; (with_reducible repeat (first | refine blk_drewN ?_ _ | refine blk_drew ?_ | refine blk_alloc ?_ _)); refine blk_put (cs := #[.int .u8 ((rd_T50 l0_1 x5_1).f0), .int .u8 0, .int .i64 0]) ?_ 1 _ rfl; (with_reducible repeat (first | refine blk_drewN ?_ _ | refine blk_drew ?_ | refine blk_alloc ?_ _)); refine blk_put (cs := #[.int .u8 0, .int .u8 0, .int .i64 0]) ?_ 0 _ rfl; (with_reducible repeat (first | refine blk_drewN ?_ _ | refine blk_drew ?_ | refine blk_alloc ?_ _)); exact BK105.out⟩, ⟨by repeat (first | (with_reducible first | exact HB.out | apply below_alloc | apply pw_below_drewN | apply below_drew1 | refine below_set ?_ GE103.out | refine below_set ?_ GE105.out) | exact HB.out)⟩⟩
            · rw [if_neg c11] at H
              have c11b0 : decide (((rd_T50 l0_1 x5_1).f1) < ((rd_T50 l0_1 x5_1).f0)) = false := decide_eq_false c11
              clear c11
              (first | rw [c11b0] | (simp only [i64_w, i32_w]; rw [c11b0]) | skip)
              by_cases c14 : ((rd_T50 l0_1 x5_1).f2) < 0
              · rw [if_pos c14] at H
                have c14b0 : decide (((rd_T50 l0_1 x5_1).f2) < 0) = true := decide_eq_true c14
                clear c14
                have H' := Aside0.mk H
                clear H
                have hnb15 := NB105_103.out
                have hnc15 := NB103_105.out
                have hcz16_0 : w8.cell? ⟨gb105, 0, none⟩ = some (.int .u8 0) := (blk_cell BK105.out 0).trans rfl
                have hcz16_1 : w8.cell? ⟨gb105, 1, none⟩ = some (.int .u8 0) := (blk_cell BK105.out 1).trans rfl
                have hcz16_2 : w8.cell? ⟨gb105, 2, none⟩ = some (.int .i64 0) := (blk_cell BK105.out 2).trans rfl
                have hfz16_0 := blk_frozen BK105.out 0
                have hfz16_1 := blk_frozen BK105.out 1
                have hfz16_2 := blk_frozen BK105.out 2
                go_wp2
                repeat (go_quiet (fail); try go_wp2)
                go_meet
                case rel => exact ⟨_, (true), (by first | rfl | (simp; done) | (simp [*]; done)), H', ⟨by have := HK1.out; first | omega | exact Nat.le_refl _⟩, ⟨by (with_reducible repeat (first | refine blk_drewN ?_ _ | refine blk_drew ?_ | refine blk_alloc ?_ _)); refine blk_far ?_ NB103_105.out _; (with_reducible repeat (first | refine blk_drewN ?_ _ | refine blk_drew ?_ | refine blk_alloc ?_ _)); refine blk_far ?_ NB103_105.out _; (with_reducible repeat (first | refine blk_drewN ?_ _ | refine blk_drew ?_ | refine blk_alloc ?_ _)); refine blk_far ?_ NB103_105.out _; (with_reducible repeat (first | refine blk_drewN ?_ _ | refine blk_drew ?_ | refine blk_alloc ?_ _)); exact BK103.out⟩, ⟨by (with_reducible repeat (first | refine blk_drewN ?_ _ | refine blk_drew ?_ | refine blk_alloc ?_ _)); refine blk_put (cs := #[.int .u8 ((rd_T50 l0_1 x5_1).f0), .int .u8 ((rd_T50 l0_1 x5_1).f1), .int .i64 0]) ?_ 2 _ rfl; (with_reducible repeat (first | refine blk_drewN ?_ _ | refine blk_drew ?_ | refine blk_alloc ?_ _)); refine blk_put (cs := #[.int .u8 ((rd_T50 l0_1 x5_1).f0), .int .u8 0, .int .i64 0]) ?_ 1 _ rfl; (with_reducible repeat (first | refine blk_drewN ?_ _ | refine blk_drew ?_ | refine blk_alloc ?_ _)); refine blk_put (cs := #[.int .u8 0, .int .u8 0, .int .i64 0]) ?_ 0 _ rfl; (with_reducible repeat (first | refine blk_drewN ?_ _ | refine blk_drew ?_ | refine blk_alloc ?_ _)); exact BK105.out⟩, ⟨by repeat (first | (with_reducible first | exact HB.out | apply below_alloc | apply pw_below_drewN | apply below_drew1 | refine below_set ?_ GE103.out | refine below_set ?_ GE105.out) | exact HB.out)⟩⟩
              · rw [if_neg c14] at H
                have c14b0 : decide (((rd_T50 l0_1 x5_1).f2) < 0) = false := decide_eq_false c14
                clear c14
                have H' := Aside0.mk H
                clear H
                have hnb17 := NB105_103.out
                have hnc17 := NB103_105.out
                have hcz18_0 : w8.cell? ⟨gb105, 0, none⟩ = some (.int .u8 0) := (blk_cell BK105.out 0).trans rfl
                have hcz18_1 : w8.cell? ⟨gb105, 1, none⟩ = some (.int .u8 0) := (blk_cell BK105.out 1).trans rfl
                have hcz18_2 : w8.cell? ⟨gb105, 2, none⟩ = some (.int .i64 0) := (blk_cell BK105.out 2).trans rfl
                have hfz18_0 := blk_frozen BK105.out 0
                have hfz18_1 := blk_frozen BK105.out 1
                have hfz18_2 := blk_frozen BK105.out 2
                go_wp2
                repeat (go_quiet (fail); try go_wp2)
                go_meet
                case rel => exact ⟨_, (decide (((rd_T50 l0_1 x5_1).f2) ≥ a1)), (by first | rfl | (simp; done) | (simp [*]; done)), H', ⟨by have := HK1.out; first | omega | exact Nat.le_refl _⟩, ⟨by (with_reducible repeat (first | refine blk_drewN ?_ _ | refine blk_drew ?_ | refine blk_alloc ?_ _)); refine blk_far ?_ NB103_105.out _; (with_reducible repeat (first | refine blk_drewN ?_ _ | refine blk_drew ?_ | refine blk_alloc ?_ _)); refine blk_far ?_ NB103_105.out _; (with_reducible repeat (first | refine blk_drewN ?_ _ | refine blk_drew ?_ | refine blk_alloc ?_ _)); refine blk_far ?_ NB103_105.out _; (with_reducible repeat (first | refine blk_drewN ?_ _ | refine blk_drew ?_ | refine blk_alloc ?_ _)); exact BK103.out⟩, ⟨by (with_reducible repeat (first | refine blk_drewN ?_ _ | refine blk_drew ?_ | refine blk_alloc ?_ _)); refine blk_put (cs := #[.int .u8 ((rd_T50 l0_1 x5_1).f0), .int .u8 ((rd_T50 l0_1 x5_1).f1), .int .i64 0]) ?_ 2 _ rfl; (with_reducible repeat (first | refine blk_drewN ?_ _ | refine blk_drew ?_ | refine blk_alloc ?_ _)); refine blk_put (cs := #[.int .u8 ((rd_T50 l0_1 x5_1).f0), .int .u8 0, .int .i64 0]) ?_ 1 _ rfl; (with_reducible repeat (first | refine blk_drewN ?_ _ | refine blk_drew ?_ | refine blk_alloc ?_ _)); refine blk_put (cs := #[.int .u8 0, .int .u8 0, .int .i64 0]) ?_ 0 _ rfl; (with_reducible repeat (first | refine blk_drewN ?_ _ | refine blk_drew ?_ | refine blk_alloc ?_ _)); exact BK105.out⟩, ⟨by repeat (first | (with_reducible first | exact HB.out | apply below_alloc | apply pw_below_drewN | apply below_drew1 | refine below_set ?_ GE103.out | refine below_set ?_ GE105.out) | exact HB.out)⟩⟩
          case rest =>
            clear HC6
            try clear c1
            try clear p1
            try clear q1
            try clear hx1
            try clear c2
            try clear p2
            try clear c4
            try clear c4b0
            try clear c5
            try clear c5b0
            try clear c9
            try clear p10
            try clear q10
            try clear hx10
            try clear c11
            try clear c11b0
            try clear c12
            try clear c14
            try clear c14b0
            try clear c15
            try clear c17
            try clear hcz10_0
            try clear hcz10_1
            try clear hcz10_2
            try clear hcz13_0
            try clear hcz13_1
            try clear hcz13_2
            try clear hcz16_0
            try clear hcz16_1
            try clear hcz16_2
            try clear hcz18_0
            try clear hcz18_1
            try clear hcz18_2
            try clear hcz7_0
            try clear hcz7_1
            try clear hcz7_2
            try clear hcz7_3
            try clear hcz7_4
            try clear hfz10_0
            try clear hfz10_1
            try clear hfz10_2
            try clear hfz13_0
            try clear hfz13_1
            try clear hfz13_2
            try clear hfz16_0
            try clear hfz16_1
            try clear hfz16_2
            try clear hfz18_0
            try clear hfz18_1
            try clear hfz18_2
            try clear hfz7_0
            try clear hfz7_1
            try clear hfz7_2
            try clear hfz7_3
            try clear hfz7_4
            try clear hx104_0
            try clear hx104_1
            try clear hx104_2
            try clear p104
            try clear p2
            try clear q104
            obtain ⟨kq, x35_5, rfl, HA, HJ5, BK103, BK105, HB⟩ := hcut
            cases kq with
            | zero => exact absurd HA.out (by simp [phalaroperef16_eater.j1])
            | succ kj5 =>
              have H := HA.out
              clear HA
              simp only [phalaroperef16_eater.j1] at H
              by_cases c19 : x35_5 = true
              · subst c19
                have H1 : (some false) = some r := by rw [if_pos rfl] at H; exact H
                clear H
                have H := H1
                clear H1
                obtain rfl := Option.some.inj H
                go_wp2
                repeat (go_quiet (fail); try go_wp2)
                go_ret
                exact ⟨by first | rfl | (simp [errW_none, errW_some] <;> rfl) | (simp [*, errW_none, errW_some] <;> rfl), by repeat (first | (with_reducible first | exact HB.out | apply below_alloc | apply pw_below_drewN | apply below_drew1 | refine below_set ?_ GE103.out | refine below_set ?_ GE105.out) | exact HB.out)⟩
              · replace c19 := Bool.eq_false_iff.mpr c19
                subst c19
                have H1 : (phalaroperef16_eater.l1 kj5 a1 x5_1 0 a0_0 l0_1 l0_2 a0_3 a0_4 ((rd_T50 l0_1 x5_1).f0) ((rd_T50 l0_1 x5_1).f1) ((rd_T50 l0_1 x5_1).f2)) = some r := by rw [if_neg (show ¬ (false = true) by decide)] at H; exact H
                clear H
                have H := H1
                clear H1
                have H' := Aside0.mk H
                clear H
                go_wp2
                repeat (go_quiet (fail); try go_wp2)
                go_loopg [7] kj5 (fun kq v7 w' => ∃ (x7_3 : Int), v7 = .int .i64 x7_3 ∧ Aside0 (phalaroperef16_eater.l1 kq a1 x5_1 x7_3 a0_0 l0_1 l0_2 a0_3 a0_4 ((rd_T50 l0_1 x5_1).f0) ((rd_T50 l0_1 x5_1).f1) ((rd_T50 l0_1 x5_1).f2) = some r) ∧ Aside0 (kq ≤ kj5) ∧ Aside0 (w'.heap[gb103]? = some (.cells #[.int .i64 a0_0, (.slice (some ad104) l0_1.length c0_1), (.slice A0_2 l0_2.length c0_2), .int .i64 a0_3, .int .i64 a0_4] 46 (0, 0))) ∧ Aside0 (w'.heap[gb105]? = some (.cells #[.int .u8 ((rd_T50 l0_1 x5_1).f0), .int .u8 ((rd_T50 l0_1 x5_1).f1), .int .i64 ((rd_T50 l0_1 x5_1).f2)] 50 (0, 0))) ∧ Aside0 (Below w.heap.size w w'))
                case atStart => exact ⟨(0), (by first | rfl | (simp; done) | (simp [*]; done)), H', ⟨Nat.le_refl _⟩, ⟨by (with_reducible repeat (first | refine blk_drewN ?_ _ | refine blk_drew ?_ | refine blk_alloc ?_ _)); exact BK103.out⟩, ⟨by (with_reducible repeat (first | refine blk_drewN ?_ _ | refine blk_drew ?_ | refine blk_alloc ?_ _)); exact BK105.out⟩, ⟨by repeat (first | (with_reducible first | exact HB.out | apply below_alloc | apply pw_below_drewN | apply below_drew1 | refine below_set ?_ GE103.out | refine below_set ?_ GE105.out) | exact HB.out)⟩⟩
                case round =>
                  clear H'
                  try clear c1
                  try clear p1
                  try clear q1
                  try clear hx1
                  try clear c2
                  try clear p2
                  try clear c4
                  try clear c4b0
                  try clear c5
                  try clear c5b0
                  try clear c9
                  try clear p10
                  try clear q10
                  try clear hx10
                  try clear c11
                  try clear c11b0
                  try clear c12
                  try clear c14
                  try clear c14b0
                  try clear c15
                  try clear c17
                  try clear c19
                  try clear hcz10_0
                  try clear hcz10_1
                  try clear hcz10_2
                  try clear hcz13_0
                  try clear hcz13_1
                  try clear hcz13_2
                  try clear hcz16_0
                  try clear hcz16_1
                  try clear hcz16_2
                  try clear hcz18_0
                  try clear hcz18_1
                  try clear hcz18_2
                  try clear hcz7_0
                  try clear hcz7_1
                  try clear hcz7_2
                  try clear hcz7_3
                  try clear hcz7_4
                  try clear hfz10_0
                  try clear hfz10_1
                  try clear hfz10_2
                  try clear hfz13_0
                  try clear hfz13_1
                  try clear hfz13_2
                  try clear hfz16_0
                  try clear hfz16_1
                  try clear hfz16_2
                  try clear hfz18_0
                  try clear hfz18_1
                  try clear hfz18_2
                  try clear hfz7_0
                  try clear hfz7_1
                  try clear hfz7_2
                  try clear hfz7_3
                  try clear hfz7_4
                  try clear hx104_0
                  try clear hx104_1
                  try clear hx104_2
                  try clear p1
                  try clear p10
                  try clear p104
                  try clear p2
                  try clear q1
                  try clear q10
                  try clear q104
                  obtain ⟨x7_3, rfl, HA, HK3, BK103, BK105, HB⟩ := hrel
                  cases gk with
                  | zero => exact absurd HA.out (by simp [phalaroperef16_eater.l1])
                  | succ k3 =>
                    have H := HA.out
                    clear HA
                    simp only [phalaroperef16_eater.l1] at H
                    by_cases c20 : x7_3 < x5_1
                    · rw [if_pos c20] at H
                      have c20b0 : decide (x7_3 < x5_1) = true := decide_eq_true c20
                      clear c20
                      by_cases c21 : 0 ≤ x7_3
                      · rw [if_pos c21] at H
                        have c21b0 : decide (0 ≤ x7_3) = true := decide_eq_true c21
                        clear c21
                        by_cases c22 : x7_3 < (l0_1.length : Int)
                        · rw [if_pos c22] at H
                          have c22b0 : decide (x7_3 < (l0_1.length : Int)) = true := decide_eq_true c22
                          clear c22
                          by_cases c23 : ((rd_T50 l0_1 x5_1).f0) ≤ ((rd_T50 l0_1 x7_3).f1)
                          · rw [if_pos c23] at H
                            have c23b0 : decide (((rd_T50 l0_1 x5_1).f0) ≤ ((rd_T50 l0_1 x7_3).f1)) = true := decide_eq_true c23
                            clear c23
                            by_cases c24 : ((rd_T50 l0_1 x7_3).f0) ≤ ((rd_T50 l0_1 x5_1).f1)
                            · rw [if_pos c24] at H
                              have c24b0 : decide (((rd_T50 l0_1 x7_3).f0) ≤ ((rd_T50 l0_1 x5_1).f1)) = true := decide_eq_true c24
                              clear c24
                              obtain rfl := Option.some.inj H
                              have hnb25 := NB105_103.out
                              have hnc25 := NB103_105.out
                              have hcz26_0 : wr.cell? ⟨gb105, 0, none⟩ = some (.int .u8 ((rd_T50 l0_1 x5_1).f0)) := (blk_cell BK105.out 0).trans rfl
                              have hcz26_1 : wr.cell? ⟨gb105, 1, none⟩ = some (.int .u8 ((rd_T50 l0_1 x5_1).f1)) := (blk_cell BK105.out 1).trans rfl
                              have hcz26_2 : wr.cell? ⟨gb105, 2, none⟩ = some (.int .i64 ((rd_T50 l0_1 x5_1).f2)) := (blk_cell BK105.out 2).trans rfl
                              have hfz26_0 := blk_frozen BK105.out 0
                              have hfz26_1 := blk_frozen BK105.out 1
                              have hfz26_2 := blk_frozen BK105.out 2
                              have hcz27_0 : wr.cell? ⟨gb103, 0, none⟩ = some (.int .i64 a0_0) := (blk_cell BK103.out 0).trans rfl
                              have hcz27_1 : wr.cell? ⟨gb103, 1, none⟩ = some (.slice (some ad104) l0_1.length c0_1) := (blk_cell BK103.out 1).trans rfl
                              have hcz27_2 : wr.cell? ⟨gb103, 2, none⟩ = some (.slice A0_2 l0_2.length c0_2) := (blk_cell BK103.out 2).trans rfl
                              have hcz27_3 : wr.cell? ⟨gb103, 3, none⟩ = some (.int .i64 a0_3) := (blk_cell BK103.out 3).trans rfl
                              have hcz27_4 : wr.cell? ⟨gb103, 4, none⟩ = some (.int .i64 a0_4) := (blk_cell BK103.out 4).trans rfl
                              have hfz27_0 := blk_frozen BK103.out 0
                              have hfz27_1 := blk_frozen BK103.out 1
                              have hfz27_2 := blk_frozen BK103.out 2
                              have hfz27_3 := blk_frozen BK103.out 3
                              have hfz27_4 := blk_frozen BK103.out 4
                              have p106 : 0 ≤ (x7_3 : Int) := of_decide_eq_true (by first | (with_reducible assumption) | assumption)
                              have q106 : x7_3 < (l0_1.length : Int) := of_decide_eq_true (by first | (with_reducible assumption) | assumption)
                              obtain ⟨ad106, e106, hx106_0, hx106_1, hx106_2⟩ := at_T50 HR0_1.out x7_3 p106 q106
                              obtain rfl : ad104 = ad106 := (by injection e106)
                              replace hx106_0 := (HB.out.cell (World.block_lt_of_cell? w _ hx106_0)).trans hx106_0
                              replace hx106_1 := (HB.out.cell (World.block_lt_of_cell? w _ hx106_1)).trans hx106_1
                              replace hx106_2 := (HB.out.cell (World.block_lt_of_cell? w _ hx106_2)).trans hx106_2
                              replace p106 := eq_true p106
                              replace q106 := eq_true q106
                              have p107 : 0 ≤ (x7_3 : Int) := of_decide_eq_true (by first | (with_reducible assumption) | assumption)
                              have q107 : x7_3 < (l0_1.length : Int) := of_decide_eq_true (by first | (with_reducible assumption) | assumption)
                              obtain ⟨ad107, e107, hx107_0, hx107_1, hx107_2⟩ := at_T50 HR0_1.out x7_3 p107 q107
                              obtain rfl : ad104 = ad107 := (by injection e107)
                              replace hx107_0 := (HB.out.cell (World.block_lt_of_cell? w _ hx107_0)).trans hx107_0
                              replace hx107_1 := (HB.out.cell (World.block_lt_of_cell? w _ hx107_1)).trans hx107_1
                              replace hx107_2 := (HB.out.cell (World.block_lt_of_cell? w _ hx107_2)).trans hx107_2
                              replace p107 := eq_true p107
                              replace q107 := eq_true q107
                              go_wp2
                              repeat (go_quiet (fail); try go_wp2)
                              go_ret
                              exact ⟨by first | rfl | (simp [errW_none, errW_some] <;> rfl) | (simp [*, errW_none, errW_some] <;> rfl), by repeat (first | (with_reducible first | exact HB.out | apply below_alloc | apply pw_below_drewN | apply below_drew1 | refine below_set ?_ GE103.out | refine below_set ?_ GE105.out) | exact HB.out)⟩
                            · rw [if_neg c24] at H
                              have c24b0 : decide (((rd_T50 l0_1 x7_3).f0) ≤ ((rd_T50 l0_1 x5_1).f1)) = false := decide_eq_false c24
                              clear c24
                              have H' := Aside0.mk H
                              clear H
                              have hnb28 := NB105_103.out
                              have hnc28 := NB103_105.out
                              have hcz29_0 : wr.cell? ⟨gb105, 0, none⟩ = some (.int .u8 ((rd_T50 l0_1 x5_1).f0)) := (blk_cell BK105.out 0).trans rfl
                              have hcz29_1 : wr.cell? ⟨gb105, 1, none⟩ = some (.int .u8 ((rd_T50 l0_1 x5_1).f1)) := (blk_cell BK105.out 1).trans rfl
                              have hcz29_2 : wr.cell? ⟨gb105, 2, none⟩ = some (.int .i64 ((rd_T50 l0_1 x5_1).f2)) := (blk_cell BK105.out 2).trans rfl
                              have hfz29_0 := blk_frozen BK105.out 0
                              have hfz29_1 := blk_frozen BK105.out 1
                              have hfz29_2 := blk_frozen BK105.out 2
                              have hcz30_0 : wr.cell? ⟨gb103, 0, none⟩ = some (.int .i64 a0_0) := (blk_cell BK103.out 0).trans rfl
                              have hcz30_1 : wr.cell? ⟨gb103, 1, none⟩ = some (.slice (some ad104) l0_1.length c0_1) := (blk_cell BK103.out 1).trans rfl
                              have hcz30_2 : wr.cell? ⟨gb103, 2, none⟩ = some (.slice A0_2 l0_2.length c0_2) := (blk_cell BK103.out 2).trans rfl
                              have hcz30_3 : wr.cell? ⟨gb103, 3, none⟩ = some (.int .i64 a0_3) := (blk_cell BK103.out 3).trans rfl
                              have hcz30_4 : wr.cell? ⟨gb103, 4, none⟩ = some (.int .i64 a0_4) := (blk_cell BK103.out 4).trans rfl
                              have hfz30_0 := blk_frozen BK103.out 0
                              have hfz30_1 := blk_frozen BK103.out 1
                              have hfz30_2 := blk_frozen BK103.out 2
                              have hfz30_3 := blk_frozen BK103.out 3
                              have hfz30_4 := blk_frozen BK103.out 4
                              have p106 : 0 ≤ (x7_3 : Int) := of_decide_eq_true (by first | (with_reducible assumption) | assumption)
                              have q106 : x7_3 < (l0_1.length : Int) := of_decide_eq_true (by first | (with_reducible assumption) | assumption)
                              obtain ⟨ad106, e106, hx106_0, hx106_1, hx106_2⟩ := at_T50 HR0_1.out x7_3 p106 q106
                              obtain rfl : ad104 = ad106 := (by injection e106)
                              replace hx106_0 := (HB.out.cell (World.block_lt_of_cell? w _ hx106_0)).trans hx106_0
                              replace hx106_1 := (HB.out.cell (World.block_lt_of_cell? w _ hx106_1)).trans hx106_1
                              replace hx106_2 := (HB.out.cell (World.block_lt_of_cell? w _ hx106_2)).trans hx106_2
                              replace p106 := eq_true p106
                              replace q106 := eq_true q106
                              have p107 : 0 ≤ (x7_3 : Int) := of_decide_eq_true (by first | (with_reducible assumption) | assumption)
                              have q107 : x7_3 < (l0_1.length : Int) := of_decide_eq_true (by first | (with_reducible assumption) | assumption)
                              obtain ⟨ad107, e107, hx107_0, hx107_1, hx107_2⟩ := at_T50 HR0_1.out x7_3 p107 q107
                              obtain rfl : ad104 = ad107 := (by injection e107)
                              replace hx107_0 := (HB.out.cell (World.block_lt_of_cell? w _ hx107_0)).trans hx107_0
                              replace hx107_1 := (HB.out.cell (World.block_lt_of_cell? w _ hx107_1)).trans hx107_1
                              replace hx107_2 := (HB.out.cell (World.block_lt_of_cell? w _ hx107_2)).trans hx107_2
                              replace p107 := eq_true p107
                              replace q107 := eq_true q107
                              go_wp2
                              repeat (go_quiet (fail); try go_wp2)
                              go_roundg k3
                              case measure => have := HK1.out; have := HJ5.out; have := HK3.out; omega
                              case rel => exact ⟨(wrap64 (x7_3 + 1)), (by first | rfl | (simp; done) | (simp [*]; done)), H', ⟨by have := HK1.out; have := HJ5.out; have := HK3.out; omega⟩, ⟨by (with_reducible repeat (first | refine blk_drewN ?_ _ | refine blk_drew ?_ | refine blk_alloc ?_ _)); exact BK103.out⟩, ⟨by (with_reducible repeat (first | refine blk_drewN ?_ _ | refine blk_drew ?_ | refine blk_alloc ?_ _)); exact BK105.out⟩, ⟨by repeat (first | (with_reducible first | exact HB.out | apply below_alloc | apply pw_below_drewN | apply below_drew1 | refine below_set ?_ GE103.out | refine below_set ?_ GE105.out) | exact HB.out)⟩⟩
                          · rw [if_neg c23] at H
                            have c23b0 : decide (((rd_T50 l0_1 x5_1).f0) ≤ ((rd_T50 l0_1 x7_3).f1)) = false := decide_eq_false c23
                            clear c23
                            have H' := Aside0.mk H
                            clear H
                            have hnb31 := NB105_103.out
                            have hnc31 := NB103_105.out
                            have hcz32_0 : wr.cell? ⟨gb105, 0, none⟩ = some (.int .u8 ((rd_T50 l0_1 x5_1).f0)) := (blk_cell BK105.out 0).trans rfl
                            have hcz32_1 : wr.cell? ⟨gb105, 1, none⟩ = some (.int .u8 ((rd_T50 l0_1 x5_1).f1)) := (blk_cell BK105.out 1).trans rfl
                            have hcz32_2 : wr.cell? ⟨gb105, 2, none⟩ = some (.int .i64 ((rd_T50 l0_1 x5_1).f2)) := (blk_cell BK105.out 2).trans rfl
                            have hfz32_0 := blk_frozen BK105.out 0
                            have hfz32_1 := blk_frozen BK105.out 1
                            have hfz32_2 := blk_frozen BK105.out 2
                            have hcz33_0 : wr.cell? ⟨gb103, 0, none⟩ = some (.int .i64 a0_0) := (blk_cell BK103.out 0).trans rfl
                            have hcz33_1 : wr.cell? ⟨gb103, 1, none⟩ = some (.slice (some ad104) l0_1.length c0_1) := (blk_cell BK103.out 1).trans rfl
                            have hcz33_2 : wr.cell? ⟨gb103, 2, none⟩ = some (.slice A0_2 l0_2.length c0_2) := (blk_cell BK103.out 2).trans rfl
                            have hcz33_3 : wr.cell? ⟨gb103, 3, none⟩ = some (.int .i64 a0_3) := (blk_cell BK103.out 3).trans rfl
                            have hcz33_4 : wr.cell? ⟨gb103, 4, none⟩ = some (.int .i64 a0_4) := (blk_cell BK103.out 4).trans rfl
                            have hfz33_0 := blk_frozen BK103.out 0
                            have hfz33_1 := blk_frozen BK103.out 1
                            have hfz33_2 := blk_frozen BK103.out 2
                            have hfz33_3 := blk_frozen BK103.out 3
                            have hfz33_4 := blk_frozen BK103.out 4
                            have p106 : 0 ≤ (x7_3 : Int) := of_decide_eq_true (by first | (with_reducible assumption) | assumption)
                            have q106 : x7_3 < (l0_1.length : Int) := of_decide_eq_true (by first | (with_reducible assumption) | assumption)
                            obtain ⟨ad106, e106, hx106_0, hx106_1, hx106_2⟩ := at_T50 HR0_1.out x7_3 p106 q106
                            obtain rfl : ad104 = ad106 := (by injection e106)
                            replace hx106_0 := (HB.out.cell (World.block_lt_of_cell? w _ hx106_0)).trans hx106_0
                            replace hx106_1 := (HB.out.cell (World.block_lt_of_cell? w _ hx106_1)).trans hx106_1
                            replace hx106_2 := (HB.out.cell (World.block_lt_of_cell? w _ hx106_2)).trans hx106_2
                            replace p106 := eq_true p106
                            replace q106 := eq_true q106
                            go_wp2
                            repeat (go_quiet (fail); try go_wp2)
                            go_roundg k3
                            case measure => have := HK1.out; have := HJ5.out; have := HK3.out; omega
                            case rel => exact ⟨(wrap64 (x7_3 + 1)), (by first | rfl | (simp; done) | (simp [*]; done)), H', ⟨by have := HK1.out; have := HJ5.out; have := HK3.out; omega⟩, ⟨by (with_reducible repeat (first | refine blk_drewN ?_ _ | refine blk_drew ?_ | refine blk_alloc ?_ _)); exact BK103.out⟩, ⟨by (with_reducible repeat (first | refine blk_drewN ?_ _ | refine blk_drew ?_ | refine blk_alloc ?_ _)); exact BK105.out⟩, ⟨by repeat (first | (with_reducible first | exact HB.out | apply below_alloc | apply pw_below_drewN | apply below_drew1 | refine below_set ?_ GE103.out | refine below_set ?_ GE105.out) | exact HB.out)⟩⟩
                        · rw [if_neg c22] at H
                          exact absurd H (by simp)
                      · rw [if_neg c21] at H
                        exact absurd H (by simp)
                    · rw [if_neg c20] at H
                      have c20b0 : decide (x7_3 < x5_1) = false := decide_eq_false c20
                      clear c20
                      have H' := Aside0.mk H
                      clear H
                      go_wp2
                      repeat (go_quiet (fail); try go_wp2)
                      go_roundg k3
                      case measure => have := HK1.out; have := HJ5.out; have := HK3.out; omega
                      case rel => exact ⟨(wrap64 (x5_1 + 1)), (by first | rfl | (simp; done) | (simp [*]; done)), H', ⟨by have := HK1.out; have := HJ5.out; have := HK3.out; omega⟩, ⟨by (with_reducible repeat (first | refine blk_drewN ?_ _ | refine blk_drew ?_ | refine blk_alloc ?_ _)); exact BK103.out⟩, ⟨by repeat (first | (with_reducible first | exact HB.out | apply below_alloc | apply pw_below_drewN | apply below_drew1 | refine below_set ?_ GE103.out | refine below_set ?_ GE105.out) | exact HB.out)⟩⟩
        · rw [if_neg c5] at H
          exact absurd H (by simp)
      · rw [if_neg c4] at H
        have c4b0 : decide (x5_1 < (l0_1.length : Int)) = false := decide_eq_false c4
        clear c4
        by_cases c34 : (l0_2.length : Int) = 0
        · rw [if_pos c34] at H
          have c34b0 : ((l0_2.length : Int) == 0) = true := beq_iff_eq.mpr c34
          have c34b1 : ((l0_2.length : Int) != 0) = false := bne_eq_false_iff_eq.mpr c34
          clear c34
          obtain rfl := Option.some.inj H
          have hcz35_0 : wr.cell? ⟨gb103, 0, none⟩ = some (.int .i64 a0_0) := (blk_cell BK103.out 0).trans rfl
          have hcz35_1 : wr.cell? ⟨gb103, 1, none⟩ = some (.slice A0_1 l0_1.length c0_1) := (blk_cell BK103.out 1).trans rfl
          have hcz35_2 : wr.cell? ⟨gb103, 2, none⟩ = some (.slice A0_2 l0_2.length c0_2) := (blk_cell BK103.out 2).trans rfl
          have hcz35_3 : wr.cell? ⟨gb103, 3, none⟩ = some (.int .i64 a0_3) := (blk_cell BK103.out 3).trans rfl
          have hcz35_4 : wr.cell? ⟨gb103, 4, none⟩ = some (.int .i64 a0_4) := (blk_cell BK103.out 4).trans rfl
          have hfz35_0 := blk_frozen BK103.out 0
          have hfz35_1 := blk_frozen BK103.out 1
          have hfz35_2 := blk_frozen BK103.out 2
          have hfz35_3 := blk_frozen BK103.out 3
          have hfz35_4 := blk_frozen BK103.out 4
          go_wp2
          repeat (go_quiet (fail); try go_wp2)
          go_ret
          exact ⟨by first | rfl | (simp [errW_none, errW_some] <;> rfl) | (simp [*, errW_none, errW_some] <;> rfl), by repeat (first | (with_reducible first | exact HB.out | apply below_alloc | apply pw_below_drewN | apply below_drew1 | refine below_set ?_ GE103.out) | exact HB.out)⟩
        · rw [if_neg c34] at H
          have c34b0 : ((l0_2.length : Int) == 0) = false := beq_eq_false_iff_ne.mpr c34
          have c34b1 : ((l0_2.length : Int) != 0) = true := bne_iff_ne.mpr c34
          have c34b2 : ¬ (l0_2 = []) := fun h_ => c34 (by rw [h_]; rfl)
          obtain rfl := Option.some.inj H
          have hcz36_0 : wr.cell? ⟨gb103, 0, none⟩ = some (.int .i64 a0_0) := (blk_cell BK103.out 0).trans rfl
          have hcz36_1 : wr.cell? ⟨gb103, 1, none⟩ = some (.slice A0_1 l0_1.length c0_1) := (blk_cell BK103.out 1).trans rfl
          have hcz36_2 : wr.cell? ⟨gb103, 2, none⟩ = some (.slice A0_2 l0_2.length c0_2) := (blk_cell BK103.out 2).trans rfl
          have hcz36_3 : wr.cell? ⟨gb103, 3, none⟩ = some (.int .i64 a0_3) := (blk_cell BK103.out 3).trans rfl
          have hcz36_4 : wr.cell? ⟨gb103, 4, none⟩ = some (.int .i64 a0_4) := (blk_cell BK103.out 4).trans rfl
          have hfz36_0 := blk_frozen BK103.out 0
          have hfz36_1 := blk_frozen BK103.out 1
          have hfz36_2 := blk_frozen BK103.out 2
          have hfz36_3 := blk_frozen BK103.out 3
          have hfz36_4 := blk_frozen BK103.out 4
          go_wp2
          repeat (go_quiet (fail); try go_wp2)
          go_ret
          exact ⟨by first | rfl | (simp [errW_none, errW_some] <;> rfl) | (simp [*, errW_none, errW_some] <;> rfl), by repeat (first | (with_reducible first | exact HB.out | apply below_alloc | apply pw_below_drewN | apply below_drew1 | refine below_set ?_ GE103.out) | exact HB.out)⟩
end Go.Proofs.Ytacnflelkpkbhaa.PA
end
