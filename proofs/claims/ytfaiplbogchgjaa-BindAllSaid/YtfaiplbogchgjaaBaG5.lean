/- Texts of this claim, those that nothing needs left out: Xk Xr. -/
import Derived.Test.YtfaiplbogchgjaaBaG0
import Derived.Test.YtfaiplbogchgjaaProg
import Derived.Below
import Derived.Deep.Draws
import Derived.Deep.AppendLies
import Derived.Maps.AppendAt
import Derived.OwnWalk
import Derived.Laws.BytesArg
import Derived.Laws.MakeOwn
import Derived.Laws.OwnMore
import Derived.Deep.OwnRows
import Derived.Tactics
import Derived.Lib.ConvBytes
import Derived.Laws.Slices
import Derived.WalkKit
import Derived.KernelRfl
import Derived.RowKit3
import Derived.Deep.LoopGhost
import Derived.Deep.QuietTactic
import Derived.BigQuiet
import Derived.WideLaws
import Derived.Deep.DeepCutAuto
import Derived.Deep.CutBlock
import Derived.Deep.RegionHeld3
import Derived.Laws.Rows
import Derived.Lib.AppendStr
import Derived.ArgAppend
import Derived.Laws.IdiomCopy
import Derived.OrdersHeld
import Derived.Laws.BitsLemmas
import Derived.RowKit
import Derived.ProofKit
import Derived.OpenShut
import Derived.ShutString
import Derived.Deep.Slices
import Derived.Lib.SmallJoins
section
namespace Go.Proofs.YtfaiplbogchgjaaW.PrintWords
open Go.RowKit
end Go.Proofs.YtfaiplbogchgjaaW.PrintWords
end
section
namespace Go.Proofs.Ytfaiplbogchgjaa.X
set_option linter.unusedSimpArgs false
set_option linter.unusedVariables false
open Go.RowKit Go.Joins Go.WideShapes Go.ChangeShapes Go.Proofs.YtfaiplbogchgjaaW.PrintWords
def Down {α : Type} (P : Program) (d : Kd α) (ok : α → Prop) (t : TypeId) : Prop :=
  ∀ (H : Type) (enc : TypeId × Value → H) (w : World) (base : Nat) (spare : Nat → Bool) (held : Bool) (fuel : Nat) (cs : List Value) (x : DataW H × List MemPlace), DataW.trod enc P w base spare held fuel t cs = some x → ∃ a, d.K w a cs ∧ ok a
variable {P : Program}
theorem down_int {t : TypeId} {k : IntKind} (ht : P.underlying t = some (.int k)) : Down P (Kd.int k) (fun n => (Lit.int k n).wf = true) t := by
  intro H enc w base spare held fuel cs x h
  obtain ⟨n, rfl, _, hw⟩ := DataW.trod_int ht h
  exact ⟨n, rfl, hw⟩
theorem down_string {t : TypeId} (ht : P.underlying t = some .string) : Down P Kd.string (fun s => s.size ≤ maxLen) t := by
  intro H enc w base spare held fuel cs x h
  obtain ⟨n, rfl, _, hw⟩ := DataW.trod_string ht h
  exact ⟨n, rfl, hw⟩
theorem list_of {α : Type} (R : Nat → α → Prop) : ∀ n : Nat, (∀ i, i < n → ∃ a, R i a) → ∃ xs : List α, xs.length = n ∧ ∀ i a, xs[i]? = some a → R i a := by
  intro n
  induction n with
  | zero => intro _; exact ⟨[], rfl, fun i a h => by simp at h⟩
  | succ n ih =>
    intro h
    obtain ⟨xs, hl, hx⟩ := ih (fun i hi => h i (by omega))
    obtain ⟨a, ha⟩ := h n (by omega)
    refine ⟨xs ++ [a], by simp [hl], fun i b hb => ?_⟩
    rcases Nat.lt_or_ge i xs.length with hi | hi
    · rw [List.getElem?_append_left hi] at hb; exact hx i b hb
    · have hlt := (List.getElem?_eq_some_iff.1 hb).1
      rw [List.length_append, List.length_singleton] at hlt
      have : i = xs.length := by omega
      subst this
      simp at hb
      rw [← hb, hl]; exact ha
theorem down_slice {α : Type} {d : Kd α} {ok : α → Prop} {t e : TypeId} (ht : P.underlying t = some (.slice e)) (he : Down P d ok e) (hsz : P.cellsOf e = d.sz) : Down P (Kd.slice e d) (fun xs => ∀ x ∈ xs, ok x) t := by
  intro H enc w base spare held fuel cs x h
  rcases Go.Deep.open_slice ht h with ⟨rfl, _⟩ | ⟨a, len, cap, m, n, D, Pl, rfl, hb, hl, hm, hmm, _, hel⟩
  · exact ⟨[], ⟨none, 0, rfl, Nat.le_refl _, rfl, by simp, fun h => absurd h (Nat.lt_irrefl 0)⟩, fun x hx => by simp at hx⟩
  · have hlm : len ≤ m := by rw [hmm]; split <;> omega
    obtain ⟨xs, hxl, hx⟩ := list_of (fun i p => ∃ c, d.K w p c ∧ ok p ∧ w.cells? base (a.add (i * P.cellsOf e)) (P.cellsOf e) = some c) len (fun i hi => by
      obtain ⟨c, h1, h2⟩ := hel i (by omega)
      obtain ⟨p, h3, h4⟩ := he H enc w base spare held n c _ h2
      exact ⟨p, c, h3, h4, h1⟩)
    have hmax : maxLen = 9223372036854775807 := by decide
    refine ⟨xs, ⟨some a, cap, by rw [hxl], by omega, rfl, by omega, fun _ => ⟨a, rfl, fun j p hj => ?_⟩⟩, fun p hp => ?_⟩
    · obtain ⟨c, h1, _, h3⟩ := hx j p hj
      refine ⟨c, d.K_len h1, h1, fun i u hu => ?_⟩
      obtain ⟨_, h5, h6⟩ := World.cells?_some h3
      have hi : i < P.cellsOf e := by rw [hsz, ← d.K_len h1]; exact (List.getElem?_eq_some_iff.1 hu).1
      have h7 := h6 i hi
      rw [Go.Deep.add_add, hsz] at h7
      rw [h7]; exact hu
    · obtain ⟨i, hi, rfl⟩ := List.mem_iff_getElem.1 hp
      obtain ⟨_, _, h2, _⟩ := hx i _ (List.getElem?_eq_getElem hi)
      exact h2
def FDown {α : Type} (P : Program) (d : Kd α) (ok : α → Prop) (fs : List Field) (o : Nat) : Prop :=
  ∀ (H : Type) (enc : TypeId × Value → H) (w : World) (base : Nat) (spare : Nat → Bool) (held : Bool) (n : Nat) (cs : List Value), cs.length = o + d.sz →
    (∀ f ∈ fs, ∃ x, DataW.trod enc P w base spare held n f.type ((cs.drop f.offset).take (P.cellsOf f.type)) = some x) → ∃ a, d.K w a (cs.drop o) ∧ ok a
theorem fdown_one {α : Type} {d : Kd α} {ok : α → Prop} {f : Field} {o : Nat} (hf : Down P d ok f.type) (ho : f.offset = o) (hs : P.cellsOf f.type = d.sz) : FDown P d ok [f] o := by
  intro H enc w base spare held n cs hl h
  obtain ⟨x, hx⟩ := h f (List.mem_singleton.2 rfl)
  rw [ho, List.take_of_length_le (by rw [List.length_drop, hs]; omega)] at hx
  exact hf H enc w base spare held n _ x hx
theorem fdown_cons {α β : Type} {a : Kd α} {b : Kd β} {oka : α → Prop} {okb : β → Prop} {f : Field} {fs : List Field} {o : Nat} (hf : Down P a oka f.type) (ho : f.offset = o) (hs : P.cellsOf f.type = a.sz) (hr : FDown P b okb fs (o + a.sz)) :
    FDown P (Kd.pair a b) (fun x => oka x.1 ∧ okb x.2) (f :: fs) o := by
  intro H enc w base spare held n cs hl h
  have hl : cs.length = o + (a.sz + b.sz) := hl
  obtain ⟨x, hx⟩ := h f List.mem_cons_self
  rw [ho, hs] at hx
  obtain ⟨p, hp, hpo⟩ := hf H enc w base spare held n _ x hx
  obtain ⟨q, hq, hqo⟩ := hr H enc w base spare held n cs (by omega) (fun g hg => h g (List.mem_cons_of_mem _ hg))
  refine ⟨(p, q), ⟨_, _, ?_, hp, hq⟩, hpo, hqo⟩
  rw [← List.drop_drop, List.take_append_drop]
theorem down_struct {α : Type} {d : Kd α} {ok : α → Prop} {t : TypeId} {fs : Array Field} (ht : P.underlying t = some (.struct fs)) (hf : FDown P d ok fs.toList 0) (hs : P.cellsOf t = d.sz) : Down P d ok t := by
  intro H enc w base spare held fuel cs x h
  obtain ⟨xs, n, _, _, hl, hxl, hx⟩ := DataW.trod_struct ht h
  have := hf H enc w base spare held n cs (by omega) (fun f hfm => by
    obtain ⟨i, hi, rfl⟩ := List.mem_iff_getElem.1 hfm
    have h1 : fs[i]? = some fs.toList[i] := by simp at hi; simp [hi]
    have h2 := hx i _ h1
    simp at hi
    rw [List.getElem?_eq_getElem (by omega)] at h2
    exact ⟨_, h2⟩)
  simpa using this
theorem down_iso {α β : Type} {d : Kd α} {ok : α → Prop} {t : TypeId} {f : β → α} (g : α → β) (hg : ∀ x, f (g x) = x) (h : Down P d ok t) : Down P (Kd.iso d f) (fun y => ok (f y)) t := by
  intro H enc w base spare held fuel cs x hx
  obtain ⟨a, h1, h2⟩ := h H enc w base spare held fuel cs x hx
  exact ⟨g a, by show d.K w (f (g a)) cs; rw [hg]; exact h1, by show ok (f (g a)); rw [hg]; exact h2⟩
theorem arg_slice {α : Type} {d : Kd α} {ok : α → Prop} {t e : TypeId} (ht : P.underlying t = some (.slice e)) (hd : Down P d ok e) (hsz : P.cellsOf e = d.sz) {H : Type} {enc : TypeId × Value → H} {w : World} {r : Reach} {b0 : Nat} {base : Nat} {spare : Nat → Bool} {held : Bool} {v : Value} {x : DataW H} {p : List MemPlace}
    (hv : Value.okWide P w r b0 t v) (h : DataW.Trod enc P w base spare held t v x p) : ∃ (A : Option Addr) (xs : List α) (c : Nat), v = .slice A xs.length c ∧ xs.length ≤ c ∧ d.C w A xs.length xs ∧ ∀ x ∈ xs, ok x := by
  obtain ⟨a0, len, cap, rfl⟩ := okWide_slice ht hv
  obtain ⟨fuel, hf⟩ := h
  obtain ⟨xs, ⟨A, c, he, hl, hc⟩, ho⟩ := down_slice ht hd hsz H enc w base spare held fuel _ _ hf
  simp [Value.cells] at he
  obtain ⟨rfl, rfl, rfl⟩ := he
  exact ⟨_, xs, _, rfl, hl, hc, ho⟩
end Go.Proofs.Ytfaiplbogchgjaa.X
end
