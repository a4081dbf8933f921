/- Texts of this claim, those that nothing needs left out: Zmr Zmw Xr Xvn PAx1 PAx2 PAx3. -/
import Derived.Test.YtacnflelkpkbhaaMlG3
import Derived.Test.YtacnflelkpkbhaaMlG1
import Derived.Test.YtacnflelkpkbhaaProg
import Derived.Below
import Derived.Deep.Draws
import Derived.Deep.AppendLies
import Derived.Maps.AppendAt
import Derived.OwnWalk
import Derived.Laws.BytesArg
import Derived.Laws.MakeOwn
import Derived.Laws.OwnMore
import Derived.Deep.OwnRows
import Derived.Tactics
import Derived.Lib.ConvBytes
import Derived.Laws.Slices
import Derived.WalkKit
import Derived.KernelRfl
import Derived.RowKit3
import Derived.Deep.LoopGhost
import Derived.Deep.QuietTactic
import Derived.BigQuiet
import Derived.WideLaws
import Derived.Deep.DeepCutAuto
import Derived.Deep.CutBlock
import Derived.Deep.RegionHeld3
import Derived.Laws.Rows
import Derived.Lib.AppendStr
import Derived.ArgAppend
import Derived.Laws.IdiomCopy
import Derived.OrdersHeld
import Derived.Laws.BitsLemmas
import Derived.RowKit
import Derived.Test.YtacnflelkpkbhaaMlG0
import Derived.ProofKit
import Derived.OpenShut
import Derived.ShutString
import Derived.Deep.Slices
import Derived.Lib.SmallJoins
section
namespace Go.Proofs.Ytacnflelkpkbhaa.PA
set_option linter.unusedSimpArgs false
set_option linter.unusedVariables false
open Go.RowKit Go.Maps Go.Proofs.YtacnflelkpkbhaaW.PrintWords Go.Proofs.YtacnflelkpkbhaaW.PrintLast Go.Proofs.YtacnflelkpkbhaaW.PrintMore
theorem add_zero_off (g n : Nat) : ((⟨g, 0, none⟩ : Addr).add n) = ⟨g, 0 + n, none⟩ := by cases n <;> simp [Addr.add]
theorem cells5m {w : World} {B : Nat} {a b c d e : Value} {t : TypeId} (h : w.heap[B]? = some (.cells #[a, b, c, d, e] t (0, 0))) :
    w.cell? ⟨B, 0, none⟩ = some a ∧ w.cell? ⟨B, 1, none⟩ = some b ∧ w.cell? ⟨B, 2, none⟩ = some c ∧ w.cell? ⟨B, 3, none⟩ = some d ∧ w.cell? ⟨B, 4, none⟩ = some e := by
  refine ⟨?_, ?_, ?_, ?_, ?_⟩ <;> simp [blk_cell h]
theorem addr_keep {W W' : World} (hb : Below W.heap.size W W') {p : Addr} {v : Value} (h : W.cell? p = some v) : W'.cell? p = some v := (hb.cell (p := p) (World.block_lt_of_cell? W _ h)).trans h
theorem own_below {w w' : World} {b : Nat} {e : TypeId} {sz n : Nat} {v : Value} {xs : List Value} (h : w.ownsRow b e sz v n xs) (hb : Below w.heap.size w w') : w'.ownsRow b e sz v n xs :=
  own_move h fun k hk => hb.block k (own_lt h k hk)
theorem own_lower {w : World} {b b' : Nat} {e : TypeId} {sz n : Nat} {v : Value} {xs : List Value} (h : w.ownsRow b e sz v n xs) (hb : b' ≤ b) : w.ownsRow b' e sz v n xs := by
  obtain ⟨h1, h2⟩ := h
  refine ⟨h1, ?_⟩
  rcases h2 with h2 | ⟨g, cap, cur, hv, hg, hr⟩
  · exact .inl h2
  · exact .inr ⟨g, cap, cur, hv, Nat.le_trans hb hg, hr⟩
theorem own_base {w : World} {b : Nat} {e : TypeId} {sz n : Nat} {v : Value} {xs : List Value} (h : w.ownsRow b e sz v n xs) (k : Nat) (hk : v.ownBlock = some k) : b ≤ k := by
  rcases h.2 with ⟨rfl, _⟩ | ⟨g, cap, cur, rfl, hg, _⟩
  · cases hk
  · have : g = k := by injection hk
    omega
theorem blk_row {W W' : World} {x : Nat} {cs : Array Value} {t : TypeId} (h : W.heap[x]? = some (.cells cs t (0, 0))) {base k : Nat} {e : TypeId} {sz : Nat} {v : Value} {xs : List Value} (ho : W.ownsRow base e sz v k xs) (he : t ≠ e) (hg : W.grownBy W' v.ownBlock) : W'.heap[x]? = some (.cells cs t (0, 0)) := by
  refine (hg.block _ (blk_lt h) (fun e1 => ?_)).trans h
  obtain ⟨cells, hc⟩ := own_typed ho x e1.symm
  rw [h] at hc
  injection hc with hc
  injection hc with _ h3 _
  exact he h3
theorem nodes_row {w : World} {b n : Nat} {v : Value} {l : List S33} {inner : List Value} (h : w.ownsRow b 33 5 v n inner) (hn : n = l.length) (hr : Reps (k33.K w) 5 l inner) : ∃ A c, v = .slice A l.length c ∧ l.length ≤ c ∧ Kd.C k33 w A l.length l := by
  subst hn
  exact OwnRow.reads ⟨inner, h, hr⟩
theorem ints_row {w : World} {b : Nat} {l : List Int} {v : Value} (h : w.ownsRow b 3 1 v l.length (l.map (Value.int .i64))) : ∃ A c, v = .slice A l.length c ∧ l.length ≤ c ∧ Kd.C (Kd.int .i64) w A l.length l := by
  refine OwnRow.reads (R := fun x cs => (Kd.int .i64).K w x cs) ⟨_, h, ?_⟩
  clear h
  induction l with
  | nil => exact Reps.none _ _
  | cons x r ih => exact Reps.one (show (Kd.int .i64).K w x [.int .i64 x] from rfl) ih
end Go.Proofs.Ytacnflelkpkbhaa.PA
end
section
namespace Go.Proofs.Ytacnflelkpkbhaa.PA
set_option linter.unusedSimpArgs false
set_option linter.unusedVariables false
open Go.RowKit Go.Proofs.YtacnflelkpkbhaaW.PrintWords Go.Proofs.YtacnflelkpkbhaaW.PrintLast
def stepE (s : List UInt8) (p : Nat) (e : S48) : Bool := match s[p]? with
  | some c => decide (e.f0 ≤ (c.toNat : Int)) && decide ((c.toNat : Int) ≤ e.f1)
  | none => false
def nextsN (s : List UInt8) (p : Nat) (n : S33) : List (Nat × Nat) :=
  if n.f0 = 3 then [(n.f4.toNat, p)]
  else if n.f0 = 2 then n.f2.map fun t => (t.toNat, p)
  else if n.f0 = 1 then (n.f1.filter (stepE s p)).map fun e => (e.f2.toNat, p + 1)
  else []
def nexts (m : List S33) (s : List UInt8) (p : Nat × Nat) : List (Nat × Nat) := match m[p.1]? with
  | some n => nextsN s p.2 n
  | none => []
def endsB (m : List S33) (s : List UInt8) (p : Nat × Nat) : Bool := match m[p.1]? with
  | some n => decide (n.f0 = 4) && decide (p.2 = s.length)
  | none => false
def addW (f : Nat × Nat → Nat) (n : Nat) (q : Nat × Nat) : Nat := min (n + f q) 1000
def ways (m : List S33) (s : List UInt8) : Nat → Nat × Nat → Nat
  | 0, _ => 0
  | k + 1, p => (nexts m s p).foldl (addW (ways m s k)) (if endsB m s p = true then 1 else 0)
def validP (m : List S33) (s : List UInt8) (p : Nat × Nat) : Prop := p.1 < m.length ∧ p.2 ≤ s.length
def mu (m : List S33) (s : List UInt8) (p : Nat × Nat) : Nat := (s.length - p.2) * m.length + (m.length - p.1)
def waysOf (m : List S33) (s : List UInt8) (p : Nat × Nat) : Nat := ways m s (mu m s p) p
theorem right_at {m : List S33} (h : mayB m = true) {i : Nat} {n : S33} (hi : m[i]? = some n) : rightB m.length (i : Int) n = true := by
  obtain ⟨hl, rfl⟩ := List.getElem?_eq_some_iff.1 hi
  exact (mayB_iff.1 h).2 i hl
theorem nexts_valid {m : List S33} {s : List UInt8} (hm : mayB m = true) {p q : Nat × Nat} (hp : validP m s p) (hq : q ∈ nexts m s p) : validP m s q ∧ mu m s q < mu m s p ∧ p.2 ≤ q.2 := by
  obtain ⟨i, a⟩ := p
  obtain ⟨h1, h2⟩ := hp
  dsimp only at h1 h2
  have hn := List.getElem?_eq_getElem h1
  unfold nexts at hq
  rw [show ((i, a) : Nat × Nat).1 = i from rfl, hn] at hq
  have hr := right_at hm hn
  generalize m[i] = n at hq hr
  dsimp only at hq
  have same : ∀ t : Int, (i : Int) < t → t < m.length → validP m s (t.toNat, a) ∧ mu m s (t.toNat, a) < mu m s (i, a) ∧ a ≤ a := by
    intro t h3 h4
    refine ⟨⟨by dsimp only; omega, h2⟩, ?_, Nat.le_refl _⟩
    unfold mu
    dsimp only
    omega
  unfold nextsN at hq
  unfold rightB at hr
  by_cases k3 : n.f0 = 3
  · rw [if_pos k3] at hq
    rw [if_neg (by omega), if_neg (by omega), if_pos k3] at hr
    simp only [Bool.and_eq_true, decide_eq_true_eq, List.isEmpty_iff] at hr
    obtain rfl := List.mem_singleton.1 hq
    exact same _ hr.2.1 hr.2.2
  · rw [if_neg k3] at hq
    by_cases k2 : n.f0 = 2
    · rw [if_pos k2] at hq
      rw [if_neg (by omega), if_pos k2] at hr
      simp only [Bool.and_eq_true, decide_eq_true_eq, List.isEmpty_iff, List.all_eq_true] at hr
      obtain ⟨t, ht, rfl⟩ := List.mem_map.1 hq
      exact same _ (hr.2 t ht).1 (hr.2 t ht).2
    · rw [if_neg k2] at hq
      by_cases k1 : n.f0 = 1
      · rw [if_pos k1] at hq
        rw [if_pos k1] at hr
        simp only [Bool.and_eq_true, decide_eq_true_eq, List.isEmpty_iff] at hr
        obtain ⟨e, he, rfl⟩ := List.mem_map.1 hq
        obtain ⟨he1, he2⟩ := List.mem_filter.1 he
        have ho := (eatsB_iff.1 hr.2).1 e he1
        simp only [okE, Bool.and_eq_true, decide_eq_true_eq] at ho
        have ha : a < s.length := by
          unfold stepE at he2
          split at he2
          · exact (List.getElem?_eq_some_iff.1 (by assumption)).1
          · cases he2
        refine ⟨⟨by dsimp only; omega, ha⟩, ?_, Nat.le_succ _⟩
        unfold mu
        dsimp only
        have e1 : s.length - a = (s.length - (a + 1)) + 1 := by omega
        rw [e1, Nat.succ_mul]
        omega
      · rw [if_neg k1] at hq
        cases hq
theorem foldl_addW_congr {f g : Nat × Nat → Nat} : ∀ (l : List (Nat × Nat)) (n : Nat), (∀ q ∈ l, f q = g q) → l.foldl (addW f) n = l.foldl (addW g) n
  | [], _, _ => rfl
  | q :: r, n, h => by
    rw [List.foldl_cons, List.foldl_cons, show addW f n q = addW g n q from by unfold addW; rw [h q (by simp)]]
    exact foldl_addW_congr r _ fun x hx => h x (by simp [hx])
theorem mu_pos {m : List S33} {s : List UInt8} {p : Nat × Nat} (hp : validP m s p) : 0 < mu m s p := by
  unfold mu
  have := hp.1
  omega
theorem ways_stable {m : List S33} {s : List UInt8} (hm : mayB m = true) : ∀ (n : Nat) (p : Nat × Nat), mu m s p ≤ n → validP m s p → ∀ k, mu m s p ≤ k → ways m s k p = waysOf m s p := by
  intro n
  induction n with
  | zero => intro p h hp; have := mu_pos hp; omega
  | succ n ih =>
    intro p h hp k hk
    have h0 := mu_pos hp
    unfold waysOf
    obtain ⟨j, hj⟩ : ∃ j, mu m s p = j + 1 := ⟨mu m s p - 1, by omega⟩
    obtain ⟨i, hi⟩ : ∃ i, k = i + 1 := ⟨k - 1, by omega⟩
    rw [hj, hi, ways, ways]
    refine foldl_addW_congr _ _ fun q hq => ?_
    obtain ⟨h1, h2, _⟩ := nexts_valid hm hp hq
    rw [ih q (by omega) h1 i (by omega), ih q (by omega) h1 j (by omega)]
theorem waysOf_eq {m : List S33} {s : List UInt8} (hm : mayB m = true) {p : Nat × Nat} (hp : validP m s p) : waysOf m s p = (nexts m s p).foldl (addW (waysOf m s)) (if endsB m s p = true then 1 else 0) := by
  have h0 := mu_pos hp
  obtain ⟨j, hj⟩ : ∃ j, mu m s p = j + 1 := ⟨mu m s p - 1, by omega⟩
  conv => lhs; unfold waysOf
  rw [hj, ways]
  refine foldl_addW_congr _ _ fun q hq => ?_
  obtain ⟨h1, h2, _⟩ := nexts_valid hm hp hq
  exact ways_stable hm _ q (Nat.le_refl _) h1 j (by omega)
end Go.Proofs.Ytacnflelkpkbhaa.PA
end
section
namespace Go.Proofs.Ytacnflelkpkbhaa.X
set_option linter.unusedSimpArgs false
set_option linter.unusedVariables false
open Go.RowKit Go.Joins Go.WideShapes Go.ChangeShapes Go.Proofs.YtacnflelkpkbhaaW.PrintWords
variable {P : Program}
end Go.Proofs.Ytacnflelkpkbhaa.X
end
section
namespace Go.Proofs.Ytacnflelkpkbhaa.PA
set_option linter.unusedSimpArgs false
set_option linter.unusedVariables false
open Go.RowKit Go.Joins Go.WideShapes Go.ChangeShapes Go.Proofs.YtacnflelkpkbhaaW.PrintWords X
end Go.Proofs.Ytacnflelkpkbhaa.PA
end
section
namespace Go.Proofs.Ytacnflelkpkbhaa.PA
open Go.RowKit Go.Proofs.YtacnflelkpkbhaaW.PrintWords Go.Proofs.YtacnflelkpkbhaaW.PrintLast Go.Proofs.YtacnflelkpkbhaaW.PrintMore
attribute [local go_sem] max2_int min2_int max_two min_two max_three min_three max_four min_four   -- for this text's walks alone
set_option linter.unusedVariables false
set_option linter.unusedSimpArgs false
end Go.Proofs.Ytacnflelkpkbhaa.PA
end
section
namespace Go.Proofs.Ytacnflelkpkbhaa.PA
open Go.RowKit Go.Proofs.YtacnflelkpkbhaaW.PrintWords Go.Proofs.YtacnflelkpkbhaaW.PrintLast Go.Proofs.YtacnflelkpkbhaaW.PrintMore
attribute [local go_sem] max2_int min2_int max_two min_two max_three min_three max_four min_four   -- for this text's walks alone
set_option linter.unusedVariables false
set_option linter.unusedSimpArgs false
end Go.Proofs.Ytacnflelkpkbhaa.PA
end
section
namespace Go.Proofs.Ytacnflelkpkbhaa.PA
open Go.RowKit Go.Proofs.YtacnflelkpkbhaaW.PrintWords Go.Proofs.YtacnflelkpkbhaaW.PrintLast Go.Proofs.YtacnflelkpkbhaaW.PrintMore
attribute [local go_sem] max2_int min2_int max_two min_two max_three min_three max_four min_four   -- for this text's walks alone
set_option linter.unusedVariables false
set_option linter.unusedSimpArgs false
end Go.Proofs.Ytacnflelkpkbhaa.PA
end
