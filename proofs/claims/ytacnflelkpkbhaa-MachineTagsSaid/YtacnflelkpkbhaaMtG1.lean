/- Texts of this claim, those that nothing needs left out: Xb Xs. -/
import Derived.Test.YtacnflelkpkbhaaProg
import Derived.Below
import Derived.Deep.Draws
import Derived.Deep.AppendLies
import Derived.Maps.AppendAt
import Derived.OwnWalk
import Derived.Laws.BytesArg
import Derived.Laws.MakeOwn
import Derived.Laws.OwnMore
import Derived.Deep.OwnRows
import Derived.Tactics
import Derived.Lib.ConvBytes
import Derived.Laws.Slices
import Derived.WalkKit
import Derived.KernelRfl
import Derived.RowKit3
import Derived.Deep.LoopGhost
import Derived.Deep.QuietTactic
import Derived.BigQuiet
import Derived.WideLaws
import Derived.Deep.DeepCutAuto
import Derived.Deep.CutBlock
import Derived.Deep.RegionHeld3
import Derived.Laws.Rows
import Derived.Lib.AppendStr
import Derived.ArgAppend
import Derived.Laws.IdiomCopy
import Derived.OrdersHeld
import Derived.Laws.BitsLemmas
import Derived.RowKit
import Derived.Test.YtacnflelkpkbhaaMtG0
import Derived.WalkSpells
import Derived.WalkLawsBesides
section
namespace Go.Proofs.Ytacnflelkpkbhaa.X
open Go.RowKit Go.Proofs.YtacnflelkpkbhaaW.PrintWords
theorem size_alloc1 (w : World) (o : Obj) : (w.alloc o).heap.size = w.heap.size + 1 := by simp
theorem blk_new2 (w : World) (o1 o2 : Obj) : ((w.alloc o1).alloc o2).heap[w.heap.size + 1]? = some o2 := by
  have h := blk_new (w.alloc o1) o2
  rwa [size_alloc1] at h
theorem below_new2 (w : World) (o1 o2 : Obj) : Below w.heap.size w ((w.alloc o1).alloc o2) := ((Below.refl _ _).alloc (Nat.le_refl _) _).alloc (by simp) _
theorem below_new1 (w : World) (o1 : Obj) : Below w.heap.size w (w.alloc o1) := (Below.refl _ _).alloc (Nat.le_refl _) _
theorem C_cell1 {α : Type} {enc : α → Value} {h1 : ∀ x, (enc x).oneCell' = true} {w : World} {A : Option Addr} {n : Nat} {xs : List α} (h : Kd.C (Kd.scalar enc h1) w A n xs) (k : Nat) (hk : k < xs.length) :
    ∃ ad, A = some ad ∧ w.cell? (ad.add k) = some (enc xs[k]) := by
  have hn : 0 < n := by have := h.1; omega
  obtain ⟨ad, e, hc⟩ := h.2.2 hn
  obtain ⟨c, hs, hr, hcell⟩ := hc k _ (List.getElem?_eq_getElem hk)
  have hr : c = [enc xs[k]] := hr
  subst hr
  refine ⟨ad, e, ?_⟩
  have := hcell 0 (enc xs[k]) rfl
  simpa [Kd.scalar] using this
theorem C_nil {α : Type} (d : Kd α) (w : World) : Kd.C d w none ([] : List α).length [] := ⟨rfl, by simp, fun h => absurd h (Nat.lt_irrefl 0)⟩
end Go.Proofs.Ytacnflelkpkbhaa.X
end
section
namespace Go.Proofs.Ytacnflelkpkbhaa.X
set_option linter.unusedSimpArgs false
set_option linter.unusedVariables false
open Go.RowKit Go.Proofs.YtacnflelkpkbhaaW.PrintWords
def idxOf {α : Type} (p : α → Bool) : List α → Int → Int
  | [], _ => -1
  | x :: l, i => if p x = true then i else idxOf p l (i + 1)
theorem idxOf_drop {α : Type} (p : α → Bool) (l : List α) (k : Nat) (h : k < l.length) : idxOf p (l.drop k) k = if p l[k] = true then (k : Int) else idxOf p (l.drop (k + 1)) ((k + 1 : Nat) : Int) := by
  rw [List.drop_eq_getElem_cons h]; rfl
theorem idxOf_end {α : Type} (p : α → Bool) (l : List α) (k : Nat) (h : ¬ k < l.length) : idxOf p (l.drop k) k = -1 := by
  rw [List.drop_eq_nil_of_le (by omega)]; rfl
theorem idxOf_any {α : Type} (p : α → Bool) (l : List α) : ∀ i : Int, 0 ≤ i → decide (0 ≤ idxOf p l i) = l.any p := by
  induction l with
  | nil => intro i _; rfl
  | cons x l ih =>
    intro i hi
    unfold idxOf
    rw [List.any_cons]
    by_cases h : p x = true
    · rw [if_pos h, h]; simp [hi]
    · rw [if_neg h, ih (i + 1) (by omega)]; simp [h]
def Tells (P : Program) (g : FuncId) (lb : Array Value) (w : World) {α : Type} (enc : α → Value) (l : List α) (p : α → Bool) : Prop :=
  (∀ args w, (callFunc g args).run P w = .ok (.enter g args) w) ∧ ∀ x W, Below w.heap.size w W → x ∈ l → Calls P g (#[enc x] ++ lb) W fun e w' => e = .returned (.bool (p x)) ∧ Below W.heap.size W w'
set_option maxHeartbeats 800000 in
theorem indexFunc_int (g : FuncId) (lb : Array Value) (p : Int → Bool) (l : List Int) (A : Option Addr) (n : Nat) (w : World) (hl : l.length ≤ 1000000) (hr : Kd.C (Kd.int .i64) w A l.length l) (hp : Tells Try.prog g lb w (Value.int .i64) l p) :
    Calls Try.prog 35 #[.slice A l.length n, .func (.func g) #[] lb] w fun e w' => e = .returned (.int .i64 (idxOf p l 0)) ∧ Below w.heap.size w w' := by
  have HP := Aside0.mk hp.2
  have eg := hp.1
  have HR := Aside0.mk hr
  clear hp hr
  go_enter Try.func35, Try.ntmps35
  go_wp2_with fail
  go_loopw [8] (fun c wr => ∃ k : Nat, k ≤ l.length ∧ c = .int .i64 k ∧ Below w.heap.size w wr ∧ Aside0 (idxOf p l 0 = idxOf p (l.drop k) k)) (fun c _ => (l.length - intOf c).toNat)
  case atStart => exact ⟨0, by omega, by simp, Below.refl _ _, ⟨rfl⟩⟩
  case round =>
    obtain ⟨k, hk, rfl, hb, HI⟩ := hrel
    have HB := Aside0.mk hb
    clear hb
    by_cases hlt : k < l.length
    · obtain ⟨ad, rfl, hcell⟩ := C_cell1 (Kd.C_below HR.out HB.out) k hlt
      have HI1 := Aside0.mk (HI.out.trans (idxOf_drop p l k hlt))
      clear HI
      cases hpk : p l[k] with
      | true =>
        have HK := Aside0.mk hpk
        clear hpk
        go_wp2_with fail
        refine (HP.out _ _ HB.out (List.getElem_mem hlt)).mono ?_
        rintro e w1 ⟨rfl, hb1⟩
        have HB1 := Aside0.mk (below_step HB.out hb1)
        rw [HK.out]
        clear hb1
        go_wp2_with fail
        go_ret
        exact ⟨by rw [HI1.out, if_pos HK.out]; rfl, HB1.out⟩
      | false =>
        have HK := Aside0.mk hpk
        clear hpk
        go_wp2_with fail
        refine (HP.out _ _ HB.out (List.getElem_mem hlt)).mono ?_
        rintro e w1 ⟨rfl, hb1⟩
        have HB1 := Aside0.mk (below_step HB.out hb1)
        rw [HK.out]
        clear hb1 HB
        go_wp2_with fail
        go_roundw
        case rel => exact ⟨k + 1, by omega, by go_num, HB1.out, ⟨by rw [HI1.out, if_neg (by rw [HK.out]; decide)]⟩⟩
        case measure => simp [intOf]; omega
    · have HI1 := Aside0.mk (HI.out.trans (idxOf_end p l k hlt))
      clear HI
      go_wp2_with fail
      go_ret
      exact ⟨by rw [HI1.out]; rfl, HB.out⟩
set_option maxHeartbeats 800000 in
theorem containsFunc_int (g : FuncId) (lb : Array Value) (p : Int → Bool) (l : List Int) (A : Option Addr) (n : Nat) (w : World) (hl : l.length ≤ 1000000) (hr : Kd.C (Kd.int .i64) w A l.length l) (hp : Tells Try.prog g lb w (Value.int .i64) l p) :
    Calls Try.prog 26 #[.slice A l.length n, .func (.func g) #[] lb] w fun e w' => e = .returned (.bool (l.any p)) ∧ Below w.heap.size w w' := by
  have HI := Aside0.mk (idxOf_any p l 0 (Int.le_refl _))
  go_enter Try.func26, Try.ntmps26
  go_wp2_with fail
  refine (indexFunc_int g lb p l A n w hl hr hp).mono ?_
  rintro e w1 ⟨rfl, hb1⟩
  have HB := Aside0.mk hb1
  clear hb1 hr hp
  go_wp2_with fail
  go_ret
  exact ⟨by rw [← HI.out]; rfl, HB.out⟩
end Go.Proofs.Ytacnflelkpkbhaa.X
end
