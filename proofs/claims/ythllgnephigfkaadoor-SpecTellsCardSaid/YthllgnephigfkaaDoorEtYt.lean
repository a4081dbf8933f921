/- A row of figures' number, as strconv.Atoi tells it. No program. -/
import Derived.Test.YthllgnephigfkaaDoorEtYs
import Derived.Lib.Atoi
import Derived.Lib.ItoaNum
namespace Go.Proofs.YthllgnephigfkaaDoor.Y
set_option linter.unusedSimpArgs false
set_option linter.unusedVariables false
open Go.RowKit
theorem decFrom_num (l : List UInt8) (hd : ∀ b ∈ l, 48 ≤ b.toNat ∧ b.toNat ≤ 57) : ∀ acc : Nat, Lib.decFrom acc l = some ((l.map fun b => (b.toNat : Int)).foldl (fun a c => 10 * a + (c - 48)) (acc : Int)).toNat ∧ 0 ≤ (l.map fun b => (b.toNat : Int)).foldl (fun a c => 10 * a + (c - 48)) (acc : Int) := by
  induction l with
  | nil => intro acc; exact ⟨by simp [Lib.decFrom], by simp⟩
  | cons b l ih =>
    intro acc
    have h := hd b List.mem_cons_self
    have hv : Lib.digitVal b = some (b.toNat - 48) := by unfold Lib.digitVal; rw [if_pos h]
    obtain ⟨h1, h2⟩ := ih (fun c hc => hd c (List.mem_cons_of_mem _ hc)) (acc * 10 + (b.toNat - 48))
    have e : ((acc * 10 + (b.toNat - 48) : Nat) : Int) = 10 * (acc : Int) + ((b.toNat : Int) - 48) := by omega
    rw [e] at h1 h2
    rw [List.map_cons, List.foldl_cons]
    refine ⟨?_, h2⟩
    rw [Lib.decFrom, hv]
    exact h1
theorem atoi_num (l : List UInt8) (hn : l ≠ []) (hd : ∀ b ∈ l, 48 ≤ b.toNat ∧ b.toNat ≤ 57) : Lib.atoi l = some (numL (l.map fun b => (b.toNat : Int))) := by
  obtain ⟨h1, h2⟩ := decFrom_num l hd 0
  cases l with
  | nil => exact absurd rfl hn
  | cons b l =>
    have hb := hd b List.mem_cons_self
    have n1 : (b == 45) = false := beq_eq_false_iff_ne.2 (fun e => by rw [e] at hb; exact absurd hb.1 (by decide))
    have n2 : (b == 43) = false := beq_eq_false_iff_ne.2 (fun e => by rw [e] at hb; exact absurd hb.1 (by decide))
    unfold Lib.atoi
    dsimp only
    rw [n1, n2]
    simp only [Bool.false_eq_true, if_false]
    unfold Lib.decNat
    rw [if_neg (by simp), h1]
    simp only [Option.map_some]
    congr 1
    unfold numL
    exact Int.toNat_of_nonneg h2
theorem atoi_text (u : ByteArray) (h0 : 0 < u.size) (hd : ∀ (n : Nat) (c : Int), (bs u)[n]? = some c → isDigit c = true) : Lib.atoi u.data.toList = some (numL (bs u)) := by
  refine atoi_num _ (fun e => ?_) (fun b hb => ?_)
  · have : u.data.toList.length = u.size := by simp
    rw [e] at this; simp at this; omega
  · obtain ⟨i, hi, rfl⟩ := List.mem_iff_getElem.1 hb
    have := hd i ((u.data.toList[i]'hi).toNat : Int) (by unfold bs; rw [List.getElem?_map, List.getElem?_eq_getElem hi]; rfl)
    unfold isDigit at this
    simp only [Bool.and_eq_true, decide_eq_true_eq] at this
    omega
def takV (s : ByteArray) : ByteArray × Int × Bool × Int × Int :=
  if okS s = true then (s.extract 0 (endN s), (behV s).1, (behV s).2, (s.size : Int), 0) else (⟨#[]⟩, 0, false, (takN s : Int), 2)
end Go.Proofs.YthllgnephigfkaaDoor.Y
