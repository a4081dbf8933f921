/- Texts of this claim, those that nothing needs left out: Zmq. -/
import Derived.Test.YtacnflelkpkbhaaMlG9
section
namespace Go.Proofs.Ytacnflelkpkbhaa.PA
set_option linter.unusedSimpArgs false
set_option linter.unusedVariables false
open Go.RowKit Go.Maps Go.Proofs.YtacnflelkpkbhaaW.PrintWords Go.Proofs.YtacnflelkpkbhaaW.PrintLast Go.Proofs.YtacnflelkpkbhaaW.PrintMore
def toE (e : S50) : S48 := ⟨e.f0, e.f1, e.f2⟩
def toN (x : S46) : S33 := ⟨x.f0, x.f1.map toE, x.f2, x.f3, x.f4⟩
theorem node_info2 : (Try.prog.info? 33).map (fun i => (i.zero, i.size, i.bytes)) = some (some (.agg #[.int .i64 0, .slice none 0 0, .slice none 0 0, .int .i64 0, .int .i64 0]), 5, 72) := by kernel_rfl
def MN (w W : World) (base : Nat) (x : S46) (cs : List Value) : Prop :=
  ∃ v1 A2 c2, cs = [.int .i64 x.f0, v1, .slice A2 x.f2.length c2, .int .i64 x.f3, .int .i64 x.f4] ∧ W.ownsRow base 48 3 v1 x.f1.length (eflat (x.f1.map toE)) ∧ x.f2.length ≤ c2 ∧ Kd.C (Kd.int .i64) w A2 x.f2.length x.f2
theorem MN.step {w W W' : World} {base : Nat} {x : S46} {cs : List Value} (h : MN w W base x cs) (hm : ∀ v1, W.ownsRow base 48 3 v1 x.f1.length (eflat (x.f1.map toE)) → W'.ownsRow base 48 3 v1 x.f1.length (eflat (x.f1.map toE))) : MN w W' base x cs := by
  obtain ⟨v1, A2, c2, h1, h2, h3, h4⟩ := h
  exact ⟨v1, A2, c2, h1, hm v1 h2, h3, h4⟩
theorem eflat_reps (w : World) (l : List S48) : Reps (k48.K w) 3 l (eflat l) := by
  have key : ∀ n, n ≤ l.length → Reps (k48.K w) 3 (l.take n) (eflat (l.take n)) := by
    intro n
    induction n with
    | zero => intro _; exact Reps.none _ _
    | succ n ih =>
      intro h
      rw [List.take_succ_eq_append_getElem (by omega), eflat_snoc]
      exact (ih (by omega)).snoc (k48_mk w _) rfl
  have h := key l.length (Nat.le_refl _)
  rwa [List.take_length] at h
theorem MN.node {w W : World} {base : Nat} {x : S46} {cs : List Value} (h : MN w W base x cs) (hb : Below w.heap.size w W) : k33.K W (toN x) cs := by
  obtain ⟨v1, A2, c2, rfl, h2, h3, h4⟩ := h
  obtain ⟨A1, c1, hv, hl, hc⟩ := OwnRow.reads (ps := x.f1.map toE) ⟨_, by rw [List.length_map]; exact h2, eflat_reps W _⟩
  subst hv
  exact k33_mk W (toN x) hl hc h3 (Kd.C_below h4 hb)
theorem run_appendOp {o : Oper} {ρ : Operand → Value} {P : Program} {w w' : World} {s x : Operand} {t : TypeId} {v u r : Value} (ho : o.op = .call { callee := .builtin .append, args := #[s, x], argTypes := #[t, t] }) (hs : ρ s = v) (hx : ρ x = u)
    (h : (Builtin.append_ #[t, t] o.type #[v, u]).run P w = .ok r w') : (execOp ρ o).run P w = .ok (.value r) w' := by
  simp [execOp, ho, resolve, invoke, builtin, hs, hx, h, Result.andThen]
def made.T5 : Bool × List (List Nat × List Nat) := (true, [([], []), ([], []), ([0, 1], [0, 1]), ([2], [2]), ([3], [3]), ([], []), ([], []), ([5, 6], [5, 6]), ([7], [7]), ([8], [8]), ([], []), ([], []), ([10, 11], [10, 11]), ([12], [12]), ([13], [13]), ([], []), ([], []), ([15, 16], [15, 16]), ([17], [17]), ([18], [18]), ([4, 9, 14, 19], [4, 9, 14, 19]), ([], []), ([21, 20, 0, 1, 2, 3, 4, 5, 6, 7, 8, 9, 10, 11, 12, 13, 14, 15, 16, 17, 18, 19, 20, 21], [20, 21])])
def made.B5 : List Nat := [0, 0, 3, 7, 15, 0, 0, 96, 224, 480, 0, 0, 3072, 7168, 15360, 0, 0, 98304, 229376, 491520, 1048575, 0, 4194303]
theorem made.tab5 : rtab .any (opsOf Try.f12 5) = made.T5 := by kernel_rfl
theorem made.bits5 : waitsOk made.T5.2 made.B5 = true := by kernel_rfl
end Go.Proofs.Ytacnflelkpkbhaa.PA
end
