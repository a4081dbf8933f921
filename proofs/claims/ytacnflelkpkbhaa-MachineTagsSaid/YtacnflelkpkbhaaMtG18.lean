/- Texts of this claim, those that nothing needs left out: Zmq. -/
import Derived.Test.YtacnflelkpkbhaaMtG10
section
namespace Go.Proofs.Ytacnflelkpkbhaa.PA
set_option linter.unusedSimpArgs false
set_option linter.unusedVariables false
open Go.RowKit Go.Maps Go.Proofs.YtacnflelkpkbhaaW.PrintWords Go.Proofs.YtacnflelkpkbhaaW.PrintLast Go.Proofs.YtacnflelkpkbhaaW.PrintMore
def toE (e : S50) : S48 := ⟨e.f0, e.f1, e.f2⟩
def toN (x : S46) : S33 := ⟨x.f0, x.f1.map toE, x.f2, x.f3, x.f4⟩
theorem rdr_at (xs : List S46) (j : Nat) (h : j < xs.length) : rd_T46 xs (j : Int) = xs[j] := by
  unfold rd_T46
  rw [Int.toNat_natCast, List.getD_eq_getElem?_getD, List.getElem?_eq_getElem h]
  rfl
theorem rdre_at (xs : List S50) (j : Nat) (h : j < xs.length) : rd_T50 xs (j : Int) = xs[j] := by
  unfold rd_T50
  rw [Int.toNat_natCast, List.getD_eq_getElem?_getD, List.getElem?_eq_getElem h]
  rfl
theorem edge_info : (Try.prog.info? 48).map (fun i => (i.zero, i.size, i.bytes)) = some (some (.agg #[.int .u8 0, .int .u8 0, .int .i64 0]), 3, 16) := by kernel_rfl
theorem node_info2 : (Try.prog.info? 33).map (fun i => (i.zero, i.size, i.bytes)) = some (some (.agg #[.int .i64 0, .slice none 0 0, .slice none 0 0, .int .i64 0, .int .i64 0]), 5, 72) := by kernel_rfl
def MN (w W : World) (base : Nat) (x : S46) (cs : List Value) : Prop :=
  ∃ v1 A2 c2, cs = [.int .i64 x.f0, v1, .slice A2 x.f2.length c2, .int .i64 x.f3, .int .i64 x.f4] ∧ W.ownsRow base 48 3 v1 x.f1.length (eflat (x.f1.map toE)) ∧ x.f2.length ≤ c2 ∧ Kd.C (Kd.int .i64) w A2 x.f2.length x.f2
theorem MN.step {w W W' : World} {base : Nat} {x : S46} {cs : List Value} (h : MN w W base x cs) (hm : ∀ v1, W.ownsRow base 48 3 v1 x.f1.length (eflat (x.f1.map toE)) → W'.ownsRow base 48 3 v1 x.f1.length (eflat (x.f1.map toE))) : MN w W' base x cs := by
  obtain ⟨v1, A2, c2, h1, h2, h3, h4⟩ := h
  exact ⟨v1, A2, c2, h1, hm v1 h2, h3, h4⟩
theorem eflat_reps (w : World) (l : List S48) : Reps (k48.K w) 3 l (eflat l) := by
  have key : ∀ n, n ≤ l.length → Reps (k48.K w) 3 (l.take n) (eflat (l.take n)) := by
    intro n
    induction n with
    | zero => intro _; exact Reps.none _ _
    | succ n ih =>
      intro h
      rw [List.take_succ_eq_append_getElem (by omega), eflat_snoc]
      exact (ih (by omega)).snoc (k48_mk w _) rfl
  have h := key l.length (Nat.le_refl _)
  rwa [List.take_length] at h
theorem MN.node {w W : World} {base : Nat} {x : S46} {cs : List Value} (h : MN w W base x cs) (hb : Below w.heap.size w W) : k33.K W (toN x) cs := by
  obtain ⟨v1, A2, c2, rfl, h2, h3, h4⟩ := h
  obtain ⟨A1, c1, hv, hl, hc⟩ := OwnRow.reads (ps := x.f1.map toE) ⟨_, by rw [List.length_map]; exact h2, eflat_reps W _⟩
  subst hv
  exact k33_mk W (toN x) hl hc h3 (Kd.C_below h4 hb)
theorem own_rows {W W' : World} {base base' n n' sz sz' : Nat} {e e' : TypeId} {v v' : Value} {xs xs' : List Value} (h : W.ownsRow base e sz v n xs) (h' : W.ownsRow base' e' sz' v' n' xs') (he : e ≠ e') (hg : W.grownBy W' v'.ownBlock) : W'.ownsRow base e sz v n xs := by
  refine Go.Proofs.YtacnflelkpkbhaaW.PrintWords.own_other h hg ?_
  cases hv : v.ownBlock with
  | none => exact .inl rfl
  | some k =>
    refine .inr fun e0 => ?_
    obtain ⟨c, hc⟩ := own_typed h k hv
    obtain ⟨c', hc'⟩ := own_typed h' k e0.symm
    rw [hc] at hc'
    injection hc' with h1
    injection h1 with _ h2
    exact he h2
theorem reps_map {α β : Type} {R : α → List Value → Prop} {R' : β → List Value → Prop} {sz : Nat} {l : List α} {cs : List Value} (f : α → β) (h : Reps R sz l cs) (hf : ∀ x c, R x c → R' (f x) c) : Reps R' sz (l.map f) cs := by
  refine ⟨by rw [h.1, List.length_map], fun j p hj => ?_⟩
  rw [List.getElem?_map] at hj
  obtain ⟨x, hx, rfl⟩ := Option.map_eq_some_iff.1 hj
  exact hf _ _ (h.2 j x hx)
theorem run_appendOp {o : Oper} {ρ : Operand → Value} {P : Program} {w w' : World} {s x : Operand} {t : TypeId} {v u r : Value} (ho : o.op = .call { callee := .builtin .append, args := #[s, x], argTypes := #[t, t] }) (hs : ρ s = v) (hx : ρ x = u)
    (h : (Builtin.append_ #[t, t] o.type #[v, u]).run P w = .ok r w') : (execOp ρ o).run P w = .ok (.value r) w' := by
  simp [execOp, ho, resolve, invoke, builtin, hs, hx, h, Result.andThen]
def made.T9 : Bool × List (List Nat × List Nat) := (true, [([], []), ([0], [0]), ([], []), ([], []), ([2, 3], [2, 3]), ([4], [4]), ([5], [5]), ([], []), ([6, 7], [6, 7]), ([8], [8]), ([9], [9]), ([], []), ([], []), ([11, 12], [11, 12]), ([13], [13]), ([14], [14]), ([], []), ([15, 16], [15, 16]), ([17], [17]), ([18], [18]), ([], []), ([], []), ([20, 21], [20, 21]), ([22], [22]), ([23], [23]), ([], []), ([24, 25], [24, 25]), ([26], [26]), ([27], [27]), ([10, 19, 28], [10, 19, 28]), ([29], [29]), ([1, 30], [1, 30]), ([0, 1, 2, 3, 4, 5, 6, 7, 8, 9, 10, 11, 12, 13, 14, 15, 16, 17, 18, 19, 20, 21, 22, 23, 24, 25, 26, 27, 28, 29, 30, 31], []), ([32, 31, 31, 0, 1, 2, 3, 4, 5, 6, 7, 8, 9, 10, 11, 12, 13, 14, 15, 16, 17, 18, 19, 20, 21, 22, 23, 24, 25, 26, 27, 28, 29, 30, 31], [31, 32])])
def made.B9 : List Nat := [0, 1, 0, 0, 12, 28, 60, 0, 252, 508, 1020, 0, 0, 6144, 14336, 30720, 0, 129024, 260096, 522240, 0, 0, 3145728, 7340032, 15728640, 0, 66060288, 133169152, 267386880, 536870908, 1073741820, 2147483647, 0, 8589934591]
theorem made.tab9 : rtab .any (opsOf Try.f12 9) = made.T9 := by kernel_rfl
theorem made.bits9 : waitsOk made.T9.2 made.B9 = true := by kernel_rfl
def made.T5 : Bool × List (List Nat × List Nat) := (true, [([], []), ([], []), ([0, 1], [0, 1]), ([2], [2]), ([3], [3]), ([], []), ([], []), ([5, 6], [5, 6]), ([7], [7]), ([8], [8]), ([], []), ([], []), ([10, 11], [10, 11]), ([12], [12]), ([13], [13]), ([], []), ([], []), ([15, 16], [15, 16]), ([17], [17]), ([18], [18]), ([4, 9, 14, 19], [4, 9, 14, 19]), ([], []), ([21, 20, 0, 1, 2, 3, 4, 5, 6, 7, 8, 9, 10, 11, 12, 13, 14, 15, 16, 17, 18, 19, 20, 21], [20, 21])])
def made.B5 : List Nat := [0, 0, 3, 7, 15, 0, 0, 96, 224, 480, 0, 0, 3072, 7168, 15360, 0, 0, 98304, 229376, 491520, 1048575, 0, 4194303]
theorem made.tab5 : rtab .any (opsOf Try.f12 5) = made.T5 := by kernel_rfl
theorem made.bits5 : waitsOk made.T5.2 made.B5 = true := by kernel_rfl
set_option maxHeartbeats 16000000 in
set_option maxRecDepth 100000 in
theorem made_own (w : World) {A0 : Option Addr} {c0 : Nat} {l : List S46} (hr0 : Kd.C k46 w A0 l.length l) (hl : l.length ≤ 1000) (hl1 : ∀ x ∈ l, x.f1.length ≤ 1000) :
    Calls Try.prog 12 #[.slice A0 l.length c0] w fun e W' => ∃ v inner, e = .returned v ∧ W'.ownsRow w.heap.size 33 5 v l.length inner ∧ Reps (MN w W' w.heap.size) 5 l inner ∧ Below w.heap.size w W' := by
  have HR := Aside0.mk hr0
  clear hr0
  obtain ⟨n, hn⟩ : ∃ n, n = l.length := ⟨_, rfl⟩
  have HN := Aside0.mk hn
  rw [← hn] at hl ⊢
  clear hn
  go_enter Try.func12, Try.ntmps12
  go_wp2_with fail
  go_loopw [4, 3] (fun v4 v3 wr => ∃ (k : Nat) (inner : List Value), k ≤ n ∧ v4 = .int .i64 (k : Int) ∧ Below w.heap.size w wr ∧ wr.ownsRow w.heap.size 33 5 v3 k inner ∧ Reps (MN w wr w.heap.size) 5 (l.take k) inner) (fun v4 _ _ => (n - intOf v4).toNat)
  case atStart => exact ⟨0, [], Nat.zero_le _, rfl, Below.refl _ _, World.ownsRow_nil _ _ _ _, Reps.none _ _⟩
  case round =>
    obtain ⟨k, inner, hk, rfl, hb, ho, hreps⟩ := hrel
    obtain ⟨wo, hwo⟩ : ∃ wo, wo = wr := ⟨_, rfl⟩
    subst hwo
    have HB := Aside0.mk hb
    have HO := Aside0.mk ho
    have HREPS := Aside0.mk hreps
    clear hb ho hreps
    by_cases hlt : k < n
    · have hk2 : k < l.length := by rw [← HN.out]; exact hlt
      obtain ⟨ad, A1, c1, A2, c2, hA, q0, q1, q2, q3, q4, l1, g1, l2, g2⟩ := at_T46 HR.out (k : Int) (by omega) (by omega)
      rw [Int.toNat_natCast, rdr_at l k hk2] at q0 q1 q2 q3 q4
      rw [rdr_at l k hk2] at l1 l2 g1 g2
      have hx1 := hl1 _ (List.getElem_mem hk2)
      obtain ⟨x, hx⟩ : ∃ x, x = l[k] := ⟨_, rfl⟩
      rw [← hx] at q0 q1 q2 q3 q4 l1 g1 l2 g2 hx1
      have r0 := addr_keep HB.out q0
      have r1 := addr_keep HB.out q1
      have r2 := addr_keep HB.out q2
      have r3 := addr_keep HB.out q3
      have r4 := addr_keep HB.out q4
      have hz := X.below_new1 wo (.cells #[.int .i64 0, .slice none 0 0, .slice none 0 0, .int .i64 0, .int .i64 0] 33)
      have z0 := addr_keep hz r0
      have z1 := addr_keep hz r1
      have z2 := addr_keep hz r2
      have z3 := addr_keep hz r3
      have z4 := addr_keep hz r4
      have HX := Aside0.mk hx
      have Q1 := Aside0.mk q1
      have L1 := Aside0.mk l1
      have G1 := Aside0.mk g1
      have L2 := Aside0.mk l2
      have G2 := Aside0.mk g2
      have HK2 := Aside0.mk hk2
      clear hx l1 g1 l2 g2 q0 q1 q2 q3 q4 hz
      subst hA
      go_wp2_with fail
      refine start_ (n := 23) (S := fun w' => w'.cell? (ad.add (k * 5)) = some (.int .i64 x.f0) ∧ w'.cell? ⟨(ad.add (k * 5)).block, (ad.add (k * 5)).off + 2, none⟩ = some (.slice A2 x.f2.length c2) ∧ w'.cell? ⟨(ad.add (k * 5)).block, (ad.add (k * 5)).off + 3, none⟩ = some (.int .i64 x.f3) ∧ w'.cell? ⟨(ad.add (k * 5)).block, (ad.add (k * 5)).off + 4, none⟩ = some (.int .i64 x.f4)) (ds := [22]) #[false, false, false, false, false, false, false, false, false, false, false, false, false, false, false, false, false, false, false, false, false, false, false] (by kernel_rfl) rfl rfl ⟨r0, r2, r3, r4⟩ (fun hHeld => ?_)
      refine with_tabW made.tab5 made.bits5 (fun HT_ HW_ => ?_)
      refine pure_ (i := 0) (N := (some 13)) (v := ?_) (a' := ?_) #[true, false, false, false, false, false, false, false, false, false, false, false, false, false, false, false, false, false, false, false, false, false, false] rfl rfl (any_of HT_.out (by kernel_rfl)) (fun _ _ _ h => h) (Or.inl ⟨by rfl, ?_⟩) ?_ ?_
      rotate_left
      · intro w'
        go_simp
        with_reducible rfl
      rotate_left
      · simp only [Act.put, List.setIfInBounds_toArray, List.set_cons_zero, List.set_cons_succ, i64_w, i32_w]
        rfl
      refine pure_ (i := 1) (N := (some 14)) (v := ?_) (a' := ?_) #[true, true, false, false, false, false, false, false, false, false, false, false, false, false, false, false, false, false, false, false, false, false, false] rfl rfl (any_of HT_.out (by kernel_rfl)) (fun _ _ _ h => h) (Or.inl ⟨by rfl, ?_⟩) ?_ ?_
      rotate_left
      · intro w'
        go_simp
        with_reducible rfl
      rotate_left
      · simp only [Act.put, List.setIfInBounds_toArray, List.set_cons_zero, List.set_cons_succ, i64_w, i32_w]
        rfl
      refine pure_ (i := 2) (N := (some 15)) (v := ?_) (a' := ?_) #[true, true, true, false, false, false, false, false, false, false, false, false, false, false, false, false, false, false, false, false, false, false, false] rfl rfl (any_of HT_.out (by kernel_rfl)) (fun _ _ _ h => h) (Or.inl ⟨by rfl, ?_⟩) ?_ ?_
      rotate_left
      · intro w'
        go_simp
        with_reducible rfl
      rotate_left
      · simp only [Act.put, List.setIfInBounds_toArray, List.set_cons_zero, List.set_cons_succ, i64_w, i32_w]
        rfl
      refine pure_ (i := 3) (N := (some 16)) (v := ?_) (a' := ?_) #[true, true, true, true, false, false, false, false, false, false, false, false, false, false, false, false, false, false, false, false, false, false, false] rfl rfl (any_of HT_.out (by kernel_rfl)) (fun _ _ _ h => h) (Or.inl ⟨by rfl, ?_⟩) ?_ ?_
      rotate_left
      · intro w'
        go_simp
        with_reducible rfl
      rotate_left
      · simp only [Act.put, List.setIfInBounds_toArray, List.set_cons_zero, List.set_cons_succ, i64_w, i32_w]
        rfl
      refine take_ (i := 4) (N := (some 17)) (v := ?_) (a' := ?_) #[true, true, true, true, true, false, false, false, false, false, false, false, false, false, false, false, false, false, false, false, false, false, false] rfl rfl (take_ofW HT_.out HW_.out (by kernel_rfl)) (fun _ _ _ h => h) (Or.inl ⟨by rfl, ?_⟩) hHeld ?_ ?_
      rotate_left
      · rintro w' ⟨s0, s1, s2, s3⟩
        go_simp
        with_reducible rfl
      rotate_left
      · simp only [Act.put, List.setIfInBounds_toArray, List.set_cons_zero, List.set_cons_succ, i64_w, i32_w]
        rfl
      refine pure_ (i := 5) (N := (some 18)) (v := ?_) (a' := ?_) #[true, true, true, true, true, true, false, false, false, false, false, false, false, false, false, false, false, false, false, false, false, false, false] rfl rfl (any_of HT_.out (by kernel_rfl)) (fun _ _ _ h => h) (Or.inl ⟨by rfl, ?_⟩) ?_ ?_
      rotate_left
      · intro w'
        go_simp
        with_reducible rfl
      rotate_left
      · simp only [Act.put, List.setIfInBounds_toArray, List.set_cons_zero, List.set_cons_succ, i64_w, i32_w]
        rfl
      refine pure_ (i := 6) (N := (some 19)) (v := ?_) (a' := ?_) #[true, true, true, true, true, true, true, false, false, false, false, false, false, false, false, false, false, false, false, false, false, false, false] rfl rfl (any_of HT_.out (by kernel_rfl)) (fun _ _ _ h => h) (Or.inl ⟨by rfl, ?_⟩) ?_ ?_
      rotate_left
      · intro w'
        go_simp
        with_reducible rfl
      rotate_left
      · simp only [Act.put, List.setIfInBounds_toArray, List.set_cons_zero, List.set_cons_succ, i64_w, i32_w]
        rfl
      refine pure_ (i := 7) (N := (some 20)) (v := ?_) (a' := ?_) #[true, true, true, true, true, true, true, true, false, false, false, false, false, false, false, false, false, false, false, false, false, false, false] rfl rfl (any_of HT_.out (by kernel_rfl)) (fun _ _ _ h => h) (Or.inl ⟨by rfl, ?_⟩) ?_ ?_
      rotate_left
      · intro w'
        go_simp
        with_reducible rfl
      rotate_left
      · simp only [Act.put, List.setIfInBounds_toArray, List.set_cons_zero, List.set_cons_succ, i64_w, i32_w]
        rfl
      refine pure_ (i := 8) (N := (some 21)) (v := ?_) (a' := ?_) #[true, true, true, true, true, true, true, true, true, false, false, false, false, false, false, false, false, false, false, false, false, false, false] rfl rfl (any_of HT_.out (by kernel_rfl)) (fun _ _ _ h => h) (Or.inl ⟨by rfl, ?_⟩) ?_ ?_
      rotate_left
      · intro w'
        go_simp
        with_reducible rfl
      rotate_left
      · simp only [Act.put, List.setIfInBounds_toArray, List.set_cons_zero, List.set_cons_succ, i64_w, i32_w]
        rfl
      refine take_ (i := 9) (N := (some 22)) (v := ?_) (a' := ?_) #[true, true, true, true, true, true, true, true, true, true, false, false, false, false, false, false, false, false, false, false, false, false, false] rfl rfl (take_ofW HT_.out HW_.out (by kernel_rfl)) (fun _ _ _ h => h) (Or.inl ⟨by rfl, ?_⟩) hHeld ?_ ?_
      rotate_left
      · rintro w' ⟨s0, s1, s2, s3⟩
        go_simp
        with_reducible rfl
      rotate_left
      · simp only [Act.put, List.setIfInBounds_toArray, List.set_cons_zero, List.set_cons_succ, i64_w, i32_w]
        rfl
      refine pure_ (i := 10) (N := (some 23)) (v := ?_) (a' := ?_) #[true, true, true, true, true, true, true, true, true, true, true, false, false, false, false, false, false, false, false, false, false, false, false] rfl rfl (any_of HT_.out (by kernel_rfl)) (fun _ _ _ h => h) (Or.inl ⟨by rfl, ?_⟩) ?_ ?_
      rotate_left
      · intro w'
        go_simp
        with_reducible rfl
      rotate_left
      · simp only [Act.put, List.setIfInBounds_toArray, List.set_cons_zero, List.set_cons_succ, i64_w, i32_w]
        rfl
      refine pure_ (i := 11) (N := (some 24)) (v := ?_) (a' := ?_) #[true, true, true, true, true, true, true, true, true, true, true, true, false, false, false, false, false, false, false, false, false, false, false] rfl rfl (any_of HT_.out (by kernel_rfl)) (fun _ _ _ h => h) (Or.inl ⟨by rfl, ?_⟩) ?_ ?_
      rotate_left
      · intro w'
        go_simp
        with_reducible rfl
      rotate_left
      · simp only [Act.put, List.setIfInBounds_toArray, List.set_cons_zero, List.set_cons_succ, i64_w, i32_w]
        rfl
      refine pure_ (i := 12) (N := (some 25)) (v := ?_) (a' := ?_) #[true, true, true, true, true, true, true, true, true, true, true, true, true, false, false, false, false, false, false, false, false, false, false] rfl rfl (any_of HT_.out (by kernel_rfl)) (fun _ _ _ h => h) (Or.inl ⟨by rfl, ?_⟩) ?_ ?_
      rotate_left
      · intro w'
        go_simp
        with_reducible rfl
      rotate_left
      · simp only [Act.put, List.setIfInBounds_toArray, List.set_cons_zero, List.set_cons_succ, i64_w, i32_w]
        rfl
      refine pure_ (i := 13) (N := (some 26)) (v := ?_) (a' := ?_) #[true, true, true, true, true, true, true, true, true, true, true, true, true, true, false, false, false, false, false, false, false, false, false] rfl rfl (any_of HT_.out (by kernel_rfl)) (fun _ _ _ h => h) (Or.inl ⟨by rfl, ?_⟩) ?_ ?_
      rotate_left
      · intro w'
        go_simp
        with_reducible rfl
      rotate_left
      · simp only [Act.put, List.setIfInBounds_toArray, List.set_cons_zero, List.set_cons_succ, i64_w, i32_w]
        rfl
      refine take_ (i := 14) (N := (some 27)) (v := ?_) (a' := ?_) #[true, true, true, true, true, true, true, true, true, true, true, true, true, true, true, false, false, false, false, false, false, false, false] rfl rfl (take_ofW HT_.out HW_.out (by kernel_rfl)) (fun _ _ _ h => h) (Or.inl ⟨by rfl, ?_⟩) hHeld ?_ ?_
      rotate_left
      · rintro w' ⟨s0, s1, s2, s3⟩
        go_simp
        with_reducible rfl
      rotate_left
      · simp only [Act.put, List.setIfInBounds_toArray, List.set_cons_zero, List.set_cons_succ, i64_w, i32_w]
        rfl
      refine pure_ (i := 15) (N := (some 28)) (v := ?_) (a' := ?_) #[true, true, true, true, true, true, true, true, true, true, true, true, true, true, true, true, false, false, false, false, false, false, false] rfl rfl (any_of HT_.out (by kernel_rfl)) (fun _ _ _ h => h) (Or.inl ⟨by rfl, ?_⟩) ?_ ?_
      rotate_left
      · intro w'
        go_simp
        with_reducible rfl
      rotate_left
      · simp only [Act.put, List.setIfInBounds_toArray, List.set_cons_zero, List.set_cons_succ, i64_w, i32_w]
        rfl
      refine pure_ (i := 16) (N := (some 29)) (v := ?_) (a' := ?_) #[true, true, true, true, true, true, true, true, true, true, true, true, true, true, true, true, true, false, false, false, false, false, false] rfl rfl (any_of HT_.out (by kernel_rfl)) (fun _ _ _ h => h) (Or.inl ⟨by rfl, ?_⟩) ?_ ?_
      rotate_left
      · intro w'
        go_simp
        with_reducible rfl
      rotate_left
      · simp only [Act.put, List.setIfInBounds_toArray, List.set_cons_zero, List.set_cons_succ, i64_w, i32_w]
        rfl
      refine pure_ (i := 17) (N := (some 30)) (v := ?_) (a' := ?_) #[true, true, true, true, true, true, true, true, true, true, true, true, true, true, true, true, true, true, false, false, false, false, false] rfl rfl (any_of HT_.out (by kernel_rfl)) (fun _ _ _ h => h) (Or.inl ⟨by rfl, ?_⟩) ?_ ?_
      rotate_left
      · intro w'
        go_simp
        with_reducible rfl
      rotate_left
      · simp only [Act.put, List.setIfInBounds_toArray, List.set_cons_zero, List.set_cons_succ, i64_w, i32_w]
        rfl
      refine pure_ (i := 18) (N := (some 31)) (v := ?_) (a' := ?_) #[true, true, true, true, true, true, true, true, true, true, true, true, true, true, true, true, true, true, true, false, false, false, false] rfl rfl (any_of HT_.out (by kernel_rfl)) (fun _ _ _ h => h) (Or.inl ⟨by rfl, ?_⟩) ?_ ?_
      rotate_left
      · intro w'
        go_simp
        with_reducible rfl
      rotate_left
      · simp only [Act.put, List.setIfInBounds_toArray, List.set_cons_zero, List.set_cons_succ, i64_w, i32_w]
        rfl
      refine take_ (i := 19) (N := (some 32)) (v := ?_) (a' := ?_) #[true, true, true, true, true, true, true, true, true, true, true, true, true, true, true, true, true, true, true, true, false, false, false] rfl rfl (take_ofW HT_.out HW_.out (by kernel_rfl)) (fun _ _ _ h => h) (Or.inl ⟨by rfl, ?_⟩) hHeld ?_ ?_
      rotate_left
      · rintro w' ⟨s0, s1, s2, s3⟩
        go_simp
        with_reducible rfl
      rotate_left
      · simp only [Act.put, List.setIfInBounds_toArray, List.set_cons_zero, List.set_cons_succ, i64_w, i32_w]
        rfl
      refine pure_ (i := 20) (N := (some 33)) (v := ?_) (a' := ?_) #[true, true, true, true, true, true, true, true, true, true, true, true, true, true, true, true, true, true, true, true, true, false, false] rfl rfl (any_of HT_.out (by kernel_rfl)) (fun _ _ _ h => h) (Or.inl ⟨by rfl, ?_⟩) ?_ ?_
      rotate_left
      · intro w'
        go_simp
        with_reducible rfl
      rotate_left
      · simp only [Act.put, List.setIfInBounds_toArray, List.set_cons_zero, List.set_cons_succ, i64_w, i32_w]
        rfl
      refine one_ (i := 21) (N := (some 5)) #[true, true, true, true, true, true, true, true, true, true, true, true, true, true, true, true, true, true, true, true, true, true, false] rfl rfl (one_of HT_.out (by kernel_rfl)) (by decide) (fun K hK => ?_)
      refine value_ (w1 := (wo.alloc (.cells #[.int .i64 0, .slice none 0 0, .slice none 0 0, .int .i64 0, .int .i64 0] 33)).drew) (v := .pointer (some ⟨wo.heap.size, 0, none⟩)) (by rfl) rfl ?_ ?_
      · go_simp
        try rfl
      refine hK.out _ _ ⟨z0, z2, z3, z4⟩ (fun hHeld => ?_)
      clear hK K
      refine norm_ (a' := ?_) ?_ ?_
      rotate_left
      · show Act.put _ (some 5) _ = _
        simp only [Act.put, List.setIfInBounds_toArray, List.set_cons_zero, List.set_cons_succ, i64_w, i32_w]
        rfl
      refine last_ (i := 22) (N := none) #[true, true, true, true, true, true, true, true, true, true, true, true, true, true, true, true, true, true, true, true, true, true, true] rfl rfl (one_of HT_.out (by kernel_rfl)) (by decide) (fun K hK => ?_)
      refine skip_ (w1 := ?_) (by rfl) rfl ?_ ?_
      rotate_left
      · go_simp
        rfl
      refine hK.out _ _ ?_
      clear hK K
      refine done_ (done_of HT_.out (by kernel_rfl)) ?_
      have hw5 : Below wo.heap.size wo ((wo.alloc (.cells #[.int .i64 x.f0, .slice none 0 0, .slice A2 x.f2.length c2, .int .i64 x.f3, .int .i64 x.f4] 33)).drew) := below_drew1 (X.below_new1 wo _)
      have hbx : ((wo.alloc (.cells #[.int .i64 x.f0, .slice none 0 0, .slice A2 x.f2.length c2, .int .i64 x.f3, .int .i64 x.f4] 33)).drew).heap[wo.heap.size]? = some (.cells #[.int .i64 x.f0, .slice none 0 0, .slice A2 x.f2.length c2, .int .i64 x.f3, .int .i64 x.f4] 33 (0, 0)) := blk_new wo (.cells #[.int .i64 x.f0, .slice none 0 0, .slice A2 x.f2.length c2, .int .i64 x.f3, .int .i64 x.f4] 33)
      have hs5 : ((wo.alloc (.cells #[.int .i64 x.f0, .slice none 0 0, .slice A2 x.f2.length c2, .int .i64 x.f3, .int .i64 x.f4] 33)).drew).heap.size = wo.heap.size + 1 := X.size_alloc1 _ _
      generalize ((wo.alloc (.cells #[.int .i64 x.f0, .slice none 0 0, .slice A2 x.f2.length c2, .int .i64 x.f3, .int .i64 x.f4] 33)).drew) = W5 at hw5 hbx hs5 ⊢
      have HW5 := Aside0.mk hw5
      have HBX := Aside0.mk hbx
      have HS5 := Aside0.mk hs5
      obtain ⟨n1, hn1⟩ : ∃ n, n = x.f1.length := ⟨_, rfl⟩
      have HN1 := Aside0.mk hn1
      rw [← hn1] at hx1
      clear hw5 hbx hs5 hn1 r0 r1 r2 r3 r4 z0 z1 z2 z3 z4
      go_wp2_with fail
      go_loopw [6] (fun v6 wz => ∃ (j : Nat) (v1 : Value), j ≤ n1 ∧ v6 = .int .i64 (j : Int) ∧ Below wo.heap.size wo wz ∧ wz.heap[wo.heap.size]? = some (.cells #[.int .i64 x.f0, v1, .slice A2 x.f2.length c2, .int .i64 x.f3, .int .i64 x.f4] 33 (0, 0)) ∧ wz.ownsRow (wo.heap.size + 1) 48 3 v1 j (eflat ((x.f1.take j).map toE))) (fun v6 _ => (n1 - intOf v6).toNat)
      case atStart => exact ⟨0, .slice none 0 0, Nat.zero_le _, rfl, HW5.out, HBX.out, World.ownsRow_nil _ _ _ _⟩
      case round =>
        obtain ⟨j, v1, hj, rfl, hbz, hbox, hoz⟩ := hrel
        have hq1 := addr_keep (HB.out.trans (hbz.mono HB.out.size)) Q1.out
        rw [← HN1.out] at hq1
        by_cases hjl : j < n1
        · have hj2 : j < x.f1.length := by rw [← HN1.out]; exact hjl
          obtain ⟨ad1, hA1, e0, e1, e2⟩ := at_T50 G1.out (j : Int) (by omega) (by omega)
          rw [Int.toNat_natCast, rdre_at x.f1 j hj2] at e0 e1 e2
          have htk : eflat ((x.f1.take (j + 1)).map toE) = eflat ((x.f1.take j).map toE) ++ ecs (toE x.f1[j]) := by
            rw [List.take_succ_eq_append_getElem hj2, List.map_append]
            exact eflat_snoc _ _
          obtain ⟨y, hy⟩ : ∃ y, y = x.f1[j] := ⟨_, rfl⟩
          rw [← hy] at e0 e1 e2 htk
          subst hA1
          have hS : ∀ W, Below wo.heap.size wo W → W.heap[wo.heap.size]? = some (.cells #[.int .i64 x.f0, v1, .slice A2 x.f2.length c2, .int .i64 x.f3, .int .i64 x.f4] 33 (0, 0)) →
              W.cell? ⟨wo.heap.size, 1, none⟩ = some v1 ∧ W.cell? ⟨(ad.add (k * 5)).block, (ad.add (k * 5)).off + 1, none⟩ = some (.slice (some ad1) n1 c1) ∧ W.cell? (ad1.add (j * 3)) = some (.int .u8 y.f0) ∧ W.cell? ⟨(ad1.add (j * 3)).block, (ad1.add (j * 3)).off + 1, none⟩ = some (.int .u8 y.f1) ∧ W.cell? ⟨(ad1.add (j * 3)).block, (ad1.add (j * 3)).off + 2, none⟩ = some (.int .i64 y.f2) := fun W hb hx => by
            have hz := HB.out.trans (hb.mono HB.out.size)
            have hq := addr_keep hz Q1.out
            rw [← HN1.out] at hq
            exact ⟨(cells5m hx).2.1, hq, addr_keep hz e0, addr_keep hz e1, addr_keep hz e2⟩
          have hb30 : Below wo.heap.size wo ((wr.alloc (.cells #[.int .u8 y.f0, .int .u8 y.f1, .int .i64 y.f2] 48)).drew) := below_drew ((hbz.trans ((X.below_new1 wr (.cells #[.int .u8 y.f0, .int .u8 y.f1, .int .i64 y.f2] 48)).mono hbz.size)))
          have hoa := own_below hoz (below_drew1 (X.below_new1 wr (.cells #[.int .u8 y.f0, .int .u8 y.f1, .int .i64 y.f2] 48)))
          have hba := blk_alloc hbox (.cells #[.int .u8 y.f0, .int .u8 y.f1, .int .i64 y.f2] 48)
          have hsd : (wr.drew).heap.size = wr.heap.size := rfl
          obtain ⟨i0, hi0, hz0, hz1, hz2⟩ := info_parts edge_info
          obtain ⟨v2, w2, hrun, ho2, hg2, _, _⟩ := run_append_own_at (P := Try.prog) (w := (wr.alloc (.cells #[.int .u8 y.f0, .int .u8 y.f1, .int .i64 y.f2] 48)).drew) (wo.heap.size + 1) 31 31 48 i0 (.agg #[.int .u8 0, .int .u8 0, .int .i64 0]) 3 16 Try.underlying31 hi0 hz0 hz1 hz2 rfl (by decide) v1 j _ hoa ⟨wr.heap.size, 0, none⟩ 1 1 [.int .u8 y.f0, .int .u8 y.f1, .int .i64 y.f2] rfl (fun j u hu => cells_new3 wr _ _ _ _ j u hu) (by simp [Value.oneCell']) (by unfold maxLen; omega) (by omega) (by have h1 := blk_lt hbox; show _ ≤ (wr.alloc _).heap.size; rw [X.size_alloc1]; omega)
          obtain ⟨g', cap', rfl⟩ := ownsRow_succ ho2
          have hb2 := blk_row (blk_drew hba) hoa (by decide) hg2
          have hbw2 : Below wo.heap.size wo w2 := hb30.grown hg2 hb30.size (fun k e => by have := own_base hoa k e; omega)
          have hfz := blk_frozen hb2 1
          have HS0 := Aside0.mk (hS _ (below_drew hbz) (blk_drew hbox))
          have HSA := Aside0.mk (hS _ hb30 (blk_drew hba))
          have HSB := Aside0.mk (hS _ hbw2 hb2)
          have hfr := (cells5m hb2).2.1
          have HRUN := Aside0.mk hrun
          have HBW2 := Aside0.mk hbw2
          have HO2 := Aside0.mk ho2
          have HB2 := Aside0.mk hb2
          have HTK := Aside0.mk htk
          clear hbz hbox hoz ho2 hg2 hb2 hoa hba htk hy hS hb30 hrun hbw2 e0 e1 e2
          go_wp2_with fail
          refine start_ (n := 34) (S := fun w' => w'.cell? ⟨wo.heap.size, 1, none⟩ = some v1 ∧ w'.cell? ⟨(ad.add (k * 5)).block, (ad.add (k * 5)).off + 1, none⟩ = some (.slice (some ad1) n1 c1) ∧ w'.cell? (ad1.add (j * 3)) = some (.int .u8 y.f0) ∧ w'.cell? ⟨(ad1.add (j * 3)).block, (ad1.add (j * 3)).off + 1, none⟩ = some (.int .u8 y.f1) ∧ w'.cell? ⟨(ad1.add (j * 3)).block, (ad1.add (j * 3)).off + 2, none⟩ = some (.int .i64 y.f2)) (ds := [33]) #[false, false, false, false, false, false, false, false, false, false, false, false, false, false, false, false, false, false, false, false, false, false, false, false, false, false, false, false, false, false, false, false, false, false] (by kernel_rfl) rfl rfl HS0.out (fun hHeld => ?_)
          refine with_tabW made.tab9 made.bits9 (fun HT_ HW_ => ?_)
          refine pure_ (i := 0) (N := (some 44)) (v := ?_) (a' := ?_) #[true, false, false, false, false, false, false, false, false, false, false, false, false, false, false, false, false, false, false, false, false, false, false, false, false, false, false, false, false, false, false, false, false, false] rfl rfl (any_of HT_.out (by kernel_rfl)) (fun _ _ _ h => h) (Or.inl ⟨by rfl, ?_⟩) ?_ ?_
          rotate_left
          · intro w'
            go_simp
            with_reducible rfl
          rotate_left
          · simp only [Act.put, List.setIfInBounds_toArray, List.set_cons_zero, List.set_cons_succ, i64_w, i32_w]
            rfl
          refine take_ (i := 1) (N := (some 45)) (v := ?_) (a' := ?_) #[true, true, false, false, false, false, false, false, false, false, false, false, false, false, false, false, false, false, false, false, false, false, false, false, false, false, false, false, false, false, false, false, false, false] rfl rfl (take_ofW HT_.out HW_.out (by kernel_rfl)) (fun _ _ _ h => h) (Or.inl ⟨by rfl, ?_⟩) hHeld ?_ ?_
          rotate_left
          · rintro w' ⟨s0, s1, s2, s3, s4⟩
            go_simp
            with_reducible rfl
          rotate_left
          · simp only [Act.put, List.setIfInBounds_toArray, List.set_cons_zero, List.set_cons_succ, i64_w, i32_w]
            rfl
          refine pure_ (i := 2) (N := (some 46)) (v := ?_) (a' := ?_) #[true, true, true, false, false, false, false, false, false, false, false, false, false, false, false, false, false, false, false, false, false, false, false, false, false, false, false, false, false, false, false, false, false, false] rfl rfl (any_of HT_.out (by kernel_rfl)) (fun _ _ _ h => h) (Or.inl ⟨by rfl, ?_⟩) ?_ ?_
          rotate_left
          · intro w'
            go_simp
            with_reducible rfl
          rotate_left
          · simp only [Act.put, List.setIfInBounds_toArray, List.set_cons_zero, List.set_cons_succ, i64_w, i32_w]
            rfl
          refine pure_ (i := 3) (N := (some 47)) (v := ?_) (a' := ?_) #[true, true, true, true, false, false, false, false, false, false, false, false, false, false, false, false, false, false, false, false, false, false, false, false, false, false, false, false, false, false, false, false, false, false] rfl rfl (any_of HT_.out (by kernel_rfl)) (fun _ _ _ h => h) (Or.inl ⟨by rfl, ?_⟩) ?_ ?_
          rotate_left
          · intro w'
            go_simp
            with_reducible rfl
          rotate_left
          · simp only [Act.put, List.setIfInBounds_toArray, List.set_cons_zero, List.set_cons_succ, i64_w, i32_w]
            rfl
          refine pure_ (i := 4) (N := (some 48)) (v := ?_) (a' := ?_) #[true, true, true, true, true, false, false, false, false, false, false, false, false, false, false, false, false, false, false, false, false, false, false, false, false, false, false, false, false, false, false, false, false, false] rfl rfl (any_of HT_.out (by kernel_rfl)) (fun _ _ _ h => h) (Or.inl ⟨by rfl, ?_⟩) ?_ ?_
          rotate_left
          · intro w'
            go_simp
            with_reducible rfl
          rotate_left
          · simp only [Act.put, List.setIfInBounds_toArray, List.set_cons_zero, List.set_cons_succ, i64_w, i32_w]
            rfl
          refine pure_ (i := 5) (N := (some 49)) (v := ?_) (a' := ?_) #[true, true, true, true, true, true, false, false, false, false, false, false, false, false, false, false, false, false, false, false, false, false, false, false, false, false, false, false, false, false, false, false, false, false] rfl rfl (any_of HT_.out (by kernel_rfl)) (fun _ _ _ h => h) (Or.inl ⟨by rfl, ?_⟩) ?_ ?_
          rotate_left
          · intro w'
            go_simp
            with_reducible rfl
          rotate_left
          · simp only [Act.put, List.setIfInBounds_toArray, List.set_cons_zero, List.set_cons_succ, i64_w, i32_w]
            rfl
          refine take_ (i := 6) (N := (some 50)) (v := ?_) (a' := ?_) #[true, true, true, true, true, true, true, false, false, false, false, false, false, false, false, false, false, false, false, false, false, false, false, false, false, false, false, false, false, false, false, false, false, false] rfl rfl (take_ofW HT_.out HW_.out (by kernel_rfl)) (fun _ _ _ h => h) (Or.inl ⟨by rfl, ?_⟩) hHeld ?_ ?_
          rotate_left
          · rintro w' ⟨s0, s1, s2, s3, s4⟩
            go_simp
            with_reducible rfl
          rotate_left
          · simp only [Act.put, List.setIfInBounds_toArray, List.set_cons_zero, List.set_cons_succ, i64_w, i32_w]
            rfl
          refine pure_ (i := 7) (N := (some 51)) (v := ?_) (a' := ?_) #[true, true, true, true, true, true, true, true, false, false, false, false, false, false, false, false, false, false, false, false, false, false, false, false, false, false, false, false, false, false, false, false, false, false] rfl rfl (any_of HT_.out (by kernel_rfl)) (fun _ _ _ h => h) (Or.inl ⟨by rfl, ?_⟩) ?_ ?_
          rotate_left
          · intro w'
            go_simp
            with_reducible rfl
          rotate_left
          · simp only [Act.put, List.setIfInBounds_toArray, List.set_cons_zero, List.set_cons_succ, i64_w, i32_w]
            rfl
          refine pure_ (i := 8) (N := (some 52)) (v := ?_) (a' := ?_) #[true, true, true, true, true, true, true, true, true, false, false, false, false, false, false, false, false, false, false, false, false, false, false, false, false, false, false, false, false, false, false, false, false, false] rfl rfl (any_of HT_.out (by kernel_rfl)) (fun _ _ _ h => h) (Or.inl ⟨by rfl, ?_⟩) ?_ ?_
          rotate_left
          · intro w'
            go_simp
            with_reducible rfl
          rotate_left
          · simp only [Act.put, List.setIfInBounds_toArray, List.set_cons_zero, List.set_cons_succ, i64_w, i32_w]
            rfl
          refine pure_ (i := 9) (N := (some 53)) (v := ?_) (a' := ?_) #[true, true, true, true, true, true, true, true, true, true, false, false, false, false, false, false, false, false, false, false, false, false, false, false, false, false, false, false, false, false, false, false, false, false] rfl rfl (any_of HT_.out (by kernel_rfl)) (fun _ _ _ h => h) (Or.inl ⟨by rfl, ?_⟩) ?_ ?_
          rotate_left
          · intro w'
            go_simp
            with_reducible rfl
          rotate_left
          · simp only [Act.put, List.setIfInBounds_toArray, List.set_cons_zero, List.set_cons_succ, i64_w, i32_w]
            rfl
          refine take_ (i := 10) (N := (some 54)) (v := ?_) (a' := ?_) #[true, true, true, true, true, true, true, true, true, true, true, false, false, false, false, false, false, false, false, false, false, false, false, false, false, false, false, false, false, false, false, false, false, false] rfl rfl (take_ofW HT_.out HW_.out (by kernel_rfl)) (fun _ _ _ h => h) (Or.inl ⟨by rfl, ?_⟩) hHeld ?_ ?_
          rotate_left
          · rintro w' ⟨s0, s1, s2, s3, s4⟩
            go_simp
            with_reducible rfl
          rotate_left
          · simp only [Act.put, List.setIfInBounds_toArray, List.set_cons_zero, List.set_cons_succ, i64_w, i32_w]
            rfl
          refine pure_ (i := 11) (N := (some 55)) (v := ?_) (a' := ?_) #[true, true, true, true, true, true, true, true, true, true, true, true, false, false, false, false, false, false, false, false, false, false, false, false, false, false, false, false, false, false, false, false, false, false] rfl rfl (any_of HT_.out (by kernel_rfl)) (fun _ _ _ h => h) (Or.inl ⟨by rfl, ?_⟩) ?_ ?_
          rotate_left
          · intro w'
            go_simp
            with_reducible rfl
          rotate_left
          · simp only [Act.put, List.setIfInBounds_toArray, List.set_cons_zero, List.set_cons_succ, i64_w, i32_w]
            rfl
          refine pure_ (i := 12) (N := (some 56)) (v := ?_) (a' := ?_) #[true, true, true, true, true, true, true, true, true, true, true, true, true, false, false, false, false, false, false, false, false, false, false, false, false, false, false, false, false, false, false, false, false, false] rfl rfl (any_of HT_.out (by kernel_rfl)) (fun _ _ _ h => h) (Or.inl ⟨by rfl, ?_⟩) ?_ ?_
          rotate_left
          · intro w'
            go_simp
            with_reducible rfl
          rotate_left
          · simp only [Act.put, List.setIfInBounds_toArray, List.set_cons_zero, List.set_cons_succ, i64_w, i32_w]
            rfl
          refine pure_ (i := 13) (N := (some 57)) (v := ?_) (a' := ?_) #[true, true, true, true, true, true, true, true, true, true, true, true, true, true, false, false, false, false, false, false, false, false, false, false, false, false, false, false, false, false, false, false, false, false] rfl rfl (any_of HT_.out (by kernel_rfl)) (fun _ _ _ h => h) (Or.inl ⟨by rfl, ?_⟩) ?_ ?_
          rotate_left
          · intro w'
            go_simp
            with_reducible rfl
          rotate_left
          · simp only [Act.put, List.setIfInBounds_toArray, List.set_cons_zero, List.set_cons_succ, i64_w, i32_w]
            rfl
          refine pure_ (i := 14) (N := (some 58)) (v := ?_) (a' := ?_) #[true, true, true, true, true, true, true, true, true, true, true, true, true, true, true, false, false, false, false, false, false, false, false, false, false, false, false, false, false, false, false, false, false, false] rfl rfl (any_of HT_.out (by kernel_rfl)) (fun _ _ _ h => h) (Or.inl ⟨by rfl, ?_⟩) ?_ ?_
          rotate_left
          · intro w'
            go_simp
            with_reducible rfl
          rotate_left
          · simp only [Act.put, List.setIfInBounds_toArray, List.set_cons_zero, List.set_cons_succ, i64_w, i32_w]
            rfl
          refine take_ (i := 15) (N := (some 59)) (v := ?_) (a' := ?_) #[true, true, true, true, true, true, true, true, true, true, true, true, true, true, true, true, false, false, false, false, false, false, false, false, false, false, false, false, false, false, false, false, false, false] rfl rfl (take_ofW HT_.out HW_.out (by kernel_rfl)) (fun _ _ _ h => h) (Or.inl ⟨by rfl, ?_⟩) hHeld ?_ ?_
          rotate_left
          · rintro w' ⟨s0, s1, s2, s3, s4⟩
            go_simp
            with_reducible rfl
          rotate_left
          · simp only [Act.put, List.setIfInBounds_toArray, List.set_cons_zero, List.set_cons_succ, i64_w, i32_w]
            rfl
          refine pure_ (i := 16) (N := (some 60)) (v := ?_) (a' := ?_) #[true, true, true, true, true, true, true, true, true, true, true, true, true, true, true, true, true, false, false, false, false, false, false, false, false, false, false, false, false, false, false, false, false, false] rfl rfl (any_of HT_.out (by kernel_rfl)) (fun _ _ _ h => h) (Or.inl ⟨by rfl, ?_⟩) ?_ ?_
          rotate_left
          · intro w'
            go_simp
            with_reducible rfl
          rotate_left
          · simp only [Act.put, List.setIfInBounds_toArray, List.set_cons_zero, List.set_cons_succ, i64_w, i32_w]
            rfl
          refine pure_ (i := 17) (N := (some 61)) (v := ?_) (a' := ?_) #[true, true, true, true, true, true, true, true, true, true, true, true, true, true, true, true, true, true, false, false, false, false, false, false, false, false, false, false, false, false, false, false, false, false] rfl rfl (any_of HT_.out (by kernel_rfl)) (fun _ _ _ h => h) (Or.inl ⟨by rfl, ?_⟩) ?_ ?_
          rotate_left
          · intro w'
            go_simp
            with_reducible rfl
          rotate_left
          · simp only [Act.put, List.setIfInBounds_toArray, List.set_cons_zero, List.set_cons_succ, i64_w, i32_w]
            rfl
          refine pure_ (i := 18) (N := (some 62)) (v := ?_) (a' := ?_) #[true, true, true, true, true, true, true, true, true, true, true, true, true, true, true, true, true, true, true, false, false, false, false, false, false, false, false, false, false, false, false, false, false, false] rfl rfl (any_of HT_.out (by kernel_rfl)) (fun _ _ _ h => h) (Or.inl ⟨by rfl, ?_⟩) ?_ ?_
          rotate_left
          · intro w'
            go_simp
            with_reducible rfl
          rotate_left
          · simp only [Act.put, List.setIfInBounds_toArray, List.set_cons_zero, List.set_cons_succ, i64_w, i32_w]
            rfl
          refine take_ (i := 19) (N := (some 63)) (v := ?_) (a' := ?_) #[true, true, true, true, true, true, true, true, true, true, true, true, true, true, true, true, true, true, true, true, false, false, false, false, false, false, false, false, false, false, false, false, false, false] rfl rfl (take_ofW HT_.out HW_.out (by kernel_rfl)) (fun _ _ _ h => h) (Or.inl ⟨by rfl, ?_⟩) hHeld ?_ ?_
          rotate_left
          · rintro w' ⟨s0, s1, s2, s3, s4⟩
            go_simp
            with_reducible rfl
          rotate_left
          · simp only [Act.put, List.setIfInBounds_toArray, List.set_cons_zero, List.set_cons_succ, i64_w, i32_w]
            rfl
          refine pure_ (i := 20) (N := (some 64)) (v := ?_) (a' := ?_) #[true, true, true, true, true, true, true, true, true, true, true, true, true, true, true, true, true, true, true, true, true, false, false, false, false, false, false, false, false, false, false, false, false, false] rfl rfl (any_of HT_.out (by kernel_rfl)) (fun _ _ _ h => h) (Or.inl ⟨by rfl, ?_⟩) ?_ ?_
          rotate_left
          · intro w'
            go_simp
            with_reducible rfl
          rotate_left
          · simp only [Act.put, List.setIfInBounds_toArray, List.set_cons_zero, List.set_cons_succ, i64_w, i32_w]
            rfl
          refine pure_ (i := 21) (N := (some 65)) (v := ?_) (a' := ?_) #[true, true, true, true, true, true, true, true, true, true, true, true, true, true, true, true, true, true, true, true, true, true, false, false, false, false, false, false, false, false, false, false, false, false] rfl rfl (any_of HT_.out (by kernel_rfl)) (fun _ _ _ h => h) (Or.inl ⟨by rfl, ?_⟩) ?_ ?_
          rotate_left
          · intro w'
            go_simp
            with_reducible rfl
          rotate_left
          · simp only [Act.put, List.setIfInBounds_toArray, List.set_cons_zero, List.set_cons_succ, i64_w, i32_w]
            rfl
          refine pure_ (i := 22) (N := (some 66)) (v := ?_) (a' := ?_) #[true, true, true, true, true, true, true, true, true, true, true, true, true, true, true, true, true, true, true, true, true, true, true, false, false, false, false, false, false, false, false, false, false, false] rfl rfl (any_of HT_.out (by kernel_rfl)) (fun _ _ _ h => h) (Or.inl ⟨by rfl, ?_⟩) ?_ ?_
          rotate_left
          · intro w'
            go_simp
            with_reducible rfl
          rotate_left
          · simp only [Act.put, List.setIfInBounds_toArray, List.set_cons_zero, List.set_cons_succ, i64_w, i32_w]
            rfl
          refine pure_ (i := 23) (N := (some 67)) (v := ?_) (a' := ?_) #[true, true, true, true, true, true, true, true, true, true, true, true, true, true, true, true, true, true, true, true, true, true, true, true, false, false, false, false, false, false, false, false, false, false] rfl rfl (any_of HT_.out (by kernel_rfl)) (fun _ _ _ h => h) (Or.inl ⟨by rfl, ?_⟩) ?_ ?_
          rotate_left
          · intro w'
            go_simp
            with_reducible rfl
          rotate_left
          · simp only [Act.put, List.setIfInBounds_toArray, List.set_cons_zero, List.set_cons_succ, i64_w, i32_w]
            rfl
          refine take_ (i := 24) (N := (some 68)) (v := ?_) (a' := ?_) #[true, true, true, true, true, true, true, true, true, true, true, true, true, true, true, true, true, true, true, true, true, true, true, true, true, false, false, false, false, false, false, false, false, false] rfl rfl (take_ofW HT_.out HW_.out (by kernel_rfl)) (fun _ _ _ h => h) (Or.inl ⟨by rfl, ?_⟩) hHeld ?_ ?_
          rotate_left
          · rintro w' ⟨s0, s1, s2, s3, s4⟩
            go_simp
            with_reducible rfl
          rotate_left
          · simp only [Act.put, List.setIfInBounds_toArray, List.set_cons_zero, List.set_cons_succ, i64_w, i32_w]
            rfl
          refine pure_ (i := 25) (N := (some 69)) (v := ?_) (a' := ?_) #[true, true, true, true, true, true, true, true, true, true, true, true, true, true, true, true, true, true, true, true, true, true, true, true, true, true, false, false, false, false, false, false, false, false] rfl rfl (any_of HT_.out (by kernel_rfl)) (fun _ _ _ h => h) (Or.inl ⟨by rfl, ?_⟩) ?_ ?_
          rotate_left
          · intro w'
            go_simp
            with_reducible rfl
          rotate_left
          · simp only [Act.put, List.setIfInBounds_toArray, List.set_cons_zero, List.set_cons_succ, i64_w, i32_w]
            rfl
          refine pure_ (i := 26) (N := (some 70)) (v := ?_) (a' := ?_) #[true, true, true, true, true, true, true, true, true, true, true, true, true, true, true, true, true, true, true, true, true, true, true, true, true, true, true, false, false, false, false, false, false, false] rfl rfl (any_of HT_.out (by kernel_rfl)) (fun _ _ _ h => h) (Or.inl ⟨by rfl, ?_⟩) ?_ ?_
          rotate_left
          · intro w'
            go_simp
            with_reducible rfl
          rotate_left
          · simp only [Act.put, List.setIfInBounds_toArray, List.set_cons_zero, List.set_cons_succ, i64_w, i32_w]
            rfl
          refine pure_ (i := 27) (N := (some 71)) (v := ?_) (a' := ?_) #[true, true, true, true, true, true, true, true, true, true, true, true, true, true, true, true, true, true, true, true, true, true, true, true, true, true, true, true, false, false, false, false, false, false] rfl rfl (any_of HT_.out (by kernel_rfl)) (fun _ _ _ h => h) (Or.inl ⟨by rfl, ?_⟩) ?_ ?_
          rotate_left
          · intro w'
            go_simp
            with_reducible rfl
          rotate_left
          · simp only [Act.put, List.setIfInBounds_toArray, List.set_cons_zero, List.set_cons_succ, i64_w, i32_w]
            rfl
          refine take_ (i := 28) (N := (some 72)) (v := ?_) (a' := ?_) #[true, true, true, true, true, true, true, true, true, true, true, true, true, true, true, true, true, true, true, true, true, true, true, true, true, true, true, true, true, false, false, false, false, false] rfl rfl (take_ofW HT_.out HW_.out (by kernel_rfl)) (fun _ _ _ h => h) (Or.inl ⟨by rfl, ?_⟩) hHeld ?_ ?_
          rotate_left
          · rintro w' ⟨s0, s1, s2, s3, s4⟩
            go_simp
            with_reducible rfl
          rotate_left
          · simp only [Act.put, List.setIfInBounds_toArray, List.set_cons_zero, List.set_cons_succ, i64_w, i32_w]
            rfl
          refine pure_ (i := 29) (N := (some 73)) (v := ?_) (a' := ?_) #[true, true, true, true, true, true, true, true, true, true, true, true, true, true, true, true, true, true, true, true, true, true, true, true, true, true, true, true, true, true, false, false, false, false] rfl rfl (any_of HT_.out (by kernel_rfl)) (fun _ _ _ h => h) (Or.inl ⟨by rfl, ?_⟩) ?_ ?_
          rotate_left
          · intro w'
            go_simp
            with_reducible rfl
          rotate_left
          · simp only [Act.put, List.setIfInBounds_toArray, List.set_cons_zero, List.set_cons_succ, i64_w, i32_w]
            rfl
          refine one_ (i := 30) (N := (some 74)) #[true, true, true, true, true, true, true, true, true, true, true, true, true, true, true, true, true, true, true, true, true, true, true, true, true, true, true, true, true, true, true, false, false, false] rfl rfl (one_of HT_.out (by kernel_rfl)) (by decide) (fun K hK => ?_)
          refine value_ (w1 := (wr.alloc (.cells #[.int .u8 y.f0, .int .u8 y.f1, .int .i64 y.f2] 48)).drew) (v := .slice (some ⟨wr.heap.size, 0, none⟩) 1 1) (by rfl) rfl ?_ ?_
          · go_simp
            try rfl
          refine hK.out _ _ HSA.out (fun hHeld => ?_)
          clear hK K
          refine norm_ (a' := ?_) ?_ ?_
          rotate_left
          · show Act.put _ (some 74) _ = _
            simp only [Act.put, List.setIfInBounds_toArray, List.set_cons_zero, List.set_cons_succ, i64_w, i32_w]
            rfl
          refine one_ (i := 31) (N := (some 75)) #[true, true, true, true, true, true, true, true, true, true, true, true, true, true, true, true, true, true, true, true, true, true, true, true, true, true, true, true, true, true, true, true, false, false] rfl rfl (one_of HT_.out (by kernel_rfl)) (by decide) (fun K hK => ?_)
          refine value_ (w1 := w2) (v := .slice (some ⟨g', 0, none⟩) (j + 1) cap') (by rfl) rfl ?_ ?_
          · exact run_appendOp rfl rfl rfl HRUN.out
          refine hK.out _ _ HSB.out (fun hHeld => ?_)
          clear hK K
          refine norm_ (a' := ?_) ?_ ?_
          rotate_left
          · show Act.put _ (some 75) _ = _
            simp only [Act.put, List.setIfInBounds_toArray, List.set_cons_zero, List.set_cons_succ, i64_w, i32_w]
            rfl
          refine pure_ (i := 32) (N := (some 76)) (v := ?_) (a' := ?_) #[true, true, true, true, true, true, true, true, true, true, true, true, true, true, true, true, true, true, true, true, true, true, true, true, true, true, true, true, true, true, true, true, true, false] rfl rfl (any_of HT_.out (by kernel_rfl)) (fun _ _ _ h => h) (Or.inl ⟨by rfl, ?_⟩) ?_ ?_
          rotate_left
          · intro w'
            go_simp
            with_reducible rfl
          rotate_left
          · simp only [Act.put, List.setIfInBounds_toArray, List.set_cons_zero, List.set_cons_succ, i64_w, i32_w]
            rfl
          refine last_ (i := 33) (N := none) #[true, true, true, true, true, true, true, true, true, true, true, true, true, true, true, true, true, true, true, true, true, true, true, true, true, true, true, true, true, true, true, true, true, true] rfl rfl (one_of HT_.out (by kernel_rfl)) (by decide) (fun K hK => ?_)
          refine skip_ (w1 := ?_) (by rfl) rfl ?_ ?_
          rotate_left
          · go_simp
            rfl
          refine hK.out _ _ ?_
          clear hK K
          refine done_ (done_of HT_.out (by kernel_rfl)) ?_
          have hB9 : Below wo.heap.size wo (w2.setCell ⟨wo.heap.size, 1, none⟩ (.slice (some ⟨g', 0, none⟩) (j + 1) cap')) := below_set HBW2.out (Nat.le_refl _)
          have hX9 : (w2.setCell ⟨wo.heap.size, 1, none⟩ (.slice (some ⟨g', 0, none⟩) (j + 1) cap')).heap[wo.heap.size]? = some (.cells #[.int .i64 x.f0, .slice (some ⟨g', 0, none⟩) (j + 1) cap', .slice A2 x.f2.length c2, .int .i64 x.f3, .int .i64 x.f4] 33 (0, 0)) := blk_put HB2.out 1 _ rfl
          have hO9 : (w2.setCell ⟨wo.heap.size, 1, none⟩ (.slice (some ⟨g', 0, none⟩) (j + 1) cap')).ownsRow (wo.heap.size + 1) 48 3 (.slice (some ⟨g', 0, none⟩) (j + 1) cap') (j + 1) (eflat ((x.f1.take (j + 1)).map toE)) := by
            rw [HTK.out]
            exact own_move HO2.out (fun k hk => Below.heap_setCell _ _ _ k (fun e => by have h1 := own_base HO2.out k hk; have e1 : k = wo.heap.size := e; omega))
          generalize w2.setCell ⟨wo.heap.size, 1, none⟩ (.slice (some ⟨g', 0, none⟩) (j + 1) cap') = w9 at hB9 hX9 hO9 ⊢
          have HB9 := Aside0.mk hB9
          have HX9 := Aside0.mk hX9
          have HO9 := Aside0.mk hO9
          clear hB9 hX9 hO9 HBW2 HB2 HO2 HTK HRUN HSB HSA HS0 hfr hfz hi0 hz0 hz1 hz2 hsd
          go_wp2_with fail
          go_roundw
          case rel => exact ⟨j + 1, _, by omega, by go_num, HB9.out, HX9.out, HO9.out⟩
          case measure => simp [intOf]; omega
        · obtain rfl : n1 = j := by omega
          have hbr : Below w.heap.size w wr := HB.out.trans (hbz.mono HB.out.size)
          have hsz : wo.heap.size < wr.heap.size := blk_lt hbox
          have ho1 := own_below HO.out hbz
          have hcb := cells5m hbox
          have HBZ := Aside0.mk hbz
          have hv1 : v1.oneCell' = true := by rcases hoz.2 with ⟨h, _⟩ | ⟨_, _, _, h, _⟩ <;> rw [h] <;> rfl
          have HV1 := Aside0.mk hv1
          have HOZ := Aside0.mk hoz
          have HO1 := Aside0.mk ho1
          have HBR := Aside0.mk hbr
          clear hbz hoz ho1 hbr hbox hv1
          go_wp2_with (at_builtin; refine print_append_cells (w0 := w) w.heap.size rfl (.tmp 77) (.tmp 79) 26 33 (.agg #[.int .i64 0, .slice none 0 0, .slice none 0 0, .int .i64 0, .int .i64 0]) 5 72 rfl Try.underlying26 node_info2 rfl (by decide) (by decide) u3 k inner [.int .i64 x.f0, v1, .slice A2 x.f2.length c2, .int .i64 x.f3, .int .i64 x.f4] rfl rfl rfl ?aV HO1.out HBR.out HBR.out.size (by omega) ?_; (case aV => (intro u hu; simp only [List.mem_cons, List.not_mem_nil, or_false] at hu; rcases hu with rfl | rfl | rfl | rfl | rfl; rfl; exact HV1.out; rfl; rfl; rfl)); intro v1' w2 q1 q2 q3 q4; have Q1' := Aside0.mk q1; have Q2' := Aside0.mk q2; have Q3' := Aside0.mk q3; clear q1 q2 q3 q4)
          go_roundw
          case rel =>
            refine ⟨k + 1, _, by omega, by go_num, Q2'.out, Q1'.out, ?_⟩
            have hxk : l[k]'HK2.out = x := HX.out.symm
            rw [List.take_succ_eq_append_getElem HK2.out, hxk]
            refine ((HREPS.out.imp_ (fun p c hp => hp.step fun v1 hv => own_rows (own_below hv HBZ.out) HO1.out (by decide) Q3'.out)).snoc ⟨v1, A2, c2, rfl, ?_, L2.out, G2.out⟩ rfl)
            have h1 := HOZ.out
            rw [HN1.out, List.take_length] at h1
            exact own_rows (own_weaken h1 (by have := HB.out.size; omega)) HO1.out (by decide) Q3'.out
          case measure => simp [intOf]; omega
    · obtain rfl : n = k := by omega
      go_wp2_with fail
      go_ret
      have h1 := HREPS.out
      rw [HN.out, List.take_length] at h1
      exact ⟨_, inner, rfl, HO.out, h1, HB.out⟩
theorem made_row {w W : World} {l : List S46} {v : Value} {inner : List Value} (ho : W.ownsRow w.heap.size 33 5 v l.length inner) (hr : Reps (MN w W w.heap.size) 5 l inner) (hb : Below w.heap.size w W) :
    ∃ A c, v = .slice A l.length c ∧ l.length ≤ c ∧ Kd.C k33 W A l.length (l.map toN) := by
  obtain ⟨A, c, hv, hl2, hC⟩ := nodes_row (l := l.map toN) ho (by rw [List.length_map]) (reps_map toN hr (fun x c hx => hx.node hb))
  rw [List.length_map] at hv hl2 hC
  exact ⟨A, c, hv, hl2, hC⟩
theorem made_any (w : World) {A0 : Option Addr} {c0 : Nat} {l : List S46} (hr0 : Kd.C k46 w A0 l.length l) (hl : l.length ≤ 1000) (hl1 : ∀ x ∈ l, x.f1.length ≤ 1000) :
    Calls Try.prog 12 #[.slice A0 l.length c0] w fun e W' => ∃ A c, e = .returned (.slice A l.length c) ∧ l.length ≤ c ∧ Kd.C k33 W' A l.length (l.map toN) ∧ Below w.heap.size w W' := by
  refine (made_own w hr0 hl hl1).mono ?_
  rintro e W ⟨v, inner, rfl, ho, hr, hb⟩
  obtain ⟨A, c, rfl, h1, h2⟩ := made_row ho hr hb
  exact ⟨A, c, rfl, h1, h2, hb⟩
theorem made_snoc {w W W' : World} {l : List S46} {v v' : Value} {inner : List Value} {base : Nat} {x : S33} (hx1 : x.f1 = []) (hx2 : x.f2 = []) (ho : W.ownsRow w.heap.size 33 5 v l.length inner) (hr : Reps (MN w W w.heap.size) 5 l inner) (hb : Below w.heap.size w W')
    (ho' : W'.ownsRow base 33 5 v' (l.length + 1) (inner ++ [.int .i64 x.f0, .slice none 0 0, .slice none 0 0, .int .i64 x.f3, .int .i64 x.f4])) (hg : W.grownBy W' v.ownBlock) :
    ∃ A c, v' = .slice A (l.map toN ++ [x]).length c ∧ (l.map toN ++ [x]).length ≤ c ∧ Kd.C k33 W' A (l.map toN ++ [x]).length (l.map toN ++ [x]) := by
  obtain ⟨x0, x1, x2, x3, x4⟩ := x
  subst hx1
  subst hx2
  exact nodes_row ho' (by simp) ((reps_map toN hr (fun x c hx => (hx.step (W' := W') fun v1 hv => own_rows hv ho (by decide) hg).node hb)).snoc (k33_mk W' ⟨x0, [], [], x3, x4⟩ (A1 := none) (c1 := 0) (Nat.le_refl _) (X.C_nil _ _) (A2 := none) (c2 := 0) (Nat.le_refl _) (X.C_nil _ _)) rfl)
end Go.Proofs.Ytacnflelkpkbhaa.PA
end
