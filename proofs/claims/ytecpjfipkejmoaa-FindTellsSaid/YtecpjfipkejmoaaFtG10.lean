/- Texts of this claim, those that nothing needs left out: Zmq Zmv Zmx. -/
import Derived.Test.YtecpjfipkejmoaaFtG9
import Derived.Test.YtecpjfipkejmoaaFtG2
import Derived.Test.YtecpjfipkejmoaaFtG3
import Derived.Test.YtecpjfipkejmoaaFtG4
section
namespace Go.Proofs.Ytecpjfipkejmoaa.PA
set_option linter.unusedSimpArgs false
set_option linter.unusedVariables false
open Go.RowKit Go.Maps Go.Proofs.YtecpjfipkejmoaaW.PrintWords Go.Proofs.YtecpjfipkejmoaaW.PrintLast Go.Proofs.YtecpjfipkejmoaaW.PrintMore
def toE (e : S65) : S52 := ⟨e.f0, e.f1, e.f2⟩
def toN (x : S35) : S49 := ⟨x.f0, x.f1.map toE, x.f2, x.f3, x.f4⟩
theorem rdr_at (xs : List S35) (j : Nat) (h : j < xs.length) : rd_T35 xs (j : Int) = xs[j] := by
  unfold rd_T35
  rw [Int.toNat_natCast, List.getD_eq_getElem?_getD, List.getElem?_eq_getElem h]
  rfl
theorem rdre_at (xs : List S65) (j : Nat) (h : j < xs.length) : rd_T65 xs (j : Int) = xs[j] := by
  unfold rd_T65
  rw [Int.toNat_natCast, List.getD_eq_getElem?_getD, List.getElem?_eq_getElem h]
  rfl
theorem edge_info : (Try.prog.info? 52).map (fun i => (i.zero, i.size, i.bytes)) = some (some (.agg #[.int .u8 0, .int .u8 0, .int .i64 0]), 3, 16) := by kernel_rfl
theorem node_info2 : (Try.prog.info? 49).map (fun i => (i.zero, i.size, i.bytes)) = some (some (.agg #[.int .i64 0, .slice none 0 0, .slice none 0 0, .int .i64 0, .int .i64 0]), 5, 72) := by kernel_rfl
def MN (w W : World) (base : Nat) (x : S35) (cs : List Value) : Prop :=
  ∃ v1 A2 c2, cs = [.int .i64 x.f0, v1, .slice A2 x.f2.length c2, .int .i64 x.f3, .int .i64 x.f4] ∧ W.ownsRow base 52 3 v1 x.f1.length (eflat (x.f1.map toE)) ∧ x.f2.length ≤ c2 ∧ Kd.C (Kd.int .i64) w A2 x.f2.length x.f2
theorem MN.step {w W W' : World} {base : Nat} {x : S35} {cs : List Value} (h : MN w W base x cs) (hm : ∀ v1, W.ownsRow base 52 3 v1 x.f1.length (eflat (x.f1.map toE)) → W'.ownsRow base 52 3 v1 x.f1.length (eflat (x.f1.map toE))) : MN w W' base x cs := by
  obtain ⟨v1, A2, c2, h1, h2, h3, h4⟩ := h
  exact ⟨v1, A2, c2, h1, hm v1 h2, h3, h4⟩
theorem eflat_reps (w : World) (l : List S52) : Reps (k52.K w) 3 l (eflat l) := by
  have key : ∀ n, n ≤ l.length → Reps (k52.K w) 3 (l.take n) (eflat (l.take n)) := by
    intro n
    induction n with
    | zero => intro _; exact Reps.none _ _
    | succ n ih =>
      intro h
      rw [List.take_succ_eq_append_getElem (by omega), eflat_snoc]
      exact (ih (by omega)).snoc (k52_mk w _) rfl
  have h := key l.length (Nat.le_refl _)
  rwa [List.take_length] at h
theorem MN.node {w W : World} {base : Nat} {x : S35} {cs : List Value} (h : MN w W base x cs) (hb : Below w.heap.size w W) : k49.K W (toN x) cs := by
  obtain ⟨v1, A2, c2, rfl, h2, h3, h4⟩ := h
  obtain ⟨A1, c1, hv, hl, hc⟩ := OwnRow.reads (ps := x.f1.map toE) ⟨_, by rw [List.length_map]; exact h2, eflat_reps W _⟩
  subst hv
  exact k49_mk W (toN x) hl hc h3 (Kd.C_below h4 hb)
theorem own_rows {W W' : World} {base base' n n' sz sz' : Nat} {e e' : TypeId} {v v' : Value} {xs xs' : List Value} (h : W.ownsRow base e sz v n xs) (h' : W.ownsRow base' e' sz' v' n' xs') (he : e ≠ e') (hg : W.grownBy W' v'.ownBlock) : W'.ownsRow base e sz v n xs := by
  refine Go.Proofs.YtecpjfipkejmoaaW.PrintWords.own_other h hg ?_
  cases hv : v.ownBlock with
  | none => exact .inl rfl
  | some k =>
    refine .inr fun e0 => ?_
    obtain ⟨c, hc⟩ := own_typed h k hv
    obtain ⟨c', hc'⟩ := own_typed h' k e0.symm
    rw [hc] at hc'
    injection hc' with h1
    injection h1 with _ h2
    exact he h2
theorem reps_map {α β : Type} {R : α → List Value → Prop} {R' : β → List Value → Prop} {sz : Nat} {l : List α} {cs : List Value} (f : α → β) (h : Reps R sz l cs) (hf : ∀ x c, R x c → R' (f x) c) : Reps R' sz (l.map f) cs := by
  refine ⟨by rw [h.1, List.length_map], fun j p hj => ?_⟩
  rw [List.getElem?_map] at hj
  obtain ⟨x, hx, rfl⟩ := Option.map_eq_some_iff.1 hj
  exact hf _ _ (h.2 j x hx)
theorem run_appendOp {o : Oper} {ρ : Operand → Value} {P : Program} {w w' : World} {s x : Operand} {t : TypeId} {v u r : Value} (ho : o.op = .call { callee := .builtin .append, args := #[s, x], argTypes := #[t, t] }) (hs : ρ s = v) (hx : ρ x = u)
    (h : (Builtin.append_ #[t, t] o.type #[v, u]).run P w = .ok r w') : (execOp ρ o).run P w = .ok (.value r) w' := by
  simp [execOp, ho, resolve, invoke, builtin, hs, hx, h, Result.andThen]
def made.T9 : Bool × List (List Nat × List Nat) := (true, [([], []), ([0], [0]), ([], []), ([], []), ([2, 3], [2, 3]), ([4], [4]), ([5], [5]), ([], []), ([6, 7], [6, 7]), ([8], [8]), ([9], [9]), ([], []), ([], []), ([11, 12], [11, 12]), ([13], [13]), ([14], [14]), ([], []), ([15, 16], [15, 16]), ([17], [17]), ([18], [18]), ([], []), ([], []), ([20, 21], [20, 21]), ([22], [22]), ([23], [23]), ([], []), ([24, 25], [24, 25]), ([26], [26]), ([27], [27]), ([10, 19, 28], [10, 19, 28]), ([29], [29]), ([1, 30], [1, 30]), ([0, 1, 2, 3, 4, 5, 6, 7, 8, 9, 10, 11, 12, 13, 14, 15, 16, 17, 18, 19, 20, 21, 22, 23, 24, 25, 26, 27, 28, 29, 30, 31], []), ([32, 31, 31, 0, 1, 2, 3, 4, 5, 6, 7, 8, 9, 10, 11, 12, 13, 14, 15, 16, 17, 18, 19, 20, 21, 22, 23, 24, 25, 26, 27, 28, 29, 30, 31], [31, 32])])
def made.B9 : List Nat := [0, 1, 0, 0, 12, 28, 60, 0, 252, 508, 1020, 0, 0, 6144, 14336, 30720, 0, 129024, 260096, 522240, 0, 0, 3145728, 7340032, 15728640, 0, 66060288, 133169152, 267386880, 536870908, 1073741820, 2147483647, 0, 8589934591]
theorem made.tab9 : rtab .any (opsOf Try.f11 9) = made.T9 := by kernel_rfl
theorem made.bits9 : waitsOk made.T9.2 made.B9 = true := by kernel_rfl
def made.T5 : Bool × List (List Nat × List Nat) := (true, [([], []), ([], []), ([0, 1], [0, 1]), ([2], [2]), ([3], [3]), ([], []), ([], []), ([5, 6], [5, 6]), ([7], [7]), ([8], [8]), ([], []), ([], []), ([10, 11], [10, 11]), ([12], [12]), ([13], [13]), ([], []), ([], []), ([15, 16], [15, 16]), ([17], [17]), ([18], [18]), ([4, 9, 14, 19], [4, 9, 14, 19]), ([], []), ([21, 20, 0, 1, 2, 3, 4, 5, 6, 7, 8, 9, 10, 11, 12, 13, 14, 15, 16, 17, 18, 19, 20, 21], [20, 21])])
def made.B5 : List Nat := [0, 0, 3, 7, 15, 0, 0, 96, 224, 480, 0, 0, 3072, 7168, 15360, 0, 0, 98304, 229376, 491520, 1048575, 0, 4194303]
theorem made.tab5 : rtab .any (opsOf Try.f11 5) = made.T5 := by kernel_rfl
theorem made.bits5 : waitsOk made.T5.2 made.B5 = true := by kernel_rfl
set_option maxHeartbeats 16000000 in
set_option maxRecDepth 100000 in
theorem made_own (w : World) {A0 : Option Addr} {c0 : Nat} {l : List S35} (hr0 : Kd.C k35 w A0 l.length l) (hl : l.length ≤ 1000) (hl1 : ∀ x ∈ l, x.f1.length ≤ 1000) :
    Calls Try.prog 11 #[.slice A0 l.length c0] w fun e W' => ∃ v inner, e = .returned v ∧ W'.ownsRow w.heap.size 49 5 v l.length inner ∧ Reps (MN w W' w.heap.size) 5 l inner ∧ Below w.heap.size w W' := by
  have HR := Aside0.mk hr0
  clear hr0
  obtain ⟨n, hn⟩ : ∃ n, n = l.length := ⟨_, rfl⟩
  have HN := Aside0.mk hn
  rw [← hn] at hl ⊢
  clear hn
  go_enter Try.func11, Try.ntmps11
  go_wp2_with fail
  go_loopw [4, 3] (fun v4 v3 wr => ∃ (k : Nat) (inner : List Value), k ≤ n ∧ v4 = .int .i64 (k : Int) ∧ Below w.heap.size w wr ∧ wr.ownsRow w.heap.size 49 5 v3 k inner ∧ Reps (MN w wr w.heap.size) 5 (l.take k) inner) (fun v4 _ _ => (n - intOf v4).toNat)
  case atStart => exact ⟨0, [], Nat.zero_le _, rfl, Below.refl _ _, World.ownsRow_nil _ _ _ _, Reps.none _ _⟩
  case round =>
    obtain ⟨k, inner, hk, rfl, hb, ho, hreps⟩ := hrel
    obtain ⟨wo, hwo⟩ : ∃ wo, wo = wr := ⟨_, rfl⟩
    subst hwo
    have HB := Aside0.mk hb
    have HO := Aside0.mk ho
    have HREPS := Aside0.mk hreps
    clear hb ho hreps
    by_cases hlt : k < n
    · have hk2 : k < l.length := by rw [← HN.out]; exact hlt
      obtain ⟨ad, A1, c1, A2, c2, hA, q0, q1, q2, q3, q4, l1, g1, l2, g2⟩ := at_T35 HR.out (k : Int) (by omega) (by omega)
      rw [Int.toNat_natCast, rdr_at l k hk2] at q0 q1 q2 q3 q4
      rw [rdr_at l k hk2] at l1 l2 g1 g2
      have hx1 := hl1 _ (List.getElem_mem hk2)
      obtain ⟨x, hx⟩ : ∃ x, x = l[k] := ⟨_, rfl⟩
      rw [← hx] at q0 q1 q2 q3 q4 l1 g1 l2 g2 hx1
      have r0 := addr_keep HB.out q0
      have r1 := addr_keep HB.out q1
      have r2 := addr_keep HB.out q2
      have r3 := addr_keep HB.out q3
      have r4 := addr_keep HB.out q4
      have hz := X.below_new1 wo (.cells #[.int .i64 0, .slice none 0 0, .slice none 0 0, .int .i64 0, .int .i64 0] 49)
      have z0 := addr_keep hz r0
      have z1 := addr_keep hz r1
      have z2 := addr_keep hz r2
      have z3 := addr_keep hz r3
      have z4 := addr_keep hz r4
      have HX := Aside0.mk hx
      have Q1 := Aside0.mk q1
      have L1 := Aside0.mk l1
      have G1 := Aside0.mk g1
      have L2 := Aside0.mk l2
      have G2 := Aside0.mk g2
      have HK2 := Aside0.mk hk2
      clear hx l1 g1 l2 g2 q0 q1 q2 q3 q4 hz
      subst hA
      go_wp2_with fail
      refine start_ (n := 23) (S := fun w' => w'.cell? (ad.add (k * 5)) = some (.int .i64 x.f0) ∧ w'.cell? ⟨(ad.add (k * 5)).block, (ad.add (k * 5)).off + 2, none⟩ = some (.slice A2 x.f2.length c2) ∧ w'.cell? ⟨(ad.add (k * 5)).block, (ad.add (k * 5)).off + 3, none⟩ = some (.int .i64 x.f3) ∧ w'.cell? ⟨(ad.add (k * 5)).block, (ad.add (k * 5)).off + 4, none⟩ = some (.int .i64 x.f4)) (ds := [22]) #[false, false, false, false, false, false, false, false, false, false, false, false, false, false, false, false, false, false, false, false, false, false, false] (by kernel_rfl) rfl rfl ⟨r0, r2, r3, r4⟩ (fun hHeld => ?_)
      refine with_tabW made.tab5 made.bits5 (fun HT_ HW_ => ?_)
      refine pure_ (i := 0) (N := (some 13)) (v := ?_) (a' := ?_) #[true, false, false, false, false, false, false, false, false, false, false, false, false, false, false, false, false, false, false, false, false, false, false] rfl rfl (any_of HT_.out (by kernel_rfl)) (fun _ _ _ h => h) (Or.inl ⟨by rfl, ?_⟩) ?_ ?_
      rotate_left
      · intro w'
        go_simp
        with_reducible rfl
      rotate_left
      · simp only [Act.put, List.setIfInBounds_toArray, List.set_cons_zero, List.set_cons_succ, i64_w, i32_w]
        rfl
      refine pure_ (i := 1) (N := (some 14)) (v := ?_) (a' := ?_) #[true, true, false, false, false, false, false, false, false, false, false, false, false, false, false, false, false, false, false, false, false, false, false] rfl rfl (any_of HT_.out (by kernel_rfl)) (fun _ _ _ h => h) (Or.inl ⟨by rfl, ?_⟩) ?_ ?_
      rotate_left
      · intro w'
        go_simp
        with_reducible rfl
      rotate_left
      · simp only [Act.put, List.setIfInBounds_toArray, List.set_cons_zero, List.set_cons_succ, i64_w, i32_w]
        rfl
      refine pure_ (i := 2) (N := (some 15)) (v := ?_) (a' := ?_) #[true, true, true, false, false, false, false, false, false, false, false, false, false, false, false, false, false, false, false, false, false, false, false] rfl rfl (any_of HT_.out (by kernel_rfl)) (fun _ _ _ h => h) (Or.inl ⟨by rfl, ?_⟩) ?_ ?_
      rotate_left
      · intro w'
        go_simp
        with_reducible rfl
      rotate_left
      · simp only [Act.put, List.setIfInBounds_toArray, List.set_cons_zero, List.set_cons_succ, i64_w, i32_w]
        rfl
      refine pure_ (i := 3) (N := (some 16)) (v := ?_) (a' := ?_) #[true, true, true, true, false, false, false, false, false, false, false, false, false, false, false, false, false, false, false, false, false, false, false] rfl rfl (any_of HT_.out (by kernel_rfl)) (fun _ _ _ h => h) (Or.inl ⟨by rfl, ?_⟩) ?_ ?_
      rotate_left
      · intro w'
        go_simp
        with_reducible rfl
      rotate_left
      · simp only [Act.put, List.setIfInBounds_toArray, List.set_cons_zero, List.set_cons_succ, i64_w, i32_w]
        rfl
      refine take_ (i := 4) (N := (some 17)) (v := ?_) (a' := ?_) #[true, true, true, true, true, false, false, false, false, false, false, false, false, false, false, false, false, false, false, false, false, false, false] rfl rfl (take_ofW HT_.out HW_.out (by kernel_rfl)) (fun _ _ _ h => h) (Or.inl ⟨by rfl, ?_⟩) hHeld ?_ ?_
      rotate_left
      · rintro w' ⟨s0, s1, s2, s3⟩
        go_simp
        with_reducible rfl
      rotate_left
      · simp only [Act.put, List.setIfInBounds_toArray, List.set_cons_zero, List.set_cons_succ, i64_w, i32_w]
        rfl
      refine pure_ (i := 5) (N := (some 18)) (v := ?_) (a' := ?_) #[true, true, true, true, true, true, false, false, false, false, false, false, false, false, false, false, false, false, false, false, false, false, false] rfl rfl (any_of HT_.out (by kernel_rfl)) (fun _ _ _ h => h) (Or.inl ⟨by rfl, ?_⟩) ?_ ?_
      rotate_left
      · intro w'
        go_simp
        with_reducible rfl
      rotate_left
      · simp only [Act.put, List.setIfInBounds_toArray, List.set_cons_zero, List.set_cons_succ, i64_w, i32_w]
        rfl
      refine pure_ (i := 6) (N := (some 19)) (v := ?_) (a' := ?_) #[true, true, true, true, true, true, true, false, false, false, false, false, false, false, false, false, false, false, false, false, false, false, false] rfl rfl (any_of HT_.out (by kernel_rfl)) (fun _ _ _ h => h) (Or.inl ⟨by rfl, ?_⟩) ?_ ?_
      rotate_left
      · intro w'
        go_simp
        with_reducible rfl
      rotate_left
      · simp only [Act.put, List.setIfInBounds_toArray, List.set_cons_zero, List.set_cons_succ, i64_w, i32_w]
        rfl
      refine pure_ (i := 7) (N := (some 20)) (v := ?_) (a' := ?_) #[true, true, true, true, true, true, true, true, false, false, false, false, false, false, false, false, false, false, false, false, false, false, false] rfl rfl (any_of HT_.out (by kernel_rfl)) (fun _ _ _ h => h) (Or.inl ⟨by rfl, ?_⟩) ?_ ?_
      rotate_left
      · intro w'
        go_simp
        with_reducible rfl
      rotate_left
      · simp only [Act.put, List.setIfInBounds_toArray, List.set_cons_zero, List.set_cons_succ, i64_w, i32_w]
        rfl
      refine pure_ (i := 8) (N := (some 21)) (v := ?_) (a' := ?_) #[true, true, true, true, true, true, true, true, true, false, false, false, false, false, false, false, false, false, false, false, false, false, false] rfl rfl (any_of HT_.out (by kernel_rfl)) (fun _ _ _ h => h) (Or.inl ⟨by rfl, ?_⟩) ?_ ?_
      rotate_left
      · intro w'
        go_simp
        with_reducible rfl
      rotate_left
      · simp only [Act.put, List.setIfInBounds_toArray, List.set_cons_zero, List.set_cons_succ, i64_w, i32_w]
        rfl
      refine take_ (i := 9) (N := (some 22)) (v := ?_) (a' := ?_) #[true, true, true, true, true, true, true, true, true, true, false, false, false, false, false, false, false, false, false, false, false, false, false] rfl rfl (take_ofW HT_.out HW_.out (by kernel_rfl)) (fun _ _ _ h => h) (Or.inl ⟨by rfl, ?_⟩) hHeld ?_ ?_
      rotate_left
      · rintro w' ⟨s0, s1, s2, s3⟩
        go_simp
        with_reducible rfl
      rotate_left
      · simp only [Act.put, List.setIfInBounds_toArray, List.set_cons_zero, List.set_cons_succ, i64_w, i32_w]
        rfl
      refine pure_ (i := 10) (N := (some 23)) (v := ?_) (a' := ?_) #[true, true, true, true, true, true, true, true, true, true, true, false, false, false, false, false, false, false, false, false, false, false, false] rfl rfl (any_of HT_.out (by kernel_rfl)) (fun _ _ _ h => h) (Or.inl ⟨by rfl, ?_⟩) ?_ ?_
      rotate_left
      · intro w'
        go_simp
        with_reducible rfl
      rotate_left
      · simp only [Act.put, List.setIfInBounds_toArray, List.set_cons_zero, List.set_cons_succ, i64_w, i32_w]
        rfl
      refine pure_ (i := 11) (N := (some 24)) (v := ?_) (a' := ?_) #[true, true, true, true, true, true, true, true, true, true, true, true, false, false, false, false, false, false, false, false, false, false, false] rfl rfl (any_of HT_.out (by kernel_rfl)) (fun _ _ _ h => h) (Or.inl ⟨by rfl, ?_⟩) ?_ ?_
      rotate_left
      · intro w'
        go_simp
        with_reducible rfl
      rotate_left
      · simp only [Act.put, List.setIfInBounds_toArray, List.set_cons_zero, List.set_cons_succ, i64_w, i32_w]
        rfl
      refine pure_ (i := 12) (N := (some 25)) (v := ?_) (a' := ?_) #[true, true, true, true, true, true, true, true, true, true, true, true, true, false, false, false, false, false, false, false, false, false, false] rfl rfl (any_of HT_.out (by kernel_rfl)) (fun _ _ _ h => h) (Or.inl ⟨by rfl, ?_⟩) ?_ ?_
      rotate_left
      · intro w'
        go_simp
        with_reducible rfl
      rotate_left
      · simp only [Act.put, List.setIfInBounds_toArray, List.set_cons_zero, List.set_cons_succ, i64_w, i32_w]
        rfl
      refine pure_ (i := 13) (N := (some 26)) (v := ?_) (a' := ?_) #[true, true, true, true, true, true, true, true, true, true, true, true, true, true, false, false, false, false, false, false, false, false, false] rfl rfl (any_of HT_.out (by kernel_rfl)) (fun _ _ _ h => h) (Or.inl ⟨by rfl, ?_⟩) ?_ ?_
      rotate_left
      · intro w'
        go_simp
        with_reducible rfl
      rotate_left
      · simp only [Act.put, List.setIfInBounds_toArray, List.set_cons_zero, List.set_cons_succ, i64_w, i32_w]
        rfl
      refine take_ (i := 14) (N := (some 27)) (v := ?_) (a' := ?_) #[true, true, true, true, true, true, true, true, true, true, true, true, true, true, true, false, false, false, false, false, false, false, false] rfl rfl (take_ofW HT_.out HW_.out (by kernel_rfl)) (fun _ _ _ h => h) (Or.inl ⟨by rfl, ?_⟩) hHeld ?_ ?_
      rotate_left
      · rintro w' ⟨s0, s1, s2, s3⟩
        go_simp
        with_reducible rfl
      rotate_left
      · simp only [Act.put, List.setIfInBounds_toArray, List.set_cons_zero, List.set_cons_succ, i64_w, i32_w]
        rfl
      refine pure_ (i := 15) (N := (some 28)) (v := ?_) (a' := ?_) #[true, true, true, true, true, true, true, true, true, true, true, true, true, true, true, true, false, false, false, false, false, false, false] rfl rfl (any_of HT_.out (by kernel_rfl)) (fun _ _ _ h => h) (Or.inl ⟨by rfl, ?_⟩) ?_ ?_
      rotate_left
      · intro w'
        go_simp
        with_reducible rfl
      rotate_left
      · simp only [Act.put, List.setIfInBounds_toArray, List.set_cons_zero, List.set_cons_succ, i64_w, i32_w]
        rfl
      refine pure_ (i := 16) (N := (some 29)) (v := ?_) (a' := ?_) #[true, true, true, true, true, true, true, true, true, true, true, true, true, true, true, true, true, false, false, false, false, false, false] rfl rfl (any_of HT_.out (by kernel_rfl)) (fun _ _ _ h => h) (Or.inl ⟨by rfl, ?_⟩) ?_ ?_
      rotate_left
      · intro w'
        go_simp
        with_reducible rfl
      rotate_left
      · simp only [Act.put, List.setIfInBounds_toArray, List.set_cons_zero, List.set_cons_succ, i64_w, i32_w]
        rfl
      refine pure_ (i := 17) (N := (some 30)) (v := ?_) (a' := ?_) #[true, true, true, true, true, true, true, true, true, true, true, true, true, true, true, true, true, true, false, false, false, false, false] rfl rfl (any_of HT_.out (by kernel_rfl)) (fun _ _ _ h => h) (Or.inl ⟨by rfl, ?_⟩) ?_ ?_
      rotate_left
      · intro w'
        go_simp
        with_reducible rfl
      rotate_left
      · simp only [Act.put, List.setIfInBounds_toArray, List.set_cons_zero, List.set_cons_succ, i64_w, i32_w]
        rfl
      refine pure_ (i := 18) (N := (some 31)) (v := ?_) (a' := ?_) #[true, true, true, true, true, true, true, true, true, true, true, true, true, true, true, true, true, true, true, false, false, false, false] rfl rfl (any_of HT_.out (by kernel_rfl)) (fun _ _ _ h => h) (Or.inl ⟨by rfl, ?_⟩) ?_ ?_
      rotate_left
      · intro w'
        go_simp
        with_reducible rfl
      rotate_left
      · simp only [Act.put, List.setIfInBounds_toArray, List.set_cons_zero, List.set_cons_succ, i64_w, i32_w]
        rfl
      refine take_ (i := 19) (N := (some 32)) (v := ?_) (a' := ?_) #[true, true, true, true, true, true, true, true, true, true, true, true, true, true, true, true, true, true, true, true, false, false, false] rfl rfl (take_ofW HT_.out HW_.out (by kernel_rfl)) (fun _ _ _ h => h) (Or.inl ⟨by rfl, ?_⟩) hHeld ?_ ?_
      rotate_left
      · rintro w' ⟨s0, s1, s2, s3⟩
        go_simp
        with_reducible rfl
      rotate_left
      · simp only [Act.put, List.setIfInBounds_toArray, List.set_cons_zero, List.set_cons_succ, i64_w, i32_w]
        rfl
      refine pure_ (i := 20) (N := (some 33)) (v := ?_) (a' := ?_) #[true, true, true, true, true, true, true, true, true, true, true, true, true, true, true, true, true, true, true, true, true, false, false] rfl rfl (any_of HT_.out (by kernel_rfl)) (fun _ _ _ h => h) (Or.inl ⟨by rfl, ?_⟩) ?_ ?_
      rotate_left
      · intro w'
        go_simp
        with_reducible rfl
      rotate_left
      · simp only [Act.put, List.setIfInBounds_toArray, List.set_cons_zero, List.set_cons_succ, i64_w, i32_w]
        rfl
      refine one_ (i := 21) (N := (some 5)) #[true, true, true, true, true, true, true, true, true, true, true, true, true, true, true, true, true, true, true, true, true, true, false] rfl rfl (one_of HT_.out (by kernel_rfl)) (by decide) (fun K hK => ?_)
      refine value_ (w1 := (wo.alloc (.cells #[.int .i64 0, .slice none 0 0, .slice none 0 0, .int .i64 0, .int .i64 0] 49)).drew) (v := .pointer (some ⟨wo.heap.size, 0, none⟩)) (by rfl) rfl ?_ ?_
      · go_simp
        try rfl
      refine hK.out _ _ ⟨z0, z2, z3, z4⟩ (fun hHeld => ?_)
      clear hK K
      refine norm_ (a' := ?_) ?_ ?_
      rotate_left
      · show Act.put _ (some 5) _ = _
        simp only [Act.put, List.setIfInBounds_toArray, List.set_cons_zero, List.set_cons_succ, i64_w, i32_w]
        rfl
      refine last_ (i := 22) (N := none) #[true, true, true, true, true, true, true, true, true, true, true, true, true, true, true, true, true, true, true, true, true, true, true] rfl rfl (one_of HT_.out (by kernel_rfl)) (by decide) (fun K hK => ?_)
      refine skip_ (w1 := ?_) (by rfl) rfl ?_ ?_
      rotate_left
      · go_simp
        rfl
      refine hK.out _ _ ?_
      clear hK K
      refine done_ (done_of HT_.out (by kernel_rfl)) ?_
      have hw5 : Below wo.heap.size wo ((wo.alloc (.cells #[.int .i64 x.f0, .slice none 0 0, .slice A2 x.f2.length c2, .int .i64 x.f3, .int .i64 x.f4] 49)).drew) := below_drew1 (X.below_new1 wo _)
      have hbx : ((wo.alloc (.cells #[.int .i64 x.f0, .slice none 0 0, .slice A2 x.f2.length c2, .int .i64 x.f3, .int .i64 x.f4] 49)).drew).heap[wo.heap.size]? = some (.cells #[.int .i64 x.f0, .slice none 0 0, .slice A2 x.f2.length c2, .int .i64 x.f3, .int .i64 x.f4] 49 (0, 0)) := blk_new wo (.cells #[.int .i64 x.f0, .slice none 0 0, .slice A2 x.f2.length c2, .int .i64 x.f3, .int .i64 x.f4] 49)
      have hs5 : ((wo.alloc (.cells #[.int .i64 x.f0, .slice none 0 0, .slice A2 x.f2.length c2, .int .i64 x.f3, .int .i64 x.f4] 49)).drew).heap.size = wo.heap.size + 1 := X.size_alloc1 _ _
      generalize ((wo.alloc (.cells #[.int .i64 x.f0, .slice none 0 0, .slice A2 x.f2.length c2, .int .i64 x.f3, .int .i64 x.f4] 49)).drew) = W5 at hw5 hbx hs5 ⊢
      have HW5 := Aside0.mk hw5
      have HBX := Aside0.mk hbx
      have HS5 := Aside0.mk hs5
      obtain ⟨n1, hn1⟩ : ∃ n, n = x.f1.length := ⟨_, rfl⟩
      have HN1 := Aside0.mk hn1
      rw [← hn1] at hx1
      clear hw5 hbx hs5 hn1 r0 r1 r2 r3 r4 z0 z1 z2 z3 z4
      go_wp2_with fail
      go_loopw [6] (fun v6 wz => ∃ (j : Nat) (v1 : Value), j ≤ n1 ∧ v6 = .int .i64 (j : Int) ∧ Below wo.heap.size wo wz ∧ wz.heap[wo.heap.size]? = some (.cells #[.int .i64 x.f0, v1, .slice A2 x.f2.length c2, .int .i64 x.f3, .int .i64 x.f4] 49 (0, 0)) ∧ wz.ownsRow (wo.heap.size + 1) 52 3 v1 j (eflat ((x.f1.take j).map toE))) (fun v6 _ => (n1 - intOf v6).toNat)
      case atStart => exact ⟨0, .slice none 0 0, Nat.zero_le _, rfl, HW5.out, HBX.out, World.ownsRow_nil _ _ _ _⟩
      case round =>
        obtain ⟨j, v1, hj, rfl, hbz, hbox, hoz⟩ := hrel
        have hq1 := addr_keep (HB.out.trans (hbz.mono HB.out.size)) Q1.out
        rw [← HN1.out] at hq1
        by_cases hjl : j < n1
        · have hj2 : j < x.f1.length := by rw [← HN1.out]; exact hjl
          obtain ⟨ad1, hA1, e0, e1, e2⟩ := at_T65 G1.out (j : Int) (by omega) (by omega)
          rw [Int.toNat_natCast, rdre_at x.f1 j hj2] at e0 e1 e2
          have htk : eflat ((x.f1.take (j + 1)).map toE) = eflat ((x.f1.take j).map toE) ++ ecs (toE x.f1[j]) := by
            rw [List.take_succ_eq_append_getElem hj2, List.map_append]
            exact eflat_snoc _ _
          obtain ⟨y, hy⟩ : ∃ y, y = x.f1[j] := ⟨_, rfl⟩
          rw [← hy] at e0 e1 e2 htk
          subst hA1
          have hS : ∀ W, Below wo.heap.size wo W → W.heap[wo.heap.size]? = some (.cells #[.int .i64 x.f0, v1, .slice A2 x.f2.length c2, .int .i64 x.f3, .int .i64 x.f4] 49 (0, 0)) →
              W.cell? ⟨wo.heap.size, 1, none⟩ = some v1 ∧ W.cell? ⟨(ad.add (k * 5)).block, (ad.add (k * 5)).off + 1, none⟩ = some (.slice (some ad1) n1 c1) ∧ W.cell? (ad1.add (j * 3)) = some (.int .u8 y.f0) ∧ W.cell? ⟨(ad1.add (j * 3)).block, (ad1.add (j * 3)).off + 1, none⟩ = some (.int .u8 y.f1) ∧ W.cell? ⟨(ad1.add (j * 3)).block, (ad1.add (j * 3)).off + 2, none⟩ = some (.int .i64 y.f2) := fun W hb hx => by
            have hz := HB.out.trans (hb.mono HB.out.size)
            have hq := addr_keep hz Q1.out
            rw [← HN1.out] at hq
            exact ⟨(cells5m hx).2.1, hq, addr_keep hz e0, addr_keep hz e1, addr_keep hz e2⟩
          have hb30 : Below wo.heap.size wo ((wr.alloc (.cells #[.int .u8 y.f0, .int .u8 y.f1, .int .i64 y.f2] 52)).drew) := below_drew ((hbz.trans ((X.below_new1 wr (.cells #[.int .u8 y.f0, .int .u8 y.f1, .int .i64 y.f2] 52)).mono hbz.size)))
          have hoa := own_below hoz (below_drew1 (X.below_new1 wr (.cells #[.int .u8 y.f0, .int .u8 y.f1, .int .i64 y.f2] 52)))
          have hba := blk_alloc hbox (.cells #[.int .u8 y.f0, .int .u8 y.f1, .int .i64 y.f2] 52)
          have hsd : (wr.drew).heap.size = wr.heap.size := rfl
          obtain ⟨i0, hi0, hz0, hz1, hz2⟩ := info_parts edge_info
          obtain ⟨v2, w2, hrun, ho2, hg2, _, _⟩ := run_append_own_at (P := Try.prog) (w := (wr.alloc (.cells #[.int .u8 y.f0, .int .u8 y.f1, .int .i64 y.f2] 52)).drew) (wo.heap.size + 1) 47 47 52 i0 (.agg #[.int .u8 0, .int .u8 0, .int .i64 0]) 3 16 Try.underlying47 hi0 hz0 hz1 hz2 rfl (by decide) v1 j _ hoa ⟨wr.heap.size, 0, none⟩ 1 1 [.int .u8 y.f0, .int .u8 y.f1, .int .i64 y.f2] rfl (fun j u hu => cells_new3 wr _ _ _ _ j u hu) (by simp [Value.oneCell']) (by unfold maxLen; omega) (by omega) (by have h1 := blk_lt hbox; show _ ≤ (wr.alloc _).heap.size; rw [X.size_alloc1]; omega)
          obtain ⟨g', cap', rfl⟩ := ownsRow_succ ho2
          have hb2 := blk_row (blk_drew hba) hoa (by decide) hg2
          have hbw2 : Below wo.heap.size wo w2 := hb30.grown hg2 hb30.size (fun k e => by have := own_base hoa k e; omega)
          have hfz := blk_frozen hb2 1
          have HS0 := Aside0.mk (hS _ (below_drew hbz) (blk_drew hbox))
          have HSA := Aside0.mk (hS _ hb30 (blk_drew hba))
          have HSB := Aside0.mk (hS _ hbw2 hb2)
          have hfr := (cells5m hb2).2.1
          have HRUN := Aside0.mk hrun
          have HBW2 := Aside0.mk hbw2
          have HO2 := Aside0.mk ho2
          have HB2 := Aside0.mk hb2
          have HTK := Aside0.mk htk
          clear hbz hbox hoz ho2 hg2 hb2 hoa hba htk hy hS hb30 hrun hbw2 e0 e1 e2
          go_wp2_with fail
          refine start_ (n := 34) (S := fun w' => w'.cell? ⟨wo.heap.size, 1, none⟩ = some v1 ∧ w'.cell? ⟨(ad.add (k * 5)).block, (ad.add (k * 5)).off + 1, none⟩ = some (.slice (some ad1) n1 c1) ∧ w'.cell? (ad1.add (j * 3)) = some (.int .u8 y.f0) ∧ w'.cell? ⟨(ad1.add (j * 3)).block, (ad1.add (j * 3)).off + 1, none⟩ = some (.int .u8 y.f1) ∧ w'.cell? ⟨(ad1.add (j * 3)).block, (ad1.add (j * 3)).off + 2, none⟩ = some (.int .i64 y.f2)) (ds := [33]) #[false, false, false, false, false, false, false, false, false, false, false, false, false, false, false, false, false, false, false, false, false, false, false, false, false, false, false, false, false, false, false, false, false, false] (by kernel_rfl) rfl rfl HS0.out (fun hHeld => ?_)
          refine with_tabW made.tab9 made.bits9 (fun HT_ HW_ => ?_)
          refine pure_ (i := 0) (N := (some 44)) (v := ?_) (a' := ?_) #[true, false, false, false, false, false, false, false, false, false, false, false, false, false, false, false, false, false, false, false, false, false, false, false, false, false, false, false, false, false, false, false, false, false] rfl rfl (any_of HT_.out (by kernel_rfl)) (fun _ _ _ h => h) (Or.inl ⟨by rfl, ?_⟩) ?_ ?_
          rotate_left
          · intro w'
            go_simp
            with_reducible rfl
          rotate_left
          · simp only [Act.put, List.setIfInBounds_toArray, List.set_cons_zero, List.set_cons_succ, i64_w, i32_w]
            rfl
          refine take_ (i := 1) (N := (some 45)) (v := ?_) (a' := ?_) #[true, true, false, false, false, false, false, false, false, false, false, false, false, false, false, false, false, false, false, false, false, false, false, false, false, false, false, false, false, false, false, false, false, false] rfl rfl (take_ofW HT_.out HW_.out (by kernel_rfl)) (fun _ _ _ h => h) (Or.inl ⟨by rfl, ?_⟩) hHeld ?_ ?_
          rotate_left
          · rintro w' ⟨s0, s1, s2, s3, s4⟩
            go_simp
            with_reducible rfl
          rotate_left
          · simp only [Act.put, List.setIfInBounds_toArray, List.set_cons_zero, List.set_cons_succ, i64_w, i32_w]
            rfl
          refine pure_ (i := 2) (N := (some 46)) (v := ?_) (a' := ?_) #[true, true, true, false, false, false, false, false, false, false, false, false, false, false, false, false, false, false, false, false, false, false, false, false, false, false, false, false, false, false, false, false, false, false] rfl rfl (any_of HT_.out (by kernel_rfl)) (fun _ _ _ h => h) (Or.inl ⟨by rfl, ?_⟩) ?_ ?_
          rotate_left
          · intro w'
            go_simp
            with_reducible rfl
          rotate_left
          · simp only [Act.put, List.setIfInBounds_toArray, List.set_cons_zero, List.set_cons_succ, i64_w, i32_w]
            rfl
          refine pure_ (i := 3) (N := (some 47)) (v := ?_) (a' := ?_) #[true, true, true, true, false, false, false, false, false, false, false, false, false, false, false, false, false, false, false, false, false, false, false, false, false, false, false, false, false, false, false, false, false, false] rfl rfl (any_of HT_.out (by kernel_rfl)) (fun _ _ _ h => h) (Or.inl ⟨by rfl, ?_⟩) ?_ ?_
          rotate_left
          · intro w'
            go_simp
            with_reducible rfl
          rotate_left
          · simp only [Act.put, List.setIfInBounds_toArray, List.set_cons_zero, List.set_cons_succ, i64_w, i32_w]
            rfl
          refine pure_ (i := 4) (N := (some 48)) (v := ?_) (a' := ?_) #[true, true, true, true, true, false, false, false, false, false, false, false, false, false, false, false, false, false, false, false, false, false, false, false, false, false, false, false, false, false, false, false, false, false] rfl rfl (any_of HT_.out (by kernel_rfl)) (fun _ _ _ h => h) (Or.inl ⟨by rfl, ?_⟩) ?_ ?_
          rotate_left
          · intro w'
            go_simp
            with_reducible rfl
          rotate_left
          · simp only [Act.put, List.setIfInBounds_toArray, List.set_cons_zero, List.set_cons_succ, i64_w, i32_w]
            rfl
          refine pure_ (i := 5) (N := (some 49)) (v := ?_) (a' := ?_) #[true, true, true, true, true, true, false, false, false, false, false, false, false, false, false, false, false, false, false, false, false, false, false, false, false, false, false, false, false, false, false, false, false, false] rfl rfl (any_of HT_.out (by kernel_rfl)) (fun _ _ _ h => h) (Or.inl ⟨by rfl, ?_⟩) ?_ ?_
          rotate_left
          · intro w'
            go_simp
            with_reducible rfl
          rotate_left
          · simp only [Act.put, List.setIfInBounds_toArray, List.set_cons_zero, List.set_cons_succ, i64_w, i32_w]
            rfl
          refine take_ (i := 6) (N := (some 50)) (v := ?_) (a' := ?_) #[true, true, true, true, true, true, true, false, false, false, false, false, false, false, false, false, false, false, false, false, false, false, false, false, false, false, false, false, false, false, false, false, false, false] rfl rfl (take_ofW HT_.out HW_.out (by kernel_rfl)) (fun _ _ _ h => h) (Or.inl ⟨by rfl, ?_⟩) hHeld ?_ ?_
          rotate_left
          · rintro w' ⟨s0, s1, s2, s3, s4⟩
            go_simp
            with_reducible rfl
          rotate_left
          · simp only [Act.put, List.setIfInBounds_toArray, List.set_cons_zero, List.set_cons_succ, i64_w, i32_w]
            rfl
          refine pure_ (i := 7) (N := (some 51)) (v := ?_) (a' := ?_) #[true, true, true, true, true, true, true, true, false, false, false, false, false, false, false, false, false, false, false, false, false, false, false, false, false, false, false, false, false, false, false, false, false, false] rfl rfl (any_of HT_.out (by kernel_rfl)) (fun _ _ _ h => h) (Or.inl ⟨by rfl, ?_⟩) ?_ ?_
          rotate_left
          · intro w'
            go_simp
            with_reducible rfl
          rotate_left
          · simp only [Act.put, List.setIfInBounds_toArray, List.set_cons_zero, List.set_cons_succ, i64_w, i32_w]
            rfl
          refine pure_ (i := 8) (N := (some 52)) (v := ?_) (a' := ?_) #[true, true, true, true, true, true, true, true, true, false, false, false, false, false, false, false, false, false, false, false, false, false, false, false, false, false, false, false, false, false, false, false, false, false] rfl rfl (any_of HT_.out (by kernel_rfl)) (fun _ _ _ h => h) (Or.inl ⟨by rfl, ?_⟩) ?_ ?_
          rotate_left
          · intro w'
            go_simp
            with_reducible rfl
          rotate_left
          · simp only [Act.put, List.setIfInBounds_toArray, List.set_cons_zero, List.set_cons_succ, i64_w, i32_w]
            rfl
          refine pure_ (i := 9) (N := (some 53)) (v := ?_) (a' := ?_) #[true, true, true, true, true, true, true, true, true, true, false, false, false, false, false, false, false, false, false, false, false, false, false, false, false, false, false, false, false, false, false, false, false, false] rfl rfl (any_of HT_.out (by kernel_rfl)) (fun _ _ _ h => h) (Or.inl ⟨by rfl, ?_⟩) ?_ ?_
          rotate_left
          · intro w'
            go_simp
            with_reducible rfl
          rotate_left
          · simp only [Act.put, List.setIfInBounds_toArray, List.set_cons_zero, List.set_cons_succ, i64_w, i32_w]
            rfl
          refine take_ (i := 10) (N := (some 54)) (v := ?_) (a' := ?_) #[true, true, true, true, true, true, true, true, true, true, true, false, false, false, false, false, false, false, false, false, false, false, false, false, false, false, false, false, false, false, false, false, false, false] rfl rfl (take_ofW HT_.out HW_.out (by kernel_rfl)) (fun _ _ _ h => h) (Or.inl ⟨by rfl, ?_⟩) hHeld ?_ ?_
          rotate_left
          · rintro w' ⟨s0, s1, s2, s3, s4⟩
            go_simp
            with_reducible rfl
          rotate_left
          · simp only [Act.put, List.setIfInBounds_toArray, List.set_cons_zero, List.set_cons_succ, i64_w, i32_w]
            rfl
          refine pure_ (i := 11) (N := (some 55)) (v := ?_) (a' := ?_) #[true, true, true, true, true, true, true, true, true, true, true, true, false, false, false, false, false, false, false, false, false, false, false, false, false, false, false, false, false, false, false, false, false, false] rfl rfl (any_of HT_.out (by kernel_rfl)) (fun _ _ _ h => h) (Or.inl ⟨by rfl, ?_⟩) ?_ ?_
          rotate_left
          · intro w'
            go_simp
            with_reducible rfl
          rotate_left
          · simp only [Act.put, List.setIfInBounds_toArray, List.set_cons_zero, List.set_cons_succ, i64_w, i32_w]
            rfl
          refine pure_ (i := 12) (N := (some 56)) (v := ?_) (a' := ?_) #[true, true, true, true, true, true, true, true, true, true, true, true, true, false, false, false, false, false, false, false, false, false, false, false, false, false, false, false, false, false, false, false, false, false] rfl rfl (any_of HT_.out (by kernel_rfl)) (fun _ _ _ h => h) (Or.inl ⟨by rfl, ?_⟩) ?_ ?_
          rotate_left
          · intro w'
            go_simp
            with_reducible rfl
          rotate_left
          · simp only [Act.put, List.setIfInBounds_toArray, List.set_cons_zero, List.set_cons_succ, i64_w, i32_w]
            rfl
          refine pure_ (i := 13) (N := (some 57)) (v := ?_) (a' := ?_) #[true, true, true, true, true, true, true, true, true, true, true, true, true, true, false, false, false, false, false, false, false, false, false, false, false, false, false, false, false, false, false, false, false, false] rfl rfl (any_of HT_.out (by kernel_rfl)) (fun _ _ _ h => h) (Or.inl ⟨by rfl, ?_⟩) ?_ ?_
          rotate_left
          · intro w'
            go_simp
            with_reducible rfl
          rotate_left
          · simp only [Act.put, List.setIfInBounds_toArray, List.set_cons_zero, List.set_cons_succ, i64_w, i32_w]
            rfl
          refine pure_ (i := 14) (N := (some 58)) (v := ?_) (a' := ?_) #[true, true, true, true, true, true, true, true, true, true, true, true, true, true, true, false, false, false, false, false, false, false, false, false, false, false, false, false, false, false, false, false, false, false] rfl rfl (any_of HT_.out (by kernel_rfl)) (fun _ _ _ h => h) (Or.inl ⟨by rfl, ?_⟩) ?_ ?_
          rotate_left
          · intro w'
            go_simp
            with_reducible rfl
          rotate_left
          · simp only [Act.put, List.setIfInBounds_toArray, List.set_cons_zero, List.set_cons_succ, i64_w, i32_w]
            rfl
          refine take_ (i := 15) (N := (some 59)) (v := ?_) (a' := ?_) #[true, true, true, true, true, true, true, true, true, true, true, true, true, true, true, true, false, false, false, false, false, false, false, false, false, false, false, false, false, false, false, false, false, false] rfl rfl (take_ofW HT_.out HW_.out (by kernel_rfl)) (fun _ _ _ h => h) (Or.inl ⟨by rfl, ?_⟩) hHeld ?_ ?_
          rotate_left
          · rintro w' ⟨s0, s1, s2, s3, s4⟩
            go_simp
            with_reducible rfl
          rotate_left
          · simp only [Act.put, List.setIfInBounds_toArray, List.set_cons_zero, List.set_cons_succ, i64_w, i32_w]
            rfl
          refine pure_ (i := 16) (N := (some 60)) (v := ?_) (a' := ?_) #[true, true, true, true, true, true, true, true, true, true, true, true, true, true, true, true, true, false, false, false, false, false, false, false, false, false, false, false, false, false, false, false, false, false] rfl rfl (any_of HT_.out (by kernel_rfl)) (fun _ _ _ h => h) (Or.inl ⟨by rfl, ?_⟩) ?_ ?_
          rotate_left
          · intro w'
            go_simp
            with_reducible rfl
          rotate_left
          · simp only [Act.put, List.setIfInBounds_toArray, List.set_cons_zero, List.set_cons_succ, i64_w, i32_w]
            rfl
          refine pure_ (i := 17) (N := (some 61)) (v := ?_) (a' := ?_) #[true, true, true, true, true, true, true, true, true, true, true, true, true, true, true, true, true, true, false, false, false, false, false, false, false, false, false, false, false, false, false, false, false, false] rfl rfl (any_of HT_.out (by kernel_rfl)) (fun _ _ _ h => h) (Or.inl ⟨by rfl, ?_⟩) ?_ ?_
          rotate_left
          · intro w'
            go_simp
            with_reducible rfl
          rotate_left
          · simp only [Act.put, List.setIfInBounds_toArray, List.set_cons_zero, List.set_cons_succ, i64_w, i32_w]
            rfl
          refine pure_ (i := 18) (N := (some 62)) (v := ?_) (a' := ?_) #[true, true, true, true, true, true, true, true, true, true, true, true, true, true, true, true, true, true, true, false, false, false, false, false, false, false, false, false, false, false, false, false, false, false] rfl rfl (any_of HT_.out (by kernel_rfl)) (fun _ _ _ h => h) (Or.inl ⟨by rfl, ?_⟩) ?_ ?_
          rotate_left
          · intro w'
            go_simp
            with_reducible rfl
          rotate_left
          · simp only [Act.put, List.setIfInBounds_toArray, List.set_cons_zero, List.set_cons_succ, i64_w, i32_w]
            rfl
          refine take_ (i := 19) (N := (some 63)) (v := ?_) (a' := ?_) #[true, true, true, true, true, true, true, true, true, true, true, true, true, true, true, true, true, true, true, true, false, false, false, false, false, false, false, false, false, false, false, false, false, false] rfl rfl (take_ofW HT_.out HW_.out (by kernel_rfl)) (fun _ _ _ h => h) (Or.inl ⟨by rfl, ?_⟩) hHeld ?_ ?_
          rotate_left
          · rintro w' ⟨s0, s1, s2, s3, s4⟩
            go_simp
            with_reducible rfl
          rotate_left
          · simp only [Act.put, List.setIfInBounds_toArray, List.set_cons_zero, List.set_cons_succ, i64_w, i32_w]
            rfl
          refine pure_ (i := 20) (N := (some 64)) (v := ?_) (a' := ?_) #[true, true, true, true, true, true, true, true, true, true, true, true, true, true, true, true, true, true, true, true, true, false, false, false, false, false, false, false, false, false, false, false, false, false] rfl rfl (any_of HT_.out (by kernel_rfl)) (fun _ _ _ h => h) (Or.inl ⟨by rfl, ?_⟩) ?_ ?_
          rotate_left
          · intro w'
            go_simp
            with_reducible rfl
          rotate_left
          · simp only [Act.put, List.setIfInBounds_toArray, List.set_cons_zero, List.set_cons_succ, i64_w, i32_w]
            rfl
          refine pure_ (i := 21) (N := (some 65)) (v := ?_) (a' := ?_) #[true, true, true, true, true, true, true, true, true, true, true, true, true, true, true, true, true, true, true, true, true, true, false, false, false, false, false, false, false, false, false, false, false, false] rfl rfl (any_of HT_.out (by kernel_rfl)) (fun _ _ _ h => h) (Or.inl ⟨by rfl, ?_⟩) ?_ ?_
          rotate_left
          · intro w'
            go_simp
            with_reducible rfl
          rotate_left
          · simp only [Act.put, List.setIfInBounds_toArray, List.set_cons_zero, List.set_cons_succ, i64_w, i32_w]
            rfl
          refine pure_ (i := 22) (N := (some 66)) (v := ?_) (a' := ?_) #[true, true, true, true, true, true, true, true, true, true, true, true, true, true, true, true, true, true, true, true, true, true, true, false, false, false, false, false, false, false, false, false, false, false] rfl rfl (any_of HT_.out (by kernel_rfl)) (fun _ _ _ h => h) (Or.inl ⟨by rfl, ?_⟩) ?_ ?_
          rotate_left
          · intro w'
            go_simp
            with_reducible rfl
          rotate_left
          · simp only [Act.put, List.setIfInBounds_toArray, List.set_cons_zero, List.set_cons_succ, i64_w, i32_w]
            rfl
          refine pure_ (i := 23) (N := (some 67)) (v := ?_) (a' := ?_) #[true, true, true, true, true, true, true, true, true, true, true, true, true, true, true, true, true, true, true, true, true, true, true, true, false, false, false, false, false, false, false, false, false, false] rfl rfl (any_of HT_.out (by kernel_rfl)) (fun _ _ _ h => h) (Or.inl ⟨by rfl, ?_⟩) ?_ ?_
          rotate_left
          · intro w'
            go_simp
            with_reducible rfl
          rotate_left
          · simp only [Act.put, List.setIfInBounds_toArray, List.set_cons_zero, List.set_cons_succ, i64_w, i32_w]
            rfl
          refine take_ (i := 24) (N := (some 68)) (v := ?_) (a' := ?_) #[true, true, true, true, true, true, true, true, true, true, true, true, true, true, true, true, true, true, true, true, true, true, true, true, true, false, false, false, false, false, false, false, false, false] rfl rfl (take_ofW HT_.out HW_.out (by kernel_rfl)) (fun _ _ _ h => h) (Or.inl ⟨by rfl, ?_⟩) hHeld ?_ ?_
          rotate_left
          · rintro w' ⟨s0, s1, s2, s3, s4⟩
            go_simp
            with_reducible rfl
          rotate_left
          · simp only [Act.put, List.setIfInBounds_toArray, List.set_cons_zero, List.set_cons_succ, i64_w, i32_w]
            rfl
          refine pure_ (i := 25) (N := (some 69)) (v := ?_) (a' := ?_) #[true, true, true, true, true, true, true, true, true, true, true, true, true, true, true, true, true, true, true, true, true, true, true, true, true, true, false, false, false, false, false, false, false, false] rfl rfl (any_of HT_.out (by kernel_rfl)) (fun _ _ _ h => h) (Or.inl ⟨by rfl, ?_⟩) ?_ ?_
          rotate_left
          · intro w'
            go_simp
            with_reducible rfl
          rotate_left
          · simp only [Act.put, List.setIfInBounds_toArray, List.set_cons_zero, List.set_cons_succ, i64_w, i32_w]
            rfl
          refine pure_ (i := 26) (N := (some 70)) (v := ?_) (a' := ?_) #[true, true, true, true, true, true, true, true, true, true, true, true, true, true, true, true, true, true, true, true, true, true, true, true, true, true, true, false, false, false, false, false, false, false] rfl rfl (any_of HT_.out (by kernel_rfl)) (fun _ _ _ h => h) (Or.inl ⟨by rfl, ?_⟩) ?_ ?_
          rotate_left
          · intro w'
            go_simp
            with_reducible rfl
          rotate_left
          · simp only [Act.put, List.setIfInBounds_toArray, List.set_cons_zero, List.set_cons_succ, i64_w, i32_w]
            rfl
          refine pure_ (i := 27) (N := (some 71)) (v := ?_) (a' := ?_) #[true, true, true, true, true, true, true, true, true, true, true, true, true, true, true, true, true, true, true, true, true, true, true, true, true, true, true, true, false, false, false, false, false, false] rfl rfl (any_of HT_.out (by kernel_rfl)) (fun _ _ _ h => h) (Or.inl ⟨by rfl, ?_⟩) ?_ ?_
          rotate_left
          · intro w'
            go_simp
            with_reducible rfl
          rotate_left
          · simp only [Act.put, List.setIfInBounds_toArray, List.set_cons_zero, List.set_cons_succ, i64_w, i32_w]
            rfl
          refine take_ (i := 28) (N := (some 72)) (v := ?_) (a' := ?_) #[true, true, true, true, true, true, true, true, true, true, true, true, true, true, true, true, true, true, true, true, true, true, true, true, true, true, true, true, true, false, false, false, false, false] rfl rfl (take_ofW HT_.out HW_.out (by kernel_rfl)) (fun _ _ _ h => h) (Or.inl ⟨by rfl, ?_⟩) hHeld ?_ ?_
          rotate_left
          · rintro w' ⟨s0, s1, s2, s3, s4⟩
            go_simp
            with_reducible rfl
          rotate_left
          · simp only [Act.put, List.setIfInBounds_toArray, List.set_cons_zero, List.set_cons_succ, i64_w, i32_w]
            rfl
          refine pure_ (i := 29) (N := (some 73)) (v := ?_) (a' := ?_) #[true, true, true, true, true, true, true, true, true, true, true, true, true, true, true, true, true, true, true, true, true, true, true, true, true, true, true, true, true, true, false, false, false, false] rfl rfl (any_of HT_.out (by kernel_rfl)) (fun _ _ _ h => h) (Or.inl ⟨by rfl, ?_⟩) ?_ ?_
          rotate_left
          · intro w'
            go_simp
            with_reducible rfl
          rotate_left
          · simp only [Act.put, List.setIfInBounds_toArray, List.set_cons_zero, List.set_cons_succ, i64_w, i32_w]
            rfl
          refine one_ (i := 30) (N := (some 74)) #[true, true, true, true, true, true, true, true, true, true, true, true, true, true, true, true, true, true, true, true, true, true, true, true, true, true, true, true, true, true, true, false, false, false] rfl rfl (one_of HT_.out (by kernel_rfl)) (by decide) (fun K hK => ?_)
          refine value_ (w1 := (wr.alloc (.cells #[.int .u8 y.f0, .int .u8 y.f1, .int .i64 y.f2] 52)).drew) (v := .slice (some ⟨wr.heap.size, 0, none⟩) 1 1) (by rfl) rfl ?_ ?_
          · go_simp
            try rfl
          refine hK.out _ _ HSA.out (fun hHeld => ?_)
          clear hK K
          refine norm_ (a' := ?_) ?_ ?_
          rotate_left
          · show Act.put _ (some 74) _ = _
            simp only [Act.put, List.setIfInBounds_toArray, List.set_cons_zero, List.set_cons_succ, i64_w, i32_w]
            rfl
          refine one_ (i := 31) (N := (some 75)) #[true, true, true, true, true, true, true, true, true, true, true, true, true, true, true, true, true, true, true, true, true, true, true, true, true, true, true, true, true, true, true, true, false, false] rfl rfl (one_of HT_.out (by kernel_rfl)) (by decide) (fun K hK => ?_)
          refine value_ (w1 := w2) (v := .slice (some ⟨g', 0, none⟩) (j + 1) cap') (by rfl) rfl ?_ ?_
          · exact run_appendOp rfl rfl rfl HRUN.out
          refine hK.out _ _ HSB.out (fun hHeld => ?_)
          clear hK K
          refine norm_ (a' := ?_) ?_ ?_
          rotate_left
          · show Act.put _ (some 75) _ = _
            simp only [Act.put, List.setIfInBounds_toArray, List.set_cons_zero, List.set_cons_succ, i64_w, i32_w]
            rfl
          refine pure_ (i := 32) (N := (some 76)) (v := ?_) (a' := ?_) #[true, true, true, true, true, true, true, true, true, true, true, true, true, true, true, true, true, true, true, true, true, true, true, true, true, true, true, true, true, true, true, true, true, false] rfl rfl (any_of HT_.out (by kernel_rfl)) (fun _ _ _ h => h) (Or.inl ⟨by rfl, ?_⟩) ?_ ?_
          rotate_left
          · intro w'
            go_simp
            with_reducible rfl
          rotate_left
          · simp only [Act.put, List.setIfInBounds_toArray, List.set_cons_zero, List.set_cons_succ, i64_w, i32_w]
            rfl
          refine last_ (i := 33) (N := none) #[true, true, true, true, true, true, true, true, true, true, true, true, true, true, true, true, true, true, true, true, true, true, true, true, true, true, true, true, true, true, true, true, true, true] rfl rfl (one_of HT_.out (by kernel_rfl)) (by decide) (fun K hK => ?_)
          refine skip_ (w1 := ?_) (by rfl) rfl ?_ ?_
          rotate_left
          · go_simp
            rfl
          refine hK.out _ _ ?_
          clear hK K
          refine done_ (done_of HT_.out (by kernel_rfl)) ?_
          have hB9 : Below wo.heap.size wo (w2.setCell ⟨wo.heap.size, 1, none⟩ (.slice (some ⟨g', 0, none⟩) (j + 1) cap')) := below_set HBW2.out (Nat.le_refl _)
          have hX9 : (w2.setCell ⟨wo.heap.size, 1, none⟩ (.slice (some ⟨g', 0, none⟩) (j + 1) cap')).heap[wo.heap.size]? = some (.cells #[.int .i64 x.f0, .slice (some ⟨g', 0, none⟩) (j + 1) cap', .slice A2 x.f2.length c2, .int .i64 x.f3, .int .i64 x.f4] 49 (0, 0)) := blk_put HB2.out 1 _ rfl
          have hO9 : (w2.setCell ⟨wo.heap.size, 1, none⟩ (.slice (some ⟨g', 0, none⟩) (j + 1) cap')).ownsRow (wo.heap.size + 1) 52 3 (.slice (some ⟨g', 0, none⟩) (j + 1) cap') (j + 1) (eflat ((x.f1.take (j + 1)).map toE)) := by
            rw [HTK.out]
            exact own_move HO2.out (fun k hk => Below.heap_setCell _ _ _ k (fun e => by have h1 := own_base HO2.out k hk; have e1 : k = wo.heap.size := e; omega))
          generalize w2.setCell ⟨wo.heap.size, 1, none⟩ (.slice (some ⟨g', 0, none⟩) (j + 1) cap') = w9 at hB9 hX9 hO9 ⊢
          have HB9 := Aside0.mk hB9
          have HX9 := Aside0.mk hX9
          have HO9 := Aside0.mk hO9
          clear hB9 hX9 hO9 HBW2 HB2 HO2 HTK HRUN HSB HSA HS0 hfr hfz hi0 hz0 hz1 hz2 hsd
          go_wp2_with fail
          go_roundw
          case rel => exact ⟨j + 1, _, by omega, by go_num, HB9.out, HX9.out, HO9.out⟩
          case measure => simp [intOf]; omega
        · obtain rfl : n1 = j := by omega
          have hbr : Below w.heap.size w wr := HB.out.trans (hbz.mono HB.out.size)
          have hsz : wo.heap.size < wr.heap.size := blk_lt hbox
          have ho1 := own_below HO.out hbz
          have hcb := cells5m hbox
          have HBZ := Aside0.mk hbz
          have hv1 : v1.oneCell' = true := by rcases hoz.2 with ⟨h, _⟩ | ⟨_, _, _, h, _⟩ <;> rw [h] <;> rfl
          have HV1 := Aside0.mk hv1
          have HOZ := Aside0.mk hoz
          have HO1 := Aside0.mk ho1
          have HBR := Aside0.mk hbr
          clear hbz hoz ho1 hbr hbox hv1
          go_wp2_with (at_builtin; refine print_append_cells (w0 := w) w.heap.size rfl (.tmp 77) (.tmp 79) 28 49 (.agg #[.int .i64 0, .slice none 0 0, .slice none 0 0, .int .i64 0, .int .i64 0]) 5 72 rfl Try.underlying28 node_info2 rfl (by decide) (by decide) u3 k inner [.int .i64 x.f0, v1, .slice A2 x.f2.length c2, .int .i64 x.f3, .int .i64 x.f4] rfl rfl rfl ?aV HO1.out HBR.out HBR.out.size (by omega) ?_; (case aV => (intro u hu; simp only [List.mem_cons, List.not_mem_nil, or_false] at hu; rcases hu with rfl | rfl | rfl | rfl | rfl; rfl; exact HV1.out; rfl; rfl; rfl)); intro v1' w2 q1 q2 q3 q4; have Q1' := Aside0.mk q1; have Q2' := Aside0.mk q2; have Q3' := Aside0.mk q3; clear q1 q2 q3 q4)
          go_roundw
          case rel =>
            refine ⟨k + 1, _, by omega, by go_num, Q2'.out, Q1'.out, ?_⟩
            have hxk : l[k]'HK2.out = x := HX.out.symm
            rw [List.take_succ_eq_append_getElem HK2.out, hxk]
            refine ((HREPS.out.imp_ (fun p c hp => hp.step fun v1 hv => own_rows (own_below hv HBZ.out) HO1.out (by decide) Q3'.out)).snoc ⟨v1, A2, c2, rfl, ?_, L2.out, G2.out⟩ rfl)
            have h1 := HOZ.out
            rw [HN1.out, List.take_length] at h1
            exact own_rows (own_weaken h1 (by have := HB.out.size; omega)) HO1.out (by decide) Q3'.out
          case measure => simp [intOf]; omega
    · obtain rfl : n = k := by omega
      go_wp2_with fail
      go_ret
      have h1 := HREPS.out
      rw [HN.out, List.take_length] at h1
      exact ⟨_, inner, rfl, HO.out, h1, HB.out⟩
theorem made_row {w W : World} {l : List S35} {v : Value} {inner : List Value} (ho : W.ownsRow w.heap.size 49 5 v l.length inner) (hr : Reps (MN w W w.heap.size) 5 l inner) (hb : Below w.heap.size w W) :
    ∃ A c, v = .slice A l.length c ∧ l.length ≤ c ∧ Kd.C k49 W A l.length (l.map toN) := by
  obtain ⟨A, c, hv, hl2, hC⟩ := nodes_row (l := l.map toN) ho (by rw [List.length_map]) (reps_map toN hr (fun x c hx => hx.node hb))
  rw [List.length_map] at hv hl2 hC
  exact ⟨A, c, hv, hl2, hC⟩
theorem made_any (w : World) {A0 : Option Addr} {c0 : Nat} {l : List S35} (hr0 : Kd.C k35 w A0 l.length l) (hl : l.length ≤ 1000) (hl1 : ∀ x ∈ l, x.f1.length ≤ 1000) :
    Calls Try.prog 11 #[.slice A0 l.length c0] w fun e W' => ∃ A c, e = .returned (.slice A l.length c) ∧ l.length ≤ c ∧ Kd.C k49 W' A l.length (l.map toN) ∧ Below w.heap.size w W' := by
  refine (made_own w hr0 hl hl1).mono ?_
  rintro e W ⟨v, inner, rfl, ho, hr, hb⟩
  obtain ⟨A, c, rfl, h1, h2⟩ := made_row ho hr hb
  exact ⟨A, c, rfl, h1, h2, hb⟩
end Go.Proofs.Ytecpjfipkejmoaa.PA
end
section
namespace Go.Proofs.Ytecpjfipkejmoaa.PA
set_option linter.unusedSimpArgs false
set_option linter.unusedVariables false
open Go.RowKit Go.Maps Go.Proofs.YtecpjfipkejmoaaW.PrintWords Go.Proofs.YtecpjfipkejmoaaW.PrintLast Go.Proofs.YtecpjfipkejmoaaW.PrintMore
theorem wv1 (i : Nat) (h : i < 9223372036854775806) : wrap64 ((i : Int) + 1) = ((i + 1 : Nat) : Int) := by unfold wrap64; omega
theorem rdi_at (xs : List Int) (j : Nat) (h : j < xs.length) : rd xs (j : Int) = xs[j] := by
  unfold rd
  rw [Int.toNat_natCast, List.getD_eq_getElem?_getD, List.getElem?_eq_getElem h]
  rfl
theorem apart_toE (a b : S65) : apart (toE a) (toE b) = (decide (a.f1 < b.f0) || decide (b.f1 < a.f0)) := rfl
theorem okE_toE (many : Int) (e : S65) : okE many (toE e) = (decide (e.f0 ≤ e.f1) && decide (0 ≤ e.f2) && decide (e.f2 < many)) := rfl
section
variable (many f0 f3 f4 : Int) (E : List S65) (F : List Int) (R : Bool)
theorem evEat_l1 (i : Nat) (hi : i < E.length) (hb : E.length ≤ 100000) (next : (∀ j (h : j < i), apart (toE E[j]) (toE E[i]) = true) → Ev (fun k => phalaroperef16_eater.l0 k many ((i + 1 : Nat) : Int) f0 E F f3 f4) R)
    (bad : ∀ j (h : j < i), apart (toE E[j]) (toE E[i]) = false → R = false) (d : Nat) : ∀ j : Nat, j + d = i → (∀ j' (h : j' < i), j' < j → apart (toE E[j']) (toE E[i]) = true) →
    Ev (fun k => phalaroperef16_eater.l1 k many (i : Int) (j : Int) f0 E F f3 f4 E[i].f0 E[i].f1 E[i].f2) R := by
  induction d with
  | zero =>
    intro j hj hok
    refine Ev.step (fun k => ?_) (next (fun j' h => hok j' h (by omega)))
    simp only [phalaroperef16_eater.l1]
    rw [if_neg (by omega), wv1 i (by omega)]
  | succ d ih =>
    intro j hj hok
    have hji : j < i := by omega
    by_cases ha : apart (toE E[j]) (toE E[i]) = true
    · refine Ev.step (fun k => ?_) (ih (j + 1) (by omega) (fun j' h hj' => by
        rcases Nat.lt_or_ge j' j with h2 | h2
        · exact hok j' h h2
        · obtain rfl : j' = j := by omega
          exact ha))
      simp only [apart_toE, Bool.or_eq_true, decide_eq_true_eq] at ha
      simp only [phalaroperef16_eater.l1]
      rw [if_pos (by omega), if_pos (by omega), if_pos (by omega), rdre_at E j (by omega), wv1 j (by omega)]
      rcases ha with ha | ha
      · rw [if_neg (by omega)]
      · rw [if_neg (show ¬ (E[j].f0 ≤ E[i].f1) by omega)]
        split <;> rfl
    · have ha' : apart (toE E[j]) (toE E[i]) = false := by simpa using ha
      rw [bad j hji ha']
      simp only [apart_toE, Bool.or_eq_true, decide_eq_true_eq] at ha
      refine Ev.step (fun k => ?_) (Ev.now false)
      simp only [phalaroperef16_eater.l1]
      rw [if_pos (by omega), if_pos (by omega), if_pos (by omega), rdre_at E j (by omega), if_pos (by omega), if_pos (by omega)]
theorem evEat_l0 (hb : E.length ≤ 100000) (hR : R = (F.isEmpty && decide (f4 = 0) && eatsB many (E.map toE))) (d : Nat) : ∀ i : Nat, i + d = E.length → (∀ a (h : a < E.length), a < i → okE many (toE E[a]) = true) → (∀ a b (h : b < E.length) (hab : a < b), b < i → apart (toE E[a]) (toE E[b]) = true) →
    Ev (fun k => phalaroperef16_eater.l0 k many (i : Int) f0 E F f3 f4) R := by
  have bad1 : ∀ a (h : a < E.length), okE many (toE E[a]) = false → R = false := fun a h he => by
    rw [hR]
    have : eatsB many (E.map toE) = false := by
      cases hx : eatsB many (E.map toE) with
      | false => rfl
      | true =>
        have := (eatsB_iff.1 hx).1 (toE E[a]) (List.mem_map.2 ⟨_, List.getElem_mem h, rfl⟩)
        rw [this] at he
        cases he
    rw [this, Bool.and_false]
  have bad2 : ∀ a b (h : b < E.length) (hab : a < b), apart (toE E[a]) (toE E[b]) = false → R = false := fun a b h hab he => by
    rw [hR]
    have : eatsB many (E.map toE) = false := by
      cases hx : eatsB many (E.map toE) with
      | false => rfl
      | true =>
        have := List.pairwise_iff_getElem.1 (eatsB_iff.1 hx).2 a b (by rw [List.length_map]; omega) (by rw [List.length_map]; omega) hab
        rw [List.getElem_map, List.getElem_map] at this
        rw [this] at he
        cases he
    rw [this, Bool.and_false]
  induction d with
  | zero =>
    intro i hi h1 h2
    have hall : eatsB many (E.map toE) = true := by
      refine eatsB_iff.2 ⟨fun e he => ?_, ?_⟩
      · obtain ⟨y, hy, rfl⟩ := List.mem_map.1 he
        obtain ⟨a, ha, rfl⟩ := List.mem_iff_getElem.1 hy
        exact h1 a ha (by omega)
      · refine List.pairwise_iff_getElem.2 fun a b ha hb hab => ?_
        rw [List.length_map] at ha hb
        rw [List.getElem_map, List.getElem_map]
        exact h2 a b hb hab (by omega)
    rw [hR, hall, Bool.and_true]
    refine Ev.step (f := fun _ => some (F.isEmpty && decide (f4 = 0))) (fun k => ?_) (Ev.now _)
    simp only [phalaroperef16_eater.l0]
    rw [if_neg (by omega)]
    cases F with
    | nil => rw [if_pos (by simp)]; rfl
    | cons x r => rw [if_neg (by simp only [List.length_cons]; omega)]; rfl
  | succ d ih =>
    intro i hi h1 h2
    have hil : i < E.length := by omega
    by_cases ho : okE many (toE E[i]) = true
    · have h3 := evEat_l1 many f0 f3 f4 E F R i hil hb (fun hap => ih (i + 1) (by omega) (fun a ha hai => by
        rcases Nat.lt_or_ge a i with h | h
        · exact h1 a ha h
        · obtain rfl : a = i := by omega
          exact ho) (fun a b hb' hab hbi => by
        rcases Nat.lt_or_ge b i with h | h
        · exact h2 a b hb' hab h
        · obtain rfl : b = i := by omega
          exact hap a hab)) (fun j h he => bad2 j i hil h he) i 0 (by omega) (fun _ _ h => by omega)
      simp only [okE_toE, Bool.and_eq_true, decide_eq_true_eq] at ho
      refine Ev.step (f := fun k => phalaroperef16_eater.j1 k many (i : Int) false f0 E F f3 f4 E[i].f0 E[i].f1 E[i].f2) (fun k => ?_) (Ev.step (fun k => ?_) h3)
      · simp only [phalaroperef16_eater.l0]
        rw [if_pos (by omega), if_pos (by omega), rdre_at E i hil, if_neg (by omega), if_neg (by omega), decide_eq_false (by omega)]
      · simp only [phalaroperef16_eater.j1]
        rfl
    · have ho' : okE many (toE E[i]) = false := by simpa using ho
      rw [bad1 i hil ho']
      simp only [okE_toE, Bool.and_eq_true, decide_eq_true_eq] at ho
      refine Ev.step (f := fun k => phalaroperef16_eater.j1 k many (i : Int) true f0 E F f3 f4 E[i].f0 E[i].f1 E[i].f2) (fun k => ?_) (Ev.step (fun k => ?_) (Ev.now false))
      · simp only [phalaroperef16_eater.l0]
        rw [if_pos (by omega), if_pos (by omega), rdre_at E i hil]
        by_cases c1 : E[i].f0 > E[i].f1
        · rw [if_pos c1]
        · rw [if_neg c1]
          by_cases c2 : E[i].f2 < 0
          · rw [if_pos c2]
          · rw [if_neg c2, decide_eq_true (by omega)]
      · simp only [phalaroperef16_eater.j1]
        rfl
end
theorem evEater (many f0 f3 f4 : Int) (E : List S65) (F : List Int) (hb : E.length ≤ 100000) : Ev (fun k => phalaroperef16_eater.f k f0 E F f3 f4 many) (F.isEmpty && decide (f4 = 0) && eatsB many (E.map toE)) :=
  evEat_l0 many f0 f3 f4 E F _ hb rfl E.length 0 (by omega) (fun _ _ h => by omega) (fun _ _ _ _ h => by omega)
section
variable (l : List S35) (R : Bool) (i : Nat) (hi : i < l.length) (hb : l.length ≤ 100000)
theorem evMay_forks (x : S35) (h2 : x.f0 = 2) (he : x.f1 = []) (hF : x.f2.length ≤ 100000) (hbi : i < 100000) (next : rightB l.length (i : Int) (toN x) = true → Ev (fun k => phalaroperef16_May.l0 k l ((i + 1 : Nat) : Int)) R) (bad : rightB l.length (i : Int) (toN x) = false → R = false) (d : Nat) :
    ∀ j : Nat, j + d = x.f2.length → (∀ j' (h : j' < x.f2.length), j' < j → (i : Int) < x.f2[j'] ∧ x.f2[j'] < (l.length : Int)) → Ev (fun k => phalaroperef16_May.l1 k l (i : Int) (j : Int) x.f0 x.f1 x.f2 x.f3 x.f4) R := by
  have hr : rightB l.length (i : Int) (toN x) = (decide (x.f4 = 0) && x.f2.all fun t => decide ((i : Int) < t) && decide (t < (l.length : Int))) := by
    simp [rightB, toN, h2, he]
  induction d with
  | zero =>
    intro j hj hok
    have hall : (x.f2.all fun t => decide ((i : Int) < t) && decide (t < (l.length : Int))) = true := by
      rw [List.all_eq_true]
      intro t ht
      obtain ⟨j', hj', rfl⟩ := List.mem_iff_getElem.1 ht
      have := hok j' hj' (by omega)
      rw [decide_eq_true this.1, decide_eq_true this.2]
      rfl
    rw [hall, Bool.and_true] at hr
    by_cases h4 : x.f4 = 0
    · refine Ev.step (fun k => ?_) (next (by rw [hr, decide_eq_true h4]))
      simp only [phalaroperef16_May.l1]
      rw [if_neg (by omega), if_neg (by omega), if_pos h4, wv1 i (by omega)]
    · rw [bad (by rw [hr, decide_eq_false h4])]
      refine Ev.step (fun k => ?_) (Ev.now false)
      simp only [phalaroperef16_May.l1]
      rw [if_neg (by omega), if_neg (by omega), if_neg h4]
  | succ d ih =>
    intro j hj hok
    have hjl : j < x.f2.length := by omega
    by_cases ho : (i : Int) < x.f2[j] ∧ x.f2[j] < (l.length : Int)
    · refine Ev.step (fun k => ?_) (ih (j + 1) (by omega) (fun j' h hj' => by
        rcases Nat.lt_or_ge j' j with h3 | h3
        · exact hok j' h h3
        · obtain rfl : j' = j := by omega
          exact ho))
      simp only [phalaroperef16_May.l1]
      rw [if_pos (by omega), if_pos h2, if_pos (by omega), rdi_at x.f2 j hjl, if_neg (by omega), if_neg (by omega), wv1 j (by omega)]
    · have hall : (x.f2.all fun t => decide ((i : Int) < t) && decide (t < (l.length : Int))) = false := by
        cases hx : (x.f2.all fun t => decide ((i : Int) < t) && decide (t < (l.length : Int))) with
        | false => rfl
        | true =>
          have h3 := List.all_eq_true.1 hx _ (List.getElem_mem hjl)
          simp only [Bool.and_eq_true, decide_eq_true_eq] at h3
          exact absurd h3 ho
      rw [bad (by rw [hr, hall, Bool.and_false])]
      refine Ev.step (fun k => ?_) (Ev.now false)
      simp only [phalaroperef16_May.l1]
      rw [if_pos (by omega), if_pos h2, if_pos (by omega), rdi_at x.f2 j hjl]
      by_cases c : x.f2[j] ≤ (i : Int)
      · rw [if_pos c]
      · rw [if_neg c, if_pos (by omega)]
theorem evMay_rest (x : S35) (h2 : ¬ x.f0 = 2) (h14 : 1 ≤ x.f0 ∧ x.f0 ≤ 4) (hE : x.f0 = 1 → eatsB l.length (x.f1.map toE) = true) (hE2 : ¬ x.f0 = 1 → x.f1 = []) (hbi : i < 100000) (next : rightB l.length (i : Int) (toN x) = true → Ev (fun k => phalaroperef16_May.l0 k l ((i + 1 : Nat) : Int)) R) (bad : rightB l.length (i : Int) (toN x) = false → R = false) :
    Ev (fun k => phalaroperef16_May.l1 k l (i : Int) 0 x.f0 x.f1 x.f2 x.f3 x.f4) R := by
  have hr : rightB l.length (i : Int) (toN x) = (x.f2.isEmpty && (if x.f0 = 3 then decide ((i : Int) < x.f4) && decide (x.f4 < (l.length : Int)) else decide (x.f4 = 0))) := by
    unfold rightB toN
    dsimp only
    by_cases c1 : x.f0 = 1
    · rw [if_pos c1, if_neg (by omega), hE c1, Bool.and_true]
    · rw [if_neg c1, if_neg h2, hE2 c1]
      by_cases c3 : x.f0 = 3
      · rw [if_pos c3, if_pos c3]; rfl
      · rw [if_neg c3, if_neg c3, if_pos (by omega)]; rfl
  cases hF : x.f2 with
  | cons t r =>
    rw [hF] at hr
    rw [bad (by rw [hr]; rfl)]
    refine Ev.step (fun k => ?_) (Ev.now false)
    simp only [phalaroperef16_May.l1]
    rw [if_pos (by simp only [List.length_cons]; omega), if_neg h2]
  | nil =>
    rw [hF] at hr
    simp only [List.isEmpty_nil, Bool.true_and] at hr
    have hstep : ∀ k, phalaroperef16_May.l1 (k + 1) l (i : Int) 0 x.f0 x.f1 [] x.f3 x.f4 = (if x.f0 = 3 then (if x.f4 ≤ (i : Int) then (some false) else (if x.f4 ≥ (l.length : Int) then (some false) else (phalaroperef16_May.l0 k l (wrap64 ((i : Int) + 1))))) else (if x.f4 = 0 then (phalaroperef16_May.l0 k l (wrap64 ((i : Int) + 1))) else (some false))) := fun k => by
      simp only [phalaroperef16_May.l1]
      rw [if_neg (by simp)]
    by_cases c3 : x.f0 = 3
    · rw [if_pos c3] at hr
      by_cases c4 : (i : Int) < x.f4 ∧ x.f4 < (l.length : Int)
      · refine Ev.step (fun k => ?_) (next (by rw [hr, decide_eq_true c4.1, decide_eq_true c4.2]; rfl))
        rw [hstep, if_pos c3, if_neg (by omega), if_neg (by omega), wv1 i (by omega)]
      · rw [bad (by
          rw [hr]
          by_cases c5 : (i : Int) < x.f4
          · rw [decide_eq_false (fun h => c4 ⟨c5, h⟩), Bool.and_false]
          · rw [decide_eq_false c5, Bool.false_and])]
        refine Ev.step (fun k => ?_) (Ev.now false)
        rw [hstep, if_pos c3]
        by_cases c5 : x.f4 ≤ (i : Int)
        · rw [if_pos c5]
        · rw [if_neg c5, if_pos (by omega)]
    · rw [if_neg c3] at hr
      by_cases c4 : x.f4 = 0
      · refine Ev.step (fun k => ?_) (next (by rw [hr, decide_eq_true c4]))
        rw [hstep, if_neg c3, if_pos c4, wv1 i (by omega)]
      · rw [bad (by rw [hr, decide_eq_false c4])]
        refine Ev.step (fun k => ?_) (Ev.now false)
        rw [hstep, if_neg c3, if_neg c4]
end
theorem evMay_l0 (l : List S35) (hb : l.length ≤ 100000) (hs : ∀ x ∈ l, x.f1.length ≤ 100000 ∧ x.f2.length ≤ 100000) (d : Nat) : ∀ i : Nat, i + d = l.length → (∀ a (h : a < l.length), a < i → rightB l.length (a : Int) (toN l[a]) = true) → Ev (fun k => phalaroperef16_May.l0 k l (i : Int)) (mayB (l.map toN)) := by
  have hlen : (l.map toN).length = l.length := List.length_map ..
  induction d with
  | zero =>
    intro i hi hok
    have hm : mayB (l.map toN) = decide ((l.length : Int) ≥ 1) := by
      rw [Bool.eq_iff_iff, mayB_iff, decide_eq_true_eq]
      constructor
      · intro h; have h3 := h.1; omega
      · intro h
        exact ⟨by omega, fun a ha => by rw [List.getElem_map]; have h4 := hok a (by omega) (by omega); simpa only [List.length_map] using h4⟩
    refine Ev.step (f := fun k => phalaroperef16_May.j1 k l (i : Int) false) (fun k => ?_) (Ev.step (f := fun _ => some (mayB (l.map toN))) (fun k => ?_) (Ev.now _))
    · simp only [phalaroperef16_May.l0]
      rw [if_neg (by omega)]
    · simp only [phalaroperef16_May.j1]
      rw [if_neg (by simp), hm]
      by_cases h1 : (l.length : Int) ≥ 1
      · rw [if_pos h1, decide_eq_true h1, decide_eq_true (by omega)]
      · rw [if_neg h1, decide_eq_false h1]
  | succ d ih =>
    intro i hi hok
    have hil : i < l.length := by omega
    have hn := rdr_at l i hil
    obtain ⟨hs1, hs2⟩ := hs _ (List.getElem_mem hil)
    have hnext : rightB l.length (i : Int) (toN l[i]) = true → Ev (fun k => phalaroperef16_May.l0 k l ((i + 1 : Nat) : Int)) (mayB (l.map toN)) := fun hr => ih (i + 1) (by omega) (fun a ha hai => by
      rcases Nat.lt_or_ge a i with h | h
      · exact hok a ha h
      · obtain rfl : a = i := by omega
        exact hr)
    have hbad : rightB l.length (i : Int) (toN l[i]) = false → mayB (l.map toN) = false := fun hr => may_not (k := i) (by rw [hlen]; exact hil) (x := toN l[i]) (by rw [List.getElem_map]) (by rw [hlen]; exact hr)
    obtain ⟨x, hx⟩ : ∃ x, x = l[i] := ⟨_, rfl⟩
    rw [← hx] at hn hs1 hs2 hnext hbad
    have hj1 : ∀ k, phalaroperef16_May.l0 (k + 1) l (i : Int) = phalaroperef16_May.j1 k l (i : Int) true := fun k => by
      simp only [phalaroperef16_May.l0]
      rw [if_pos (by omega), decide_eq_true (by omega)]
    refine Ev.step hj1 ?_
    have hj2 : ∀ k, phalaroperef16_May.j1 (k + 1) l (i : Int) true = (if x.f0 < 1 then (phalaroperef16_May.j2 k l i true x.f0 x.f1 x.f2 x.f3 x.f4) else (if x.f0 > 4 then (phalaroperef16_May.j2 k l i true x.f0 x.f1 x.f2 x.f3 x.f4) else (if x.f0 = 1 then ((phalaroperef16_eater.f k x.f0 x.f1 x.f2 x.f3 x.f4 (l.length : Int)).bind fun t116 => (phalaroperef16_May.j2 k l i (!t116) x.f0 x.f1 x.f2 x.f3 x.f4)) else (if (x.f1.length : Int) > 0 then (phalaroperef16_May.j2 k l i true x.f0 x.f1 x.f2 x.f3 x.f4) else (phalaroperef16_May.j2 k l i false x.f0 x.f1 x.f2 x.f3 x.f4))))) := fun k => by
      simp only [phalaroperef16_May.j1, hn]
      rw [if_pos trivial, if_pos (by omega), if_pos (by omega)]
    have hjT : Ev (fun k => phalaroperef16_May.j2 k l i true x.f0 x.f1 x.f2 x.f3 x.f4) false := Ev.step (fun k => by simp only [phalaroperef16_May.j2]; rfl) (Ev.now false)
    have hjF : ∀ R, Ev (fun k => phalaroperef16_May.l1 k l i 0 x.f0 x.f1 x.f2 x.f3 x.f4) R → Ev (fun k => phalaroperef16_May.j2 k l i false x.f0 x.f1 x.f2 x.f3 x.f4) R := fun R h => Ev.step (fun k => by simp only [phalaroperef16_May.j2]; rfl) h
    by_cases c1 : x.f0 < 1
    · rw [hbad (by unfold rightB toN; dsimp only; rw [if_neg (by omega), if_neg (by omega), if_neg (by omega), if_neg (by omega)])]
      exact Ev.step (fun k => by rw [hj2, if_pos c1]) hjT
    by_cases c2 : x.f0 > 4
    · rw [hbad (by unfold rightB toN; dsimp only; rw [if_neg (by omega), if_neg (by omega), if_neg (by omega), if_neg (by omega)])]
      exact Ev.step (fun k => by rw [hj2, if_neg c1, if_pos c2]) hjT
    by_cases c3 : x.f0 = 1
    · have he := evEater (l.length : Int) x.f0 x.f3 x.f4 x.f1 x.f2 hs1
      have hr : rightB l.length (i : Int) (toN x) = (x.f2.isEmpty && decide (x.f4 = 0) && eatsB l.length (x.f1.map toE)) := by
        unfold rightB toN
        dsimp only
        rw [if_pos c3]
      rw [← hr] at he
      cases hb2 : rightB l.length (i : Int) (toN x) with
      | false =>
        rw [hbad hb2]
        rw [hb2] at he
        exact Ev.step (fun k => by rw [hj2, if_neg c1, if_neg c2, if_pos c3]) (Ev.bind he hjT)
      | true =>
        rw [hb2] at he
        rw [hb2] at hr
        have hr' := hr.symm
        simp only [Bool.and_eq_true] at hr'
        exact Ev.step (fun k => by rw [hj2, if_neg c1, if_neg c2, if_pos c3]) (Ev.bind he (hjF _ (evMay_rest l _ i x (by omega) ⟨by omega, by omega⟩ (fun _ => hr'.2) (fun h => absurd c3 h) (by omega) hnext hbad)))
    · cases hE : x.f1 with
      | cons e r =>
        rw [hbad (by
          unfold rightB toN
          dsimp only
          rw [if_neg c3, hE]
          simp)]
        refine Ev.step (fun k => ?_) hjT
        rw [hj2, if_neg c1, if_neg c2, if_neg c3, if_pos (by rw [hE]; simp only [List.length_cons]; omega)]
      | nil =>
        have hgo : Ev (fun k => phalaroperef16_May.l1 k l i 0 x.f0 x.f1 x.f2 x.f3 x.f4) (mayB (l.map toN)) := by
          by_cases c4 : x.f0 = 2
          · exact evMay_forks l _ i x c4 hE hs2 (by omega) hnext hbad x.f2.length 0 (by omega) (fun _ _ h => by omega)
          · exact evMay_rest l _ i x c4 ⟨by omega, by omega⟩ (fun h => absurd h c3) (fun _ => hE) (by omega) hnext hbad
        refine Ev.step (fun k => ?_) (hjF _ hgo)
        rw [hj2, if_neg c1, if_neg c2, if_neg c3, if_neg (by rw [hE]; simp)]
theorem evMay (l : List S35) (hb : l.length ≤ 100000) (hs : ∀ x ∈ l, x.f1.length ≤ 100000 ∧ x.f2.length ≤ 100000) : Ev (fun k => phalaroperef16_May.f k l) (mayB (l.map toN)) :=
  evMay_l0 l hb hs l.length 0 (by omega) (fun _ _ h => by omega)
end Go.Proofs.Ytecpjfipkejmoaa.PA
end
section
namespace Go.Proofs.Ytecpjfipkejmoaa.PA
set_option linter.unusedSimpArgs false
set_option linter.unusedVariables false
open Go.RowKit Go.Maps Go.Proofs.YtecpjfipkejmoaaW.PrintWords Go.Proofs.YtecpjfipkejmoaaW.PrintLast Go.Proofs.YtecpjfipkejmoaaW.PrintMore
theorem wvm (i : Nat) (h : i < 9223372036854775806) : wrap64 ((i : Int) - 1) = (i : Int) - 1 := by unfold wrap64; omega
theorem wv64 (n : Int) (h0 : -9223372036854775808 ≤ n) (h1 : n ≤ 9223372036854775807) : wrap64 n = n := by unfold wrap64; omega
theorem mn_min (a b : Int) : mn a b = min a b := by unfold mn; split <;> omega
theorem mx_max (a b : Int) : mx a b = max a b := by unfold mx; split <;> omega
theorem size_data (s : ByteArray) : s.data.toList.length = s.size := Array.length_toList
theorem stepE_bt (s : ByteArray) (p : Nat) (e : S52) (h : p < s.size) : stepE s.data.toList p e = (decide (e.f0 ≤ bt s (p : Int)) && decide (bt s (p : Int) ≤ e.f1)) := by
  have h1 : s.data.toList[p]? = some (s[p]'h) := by
    rw [List.getElem?_eq_getElem (by rw [size_data]; exact h)]
    rfl
  have h2 : bt s (p : Int) = ((s[p]'h).toNat : Int) := (bt_at s (p : Int) h).symm
  unfold stepE
  rw [h1, h2]
theorem stepE_end (s : ByteArray) (p : Nat) (e : S52) (h : s.size ≤ p) : stepE s.data.toList p e = false := by
  unfold stepE
  rw [List.getElem?_eq_none (by rw [size_data]; exact h)]
theorem fold_same {α : Type} (g : Nat → α → Nat) : ∀ (L : List α) (a : Nat), (∀ a e, g a e = a) → L.foldl g a = a
  | [], _, _ => rfl
  | e :: r, a, h => by rw [List.foldl_cons, h a e]; exact fold_same g r a h
section
variable (l : List S35) (s : ByteArray) (x5 : List (List Int)) (x7 : List Int) (p i : Nat) (hi : i < l.length) (hl : l.length ≤ 1000) (hs : s.size ≤ 1000) (hp : p ≤ s.size) (R : List (List Int)) (x : S35) (hx : rd_T35 l (i : Int) = x) (hx1 : x.f1.length ≤ 1000) (hx2 : x.f2.length ≤ 1000) (nx rw_ : Nat → Nat) (h7 : x7.length = l.length)
def edgeG (S : List UInt8) (p : Nat) (nx : Nat → Nat) (a : Nat) (e : S52) : Nat := if stepE S p e = true then nx e.f2.toNat else a
set_option maxHeartbeats 4000000 in
include hi hl hs hp hx hx1 h7 in
theorem evTab_l3 (h5 : p < s.size → x5.length = s.size + 1 ∧ (rd_L4 x5 ((p + 1 : Nat) : Int)).length = l.length ∧ ∀ t : Int, 0 ≤ t → t < l.length → rd (rd_L4 x5 ((p + 1 : Nat) : Int)) t = (nx t.toNat : Int))
    (hto : ∀ e ∈ x.f1, 0 ≤ e.f2 ∧ e.f2 < (l.length : Int)) (d : Nat) : ∀ j a : Nat, j + d = x.f1.length →
    Ev (fun k => phalaroperef17_Table.l1 k l s x5 (p : Int) (x7.set i ((((x.f1.drop j).map toE).foldl (edgeG s.data.toList p nx) a : Nat) : Int)) ((i : Int) - 1)) R → Ev (fun k => phalaroperef17_Table.l3 k l s x5 (p : Int) x7 (i : Int) (a : Int) (j : Int)) R := by
  have hend : ∀ (a : Nat) (j : Int), Ev (fun k => phalaroperef17_Table.l1 k l s x5 (p : Int) (x7.set i ((a : Nat) : Int)) ((i : Int) - 1)) R → Ev (fun k => phalaroperef17_Table.j7 k l s x5 (p : Int) x7 (i : Int) (a : Int) j false) R := fun a j h => Ev.step (fun k => by
    simp only [phalaroperef17_Table.j7]
    rw [if_neg (by simp), if_pos (by omega), if_pos (by omega), wvm i (by omega), Int.toNat_natCast]) h
  induction d with
  | zero =>
    intro j a hj h
    rw [List.drop_eq_nil_of_le (by omega)] at h
    refine Ev.step (fun k => ?_) (hend a (j : Int) h)
    simp only [phalaroperef17_Table.l3, hx]
    rw [if_pos (by omega), if_pos (by omega), if_neg (by omega)]
  | succ d ih =>
    intro j a hj h
    have hjl : j < x.f1.length := by omega
    have hstep : ∀ b : Bool, decide ((p : Int) < (s.size : Int)) = b → ∀ k, phalaroperef17_Table.l3 (k + 1) l s x5 (p : Int) x7 (i : Int) (a : Int) (j : Int) = phalaroperef17_Table.j7 k l s x5 (p : Int) x7 (i : Int) (a : Int) (j : Int) b := fun b hb k => by
      simp only [phalaroperef17_Table.l3, hx]
      rw [if_pos (by omega), if_pos (by omega), if_pos (by omega), hb]
    by_cases hps : p < s.size
    · refine Ev.step (hstep true (decide_eq_true (by omega))) ?_
      obtain ⟨h51, h52, h53⟩ := h5 hps
      rw [List.drop_eq_getElem_cons hjl, List.map_cons, List.foldl_cons] at h
      obtain ⟨t1, t2⟩ := hto _ (List.getElem_mem hjl)
      have he : edgeG s.data.toList p nx a (toE x.f1[j]) = if (decide (x.f1[j].f0 ≤ bt s (p : Int)) && decide (bt s (p : Int) ≤ x.f1[j].f1)) = true then nx x.f1[j].f2.toNat else a := by
        unfold edgeG
        rw [stepE_bt s p _ hps]
        rfl
      have hrde := rdre_at x.f1 j hjl
      by_cases c1 : bt s (p : Int) ≥ x.f1[j].f0
      · by_cases c2 : bt s (p : Int) ≤ x.f1[j].f1
        · rw [he.trans (by rw [decide_eq_true c2, decide_eq_true (show x.f1[j].f0 ≤ bt s (p : Int) from c1)]; rfl : _ = nx x.f1[j].f2.toNat)] at h
          refine Ev.step (fun k => ?_) (ih (j + 1) (nx x.f1[j].f2.toNat) (by omega) h)
          simp only [phalaroperef17_Table.j7, hx, hrde]
          rw [if_pos trivial, if_pos (by omega), if_pos (by omega), if_pos (by omega), if_pos (by omega), if_pos (by omega), if_pos (by omega), if_pos c1, if_pos c2, wv1 p (by omega), if_pos (by omega), if_pos (by omega), if_pos t1, h52, if_pos t2, h53 _ t1 t2, wv1 j (by omega)]
        · rw [he.trans (by rw [decide_eq_false c2, Bool.and_false]; rfl : _ = a)] at h
          refine Ev.step (fun k => ?_) (ih (j + 1) a (by omega) h)
          simp only [phalaroperef17_Table.j7, hx, hrde]
          rw [if_pos trivial, if_pos (by omega), if_pos (by omega), if_pos (by omega), if_pos (by omega), if_pos (by omega), if_pos (by omega), if_pos c1, if_neg c2, wv1 j (by omega)]
      · rw [he.trans (by rw [decide_eq_false (show ¬ x.f1[j].f0 ≤ bt s (p : Int) from c1), Bool.false_and]; rfl : _ = a)] at h
        refine Ev.step (fun k => ?_) (ih (j + 1) a (by omega) h)
        simp only [phalaroperef17_Table.j7, hx, hrde]
        rw [if_pos trivial, if_pos (by omega), if_pos (by omega), if_pos (by omega), if_pos (by omega), if_pos (by omega), if_pos (by omega), if_neg c1, wv1 j (by omega)]
    · refine Ev.step (hstep false (decide_eq_false (by omega))) (hend a (j : Int) ?_)
      rw [fold_same (edgeG s.data.toList p nx) _ a (fun a e => by unfold edgeG; rw [stepE_end s p e (by omega)]; rfl)] at h
      exact h
set_option maxHeartbeats 4000000 in
include hi hx hx2 h7 in
theorem evTab_l2 (hto : ∀ t ∈ x.f2, 0 ≤ t ∧ t < (l.length : Int) ∧ rd x7 t = (rw_ t.toNat : Int) ∧ rw_ t.toNat ≤ 1000) (d : Nat) : ∀ j a : Nat, a ≤ 1000 → j + d = x.f2.length →
    Ev (fun k => phalaroperef17_Table.l3 k l s x5 (p : Int) x7 (i : Int) (((x.f2.drop j).foldl (fun a t => min (a + rw_ t.toNat) 1000) a : Nat) : Int) 0) R → Ev (fun k => phalaroperef17_Table.l2 k l s x5 (p : Int) x7 (i : Int) (a : Int) (j : Int)) R := by
  induction d with
  | zero =>
    intro j a ha hj h
    rw [List.drop_eq_nil_of_le (by omega)] at h
    refine Ev.step (fun k => ?_) h
    simp only [phalaroperef17_Table.l2, hx]
    rw [if_pos (by omega), if_pos (by omega), if_neg (by omega)]
    rfl
  | succ d ih =>
    intro j a ha hj h
    have hjl : j < x.f2.length := by omega
    rw [List.drop_eq_getElem_cons hjl, List.foldl_cons] at h
    obtain ⟨t1, t2, t3, t4⟩ := hto _ (List.getElem_mem hjl)
    obtain ⟨b, hb⟩ : ∃ b, b = rw_ x.f2[j].toNat := ⟨_, rfl⟩
    rw [← hb] at t3 t4 h
    refine Ev.step (fun k => ?_) (ih (j + 1) _ (Nat.min_le_right _ _) (by omega) h)
    simp only [phalaroperef17_Table.l2, hx, rdi_at x.f2 j hjl]
    rw [if_pos (by omega), if_pos (by omega), if_pos (by omega), if_pos (by omega), if_pos t1, h7, if_pos t2, t3, wv1 j (by omega), mn_min]
    have e1 : wrap64 ((a : Int) + (b : Int)) = ((a + b : Nat) : Int) := (wv64 _ (by omega) (by omega)).trans (Int.natCast_add a b).symm
    rw [e1]
    obtain ⟨cc, hcc⟩ : ∃ cc, cc = a + b := ⟨_, rfl⟩
    rw [← hcc]
    have e2 : min (cc : Int) 1000 = ((min cc 1000 : Nat) : Int) := by omega
    rw [e2]
end
theorem right_forks {many : Int} {i : Nat} {x : S35} (hr : rightB many (i : Int) (toN x) = true) : ∀ t ∈ x.f2, (i : Int) < t ∧ t < many := fun t ht => by
    unfold rightB toN at hr
    dsimp only at hr
    by_cases c1 : x.f0 = 1
    · rw [if_pos c1] at hr; simp only [Bool.and_eq_true, List.isEmpty_iff] at hr; rw [hr.1.1] at ht; cases ht
    rw [if_neg c1] at hr
    by_cases c2 : x.f0 = 2
    · rw [if_pos c2] at hr; simp only [Bool.and_eq_true, List.all_eq_true, decide_eq_true_eq] at hr; exact hr.2 t ht
    rw [if_neg c2] at hr
    by_cases c3 : x.f0 = 3
    · rw [if_pos c3] at hr; simp only [Bool.and_eq_true, List.isEmpty_iff] at hr; rw [hr.1.2] at ht; cases ht
    rw [if_neg c3] at hr
    by_cases c4 : x.f0 = 4
    · rw [if_pos c4] at hr; simp only [Bool.and_eq_true, List.isEmpty_iff] at hr; rw [hr.1.2] at ht; cases ht
    rw [if_neg c4] at hr
    cases hr
theorem right_edges {many : Int} {i : Nat} {x : S35} (hr : rightB many (i : Int) (toN x) = true) : ∀ e ∈ x.f1, 0 ≤ e.f2 ∧ e.f2 < many := fun e he => by
    unfold rightB toN at hr
    dsimp only at hr
    by_cases c1 : x.f0 = 1
    · rw [if_pos c1] at hr
      simp only [Bool.and_eq_true] at hr
      have := (eatsB_iff.1 hr.2).1 (toE e) (List.mem_map.2 ⟨e, he, rfl⟩)
      rw [okE_toE] at this
      simp only [Bool.and_eq_true, decide_eq_true_eq] at this
      exact ⟨this.1.2, this.2⟩
    have hemp : x.f1.map toE = [] := by
      rw [if_neg c1] at hr
      by_cases c2 : x.f0 = 2
      · rw [if_pos c2] at hr; simp only [Bool.and_eq_true, List.isEmpty_iff] at hr; exact hr.1.1
      rw [if_neg c2] at hr
      by_cases c3 : x.f0 = 3
      · rw [if_pos c3] at hr; simp only [Bool.and_eq_true, List.isEmpty_iff] at hr; exact hr.1.1
      rw [if_neg c3] at hr
      by_cases c4 : x.f0 = 4
      · rw [if_pos c4] at hr; simp only [Bool.and_eq_true, List.isEmpty_iff] at hr; exact hr.1.1
      rw [if_neg c4] at hr
      cases hr
    rw [List.map_eq_nil_iff] at hemp
    rw [hemp] at he
    cases he
theorem right_mark {many : Int} {i : Nat} {x : S35} (hr : rightB many (i : Int) (toN x) = true) : x.f0 = 3 → (i : Int) < x.f4 ∧ x.f4 < many := fun c3 => by
    unfold rightB toN at hr
    dsimp only at hr
    rw [if_neg (by omega), if_neg (by omega), if_pos c3] at hr
    simp only [Bool.and_eq_true, decide_eq_true_eq] at hr
    exact hr.2
theorem evTab_cell (l : List S35) (s : ByteArray) (x5 : List (List Int)) (x7 : List Int) (p i : Nat) (hi : i < l.length) (hl : l.length ≤ 1000) (hs : s.size ≤ 1000) (hp : p ≤ s.size) (R : List (List Int)) (hx1 : l[i].f1.length ≤ 1000) (hx2 : l[i].f2.length ≤ 1000) (nx rw_ : Nat → Nat) (h7 : x7.length = l.length)
    (h5 : p < s.size → x5.length = s.size + 1 ∧ (rd_L4 x5 ((p + 1 : Nat) : Int)).length = l.length ∧ ∀ t : Int, 0 ≤ t → t < l.length → rd (rd_L4 x5 ((p + 1 : Nat) : Int)) t = (nx t.toNat : Int))
    (ho : ∀ t : Int, (i : Int) < t → t < (l.length : Int) → rd x7 t = (rw_ t.toNat : Int) ∧ rw_ t.toNat ≤ 1000) (hr : rightB l.length (i : Int) (toN l[i]) = true)
    (h : Ev (fun k => phalaroperef17_Table.l1 k l s x5 (p : Int) (x7.set i ((cellN s.data.toList p (toN l[i]) rw_ nx : Nat) : Int)) ((i : Int) - 1)) R) : Ev (fun k => phalaroperef17_Table.l1 k l s x5 (p : Int) x7 (i : Int)) R := by
  have hx := rdr_at l i hi
  obtain ⟨x, hxx⟩ : ∃ x, x = l[i] := ⟨_, rfl⟩
  rw [← hxx] at hx hx1 hx2 hr h
  have f2 := right_forks hr
  have f1 := right_edges hr
  have f3 := right_mark hr
  have hgo : ∀ a : Nat, a ≤ 1000 → a = (if x.f0 = 3 then rw_ x.f4.toNat else if x.f0 = 4 ∧ p = s.data.toList.length then 1 else 0) → Ev (fun k => phalaroperef17_Table.j4 k l s x5 (p : Int) x7 (i : Int) (a : Int)) R := fun a ha hae => by
    refine Ev.step (fun k => by simp only [phalaroperef17_Table.j4]; rfl) (evTab_l2 l s x5 x7 p i hi R x hx hx2 rw_ h7 (fun t ht => ?_) x.f2.length 0 a ha (by omega) (evTab_l3 l s x5 x7 p i hi hl hs hp R x hx hx1 nx h7 h5 f1 x.f1.length 0 _ (by omega) ?_))
    · obtain ⟨g1, g2⟩ := f2 t ht
      obtain ⟨g3, g4⟩ := ho t g1 g2
      exact ⟨by omega, g2, g3, g4⟩
    · rw [List.drop_zero, List.drop_zero, hae]
      exact h
  have hj3 : ∀ a : Nat, (x.f0 = 3 → True) → a ≤ 1000 → (¬ x.f0 = 3 → a = (if x.f0 = 4 ∧ p = s.data.toList.length then 1 else 0)) → Ev (fun k => phalaroperef17_Table.j3 k l s x5 (p : Int) x7 (i : Int) (a : Int)) R := fun a _ ha hae => by
    by_cases c3 : x.f0 = 3
    · obtain ⟨g1, g2⟩ := f3 c3
      obtain ⟨g3, g4⟩ := ho _ g1 g2
      refine Ev.step (fun k => ?_) (hgo (rw_ x.f4.toNat) g4 (by rw [if_pos c3]))
      simp only [phalaroperef17_Table.j3, hx]
      rw [if_pos (by omega), if_pos (by omega), if_pos c3, if_pos (by omega), h7, if_pos g2, g3]
    · refine Ev.step (fun k => ?_) (hgo a ha (by rw [if_neg c3]; exact hae c3))
      simp only [phalaroperef17_Table.j3, hx]
      rw [if_pos (by omega), if_pos (by omega), if_neg c3]
  have hlen := size_data s
  by_cases c4 : x.f0 = 4
  · by_cases c5 : p = s.size
    · refine Ev.step (f := fun k => phalaroperef17_Table.j2 k l s x5 (p : Int) x7 (i : Int) 0 true) (fun k => ?_) (Ev.step (fun k => ?_) (hj3 1 (fun _ => trivial) (by omega) (fun _ => by rw [if_pos ⟨c4, by omega⟩])))
      · simp only [phalaroperef17_Table.l1, hx]
        rw [if_pos (by omega), if_pos (by omega), if_pos (by omega), if_pos c4]
        rw [show ((p : Int) == (s.size : Int)) = true from beq_iff_eq.mpr (by omega)]
      · simp only [phalaroperef17_Table.j2]
        rfl
    · refine Ev.step (f := fun k => phalaroperef17_Table.j2 k l s x5 (p : Int) x7 (i : Int) 0 false) (fun k => ?_) (Ev.step (fun k => ?_) (hj3 0 (fun _ => trivial) (by omega) (fun _ => by rw [if_neg (by omega)])))
      · simp only [phalaroperef17_Table.l1, hx]
        rw [if_pos (by omega), if_pos (by omega), if_pos (by omega), if_pos c4]
        rw [show ((p : Int) == (s.size : Int)) = false from beq_eq_false_iff_ne.mpr (by omega)]
      · simp only [phalaroperef17_Table.j2]
        rfl
  · refine Ev.step (f := fun k => phalaroperef17_Table.j2 k l s x5 (p : Int) x7 (i : Int) 0 false) (fun k => ?_) (Ev.step (fun k => ?_) (hj3 0 (fun _ => trivial) (by omega) (fun _ => by rw [if_neg (fun h => c4 h.1)])))
    · simp only [phalaroperef17_Table.l1, hx]
      rw [if_pos (by omega), if_pos (by omega), if_pos (by omega), if_neg c4]
    · simp only [phalaroperef17_Table.j2]
      rfl
section
variable (l : List S35) (s : ByteArray)
def rowT (p : Nat) : List Int := (List.range l.length).map fun i => ((waysOf (l.map toN) s.data.toList (i, p) : Nat) : Int)
def tabT : List (List Int) := (List.range (s.size + 1)).map (rowT l s)
theorem rowT_len (p : Nat) : (rowT l s p).length = l.length := by simp [rowT]
theorem rowT_at (p i : Nat) (h : i < l.length) : (rowT l s p)[i]? = some ((waysOf (l.map toN) s.data.toList (i, p) : Nat) : Int) := by
  simp [rowT, List.getElem?_map, List.getElem?_range h]
theorem rd_of {L : List Int} {i : Nat} {v : Int} (h : L[i]? = some v) : rd L (i : Int) = v := by
  unfold rd
  rw [Int.toNat_natCast, List.getD_eq_getElem?_getD, h]
  rfl
theorem rdL_of {L : List (List Int)} {i : Nat} {v : List Int} (h : L[i]? = some v) : rd_L4 L (i : Int) = v := by
  unfold rd_L4
  rw [Int.toNat_natCast, List.getD_eq_getElem?_getD, h]
  rfl
variable (hm : mayB (l.map toN) = true) (hl : l.length ≤ 1000) (hs : s.size ≤ 1000) (hf : ∀ x ∈ l, x.f1.length ≤ 1000 ∧ x.f2.length ≤ 1000)
include hm hl hs hf in
theorem evTab_l1 (x5 : List (List Int)) (p : Nat) (hp : p ≤ s.size) (h5l : x5.length = s.size + 1) (h5 : ∀ q, p < q → q ≤ s.size → x5[q]? = some (rowT l s q)) (R : List (List Int))
    (next : Ev (fun k => phalaroperef17_Table.l0 k l s (x5.set p (rowT l s p)) ((p : Int) - 1)) R) : ∀ (i : Nat) (x7 : List Int), i ≤ l.length → x7.length = l.length → (∀ j, i ≤ j → j < l.length → x7[j]? = some ((waysOf (l.map toN) s.data.toList (j, p) : Nat) : Int)) →
    Ev (fun k => phalaroperef17_Table.l1 k l s x5 (p : Int) x7 ((i : Int) - 1)) R := by
  intro i
  induction i with
  | zero =>
    intro x7 _ h7 hx
    have e : x7 = rowT l s p := by
      apply List.ext_getElem?
      intro j
      rcases Nat.lt_or_ge j l.length with h | h
      · rw [hx j (Nat.zero_le _) h, rowT_at l s p j h]
      · rw [List.getElem?_eq_none (by omega), List.getElem?_eq_none (by rw [rowT_len]; exact h)]
    subst e
    refine Ev.step (fun k => ?_) next
    simp only [phalaroperef17_Table.l1]
    rw [if_neg (by omega), if_pos (by omega), if_pos (by omega), wvm p (by omega), Int.toNat_natCast]
  | succ i ih =>
    intro x7 hi h7 hx
    have hil : i < l.length := by omega
    rw [show ((i + 1 : Nat) : Int) - 1 = (i : Int) by omega]
    obtain ⟨g1, g2⟩ := hf _ (List.getElem_mem hil)
    have hml : (l.map toN).length = l.length := List.length_map ..
    have hn : (l.map toN)[i]? = some (toN l[i]) := by rw [List.getElem?_map, List.getElem?_eq_getElem hil]; rfl
    have hr := right_at hm hn
    rw [hml] at hr
    refine evTab_cell l s x5 x7 p i hil hl hs hp R g1 g2 (fun j => if j < (l.map toN).length ∧ p + 1 ≤ s.data.toList.length then waysOf (l.map toN) s.data.toList (j, p + 1) else 0) (fun j => waysOf (l.map toN) s.data.toList (j, p)) h7 (fun hps => ⟨h5l, ?_, ?_⟩) ?_ hr ?_
    · rw [rdL_of (h5 (p + 1) (by omega) (by omega)), rowT_len]
    · intro t t1 t2
      obtain ⟨u, rfl⟩ := Int.eq_ofNat_of_zero_le t1
      rw [rdL_of (h5 (p + 1) (by omega) (by omega)), rd_of (rowT_at l s (p + 1) u (by omega)), Int.toNat_natCast, if_pos ⟨by omega, by rw [size_data]; omega⟩]
    · intro t t1 t2
      obtain ⟨u, rfl⟩ := Int.eq_ofNat_of_zero_le (show 0 ≤ t by omega)
      rw [rd_of (hx u (by omega) (by omega)), Int.toNat_natCast]
      exact ⟨rfl, waysOf_le hm ⟨by show u < _; omega, by show p ≤ _; rw [size_data]; exact hp⟩⟩
    · rw [cell_ways hm hn (by rw [size_data]; exact hp)]
      refine ih _ (by omega) (by rw [List.length_set]; exact h7) (fun j hj hjl => ?_)
      rcases Nat.eq_or_lt_of_le hj with h | h
      · subst h
        rw [List.getElem?_set_self (by omega)]
      · rw [List.getElem?_set_ne (by omega)]
        exact hx j (by omega) hjl
include hm hl hs hf in
theorem evTab_l0 : ∀ (p : Nat) (x5 : List (List Int)), p ≤ s.size + 1 → x5.length = s.size + 1 → (∀ q, p ≤ q → q ≤ s.size → x5[q]? = some (rowT l s q)) → Ev (fun k => phalaroperef17_Table.l0 k l s x5 ((p : Int) - 1)) (tabT l s) := by
  intro p
  induction p with
  | zero =>
    intro x5 _ h5 hx
    have e : x5 = tabT l s := by
      apply List.ext_getElem?
      intro j
      rcases Nat.lt_or_ge j (s.size + 1) with h | h
      · rw [hx j (Nat.zero_le _) (by omega)]
        simp [tabT, List.getElem?_map, List.getElem?_range h]
      · rw [List.getElem?_eq_none (by omega), List.getElem?_eq_none (by simp [tabT]; omega)]
    subst e
    refine Ev.step (fun k => ?_) (Ev.now _)
    simp only [phalaroperef17_Table.l0]
    rw [if_neg (by omega)]
  | succ p ih =>
    intro x5 hp h5 hx
    rw [show ((p + 1 : Nat) : Int) - 1 = (p : Int) by omega]
    refine Ev.step (fun k => ?_) (evTab_l1 l s hm hl hs hf x5 p (by omega) h5 (fun q h1 h2 => hx q (by omega) h2) (tabT l s) (ih _ (by omega) (by rw [List.length_set]; exact h5) (fun q h1 h2 => ?_)) l.length (List.replicate l.length 0) (Nat.le_refl _) (by simp) (fun j h1 h2 => by omega))
    · simp only [phalaroperef17_Table.l0]
      rw [if_pos (by omega), if_pos (by omega), Int.toNat_natCast, if_pos (by omega), wvm l.length (by omega)]
    · rcases Nat.eq_or_lt_of_le h1 with h | h
      · subst h
        rw [List.getElem?_set_self (by omega)]
      · rw [List.getElem?_set_ne (by omega)]
        exact hx q (by omega) h2
include hm hl hs hf in
theorem evTable : Ev (fun k => phalaroperef17_Table.f k l s) (tabT l s) := by
  have h := evTab_l0 l s hm hl hs hf (s.size + 1) (List.replicate (s.size + 1) []) (Nat.le_refl _) (by simp) (fun q h1 h2 => by omega)
  rw [show ((s.size + 1 : Nat) : Int) - 1 = (s.size : Int) by omega] at h
  refine Ev.congr (fun k => ?_) h
  unfold phalaroperef17_Table.f
  rw [wv1 s.size (by omega), if_pos (by omega), Int.toNat_natCast, if_pos (by omega)]
end
end Go.Proofs.Ytecpjfipkejmoaa.PA
end
