/- Texts of this claim, those that nothing needs left out: Zn5. -/
import Derived.Test.YtacnflelkpkbhaaMtG1
import Derived.Test.YtacnflelkpkbhaaMtG14
section
namespace Go.Proofs.Ytacnflelkpkbhaa.PA
set_option linter.unusedSimpArgs false
set_option linter.unusedVariables false
open Go.RowKit Go.Maps Go.Proofs.YtacnflelkpkbhaaW.PrintWords Go.Proofs.YtacnflelkpkbhaaW.PrintLast Go.Proofs.YtacnflelkpkbhaaW.PrintMore
def stepS (m : List S33) (ts : List Int) (c : UInt8) : List Int := listF (addAll m [] (ts.flatMap (stepT m (c.toNat : Int))))
def stateOf (m : List S33) (s : List UInt8) : List Int := s.foldl (stepS m) (listF (addAll m [] [0]))
def isEnd (m : List S33) (t : Int) : Bool := match m[t.toNat]? with
  | some n => n.f0 == 4
  | none => false
def acceptsB (m : List S33) (s : List UInt8) : Bool := mayB m && (stateOf m s).any (isEnd m)
theorem listF_ok {m : List S33} (hm : mayB m = true) (ts : List Int) : (listF (addAll m [] ts)).length ≤ 100000 ∧ ∀ t ∈ listF (addAll m [] ts), 0 ≤ t ∧ t < (m.length : Int) := by
  obtain ⟨o1, _, _⟩ := addAll_nil hm ts
  refine ⟨by rw [listF_len]; have := o1.len; have := (mayB_iff.1 hm).1.2; omega, fun t ht => ?_⟩
  obtain ⟨i, hi, rfl⟩ := listF_mem.1 ht
  have := o1.2 i hi
  omega
theorem state_ok {m : List S33} (hm : mayB m = true) (s : List UInt8) : (stateOf m s).length ≤ 100000 ∧ ∀ t ∈ stateOf m s, 0 ≤ t ∧ t < (m.length : Int) := by
  have key : ∀ (s : List UInt8) (ts : List Int), (ts.length ≤ 100000 ∧ ∀ t ∈ ts, 0 ≤ t ∧ t < (m.length : Int)) → ((s.foldl (stepS m) ts).length ≤ 100000 ∧ ∀ t ∈ s.foldl (stepS m) ts, 0 ≤ t ∧ t < (m.length : Int)) := by
    intro s
    induction s with
    | nil => intro ts h; exact h
    | cons c r ih => intro ts _; exact ih _ (listF_ok hm _)
  exact key s _ (listF_ok hm _)
theorem isEnd_any (t : Int) (A : Option Addr) (c : Nat) (m : List S33) (b : Nat) (W : World) (hr : Kd.C k33 W A m.length m) (hb : W.heap[b]? = some (.cells #[.slice A m.length c] 26 (0, 0))) (h0 : 0 ≤ t) (h1 : t < (m.length : Int)) :
    Calls Try.prog 27 #[.int .i64 t, .pointer (some ⟨b, 0, none⟩)] W fun e w' => e = .returned (.bool (isEnd m t)) ∧ Below W.heap.size W w' := by
  obtain ⟨i, rfl⟩ := Int.eq_ofNat_of_zero_le h0
  have hil : i < m.length := by omega
  obtain ⟨ad, B1, d1, B2, d2, hA, q0, _, _, _, _, _, _, _, _⟩ := at_T33 hr (i : Int) (by omega) (by omega)
  rw [Int.toNat_natCast, rdn_at m i hil] at q0
  have he : isEnd m (i : Int) = (m[i].f0 == 4) := by unfold isEnd; rw [Int.toNat_natCast, List.getElem?_eq_getElem hil]
  rw [he]
  obtain ⟨x, hx⟩ : ∃ x, x = m[i] := ⟨_, rfl⟩
  rw [← hx] at q0 ⊢
  have hc := cell1 hb
  obtain ⟨n, hn⟩ : ∃ n, n = m.length := ⟨_, rfl⟩
  rw [← hn] at hc h1
  have hil2 : i < n := by omega
  subst hA
  clear hx he hr hb hn
  go_enter Try.func27, Try.ntmps27
  go_wp2_with fail
  go_ret
  exact ⟨by simp, Below.refl _ _⟩
def acc.T7 : Bool × List (List Nat × List Nat) := (true, [([], []), ([], []), ([], []), ([], []), ([2, 3], [2, 3]), ([0, 1, 4], [0, 1, 4]), ([5, 5, 0, 1, 2, 3, 4, 5], [1, 5])])
def acc.B7 : List Nat := [0, 0, 0, 0, 12, 31, 63]
theorem acc.tab7 : rtab .any (opsOf Try.f16 7) = acc.T7 := by kernel_rfl
theorem acc.bits7 : waitsOk acc.T7.2 acc.B7 = true := by kernel_rfl
set_option maxHeartbeats 16000000 in
set_option maxRecDepth 100000 in
theorem Accepts_any (A : Option Addr) (c : Nat) (m : List S33) (s : ByteArray) (w : World) (hr : Kd.C k33 w A m.length m) (hok : okM m) (hs : s.size ≤ 1000000) :
    Calls Try.prog 16 #[.slice A m.length c, .string s] w fun e w' => e = .returned (.bool (acceptsB m s.data.toList)) ∧ Below w.heap.size w w' := by
  have HM := Aside0.mk (fun (W : World) (h : Kd.C k33 W A m.length m) => may_any A c m W h hok)
  have HR := Aside0.mk hr
  have HOK := Aside0.mk hok
  obtain ⟨n, hn⟩ : ∃ n, n = m.length := ⟨_, rfl⟩
  have HN := Aside0.mk hn
  rw [← hn] at HR HM ⊢
  clear hr hok hn
  have hb0 := X.below_new1 w (.cells #[.slice A n c] 26)
  have hx0 := blk_new w (.cells #[.slice A n c] 26)
  have hc0 := cell1 hx0
  have HB0 := Aside0.mk hb0
  have HX0 := Aside0.mk hx0
  clear hb0 hx0
  go_enter Try.func16, Try.ntmps16
  go_wp2_with fail
  refine (HM.out _ (Kd.C_below HR.out HB0.out)).mono ?_
  rintro e w1 ⟨rfl, hb⟩
  have HB1 := Aside0.mk (below_step HB0.out hb)
  have HX1 := Aside0.mk (blk_below HX0.out hb)
  clear hb hc0 HB0 HX0
  have hc1 := cell1 HX1.out
  cases hm : mayB m with
  | false =>
    have HF := Aside0.mk (show acceptsB m s.data.toList = false by unfold acceptsB; rw [hm]; rfl)
    clear hm
    go_wp2_with fail
    go_ret
    exact ⟨by rw [HF.out]; rfl, HB1.out⟩
  | true =>
    have HMAY := Aside0.mk hm
    have HACC := Aside0.mk (show acceptsB m s.data.toList = (stateOf m s.data.toList).any (isEnd m) by unfold acceptsB; rw [hm]; rfl)
    clear hm HM
    go_wp2_with fail
    have hb2 := X.below_new1 w1 (.cells #[.int .i64 0] 3)
    have hrow : Kd.C (Kd.int .i64) (w1.alloc (.cells #[.int .i64 0] 3)) (some ⟨w1.heap.size, 0, none⟩) 1 [0] := by
      have h1 := World.ownsRow_lit (base := w1.heap.size) (e := 3) (size := 1) w1 #[.int .i64 0] 1 (Nat.le_refl _) (by simp [maxLen]) (by simp)
      obtain ⟨A', c', hv, hl, hc⟩ := ints_row (l := [0]) (by simpa using h1)
      injection hv with hv1 hv2 hv3
      rw [← hv1] at hc
      exact hc
    have hB2 : Below w.heap.size w (w1.alloc (.cells #[.int .i64 0] 3)) := HB1.out.trans (hb2.mono HB1.out.size)
    have hcl := closed_any A c m (some ⟨w1.heap.size, 0, none⟩) 1 [0] (w1.alloc (.cells #[.int .i64 0] 3)) (by have h := Kd.C_below HR.out hB2; rw [HN.out] at h; exact h) hrow HMAY.out HOK.out (fun t ht => by rw [List.mem_singleton] at ht; subst ht; exact wf_small (by omega) (by omega)) (by simp)
    rw [← HN.out] at hcl
    have HB2 := Aside0.mk hB2
    have HX2 := Aside0.mk (blk_alloc HX1.out (.cells #[.int .i64 0] 3))
    clear hb2 hrow hB2 hc1
    refine hcl.mono ?_
    rintro e w2 ⟨v2, rfl, ho, hb⟩
    have HB3 := Aside0.mk (below_step HB2.out hb)
    have HX3 := Aside0.mk (blk_below HX2.out hb)
    obtain ⟨A2, c2, rfl, _, C2⟩ := ints_row ho
    have HC2 := Aside0.mk C2
    clear ho hb HB2 HX2 C2 hcl HB1 HX1
    have HST0 := Aside0.mk (show stateOf m [] = listF (addAll m [] [0]) from rfl)
    rw [← HST0.out] at HC2 ⊢
    have hsd : s.data.toList.length = s.size := Array.length_toList
    have HSD := Aside0.mk hsd
    clear HST0 hsd
    go_wp2_with fail
    go_loopw [15, 5] (fun v15 v5 wr => ∃ (j : Nat) (A5 : Option Addr) (c5 : Nat), j ≤ s.size ∧ v15 = .int .i64 (j : Int) ∧ v5 = .slice A5 (stateOf m (s.data.toList.take j)).length c5 ∧ Kd.C (Kd.int .i64) wr A5 (stateOf m (s.data.toList.take j)).length (stateOf m (s.data.toList.take j)) ∧ Below w2.heap.size w2 wr) (fun v15 _ _ => (s.size - intOf v15).toNat)
    case atStart => exact ⟨0, A2, c2, Nat.zero_le _, rfl, rfl, HC2.out, Below.refl _ _⟩
    case round =>
      obtain ⟨j, A5, c5, hj, rfl, rfl, C5, hb⟩ := hrel
      obtain ⟨hl5, hr5⟩ := state_ok HMAY.out (s.data.toList.take j)
      by_cases hjl : j < s.size
      · have hj2 : j < s.data.toList.length := by rw [HSD.out]; exact hjl
        have htk : stateOf m (s.data.toList.take (j + 1)) = stepS m (stateOf m (s.data.toList.take j)) s.data.toList[j] := by
          unfold stateOf
          rw [List.take_succ_eq_append_getElem hj2, List.foldl_append]
          rfl
        obtain ⟨st, hst⟩ : ∃ x, x = stateOf m (s.data.toList.take j) := ⟨_, rfl⟩
        rw [← hst] at C5 htk hl5 hr5 ⊢
        have hbt : ((s[j]'hjl).toNat : Int) = ((s.data.toList[j]).toNat : Int) := rfl
        obtain ⟨ch, hch⟩ : ∃ x : Int, x = ((s.data.toList[j]).toNat : Int) := ⟨_, rfl⟩
        have htk2 : stateOf m (s.data.toList.take (j + 1)) = listF (addAll m [] (st.flatMap (stepT m ch))) := by rw [htk, hch]; rfl
        rw [← hch] at hbt
        have HBOX := Aside0.mk (blk_below HX3.out hb)
        have hST := fun (W : World) (h : Below wr.heap.size wr W) => stepped_any A c m A5 c5 st ch W (by have h := Kd.C_below HR.out (below_step (below_step HB3.out hb) h); rw [HN.out] at h; exact h) (Kd.C_below C5 h) HMAY.out HOK.out (by omega)
        obtain ⟨n5, hn5⟩ : ∃ n, n = st.length := ⟨_, rfl⟩
        rw [← hn5, ← htk2, ← HN.out] at hST
        rw [← hn5]
        have HST := Aside0.mk hST
        have HB := Aside0.mk (Below.refl wr.heap.size wr)
        have HB2 := Aside0.mk hb
        clear hb htk htk2 hST hch hst C5 hl5 hr5 hj2 hn5
        go_wp2_with fail
        refine start_ (n := 7) (S := fun w' => w'.cell? ⟨w.heap.size, 0, none⟩ = some (.slice A n c)) (ds := []) #[false, false, false, false, false, false, false] (by kernel_rfl) rfl rfl (cell1 (blk_below HBOX.out (below_drew HB.out))) (fun hHeld => ?_)
        refine with_tabW acc.tab7 acc.bits7 (fun HT_ HW_ => ?_)
        refine take_ (i := 0) (N := (some 18)) (v := ?_) (a' := ?_) #[true, false, false, false, false, false, false] rfl rfl (take_ofW HT_.out HW_.out (by kernel_rfl)) (fun _ _ _ h => h) (Or.inl ⟨by rfl, ?_⟩) hHeld ?_ ?_
        rotate_left
        · rintro w' s0
          go_simp
          with_reducible rfl
        rotate_left
        · simp only [Act.put, List.setIfInBounds_toArray, List.set_cons_zero, List.set_cons_succ, i64_w, i32_w]
          rfl
        refine pure_ (i := 1) (N := (some 19)) (v := ?_) (a' := ?_) #[true, true, false, false, false, false, false] rfl rfl (any_of HT_.out (by kernel_rfl)) (fun _ _ _ h => h) (Or.inl ⟨by rfl, ?_⟩) ?_ ?_
        rotate_left
        · intro w'
          go_simp
          with_reducible rfl
        rotate_left
        · simp only [Act.put, List.setIfInBounds_toArray, List.set_cons_zero, List.set_cons_succ, i64_w, i32_w]
          rfl
        refine pure_ (i := 2) (N := (some 20)) (v := ?_) (a' := ?_) #[true, true, true, false, false, false, false] rfl rfl (any_of HT_.out (by kernel_rfl)) (fun _ _ _ h => h) (Or.inl ⟨by rfl, ?_⟩) ?_ ?_
        rotate_left
        · intro w'
          go_simp
          with_reducible rfl
        rotate_left
        · simp only [Act.put, List.setIfInBounds_toArray, List.set_cons_zero, List.set_cons_succ, i64_w, i32_w]
          rfl
        refine pure_ (i := 3) (N := (some 21)) (v := ?_) (a' := ?_) #[true, true, true, true, false, false, false] rfl rfl (any_of HT_.out (by kernel_rfl)) (fun _ _ _ h => h) (Or.inl ⟨by rfl, ?_⟩) ?_ ?_
        rotate_left
        · intro w'
          go_simp
          with_reducible rfl
        rotate_left
        · simp only [Act.put, List.setIfInBounds_toArray, List.set_cons_zero, List.set_cons_succ, i64_w, i32_w]
          rfl
        refine pure_ (i := 4) (N := (some 22)) (v := ?_) (a' := ?_) #[true, true, true, true, true, false, false] rfl rfl (any_of HT_.out (by kernel_rfl)) (fun _ _ _ h => h) (Or.inl ⟨by rfl, ?_⟩) ?_ ?_
        rotate_left
        · intro w'
          go_simp
          with_reducible rfl
        rotate_left
        · simp only [Act.put, List.setIfInBounds_toArray, List.set_cons_zero, List.set_cons_succ, i64_w, i32_w]
          rfl
        refine one_ (i := 5) (N := (some 23)) #[true, true, true, true, true, true, false] rfl rfl (one_of HT_.out (by kernel_rfl)) (by decide) (fun K hK => ?_)
        refine goes_ Try.func25 (by kernel_rfl) rfl #[.slice A n c, .slice A5 n5 c5, .int .u8 ch] (by rfl) rfl rfl (by simp only [List.map_toArray, List.map_cons, List.map_nil]; rfl) ?_
        refine (HST.out wr.drew (below_drew HB.out)).mono ?_
        rintro e w1_ ⟨v6, rfl, ho6, hb6⟩
        have hb7 := below_step (below_drew HB.out) hb6
        have HO6 := Aside0.mk ho6
        have HB7 := Aside0.mk hb7
        refine ⟨_, rfl, ?_⟩
        refine hK.out _ _ (cell1 (blk_below HBOX.out hb7)) (fun hHeld => ?_)
        clear hK K
        refine norm_ (a' := ?_) ?_ ?_
        rotate_left
        · show Act.put _ (some 23) _ = _
          simp only [Act.put, List.setIfInBounds_toArray, List.set_cons_zero, List.set_cons_succ, i64_w, i32_w]
          rfl
        refine pure_ (i := 6) (N := (some 5)) (v := ?_) (a' := ?_) #[true, true, true, true, true, true, true] rfl rfl (any_of HT_.out (by kernel_rfl)) (fun _ _ _ h => h) (Or.inl ⟨by rfl, ?_⟩) ?_ ?_
        rotate_left
        · intro w'
          go_simp
          with_reducible rfl
        rotate_left
        · simp only [Act.put, List.setIfInBounds_toArray, List.set_cons_zero, List.set_cons_succ, i64_w, i32_w]
          rfl
        refine done_ (done_of HT_.out (by kernel_rfl)) ?_
        obtain ⟨A6, c6, rfl, _, C6⟩ := ints_row HO6.out
        have HC6 := Aside0.mk C6
        clear C6 HO6
        go_wp2_with fail
        go_roundw
        case rel => exact ⟨j + 1, A6, c6, by omega, by go_num, rfl, HC6.out, below_step HB2.out HB7.out⟩
        case measure => simp [intOf]; omega
      · have hjs : j = s.data.toList.length := by rw [HSD.out]; omega
        rw [hjs, List.take_length] at C5 hl5 hr5 ⊢
        have hcf := X.containsFunc_int 27 #[.pointer (some ⟨w.heap.size, 0, none⟩)] (isEnd m) (stateOf m s.data.toList) A5 c5 wr (by omega) C5 ⟨enters_of Try.func27 (by kernel_rfl) rfl, fun x W h hx => isEnd_any x A c m w.heap.size W (by have h2 := Kd.C_below HR.out (below_step (below_step HB3.out hb) h); rw [HN.out] at h2; exact h2) (by rw [← HN.out]; exact blk_below (blk_below HX3.out hb) h) (hr5 x hx).1 (hr5 x hx).2⟩
        rw [← HACC.out] at hcf
        have HCF := Aside0.mk hcf
        have HB := Aside0.mk (below_step HB3.out hb)
        obtain ⟨bb, hbb⟩ : ∃ b, b = acceptsB m s.data.toList := ⟨_, rfl⟩
        have HBB := Aside0.mk hbb
        rw [← hbb] at HCF
        have hj' : s.data.toList.length = s.size := HSD.out
        rw [hj'] at hjs ⊢
        clear hb C5 hl5 hr5 hcf hbb hjl hj'
        subst hjs
        go_wp2_with fail
        refine HCF.out.mono ?_
        rintro e w3 ⟨rfl, hb3⟩
        have HB4 := Aside0.mk (below_step HB.out hb3)
        clear hb3
        go_wp2_with fail
        go_ret
        exact ⟨by rw [HBB.out]; rfl, HB4.out⟩
end Go.Proofs.Ytacnflelkpkbhaa.PA
end
