/- Texts of this claim, those that nothing needs left out: Zn2. -/
import Derived.Test.YtacnflelkpkbhaaMtG2
import Derived.Test.YtacnflelkpkbhaaMtG4
import Derived.Test.YtacnflelkpkbhaaMtG11
section
namespace Go.Proofs.Ytacnflelkpkbhaa.PA
set_option linter.unusedSimpArgs false
set_option linter.unusedVariables false
open Go.RowKit Go.Maps Go.Proofs.YtacnflelkpkbhaaW.PrintWords Go.Proofs.YtacnflelkpkbhaaW.PrintLast Go.Proofs.YtacnflelkpkbhaaW.PrintMore
theorem addF_not {m : List S33} {L : List Nat} {t : Int} (h : ¬ (0 ≤ t ∧ t < (m.length : Int) ∧ t.toNat ∉ L)) : ∀ d, addF m d L t = L
  | 0 => rfl
  | d + 1 => by unfold addF; rw [if_neg h]
theorem addF_fold {m : List S33} (hm : mayB m = true) (d i : Nat) (hd : m.length ≤ i + 1 + d) : ∀ (F : List Int) (R : List Nat), (∀ t ∈ F, t ∈ frees m i) → okL m R → CL m (i + 1) R → okL m (F.foldl (addF m d) R) ∧ CL m (i + 1) (F.foldl (addF m d) R)
  | [], R, _, a, b => ⟨a, b⟩
  | t :: F, R, hF, a, b => by
    rw [List.foldl_cons]
    obtain ⟨u1, u2⟩ := frees_up hm (hF t (List.mem_cons_self ..))
    obtain ⟨a1, a2, a3, a4, a5⟩ := addF_spec hm d R t (by omega) a (fun y hy hk => b y hy (by omega))
    refine addF_fold hm d i hd F _ (fun x hx => hF x (List.mem_cons_of_mem _ hx)) a1 (fun y hy hk z hz => ?_)
    rcases a4 y hy with h | ⟨_, h⟩
    · exact a3 _ (b y h hk z hz)
    · exact a2 y hy (h.le hm) z hz
theorem wf_small {t : Int} (h0 : 0 ≤ t) (h1 : t < 1000000000) : (Lit.int .i64 t).wf = true := by
  simp only [Lit.wf, Bool.and_eq_true, decide_eq_true_eq]
  have e1 : IntKind.i64.min = -9223372036854775808 := rfl
  have e2 : IntKind.i64.max = 9223372036854775807 := rfl
  rw [e1, e2]
  omega
theorem grown_alloc1 {W : World} (o : Obj) (r : Option Nat) : W.grownBy (W.alloc o) r := World.grownBy_alloc W o r
set_option maxHeartbeats 4000000 in
set_option maxRecDepth 100000 in
theorem add_not (A : Option Addr) (c n : Nat) (b : Nat) (L : List Nat) (t0 : Int) (W : World) (hwf : (Lit.int .i64 t0).wf = true) (him : X.IM W b L) (hnot : ¬ (0 ≤ t0 ∧ t0 < (n : Int) ∧ t0.toNat ∉ L)) :
    Calls Try.prog 30 #[.map (some b), .slice A n c, .int .i64 t0] W fun e W' => e = .returned (.tuple #[]) ∧ X.IM W' b L ∧ W.grownBy W' (some b) := by
  have hlook := X.im_look him t0 hwf
  have hth : decide (∃ i ∈ L, (i : Int) = t0) = false → t0 < 0 ∨ (n : Int) ≤ t0 := fun h => by
    have h1 := of_decide_eq_false h
    rcases Int.lt_or_le t0 0 with h2 | h2
    · exact .inl h2
    · rcases Int.lt_or_le t0 (n : Int) with h3 | h3
      · exact absurd ⟨h2, h3, fun h4 => h1 ⟨t0.toNat, h4, by omega⟩⟩ hnot
      · exact .inr h3
  have HIM := Aside0.mk him
  clear him hnot
  generalize decide (∃ i ∈ L, (i : Int) = t0) = th at hlook hth
  cases th with
  | true =>
    clear hth
    go_enter Try.func30, Try.ntmps30
    go_wp2_with fail
    exact bodyPost_ret (v := .tuple #[]) (by simp [results, Try.results30, go_sem]) rfl ⟨rfl, HIM.out.alloc _, grown_alloc1 _ _⟩
  | false =>
    rcases hth rfl with h | h
    · have g1 : (t0 < 0) = True := eq_true h
      clear hth h
      go_enter Try.func30, Try.ntmps30
      go_wp2_with fail
      exact bodyPost_ret (v := .tuple #[]) (by simp [results, Try.results30, go_sem]) rfl ⟨rfl, HIM.out.alloc _, grown_alloc1 _ _⟩
    · have g1 : (t0 < 0) = False := eq_false (by omega)
      have g2 : ((n : Int) ≤ t0) = True := eq_true h
      have g3 : (t0 ≥ (n : Int)) = True := eq_true h
      clear hth h
      go_enter Try.func30, Try.ntmps30
      go_wp2_with fail
      exact bodyPost_ret (v := .tuple #[]) (by simp [results, Try.results30, go_sem]) rfl ⟨rfl, HIM.out.alloc _, grown_alloc1 _ _⟩
set_option maxHeartbeats 16000000 in
set_option maxRecDepth 100000 in
theorem add_any {w0 : World} {A : Option Addr} {c : Nat} {m : List S33} (hr : Kd.C k33 w0 A m.length m) (hmay : mayB m = true) (hok : okM m) (b : Nat) (hb0 : w0.heap.size ≤ b) :
    ∀ (d : Nat) (L : List Nat) (t0 : Int) (W : World), m.length ≤ t0.toNat + d → (Lit.int .i64 t0).wf = true → okL m L → CL m t0.toNat L → Below w0.heap.size w0 W → X.IM W b L →
    Calls Try.prog 30 #[.map (some b), .slice A m.length c, .int .i64 t0] W fun e W' => e = .returned (.tuple #[]) ∧ X.IM W' b (addF m d L t0) ∧ W.grownBy W' (some b) := by
  intro d
  induction d with
  | zero =>
    intro L t0 W hd hwf ho hc hbel him
    have hnot : ¬ (0 ≤ t0 ∧ t0 < (m.length : Int) ∧ t0.toNat ∉ L) := by omega
    rw [addF_not hnot]
    exact add_not A c m.length b L t0 W hwf him hnot
  | succ d ih =>
    intro L t0 W hd hwf ho hc hbel him
    by_cases hin : 0 ≤ t0 ∧ t0 < (m.length : Int) ∧ t0.toNat ∉ L
    · have hF : addF m (d + 1) L t0 = (frees m t0.toNat).foldl (addF m d) (t0.toNat :: L) := by conv => lhs; unfold addF; rw [if_pos hin]
      rw [hF]
      obtain ⟨h0, h1, h2⟩ := hin
      obtain ⟨i, rfl⟩ := Int.eq_ofNat_of_zero_le h0
      rw [Int.toNat_natCast] at *
      have hil : i < m.length := by omega
      have hlook := X.im_look him (i : Int) hwf
      rw [show decide (∃ j ∈ L, (j : Int) = (i : Int)) = false from decide_eq_false (by rintro ⟨j, hj, e⟩; obtain rfl : j = i := (by omega); exact h2 hj)] at hlook
      obtain ⟨W1, hput, him1, hg1⟩ := X.im_put (him.alloc (.cells #[] 63)) i hwf (by have := ho.len; have := (mayB_iff.1 hmay).1.2; unfold maxLen; omega) h2
      obtain ⟨ad, A1, c1, A2, c2, hA, q0, q1, q2, q3, q4, l1, gg1, l2, gg2⟩ := at_T33 hr (i : Int) (by omega) (by omega)
      rw [Int.toNat_natCast, rdn_at m i hil] at q0 q2 q4
      rw [rdn_at m i hil] at l2 gg2
      have hx2 := (hok _ (List.getElem_mem hil)).2.1
      have hfr : frees m i = m[i].f2 ++ (if m[i].f0 = 3 then [m[i].f4] else []) := by unfold frees; rw [List.getElem?_eq_getElem hil]
      obtain ⟨x, hx⟩ : ∃ x, x = m[i] := ⟨_, rfl⟩
      rw [← hx] at q0 q2 q4 l2 gg2 hx2 hfr
      have hgw : W.grownBy W1 (some b) := World.grownBy.trans (grown_alloc1 _ _) hg1
      have hbW1 : Below w0.heap.size w0 W1 := hbel.grown hgw hbel.size (fun k e => by injection e with e; omega)
      have r0 := addr_keep hbW1 q0
      have r2 := addr_keep hbW1 q2
      have hok1 : okL m (i :: L) := ⟨List.nodup_cons.2 ⟨h2, ho.1⟩, fun y hy => by rcases List.mem_cons.1 hy with rfl | hy; exact hil; exact ho.2 y hy⟩
      have hcl1 : CL m (i + 1) (i :: L) := fun y hy hk z hz => by
        rcases List.mem_cons.1 hy with rfl | hy
        · omega
        · exact List.mem_cons_of_mem _ (hc y hy (by omega) z hz)
      have IH := Aside0.mk ih
      have HR := Aside0.mk hr
      have HMAY := Aside0.mk hmay
      have HOK1 := Aside0.mk hok1
      have HCL1 := Aside0.mk hcl1
      have HFR := Aside0.mk hfr
      have HIM1 := Aside0.mk him1
      have HGW := Aside0.mk hgw
      have HBW1 := Aside0.mk hbW1
      have HBEL := Aside0.mk hbel
      have G2 := Aside0.mk gg2
      have Q0 := Aside0.mk q0
      have Q4 := Aside0.mk q4
      have HD := Aside0.mk hd
      obtain ⟨n, hn⟩ : ∃ n, n = m.length := ⟨_, rfl⟩
      have HN := Aside0.mk hn
      have hn1 : n ≤ 100000 := by rw [hn]; exact (mayB_iff.1 hmay).1.2
      rw [← hn] at h1 ⊢
      have g1 : ((i : Int) < 0) = False := eq_false (by omega)
      have g2 : ((n : Int) ≤ (i : Int)) = False := eq_false (by omega)
      have g3 : ((i : Int) ≥ (n : Int)) = False := eq_false (by omega)
      have g4 : (n ≤ i) = False := eq_false (by omega)
      subst hA
      clear ih hr hmay hok ho hc hbel him hn h2 hok1 hcl1 hfr him1 hgw hbW1 hg1 gg1 gg2 l1 q0 q1 q2 q3 q4 hF hx l2 hd
      go_enter Try.func30, Try.ntmps30
      go_wp2_with fail
      obtain ⟨n2, hn2⟩ : ∃ n, n = x.f2.length := ⟨_, rfl⟩
      have HN2 := Aside0.mk hn2
      rw [← hn2] at hx2 ⊢
      clear hn2
      go_loopw [36] (fun v36 wr => ∃ j : Nat, j ≤ n2 ∧ v36 = .int .i64 (j : Int) ∧ X.IM wr b ((x.f2.take j).foldl (addF m d) (i :: L)) ∧ W.grownBy wr (some b)) (fun v36 _ => (n2 - intOf v36).toNat)
      case atStart => exact ⟨0, Nat.zero_le _, rfl, HIM1.out, HGW.out⟩
      case round =>
        obtain ⟨j, hj, rfl, him, hgr⟩ := hrel
        have hbr : Below w0.heap.size w0 wr := HBEL.out.grown hgr HBEL.out.size (fun k e => by injection e with e; omega)
        by_cases hjl : j < n2
        · have hj2 : j < x.f2.length := by rw [← HN2.out]; exact hjl
          obtain ⟨ad2, hA2, hc2⟩ := X.C_cell1 (Kd.C_below G2.out hbr) j hj2
          obtain ⟨t, ht⟩ : ∃ t, t = x.f2[j] := ⟨_, rfl⟩
          rw [← ht] at hc2
          have htk : (x.f2.take (j + 1)).foldl (addF m d) (i :: L) = addF m d ((x.f2.take j).foldl (addF m d) (i :: L)) t := by
            rw [List.take_succ_eq_append_getElem hj2, List.foldl_append, ← ht]
            rfl
          have hsub : ∀ z ∈ x.f2, z ∈ frees m i := fun z hz => by rw [HFR.out]; exact List.mem_append_left _ hz
          obtain ⟨o1, o2⟩ := addF_fold HMAY.out d i (by have := HD.out; omega) (x.f2.take j) (i :: L) (fun z hz => hsub z (List.mem_of_mem_take hz)) HOK1.out HCL1.out
          obtain ⟨u1, u2⟩ := frees_up HMAY.out (hsub t (by rw [ht]; exact List.getElem_mem hj2))
          have hgo := IH.out _ t wr (by have := HD.out; omega) (wf_small (by omega) (by have := HN.out; omega)) o1 (fun y hy hk => o2 y hy (by omega)) hbr him
          rw [← HN.out, ← htk] at hgo
          have HGO := Aside0.mk hgo
          have HGR := Aside0.mk hgr
          subst hA2
          clear him hgr hbr ht htk hsub o1 o2 u1 u2 hgo hj2
          go_wp2_with fail
          refine HGO.out.mono ?_
          rintro e w3 ⟨rfl, him3, hg3⟩
          have HIM3 := Aside0.mk him3
          have HG3 := Aside0.mk (World.grownBy.trans HGR.out hg3)
          clear him3 hg3
          go_wp2_with fail
          go_roundw
          case rel => exact ⟨j + 1, by omega, by go_num, HIM3.out, HG3.out⟩
          case measure => simp [intOf]; omega
        · obtain rfl : n2 = j := by omega
          rw [HN2.out, List.take_length] at him
          have r0 := addr_keep hbr Q0.out
          have r4 := addr_keep hbr Q4.out
          have HIMR := Aside0.mk him
          have HGR := Aside0.mk hgr
          have HBR := Aside0.mk hbr
          clear him hgr hbr
          by_cases h3 : x.f0 = 3
          · have hff : frees m i = x.f2 ++ [x.f4] := by rw [HFR.out, if_pos h3]
            have hsub : ∀ z ∈ x.f2, z ∈ frees m i := fun z hz => by rw [hff]; exact List.mem_append_left _ hz
            obtain ⟨o1, o2⟩ := addF_fold HMAY.out d i (by have := HD.out; omega) x.f2 (i :: L) hsub HOK1.out HCL1.out
            obtain ⟨u1, u2⟩ := frees_up HMAY.out (show x.f4 ∈ frees m i by rw [hff]; simp)
            have hgo := IH.out _ x.f4 wr (by have := HD.out; omega) (wf_small (by omega) (by have := HN.out; omega)) o1 (fun y hy hk => o2 y hy (by omega)) HBR.out HIMR.out
            rw [← HN.out] at hgo
            have HFF := Aside0.mk hff
            have HGO := Aside0.mk hgo
            have f3 : (x.f0 == 3) = true := beq_iff_eq.mpr h3
            clear h3 hff hsub o1 o2 u1 u2 hgo
            go_wp2_with fail
            refine HGO.out.mono ?_
            rintro e w3 ⟨rfl, him3, hg3⟩
            have HIM3 := Aside0.mk him3
            have HG3 := Aside0.mk (World.grownBy.trans HGR.out hg3)
            clear him3 hg3
            go_wp2_with fail
            go_end0
            exact ⟨rfl, by rw [HFF.out, List.foldl_append]; exact HIM3.out, HG3.out⟩
          · have hff : frees m i = x.f2 := by rw [HFR.out, if_neg h3, List.append_nil]
            have HFF := Aside0.mk hff
            have f3 : (x.f0 == 3) = false := beq_eq_false_iff_ne.mpr h3
            clear h3 hff
            go_wp2_with fail
            go_end0
            exact ⟨rfl, by rw [HFF.out]; exact HIMR.out, HGR.out⟩
    · rw [addF_not hin]
      exact add_not A c m.length b L t0 W hwf him hin
end Go.Proofs.Ytacnflelkpkbhaa.PA
end
