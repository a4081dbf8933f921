/- Texts of this claim, those that nothing needs left out: Zo5. -/
import Derived.Test.YtacnflelkpkbhaaMcG23
section
namespace Go.Proofs.Ytacnflelkpkbhaa.PA
set_option linter.unusedSimpArgs false
set_option linter.unusedVariables false
open Go.RowKit Go.Maps Go.Proofs.YtacnflelkpkbhaaW.PrintWords Go.Proofs.YtacnflelkpkbhaaW.PrintLast Go.Proofs.YtacnflelkpkbhaaW.PrintMore
theorem int_info1 : (Try.prog.info? 3).map (fun i => (i.zero, i.size, i.bytes)) = some (some (.int .i64 0), 1, 8) := by kernel_rfl
set_option maxHeartbeats 16000000 in
set_option maxRecDepth 100000 in
theorem MachineClose_walk (w : World) {A0 : Option Addr} {c0 : Nat} {l : List S46} (hr0 : Kd.C k46 w A0 l.length l) (hc0 : l.length ≤ c0) (hok : ∀ x ∈ l, okRN x) {A1 : Option Addr} {c1 : Nat} {ta : List Int} (hr1 : Kd.C (Kd.int .i64) w A1 ta.length ta) (hwf : ∀ t ∈ ta, (Lit.int .i64 t).wf = true)
    {A2 : Option Addr} {c2 : Nat} {tb : List Int} (hr2 : Kd.C (Kd.int .i64) w A2 tb.length tb) (hwf2 : ∀ t ∈ tb, (Lit.int .i64 t).wf = true) :
    Calls Try.prog 3 #[.slice A0 l.length c0, .slice A1 ta.length c1, .slice A2 tb.length c2] w fun e W' => e = .returned (.bool true) ∧ Below w.heap.size w W' := by
  obtain ⟨b, hf, hfew⟩ := fewR_any l
  have HF := Aside0.mk hf
  have HFEW := Aside0.mk hfew
  have HR := Aside0.mk hr0
  have HC := Aside0.mk hc0
  have HOK := Aside0.mk hok
  have HR1 := Aside0.mk hr1
  have HWF := Aside0.mk hwf
  have HR2 := Aside0.mk hr2
  have HWF2 := Aside0.mk hwf2
  clear hf hfew hr0 hc0 hok hr1 hwf hr2 hwf2
  obtain ⟨n, hn⟩ : ∃ n, n = l.length := ⟨_, rfl⟩
  have HN := Aside0.mk hn
  obtain ⟨na, hna⟩ : ∃ n, n = ta.length := ⟨_, rfl⟩
  have HNA := Aside0.mk hna
  obtain ⟨nb, hnb⟩ : ∃ n, n = tb.length := ⟨_, rfl⟩
  have HNB := Aside0.mk hnb
  rw [← hn] at HR HC HFEW ⊢
  rw [← hna] at HR1 ⊢
  rw [← hnb] at HR2 ⊢
  clear hn hna hnb
  go_enter Try.func3, Try.ntmps3
  go_wp2_with fail
  refine (awake_walk _).mono ?_
  rintro e w1 ⟨rfl, hb⟩
  have HB := Aside0.mk hb
  clear hb
  go_wp2_with fail
  refine (HFEW.out w1 A0 c0 (by have h := Kd.C_below HR.out HB.out; exact h) HC.out).mono ?_
  rintro e w2 ⟨rfl, hb⟩
  have HB2 := Aside0.mk (below_step HB.out hb)
  clear hb
  cases b with
  | false =>
    go_wp2_with fail
    go_ret
    exact ⟨rfl, HB2.out⟩
  | true =>
    by_cases c1' : na > 100
    · have g1 : ((na : Int) > 100) = True := eq_true (by omega)
      have g2 : ((100 : Int) < (na : Int)) = True := eq_true (by omega)
      have g3 : (100 < na) = True := eq_true (by omega)
      clear c1'
      go_wp2_with fail
      go_ret
      exact ⟨rfl, HB2.out⟩
    have g1 : ((na : Int) > 100) = False := eq_false (by omega)
    have g2 : ((100 : Int) < (na : Int)) = False := eq_false (by omega)
    have g3 : (100 < na) = False := eq_false (by omega)
    by_cases c2' : nb > 100
    · have g4 : ((nb : Int) > 100) = True := eq_true (by omega)
      have g5 : ((100 : Int) < (nb : Int)) = True := eq_true (by omega)
      have g6 : (100 < nb) = True := eq_true (by omega)
      clear c1' c2'
      go_wp2_with fail
      go_ret
      exact ⟨rfl, HB2.out⟩
    have g4 : ((nb : Int) > 100) = False := eq_false (by omega)
    have g5 : ((100 : Int) < (nb : Int)) = False := eq_false (by omega)
    have g6 : (100 < nb) = False := eq_false (by omega)
    have hff := HF.out rfl
    have HRM := Aside0.mk (fun (W : World) (h : Kd.C k46 W A0 n l) => rmay_any l (by omega) hff.2 (W := W) (A := A0) (c := c0) (by rw [← HN.out]; exact h) (by rw [← HN.out]; exact HC.out))
    rw [← HN.out] at HRM
    have HNA100 := Aside0.mk (show na ≤ 100 by omega)
    have HNB100 := Aside0.mk (show nb ≤ 100 by omega)
    have HFF := Aside0.mk hff
    clear HF HFEW hff c1' c2'
    go_wp2_with fail
    refine (HRM.out w2 (Kd.C_below HR.out HB2.out)).mono ?_
    rintro e w3 ⟨rfl, hb⟩
    have HB3 := Aside0.mk (below_step HB2.out hb)
    clear hb HRM
    cases hm : mayB (l.map toN) with
    | false =>
      clear hm
      go_wp2_with fail
      go_ret
      exact ⟨rfl, HB3.out⟩
    | true =>
    have hokm := few_okM HFF.out.2 HOK.out
    have hml : (l.map toN).length = n := by rw [List.length_map]; exact HN.out.symm
    have HMA := Aside0.mk (fun (W : World) (h : Kd.C k46 W A0 n l) => made_any (A0 := A0) (c0 := c0) (l := l) W (by rw [← HN.out]; exact h) (by have := HFF.out.1; omega) (fun x hx => by have := (HFF.out.2 x hx).1; omega))
    rw [← HN.out] at HMA
    have hCLO := fun (A : Option Addr) (c : Nat) (W : World) (B : Option Addr) (d : Nat) (ts : List Int) (h : Kd.C k33 W A n (l.map toN)) (h1 : Kd.C (Kd.int .i64) W B ts.length ts) (hw : ∀ t ∈ ts, (Lit.int .i64 t).wf = true) (hl : ts.length ≤ 1000000) => (Close_any A c (l.map toN) B d ts W (by rw [hml]; exact h) h1 hokm hw hl).mono fun e W' (h : ∃ v, _) => by
      obtain ⟨v, h1, h2, h3⟩ := h
      obtain ⟨A', c', rfl, _, hC⟩ := ints_row h2
      exact (show ∃ A c, e = .returned (.slice A (closeF (l.map toN) ts).length c) ∧ Kd.C (Kd.int .i64) W' A (closeF (l.map toN) ts).length (closeF (l.map toN) ts) ∧ Below W.heap.size W W' from ⟨A', c', h1, hC, h3⟩)
    rw [hml] at hCLO
    have HCLO := Aside0.mk hCLO
    obtain ⟨hp1, hp2⟩ := close_small hm ta
    obtain ⟨hq1, hq2⟩ := close_small hm tb
    obtain ⟨hs1, hs2⟩ := close_small hm (ta ++ tb)
    obtain ⟨hl1, hl2, hl3⟩ := close_lens hm ta tb
    have hcc := close_close hm ta
    have hcb := close_both hm ta tb
    obtain ⟨P, hP⟩ : ∃ P, P = closeF (l.map toN) ta := ⟨_, rfl⟩
    obtain ⟨Q, hQ⟩ : ∃ Q, Q = closeF (l.map toN) tb := ⟨_, rfl⟩
    obtain ⟨R, hR⟩ : ∃ R, R = closeF (l.map toN) (ta ++ tb) := ⟨_, rfl⟩
    rw [← hP] at hp1 hp2 hl1 hl2 hcc hcb
    rw [← hQ] at hq1 hq2 hl1 hl3 hcb
    rw [← hR] at hs1 hs2 hl1 hl2 hl3 hcb
    have HP2 := Aside0.mk hp2
    have HQ2 := Aside0.mk hq2
    obtain ⟨np, hnp⟩ : ∃ n, n = P.length := ⟨_, rfl⟩
    obtain ⟨nq, hnq⟩ : ∃ n, n = Q.length := ⟨_, rfl⟩
    obtain ⟨nr, hnr⟩ : ∃ n, n = R.length := ⟨_, rfl⟩
    have HNP := Aside0.mk hnp
    have HNQ := Aside0.mk hnq
    have HNR := Aside0.mk hnr
    rw [← hnp] at hp1 hl1 hl2
    rw [← hnq] at hq1 hl1 hl3
    rw [← hnr] at hs1 hl1 hl2 hl3
    have hCA := fun (A : Option Addr) (c : Nat) (W : World) (h : Kd.C k33 W A n (l.map toN)) (h1 : Kd.C (Kd.int .i64) W A1 na ta) => HCLO.out A c W A1 c1 ta h (by rw [← HNA.out]; exact h1) HWF.out (by have := HNA.out; have := HNA100.out; omega)
    rw [← HNA.out, ← hP, ← hnp] at hCA
    have HCA := Aside0.mk hCA
    have hCB := fun (A : Option Addr) (c : Nat) (W : World) (h : Kd.C k33 W A n (l.map toN)) (h1 : Kd.C (Kd.int .i64) W A2 nb tb) => HCLO.out A c W A2 c2 tb h (by rw [← HNB.out]; exact h1) HWF2.out (by have := HNB.out; have := HNB100.out; omega)
    rw [← HNB.out, ← hQ, ← hnq] at hCB
    have HCB := Aside0.mk hCB
    have hCC := fun (A : Option Addr) (c : Nat) (W : World) (B : Option Addr) (d : Nat) (h : Kd.C k33 W A n (l.map toN)) (h1 : Kd.C (Kd.int .i64) W B (ta ++ tb).length (ta ++ tb)) => HCLO.out A c W B d (ta ++ tb) h h1 (fun t ht => by rcases List.mem_append.1 ht with h | h; exact HWF.out t h; exact HWF2.out t h) (by have := HNA.out; have := HNA100.out; have := HNB.out; have := HNB100.out; rw [List.length_append]; omega)
    rw [← hR, ← hnr] at hCC
    have HCC := Aside0.mk hCC
    have hCD := fun (A : Option Addr) (c : Nat) (W : World) (B : Option Addr) (d : Nat) (h : Kd.C k33 W A n (l.map toN)) (h1 : Kd.C (Kd.int .i64) W B (P ++ Q).length (P ++ Q)) => HCLO.out A c W B d (P ++ Q) h h1 (fun t ht => by rcases List.mem_append.1 ht with h | h; exact HP2.out t h; exact HQ2.out t h) (by rw [List.length_append, ← hnp, ← hnq]; omega)
    rw [hcb, ← hnr] at hCD
    have HCD := Aside0.mk hCD
    have hCE := fun (A : Option Addr) (c : Nat) (W : World) (B : Option Addr) (d : Nat) (h : Kd.C k33 W A n (l.map toN)) (h1 : Kd.C (Kd.int .i64) W B np P) => HCLO.out A c W B d P h (by rw [← HNP.out]; exact h1) HP2.out (by rw [← HNP.out]; omega)
    rw [hcc, ← hnp] at hCE
    have HCE := Aside0.mk hCE
    have HSP := Aside0.mk (fun (W : World) (A B : Option Addr) (c d : Nat) (h1 : Kd.C (Kd.int .i64) W A np P) (h2 : Kd.C (Kd.int .i64) W B np P) => sameI_any (w := W) (A := A) (B := B) (c := c) (d := d) (l := P) (by rw [← HNP.out]; exact h1) (by rw [← HNP.out]; exact h2) (by rw [← HNP.out]; omega))
    rw [← hnp] at HSP
    have HSR := Aside0.mk (fun (W : World) (A B : Option Addr) (c d : Nat) (h1 : Kd.C (Kd.int .i64) W A nr R) (h2 : Kd.C (Kd.int .i64) W B nr R) => sameI_any (w := W) (A := A) (B := B) (c := c) (d := d) (l := R) (by rw [← HNR.out]; exact h1) (by rw [← HNR.out]; exact h2) (by rw [← HNR.out]; omega))
    rw [← hnr] at HSR
    have f1 : ((nr : Int) ≤ (np : Int) + (nq : Int)) = True := eq_true (by omega)
    have f2 : (nr ≤ np + nq) = True := eq_true (by omega)
    have f3 : (max (np : Int) (nq : Int) ≤ (nr : Int)) = True := eq_true (by omega)
    have f4 : (max np nq ≤ nr) = True := eq_true (by omega)
    have f5 : (np ≤ nr) = True := eq_true hl2
    have f6 : (nq ≤ nr) = True := eq_true hl3
    have f7 : ((np : Int) ≤ (nr : Int)) = True := eq_true (by omega)
    have f8 : ((nq : Int) ≤ (nr : Int)) = True := eq_true (by omega)
    clear hokm hml hCLO hCA hCB hCC hCD hCE hp2 hq2 hs2 hP hQ hR hnp hnq hnr hcc hcb hl1 hl2 hl3 hm
    go_wp2_with fail
    refine (HMA.out w3 (Kd.C_below HR.out HB3.out)).mono ?_
    rintro e w4 ⟨A4, c4, rfl, _, C4, hb⟩
    have HB4 := Aside0.mk (below_step HB3.out hb)
    have HC4 := Aside0.mk C4
    clear hb C4
    go_wp2_with fail
    refine (HCA.out A4 c4 w4 HC4.out (Kd.C_below HR1.out HB4.out)).mono ?_
    rintro e w5 ⟨A5, c5, rfl, C5, hb⟩
    have HB5 := Aside0.mk (below_step HB4.out hb)
    have HC5 := Aside0.mk (Kd.C_below HC4.out hb)
    have HP5 := Aside0.mk C5
    clear hb C5
    go_wp2_with fail
    refine (HCB.out A4 c4 w5 HC5.out (Kd.C_below HR2.out HB5.out)).mono ?_
    rintro e w6 ⟨A6, c6, rfl, C6, hb⟩
    have HB6 := Aside0.mk (below_step HB5.out hb)
    have HC6 := Aside0.mk (Kd.C_below HC5.out hb)
    have HP6 := Aside0.mk (Kd.C_below HP5.out hb)
    have HQ6 := Aside0.mk C6
    clear hb C6
    go_wp2_with (first | (at_builtin; refine print_append_row_of (w0 := w6) (Value.int .i64) (0 : Int) w6.heap.size rfl (.tmp 42) (.tmp 43) 23 3 (.int .i64 0) 8 rfl Try.underlying23 int_info1 rfl (by decide) (fun _ => rfl) _ [] ta _ _ _ rfl rfl ?aO ?aR ?aB ?aS ?aL ?_; (case aO => exact X.own_empty _ _ _); (case aR => exact Kd.reads_of_C (Kd.C_below HR1.out (below_step HB6.out (X.below_new1 _ _)))); (case aB => exact X.below_new1 _ _); (case aS => exact below_size (X.below_new1 _ _)); (case aL => (have e1 := HNA.out; have e2 := HNA100.out; have e3 := HNB.out; have e4 := HNB100.out; have e5 := HNP.out; have e6 := HNQ.out; first | omega | (simp only [List.length_nil]; omega))); intro v_a x_a ho hb hg hat; have HOa := Aside0.mk ho; have HXa := Aside0.mk hb; clear ho hb hg hat) | (at_builtin; refine print_append_row_of (w0 := w6) (Value.int .i64) (0 : Int) w6.heap.size rfl (.tmp 44) (.tmp 45) 23 3 (.int .i64 0) 8 rfl Try.underlying23 int_info1 rfl (by decide) (fun _ => rfl) _ ta tb _ _ _ rfl rfl ?aO ?aR ?aB ?aS ?aL ?_; (case aO => exact HOa.out); (case aR => exact Kd.reads_of_C (Kd.C_below HR2.out (below_step HB6.out HXa.out))); (case aB => exact HXa.out); (case aS => exact HXa.out.size); (case aL => (have e1 := HNA.out; have e2 := HNA100.out; have e3 := HNB.out; have e4 := HNB100.out; have e5 := HNP.out; have e6 := HNQ.out; first | omega | (simp only [List.length_nil]; omega))); intro v_b x_b ho hb hg hat; have HOb := Aside0.mk ho; have HXb := Aside0.mk hb; clear ho hb hg hat))
    have hro7 : ∃ A c, v_b = .slice A (ta ++ tb).length c ∧ (ta ++ tb).length ≤ c ∧ Kd.C (Kd.int .i64) x_b A (ta ++ tb).length (ta ++ tb) := ints_row HOb.out
    obtain ⟨A7, c7, rfl, _, C7⟩ := hro7
    have HBb := Aside0.mk (below_step HB6.out HXb.out)
    have HCb := Aside0.mk (Kd.C_below HC6.out HXb.out)
    refine (HCC.out A4 c4 x_b A7 c7 HCb.out C7).mono ?_
    rintro e w7 ⟨A8, c8, rfl, C8, hb⟩
    have HB7 := Aside0.mk (below_step HBb.out hb)
    have HC7 := Aside0.mk (Kd.C_below HCb.out hb)
    have HP7 := Aside0.mk (Kd.C_below (Kd.C_below HP6.out HXb.out) hb)
    have HQ7 := Aside0.mk (Kd.C_below (Kd.C_below HQ6.out HXb.out) hb)
    have HR7 := Aside0.mk C8
    clear hb C7 C8 HOa HXa HOb HXb HBb HCb
    go_wp2_with (first | (at_builtin; refine print_append_row_of (w0 := w7) (Value.int .i64) (0 : Int) w7.heap.size rfl (.tmp 49) (.tmp 50) 23 3 (.int .i64 0) 8 rfl Try.underlying23 int_info1 rfl (by decide) (fun _ => rfl) _ [] P _ _ _ rfl rfl ?aO ?aR ?aB ?aS ?aL ?_; (case aO => exact X.own_empty _ _ _); (case aR => exact Kd.reads_of_C (Kd.C_below HP7.out (X.below_new1 _ _))); (case aB => exact X.below_new1 _ _); (case aS => exact below_size (X.below_new1 _ _)); (case aL => (have e1 := HNA.out; have e2 := HNA100.out; have e3 := HNB.out; have e4 := HNB100.out; have e5 := HNP.out; have e6 := HNQ.out; first | omega | (simp only [List.length_nil]; omega))); intro v_c x_c ho hb hg hat; have HOc := Aside0.mk ho; have HXc := Aside0.mk hb; clear ho hb hg hat) | (at_builtin; refine print_append_row_of (w0 := w7) (Value.int .i64) (0 : Int) w7.heap.size rfl (.tmp 51) (.tmp 52) 23 3 (.int .i64 0) 8 rfl Try.underlying23 int_info1 rfl (by decide) (fun _ => rfl) _ P Q _ _ _ rfl rfl ?aO ?aR ?aB ?aS ?aL ?_; (case aO => exact HOc.out); (case aR => exact Kd.reads_of_C (Kd.C_below HQ7.out HXc.out)); (case aB => exact HXc.out); (case aS => exact HXc.out.size); (case aL => (have e1 := HNA.out; have e2 := HNA100.out; have e3 := HNB.out; have e4 := HNB100.out; have e5 := HNP.out; have e6 := HNQ.out; first | omega | (simp only [List.length_nil]; omega))); intro v_d x_d ho hb hg hat; have HOd := Aside0.mk ho; have HXd := Aside0.mk hb; clear ho hb hg hat))
    have hro8 : ∃ A c, v_d = .slice A (P ++ Q).length c ∧ (P ++ Q).length ≤ c ∧ Kd.C (Kd.int .i64) x_d A (P ++ Q).length (P ++ Q) := ints_row HOd.out
    obtain ⟨A9, c9, rfl, _, C9⟩ := hro8
    have HBd := Aside0.mk (below_step HB7.out HXd.out)
    have HCd := Aside0.mk (Kd.C_below HC7.out HXd.out)
    refine (HCD.out A4 c4 x_d A9 c9 HCd.out C9).mono ?_
    rintro e w8 ⟨A10, c10, rfl, C10, hb⟩
    have HB8 := Aside0.mk (below_step HBd.out hb)
    have HC8 := Aside0.mk (Kd.C_below HCd.out hb)
    have HP8 := Aside0.mk (Kd.C_below (Kd.C_below HP7.out HXd.out) hb)
    have HR8 := Aside0.mk (Kd.C_below (Kd.C_below HR7.out HXd.out) hb)
    have HS8 := Aside0.mk C10
    clear hb C9 C10 HOc HXc HOd HXd HBd HCd
    go_wp2_with fail
    refine (HCE.out A4 c4 w8 A5 c5 HC8.out HP8.out).mono ?_
    rintro e w9 ⟨A11, c11, rfl, C11, hb⟩
    have HB9 := Aside0.mk (below_step HB8.out hb)
    have HP9 := Aside0.mk (Kd.C_below HP8.out hb)
    have HR9 := Aside0.mk (Kd.C_below HR8.out hb)
    have HS9 := Aside0.mk (Kd.C_below HS8.out hb)
    have HT9 := Aside0.mk C11
    clear hb C11
    go_wp2_with fail
    refine (HSP.out w9 A11 A5 c11 c5 HT9.out HP9.out).mono ?_
    rintro e w10 ⟨rfl, hb⟩
    have HB10 := Aside0.mk (below_step HB9.out hb)
    have HR10 := Aside0.mk (Kd.C_below HR9.out hb)
    have HS10 := Aside0.mk (Kd.C_below HS9.out hb)
    clear hb
    go_wp2_with fail
    refine (HSR.out w10 A8 A10 c8 c10 HR10.out HS10.out).mono ?_
    rintro e w11 ⟨rfl, hb⟩
    have HB11 := Aside0.mk (below_step HB10.out hb)
    clear hb
    go_wp2_with fail
    go_ret
    exact ⟨rfl, HB11.out⟩
end Go.Proofs.Ytacnflelkpkbhaa.PA
end
