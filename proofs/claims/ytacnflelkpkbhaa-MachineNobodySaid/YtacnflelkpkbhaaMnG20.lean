/- Texts of this claim, those that nothing needs left out: Zo3. -/
import Derived.Test.YtacnflelkpkbhaaMnG19
section
namespace Go.Proofs.Ytacnflelkpkbhaa.PA
set_option linter.unusedSimpArgs false
set_option linter.unusedVariables false
open Go.RowKit Go.Maps Go.Proofs.YtacnflelkpkbhaaW.PrintWords Go.Proofs.YtacnflelkpkbhaaW.PrintLast Go.Proofs.YtacnflelkpkbhaaW.PrintMore
theorem close_not {m : List S33} (h : mayB m = false) (ts : List Int) : closeF m ts = [] := by unfold closeF; rw [if_neg (by rw [h]; simp)]
theorem step_not {m : List S33} (h : mayB m = false) (ts : List Int) (ch : Int) : stepF m ts ch = [] := by unfold stepF; rw [if_neg (by rw [h]; simp)]
theorem accepts_not {m : List S33} (h : mayB m = false) (s : List UInt8) : acceptsB m s = false := by unfold acceptsB; rw [h]; rfl
set_option maxHeartbeats 16000000 in
set_option maxRecDepth 100000 in
theorem MachineNobody_walk (w : World) {A0 : Option Addr} {c0 : Nat} {l : List S46} (hr0 : Kd.C k46 w A0 l.length l) (hc0 : l.length ≤ c0) (hok : ∀ x ∈ l, okRN x) {A1 : Option Addr} {c1 : Nat} {ts : List Int} (hr1 : Kd.C (Kd.int .i64) w A1 ts.length ts) (hwf : ∀ t ∈ ts, (Lit.int .i64 t).wf = true) (s : ByteArray) :
    Calls Try.prog 8 #[.slice A0 l.length c0, .slice A1 ts.length c1, .string s] w fun e W' => e = .returned (.bool true) ∧ Below w.heap.size w W' := by
  obtain ⟨b, hf, hfew⟩ := fewR_any l
  have HF := Aside0.mk hf
  have HFEW := Aside0.mk hfew
  have HR := Aside0.mk hr0
  have HC := Aside0.mk hc0
  have HOK := Aside0.mk hok
  have HR1 := Aside0.mk hr1
  have HWF := Aside0.mk hwf
  clear hf hfew hr0 hc0 hok hr1 hwf
  obtain ⟨n, hn⟩ : ∃ n, n = l.length := ⟨_, rfl⟩
  have HN := Aside0.mk hn
  obtain ⟨n1, hn1⟩ : ∃ n, n = ts.length := ⟨_, rfl⟩
  have HN1 := Aside0.mk hn1
  rw [← hn] at HR HC HFEW ⊢
  rw [← hn1] at HR1 ⊢
  clear hn hn1
  go_enter Try.func8, Try.ntmps8
  go_wp2_with fail
  refine (awake_walk _).mono ?_
  rintro e w1 ⟨rfl, hb⟩
  have HB := Aside0.mk hb
  clear hb
  go_wp2_with fail
  refine (HFEW.out w1 A0 c0 (by have h := Kd.C_below HR.out HB.out; exact h) HC.out).mono ?_
  rintro e w2 ⟨rfl, hb⟩
  have HB2 := Aside0.mk (below_step HB.out hb)
  clear hb
  cases b with
  | false =>
    go_wp2_with fail
    go_ret
    exact ⟨rfl, HB2.out⟩
  | true =>
    by_cases c1' : n1 > 100
    · have g1 : ((n1 : Int) > 100) = True := eq_true (by omega)
      have g2 : ((100 : Int) < (n1 : Int)) = True := eq_true (by omega)
      have g3 : (100 < n1) = True := eq_true (by omega)
      clear c1'
      go_wp2_with fail
      go_ret
      exact ⟨rfl, HB2.out⟩
    have g1 : ((n1 : Int) > 100) = False := eq_false (by omega)
    have g2 : ((100 : Int) < (n1 : Int)) = False := eq_false (by omega)
    have g3 : (100 < n1) = False := eq_false (by omega)
    by_cases c2' : s.size > 200
    · have g4 : ((s.size : Int) > 200) = True := eq_true (by omega)
      have g5 : ((200 : Int) < (s.size : Int)) = True := eq_true (by omega)
      have g6 : (200 < s.size) = True := eq_true (by omega)
      clear c1' c2'
      go_wp2_with fail
      go_ret
      exact ⟨rfl, HB2.out⟩
    have g4 : ((s.size : Int) > 200) = False := eq_false (by omega)
    have g5 : ((200 : Int) < (s.size : Int)) = False := eq_false (by omega)
    have g6 : (200 < s.size) = False := eq_false (by omega)
    have hff := HF.out rfl
    have hn60 : n ≤ 60 := by rw [HN.out]; exact hff.1
    have HMADE := Aside0.mk (fun (W : World) (h : Kd.C k46 W A0 n l) => made_own (A0 := A0) (c0 := c0) (l := l) W (by rw [← HN.out]; exact h) (by rw [← HN.out]; omega) (fun x hx => by have := (hff.2 x hx).1; omega))
    have hokm := okM_snoc (few_okM hff.2 HOK.out) 0
    have hmay := snoc_may (l.map toN) 0
    have HMAY := Aside0.mk (fun (W : World) (A : Option Addr) (c : Nat) (h : Kd.C k33 W A (l.map toN ++ [(⟨3, [], [], 0, 0⟩ : S33)]).length (l.map toN ++ [(⟨3, [], [], 0, 0⟩ : S33)])) => (may_any A c _ W h hokm).mono fun e W' (h : _ ∧ _) => (show e = .returned (.bool false) ∧ Below W.heap.size W W' from ⟨by rw [h.1, hmay], h.2⟩))
    have HACC := Aside0.mk (fun (W : World) (A : Option Addr) (c : Nat) (h : Kd.C k33 W A (l.map toN ++ [(⟨3, [], [], 0, 0⟩ : S33)]).length (l.map toN ++ [(⟨3, [], [], 0, 0⟩ : S33)])) => (Accepts_any A c _ s W h hokm (by omega)).mono fun e W' (h : _ ∧ _) => (show e = .returned (.bool false) ∧ Below W.heap.size W W' from ⟨by rw [h.1, accepts_not hmay], h.2⟩))
    have HCLO := Aside0.mk (fun (W : World) (A : Option Addr) (c : Nat) (h : Kd.C k33 W A (l.map toN ++ [(⟨3, [], [], 0, 0⟩ : S33)]).length (l.map toN ++ [(⟨3, [], [], 0, 0⟩ : S33)])) (h1 : Kd.C (Kd.int .i64) W A1 n1 ts) => (Close_any A c _ A1 c1 ts W h (by rw [← HN1.out]; exact h1) hokm HWF.out (by have := HN1.out; omega)).mono fun e W' (h : ∃ v, _) => by
      obtain ⟨v, h1, h2, h3⟩ := h
      rw [close_not hmay] at h2
      obtain ⟨A, c, rfl, _, _⟩ := ints_row h2
      exact (show ∃ A c, e = .returned (.slice A 0 c) ∧ Below W.heap.size W W' from ⟨A, c, h1, h3⟩))
    have HSTE := Aside0.mk (fun (W : World) (A : Option Addr) (c : Nat) (ch : Int) (h : Kd.C k33 W A (l.map toN ++ [(⟨3, [], [], 0, 0⟩ : S33)]).length (l.map toN ++ [(⟨3, [], [], 0, 0⟩ : S33)])) (h1 : Kd.C (Kd.int .i64) W A1 n1 ts) => (Step_any A c _ A1 c1 ts ch W h (by rw [← HN1.out]; exact h1) hokm (by have := HN1.out; omega)).mono fun e W' (h : ∃ v, _) => by
      obtain ⟨v, h1, h2, h3⟩ := h
      rw [step_not hmay] at h2
      obtain ⟨A, c, rfl, _, _⟩ := ints_row h2
      exact (show ∃ A c, e = .returned (.slice A 0 c) ∧ Below W.heap.size W W' from ⟨A, c, h1, h3⟩))
    rw [← HN1.out] at HCLO HSTE
    have HNM := Aside0.mk (fun (W : World) => (may_any none 0 [] W (X.C_nil _ _) (fun x hx => by cases hx)).mono fun e W' (h : _ ∧ _) => (show e = .returned (.bool false) ∧ Below W.heap.size W W' from ⟨by rw [h.1]; rfl, h.2⟩))
    have HNA := Aside0.mk (fun (W : World) => (Accepts_any none 0 [] s W (X.C_nil _ _) (fun x hx => by cases hx) (by omega)).mono fun e W' (h : _ ∧ _) => (show e = .returned (.bool false) ∧ Below W.heap.size W W' from ⟨by rw [h.1]; rfl, h.2⟩))
    have HN60 := Aside0.mk hn60
    rw [← HN.out] at HMADE
    clear hff hn60 HF HFEW hokm hmay c1' c2'
    go_wp2_with fail
    refine (HMADE.out w2 (Kd.C_below HR.out HB2.out)).mono ?_
    rintro e w3 ⟨v3, inner, rfl, ho, hr, hb⟩
    have HB3 := Aside0.mk (below_step HB2.out hb)
    have HO := Aside0.mk ho
    have HREPS := Aside0.mk hr
    have HB23 := Aside0.mk hb
    clear ho hr hb
    go_wp2_with (at_builtin; refine print_append_cells (w0 := w2) w2.heap.size rfl (.tmp 25) (.tmp 27) 26 33 (.agg #[.int .i64 0, .slice none 0 0, .slice none 0 0, .int .i64 0, .int .i64 0]) 5 72 rfl Try.underlying26 node_info2 rfl (by decide) (by decide) v3 n inner [.int .i64 3, .slice none 0 0, .slice none 0 0, .int .i64 0, .int .i64 0] rfl rfl rfl (by simp [Value.oneCell']) HO.out HB23.out HB23.out.size (by have := HN60.out; omega) ?_; intro v4 w4 q1 q2 q3 q4; have Q1 := Aside0.mk q1; have Q2 := Aside0.mk q2; have Q3 := Aside0.mk q3; clear q1 q2 q3 q4)
    obtain ⟨A4, c4, h4, l4, C4⟩ := made_snoc (x := ⟨3, [], [], 0, 0⟩) rfl rfl (by rw [← HN.out]; exact HO.out) HREPS.out Q2.out (by rw [← HN.out]; exact Q1.out) Q3.out
    subst h4
    have HB4 := Aside0.mk (below_step HB2.out Q2.out)
    have HC4 := Aside0.mk C4
    obtain ⟨mn, hmn⟩ : ∃ m, m = (l.map toN ++ [(⟨3, [], [], 0, 0⟩ : S33)]).length := ⟨_, rfl⟩
    rw [← hmn] at HC4 HMAY HACC HCLO HSTE ⊢
    clear l4 C4 hmn HO HREPS Q1 Q2 Q3 HMADE
    refine (HMAY.out w4 A4 c4 HC4.out).mono ?_
    rintro e w5 ⟨rfl, hb⟩
    have HB5 := Aside0.mk (below_step HB4.out hb)
    have HC5 := Aside0.mk (Kd.C_below HC4.out hb)
    clear hb
    go_wp2_with fail
    refine (HACC.out w5 A4 c4 HC5.out).mono ?_
    rintro e w6 ⟨rfl, hb⟩
    have HB6 := Aside0.mk (below_step HB5.out hb)
    have HC6 := Aside0.mk (Kd.C_below HC5.out hb)
    clear hb
    go_wp2_with fail
    refine (HCLO.out w6 A4 c4 HC6.out (Kd.C_below HR1.out HB6.out)).mono ?_
    rintro e w7 ⟨A7, c7, rfl, hb⟩
    have HB7 := Aside0.mk (below_step HB6.out hb)
    have HC7 := Aside0.mk (Kd.C_below HC6.out hb)
    clear hb
    go_wp2_with fail
    refine (HSTE.out w7 A4 c4 97 HC7.out (Kd.C_below HR1.out HB7.out)).mono ?_
    rintro e w8 ⟨A8, c8, rfl, hb⟩
    have HB8 := Aside0.mk (below_step HB7.out hb)
    clear hb
    go_wp2_with fail
    refine (HNM.out w8).mono ?_
    rintro e w9 ⟨rfl, hb⟩
    have HB9 := Aside0.mk (below_step HB8.out hb)
    clear hb
    go_wp2_with fail
    refine (HNA.out w9).mono ?_
    rintro e w10 ⟨rfl, hb⟩
    have HB10 := Aside0.mk (below_step HB9.out hb)
    clear hb
    go_wp2_with fail
    go_ret
    exact ⟨rfl, HB10.out⟩
end Go.Proofs.Ytacnflelkpkbhaa.PA
end
