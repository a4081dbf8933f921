/- Texts of this claim, those that nothing needs left out: Zo9. -/
import Derived.Test.YtacnflelkpkbhaaMlG24
section
namespace Go.Proofs.Ytacnflelkpkbhaa.PA
set_option linter.unusedSimpArgs false
set_option linter.unusedVariables false
open Go.RowKit Go.Maps Go.Proofs.YtacnflelkpkbhaaW.PrintWords Go.Proofs.YtacnflelkpkbhaaW.PrintLast Go.Proofs.YtacnflelkpkbhaaW.PrintMore
theorem data_inj {s t : ByteArray} (h : s.data.toList = t.data.toList) : s = t := ByteArray.ext (Array.ext' h)
set_option maxHeartbeats 16000000 in
set_option maxRecDepth 100000 in
theorem MachineLine_walk (w : World) (s t : ByteArray) :
    Calls Try.prog 5 #[.string s, .string t] w fun e W' => e = .returned (.bool true) ∧ Below w.heap.size w W' := by
  go_enter Try.func5, Try.ntmps5
  go_wp2_with fail
  refine (awake_walk _).mono ?_
  rintro e w1 ⟨rfl, hb⟩
  have HB := Aside0.mk hb
  clear hb
  by_cases c1' : s.size > 100
  · have g1 : ((s.size : Int) > 100) = True := eq_true (by omega)
    have g2 : ((100 : Int) < (s.size : Int)) = True := eq_true (by omega)
    have g3 : (100 < s.size) = True := eq_true (by omega)
    clear c1'
    go_wp2_with fail
    go_ret
    exact ⟨rfl, HB.out⟩
  have g1 : ((s.size : Int) > 100) = False := eq_false (by omega)
  have g2 : ((100 : Int) < (s.size : Int)) = False := eq_false (by omega)
  have g3 : (100 < s.size) = False := eq_false (by omega)
  by_cases c2' : t.size > 200
  · have g4 : ((t.size : Int) > 200) = True := eq_true (by omega)
    have g5 : ((200 : Int) < (t.size : Int)) = True := eq_true (by omega)
    have g6 : (200 < t.size) = True := eq_true (by omega)
    clear c1' c2'
    go_wp2_with fail
    go_ret
    exact ⟨rfl, HB.out⟩
  have g4 : ((t.size : Int) > 200) = False := eq_false (by omega)
  have g5 : ((200 : Int) < (t.size : Int)) = False := eq_false (by omega)
  have g6 : (200 < t.size) = False := eq_false (by omega)
  have hsd : s.data.toList.length = s.size := Array.length_toList
  have hl1000 : s.data.toList.length ≤ 1000 := by omega
  have HLI := Aside0.mk (fun (W : World) => line_any s W (by omega))
  have HMAY := Aside0.mk (fun (W : World) (A : Option Addr) (c : Nat) (h : Kd.C k33 W A (lineM s.data.toList).length (lineM s.data.toList)) => (may_any A c _ W h (line_ok _)).mono fun e W' (h : _ ∧ _) => (show e = .returned (.bool true) ∧ Below W.heap.size W W' from ⟨by rw [h.1, line_may _ hl1000], h.2⟩))
  have HACS := Aside0.mk (fun (W : World) (A : Option Addr) (c : Nat) (h : Kd.C k33 W A (lineM s.data.toList).length (lineM s.data.toList)) => (Accepts_any A c _ s W h (line_ok _) (by omega)).mono fun e W' (h : _ ∧ _) => (show e = .returned (.bool true) ∧ Below W.heap.size W W' from ⟨by rw [h.1, line_accepts _ _ hl1000, decide_eq_true rfl], h.2⟩))
  have HACT := Aside0.mk (fun (W : World) (A : Option Addr) (c : Nat) (h : Kd.C k33 W A (lineM s.data.toList).length (lineM s.data.toList)) => (Accepts_any A c _ t W h (line_ok _) (by omega)).mono fun e W' (h : _ ∧ _) => (show e = .returned (.bool (decide (s = t))) ∧ Below W.heap.size W W' from ⟨by rw [h.1, line_accepts _ _ hl1000]; congr 2; exact decide_eq_decide.2 ⟨data_inj, fun h => by rw [h]⟩, h.2⟩))
  have HCLO := Aside0.mk (fun (W : World) (A : Option Addr) (c : Nat) (B : Option Addr) (h : Kd.C k33 W A (lineM s.data.toList).length (lineM s.data.toList)) (h1 : Kd.C (Kd.int .i64) W B 1 [0]) => (Close_any A c _ B 1 [0] W h h1 (line_ok _) (fun t ht => by rw [List.mem_singleton] at ht; subst ht; exact wf_small (by omega) (by omega)) (by simp)).mono fun e W' (h : ∃ v, _) => by
    obtain ⟨v, h1, h2, h3⟩ := h
    obtain ⟨A', c', rfl, _, _⟩ := ints_row h2
    rw [line_close _ hl1000] at h1
    exact (show ∃ A c, e = .returned (.slice A 1 c) ∧ Below W.heap.size W W' from ⟨A', c', h1, h3⟩))
  obtain ⟨M, hM⟩ : ∃ M, M = lineM s.data.toList := ⟨_, rfl⟩
  rw [← hM] at HLI HMAY HACS HACT HCLO
  obtain ⟨n, hn⟩ : ∃ n, n = M.length := ⟨_, rfl⟩
  rw [← hn] at HLI HMAY HACS HACT HCLO
  clear c1' c2' hsd hl1000 hM hn
  go_wp2_with fail
  refine (HLI.out w1).mono ?_
  rintro e w2 ⟨A2, c2, rfl, C2, hb⟩
  have HB2 := Aside0.mk (below_step HB.out hb)
  have HC2 := Aside0.mk C2
  clear hb C2
  go_wp2_with fail
  refine (HMAY.out w2 A2 c2 HC2.out).mono ?_
  rintro e w3 ⟨rfl, hb⟩
  have HB3 := Aside0.mk (below_step HB2.out hb)
  have HC3 := Aside0.mk (Kd.C_below HC2.out hb)
  clear hb
  go_wp2_with fail
  refine (HACS.out w3 A2 c2 HC3.out).mono ?_
  rintro e w4 ⟨rfl, hb⟩
  have HB4 := Aside0.mk (below_step HB3.out hb)
  have HC4 := Aside0.mk (Kd.C_below HC3.out hb)
  clear hb
  go_wp2_with fail
  refine (HACT.out w4 A2 c2 HC4.out).mono ?_
  rintro e w5 ⟨rfl, hb⟩
  have HB5 := Aside0.mk (below_step HB4.out hb)
  have HC5 := Aside0.mk (Kd.C_below HC4.out hb)
  clear hb
  have hb6 := X.below_new1 w5 (.cells #[.int .i64 0] 3)
  have hrow : Kd.C (Kd.int .i64) (w5.alloc (.cells #[.int .i64 0] 3)) (some ⟨w5.heap.size, 0, none⟩) 1 [0] := by
    have h1 := World.ownsRow_lit (base := w5.heap.size) (e := 3) (size := 1) w5 #[.int .i64 0] 1 (Nat.le_refl _) (by simp [maxLen]) (by simp)
    obtain ⟨A', c', hv, hl, hc⟩ := ints_row (l := [0]) (by simpa using h1)
    injection hv with hv1 hv2 hv3
    rw [← hv1] at hc
    exact hc
  have HC6 := Aside0.mk (HCLO.out _ A2 c2 _ (Kd.C_below HC5.out hb6) hrow)
  have HB6 := Aside0.mk (below_step HB5.out hb6)
  clear hb6 hrow HLI HMAY HACS HACT HCLO
  by_cases hst : s = t
  · subst hst
    rw [show decide (s = s) = true from decide_eq_true rfl]
    go_wp2_with fail
    refine HC6.out.mono ?_
    rintro e w7 ⟨A7, c7, rfl, hb⟩
    have HB7 := Aside0.mk (below_step HB6.out hb)
    clear hb
    go_wp2_with fail
    go_ret
    exact ⟨rfl, HB7.out⟩
  · rw [show decide (s = t) = false from decide_eq_false hst]
    have hst2 : ¬ s.toList = t.toList := fun h => hst (ByteArray.ext (Array.ext' (by rwa [ByteArray.toList_eq, ByteArray.toList_eq] at h)))
    have f1 : (s.toList == t.toList) = false := beq_eq_false_iff_ne.mpr hst2
    have f4 : (s.toList = t.toList) = False := eq_false hst2
    have f2 : decide (s = t) = false := decide_eq_false hst
    have f3 : (s = t) = False := eq_false hst
    clear hst hst2
    go_wp2_with fail
    refine HC6.out.mono ?_
    rintro e w7 ⟨A7, c7, rfl, hb⟩
    have HB7 := Aside0.mk (below_step HB6.out hb)
    clear hb
    go_wp2_with fail
    go_ret
    exact ⟨rfl, HB7.out⟩
end Go.Proofs.Ytacnflelkpkbhaa.PA
end
