/- Texts of this claim, those that nothing needs left out: Zn7. -/
import Derived.Test.YtecpjfipkejmoaaFeG15
import Derived.Test.YtecpjfipkejmoaaFeG17
section
namespace Go.Proofs.Ytecpjfipkejmoaa.PA
set_option linter.unusedSimpArgs false
set_option linter.unusedVariables false
open Go.RowKit Go.Maps Go.Proofs.YtecpjfipkejmoaaW.PrintWords Go.Proofs.YtecpjfipkejmoaaW.PrintLast Go.Proofs.YtecpjfipkejmoaaW.PrintMore
theorem eaten_facts (m : List S49) (s : List UInt8) (k : Int) (hk : 0 ≤ k) : acceptsB m s = (wayF m s 0).2 ∧ decide (0 < manyF m s 1000) = (wayF m s 0).2 ∧ decide (k < manyF m s 1000) = (wayF m s k).2 := by
  cases hm : mayB m with
  | false =>
    have e1 : ∀ k, wayF m s k = ([], false) := fun k => way_not hm s k
    rw [e1, e1, many_not hm]
    refine ⟨by unfold acceptsB; rw [hm]; rfl, rfl, decide_eq_false (by omega)⟩
  | true =>
    have hw := waysOf_le (s := s) hm (p := (0, 0)) ⟨may_pos hm, Nat.zero_le _⟩
    have e1 : manyF m s 1000 = ((waysOf m s (0, 0) : Nat) : Int) := by unfold manyF; rw [if_pos ⟨hm, by omega⟩]; omega
    have e2 : ∀ k, 0 ≤ k → (wayF m s k).2 = decide (k < ((waysOf m s (0, 0) : Nat) : Int)) := fun k hk => by
      unfold wayF
      by_cases c : k < ((waysOf m s (0, 0) : Nat) : Int)
      · rw [if_pos ⟨hm, hk, c⟩, decide_eq_true c]
      · rw [if_neg (fun h => c h.2.2), decide_eq_false c]
    rw [e1, e2 0 (Int.le_refl _), e2 k hk, accepts_ways s hm]
    refine ⟨?_, rfl, rfl⟩
    rw [Bool.eq_iff_iff, decide_eq_true_eq, decide_eq_true_eq]
    omega
set_option maxHeartbeats 16000000 in
set_option maxRecDepth 100000 in
theorem FindEaten_walk (w : World) {A0 : Option Addr} {c0 : Nat} {l : List S35} (hr0 : Kd.C k35 w A0 l.length l) (hc0 : l.length ≤ c0) (hok : ∀ x ∈ l, okRN x) (s : ByteArray) (k : UInt8) :
    Calls Try.prog 7 #[.slice A0 l.length c0, .string s, .int .u8 (k.toNat : Int)] w fun e W' => e = .returned (.bool true) ∧ Below w.heap.size w W' := by
  obtain ⟨b, hf, hfew⟩ := few_any l s
  have HF := Aside0.mk hf
  have HFEW := Aside0.mk hfew
  have HR := Aside0.mk hr0
  have HC := Aside0.mk hc0
  have HOK := Aside0.mk hok
  clear hf hfew hr0 hc0 hok
  have hk0 := k.toNat_lt
  obtain ⟨kk, hkk⟩ : ∃ a : Int, a = (k.toNat : Int) := ⟨_, rfl⟩
  have HKR := Aside0.mk (show 0 ≤ kk ∧ kk ≤ 255 by omega)
  rw [← hkk]
  clear hkk hk0
  obtain ⟨n, hn⟩ : ∃ n, n = l.length := ⟨_, rfl⟩
  have HN := Aside0.mk hn
  rw [← hn] at HR HC HFEW ⊢
  clear hn
  go_enter Try.func7, Try.ntmps7
  go_wp2_with fail
  refine (awake_walk _).mono ?_
  rintro e w1 ⟨rfl, hb⟩
  have HB := Aside0.mk hb
  clear hb
  go_wp2_with fail
  refine (HFEW.out w1 A0 c0 (by have h := Kd.C_below HR.out HB.out; exact h) HC.out).mono ?_
  rintro e w2 ⟨rfl, hb⟩
  have HB2 := Aside0.mk (below_step HB.out hb)
  clear hb
  cases b with
  | false =>
    go_wp2_with fail
    go_ret
    exact ⟨rfl, HB2.out⟩
  | true =>
    have hff := HF.out rfl
    have hs2 : s.size ≤ 200 := hff.2.2
    have hl60 : l.length ≤ 60 := hff.1
    have hokm := few_okM hff.2.1 HOK.out
    have hml : (l.map toN).length = n := by rw [List.length_map]; exact HN.out.symm
    have hMA := made_any (A0 := A0) (c0 := c0) (l := l) w2 (by have h := Kd.C_below HR.out HB2.out; rw [HN.out] at h; exact h) (by omega) (fun x hx => by have := (hff.2.1 x hx).1; omega)
    obtain ⟨hE, hG, hK⟩ := eaten_facts (l.map toN) s.data.toList kk HKR.out.1
    have hWAY := fun (W : World) (A : Option Addr) (c : Nat) (h : Kd.C k49 W A (l.map toN).length (l.map toN)) => Way_any A c (l.map toN) s kk W h hokm (by omega)
    have hFIR := fun (W : World) (A : Option Addr) (c : Nat) (h : Kd.C k49 W A (l.map toN).length (l.map toN)) => First_any A c (l.map toN) s W h hokm (by omega)
    have hMANY := fun (W : World) (A : Option Addr) (c : Nat) (h : Kd.C k49 W A (l.map toN).length (l.map toN)) => Many_any A c (l.map toN) s 1000 W h hokm (by omega)
    have hACC := fun (W : World) (A : Option Addr) (c : Nat) (h : Kd.C k49 W A (l.map toN).length (l.map toN)) => Accepts_any A c (l.map toN) s W h hokm (by omega)
    rw [hml] at hWAY hFIR hMANY hACC
    simp only [hE] at hACC
    rw [← HN.out] at hMA
    generalize manyF (l.map toN) s.data.toList 1000 = nn at hG hK hMANY
    generalize wayF (l.map toN) s.data.toList kk = P1 at hK hWAY
    generalize wayF (l.map toN) s.data.toList 0 = P0 at hG hFIR hACC
    obtain ⟨L1, b1⟩ := P1
    obtain ⟨L0, b0⟩ := P0
    dsimp only at hG hK hWAY hFIR hACC
    have HWAY := Aside0.mk hWAY
    have HFIR := Aside0.mk hFIR
    have HMANY := Aside0.mk hMANY
    have HACC := Aside0.mk hACC
    have HMA := Aside0.mk hMA
    have g0 : kk % 256 = kk := by have := HKR.out; omega
    clear hff hs2 hl60 hokm hml hMA hE hWAY hFIR hMANY hACC HF HFEW
    go_wp2_with fail
    refine HMA.out.mono ?_
    rintro e w3 ⟨A3, c3, rfl, _, C3, hb⟩
    have HB3 := Aside0.mk (below_step HB2.out hb)
    have HC3 := Aside0.mk C3
    clear hb C3 HMA
    go_wp2_with fail
    refine (HFIR.out w3 A3 c3 HC3.out).mono ?_
    rintro e w4 ⟨v4, rfl, _, hb⟩
    have HB4 := Aside0.mk (below_step HB3.out hb)
    have HC4 := Aside0.mk (Kd.C_below HC3.out hb)
    clear hb HC3 HB3
    go_wp2_with fail
    refine (HMANY.out w4 A3 c3 HC4.out).mono ?_
    rintro e w5 ⟨rfl, hb⟩
    have HB5 := Aside0.mk (below_step HB4.out hb)
    have HC5 := Aside0.mk (Kd.C_below HC4.out hb)
    clear hb HC4 HB4
    go_wp2_with fail
    refine (HWAY.out w5 A3 c3 HC5.out).mono ?_
    rintro e w6 ⟨v6, rfl, _, hb⟩
    have HB6 := Aside0.mk (below_step HB5.out hb)
    have HC6 := Aside0.mk (Kd.C_below HC5.out hb)
    clear hb HC5 HB5
    have HG := Aside0.mk hG
    have HK := Aside0.mk hK
    clear hG hK
    go_wp2_with fail
    refine (HACC.out w6 A3 c3 HC6.out).mono ?_
    rintro e w7 ⟨rfl, hb⟩
    have HB7 := Aside0.mk (below_step HB6.out hb)
    clear hb
    by_cases c1 : 0 < nn
    · have f1 : (0 < nn) = True := eq_true c1
      have f2 : (nn > 0) = True := eq_true c1
      have f0 : b0 = true := by rw [← HG.out]; exact decide_eq_true c1
      subst f0
      by_cases c2 : kk < nn
      · have f3 : (kk < nn) = True := eq_true c2
        have f4 : b1 = true := by rw [← HK.out]; exact decide_eq_true c2
        subst f4
        clear c1 c2
        go_wp2_with fail
        go_ret
        exact ⟨rfl, HB7.out⟩
      · have f3 : (kk < nn) = False := eq_false c2
        have f4 : b1 = false := by rw [← HK.out]; exact decide_eq_false c2
        subst f4
        clear c1 c2
        go_wp2_with fail
        go_ret
        exact ⟨rfl, HB7.out⟩
    · have f1 : (0 < nn) = False := eq_false c1
      have f2 : (nn > 0) = False := eq_false c1
      have f0 : b0 = false := by rw [← HG.out]; exact decide_eq_false c1
      subst f0
      by_cases c2 : kk < nn
      · have f3 : (kk < nn) = True := eq_true c2
        have f4 : b1 = true := by rw [← HK.out]; exact decide_eq_true c2
        subst f4
        clear c1 c2
        go_wp2_with fail
        go_ret
        exact ⟨rfl, HB7.out⟩
      · have f3 : (kk < nn) = False := eq_false c2
        have f4 : b1 = false := by rw [← HK.out]; exact decide_eq_false c2
        subst f4
        clear c1 c2
        go_wp2_with fail
        go_ret
        exact ⟨rfl, HB7.out⟩
theorem FindEaten_row (w : World) {A0 : Option Addr} {c0 : Nat} {l : List S35} (hr0 : Kd.C k35 w A0 l.length l) (hc0 : l.length ≤ c0) (hok : ∀ x ∈ l, okRN x) (s : ByteArray) {a2 : Int} (h : (Lit.int .u8 a2).wf = true) :
    Calls Try.prog 7 #[.slice A0 l.length c0, .string s, .int .u8 a2] w fun e W' => e = .returned (.bool true) ∧ Below w.heap.size w W' := by
  obtain ⟨c, rfl⟩ := u8_in h
  exact FindEaten_walk w hr0 hc0 hok s c
end Go.Proofs.Ytecpjfipkejmoaa.PA
end
