/- Texts of this claim, those that nothing needs left out: Zo6. -/
import Derived.Test.YtacnflelkpkbhaaMpG23
section
namespace Go.Proofs.Ytacnflelkpkbhaa.PA
set_option linter.unusedSimpArgs false
set_option linter.unusedVariables false
open Go.RowKit Go.Maps Go.Proofs.YtacnflelkpkbhaaW.PrintWords Go.Proofs.YtacnflelkpkbhaaW.PrintLast Go.Proofs.YtacnflelkpkbhaaW.PrintMore
theorem take_data (s : ByteArray) (i : Nat) : (s.extract 0 i).data.toList = s.data.toList.take i := by
  rw [ByteArray.data_extract, Array.toList_extract]
  simp
def isE (x : S46) : Bool := x.f0 == 4
theorem isEnd_at (l : List S46) (i : Nat) (h : i < l.length) : isEnd (l.map toN) (i : Int) = isE l[i] := by
  unfold isEnd
  rw [Int.toNat_natCast, List.getElem?_map, List.getElem?_eq_getElem h]
  rfl
theorem ends_some {l : List S46} {ts : List Int} (hts : ∀ t ∈ ts, 0 ≤ t ∧ t < ((l.map toN).length : Int)) (h : ts.any (isEnd (l.map toN)) = true) : l.any isE = true := by
  obtain ⟨t, ht, he⟩ := List.any_eq_true.1 h
  obtain ⟨t0, t1⟩ := hts t ht
  obtain ⟨i, rfl⟩ := Int.eq_ofNat_of_zero_le t0
  have hi : i < l.length := by rw [List.length_map] at t1; omega
  rw [isEnd_at l i hi] at he
  exact List.any_eq_true.2 ⟨_, List.getElem_mem hi, he⟩
theorem closeS {m : List S33} (hm : mayB m = true) : closeF m [0] = stateOf m [] := closeF_eq hm [0]
theorem stepFS {m : List S33} (hm : mayB m = true) (ts : List Int) (c : UInt8) : stepF m ts ((c.toNat : Nat) : Int) = stepS m ts c := by unfold stepF; rw [if_pos hm]; rfl
set_option maxHeartbeats 16000000 in
set_option maxRecDepth 100000 in
theorem MachineParts_walk (w : World) {A0 : Option Addr} {c0 : Nat} {l : List S46} (hr0 : Kd.C k46 w A0 l.length l) (hc0 : l.length ≤ c0) (hok : ∀ x ∈ l, okRN x) (s : ByteArray) :
    Calls Try.prog 7 #[.slice A0 l.length c0, .string s] w fun e W' => e = .returned (.bool true) ∧ Below w.heap.size w W' := by
  obtain ⟨b, hf, hfew⟩ := fewR_any l
  have HF := Aside0.mk hf
  have HFEW := Aside0.mk hfew
  have HR := Aside0.mk hr0
  have HC := Aside0.mk hc0
  have HOK := Aside0.mk hok
  clear hf hfew hr0 hc0 hok
  obtain ⟨n, hn⟩ : ∃ n, n = l.length := ⟨_, rfl⟩
  have HN := Aside0.mk hn
  rw [← hn] at HR HC HFEW ⊢
  clear hn
  go_enter Try.func7, Try.ntmps7
  go_wp2_with fail
  refine (awake_walk _).mono ?_
  rintro e w1 ⟨rfl, hb⟩
  have HB := Aside0.mk hb
  clear hb
  go_wp2_with fail
  refine (HFEW.out w1 A0 c0 (by have h := Kd.C_below HR.out HB.out; exact h) HC.out).mono ?_
  rintro e w2 ⟨rfl, hb⟩
  have HB2 := Aside0.mk (below_step HB.out hb)
  clear hb
  cases b with
  | false =>
    go_wp2_with fail
    go_ret
    exact ⟨rfl, HB2.out⟩
  | true =>
    by_cases c2' : s.size > 200
    · have g4 : ((s.size : Int) > 200) = True := eq_true (by omega)
      have g5 : ((200 : Int) < (s.size : Int)) = True := eq_true (by omega)
      have g6 : (200 < s.size) = True := eq_true (by omega)
      clear c2'
      go_wp2_with fail
      go_ret
      exact ⟨rfl, HB2.out⟩
    have g4 : ((s.size : Int) > 200) = False := eq_false (by omega)
    have g5 : ((200 : Int) < (s.size : Int)) = False := eq_false (by omega)
    have g6 : (200 < s.size) = False := eq_false (by omega)
    have hff := HF.out rfl
    have HRM := Aside0.mk (fun (W : World) (h : Kd.C k46 W A0 n l) => rmay_any l (by omega) hff.2 (W := W) (A := A0) (c := c0) (by rw [← HN.out]; exact h) (by rw [← HN.out]; exact HC.out))
    rw [← HN.out] at HRM
    have hs200 : s.size ≤ 200 := by omega
    have HFF := Aside0.mk hff
    clear HF HFEW hff c2'
    go_wp2_with fail
    refine (HRM.out w2 (Kd.C_below HR.out HB2.out)).mono ?_
    rintro e w3 ⟨rfl, hb⟩
    have HB3 := Aside0.mk (below_step HB2.out hb)
    clear hb HRM
    cases hm : mayB (l.map toN) with
    | false =>
      clear hm
      go_wp2_with fail
      go_ret
      exact ⟨rfl, HB3.out⟩
    | true =>
    clear g4 g5 g6
    have hokm := few_okM HFF.out.2 HOK.out
    have hml : (l.map toN).length = n := by rw [List.length_map]; exact HN.out.symm
    have hn60 : n ≤ 60 := by rw [HN.out]; exact HFF.out.1
    have HMA := Aside0.mk (fun (W : World) (h : Kd.C k46 W A0 n l) => made_any (A0 := A0) (c0 := c0) (l := l) W (by rw [← HN.out]; exact h) (by have := HFF.out.1; omega) (fun x hx => by have := (HFF.out.2 x hx).1; omega))
    rw [← HN.out] at HMA
    have hCLO := fun (A : Option Addr) (c : Nat) (W : World) (B : Option Addr) (h : Kd.C k33 W A n (l.map toN)) (h1 : Kd.C (Kd.int .i64) W B 1 [0]) => (Close_any A c (l.map toN) B 1 [0] W (by rw [hml]; exact h) h1 hokm (fun t ht => by rw [List.mem_singleton] at ht; subst ht; exact wf_small (by omega) (by omega)) (by simp)).mono fun e W' (h : ∃ v, _) => by
      obtain ⟨v, h1, h2, h3⟩ := h
      rw [closeS hm] at h2
      obtain ⟨A', c', rfl, _, hC⟩ := ints_row h2
      exact (show ∃ A c, e = .returned (.slice A (stateOf (l.map toN) []).length c) ∧ Kd.C (Kd.int .i64) W' A (stateOf (l.map toN) []).length (stateOf (l.map toN) []) ∧ Below W.heap.size W W' from ⟨A', c', h1, hC, h3⟩)
    rw [hml] at hCLO
    have HCLO := Aside0.mk hCLO
    have hSTE := fun (A : Option Addr) (c : Nat) (W : World) (B : Option Addr) (d : Nat) (ts : List Int) (ch : UInt8) (h : Kd.C k33 W A n (l.map toN)) (h1 : Kd.C (Kd.int .i64) W B ts.length ts) (hl : ts.length ≤ 1000000) => (Step_any A c (l.map toN) B d ts ((ch.toNat : Nat) : Int) W (by rw [hml]; exact h) h1 hokm hl).mono fun e W' (h : ∃ v, _) => by
      obtain ⟨v, h1, h2, h3⟩ := h
      rw [stepFS hm] at h2
      obtain ⟨A', c', rfl, _, hC⟩ := ints_row h2
      exact (show ∃ A c, e = .returned (.slice A (stepS (l.map toN) ts ch).length c) ∧ Kd.C (Kd.int .i64) W' A (stepS (l.map toN) ts ch).length (stepS (l.map toN) ts ch) ∧ Below W.heap.size W W' from ⟨A', c', h1, hC, h3⟩)
    rw [hml] at hSTE
    have HSTE := Aside0.mk hSTE
    have hACC := fun (A : Option Addr) (c : Nat) (W : World) (u : ByteArray) (h : Kd.C k33 W A n (l.map toN)) (hu : u.size ≤ 1000000) => Accepts_any A c (l.map toN) u W (by rw [hml]; exact h) hokm hu
    rw [hml] at hACC
    have HACC := Aside0.mk hACC
    have HMAY := Aside0.mk hm
    have hsd : s.data.toList.length = s.size := Array.length_toList
    have HSD := Aside0.mk hsd
    clear hokm hml hCLO hSTE hACC hm hsd
    go_wp2_with fail
    refine (HMA.out w3 (Kd.C_below HR.out HB3.out)).mono ?_
    rintro e w4 ⟨A4, c4, rfl, _, C4, hb⟩
    have HB4 := Aside0.mk (below_step HB3.out hb)
    have HC4 := Aside0.mk C4
    clear hb C4
    go_wp2_with fail
    have hb5 := X.below_new1 w4 (.cells #[.int .i64 0] 3)
    have hrow : Kd.C (Kd.int .i64) (w4.alloc (.cells #[.int .i64 0] 3)) (some ⟨w4.heap.size, 0, none⟩) 1 [0] := by
      have h1 := World.ownsRow_lit (base := w4.heap.size) (e := 3) (size := 1) w4 #[.int .i64 0] 1 (Nat.le_refl _) (by simp [maxLen]) (by simp)
      obtain ⟨A', c', hv, hl, hc⟩ := ints_row (l := [0]) (by simpa using h1)
      injection hv with hv1 hv2 hv3
      rw [← hv1] at hc
      exact hc
    refine (HCLO.out A4 c4 _ _ (Kd.C_below HC4.out hb5) hrow).mono ?_
    rintro e w5 ⟨A5, c5, rfl, C5, hb⟩
    have HB5 := Aside0.mk (below_step (below_step HB4.out hb5) hb)
    have HC5 := Aside0.mk (Kd.C_below (Kd.C_below HC4.out hb5) hb)
    have HS5 := Aside0.mk C5
    clear hb C5 hb5 hrow HMA HCLO
    go_wp2_with fail
    go_loopw [9, 8] (fun v9 v8 wr => ∃ j : Nat, j ≤ n ∧ v9 = .int .i64 (j : Int) ∧ v8 = .bool ((l.take j).any isE) ∧ Below w5.heap.size w5 wr) (fun v9 _ _ => (n - intOf v9).toNat)
    case atStart => exact ⟨0, Nat.zero_le _, rfl, rfl, Below.refl _ _⟩
    case round =>
      obtain ⟨j, hj, rfl, rfl, hbj⟩ := hrel
      have HBJ := Aside0.mk hbj
      by_cases hjl : j < n
      · have hj2 : j < l.length := by rw [← HN.out]; exact hjl
        obtain ⟨ad0, B1, d1, B2, d2, hA0, q0, _, _, q3, _, _, _, _, _⟩ := at_T46 (Kd.C_below HR.out (below_step HB5.out HBJ.out)) (j : Int) (by omega) (by omega)
        rw [Int.toNat_natCast, rdr_at l j hj2] at q0
        have htk : (l.take (j + 1)).any isE = ((l.take j).any isE || isE l[j]) := by
          rw [List.take_succ_eq_append_getElem hj2, List.any_append]
          simp
        obtain ⟨x, hx⟩ : ∃ x, x = l[j] := ⟨_, rfl⟩
        rw [← hx] at q0 htk
        obtain ⟨b8, hb8⟩ : ∃ b, b = (l.take j).any isE := ⟨_, rfl⟩
        rw [← hb8] at htk ⊢
        have HTK := Aside0.mk htk
        subst hA0
        clear htk hx hb8 hj2 hbj
        cases b8 with
        | true =>
          go_wp2_with fail
          go_roundw
          case rel => exact ⟨j + 1, by omega, by go_num, by rw [HTK.out]; rfl, HBJ.out⟩
          case measure => simp [intOf]; omega
        | false =>
          by_cases h3 : x.f0 = 4
          · have f1 : (x.f0 == 4) = true := beq_iff_eq.mpr h3
            have F1 := Aside0.mk f1
            clear h3
            go_wp2_with fail
            go_roundw
            case rel => exact ⟨j + 1, by omega, by go_num, by rw [HTK.out]; unfold isE; rw [F1.out]; rfl, HBJ.out⟩
            case measure => simp [intOf]; omega
          · have f1 : (x.f0 == 4) = false := beq_eq_false_iff_ne.mpr h3
            have F1 := Aside0.mk f1
            clear h3
            go_wp2_with fail
            go_roundw
            case rel => exact ⟨j + 1, by omega, by go_num, by rw [HTK.out]; unfold isE; rw [F1.out]; rfl, HBJ.out⟩
            case measure => simp [intOf]; omega
      · obtain rfl : n = j := by omega
        have hta : (l.take n).any isE = l.any isE := by rw [HN.out, List.take_length]
        rw [hta]
        obtain ⟨nn, hnn⟩ : ∃ b, b = l.any isE := ⟨_, rfl⟩
        have HNN := Aside0.mk hnn
        rw [← hnn]
        obtain ⟨w6, hw6⟩ : ∃ w6, w6 = wr := ⟨_, rfl⟩
        subst hw6
        have HB6 := Aside0.mk (below_step HB5.out hbj)
        have HC6 := Aside0.mk (Kd.C_below HC5.out hbj)
        have HS6 := Aside0.mk (Kd.C_below HS5.out hbj)
        clear hta hnn hjl hj hbj HBJ
        go_wp2_with fail
        go_loopw [10, 7] (fun v10 v7 wr => ∃ (i : Nat) (A7 : Option Addr) (c7 : Nat), i ≤ s.size + 1 ∧ v10 = .int .i64 (i : Int) ∧ v7 = .slice A7 (stateOf (l.map toN) (s.data.toList.take i)).length c7 ∧ Kd.C (Kd.int .i64) wr A7 (stateOf (l.map toN) (s.data.toList.take i)).length (stateOf (l.map toN) (s.data.toList.take i)) ∧ Below w6.heap.size w6 wr) (fun v10 _ _ => (s.size + 1 - intOf v10).toNat)
        case atStart => exact ⟨0, A5, c5, Nat.zero_le _, rfl, rfl, HS6.out, Below.refl _ _⟩
        case round =>
          obtain ⟨i, A7, c7, hi, rfl, rfl, C7, hb⟩ := hrel
          obtain ⟨wq, hwq⟩ : ∃ wq, wq = wr := ⟨_, rfl⟩
          subst hwq
          have HBQ := Aside0.mk hb
          by_cases hil : i ≤ s.size
          · obtain ⟨hl7, hr7⟩ := state_ok HMAY.out (s.data.toList.take i)
            have hEE : acceptsB (l.map toN) (s.data.toList.take i) = (stateOf (l.map toN) (s.data.toList.take i)).any (isEnd (l.map toN)) := by unfold acceptsB; rw [HMAY.out]; rfl
            have hES := fun h => ends_some hr7 h
            have hNEXT : ∀ h : i < s.size, stateOf (l.map toN) (s.data.toList.take (i + 1)) = stepS (l.map toN) (stateOf (l.map toN) (s.data.toList.take i)) (s[i]'h) := fun h => state_snoc s.data.toList i (by rw [HSD.out]; exact h)
            obtain ⟨st, hst⟩ : ∃ x, x = stateOf (l.map toN) (s.data.toList.take i) := ⟨_, rfl⟩
            rw [← hst] at C7 hl7 hr7 hEE hES hNEXT ⊢
            obtain ⟨ns, hns⟩ : ∃ n, n = st.length := ⟨_, rfl⟩
            have HNS := Aside0.mk hns
            rw [← hns] at C7 hl7 ⊢
            have HST := Aside0.mk hst
            have HC7 := Aside0.mk C7
            have HR7 := Aside0.mk hr7
            have HEE := Aside0.mk hEE
            have HES := Aside0.mk hES
            have HNX := Aside0.mk hNEXT
            clear hb C7 hr7 hEE hES hNEXT hst hns
            go_wp2_with fail
            go_loopw [12, 11] (fun v12 v11 wz => ∃ k : Nat, k ≤ ns ∧ v12 = .int .i64 (k : Int) ∧ v11 = .bool ((st.take k).any (isEnd (l.map toN))) ∧ Below wq.heap.size wq wz) (fun v12 _ _ => (ns - intOf v12).toNat)
            case atStart => exact ⟨0, Nat.zero_le _, rfl, rfl, Below.refl _ _⟩
            case round =>
              obtain ⟨k, hk, rfl, rfl, hbk⟩ := hrel
              have HBK := Aside0.mk hbk
              by_cases hkl : k < ns
              · have hk2 : k < st.length := by rw [← HNS.out]; exact hkl
                obtain ⟨ad7, hA7, q7⟩ := X.C_cell1 (Kd.C_below HC7.out HBK.out) k hk2
                obtain ⟨u0, u1⟩ := HR7.out _ (List.getElem_mem hk2)
                have htk : (st.take (k + 1)).any (isEnd (l.map toN)) = ((st.take k).any (isEnd (l.map toN)) || isEnd (l.map toN) st[k]) := by
                  rw [List.take_succ_eq_append_getElem hk2, List.any_append]
                  simp
                obtain ⟨t, ht⟩ : ∃ t, t = st[k] := ⟨_, rfl⟩
                rw [← ht] at q7 u0 u1 htk
                obtain ⟨p, rfl⟩ := Int.eq_ofNat_of_zero_le u0
                have hpl : p < l.length := by rw [List.length_map] at u1; omega
                have hpn : p < n := by rw [HN.out]; exact hpl
                obtain ⟨ad0, B1, d1, B2, d2, hA0, q0, _, _, _, _, _, _, _, _⟩ := at_T46 (Kd.C_below HR.out (below_step (below_step HB6.out HBQ.out) HBK.out)) (p : Int) (by omega) (by omega)
                rw [Int.toNat_natCast, rdr_at l p hpl] at q0
                rw [isEnd_at l p hpl] at htk
                obtain ⟨x, hx⟩ : ∃ x, x = l[p] := ⟨_, rfl⟩
                rw [← hx] at q0 htk
                obtain ⟨b11, hb11⟩ : ∃ b, b = (st.take k).any (isEnd (l.map toN)) := ⟨_, rfl⟩
                rw [← hb11] at htk ⊢
                have HTK := Aside0.mk htk
                have f1 : ((p : Int) < 0) = False := eq_false (by omega)
                have f2 : ((p : Int) ≥ (n : Int)) = False := eq_false (by omega)
                have f3 : ((n : Int) ≤ (p : Int)) = False := eq_false (by omega)
                have f4 : (n ≤ p) = False := eq_false (by omega)
                subst hA7
                subst hA0
                clear htk hx hb11 ht u0 u1 hk2 hbk
                cases b11 with
                | true =>
                  go_wp2_with fail
                  go_roundw
                  case rel => exact ⟨k + 1, by omega, by go_num, by rw [HTK.out]; rfl, HBK.out⟩
                  case measure => simp [intOf]; omega
                | false =>
                  by_cases h3 : x.f0 = 4
                  · have f5 : (x.f0 == 4) = true := beq_iff_eq.mpr h3
                    have F1 := Aside0.mk f5
                    clear h3
                    go_wp2_with fail
                    go_roundw
                    case rel => exact ⟨k + 1, by omega, by go_num, by rw [HTK.out]; unfold isE; rw [F1.out]; rfl, HBK.out⟩
                    case measure => simp [intOf]; omega
                  · have f5 : (x.f0 == 4) = false := beq_eq_false_iff_ne.mpr h3
                    have F1 := Aside0.mk f5
                    clear h3
                    go_wp2_with fail
                    go_roundw
                    case rel => exact ⟨k + 1, by omega, by go_num, by rw [HTK.out]; unfold isE; rw [F1.out]; rfl, HBK.out⟩
                    case measure => simp [intOf]; omega
              · obtain rfl : ns = k := by omega
                have hta : (st.take ns).any (isEnd (l.map toN)) = st.any (isEnd (l.map toN)) := by rw [HNS.out, List.take_length]
                rw [hta]
                obtain ⟨ee, hee⟩ : ∃ b, b = st.any (isEnd (l.map toN)) := ⟨_, rfl⟩
                have HEE2 := Aside0.mk (HEE.out.trans hee.symm)
                have hES2 : ee = true → nn = true := fun h => by rw [HNN.out]; exact HES.out (by rw [← hee]; exact h)
                rw [← hee]
                clear hta hee hkl hk
                obtain ⟨wk, hwk⟩ : ∃ x, x = wr := ⟨_, rfl⟩
                subst hwk
                have hac := HACC.out A4 c4 wk (s.extract 0 i) (Kd.C_below HC6.out (HBQ.out.trans (HBK.out.mono HBQ.out.size))) (by rw [ByteArray.size_extract]; omega)
                rw [take_data s i, HEE2.out] at hac
                have HAC := Aside0.mk hac
                clear hac hbk
                cases ee with
                | true =>
                  obtain rfl : nn = true := hES2 rfl
                  clear hES2
                  go_wp2_with fail
                  refine HAC.out.mono ?_
                  rintro e w7 ⟨rfl, hb7⟩
                  have HB7 := Aside0.mk (below_step (HBQ.out.trans (HBK.out.mono HBQ.out.size)) hb7)
                  have HC7' := Aside0.mk (Kd.C_below (Kd.C_below HC7.out HBK.out) hb7)
                  clear hb7 HAC
                  by_cases hi2 : i < s.size
                  · have hS := HSTE.out A4 c4 w7 A7 c7 st (s[i]'hi2) (Kd.C_below HC6.out HB7.out) (by rw [← HNS.out]; exact HC7'.out) (by rw [← HNS.out]; omega)
                    rw [← HNX.out hi2, ← HNS.out] at hS
                    have HS := Aside0.mk hS
                    clear hS
                    go_wp2_with fail
                    refine HS.out.mono ?_
                    rintro e w8 ⟨A8, c8, rfl, C8, hb8⟩
                    have HC8 := Aside0.mk C8
                    have HB8 := Aside0.mk (below_step HB7.out hb8)
                    clear C8 hb8
                    go_wp2_with fail
                    go_roundw
                    case rel => exact ⟨i + 1, A8, c8, by omega, by go_num, rfl, HC8.out, HB8.out⟩
                    case measure => simp [intOf]; omega
                  · have hend : stateOf (l.map toN) (s.data.toList.take (i + 1)) = st := by
                      rw [HST.out, List.take_of_length_le (by rw [HSD.out]; omega), List.take_of_length_le (by rw [HSD.out]; omega)]
                    have HEND := Aside0.mk hend
                    clear hend
                    go_wp2_with fail
                    go_roundw
                    case rel => exact ⟨i + 1, A7, c7, by omega, by go_num, by rw [HEND.out, ← HNS.out], by rw [HEND.out, ← HNS.out]; exact HC7'.out, HB7.out⟩
                    case measure => simp [intOf]; omega
                | false =>
                  clear hES2
                  cases nn with
                  | true =>
                    go_wp2_with fail
                    refine HAC.out.mono ?_
                    rintro e w7 ⟨rfl, hb7⟩
                    have HB7 := Aside0.mk (below_step (HBQ.out.trans (HBK.out.mono HBQ.out.size)) hb7)
                    have HC7' := Aside0.mk (Kd.C_below (Kd.C_below HC7.out HBK.out) hb7)
                    clear hb7 HAC
                    by_cases hi2 : i < s.size
                    · have hS := HSTE.out A4 c4 w7 A7 c7 st (s[i]'hi2) (Kd.C_below HC6.out HB7.out) (by rw [← HNS.out]; exact HC7'.out) (by rw [← HNS.out]; omega)
                      rw [← HNX.out hi2, ← HNS.out] at hS
                      have HS := Aside0.mk hS
                      clear hS
                      go_wp2_with fail
                      refine HS.out.mono ?_
                      rintro e w8 ⟨A8, c8, rfl, C8, hb8⟩
                      have HC8 := Aside0.mk C8
                      have HB8 := Aside0.mk (below_step HB7.out hb8)
                      clear C8 hb8
                      go_wp2_with fail
                      go_roundw
                      case rel => exact ⟨i + 1, A8, c8, by omega, by go_num, rfl, HC8.out, HB8.out⟩
                      case measure => simp [intOf]; omega
                    · have hend : stateOf (l.map toN) (s.data.toList.take (i + 1)) = st := by
                        rw [HST.out, List.take_of_length_le (by rw [HSD.out]; omega), List.take_of_length_le (by rw [HSD.out]; omega)]
                      have HEND := Aside0.mk hend
                      clear hend
                      go_wp2_with fail
                      go_roundw
                      case rel => exact ⟨i + 1, A7, c7, by omega, by go_num, by rw [HEND.out, ← HNS.out], by rw [HEND.out, ← HNS.out]; exact HC7'.out, HB7.out⟩
                      case measure => simp [intOf]; omega
                  | false =>
                    go_wp2_with fail
                    refine HAC.out.mono ?_
                    rintro e w7 ⟨rfl, hb7⟩
                    have HB7 := Aside0.mk (below_step (HBQ.out.trans (HBK.out.mono HBQ.out.size)) hb7)
                    have HC7' := Aside0.mk (Kd.C_below (Kd.C_below HC7.out HBK.out) hb7)
                    clear hb7 HAC
                    by_cases hi2 : i < s.size
                    · have hS := HSTE.out A4 c4 w7 A7 c7 st (s[i]'hi2) (Kd.C_below HC6.out HB7.out) (by rw [← HNS.out]; exact HC7'.out) (by rw [← HNS.out]; omega)
                      rw [← HNX.out hi2, ← HNS.out] at hS
                      have HS := Aside0.mk hS
                      clear hS
                      go_wp2_with fail
                      refine HS.out.mono ?_
                      rintro e w8 ⟨A8, c8, rfl, C8, hb8⟩
                      have HC8 := Aside0.mk C8
                      have HB8 := Aside0.mk (below_step HB7.out hb8)
                      clear C8 hb8
                      go_wp2_with fail
                      go_roundw
                      case rel => exact ⟨i + 1, A8, c8, by omega, by go_num, rfl, HC8.out, HB8.out⟩
                      case measure => simp [intOf]; omega
                    · have hend : stateOf (l.map toN) (s.data.toList.take (i + 1)) = st := by
                        rw [HST.out, List.take_of_length_le (by rw [HSD.out]; omega), List.take_of_length_le (by rw [HSD.out]; omega)]
                      have HEND := Aside0.mk hend
                      clear hend
                      go_wp2_with fail
                      go_roundw
                      case rel => exact ⟨i + 1, A7, c7, by omega, by go_num, by rw [HEND.out, ← HNS.out], by rw [HEND.out, ← HNS.out]; exact HC7'.out, HB7.out⟩
                      case measure => simp [intOf]; omega
          · have hEE : s.size + 1 = i := by omega
            clear hb
            go_wp2_with fail
            go_ret
            exact ⟨rfl, below_step HB6.out HBQ.out⟩
end Go.Proofs.Ytacnflelkpkbhaa.PA
end
