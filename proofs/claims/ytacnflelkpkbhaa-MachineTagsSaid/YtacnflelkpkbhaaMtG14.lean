/- Texts of this claim, those that nothing needs left out: Zn4. -/
import Derived.Test.YtacnflelkpkbhaaMtG13
section
namespace Go.Proofs.Ytacnflelkpkbhaa.PA
set_option linter.unusedSimpArgs false
set_option linter.unusedVariables false
open Go.RowKit Go.Maps Go.Proofs.YtacnflelkpkbhaaW.PrintWords Go.Proofs.YtacnflelkpkbhaaW.PrintLast Go.Proofs.YtacnflelkpkbhaaW.PrintMore
def matchE (ch : Int) (e : S48) : Bool := decide (e.f0 ≤ ch) && decide (ch ≤ e.f1)
def stepT (m : List S33) (ch t : Int) : List Int := if 0 ≤ t ∧ t < (m.length : Int) then (match m[t.toNat]? with
  | some n => (n.f1.filter (matchE ch)).map fun e => e.f2
  | none => []) else []
theorem rdme_at (xs : List S48) (j : Nat) (h : j < xs.length) : rd_T48 xs (j : Int) = xs[j] := by
  unfold rd_T48
  rw [Int.toNat_natCast, List.getD_eq_getElem?_getD, List.getElem?_eq_getElem h]
  rfl
theorem blk3 {w : World} {B : Nat} {a b c : Value} {t : TypeId} (h : w.heap[B]? = some (.cells #[a, b, c] t (0, 0))) : w.cell? ⟨B, 0, none⟩ = some a ∧ w.cell? ⟨B, 1, none⟩ = some b ∧ w.cell? ⟨B, 2, none⟩ = some c := by
  refine ⟨?_, ?_, ?_⟩ <;> simp [blk_cell h]
theorem edge_leads {m : List S33} (hm : mayB m = true) {i : Nat} (hi : i < m.length) {e : S48} (he : e ∈ m[i].f1) : 0 ≤ e.f2 ∧ e.f2 < (m.length : Int) := by
  have hr := (mayB_iff.1 hm).2 i hi
  generalize m[i] = x at hr he
  unfold rightB at hr
  by_cases c1 : x.f0 = 1
  · rw [if_pos c1] at hr
    simp only [Bool.and_eq_true] at hr
    have := (eatsB_iff.1 hr.2).1 e he
    simp only [okE, Bool.and_eq_true, decide_eq_true_eq] at this
    exact ⟨this.1.2, this.2⟩
  have hemp : x.f1 = [] := by
    rw [if_neg c1] at hr
    by_cases c2 : x.f0 = 2
    · rw [if_pos c2] at hr; simp only [Bool.and_eq_true, List.isEmpty_iff] at hr; exact hr.1.1
    rw [if_neg c2] at hr
    by_cases c3 : x.f0 = 3
    · rw [if_pos c3] at hr; simp only [Bool.and_eq_true, List.isEmpty_iff] at hr; exact hr.1.1
    rw [if_neg c3] at hr
    by_cases c4 : x.f0 = 4
    · rw [if_pos c4] at hr; simp only [Bool.and_eq_true, List.isEmpty_iff] at hr; exact hr.1.1
    rw [if_neg c4] at hr
    cases hr
  rw [hemp] at he
  cases he
set_option maxHeartbeats 16000000 in
set_option maxRecDepth 100000 in
theorem stepped_any (A : Option Addr) (c : Nat) (m : List S33) (A1 : Option Addr) (c1 : Nat) (ts : List Int) (ch : Int) (w : World) (hr : Kd.C k33 w A m.length m) (hr1 : Kd.C (Kd.int .i64) w A1 ts.length ts) (hmay : mayB m = true) (hok : okM m) (hl : ts.length ≤ 1000000) :
    Calls Try.prog 25 #[.slice A m.length c, .slice A1 ts.length c1, .int .u8 ch] w fun e w' => ∃ v, e = .returned v ∧ w'.ownsRow w.heap.size 3 1 v (listF (addAll m [] (ts.flatMap (stepT m ch)))).length ((listF (addAll m [] (ts.flatMap (stepT m ch)))).map (Value.int .i64)) ∧ Below w.heap.size w w' := by
  have HR := Aside0.mk hr
  have HR1 := Aside0.mk hr1
  have HMAY := Aside0.mk hmay
  have HADD := Aside0.mk (add_any (c := c) hr hmay hok w.heap.size (Nat.le_refl _) m.length)
  have HOK := Aside0.mk hok
  obtain ⟨n, hn⟩ : ∃ n, n = m.length := ⟨_, rfl⟩
  have HN := Aside0.mk hn
  have hn1' : n ≤ 100000 := by rw [hn]; exact (mayB_iff.1 hmay).1.2
  obtain ⟨n1, hn1⟩ : ∃ n, n = ts.length := ⟨_, rfl⟩
  have HN1 := Aside0.mk hn1
  rw [← hn] at HR HADD ⊢
  rw [← hn1] at HR1 hl ⊢
  clear hr hr1 hmay hok hn hn1
  have hmm := @run_makeMap Try.prog
  go_enter Try.func25, Try.ntmps25
  go_wp2_with fail
  go_loopw [15] (fun v15 wr => ∃ j : Nat, j ≤ n1 ∧ v15 = .int .i64 (j : Int) ∧ X.IM wr w.heap.size (addAll m [] ((ts.take j).flatMap (stepT m ch))) ∧ Below w.heap.size w wr) (fun v15 _ => (n1 - intOf v15).toNat)
  case atStart => exact ⟨0, Nat.zero_le _, rfl, X.im_made w, X.below_new1 w _⟩
  case round =>
    obtain ⟨j, hj, rfl, him, hb⟩ := hrel
    obtain ⟨wo, hwo⟩ : ∃ wo, wo = wr := ⟨_, rfl⟩
    subst hwo
    by_cases hjl : j < n1
    · have hj2 : j < ts.length := by rw [← HN1.out]; exact hjl
      obtain ⟨ad, hA, hc⟩ := X.C_cell1 (Kd.C_below HR1.out hb) j hj2
      obtain ⟨t, ht⟩ : ∃ t, t = ts[j] := ⟨_, rfl⟩
      rw [← ht] at hc
      have htk : (ts.take (j + 1)).flatMap (stepT m ch) = (ts.take j).flatMap (stepT m ch) ++ stepT m ch t := by
        rw [List.take_succ_eq_append_getElem hj2, List.flatMap_append, ← ht]
        simp
      obtain ⟨pre, hpre⟩ : ∃ p, p = (ts.take j).flatMap (stepT m ch) := ⟨_, rfl⟩
      rw [← hpre] at him htk
      subst hA
      have HIM := Aside0.mk him
      have HB := Aside0.mk hb
      have HTK := Aside0.mk htk
      clear him hb ht htk hpre hj2
      by_cases hneg : t < 0
      · have g1 : (t < 0) = True := eq_true hneg
        have hs : stepT m ch t = [] := by unfold stepT; rw [if_neg (by omega)]
        have HS := Aside0.mk hs
        clear hneg hs
        go_wp2_with fail
        go_roundw
        case rel => exact ⟨j + 1, by omega, by go_num, by rw [HTK.out, HS.out, List.append_nil]; exact HIM.out, HB.out⟩
        case measure => simp [intOf]; omega
      · obtain ⟨i, rfl⟩ := Int.eq_ofNat_of_zero_le (show 0 ≤ t by omega)
        have g1 : ((i : Int) < 0) = False := eq_false hneg
        by_cases hbig : n ≤ i
        · have g2 : ((n : Int) ≤ (i : Int)) = True := eq_true (by omega)
          have g3 : (n ≤ i) = True := eq_true (by omega)
          have hs : stepT m ch (i : Int) = [] := by unfold stepT; rw [if_neg (by have := HN.out; omega)]
          have HS := Aside0.mk hs
          clear hneg hs hbig
          go_wp2_with fail
          go_roundw
          case rel => exact ⟨j + 1, by omega, by go_num, by rw [HTK.out, HS.out, List.append_nil]; exact HIM.out, HB.out⟩
          case measure => simp [intOf]; omega
        · have g2 : ((n : Int) ≤ (i : Int)) = False := eq_false (by omega)
          have g3 : (n ≤ i) = False := eq_false (by omega)
          have hil : i < m.length := by have := HN.out; omega
          obtain ⟨ad1, B1, d1, B2, d2, hA1, q0, q1, _, _, _, l1, gg1, _, _⟩ := at_T33 HR.out (i : Int) (by omega) (by omega)
          rw [Int.toNat_natCast, rdn_at m i hil] at q1
          rw [rdn_at m i hil] at l1 gg1
          have hx1 := (HOK.out _ (List.getElem_mem hil)).1
          have hs : stepT m ch (i : Int) = (m[i].f1.filter (matchE ch)).map fun e => e.f2 := by
            unfold stepT
            rw [if_pos (by omega), Int.toNat_natCast, List.getElem?_eq_getElem hil]
          have hto : ∀ e ∈ m[i].f1, 0 ≤ e.f2 ∧ e.f2 < (m.length : Int) := fun e he => edge_leads HMAY.out hil he
          obtain ⟨x, hx⟩ : ∃ x, x = m[i] := ⟨_, rfl⟩
          rw [← hx] at q1 l1 gg1 hx1 hs hto
          obtain ⟨n2, hn2⟩ : ∃ n, n = x.f1.length := ⟨_, rfl⟩
          have HN2 := Aside0.mk hn2
          rw [← hn2] at hx1 q1
          have r1 := addr_keep HB.out q1
          have HS := Aside0.mk hs
          have HTO := Aside0.mk hto
          have G1 := Aside0.mk gg1
          subst hA1
          clear hneg hs hbig hto gg1 l1 q0 q1 hx hn2
          have hil2 : i < n := by have := HN.out; omega
          go_wp2_with fail
          go_loopw [33] (fun v33 wz => ∃ k : Nat, k ≤ n2 ∧ v33 = .int .i64 (k : Int) ∧ X.IM wz w.heap.size (addAll m [] (pre ++ ((x.f1.take k).filter (matchE ch)).map fun e => e.f2)) ∧ Below w.heap.size w wz) (fun v33 _ => (n2 - intOf v33).toNat)
          case atStart => exact ⟨0, Nat.zero_le _, rfl, by simpa using HIM.out, HB.out⟩
          case round =>
            obtain ⟨k, hk, rfl, him, hb⟩ := hrel
            by_cases hkl : k < n2
            · have hk2 : k < x.f1.length := by rw [← HN2.out]; exact hkl
              obtain ⟨ad2, hA2, e0, e1, e2⟩ := at_T48 (Kd.C_below G1.out hb) (k : Int) (by omega) (by omega)
              rw [Int.toNat_natCast, rdme_at x.f1 k hk2] at e0 e1 e2
              have htk2 : ((x.f1.take (k + 1)).filter (matchE ch)).map (fun e => e.f2) = ((x.f1.take k).filter (matchE ch)).map (fun e => e.f2) ++ (if matchE ch x.f1[k] = true then [x.f1[k].f2] else []) := by
                rw [List.take_succ_eq_append_getElem hk2, List.filter_append, List.map_append, List.filter_cons]
                split <;> rfl
              obtain ⟨y, hy⟩ : ∃ y, y = x.f1[k] := ⟨_, rfl⟩
              rw [← hy] at e0 e1 e2 htk2
              obtain ⟨t1, t2⟩ := HTO.out y (by rw [hy]; exact List.getElem_mem hk2)
              obtain ⟨p2, hp2⟩ : ∃ p, p = ((x.f1.take k).filter (matchE ch)).map (fun e => e.f2) := ⟨_, rfl⟩
              rw [← hp2] at him htk2
              have hnb := blk3 (blk_new wr (.cells #[.int .u8 y.f0, .int .u8 y.f1, .int .i64 y.f2] 48))
              have HTK2 := Aside0.mk htk2
              have HIM2 := Aside0.mk (him.alloc (.cells #[.int .u8 y.f0, .int .u8 y.f1, .int .i64 y.f2] 48))
              have hb2 : Below w.heap.size w (wr.alloc (.cells #[.int .u8 y.f0, .int .u8 y.f1, .int .i64 y.f2] 48)) := hb.trans ((X.below_new1 wr _).mono hb.size)
              have HB2 := Aside0.mk hb2
              subst hA2
              by_cases c1 : y.f0 ≤ ch
              · by_cases c2 : ch ≤ y.f1
                · have hm1 : matchE ch y = true := by unfold matchE; rw [decide_eq_true c1, decide_eq_true c2]; rfl
                  obtain ⟨o1, o2, _⟩ := addAll_nil HMAY.out (pre ++ p2)
                  have hgo := HADD.out _ y.f2 _ (by have := HN.out; omega) (wf_small t1 (by have := HN.out; omega)) o1 (fun z hz _ => o2 z hz (Nat.zero_le _)) hb2 HIM2.out
                  rw [HN.out, ← addAll_snoc] at hgo
                  rw [← HN.out] at hgo
                  have HGO := Aside0.mk hgo
                  have HM1 := Aside0.mk hm1
                  have f1 : (y.f0 ≤ ch) = True := eq_true c1
                  have f2 : (ch ≥ y.f0) = True := eq_true c1
                  have f3 : (ch ≤ y.f1) = True := eq_true c2
                  clear hy htk2 t1 t2 hp2 him hb hb2 c1 c2 hm1 o1 o2 hgo hk2
                  go_wp2_with fail
                  refine HGO.out.mono ?_
                  rintro e w3 ⟨rfl, him3, hg3⟩
                  have HIM3 := Aside0.mk him3
                  have HB3 := Aside0.mk (HB2.out.grown hg3 HB2.out.size (fun k e => by injection e with e; omega))
                  clear him3 hg3
                  go_wp2_with fail
                  go_roundw
                  case rel => exact ⟨k + 1, by omega, by go_num, by rw [HTK2.out, if_pos HM1.out, ← List.append_assoc]; exact HIM3.out, HB3.out⟩
                  case measure => simp [intOf]; omega
                · have hm1 : ¬ matchE ch y = true := by unfold matchE; rw [decide_eq_false c2, Bool.and_false]; simp
                  have HM1 := Aside0.mk hm1
                  have f1 : (y.f0 ≤ ch) = True := eq_true c1
                  have f2 : (ch ≥ y.f0) = True := eq_true c1
                  have f3 : (ch ≤ y.f1) = False := eq_false c2
                  clear hy htk2 t1 t2 hp2 him hb hb2 c1 c2 hm1 hk2
                  go_wp2_with fail
                  go_roundw
                  case rel => exact ⟨k + 1, by omega, by go_num, by rw [HTK2.out, if_neg HM1.out, List.append_nil]; exact HIM2.out, HB2.out⟩
                  case measure => simp [intOf]; omega
              · have hm1 : ¬ matchE ch y = true := by unfold matchE; rw [decide_eq_false c1, Bool.false_and]; simp
                have HM1 := Aside0.mk hm1
                have f1 : (y.f0 ≤ ch) = False := eq_false c1
                have f2 : (ch ≥ y.f0) = False := eq_false c1
                clear hy htk2 t1 t2 hp2 him hb hb2 c1 hm1 hk2
                go_wp2_with fail
                go_roundw
                case rel => exact ⟨k + 1, by omega, by go_num, by rw [HTK2.out, if_neg HM1.out, List.append_nil]; exact HIM2.out, HB2.out⟩
                case measure => simp [intOf]; omega
            · obtain rfl : n2 = k := by omega
              rw [HN2.out, List.take_length, ← HS.out, ← HTK.out] at him
              have HIM2 := Aside0.mk him
              have HB2 := Aside0.mk hb
              clear him hb
              go_wp2_with fail
              go_roundw
              case rel => exact ⟨j + 1, by omega, by go_num, HIM2.out, HB2.out⟩
              case measure => simp [intOf]; omega
    · obtain rfl : n1 = j := by omega
      rw [HN1.out, List.take_length] at him
      obtain ⟨o1, o2, _⟩ := addAll_nil HMAY.out (ts.flatMap (stepT m ch))
      have hle := o1.len
      have hli := list_any w.heap.size _ wo him (fun i hi => by have := o1.2 i hi; have := HN.out; omega) (by have := HN.out; omega)
      have HLI := Aside0.mk hli
      have HB := Aside0.mk hb
      clear him hb o1 o2 hle hli
      go_wp2_with fail
      refine HLI.out.mono ?_
      rintro e w4 ⟨v, rfl, ho, hb4⟩
      have HO := Aside0.mk ho
      have HB4 := Aside0.mk (below_step HB.out hb4)
      clear ho hb4
      go_wp2_with fail
      go_ret
      exact ⟨_, rfl, own_lower HO.out HB.out.size, HB4.out⟩
end Go.Proofs.Ytacnflelkpkbhaa.PA
end
