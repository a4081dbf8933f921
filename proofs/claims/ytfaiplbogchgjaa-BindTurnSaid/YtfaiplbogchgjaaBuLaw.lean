/- Texts of this claim, those that nothing needs left out: Zbh Xvb LawBindTurn. -/
import Derived.Test.YtfaiplbogchgjaaBuG18
import Derived.Test.YtfaiplbogchgjaaBuG5
import Derived.Test.YtfaiplbogchgjaaBuG16
import Derived.Test.YtfaiplbogchgjaaRows
import Derived.WalkKit
import Derived.ProofKit
import Derived.OpenShut
import Derived.ShutString
import Derived.ChangeOld
import Derived.Below
import Derived.SizedLaws
section
namespace Go.Proofs.Ytfaiplbogchgjaa.PA
set_option linter.unusedSimpArgs false
set_option linter.unusedVariables false
open Go.RowKit Go.Proofs.YtfaiplbogchgjaaW.PrintWords Go.Proofs.YtfaiplbogchgjaaW.PrintLast
set_option maxHeartbeats 8000000 in
set_option maxRecDepth 100000 in
theorem BindTurn_walk (w : World) {A0 : Option Addr} {c0 : Nat} {l : List S38} (hr0 : Kd.C k38 w A0 l.length l) (hc0 : l.length ≤ c0) (b : S38) {A3 A4 : Option Addr} {c3 c4 : Nat}
    (g3 : Kd.C Kd.string w A3 b.f1.f2.length b.f1.f2) (l3 : b.f1.f2.length ≤ c3) (g4 : Kd.C k50 w A4 b.f1.f3.length b.f1.f3) (l4 : b.f1.f3.length ≤ c4) :
    Calls Try.prog 5 #[.slice A0 l.length c0, .agg #[.string b.f0, .int .i64 b.f1.f0, .string b.f1.f1, .slice A3 b.f1.f2.length c3, .slice A4 b.f1.f3.length c4]] w fun e W' => e = .returned (.bool true) ∧ Below w.heap.size w W' := by
  obtain ⟨b0, f0, h0⟩ := few_any l
  obtain ⟨b1, f1, h1⟩ := few_any [b]
  have HR0 := Aside0.mk hr0
  have HC0 := Aside0.mk hc0
  have H0 := Aside0.mk h0
  have H1 := Aside0.mk h1
  have F0 := Aside0.mk f0
  have F1 := Aside0.mk f1
  have G3 := Aside0.mk g3
  have L3 := Aside0.mk l3
  have G4 := Aside0.mk g4
  have L4 := Aside0.mk l4
  clear hr0 hc0 h0 h1 f0 f1 g3 l3 g4 l4
  go_enter Try.func5, Try.ntmps5
  go_wp2_with fail
  refine (awake_walk _).mono ?_
  rintro e w1 ⟨rfl, hb⟩
  have kb := blk_below (blk_new w (.cells #[.string b.f0, .int .i64 b.f1.f0, .string b.f1.f1, .slice A3 b.f1.f2.length c3, .slice A4 b.f1.f3.length c4] 38)) hb
  have KB := Aside0.mk kb
  have HB := Aside0.mk (below_step (X.below_new1 w _) hb)
  clear hb kb
  go_wp2_with fail
  refine (H0.out w1 A0 c0 (Kd.C_below HR0.out HB.out) HC0.out).mono ?_
  rintro e w2 ⟨rfl, hb⟩
  have HB2 := Aside0.mk (below_step HB.out hb)
  have KB2 := Aside0.mk (blk_below KB.out hb)
  clear hb HB KB
  cases b0 with
  | false =>
    go_wp2_with fail
    go_ret
    exact ⟨rfl, HB2.out⟩
  | true =>
    have hc2 := X.cells5 KB2.out
    go_wp2_with fail
    have h1 := H1.out (w2.alloc (.cells #[.string b.f0, .int .i64 b.f1.f0, .string b.f1.f1, .slice A3 b.f1.f2.length c3, .slice A4 b.f1.f3.length c4] 38)) (some ⟨w2.heap.size, 0, none⟩) 1
      (C_one L3.out (Kd.C_below G3.out (below_alloc HB2.out _)) L4.out (Kd.C_below G4.out (below_alloc HB2.out _)) (blk_new w2 _)) (Nat.le_refl _)
    refine h1.mono ?_
    rintro e w3 ⟨rfl, hb⟩
    have HB3 := Aside0.mk (below_step (below_alloc HB2.out _) hb)
    have KB3 := Aside0.mk (blk_below (blk_alloc KB2.out _) hb)
    clear hb HB2 KB2 h1 hc2
    cases b1 with
    | false =>
      go_wp2_with fail
      go_ret
      exact ⟨rfl, HB3.out⟩
    | true =>
      have ML := Aside0.mk (F0.out trivial).modest
      have MB := Aside0.mk (F1.out rfl).modest
      have hlen : l.length ≤ 20 := (F0.out trivial).1
      have HLEN := Aside0.mk hlen
      go_wp2_with fail
      go_loopw [6, 7, 8] (fun v6 v7 v8 wr => ∃ (k : Nat) (u : Value), k ≤ l.length ∧ u = v6 ∧ v7 = .bool (onceN ((namesA l).take k)) ∧ v8 = .int .i64 k ∧ Below w3.heap.size w3 wr ∧ Kd.R Kd.string 9 wr w3.heap.size (fun _ => True) u ((namesA l).take k))
        (fun _ _ v8 _ => (l.length - intOf v8).toNat)
      case atStart => exact ⟨0, _, Nat.zero_le _, rfl, rfl, rfl, Below.refl _ _, Kd.R_nil _ _ _ _ _⟩
      case round =>
        obtain ⟨k, u, hk, hu, rfl, rfl, hb, hR⟩ := hrel
        subst hu
        by_cases hlt : k < l.length
        · have HLT := Aside0.mk hlt
          have hw3 := HB3.out.size
          have g := Kd.C_below HR0.out (HB3.out.trans (hb.mono hw3))
          obtain ⟨ad, E3, f3, E4, f4, ead, x0, _, _, _, _, _⟩ := at_T38 g (k : Int) (by omega) (by omega)
          subst ead
          rw [Int.toNat_natCast, rdb_at l k hlt] at x0
          have hsn : (namesA l).take (k + 1) = (namesA l).take k ++ [l[k].f0] := by
            rw [List.take_succ_eq_append_getElem (by unfold namesA; rw [List.length_map]; exact hlt)]
            simp [namesA]
          have hon := onceN_snoc ((namesA l).take k) l[k].f0
          rw [← hsn] at hon
          have htl : ((namesA l).take k).length ≤ 20 := by have := HLEN.out; rw [List.length_take]; omega
          obtain ⟨ns, hns⟩ : ∃ ns, ns = (namesA l).take k := ⟨_, rfl⟩
          rw [← hns] at hon hsn hR htl ⊢
          have HNS := Aside0.mk hns
          clear hns
          obtain ⟨nk, hnk⟩ : ∃ nk, nk = l[k].f0 := ⟨_, rfl⟩
          rw [← hnk] at x0 hsn hon
          obtain ⟨A5, c5, rfl, l5, g5⟩ := Kd.R_reads hR
          have HTL := Aside0.mk htl
          have HSN := Aside0.mk hsn
          have HNK := Aside0.mk hnk
          have HON := Aside0.mk hon
          have HU := Aside0.mk hR
          have G5 := Aside0.mk g5
          have L5 := Aside0.mk l5
          have HBR := Aside0.mk hb
          clear g hsn hnk hon hR g5 l5 hb hw3 htl
          obtain ⟨on, hon⟩ : ∃ on, on = onceN ns := ⟨_, rfl⟩
          rw [← hon]
          have HOO := Aside0.mk hon
          clear hon
          cases on with
          | false =>
            have HU1 := HU
            have HBW := HBR
            obtain ⟨u, hu⟩ : ∃ u, u = (Value.slice A5 ns.length c5) := ⟨_, rfl⟩
            rw [← hu] at HU1 ⊢
            have HUU := Aside0.mk hu
            clear hu
            go_wp2_with (at_builtin; refine Kd.R_append Kd.string (w0 := w3) w3.heap.size rfl (.tmp 40) (.tmp 46) 25 9 (.string ⟨#[]⟩) 16 rfl Try.underlying25 X.cloneS_info rfl (by decide) (by decide) u ns nk [.string nk] (fun _ => True) (fun _ => False) rfl rfl rfl (fun _ h => h.elim) (fun _ _ => trivial) HU1.out HBW.out (below_size HBW.out) (by have := HTL.out; omega) ?_; intro v1 wz q1 q2 _ _; have HQ := Aside0.mk q1; have HF1 := Aside0.mk q2; clear q1 q2)
            go_roundw
            case rel => exact ⟨k + 1, _, by have := HLT.out; omega, rfl, by rw [HON.out, ← HOO.out]; rfl, by go_num, HF1.out, by rw [HSN.out]; exact HQ.out⟩
            case measure => have := HLT.out; simp [intOf]; omega
          | true =>
            go_wp2_with fail
            refine (rhas_any A5 c5 _ nk wr G5.out L5.out (by have := HTL.out; omega)).mono ?_
            rintro e w5 ⟨rfl, hb⟩
            obtain ⟨hs, hhs⟩ : ∃ hs, hs = hasN ns nk := ⟨_, rfl⟩
            rw [← hhs]
            have HHS := Aside0.mk hhs
            have HU1 := Aside0.mk (Kd.R_below HU.out hb)
            have HBW := Aside0.mk (below_step HBR.out hb)
            have x1 := addr_keep hb x0
            clear hhs hb x0
            obtain ⟨u, hu⟩ : ∃ u, u = (Value.slice A5 ns.length c5) := ⟨_, rfl⟩
            rw [← hu] at HU1 ⊢
            have HUU := Aside0.mk hu
            clear hu
            go_wp2_with (at_builtin; refine Kd.R_append Kd.string (w0 := w3) w3.heap.size rfl (.tmp 40) (.tmp 46) 25 9 (.string ⟨#[]⟩) 16 rfl Try.underlying25 X.cloneS_info rfl (by decide) (by decide) u ns nk [.string nk] (fun _ => True) (fun _ => False) rfl rfl rfl (fun _ h => h.elim) (fun _ _ => trivial) HU1.out HBW.out (below_size HBW.out) (by have := HTL.out; omega) ?_; intro v1 wz q1 q2 _ _; have HQ := Aside0.mk q1; have HF1 := Aside0.mk q2; clear q1 q2)
            go_roundw
            case rel => exact ⟨k + 1, _, by have := HLT.out; omega, rfl, by rw [HON.out, ← HOO.out, ← HHS.out]; simp, by go_num, HF1.out, by rw [HSN.out]; exact HQ.out⟩
            case measure => have := HLT.out; simp [intOf]; omega
        · have hkn : k = l.length := by omega
          have htk : (namesA l).take k = namesA l := List.take_of_length_le (by unfold namesA; rw [List.length_map]; omega)
          rw [htk] at hR ⊢
          subst hkn
          obtain ⟨A5, c5, rfl, l5, g5⟩ := Kd.R_reads hR
          have G5 := Aside0.mk g5
          have L5 := Aside0.mk l5
          have HBR := Aside0.mk hb
          clear hR g5 l5 hb hlt hk htk
          obtain ⟨on, hon⟩ : ∃ on, on = onceN (namesA l) := ⟨_, rfl⟩
          rw [← hon]
          have HOO := Aside0.mk hon
          clear hon
          go_wp2_with fail
          obtain ⟨wq, hwq⟩ : ∃ wq, wq = wr := ⟨_, rfl⟩
          subst hwq
          have GB := Aside0.mk (blk_below KB3.out HBR.out)
          go_loopw [9, 10] (fun v9 v10 wr => ∃ (k : Nat) (u : Value), k ≤ l.length ∧ u = v9 ∧ v10 = .int .i64 ((k : Int) - 1) ∧ Below wq.heap.size wq wr ∧ Kd.R (seen k38 w) 38 wr wq.heap.size (fun _ => True) u (l.reverse.take (l.length - k)))
            (fun _ v10 _ => (intOf v10 + 1).toNat)
          case atStart => exact ⟨l.length, _, Nat.le_refl _, rfl, by first | rfl | (simp; done) | (unfold wrap64; simp; omega), Below.refl _ _, by rw [Nat.sub_self]; exact Kd.R_nil _ _ _ _ _⟩
          case round =>
            obtain ⟨k, u, hk, hu, rfl, hb, hR⟩ := hrel
            subst hu
            have hbw : Below w.heap.size w wr := (HB3.out.trans (HBR.out.mono HB3.out.size)).trans (hb.mono (Nat.le_trans HB3.out.size HBR.out.size))
            cases k with
            | zero =>
              rw [Nat.sub_zero, List.take_of_length_le (by rw [List.length_reverse]; exact Nat.le_refl _)] at hR
              obtain ⟨A6, c6, rfl, l6, g6⟩ := Kd.R_reads hR
              rw [List.length_reverse] at l6 g6 hR ⊢
              have HR6 := Aside0.mk (show Kd.C k38 wr A6 l.length l.reverse from C_seen g6 hbw)
              have L6 := Aside0.mk l6
              have HB6 := Aside0.mk hb
              have HBW := Aside0.mk hbw
              have KB6 := Aside0.mk (blk_below GB.out hb)
              clear hR l6 g6 hb hbw
              go_wp2_with fail
              refine start_ (n := 7) (S := fun _ => True) (ds := []) #[false, false, false, false, false, false, false] (by kernel_rfl) rfl rfl trivial (fun hHeld => ?_)
              refine with_tabW turn.tab turn.bits (fun HT_ HW_ => ?_)
              refine inv_at [0, 1, 2, 3, 4, 5, 6] (fun a0_ bb aa ww => ∃ v0 v2 v4 v5 v6, aa = putSel a0_ bb [(0, 62, v0), (1, 63, .slice A0 l.length c0), (2, 64, v2), (3, 65, .agg #[.string b.f0, .int .i64 b.f1.f0, .string b.f1.f1, .slice A3 b.f1.f2.length c3, .slice A4 b.f1.f3.length c4]), (4, 66, v4), (5, 67, v5), (6, 11, v6)] ∧ MoreI w wr l b (.cells #[.string b.f0, .int .i64 b.f1.f0, .string b.f1.f1, .slice A3 b.f1.f2.length c3, .slice A4 b.f1.f3.length c4] 38 (0, 0)) bb ww v0 v2 v4 v5 v6) HT_.out HW_.out (by kernel_rfl) (by kernel_rfl) ?_ ?_ ?_
              · exact ⟨.bool false, .bool false, .bool false, .bool false, .bool false, by simp only [putSel, Bool.false_eq_true, if_false], pw_below_drewN (Below.refl _ _) 1, fun h => absurd h (by decide), fun h => absurd h (by decide), fun h => absurd h (by decide), fun h => absurd h (by decide), fun h => absurd h (by decide)⟩
              · clear hHeld HT_ HW_
                refine steps_cons ?_ ?_
                · rintro bb aa ww ⟨v0, v2, v4, v5, v6, ha, hB, q0, q2, q4, q5, q6⟩ hb_ hon hoff
                  refine ⟨_, rfl, fun KK hK => ?_⟩
                  have hb2 : bb 2 = false := hoff 2 (by kernel_rfl)
                  have hb5 : bb 5 = false := hoff 5 (by kernel_rfl)
                  refine value_ (w1 := ww.alloc (.cells #[] 38)) (v := .slice (some ⟨ww.heap.size, 0, none⟩) 0 0) (by rfl) rfl ?_ ?_
                  · go_simp
                    try rfl
                  refine hK.out _ _ ⟨.slice (some ⟨ww.heap.size, 0, none⟩) 0 0, v2, v4, v5, v6, (by rw [ha]; exact putSel_upk 0 hb_ rfl rfl rfl), below_alloc hB _, fun _ _ => R_empty w ww wr.heap.size hB.size, ?_, ?_, ?_, ?_⟩
                  · intro h h'
                    rw [up_ne (by decide)] at h
                    rw [hb2] at h; cases h
                  · intro h h'
                    rw [up_ne (by decide)] at h
                    obtain ⟨g, e4, hg, _, d2⟩ := q4 h hb5
                    refine ⟨g, e4, blk_alloc hg _, fun _ _ e => ?_, fun h2 => ?_⟩
                    · have : g = ww.heap.size := by simpa [Value.ownBlock] using e
                      have := blk_lt hg
                      omega
                    · rw [up_ne (by decide), hb2] at h2; cases h2
                  · intro h
                    rw [up_ne (by decide), hb5] at h; cases h
                  · intro h; rw [up_ne (by decide)] at h; exact q6 h
                refine steps_cons ?_ ?_
                · rintro bb aa ww ⟨v0, v2, v4, v5, v6, ha, hB, q0, q2, q4, q5, q6⟩ hb_ hon hoff
                  refine ⟨_, rfl, fun KK hK => ?_⟩
                  have e0 : aa.tmps[0]? = some (.slice A0 l.length c0) := by rw [ha]; exact (putSel_off rfl).trans rfl
                  replace ha := Aside0.mk ha
                  refine value_ (w1 := ww) (v := .slice A0 l.length c0) (by rfl) rfl ?_ ?_
                  · go_simp
                    try rfl
                  refine hK.out _ _ ⟨v0, v2, v4, v5, v6, (by rw [ha.out]; exact putSel_upk 1 hb_ rfl rfl rfl), hB, ?_, ?_, ?_, ?_, ?_⟩
                  · intro h h'; rw [up_ne (by decide)] at h h'; exact q0 h h'
                  · intro h h'; rw [up_ne (by decide)] at h h'; exact q2 h h'
                  · intro h h'
                    rw [up_ne (by decide)] at h h'
                    obtain ⟨g, e4, hg, d0, d2⟩ := q4 h h'
                    exact ⟨g, e4, hg, fun h h' => by rw [up_ne (by decide)] at h h'; exact d0 h h', fun h => by rw [up_ne (by decide)] at h; exact d2 h⟩
                  · intro h; rw [up_ne (by decide)] at h; exact q5 h
                  · intro h; rw [up_ne (by decide)] at h; exact q6 h
                refine steps_cons ?_ ?_
                · rintro bb aa ww ⟨v0, v2, v4, v5, v6, ha, hB, q0, q2, q4, q5, q6⟩ hb_ hon hoff
                  refine ⟨_, rfl, fun KK hK => ?_⟩
                  have b0t : bb 0 = true := hon 0 (by kernel_rfl)
                  have b5f : bb 5 = false := hoff 5 (by kernel_rfl)
                  have e62 : aa.tmps[62]? = some v0 := by rw [ha]; exact putSel_on (e := (0, 62, v0)) 0 rfl rfl b0t rfl
                  have e63 : aa.tmps[63]? = some (.slice A0 l.length c0) := by rw [ha]; exact putSel_on (e := (1, 63, .slice A0 l.length c0)) 1 rfl rfl (hon 1 (by kernel_rfl)) rfl
                  have hww : Below w.heap.size w ww := HBW.out.trans (hB.mono HBW.out.size)
                  have r0 := q0 b0t hb_
                  refine Kd.R_append_rows_step (seen k38 w) (w0 := wr) (Rr := k38.K w) wr.heap.size (by rfl) (.tmp 62) (.tmp 63) 22 38 (.agg #[(.string ⟨#[]⟩), (.int .i64 0), (.string ⟨#[]⟩), (.slice none 0 0), (.slice none 0 0)]) 88 rfl Try.underlying22 bind_info rfl (show 0 < 5 by decide) (by decide) v0 [] l A0 l.length c0 (fun _ => True) (fun _ => False) (by simp [Act.eval, e62]) (by simp [Act.eval, e63]) r0 (ReadsRow.imp_ HR0.out hww (fun _ _ h => h)) (fun _ _ h => h) (fun _ h => h.elim) (fun _ _ => trivial) hB hB.size (by have := HLEN.out; simp; omega) ?_
                  intro v1 w1 p1 p2 p3 p4
                  refine hK.out _ _ ⟨v0, v1, v4, v5, v6, (by rw [ha]; exact putSel_upk 2 hb_ rfl rfl rfl), p2, ?_, ?_, ?_, ?_, ?_⟩
                  · intro h h'; rw [up_self] at h'; cases h'
                  · intro h h'; exact p1
                  · intro h h'
                    rw [up_ne (by decide)] at h h'
                    obtain ⟨g, e4, hg, d0, d2⟩ := q4 h h'
                    refine ⟨g, e4, blk_grown hg p3 (d0 b0t hb_), (fun h h' => by rw [up_self] at h'; cases h'), fun _ e => ?_⟩
                    rcases p4 with p4 | ⟨gb, p4, p5⟩
                    · exact d0 b0t hb_ (e.trans p4)
                    · rw [p4] at e
                      injection e with e
                      have := blk_lt hg
                      omega
                  · intro h; rw [up_ne (by decide), b5f] at h; cases h
                  · intro h; rw [up_ne (by decide)] at h; exact q6 h
                refine steps_cons ?_ ?_
                · rintro bb aa ww ⟨v0, v2, v4, v5, v6, ha, hB, q0, q2, q4, q5, q6⟩ hb_ hon hoff
                  refine ⟨_, rfl, fun KK hK => ?_⟩
                  have e3 : aa.tmps[3]? = some (.pointer (some ⟨w.heap.size, 0, none⟩)) := by rw [ha]; exact (putSel_off rfl).trans rfl
                  replace ha := Aside0.mk ha
                  have hcw := X.cells5 (blk_below KB6.out hB)
                  refine value_ (w1 := ww) (v := .agg #[.string b.f0, .int .i64 b.f1.f0, .string b.f1.f1, .slice A3 b.f1.f2.length c3, .slice A4 b.f1.f3.length c4]) (by rfl) rfl ?_ ?_
                  · go_simp
                    try rfl
                  refine hK.out _ _ ⟨v0, v2, v4, v5, v6, (by rw [ha.out]; exact putSel_upk 3 hb_ rfl rfl rfl), hB, ?_, ?_, ?_, ?_, ?_⟩
                  · intro h h'; rw [up_ne (by decide)] at h h'; exact q0 h h'
                  · intro h h'; rw [up_ne (by decide)] at h h'; exact q2 h h'
                  · intro h h'
                    rw [up_ne (by decide)] at h h'
                    obtain ⟨g, e4, hg, d0, d2⟩ := q4 h h'
                    exact ⟨g, e4, hg, fun h h' => by rw [up_ne (by decide)] at h h'; exact d0 h h', fun h => by rw [up_ne (by decide)] at h; exact d2 h⟩
                  · intro h; rw [up_ne (by decide)] at h; exact q5 h
                  · intro h; rw [up_ne (by decide)] at h; exact q6 h
                refine steps_cons ?_ ?_
                · rintro bb aa ww ⟨v0, v2, v4, v5, v6, ha, hB, q0, q2, q4, q5, q6⟩ hb_ hon hoff
                  refine ⟨_, rfl, fun KK hK => ?_⟩
                  have b5f : bb 5 = false := hoff 5 (by kernel_rfl)
                  have e65 : aa.tmps[65]? = some (.agg #[.string b.f0, .int .i64 b.f1.f0, .string b.f1.f1, .slice A3 b.f1.f2.length c3, .slice A4 b.f1.f3.length c4]) := by rw [ha]; exact putSel_on (e := (3, 65, .agg #[.string b.f0, .int .i64 b.f1.f0, .string b.f1.f1, .slice A3 b.f1.f2.length c3, .slice A4 b.f1.f3.length c4])) 3 rfl rfl (hon 3 (by kernel_rfl)) rfl
                  replace ha := Aside0.mk ha
                  refine value_ (w1 := ww.alloc (.cells #[.string b.f0, .int .i64 b.f1.f0, .string b.f1.f1, .slice A3 b.f1.f2.length c3, .slice A4 b.f1.f3.length c4] 38)) (v := .slice (some ⟨ww.heap.size, 0, none⟩) 1 1) (by rfl) rfl ?_ ?_
                  · go_simp
                    try rfl
                  refine hK.out _ _ ⟨v0, v2, .slice (some ⟨ww.heap.size, 0, none⟩) 1 1, v5, v6, (by rw [ha.out]; exact putSel_upk 4 hb_ rfl rfl rfl), below_alloc hB _, ?_, ?_, ?_, ?_, ?_⟩
                  · intro h h'; rw [up_ne (by decide)] at h h'; exact Kd.R_alloc (q0 h h') _
                  · intro h h'; rw [up_ne (by decide)] at h h'; exact Kd.R_alloc (q2 h h') _
                  · intro h h'
                    refine ⟨ww.heap.size, rfl, blk_new ww _, fun h h' e => ?_, fun h e => ?_⟩
                    · rw [up_ne (by decide)] at h h'
                      exact absurd (Kd.R_lt (q0 h h') _ e.symm) (Nat.lt_irrefl _)
                    · rw [up_ne (by decide)] at h
                      exact absurd (Kd.R_lt (q2 h b5f) _ e.symm) (Nat.lt_irrefl _)
                  · intro h; rw [up_ne (by decide), b5f] at h; cases h
                  · intro h; rw [up_ne (by decide)] at h; exact q6 h
                refine steps_cons ?_ ?_
                · rintro bb aa ww ⟨v0, v2, v4, v5, v6, ha, hB, q0, q2, q4, q5, q6⟩ hb_ hon hoff
                  refine ⟨_, rfl, fun KK hK => ?_⟩
                  have b2t : bb 2 = true := hon 2 (by kernel_rfl)
                  obtain ⟨g, rfl, hg, d0, d2⟩ := q4 (hon 4 (by kernel_rfl)) hb_
                  have e64 : aa.tmps[64]? = some v2 := by rw [ha]; exact putSel_on (e := (2, 64, v2)) 2 rfl rfl b2t rfl
                  have e66 : aa.tmps[66]? = some (.slice (some ⟨g, 0, none⟩) 1 1) := by rw [ha]; exact putSel_on (e := (4, 66, .slice (some ⟨g, 0, none⟩) 1 1)) 4 rfl rfl (hon 4 (by kernel_rfl)) rfl
                  have r2 := q2 b2t hb_
                  refine Kd.R_append_rows_step (seen k38 w) (w0 := wr) (Rr := k38.K w) wr.heap.size (by rfl) (.tmp 64) (.tmp 66) 22 38 (.agg #[(.string ⟨#[]⟩), (.int .i64 0), (.string ⟨#[]⟩), (.slice none 0 0), (.slice none 0 0)]) 88 rfl Try.underlying22 bind_info rfl (show 0 < 5 by decide) (by decide) v2 l [b] (some ⟨g, 0, none⟩) 1 1 (fun _ => True) (fun _ => False) (by simp [Act.eval, e64]) (by simp [Act.eval, e66]) r2 (rows_one (k38_mk w b L3.out G3.out L4.out G4.out) hg) (fun _ _ h => h) (fun _ h => h.elim) (fun _ _ => trivial) hB hB.size (by have := HLEN.out; omega) ?_
                  intro v1 w1 p1 p2 p3 p4
                  have h6 : bb 6 = false := hoff 6 (by kernel_rfl)
                  refine hK.out _ _ ⟨v0, v2, .slice (some ⟨g, 0, none⟩) 1 1, v1, v6, (by rw [ha]; exact putSel_upk 5 hb_ rfl rfl rfl), p2, ?_, ?_, ?_, ?_, ?_⟩
                  · intro h h'; rw [up_ne (by decide), b2t] at h'; cases h'
                  · intro h h'; rw [up_self] at h'; cases h'
                  · intro h h'; rw [up_self] at h'; cases h'
                  · intro h; exact p1
                  · intro h; rw [up_ne (by decide), h6] at h; cases h
                refine steps_cons ?_ ?_
                · rintro bb aa ww ⟨v0, v2, v4, v5, v6, ha, hB, q0, q2, q4, q5, q6⟩ hb_ hon hoff
                  refine ⟨_, rfl, fun KK hK => ?_⟩
                  have b5t : bb 5 = true := hon 5 (by kernel_rfl)
                  have e67 : aa.tmps[67]? = some v5 := by rw [ha]; exact putSel_on (e := (5, 67, v5)) 5 rfl rfl b5t rfl
                  replace ha := Aside0.mk ha
                  refine value_ (w1 := ww) (v := v5) (by rfl) rfl ?_ ?_
                  · go_simp
                    try rfl
                  refine hK.out _ _ ⟨v0, v2, v4, v5, v5, (by rw [ha.out]; exact putSel_upk 6 hb_ rfl rfl rfl), hB, ?_, ?_, ?_, ?_, ?_⟩
                  · intro h h'; rw [up_ne (by decide)] at h h'; exact q0 h h'
                  · intro h h'; rw [up_ne (by decide), b5t] at h'; cases h'
                  · intro h h'; rw [up_ne (by decide), b5t] at h'; cases h'
                  · intro h; exact q5 b5t
                  · intro h; rfl
                exact steps_nil
              rintro bb aa ww hall ⟨v0, v2, v4, v5, v6, ha, hB, q0, q2, q4, q5, q6⟩
              have r5 := q5 (hall 5 (by kernel_rfl))
              obtain rfl := q6 (hall 6 (by kernel_rfl))
              have hb0_ := hall 0 (by kernel_rfl)
              have hb1_ := hall 1 (by kernel_rfl)
              have hb2_ := hall 2 (by kernel_rfl)
              have hb3_ := hall 3 (by kernel_rfl)
              have hb4_ := hall 4 (by kernel_rfl)
              have hb5_ := hall 5 (by kernel_rfl)
              have hb6_ := hall 6 (by kernel_rfl)
              subst ha
              simp only [putSel, hb0_, hb1_, hb2_, hb3_, hb4_, hb5_, hb6_, if_true, Act.put, List.setIfInBounds_toArray, List.set_cons_zero, List.set_cons_succ]
              obtain ⟨A7, c7, hv7, l7, g7⟩ := Kd.R_reads r5
              subst hv7
              have hww : Below w.heap.size w ww := HBW.out.trans (hB.mono HBW.out.size)
              have G7 := Aside0.mk (C_seen g7 hww)
              have L7 := Aside0.mk l7
              have HBB := Aside0.mk hww
              have hB6 := hB
              have G6 := Aside0.mk (Kd.C_below HR6.out hB)
              have G5' := Aside0.mk (Kd.C_below (Kd.C_below G5.out HB6.out) hB)
              have hcb := X.cells5 (blk_below KB6.out hB)
              have ml6 : modestB l.reverse := ⟨by rw [List.length_reverse]; exact ML.out.1, fun x hx => ML.out.2 x (List.mem_reverse.1 hx)⟩
              have ml7 : modestB (l ++ [b]) := ⟨by rw [List.length_append, List.length_singleton]; have := HLEN.out; omega, fun x hx => by
                rcases List.mem_append.1 hx with h | h
                · exact ML.out.2 x h
                · exact MB.out.2 x h⟩
              have ML6 := Aside0.mk ml6
              have ML7 := Aside0.mk ml7
              clear hall hb0_ hb1_ hb2_ hb3_ hb4_ hb5_ hb6_ q0 q2 q4 q5 q6 hB r5 g7 l7 hww ml6 ml7
              generalize hln : (l ++ [b]).length = n7
              have HLN := Aside0.mk hln
              clear hln
              cases on with
              | false =>
                go_wp2_with fail
                refine (rhas_any A5 c5 (namesA l) b.f0 ww G5'.out L5.out (by unfold namesA; rw [List.length_map]; have := HLEN.out; omega)).mono ?_
                rintro e w8 ⟨rfl, hb⟩
                have HB8 := Aside0.mk (below_step HBB.out hb)
                have G8 := Aside0.mk (Kd.C_below G7.out hb)
                clear hb
                cases hhs : hasN (namesA l) b.f0 with
                | false =>
                  go_wp2_with fail
                  go_ret
                  exact ⟨rfl, HB8.out⟩
                | true =>
                  have hv := same_of A0 c0 l A7 c7 (l ++ [b]) w8 (Kd.C_below HR0.out HB8.out) G8.out ML.out ML7.out
                  rw [HLN.out, same_snoc hhs] at hv
                  have HV := Aside0.mk hv
                  clear hv
                  go_wp2_with fail
                  refine HV.out.mono ?_
                  rintro e w9 ⟨rfl, hb⟩
                  have HB9 := Aside0.mk (below_step HB8.out hb)
                  clear hb
                  go_wp2_with fail
                  go_ret
                  exact ⟨rfl, HB9.out⟩
              | true =>
                have hv := same_of A0 c0 l A6 c6 l.reverse ww (Kd.C_below HR0.out HBB.out) (by rw [List.length_reverse]; exact G6.out) ML.out ML6.out
                rw [List.length_reverse, same_reverse HOO.out.symm] at hv
                have HV0 := Aside0.mk hv
                clear hv
                go_wp2_with fail
                refine HV0.out.mono ?_
                rintro e w7 ⟨rfl, hb⟩
                have HB7 := Aside0.mk (below_step HBB.out hb)
                have G5s := Aside0.mk (Kd.C_below G5'.out hb)
                have G7s := Aside0.mk (Kd.C_below G7.out hb)
                have hcb' := X.cells5 (blk_below (blk_below KB6.out hB6) hb)
                clear hb hcb
                go_wp2_with fail
                refine (rhas_any A5 c5 (namesA l) b.f0 w7 G5s.out L5.out (by unfold namesA; rw [List.length_map]; have := HLEN.out; omega)).mono ?_
                rintro e w8 ⟨rfl, hb⟩
                have HB8 := Aside0.mk (below_step HB7.out hb)
                have G8 := Aside0.mk (Kd.C_below G7s.out hb)
                clear hb
                cases hhs : hasN (namesA l) b.f0 with
                | false =>
                  go_wp2_with fail
                  go_ret
                  exact ⟨rfl, HB8.out⟩
                | true =>
                  have hv := same_of A0 c0 l A7 c7 (l ++ [b]) w8 (Kd.C_below HR0.out HB8.out) G8.out ML.out ML7.out
                  rw [HLN.out, same_snoc hhs] at hv
                  have HV := Aside0.mk hv
                  clear hv
                  go_wp2_with fail
                  refine HV.out.mono ?_
                  rintro e w9 ⟨rfl, hb⟩
                  have HB9 := Aside0.mk (below_step HB8.out hb)
                  clear hb
                  go_wp2_with fail
                  go_ret
                  exact ⟨rfl, HB9.out⟩
            | succ j =>
              have hlt : j < l.length := by omega
              rw [show ((j + 1 : Nat) : Int) - 1 = (j : Int) from by omega]
              obtain ⟨ad, E3, f3, E4, f4, ead, x0, x1, x2, x3, x4, l3, g3, l4, g4⟩ := at_T38 HR0.out (j : Int) (by omega) (by omega)
              subst ead
              rw [Int.toNat_natCast] at x0 x1 x2 x3 x4
              rw [rdb_at l j hlt] at x0 x1 x2 x3 x4 l3 g3 l4 g4
              have hrv : l.reverse.take (l.length - j) = l.reverse.take (l.length - (j + 1)) ++ [l[j]] := by
                rw [show l.length - j = l.length - (j + 1) + 1 from by omega, List.take_succ_eq_append_getElem (by rw [List.length_reverse]; omega)]
                congr 2
                rw [List.getElem_reverse]
                congr 1
                omega
              have hM : k38.K w l[j] [.string l[j].f0, .int .i64 l[j].f1.f0, .string l[j].f1.f1, .slice E3 l[j].f1.f2.length f3, .slice E4 l[j].f1.f3.length f4] := k38_mk w l[j] l3 g3 l4 g4
              obtain ⟨x, hx⟩ : ∃ x, x = l[j] := ⟨_, rfl⟩
              rw [← hx] at x0 x1 x2 x3 x4 hrv hM
              have hbl : (l.reverse.take (l.length - (j + 1))).length ≤ 20 := by rw [List.length_take, List.length_reverse]; omega
              obtain ⟨bs, hbs⟩ : ∃ bs, bs = l.reverse.take (l.length - (j + 1)) := ⟨_, rfl⟩
              rw [← hbs] at hrv hR hbl
              have y0 := addr_keep hbw x0
              have y1 := addr_keep hbw x1
              have y2 := addr_keep hbw x2
              have y3 := addr_keep hbw x3
              have y4 := addr_keep hbw x4
              have hge : decide ((j : Int) ≥ 0) = true := decide_eq_true (by omega)
              have hge2 : decide (0 ≤ (j : Int)) = true := decide_eq_true (by omega)
              have HM := Aside0.mk (show (seen k38 w).M wr wq.heap.size (fun _ => False) x [.string x.f0, .int .i64 x.f1.f0, .string x.f1.f1, .slice E3 x.f1.f2.length f3, .slice E4 x.f1.f3.length f4] from hM)
              have HU := Aside0.mk hR
              have HBW := Aside0.mk hb
              have HRV := Aside0.mk hrv
              have HBS := Aside0.mk hbs
              have HXX := Aside0.mk hx
              have HBL := Aside0.mk hbl
              have HLT := Aside0.mk hlt
              clear x0 x1 x2 x3 x4 l3 g3 l4 g4 hrv hM hx hbs hR hb hbw hbl
              go_wp2_with (at_builtin; refine Kd.R_append (seen k38 w) (w0 := wq) wq.heap.size rfl (.tmp 55) (.tmp 60) 22 38 (.agg #[(.string ⟨#[]⟩), (.int .i64 0), (.string ⟨#[]⟩), (.slice none 0 0), (.slice none 0 0)]) 88 rfl Try.underlying22 bind_info rfl (show 0 < 5 by decide) (by decide) u bs x [.string x.f0, .int .i64 x.f1.f0, .string x.f1.f1, .slice E3 x.f1.f2.length f3, .slice E4 x.f1.f3.length f4] (fun _ => True) (fun _ => False) rfl rfl HM.out (fun _ h => h.elim) (fun _ _ => trivial) HU.out HBW.out (below_size HBW.out) (by have := HBL.out; omega) ?_; intro v1 wz q1 q2 _ _; have HQ := Aside0.mk q1; have HF1 := Aside0.mk q2; clear q1 q2)
              go_roundw
              case rel => exact ⟨j, _, by have := HLT.out; omega, rfl, by go_num, HF1.out, by rw [HRV.out]; exact HQ.out⟩
              case measure => have := HLT.out; first | (simp [intOf]; done) | (simp [intOf]; omega)
end Go.Proofs.Ytfaiplbogchgjaa.PA
end
section
namespace Go.Proofs.Ytfaiplbogchgjaa.PA
set_option linter.unusedSimpArgs false
set_option linter.unusedVariables false
open Go.RowKit Go.Joins Go.WideShapes Go.ChangeShapes Go.Proofs.YtfaiplbogchgjaaW.PrintWords X
theorem down_pair : Down Try.prog k50 (fun x => x.f0.size ≤ maxLen ∧ x.f1.size ≤ maxLen) 50 :=
  down_iso (fun p => ⟨p.1, p.2⟩) (fun _ => rfl) (down_struct Try.underlying50 (fdown_cons (down_string Try.underlying9) rfl (by kernel_rfl) (fdown_one (down_string Try.underlying9) rfl (by kernel_rfl))) (by kernel_rfl))
def okV (x : S28) : Prop := (Lit.int .i64 x.f0).wf = true ∧ x.f1.size ≤ maxLen ∧ (∀ y ∈ x.f2, y.size ≤ maxLen) ∧ ∀ y ∈ x.f3, y.f0.size ≤ maxLen ∧ y.f1.size ≤ maxLen
set_option maxRecDepth 100000 in
theorem down_value : Down Try.prog k28 okV 28 :=
  down_iso (fun p => ⟨p.1, p.2.1, p.2.2.1, p.2.2.2⟩) (fun _ => rfl) (down_struct Try.underlying28 (fdown_cons (down_int Try.underlying3) rfl (by kernel_rfl) (fdown_cons (down_string Try.underlying9) rfl (by kernel_rfl) (fdown_cons (down_slice Try.underlying25 (down_string Try.underlying9) (by kernel_rfl)) rfl (by kernel_rfl) (fdown_one (down_slice Try.underlying26 down_pair (by kernel_rfl)) rfl (by kernel_rfl))))) (by kernel_rfl))
set_option maxRecDepth 100000 in
theorem down_bind : Down Try.prog k38 (fun x => x.f0.size ≤ maxLen ∧ okV x.f1) 38 :=
  down_iso (fun p => ⟨p.1, p.2⟩) (fun _ => rfl) (down_struct Try.underlying38 (fdown_cons (down_string Try.underlying9) rfl (by kernel_rfl) (fdown_one down_value rfl (by kernel_rfl))) (by kernel_rfl))
set_option maxRecDepth 100000 in
theorem arg_bind {H : Type} {enc : TypeId × Value → H} {w : World} {r : Reach} {b0 base : Nat} {spare : Nat → Bool} {held : Bool} {v : Value} {x : DataW H} {p : List MemPlace} (hv : Value.okWide Try.prog w r b0 38 v) (h : DataW.Trod enc Try.prog w base spare held 38 v x p) :
    ∃ (nm : ByteArray) (k : Int) (s : ByteArray) (A0 : Option Addr) (l : List ByteArray) (c0 : Nat) (A1 : Option Addr) (q : List S50) (c1 : Nat), v = .agg #[.string nm, .int .i64 k, .string s, .slice A0 l.length c0, .slice A1 q.length c1] ∧ nm.size ≤ maxLen ∧ (Lit.int .i64 k).wf = true ∧
      Kd.C Kd.string w A0 l.length l ∧ l.length ≤ c0 ∧ Kd.C k50 w A1 q.length q ∧ q.length ≤ c1 := by
  obtain ⟨y, cs, rfl, hk, h1, h2⟩ := arg_struct Try.underlying38 down_bind hv h
  obtain ⟨A2, c2, A3, c3, e, l2, g2, l3, g3⟩ := k38_open hk
  refine ⟨y.f0, y.f1.f0, y.f1.f1, A2, y.f1.f2, c2, A3, y.f1.f3, c3, ?_, h1, h2.1, g2, l2, g3, l3⟩
  rw [show cs = #[.string y.f0, .int .i64 y.f1.f0, .string y.f1.f1, .slice A2 y.f1.f2.length c2, .slice A3 y.f1.f3.length c3] from by rw [← Array.toArray_toList (xs := cs), e]]
end Go.Proofs.Ytfaiplbogchgjaa.PA
end
section
namespace Go.Proofs.Ytfaiplbogchgjaa.bindTurn
open Go.ChangeShapes Go.WideShapes Go.ChangeAt Go.RowKit
open Go.ChangeMaps (open_string shut_string)
set_option linter.unusedVariables false
theorem own : ownKnob Try.prog.godebug = none := by kernel_rfl
theorem laidOut : laidOutB Try.prog = true := by kernel_rfl
set_option maxRecDepth 100000 in
theorem lifted (os : Os) (started : os.Started) (H : Type) (enc : TypeId × Value → H) :
    ReturnsInHanded {} Try.checked os 5 .any (Rows.bindTurnSpec.pre6 enc Try.prog Try.f5 Rows.bindTurnRow.domain false) (Rows.bindTurnSpec.post enc Try.prog Try.f5 false true false false) := by
  refine returnsInHanded_of_change_sized (C := Try.checked) own started (by kernel_rfl) Try.func5
    (ChangeSpec.witness6 (enc := enc) (C := Try.checked) false ⟨#[], #[.slice none 0 0, .agg #[.string ByteArray.empty, .int .i64 0, .string ByteArray.empty, .slice none 0 0, .slice none 0 0]], []⟩ 8 (by kernel_rfl) (by kernel_rfl) (by kernel_rfl) (by kernel_rfl)) ?_
  intro W base args ds gs before hval0 hW hcnd _ _
  have hval : ∀ (j : Nat) t v, Try.f5.params[j]? = some t → args[j]? = some v → Value.okWide Try.prog W .any base t v := hval0
  have hW' := hW
  obtain ⟨p, q, hA0, hV, rfl, hfz, hnd⟩ := hW
  have hA : DataW.TrodAll enc Try.prog W 0 (fun _ => true) true Try.f5.params.toList args.toList ds p := hA0
  rw [Try.params5] at hA hval
  obtain ⟨v0, vs0, d0, ds0, p0, r0, hargs, rfl, rfl, h0, t0⟩ := trodAll_cons hA
  obtain ⟨v1, vs1, d1, ds1, p1, r1, rfl, rfl, rfl, h1, t1⟩ := trodAll_cons t0
  obtain ⟨rfl, rfl, rfl⟩ := trodAll_nil t1
  obtain rfl : args = #[v0, v1] := by cases args; simp_all
  obtain ⟨rfl, rfl⟩ := trodVars_none hV
  have k0 := h0
  have lt0 : ∀ x ∈ p0, x.block < W.heap.size := by obtain ⟨m, hm⟩ := k0; exact DataW.trod_lt m _ _ _ hm
  obtain ⟨A0, l0, c0, rfl, hc0, hl0, o0⟩ := X.arg_slice Try.underlying22 PA.down_bind (by kernel_rfl) (hval 0 22 v0 rfl rfl) h0
  have k1 := h1
  have lt1 : ∀ x ∈ p1, x.block < W.heap.size := by obtain ⟨m, hm⟩ := k1; exact DataW.trod_lt m _ _ _ hm
  obtain ⟨nm1, k1_, s1, A1, l1, c1, B1, q1, e1, rfl, y1, wk1, hl1, hc1, hq1, he1⟩ := PA.arg_bind (hval 1 38 v1 rfl rfl) h1
  refine (PA.BindTurn_walk W hl0 hc0 ⟨nm1, ⟨k1_, s1, l1, q1⟩⟩ hl1 hc1 hq1 he1).mono fun e W' ⟨he, bel⟩ => ?_
  subst he
  exact ⟨_, rfl, _, _, _, [], _, [], hW', trodAll_mk1 (shut_bool Try.underlying4 _), (trodAll_cons_mk (Below.trod laidOut (by kernel_rfl) (of_decide_eq_true (by kernel_rfl)) k0 bel lt0) (trodAll_cons_mk (Below.trod laidOut (by kernel_rfl) (of_decide_eq_true (by kernel_rfl)) k1 bel lt1) trodAll_mk0)), rfl, bel.frame _, fun h => by cases h⟩
theorem over : Rows.bindTurnRow.holds Try.pinned (OpenSpec.ofChange Rows.bindTurnSpec) :=
  OpenClaim.holds_of_wide 5 Try.f5 rfl rfl rfl rfl rfl rfl rfl ⟨rfl, rfl, rfl, rfl, rfl⟩ rfl rfl rfl rfl rfl (by kernel_rfl) Try.func5 (by kernel_rfl)
    (of_decide_eq_true (by kernel_rfl)) (by unfold Func.isWrapper; first | (rw [if_pos (by decide +kernel)]; kernel_rfl) | (rw [if_neg (by decide +kernel)]; exact ⟨rfl, rfl⟩))
    (fun os started H enc _ => lifted os started H enc)
end Go.Proofs.Ytfaiplbogchgjaa.bindTurn
namespace Go.Proofs.Ytfaiplbogchgjaa
theorem bindTurn_holds : Rows.BindTurnSaid := bindTurn.over
#print axioms bindTurn_holds
end Go.Proofs.Ytfaiplbogchgjaa
end
