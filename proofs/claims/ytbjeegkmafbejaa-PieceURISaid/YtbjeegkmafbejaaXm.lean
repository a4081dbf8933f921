/- Names of variables: vname.ends, Bad, End, May. -/
import Derived.Test.YtbjeegkmafbejaaXn
import Derived.WalkMore
namespace Go.Proofs.Ytbjeegkmafbejaa.X
set_option linter.unusedSimpArgs false
set_option linter.unusedVariables false
open Go.RowKit Go.Proofs.YtbjeegkmafbejaaW.PrintWords Go.Proofs.Ytbjeegkmafbejaa.Y
theorem nil_of_size_zero {s : ByteArray} (h : s.size = 0) : s.toList = [] := by
  rw [ByteArray.toList_eq]
  exact List.eq_nil_of_length_eq_zero (by simpa using h)
theorem size_zero_of_nil {s : ByteArray} (h : s.toList = []) : s.size = 0 := by
  rw [ByteArray.toList_eq] at h
  have := congrArg List.length h
  simpa using this
set_option maxHeartbeats 4000000 in
theorem vnameEnds_any (s : ByteArray) (w : World) (hs : s.size ≤ 100000000) : Calls Try.prog 83 #[.string s] w fun e w' => e = .returned (.tuple #[.int .i64 (Y.ends s).1, .int .i64 (Y.ends s).2]) ∧ Below w.heap.size w w' := by
  go_enter Try.func83, Try.ntmps83
  go_wp2_with fail
  apply wp_scope_straight
  go_wp2_with fail
  refine (word_any _).mono ?_
  rintro e w1 ⟨rfl, hb1⟩
  have HB1 := Aside0.mk hb1
  clear hb1
  go_wp2_with fail
  refine (hex_any _).mono ?_
  rintro e w2 ⟨rfl, hb2⟩
  have HB2 := Aside0.mk (below_step HB1.out hb2)
  clear hb2 HB1
  unfold Set4.val
  go_wp2_with fail
  apply wp_label
  go_wp2_with fail
  go_loopw [6, 7] (fun c d wr => ∃ a e : Nat, a ≤ s.size ∧ e ≤ a ∧ c = .int .i64 a ∧ d = .int .i64 e ∧ wr.heap[w2.heap.size]? = some (.cells wordSet.cells 85 (0, 0)) ∧ wr.heap[w2.heap.size + 1]? = some (.cells hexSet.cells 85 (0, 0)) ∧ Below w.heap.size w wr ∧ Aside0 (endsN s s.size a e = Y.ends s)) (fun c _ _ => (s.size - intOf c).toNat)
  case atStart =>
    exact ⟨0, 0, by omega, by omega, rfl, rfl, blk_alloc (blk_new _ _) _, blk_new2 _ _ _, below_alloc (below_alloc HB2.out _) _, ⟨rfl⟩⟩
  case round =>
    obtain ⟨a, e, ha, he, rfl, rfl, hw, hh, hb, hE⟩ := hrel
    have HW := Aside0.mk hw
    have HH := Aside0.mk hh
    have HB := Aside0.mk hb
    have c0 := blk_cell hw 0
    have c1 := blk_cell hw 1
    have c2 := blk_cell hw 2
    have c3 := blk_cell hw 3
    clear hw hh hb
    simp only [Set4.cells, List.getElem?_toArray, List.getElem?_cons_zero, List.getElem?_cons_succ] at c0 c1 c2 c3
    by_cases hlt : a < s.size
    · have r := bI_range s a
      have hb := bI_at s a hlt
      have HS := Aside0.mk (ends_step s s.size a e (by omega) hlt)
      rw [hb] at r
      have HX := Aside0.mk (word_has (s[a].toNat : Int) r.1 r.2)
      have hgo : decide ((a : Int) < (s.size : Int)) = true := decide_eq_true (by omega)
      cases hword : isWord (s[a].toNat : Int) with
      | true =>
        rw [hword] at HX
        have HN := Aside0.mk (show endsN s s.size (a + 1) (a + 1) = Y.ends s by rw [← hE.out, HS.out, hb, hword]; rfl)
        clear HS hE hb hword
        go_wp2_with fail
        refine (has_any wordSet _ _ r.1 r.2).mono ?_
        rintro e w3 ⟨rfl, hb3⟩
        rw [HX.out]
        have HB3 := Aside0.mk (below_step HB.out hb3)
        have HW3 := Aside0.mk (blk_below HW.out hb3)
        have HH3 := Aside0.mk (blk_below HH.out hb3)
        clear HB HW HH hb3 c0 c1 c2 c3
        go_wp2_with fail
        go_roundw
        case rel => exact ⟨a + 1, a + 1, by omega, by omega, by go_num, by go_num, HW3.out, HH3.out, HB3.out, HN⟩
        case measure => simp [intOf]; omega
      | false =>
        rw [hword] at HX
        have HS2 := Aside0.mk (show Y.ends s = _ by rw [← hE.out, HS.out, hb, hword, if_neg (by decide)])
        clear HS hE hb hword
        by_cases h46 : (s[a].toNat : Int) = 46 ∧ 0 < a ∧ a = e
        · obtain ⟨h46, hpos, rfl⟩ := h46
          have HN := Aside0.mk (show endsN s s.size (a + 1) a = Y.ends s by rw [HS2.out, if_pos ⟨h46, hpos, rfl⟩])
          have t0 : ((s[a].toNat : Int) == 46) = true := beq_iff_eq.2 h46
          have t1 : decide ((0 : Int) < (a : Int)) = true := decide_eq_true (by omega)
          clear HS2 h46
          go_wp2_with fail
          refine (has_any wordSet _ _ r.1 r.2).mono ?_
          rintro e w3 ⟨rfl, hb3⟩
          rw [HX.out]
          have HB3 := Aside0.mk (below_step HB.out hb3)
          have HW3 := Aside0.mk (blk_below HW.out hb3)
          have HH3 := Aside0.mk (blk_below HH.out hb3)
          clear HB HW HH hb3 c0 c1 c2 c3
          go_wp2_with fail
          go_roundw
          case rel => exact ⟨a + 1, a, by omega, by omega, by go_num, rfl, HW3.out, HH3.out, HB3.out, HN⟩
          case measure => simp [intOf]; omega
        · have HS3 := Aside0.mk (show Y.ends s = _ by rw [HS2.out, if_neg h46])
          clear HS2
          have hT := tri_ext s a (by omega)
          by_cases h46' : (s[a].toNat : Int) = 46
          · have t0 : ((s[a].toNat : Int) == 46) = true := beq_iff_eq.2 h46'
            have t37 : ((s[a].toNat : Int) == 37) = false := beq_eq_false_iff_ne.2 (by omega)
            have HT := Aside0.mk (show tri (s.extract a s.size) 0 = false by rw [hT]; unfold tri; rw [bI_at s a hlt, t37]; simp)
            have HN := Aside0.mk (show Y.ends s = (a, e) by
              rw [HS3.out, if_neg (by rw [← hT, HT.out]; decide), if_neg (by omega)])
            clear HS3 hT
            by_cases hpos : 0 < a
            · have t1 : decide ((0 : Int) < (a : Int)) = true := decide_eq_true (by omega)
              have t2 : ((a : Int) == (e : Int)) = false := beq_eq_false_iff_ne.2 (fun h => h46 ⟨h46', hpos, by omega⟩)
              clear h46 h46'
              go_wp2_with fail
              refine (has_any wordSet _ _ r.1 r.2).mono ?_
              rintro e w3 ⟨rfl, hb3⟩
              rw [HX.out]
              have HB3 := Aside0.mk (below_step HB.out hb3)
              have HW3 := Aside0.mk (blk_below HW.out hb3)
              have HH3 := Aside0.mk (blk_below HH.out hb3)
              clear HB HW HH hb3 c0 c1 c2 c3
              go_wp2_with fail
              refine (pctTriplet_any _ _).mono ?_
              rintro e w4 ⟨rfl, rfl⟩
              rw [HT.out]
              go_wp2_with fail
              rw [Exit.noGoto_ret]
              go_ret2
              exact ⟨by rw [HN.out]; first | rfl | (simp; done), HB3.out⟩
            · have t1 : decide ((0 : Int) < (a : Int)) = false := decide_eq_false (by omega)
              clear h46 h46'
              go_wp2_with fail
              refine (has_any wordSet _ _ r.1 r.2).mono ?_
              rintro e w3 ⟨rfl, hb3⟩
              rw [HX.out]
              have HB3 := Aside0.mk (below_step HB.out hb3)
              have HW3 := Aside0.mk (blk_below HW.out hb3)
              have HH3 := Aside0.mk (blk_below HH.out hb3)
              clear HB HW HH hb3 c0 c1 c2 c3
              go_wp2_with fail
              refine (pctTriplet_any _ _).mono ?_
              rintro e w4 ⟨rfl, rfl⟩
              rw [HT.out]
              go_wp2_with fail
              rw [Exit.noGoto_ret]
              go_ret2
              exact ⟨by rw [HN.out]; first | rfl | (simp; done), HB3.out⟩
          · have t0 : ((s[a].toNat : Int) == 46) = false := beq_eq_false_iff_ne.2 h46'
            clear h46 h46'
            cases htri : tri s a with
            | true =>
              have hin := tri_in htri
              have HT := Aside0.mk (show tri (s.extract a s.size) 0 = true by rw [hT]; exact htri)
              have HN := Aside0.mk (show endsN s s.size (a + 3) (a + 3) = Y.ends s by rw [HS3.out, if_pos htri])
              clear HS3 hT htri
              go_wp2_with fail
              refine (has_any wordSet _ _ r.1 r.2).mono ?_
              rintro e w3 ⟨rfl, hb3⟩
              rw [HX.out]
              have HB3 := Aside0.mk (below_step HB.out hb3)
              have HW3 := Aside0.mk (blk_below HW.out hb3)
              have HH3 := Aside0.mk (blk_below HH.out hb3)
              clear HB HW HH hb3 c0 c1 c2 c3
              go_wp2_with fail
              refine (pctTriplet_any _ _).mono ?_
              rintro e w4 ⟨rfl, rfl⟩
              rw [HT.out]
              go_wp2_with fail
              go_roundw
              case rel => exact ⟨a + 3, a + 3, by omega, by omega, by go_num, by go_num, HW3.out, HH3.out, HB3.out, HN⟩
              case measure => simp [intOf]; omega
            | false =>
              have HT := Aside0.mk (show tri (s.extract a s.size) 0 = false by rw [hT]; exact htri)
              have HS4 := Aside0.mk (show Y.ends s = _ by rw [HS3.out, if_neg (by rw [htri]; decide)])
              clear HS3 hT htri
              by_cases h37 : (s[a].toNat : Int) = 37
              · have t37 : ((s[a].toNat : Int) == 37) = true := beq_iff_eq.2 h37
                have HS5 := Aside0.mk (show Y.ends s = _ by rw [HS4.out, if_pos h37])
                clear HS4 h37
                by_cases hlt' : a + 1 < s.size
                · have r' := bI_range s (a + 1)
                  have hb' := bI_at s (a + 1) hlt'
                  rw [hb'] at r'
                  have HX' := Aside0.mk (hex_has (s[a + 1].toNat : Int) r'.1 r'.2)
                  have hgo' : decide (((a : Int) + 1) < (s.size : Int)) = true := decide_eq_true (by omega)
                  cases hx : isHex (s[a + 1].toNat : Int) with
                  | true =>
                    rw [hx] at HX'
                    have HN := Aside0.mk (show Y.ends s = (a + 2, e) by rw [HS5.out, if_pos ⟨hlt', by rw [hb', hx]⟩])
                    clear HS5 hb' hx
                    go_wp2_with fail
                    refine (has_any wordSet _ _ r.1 r.2).mono ?_
                    rintro e w3 ⟨rfl, hb3⟩
                    rw [HX.out]
                    have HB3 := Aside0.mk (below_step HB.out hb3)
                    have HW3 := Aside0.mk (blk_below HW.out hb3)
                    have HH3 := Aside0.mk (blk_below HH.out hb3)
                    clear HB HW HH hb3 c0 c1 c2 c3
                    go_wp2_with fail
                    refine (pctTriplet_any _ _).mono ?_
                    rintro e w4 ⟨rfl, rfl⟩
                    rw [HT.out]
                    have d0 := blk_cell HH3.out 0
                    have d1 := blk_cell HH3.out 1
                    have d2 := blk_cell HH3.out 2
                    have d3 := blk_cell HH3.out 3
                    simp only [Set4.cells, List.getElem?_toArray, List.getElem?_cons_zero, List.getElem?_cons_succ] at d0 d1 d2 d3
                    go_wp2_with fail
                    go_region_held3 (fun w' => w'.cell? ⟨w2.heap.size + 1, 0, none⟩ = some (.int .u64 hexSet.a) ∧ w'.cell? ⟨w2.heap.size + 1, 1, none⟩ = some (.int .u64 hexSet.b) ∧ w'.cell? ⟨w2.heap.size + 1, 2, none⟩ = some (.int .u64 hexSet.c) ∧ w'.cell? ⟨w2.heap.size + 1, 3, none⟩ = some (.int .u64 hexSet.d) ∧ Aside0 (Below w.heap.size w w')) (((try dsimp only); (try go_split_ands); (repeat' apply And.intro) <;> first | assumption | exact cell_keep hb (by assumption) | exact ⟨below_step (Aside0.out (by assumption)) hb⟩ | exact ⟨below_step (Below.drew (Aside0.out (by assumption))) hb⟩ | exact ⟨Below.drew (Aside0.out (by assumption))⟩)) (first | (go_at_call 64; refine (has_any hexSet _ _ r'.1 r'.2).mono ?_; rintro e w' ⟨rfl, hb⟩; rw [HX'.out]))
                    all_goals go_wp2
                    all_goals (rw [Exit.noGoto_ret])
                    all_goals go_ret2
                    all_goals exact ⟨by rw [HN.out]; first | rfl | (simp; done), Aside0.out (And.right (And.right (And.right (And.right (by assumption)))))⟩
                  | false =>
                    rw [hx] at HX'
                    have HN := Aside0.mk (show Y.ends s = (a + 1, e) by rw [HS5.out, if_neg (fun h => by rw [hb', hx] at h; exact absurd h.2 (by decide))])
                    clear HS5 hb' hx
                    go_wp2_with fail
                    refine (has_any wordSet _ _ r.1 r.2).mono ?_
                    rintro e w3 ⟨rfl, hb3⟩
                    rw [HX.out]
                    have HB3 := Aside0.mk (below_step HB.out hb3)
                    have HW3 := Aside0.mk (blk_below HW.out hb3)
                    have HH3 := Aside0.mk (blk_below HH.out hb3)
                    clear HB HW HH hb3 c0 c1 c2 c3
                    go_wp2_with fail
                    refine (pctTriplet_any _ _).mono ?_
                    rintro e w4 ⟨rfl, rfl⟩
                    rw [HT.out]
                    have d0 := blk_cell HH3.out 0
                    have d1 := blk_cell HH3.out 1
                    have d2 := blk_cell HH3.out 2
                    have d3 := blk_cell HH3.out 3
                    simp only [Set4.cells, List.getElem?_toArray, List.getElem?_cons_zero, List.getElem?_cons_succ] at d0 d1 d2 d3
                    go_wp2_with fail
                    go_region_held3 (fun w' => w'.cell? ⟨w2.heap.size + 1, 0, none⟩ = some (.int .u64 hexSet.a) ∧ w'.cell? ⟨w2.heap.size + 1, 1, none⟩ = some (.int .u64 hexSet.b) ∧ w'.cell? ⟨w2.heap.size + 1, 2, none⟩ = some (.int .u64 hexSet.c) ∧ w'.cell? ⟨w2.heap.size + 1, 3, none⟩ = some (.int .u64 hexSet.d) ∧ Aside0 (Below w.heap.size w w')) (((try dsimp only); (try go_split_ands); (repeat' apply And.intro) <;> first | assumption | exact cell_keep hb (by assumption) | exact ⟨below_step (Aside0.out (by assumption)) hb⟩ | exact ⟨below_step (Below.drew (Aside0.out (by assumption))) hb⟩ | exact ⟨Below.drew (Aside0.out (by assumption))⟩)) (first | (go_at_call 64; refine (has_any hexSet _ _ r'.1 r'.2).mono ?_; rintro e w' ⟨rfl, hb⟩; rw [HX'.out]))
                    all_goals go_wp2
                    all_goals (rw [Exit.noGoto_ret])
                    all_goals go_ret2
                    all_goals exact ⟨by rw [HN.out]; first | rfl | (simp; done), Aside0.out (And.right (And.right (And.right (And.right (by assumption)))))⟩
                · have hgo' : decide (((a : Int) + 1) < (s.size : Int)) = false := decide_eq_false (by omega)
                  have HN := Aside0.mk (show Y.ends s = (a + 1, e) by rw [HS5.out, if_neg (fun h => hlt' h.1)])
                  clear HS5
                  go_wp2_with fail
                  refine (has_any wordSet _ _ r.1 r.2).mono ?_
                  rintro e w3 ⟨rfl, hb3⟩
                  rw [HX.out]
                  have HB3 := Aside0.mk (below_step HB.out hb3)
                  have HW3 := Aside0.mk (blk_below HW.out hb3)
                  have HH3 := Aside0.mk (blk_below HH.out hb3)
                  clear HB HW HH hb3 c0 c1 c2 c3
                  go_wp2_with fail
                  refine (pctTriplet_any _ _).mono ?_
                  rintro e w4 ⟨rfl, rfl⟩
                  rw [HT.out]
                  go_wp2_with fail
                  go_quiet (fail)
                  all_goals go_wp2
                  all_goals rw [Exit.noGoto_ret]
                  all_goals go_ret2
                  all_goals exact ⟨by rw [HN.out]; first | rfl | (simp; done), by first | exact HB3.out | exact HB3.out.drew | (apply pw_below_drewN; exact HB3.out)⟩
              · have t37 : ((s[a].toNat : Int) == 37) = false := beq_eq_false_iff_ne.2 h37
                have HN := Aside0.mk (show Y.ends s = (a, e) by rw [HS4.out, if_neg h37])
                clear HS4 h37
                go_wp2_with fail
                refine (has_any wordSet _ _ r.1 r.2).mono ?_
                rintro e w3 ⟨rfl, hb3⟩
                rw [HX.out]
                have HB3 := Aside0.mk (below_step HB.out hb3)
                have HW3 := Aside0.mk (blk_below HW.out hb3)
                have HH3 := Aside0.mk (blk_below HH.out hb3)
                clear HB HW HH hb3 c0 c1 c2 c3
                go_wp2_with fail
                refine (pctTriplet_any _ _).mono ?_
                rintro e w4 ⟨rfl, rfl⟩
                rw [HT.out]
                go_wp2_with fail
                rw [Exit.noGoto_ret]
                go_ret2
                exact ⟨by rw [HN.out]; first | rfl | (simp; done), HB3.out⟩
    · have hgo : decide ((a : Int) < (s.size : Int)) = false := decide_eq_false (by omega)
      have HN := Aside0.mk (show Y.ends s = (a, e) by rw [← hE.out, endsN_out _ _ _ _ hlt])
      clear hE
      go_wp2_with fail
      rw [Exit.noGoto_ret]
      go_ret2
      exact ⟨by rw [HN.out]; first | rfl | (simp; done), HB.out⟩
set_option maxHeartbeats 1600000 in
theorem vnameEnd_any (s : ByteArray) (w : World) (hs : s.size ≤ 100000000) : Calls Try.prog 70 #[.string s] w fun e w' => e = .returned (.int .i64 (Y.ends s).2) ∧ Below w.heap.size w w' := by
  go_enter Try.func70, Try.ntmps70
  go_wp2_with fail
  refine (vnameEnds_any s _ hs).mono ?_
  rintro e w1 ⟨rfl, hb⟩
  have HB := Aside0.mk hb
  clear hb
  go_wp2_with fail
  go_ret
  exact ⟨rfl, HB.out⟩
set_option maxHeartbeats 1600000 in
theorem vnameMay_any (s : ByteArray) (w : World) (hs : s.size ≤ 100000000) : Calls Try.prog 46 #[.string s] w fun e w' => e = .returned (.bool (nameMay s)) ∧ Below w.heap.size w w' := by
  by_cases h0 : s.toList = []
  · have HM := Aside0.mk (show nameMay s = false by unfold nameMay; rw [decide_eq_false (by rw [size_zero_of_nil h0]; omega)]; rfl)
    go_enter Try.func46, Try.ntmps46
    go_wp2_with fail
    go_ret
    exact ⟨by rw [HM.out]; rfl, Below.refl _ _⟩
  · have HM := Aside0.mk (show nameMay s = ((Y.ends s).2 == s.size) by unfold nameMay; rw [decide_eq_true (Nat.pos_of_ne_zero fun h => h0 (nil_of_size_zero h))]; rfl)
    go_enter Try.func46, Try.ntmps46
    go_wp2_with fail
    refine (vnameEnd_any s _ hs).mono ?_
    rintro e w1 ⟨rfl, hb⟩
    have HB := Aside0.mk hb
    clear hb
    go_wp2_with fail
    go_ret
    exact ⟨by
      have e : s.toList.isEmpty = false := by cases h : s.toList with
        | nil => exact absurd h h0
        | cons _ _ => rfl
      have e2 : (((Y.ends s).2 : Int) == (s.size : Int)) = ((Y.ends s).2 == s.size) := Bool.eq_iff_iff.2 (by simp [Int.ofNat_inj])
      rw [HM.out, ← e2]
      simp [e], HB.out⟩
end Go.Proofs.Ytbjeegkmafbejaa.X
