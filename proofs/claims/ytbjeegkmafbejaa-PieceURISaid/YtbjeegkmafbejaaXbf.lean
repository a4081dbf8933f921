/- Bytes as triplets, where what is reserved stays: pct.Encode. -/
import Derived.Test.YtbjeegkmafbejaaXbe
namespace Go.Proofs.Ytbjeegkmafbejaa.X
set_option linter.unusedSimpArgs false
set_option linter.unusedVariables false
open Go.RowKit Go.Proofs.YtbjeegkmafbejaaW.PrintWords Go.Proofs.YtbjeegkmafbejaaW.PrintLast Go.Proofs.YtbjeegkmafbejaaW.PrintMore Go.Proofs.Ytbjeegkmafbejaa.Y Go.Joins
theorem encTo_stay {keep : Bool} {s : ByteArray} {k : Nat} (hk : k < s.size) (h : (keep && tri s k) = true) : Lib.byteCells (encTo keep s (k + 1)) = Lib.byteCells (encTo keep s k) ++ [.int .u8 (s[k].toNat : Int)] := by
  rw [encTo_step]
  unfold pieceE Lib.byteCells
  rw [bI_at s k hk, h, Bool.or_true, if_pos rfl, List.map_append]
  simp
theorem builder_lt {B b : Nat} {bs : List Value} {w : World} (h : Lib.IsBuilder 90 5 B b bs w) : b < w.heap.size := by
  rcases h with ⟨_, v, hbk, _⟩ | ⟨_, v, hbk, _⟩ <;> exact block_lt hbk
def encodeU.T3 : Bool × List (List Nat × List Nat) := (true, [([], []), ([], []), ([0, 1], [0, 1]), ([2, 1], [2]), ([3, 3, 0, 1, 2, 3], [3])])
def encodeU.B3 : List Nat := [0, 0, 3, 7, 15]
theorem encodeU.tab3 : rtab .any (opsOf Try.f45 3) = encodeU.T3 := by kernel_rfl
theorem encodeU.bits3 : waitsOk encodeU.T3.2 encodeU.B3 = true := by kernel_rfl

set_option maxHeartbeats 1600000 in
set_option maxRecDepth 100000 in
theorem encode_keep (s : ByteArray) (w : World) (hs : s.size ≤ 1000000) : Calls Try.prog 45 #[.string s, .bool true] w fun e w' => e = .returned (.string ⟨(encTo true s s.size).toArray⟩) ∧ Below w.heap.size w w' := by
  go_enter Try.func45, Try.ntmps45
  go_wp2_with fail
  refine (unreserved_any _).mono ?_
  rintro e w1 ⟨rfl, hb1⟩
  have HB1 := Aside0.mk (below_alloc hb1 (.cells unreservedSet.cells 85))
  have HS1 := Aside0.mk (blk_new w1 (.cells unreservedSet.cells 85))
  have hs1 := hb1.size
  clear hb1
  unfold Set4.val
  go_wp2_with fail
  refine start_ (n := 5) (S := fun w' => True) (ds := []) #[false, false, false, false, false] (by kernel_rfl) rfl rfl trivial (fun hHeld => ?_)
  refine with_tabW encodeU.tab3 encodeU.bits3 (fun HT_ HW_ => ?_)
  have HS1 := Aside0.mk hs1
  refine inv_at [0, 1, 2, 3, 4] (fun a0_ b a w' => ∃ A : Value, a = putSel a0_ b [(0, 10, unreservedSet.val), (1, 11, reservedSet.val), (2, 12, A), (3, 13, (staySet true).val)] ∧ Below w.heap.size w w' ∧ (b 4 = false → w'.heap[w1.heap.size]? = some (.cells unreservedSet.cells 85 (0, 0))) ∧ (b 4 = true → w'.heap[w1.heap.size]? = some (.cells (staySet true).cells 85 (0, 0))) ∧ (b 2 = true → b 4 = false → ∃ g, A = .slice (some ⟨g, 0, none⟩) 2 2 ∧ g < w'.heap.size ∧ Row4 w' g [unreservedSet, reservedSet])) HT_.out HW_.out (by kernel_rfl) (by kernel_rfl) ?_ ?_ ?_
  · exact ⟨.bool false, by simp only [putSel, Bool.false_eq_true, if_false], below_drew1 HB1.out, fun _ => blk_drew (blk_new w1 _), fun h_ => absurd h_ (by decide), fun h_ _ => absurd h_ (by decide)⟩
  · clear hHeld HT_ HW_
    refine steps_cons ?_ ?_
    · rintro b a w' ⟨A, ha, HBW, Q0, Q4, Q2⟩ hb_ hon hoff
      refine ⟨_, rfl, fun K hK => ?_⟩
      have e5 : a.tmps[5]? = some (.pointer (some ⟨w1.heap.size, 0, none⟩)) := by rw [ha]; exact (putSel_off rfl).trans rfl
      replace ha := Aside0.mk ha
      have hc_ := Q0 (hoff 4 (by kernel_rfl))
      obtain ⟨c0_, c1_, c2_, c3_, _⟩ := cells4 hc_
      refine value_ (w1 := w') (v := unreservedSet.val) (by rfl) rfl ?_ ?_
      · unfold Set4.val; go_simp
        try rfl
      refine hK.out _ _ ⟨A, (by rw [ha.out]; exact putSel_upk 0 hb_ rfl rfl rfl), HBW, Q0, Q4, Q2⟩
    refine steps_cons ?_ ?_
    · rintro b a w' ⟨A, ha, HBW, Q0, Q4, Q2⟩ hb_ hon hoff
      refine ⟨_, rfl, fun K hK => ?_⟩
      replace ha := Aside0.mk ha
      refine goes_ Try.func63 (by kernel_rfl) rfl #[] (by rfl) rfl rfl (by simp) ?_
      refine (reserved_any w').mono ?_
      rintro e w3 ⟨rfl, hb⟩
      refine ⟨_, rfl, ?_⟩
      refine hK.out _ _ ⟨A, (by rw [ha.out]; exact putSel_upk 1 hb_ rfl rfl rfl), below_step HBW hb, fun h_ => blk_below (Q0 h_) hb, fun h_ => blk_below (Q4 h_) hb, (fun h_ h4_ => by obtain ⟨g, e_, hg, hr⟩ := Q2 h_ h4_; exact ⟨g, e_, Nat.lt_of_lt_of_le hg hb.size, hr.below hb hg⟩)⟩
    refine steps_cons ?_ ?_
    · rintro b a w' ⟨A, ha, HBW, Q0, Q4, Q2⟩ hb_ hon hoff
      refine ⟨_, rfl, fun K hK => ?_⟩
      have e10 : a.tmps[10]? = some (unreservedSet.val) := by rw [ha]; exact putSel_on (e := (0, 10, unreservedSet.val)) 0 rfl rfl (hon 0 (by kernel_rfl)) rfl
      have e11 : a.tmps[11]? = some (reservedSet.val) := by rw [ha]; exact putSel_on (e := (1, 11, reservedSet.val)) 1 rfl rfl (hon 1 (by kernel_rfl)) rfl
      replace ha := Aside0.mk ha
      unfold Set4.val at e10 e11
      have hb := X.below_new1 w' (.cells #[.int .u64 unreservedSet.a, .int .u64 unreservedSet.b, .int .u64 unreservedSet.c, .int .u64 unreservedSet.d, .int .u64 reservedSet.a, .int .u64 reservedSet.b, .int .u64 reservedSet.c, .int .u64 reservedSet.d] 85)
      refine value_ (w1 := w'.alloc (.cells #[.int .u64 unreservedSet.a, .int .u64 unreservedSet.b, .int .u64 unreservedSet.c, .int .u64 unreservedSet.d, .int .u64 reservedSet.a, .int .u64 reservedSet.b, .int .u64 reservedSet.c, .int .u64 reservedSet.d] 85)) (v := .slice (some ⟨w'.heap.size, 0, none⟩) 2 2) (by rfl) rfl ?_ ?_
      · go_simp
        try rfl
      refine hK.out _ _ ⟨.slice (some ⟨w'.heap.size, 0, none⟩) 2 2, (by rw [ha.out]; exact putSel_upk 2 hb_ rfl rfl rfl), below_step HBW hb, fun h_ => blk_below (Q0 h_) hb, fun h_ => blk_below (Q4 h_) hb, (fun _ _ => ⟨_, rfl, by simp, row4_two _ _ _ _⟩)⟩
    refine steps_cons ?_ ?_
    · rintro b a w' ⟨A, ha, HBW, Q0, Q4, Q2⟩ hb_ hon hoff
      refine ⟨_, rfl, fun K hK => ?_⟩
      obtain ⟨g, rfl, hg, hr⟩ := Q2 (hon 2 (by kernel_rfl)) (hoff 4 (by kernel_rfl))
      have e12 : a.tmps[12]? = some (.slice (some ⟨g, 0, none⟩) 2 2) := by rw [ha]; exact putSel_on (e := (2, 12, .slice (some ⟨g, 0, none⟩) 2 2)) 2 rfl rfl (hon 2 (by kernel_rfl)) rfl
      replace ha := Aside0.mk ha
      refine goes_ Try.func62 (by kernel_rfl) rfl #[.slice (some ⟨g, 0, none⟩) 2 2] (by rfl) rfl rfl (by simp only [List.map_toArray, List.map_cons, List.map_nil, Act.eval, Array.getD_eq_getD_getElem?, Option.getD_some, e12]) ?_
      refine (union_any [unreservedSet, reservedSet] _ w' (by simp) (by simp) hg hr).mono ?_
      rintro e w3 ⟨rfl, hb⟩
      refine ⟨_, rfl, ?_⟩
      refine hK.out _ _ ⟨_, (by rw [ha.out]; exact putSel_upk 3 hb_ rfl rfl rfl), below_step HBW hb, fun h_ => blk_below (Q0 h_) hb, fun h_ => blk_below (Q4 h_) hb, (fun _ _ => ⟨g, rfl, Nat.lt_of_lt_of_le hg hb.size, hr.below hb hg⟩)⟩
    refine steps_cons ?_ ?_
    · rintro b a w' ⟨A, ha, HBW, Q0, Q4, Q2⟩ hb_ hon hoff
      refine ⟨_, rfl, fun K hK => ?_⟩
      have e5 : a.tmps[5]? = some (.pointer (some ⟨w1.heap.size, 0, none⟩)) := by rw [ha]; exact (putSel_off rfl).trans rfl
      have e13 : a.tmps[13]? = some ((staySet true).val) := by rw [ha]; exact putSel_on (e := (3, 13, (staySet true).val)) 3 rfl rfl (hon 3 (by kernel_rfl)) rfl
      replace ha := Aside0.mk ha
      have hc_ := Q0 hb_
      obtain ⟨c0_, c1_, c2_, c3_, f0_, f1_, f2_, f3_⟩ := cells4 hc_
      unfold Set4.val at e13
      refine skip_ (w1 := (((w'.setCell ⟨w1.heap.size, 0, none⟩ (.int .u64 (staySet true).a)).setCell ⟨w1.heap.size, 1, none⟩ (.int .u64 (staySet true).b)).setCell ⟨w1.heap.size, 2, none⟩ (.int .u64 (staySet true).c)).setCell ⟨w1.heap.size, 3, none⟩ (.int .u64 (staySet true).d)) (by rfl) rfl ?_ ?_
      · go_simp
        try rfl
      refine hK.out _ _ ⟨A, (by rw [ha.out]; exact putSel_none (v := undef) rfl), ?_, ?_, ?_, ?_⟩
      · exact below_set (below_set (below_set (below_set HBW HS1.out) HS1.out) HS1.out) HS1.out
      · intro h_; exact absurd h_ (by rw [up_self]; decide)
      · intro _; exact blk_put (blk_put (blk_put (blk_put hc_ 0 _ rfl) 1 _ rfl) 2 _ rfl) 3 _ rfl
      · intro _ h_; exact absurd h_ (by rw [up_self]; decide)
    exact steps_nil
  rintro b a w5 hall ⟨A, ha, HBW, Q0, Q4, Q2⟩
  have HB5 := Aside0.mk HBW
  have HS5 := Aside0.mk (Q4 (hall 4 (by kernel_rfl)))
  have HLT5 := Aside0.mk (blk_lt HS5.out)
  have hs5 := HB5.out.size
  have hb0_ := hall 0 (by kernel_rfl)
  have hb1_ := hall 1 (by kernel_rfl)
  have hb2_ := hall 2 (by kernel_rfl)
  have hb3_ := hall 3 (by kernel_rfl)
  subst ha
  simp only [putSel, hb0_, hb1_, hb2_, hb3_, if_true, Act.put, List.setIfInBounds_toArray, List.set_cons_zero, List.set_cons_succ]
  clear hall hb0_ hb1_ hb2_ hb3_ HBW Q0 Q4 Q2
  go_wp2_with fail
  go_loopw [16] (fun c wr => ∃ k : Nat, k ≤ s.size ∧ c = .int .i64 k ∧ wr.heap[w1.heap.size]? = some (.cells (staySet true).cells 85 (0, 0)) ∧ Lib.IsBuilder 90 5 w5.heap.size w5.heap.size (Lib.byteCells (encTo true s k)) wr ∧ Below w.heap.size w wr) (fun c _ => (s.size - intOf c).toNat)
  case atStart =>
    refine ⟨0, by omega, by simp, blk_alloc HS5.out _, ?_, below_alloc HB5.out _⟩
    exact .inl ⟨Nat.le_refl _, .slice none 0 0, blk_new _ _, ⟨rfl, .inl ⟨rfl, rfl⟩⟩, by simp [Value.ownBlock]⟩
  case round =>
    obtain ⟨k, hk, rfl, hset, hbl, hb⟩ := hrel
    have HSET := Aside0.mk hset
    have HBL := Aside0.mk hbl
    have HB := Aside0.mk hb
    clear hset hbl hb
    by_cases hlt : k < s.size
    · have hc := bI_range s k
      have hbx := bI_at s k hlt
      obtain ⟨c0, c1, c2, c3, _⟩ := cells4 HSET.out
      rw [hbx] at hc
      cases hst : (staySet true).has (s[k].toNat : Int) with
      | true =>
        have HX := Aside0.mk hst
        clear hst
        go_wp2_with fail
        refine start_ (n := 14) (S := fun w' => True) (ds := []) #[false, false, false, false, false, false, false, false, false, false, false, false, false, false] (by kernel_rfl) rfl rfl trivial (fun hHeld => ?_)
        refine with_tabW encode.tab8 encode.bits8 (fun HT_ HW_ => ?_)
        refine inv_at [0, 1, 2, 3, 4, 5, 6, 7, 8, 9, 10, 11, 12, 13] (fun a0_ b a w' => a = putSel a0_ b [(0, 19, .agg #[.int .u64 (staySet true).a, .int .u64 (staySet true).b, .int .u64 (staySet true).c, .int .u64 (staySet true).d]), (1, 20, .string s), (2, 21, .int .i64 (k : Int)), (3, 22, .int .u8 (s[k].toNat : Int)), (4, 23, .bool true), (5, 24, .bool true), (6, 25, undef), (7, 26, undef), (8, 27, undef), (9, 28, undef), (10, 29, undef), (11, 30, undef), (12, 31, undef), (13, 32, .bool true)] ∧ Below wr.drew.heap.size wr.drew w') HT_.out HW_.out (by kernel_rfl) (by kernel_rfl) ?_ ?_ ?_
        · exact ⟨by simp only [putSel, Bool.false_eq_true, if_false], Below.refl _ _⟩
        · clear hHeld HT_ HW_
          refine steps_cons ?_ ?_
          · rintro b a w' ⟨ha, HBW⟩ hb_ hon hoff
            refine ⟨_, rfl, fun K hK => ?_⟩
            have e5 : a.tmps[5]? = some (.pointer (some ⟨w1.heap.size, 0, none⟩)) := by rw [ha]; exact (putSel_off rfl).trans rfl
            replace ha := Aside0.mk ha
            have HBW := Aside0.mk HBW
            have hc_ := blk_below (blk_drew HSET.out) HBW.out
            have hc0_ : w'.cell? ⟨w1.heap.size, 0, none⟩ = some (.int .u64 (staySet true).a) := (blk_cell hc_ 0).trans rfl
            have hc1_ : w'.cell? ⟨w1.heap.size, 1, none⟩ = some (.int .u64 (staySet true).b) := (blk_cell hc_ 1).trans rfl
            have hc2_ : w'.cell? ⟨w1.heap.size, 2, none⟩ = some (.int .u64 (staySet true).c) := (blk_cell hc_ 2).trans rfl
            have hc3_ : w'.cell? ⟨w1.heap.size, 3, none⟩ = some (.int .u64 (staySet true).d) := (blk_cell hc_ 3).trans rfl
            refine value_ (w1 := w') (v := .agg #[.int .u64 (staySet true).a, .int .u64 (staySet true).b, .int .u64 (staySet true).c, .int .u64 (staySet true).d]) (by rfl) rfl ?_ ?_
            · go_simp
              (try simp only [i64_w])
              try rfl
            refine hK.out _ _ ⟨(by rw [ha.out]; exact putSel_upk 0 hb_ rfl rfl rfl), HBW.out⟩
          refine steps_cons ?_ ?_
          · rintro b a w' ⟨ha, HBW⟩ hb_ hon hoff
            refine ⟨_, rfl, fun K hK => ?_⟩
            have e0 : a.tmps[0]? = some (.string s) := by rw [ha]; exact (putSel_off rfl).trans rfl
            replace ha := Aside0.mk ha
            have HBW := Aside0.mk HBW
            refine value_ (w1 := w') (v := .string s) (by rfl) rfl ?_ ?_
            · go_simp
              (try simp only [i64_w])
              try rfl
            refine hK.out _ _ ⟨(by rw [ha.out]; exact putSel_upk 1 hb_ rfl rfl rfl), HBW.out⟩
          refine steps_cons ?_ ?_
          · rintro b a w' ⟨ha, HBW⟩ hb_ hon hoff
            refine ⟨_, rfl, fun K hK => ?_⟩
            have e7 : a.tmps[7]? = some (.int .i64 (k : Int)) := by rw [ha]; exact (putSel_off rfl).trans rfl
            replace ha := Aside0.mk ha
            have HBW := Aside0.mk HBW
            refine value_ (w1 := w') (v := .int .i64 (k : Int)) (by rfl) rfl ?_ ?_
            · go_simp
              (try simp only [i64_w])
              try rfl
            refine hK.out _ _ ⟨(by rw [ha.out]; exact putSel_upk 2 hb_ rfl rfl rfl), HBW.out⟩
          refine steps_cons ?_ ?_
          · rintro b a w' ⟨ha, HBW⟩ hb_ hon hoff
            refine ⟨_, rfl, fun K hK => ?_⟩
            have e20 : a.tmps[20]? = some (.string s) := by rw [ha]; exact putSel_on (e := (1, 20, .string s)) 1 rfl rfl (hon 1 (by kernel_rfl)) rfl
            have e21 : a.tmps[21]? = some (.int .i64 (k : Int)) := by rw [ha]; exact putSel_on (e := (2, 21, .int .i64 (k : Int))) 2 rfl rfl (hon 2 (by kernel_rfl)) rfl
            replace ha := Aside0.mk ha
            have HBW := Aside0.mk HBW
            refine value_ (w1 := w') (v := .int .u8 (s[k].toNat : Int)) (by rfl) rfl ?_ ?_
            · go_simp
              (try simp only [i64_w])
              try rfl
            refine hK.out _ _ ⟨(by rw [ha.out]; exact putSel_upk 3 hb_ rfl rfl rfl), HBW.out⟩
          refine steps_cons ?_ ?_
          · rintro b a w' ⟨ha, HBW⟩ hb_ hon hoff
            refine ⟨_, rfl, fun K hK => ?_⟩
            have e19 : a.tmps[19]? = some (.agg #[.int .u64 (staySet true).a, .int .u64 (staySet true).b, .int .u64 (staySet true).c, .int .u64 (staySet true).d]) := by rw [ha]; exact putSel_on (e := (0, 19, .agg #[.int .u64 (staySet true).a, .int .u64 (staySet true).b, .int .u64 (staySet true).c, .int .u64 (staySet true).d])) 0 rfl rfl (hon 0 (by kernel_rfl)) rfl
            have e22 : a.tmps[22]? = some (.int .u8 (s[k].toNat : Int)) := by rw [ha]; exact putSel_on (e := (3, 22, .int .u8 (s[k].toNat : Int))) 3 rfl rfl (hon 3 (by kernel_rfl)) rfl
            replace ha := Aside0.mk ha
            have HBW := Aside0.mk HBW
            refine goes_ Try.func64 (by kernel_rfl) rfl #[.agg #[.int .u64 (staySet true).a, .int .u64 (staySet true).b, .int .u64 (staySet true).c, .int .u64 (staySet true).d], .int .u8 (s[k].toNat : Int)] (by rfl) rfl rfl (by first | (simp only [List.map_toArray, List.map_cons, List.map_nil, Act.eval, Array.getD_eq_getD_getElem?, Option.getD_some, e19, e22]; done) | (simp only [List.map_toArray, List.map_cons, List.map_nil, Act.eval, Array.getD_eq_getD_getElem?, Option.getD_some, e19, e22]; rfl)) ?_
            refine (has_any (staySet true) _ w' hc.1 hc.2).mono ?_
            rintro e w1 ⟨rfl, hb⟩
            rw [HX.out]
            refine ⟨_, rfl, ?_⟩
            refine hK.out _ _ ⟨(by rw [ha.out]; exact putSel_upk 4 hb_ rfl rfl rfl), below_step HBW.out hb⟩
          refine steps_cons ?_ ?_
          · rintro b a w' ⟨ha, HBW⟩ hb_ hon hoff
            refine ⟨_, rfl, fun K hK => ?_⟩
            have e23 : a.tmps[23]? = some (.bool true) := by rw [ha]; exact putSel_on (e := (4, 23, .bool true)) 4 rfl rfl (hon 4 (by kernel_rfl)) rfl
            replace ha := Aside0.mk ha
            have HBW := Aside0.mk HBW
            refine value_ (w1 := w') (v := .bool true) (by rfl) rfl ?_ ?_
            · go_simp
              (try simp only [i64_w])
              try rfl
            refine hK.out _ _ ⟨(by rw [ha.out]; exact putSel_upk 5 hb_ rfl rfl rfl), HBW.out⟩
          refine steps_cons ?_ ?_
          · rintro b a w' ⟨ha, HBW⟩ hb_ hon hoff
            refine ⟨_, rfl, fun K hK => ?_⟩
            have e24 : a.tmps[24]? = some (.bool true) := by rw [ha]; exact putSel_on (e := (5, 24, .bool true)) 5 rfl rfl (hon 5 (by kernel_rfl)) rfl
            replace ha := Aside0.mk ha
            have HBW := Aside0.mk HBW
            refine off_ (wanted_off rfl rfl rfl (e24.trans (by first | rfl | (simp [*]; done)))) ?_
            refine hK.out _ _ ⟨(by rw [ha.out]; exact putSel_upk 6 hb_ rfl rfl rfl), HBW.out⟩
          refine steps_cons ?_ ?_
          · rintro b a w' ⟨ha, HBW⟩ hb_ hon hoff
            refine ⟨_, rfl, fun K hK => ?_⟩
            have e24 : a.tmps[24]? = some (.bool true) := by rw [ha]; exact putSel_on (e := (5, 24, .bool true)) 5 rfl rfl (hon 5 (by kernel_rfl)) rfl
            replace ha := Aside0.mk ha
            have HBW := Aside0.mk HBW
            refine off_ (wanted_off rfl rfl rfl (e24.trans (by first | rfl | (simp [*]; done)))) ?_
            refine hK.out _ _ ⟨(by rw [ha.out]; exact putSel_upk 7 hb_ rfl rfl rfl), HBW.out⟩
          refine steps_cons ?_ ?_
          · rintro b a w' ⟨ha, HBW⟩ hb_ hon hoff
            refine ⟨_, rfl, fun K hK => ?_⟩
            have e26 : a.tmps[26]? = some (undef) := by rw [ha]; exact putSel_on (e := (7, 26, undef)) 7 rfl rfl (hon 7 (by kernel_rfl)) rfl
            replace ha := Aside0.mk ha
            have HBW := Aside0.mk HBW
            refine off_ (wanted_undef rfl rfl rfl e26) ?_
            refine hK.out _ _ ⟨(by rw [ha.out]; exact putSel_upk 8 hb_ rfl rfl rfl), HBW.out⟩
          refine steps_cons ?_ ?_
          · rintro b a w' ⟨ha, HBW⟩ hb_ hon hoff
            refine ⟨_, rfl, fun K hK => ?_⟩
            have e26 : a.tmps[26]? = some (undef) := by rw [ha]; exact putSel_on (e := (7, 26, undef)) 7 rfl rfl (hon 7 (by kernel_rfl)) rfl
            replace ha := Aside0.mk ha
            have HBW := Aside0.mk HBW
            refine off_ (wanted_undef rfl rfl rfl e26) ?_
            refine hK.out _ _ ⟨(by rw [ha.out]; exact putSel_upk 9 hb_ rfl rfl rfl), HBW.out⟩
          refine steps_cons ?_ ?_
          · rintro b a w' ⟨ha, HBW⟩ hb_ hon hoff
            refine ⟨_, rfl, fun K hK => ?_⟩
            have e26 : a.tmps[26]? = some (undef) := by rw [ha]; exact putSel_on (e := (7, 26, undef)) 7 rfl rfl (hon 7 (by kernel_rfl)) rfl
            replace ha := Aside0.mk ha
            have HBW := Aside0.mk HBW
            refine off_ (wanted_undef rfl rfl rfl e26) ?_
            refine hK.out _ _ ⟨(by rw [ha.out]; exact putSel_upk 10 hb_ rfl rfl rfl), HBW.out⟩
          refine steps_cons ?_ ?_
          · rintro b a w' ⟨ha, HBW⟩ hb_ hon hoff
            refine ⟨_, rfl, fun K hK => ?_⟩
            have e26 : a.tmps[26]? = some (undef) := by rw [ha]; exact putSel_on (e := (7, 26, undef)) 7 rfl rfl (hon 7 (by kernel_rfl)) rfl
            replace ha := Aside0.mk ha
            have HBW := Aside0.mk HBW
            refine off_ (wanted_undef rfl rfl rfl e26) ?_
            refine hK.out _ _ ⟨(by rw [ha.out]; exact putSel_upk 11 hb_ rfl rfl rfl), HBW.out⟩
          refine steps_cons ?_ ?_
          · rintro b a w' ⟨ha, HBW⟩ hb_ hon hoff
            refine ⟨_, rfl, fun K hK => ?_⟩
            have e24 : a.tmps[24]? = some (.bool true) := by rw [ha]; exact putSel_on (e := (5, 24, .bool true)) 5 rfl rfl (hon 5 (by kernel_rfl)) rfl
            replace ha := Aside0.mk ha
            have HBW := Aside0.mk HBW
            refine off_ (wanted_off rfl rfl rfl (e24.trans (by first | rfl | (simp [*]; done)))) ?_
            refine hK.out _ _ ⟨(by rw [ha.out]; exact putSel_upk 12 hb_ rfl rfl rfl), HBW.out⟩
          refine steps_cons ?_ ?_
          · rintro b a w' ⟨ha, HBW⟩ hb_ hon hoff
            refine ⟨_, rfl, fun K hK => ?_⟩
            have e24 : a.tmps[24]? = some (.bool true) := by rw [ha]; exact putSel_on (e := (5, 24, .bool true)) 5 rfl rfl (hon 5 (by kernel_rfl)) rfl
            replace ha := Aside0.mk ha
            have HBW := Aside0.mk HBW
            refine value_ (w1 := w') (v := .bool true) (by rfl) rfl ?_ ?_
            · go_simp
              (try simp only [i64_w])
              try rfl
            refine hK.out _ _ ⟨(by rw [ha.out]; exact putSel_upk 13 hb_ rfl rfl rfl), HBW.out⟩
          exact steps_nil
        rintro b a w5 hall ⟨ha, HBW⟩
        have hb0_ := hall 0 (by kernel_rfl)
        have hb1_ := hall 1 (by kernel_rfl)
        have hb2_ := hall 2 (by kernel_rfl)
        have hb3_ := hall 3 (by kernel_rfl)
        have hb4_ := hall 4 (by kernel_rfl)
        have hb5_ := hall 5 (by kernel_rfl)
        have hb6_ := hall 6 (by kernel_rfl)
        have hb7_ := hall 7 (by kernel_rfl)
        have hb8_ := hall 8 (by kernel_rfl)
        have hb9_ := hall 9 (by kernel_rfl)
        have hb10_ := hall 10 (by kernel_rfl)
        have hb11_ := hall 11 (by kernel_rfl)
        have hb12_ := hall 12 (by kernel_rfl)
        have hb13_ := hall 13 (by kernel_rfl)
        subst ha
        simp only [putSel, hb0_, hb1_, hb2_, hb3_, hb4_, hb5_, hb6_, hb7_, hb8_, hb9_, hb10_, hb11_, hb12_, hb13_, if_true, Act.put, List.setIfInBounds_toArray, List.set_cons_zero, List.set_cons_succ]
        have HBW := Aside0.mk HBW
        clear hall hb0_ hb1_ hb2_ hb3_ hb4_ hb5_ hb6_ hb7_ hb8_ hb9_ hb10_ hb11_ hb12_ hb13_
        have HB2 := Aside0.mk (below_step (below_drew1 HB.out) HBW.out)
        have HSET2 := Aside0.mk (blk_below (blk_drew HSET.out) HBW.out)
        have HBL2 := Aside0.mk (builder_below (w := wr.drew) HBL.out HBW.out)
        have HLT := Aside0.mk (builder_lt HBL2.out)
        have hw5 := HBW.out.size
        clear HBW HSET HBL
        go_wp2_with fail
        refine (writeByte_any _ _ _ _ _ HBL2.out (by have := encCells_len true s k; omega) (by have := HLT.out; omega)).mono ?_
        rintro e w6 ⟨rfl, hat, hb6⟩
        have HE := Aside0.mk (encTo_byte hlt HX.out)
        have HAT := Aside0.mk hat
        have HSET3 := Aside0.mk ((hb6.block _ HLT5.out).trans HSET2.out)
        have HB3 := Aside0.mk (HB2.out.trans (hb6.mono (by omega)))
        clear hat hb6 HB HB2 HSET2 HBL2
        go_wp2_with fail
        go_roundw
        case rel => exact ⟨k + 1, by omega, by go_num, HSET3.out, .inr (by rw [HE.out]; exact HAT.out), HB3.out⟩
        case measure => simp [intOf]; omega
      | false =>
        have HX := Aside0.mk hst
        clear hst
        have hext := tri_ext s k (by omega)
        cases htr : tri s k with
        | true =>
          rw [htr] at hext
          have HE := Aside0.mk hext
          have HE2 := Aside0.mk (show (true && tri s k) = true by rw [htr]; rfl)
          clear hext htr
          go_wp2_with fail
          refine start_ (n := 14) (S := fun w' => True) (ds := []) #[false, false, false, false, false, false, false, false, false, false, false, false, false, false] (by kernel_rfl) rfl rfl trivial (fun hHeld => ?_)
          refine with_tabW encode.tab8 encode.bits8 (fun HT_ HW_ => ?_)
          refine inv_at [0, 1, 2, 3, 4, 5, 6, 7, 8, 9, 10, 11, 12, 13] (fun a0_ b a w' => a = putSel a0_ b [(0, 19, .agg #[.int .u64 (staySet true).a, .int .u64 (staySet true).b, .int .u64 (staySet true).c, .int .u64 (staySet true).d]), (1, 20, .string s), (2, 21, .int .i64 (k : Int)), (3, 22, .int .u8 (s[k].toNat : Int)), (4, 23, .bool false), (5, 24, .bool false), (6, 25, .bool true), (7, 26, .bool true), (8, 27, .string s), (9, 28, .int .i64 (k : Int)), (10, 29, .string (s.extract k s.size)), (11, 30, .bool true), (12, 31, .bool true), (13, 32, .bool true)] ∧ Below wr.drew.heap.size wr.drew w') HT_.out HW_.out (by kernel_rfl) (by kernel_rfl) ?_ ?_ ?_
          · exact ⟨by simp only [putSel, Bool.false_eq_true, if_false], Below.refl _ _⟩
          · clear hHeld HT_ HW_
            refine steps_cons ?_ ?_
            · rintro b a w' ⟨ha, HBW⟩ hb_ hon hoff
              refine ⟨_, rfl, fun K hK => ?_⟩
              have e5 : a.tmps[5]? = some (.pointer (some ⟨w1.heap.size, 0, none⟩)) := by rw [ha]; exact (putSel_off rfl).trans rfl
              replace ha := Aside0.mk ha
              have HBW := Aside0.mk HBW
              have hc_ := blk_below (blk_drew HSET.out) HBW.out
              have hc0_ : w'.cell? ⟨w1.heap.size, 0, none⟩ = some (.int .u64 (staySet true).a) := (blk_cell hc_ 0).trans rfl
              have hc1_ : w'.cell? ⟨w1.heap.size, 1, none⟩ = some (.int .u64 (staySet true).b) := (blk_cell hc_ 1).trans rfl
              have hc2_ : w'.cell? ⟨w1.heap.size, 2, none⟩ = some (.int .u64 (staySet true).c) := (blk_cell hc_ 2).trans rfl
              have hc3_ : w'.cell? ⟨w1.heap.size, 3, none⟩ = some (.int .u64 (staySet true).d) := (blk_cell hc_ 3).trans rfl
              refine value_ (w1 := w') (v := .agg #[.int .u64 (staySet true).a, .int .u64 (staySet true).b, .int .u64 (staySet true).c, .int .u64 (staySet true).d]) (by rfl) rfl ?_ ?_
              · go_simp
                (try simp only [i64_w])
                try rfl
              refine hK.out _ _ ⟨(by rw [ha.out]; exact putSel_upk 0 hb_ rfl rfl rfl), HBW.out⟩
            refine steps_cons ?_ ?_
            · rintro b a w' ⟨ha, HBW⟩ hb_ hon hoff
              refine ⟨_, rfl, fun K hK => ?_⟩
              have e0 : a.tmps[0]? = some (.string s) := by rw [ha]; exact (putSel_off rfl).trans rfl
              replace ha := Aside0.mk ha
              have HBW := Aside0.mk HBW
              refine value_ (w1 := w') (v := .string s) (by rfl) rfl ?_ ?_
              · go_simp
                (try simp only [i64_w])
                try rfl
              refine hK.out _ _ ⟨(by rw [ha.out]; exact putSel_upk 1 hb_ rfl rfl rfl), HBW.out⟩
            refine steps_cons ?_ ?_
            · rintro b a w' ⟨ha, HBW⟩ hb_ hon hoff
              refine ⟨_, rfl, fun K hK => ?_⟩
              have e7 : a.tmps[7]? = some (.int .i64 (k : Int)) := by rw [ha]; exact (putSel_off rfl).trans rfl
              replace ha := Aside0.mk ha
              have HBW := Aside0.mk HBW
              refine value_ (w1 := w') (v := .int .i64 (k : Int)) (by rfl) rfl ?_ ?_
              · go_simp
                (try simp only [i64_w])
                try rfl
              refine hK.out _ _ ⟨(by rw [ha.out]; exact putSel_upk 2 hb_ rfl rfl rfl), HBW.out⟩
            refine steps_cons ?_ ?_
            · rintro b a w' ⟨ha, HBW⟩ hb_ hon hoff
              refine ⟨_, rfl, fun K hK => ?_⟩
              have e20 : a.tmps[20]? = some (.string s) := by rw [ha]; exact putSel_on (e := (1, 20, .string s)) 1 rfl rfl (hon 1 (by kernel_rfl)) rfl
              have e21 : a.tmps[21]? = some (.int .i64 (k : Int)) := by rw [ha]; exact putSel_on (e := (2, 21, .int .i64 (k : Int))) 2 rfl rfl (hon 2 (by kernel_rfl)) rfl
              replace ha := Aside0.mk ha
              have HBW := Aside0.mk HBW
              refine value_ (w1 := w') (v := .int .u8 (s[k].toNat : Int)) (by rfl) rfl ?_ ?_
              · go_simp
                (try simp only [i64_w])
                try rfl
              refine hK.out _ _ ⟨(by rw [ha.out]; exact putSel_upk 3 hb_ rfl rfl rfl), HBW.out⟩
            refine steps_cons ?_ ?_
            · rintro b a w' ⟨ha, HBW⟩ hb_ hon hoff
              refine ⟨_, rfl, fun K hK => ?_⟩
              have e19 : a.tmps[19]? = some (.agg #[.int .u64 (staySet true).a, .int .u64 (staySet true).b, .int .u64 (staySet true).c, .int .u64 (staySet true).d]) := by rw [ha]; exact putSel_on (e := (0, 19, .agg #[.int .u64 (staySet true).a, .int .u64 (staySet true).b, .int .u64 (staySet true).c, .int .u64 (staySet true).d])) 0 rfl rfl (hon 0 (by kernel_rfl)) rfl
              have e22 : a.tmps[22]? = some (.int .u8 (s[k].toNat : Int)) := by rw [ha]; exact putSel_on (e := (3, 22, .int .u8 (s[k].toNat : Int))) 3 rfl rfl (hon 3 (by kernel_rfl)) rfl
              replace ha := Aside0.mk ha
              have HBW := Aside0.mk HBW
              refine goes_ Try.func64 (by kernel_rfl) rfl #[.agg #[.int .u64 (staySet true).a, .int .u64 (staySet true).b, .int .u64 (staySet true).c, .int .u64 (staySet true).d], .int .u8 (s[k].toNat : Int)] (by rfl) rfl rfl (by first | (simp only [List.map_toArray, List.map_cons, List.map_nil, Act.eval, Array.getD_eq_getD_getElem?, Option.getD_some, e19, e22]; done) | (simp only [List.map_toArray, List.map_cons, List.map_nil, Act.eval, Array.getD_eq_getD_getElem?, Option.getD_some, e19, e22]; rfl)) ?_
              refine (has_any (staySet true) _ w' hc.1 hc.2).mono ?_
              rintro e w1 ⟨rfl, hb⟩
              rw [HX.out]
              refine ⟨_, rfl, ?_⟩
              refine hK.out _ _ ⟨(by rw [ha.out]; exact putSel_upk 4 hb_ rfl rfl rfl), below_step HBW.out hb⟩
            refine steps_cons ?_ ?_
            · rintro b a w' ⟨ha, HBW⟩ hb_ hon hoff
              refine ⟨_, rfl, fun K hK => ?_⟩
              have e23 : a.tmps[23]? = some (.bool false) := by rw [ha]; exact putSel_on (e := (4, 23, .bool false)) 4 rfl rfl (hon 4 (by kernel_rfl)) rfl
              replace ha := Aside0.mk ha
              have HBW := Aside0.mk HBW
              refine value_ (w1 := w') (v := .bool false) (by rfl) rfl ?_ ?_
              · go_simp
                (try simp only [i64_w])
                try rfl
              refine hK.out _ _ ⟨(by rw [ha.out]; exact putSel_upk 5 hb_ rfl rfl rfl), HBW.out⟩
            refine steps_cons ?_ ?_
            · rintro b a w' ⟨ha, HBW⟩ hb_ hon hoff
              refine ⟨_, rfl, fun K hK => ?_⟩
              have e1 : a.tmps[1]? = some (.bool true) := by rw [ha]; exact (putSel_off rfl).trans rfl
              have e24 : a.tmps[24]? = some (.bool false) := by rw [ha]; exact putSel_on (e := (5, 24, .bool false)) 5 rfl rfl (hon 5 (by kernel_rfl)) rfl
              replace ha := Aside0.mk ha
              have HBW := Aside0.mk HBW
              refine value_ (w1 := w') (v := .bool true) (wanted_on rfl rfl rfl (e24.trans (by first | rfl | (simp [*]; done)))) rfl ?_ ?_
              · go_simp
                (try simp only [i64_w])
                try rfl
              refine hK.out _ _ ⟨(by rw [ha.out]; exact putSel_upk 6 hb_ rfl rfl rfl), HBW.out⟩
            refine steps_cons ?_ ?_
            · rintro b a w' ⟨ha, HBW⟩ hb_ hon hoff
              refine ⟨_, rfl, fun K hK => ?_⟩
              have e25 : a.tmps[25]? = some (.bool true) := by rw [ha]; exact putSel_on (e := (6, 25, .bool true)) 6 rfl rfl (hon 6 (by kernel_rfl)) rfl
              have e24 : a.tmps[24]? = some (.bool false) := by rw [ha]; exact putSel_on (e := (5, 24, .bool false)) 5 rfl rfl (hon 5 (by kernel_rfl)) rfl
              replace ha := Aside0.mk ha
              have HBW := Aside0.mk HBW
              refine value_ (w1 := w') (v := .bool true) (wanted_on rfl rfl rfl (e24.trans (by first | rfl | (simp [*]; done)))) rfl ?_ ?_
              · go_simp
                (try simp only [i64_w])
                try rfl
              refine hK.out _ _ ⟨(by rw [ha.out]; exact putSel_upk 7 hb_ rfl rfl rfl), HBW.out⟩
            refine steps_cons ?_ ?_
            · rintro b a w' ⟨ha, HBW⟩ hb_ hon hoff
              refine ⟨_, rfl, fun K hK => ?_⟩
              have e0 : a.tmps[0]? = some (.string s) := by rw [ha]; exact (putSel_off rfl).trans rfl
              have e26 : a.tmps[26]? = some (.bool true) := by rw [ha]; exact putSel_on (e := (7, 26, .bool true)) 7 rfl rfl (hon 7 (by kernel_rfl)) rfl
              replace ha := Aside0.mk ha
              have HBW := Aside0.mk HBW
              refine value_ (w1 := w') (v := .string s) (wanted_on rfl rfl rfl (e26.trans (by first | rfl | (simp [*]; done)))) rfl ?_ ?_
              · go_simp
                (try simp only [i64_w])
                try rfl
              refine hK.out _ _ ⟨(by rw [ha.out]; exact putSel_upk 8 hb_ rfl rfl rfl), HBW.out⟩
            refine steps_cons ?_ ?_
            · rintro b a w' ⟨ha, HBW⟩ hb_ hon hoff
              refine ⟨_, rfl, fun K hK => ?_⟩
              have e7 : a.tmps[7]? = some (.int .i64 (k : Int)) := by rw [ha]; exact (putSel_off rfl).trans rfl
              have e26 : a.tmps[26]? = some (.bool true) := by rw [ha]; exact putSel_on (e := (7, 26, .bool true)) 7 rfl rfl (hon 7 (by kernel_rfl)) rfl
              replace ha := Aside0.mk ha
              have HBW := Aside0.mk HBW
              refine value_ (w1 := w') (v := .int .i64 (k : Int)) (wanted_on rfl rfl rfl (e26.trans (by first | rfl | (simp [*]; done)))) rfl ?_ ?_
              · go_simp
                (try simp only [i64_w])
                try rfl
              refine hK.out _ _ ⟨(by rw [ha.out]; exact putSel_upk 9 hb_ rfl rfl rfl), HBW.out⟩
            refine steps_cons ?_ ?_
            · rintro b a w' ⟨ha, HBW⟩ hb_ hon hoff
              refine ⟨_, rfl, fun K hK => ?_⟩
              have e27 : a.tmps[27]? = some (.string s) := by rw [ha]; exact putSel_on (e := (8, 27, .string s)) 8 rfl rfl (hon 8 (by kernel_rfl)) rfl
              have e28 : a.tmps[28]? = some (.int .i64 (k : Int)) := by rw [ha]; exact putSel_on (e := (9, 28, .int .i64 (k : Int))) 9 rfl rfl (hon 9 (by kernel_rfl)) rfl
              have e26 : a.tmps[26]? = some (.bool true) := by rw [ha]; exact putSel_on (e := (7, 26, .bool true)) 7 rfl rfl (hon 7 (by kernel_rfl)) rfl
              replace ha := Aside0.mk ha
              have HBW := Aside0.mk HBW
              refine value_ (w1 := w') (v := .string (s.extract k s.size)) (wanted_on rfl rfl rfl (e26.trans (by first | rfl | (simp [*]; done)))) rfl ?_ ?_
              · go_simp
                (try simp only [i64_w])
                try rfl
              refine hK.out _ _ ⟨(by rw [ha.out]; exact putSel_upk 10 hb_ rfl rfl rfl), HBW.out⟩
            refine steps_cons ?_ ?_
            · rintro b a w' ⟨ha, HBW⟩ hb_ hon hoff
              refine ⟨_, rfl, fun K hK => ?_⟩
              have e29 : a.tmps[29]? = some (.string (s.extract k s.size)) := by rw [ha]; exact putSel_on (e := (10, 29, .string (s.extract k s.size))) 10 rfl rfl (hon 10 (by kernel_rfl)) rfl
              have e26 : a.tmps[26]? = some (.bool true) := by rw [ha]; exact putSel_on (e := (7, 26, .bool true)) 7 rfl rfl (hon 7 (by kernel_rfl)) rfl
              replace ha := Aside0.mk ha
              have HBW := Aside0.mk HBW
              refine goes_ Try.func65 (by kernel_rfl) rfl #[.string (s.extract k s.size)] (wanted_on rfl rfl rfl (e26.trans (by first | rfl | (simp [*]; done)))) rfl rfl (by first | (simp only [List.map_toArray, List.map_cons, List.map_nil, Act.eval, Array.getD_eq_getD_getElem?, Option.getD_some, e29, e26]; done) | (simp only [List.map_toArray, List.map_cons, List.map_nil, Act.eval, Array.getD_eq_getD_getElem?, Option.getD_some, e29, e26]; rfl)) ?_
              refine (pctTriplet_any _ w').mono ?_
              rintro e w1 ⟨rfl, rfl⟩
              have hb := Below.refl w'.heap.size w'
              rw [HE.out]
              refine ⟨_, rfl, ?_⟩
              refine hK.out _ _ ⟨(by rw [ha.out]; exact putSel_upk 11 hb_ rfl rfl rfl), below_step HBW.out hb⟩
            refine steps_cons ?_ ?_
            · rintro b a w' ⟨ha, HBW⟩ hb_ hon hoff
              refine ⟨_, rfl, fun K hK => ?_⟩
              have e26 : a.tmps[26]? = some (.bool true) := by rw [ha]; exact putSel_on (e := (7, 26, .bool true)) 7 rfl rfl (hon 7 (by kernel_rfl)) rfl
              have e30 : a.tmps[30]? = some (.bool true) := by rw [ha]; exact putSel_on (e := (11, 30, .bool true)) 11 rfl rfl (hon 11 (by kernel_rfl)) rfl
              have e24 : a.tmps[24]? = some (.bool false) := by rw [ha]; exact putSel_on (e := (5, 24, .bool false)) 5 rfl rfl (hon 5 (by kernel_rfl)) rfl
              replace ha := Aside0.mk ha
              have HBW := Aside0.mk HBW
              refine value_ (w1 := w') (v := .bool true) (wanted_on rfl rfl rfl (e24.trans (by first | rfl | (simp [*]; done)))) rfl ?_ ?_
              · go_simp
                (try simp only [i64_w])
                try rfl
              refine hK.out _ _ ⟨(by rw [ha.out]; exact putSel_upk 12 hb_ rfl rfl rfl), HBW.out⟩
            refine steps_cons ?_ ?_
            · rintro b a w' ⟨ha, HBW⟩ hb_ hon hoff
              refine ⟨_, rfl, fun K hK => ?_⟩
              have e24 : a.tmps[24]? = some (.bool false) := by rw [ha]; exact putSel_on (e := (5, 24, .bool false)) 5 rfl rfl (hon 5 (by kernel_rfl)) rfl
              have e31 : a.tmps[31]? = some (.bool true) := by rw [ha]; exact putSel_on (e := (12, 31, .bool true)) 12 rfl rfl (hon 12 (by kernel_rfl)) rfl
              replace ha := Aside0.mk ha
              have HBW := Aside0.mk HBW
              refine value_ (w1 := w') (v := .bool true) (by rfl) rfl ?_ ?_
              · go_simp
                (try simp only [i64_w])
                try rfl
              refine hK.out _ _ ⟨(by rw [ha.out]; exact putSel_upk 13 hb_ rfl rfl rfl), HBW.out⟩
            exact steps_nil
          rintro b a w5 hall ⟨ha, HBW⟩
          have hb0_ := hall 0 (by kernel_rfl)
          have hb1_ := hall 1 (by kernel_rfl)
          have hb2_ := hall 2 (by kernel_rfl)
          have hb3_ := hall 3 (by kernel_rfl)
          have hb4_ := hall 4 (by kernel_rfl)
          have hb5_ := hall 5 (by kernel_rfl)
          have hb6_ := hall 6 (by kernel_rfl)
          have hb7_ := hall 7 (by kernel_rfl)
          have hb8_ := hall 8 (by kernel_rfl)
          have hb9_ := hall 9 (by kernel_rfl)
          have hb10_ := hall 10 (by kernel_rfl)
          have hb11_ := hall 11 (by kernel_rfl)
          have hb12_ := hall 12 (by kernel_rfl)
          have hb13_ := hall 13 (by kernel_rfl)
          subst ha
          simp only [putSel, hb0_, hb1_, hb2_, hb3_, hb4_, hb5_, hb6_, hb7_, hb8_, hb9_, hb10_, hb11_, hb12_, hb13_, if_true, Act.put, List.setIfInBounds_toArray, List.set_cons_zero, List.set_cons_succ]
          have HBW := Aside0.mk HBW
          clear hall hb0_ hb1_ hb2_ hb3_ hb4_ hb5_ hb6_ hb7_ hb8_ hb9_ hb10_ hb11_ hb12_ hb13_
          have HB2 := Aside0.mk (below_step (below_drew1 HB.out) HBW.out)
          have HSET2 := Aside0.mk (blk_below (blk_drew HSET.out) HBW.out)
          have HBL2 := Aside0.mk (builder_below (w := wr.drew) HBL.out HBW.out)
          have HLT := Aside0.mk (builder_lt HBL2.out)
          have hw5 := HBW.out.size
          clear HBW HSET HBL
          go_wp2_with fail
          refine (writeByte_any _ _ _ _ _ HBL2.out (by have := encCells_len true s k; omega) (by have := HLT.out; omega)).mono ?_
          rintro e w6 ⟨rfl, hat, hb6⟩
          have HE := Aside0.mk (encTo_stay hlt HE2.out)
          have HAT := Aside0.mk hat
          have HSET3 := Aside0.mk ((hb6.block _ HLT5.out).trans HSET2.out)
          have HB3 := Aside0.mk (HB2.out.trans (hb6.mono (by omega)))
          clear hat hb6 HB HB2 HSET2 HBL2
          go_wp2_with fail
          go_roundw
          case rel => exact ⟨k + 1, by omega, by go_num, HSET3.out, .inr (by rw [HE.out]; exact HAT.out), HB3.out⟩
          case measure => simp [intOf]; omega
        | false =>
          rw [htr] at hext
          have HE := Aside0.mk hext
          have HE2 := Aside0.mk (show (true && tri s k) = false by rw [htr]; rfl)
          clear hext htr
          go_wp2_with fail
          refine start_ (n := 14) (S := fun w' => True) (ds := []) #[false, false, false, false, false, false, false, false, false, false, false, false, false, false] (by kernel_rfl) rfl rfl trivial (fun hHeld => ?_)
          refine with_tabW encode.tab8 encode.bits8 (fun HT_ HW_ => ?_)
          refine inv_at [0, 1, 2, 3, 4, 5, 6, 7, 8, 9, 10, 11, 12, 13] (fun a0_ b a w' => a = putSel a0_ b [(0, 19, .agg #[.int .u64 (staySet true).a, .int .u64 (staySet true).b, .int .u64 (staySet true).c, .int .u64 (staySet true).d]), (1, 20, .string s), (2, 21, .int .i64 (k : Int)), (3, 22, .int .u8 (s[k].toNat : Int)), (4, 23, .bool false), (5, 24, .bool false), (6, 25, .bool true), (7, 26, .bool true), (8, 27, .string s), (9, 28, .int .i64 (k : Int)), (10, 29, .string (s.extract k s.size)), (11, 30, .bool false), (12, 31, .bool false), (13, 32, .bool false)] ∧ Below wr.drew.heap.size wr.drew w') HT_.out HW_.out (by kernel_rfl) (by kernel_rfl) ?_ ?_ ?_
          · exact ⟨by simp only [putSel, Bool.false_eq_true, if_false], Below.refl _ _⟩
          · clear hHeld HT_ HW_
            refine steps_cons ?_ ?_
            · rintro b a w' ⟨ha, HBW⟩ hb_ hon hoff
              refine ⟨_, rfl, fun K hK => ?_⟩
              have e5 : a.tmps[5]? = some (.pointer (some ⟨w1.heap.size, 0, none⟩)) := by rw [ha]; exact (putSel_off rfl).trans rfl
              replace ha := Aside0.mk ha
              have HBW := Aside0.mk HBW
              have hc_ := blk_below (blk_drew HSET.out) HBW.out
              have hc0_ : w'.cell? ⟨w1.heap.size, 0, none⟩ = some (.int .u64 (staySet true).a) := (blk_cell hc_ 0).trans rfl
              have hc1_ : w'.cell? ⟨w1.heap.size, 1, none⟩ = some (.int .u64 (staySet true).b) := (blk_cell hc_ 1).trans rfl
              have hc2_ : w'.cell? ⟨w1.heap.size, 2, none⟩ = some (.int .u64 (staySet true).c) := (blk_cell hc_ 2).trans rfl
              have hc3_ : w'.cell? ⟨w1.heap.size, 3, none⟩ = some (.int .u64 (staySet true).d) := (blk_cell hc_ 3).trans rfl
              refine value_ (w1 := w') (v := .agg #[.int .u64 (staySet true).a, .int .u64 (staySet true).b, .int .u64 (staySet true).c, .int .u64 (staySet true).d]) (by rfl) rfl ?_ ?_
              · go_simp
                (try simp only [i64_w])
                try rfl
              refine hK.out _ _ ⟨(by rw [ha.out]; exact putSel_upk 0 hb_ rfl rfl rfl), HBW.out⟩
            refine steps_cons ?_ ?_
            · rintro b a w' ⟨ha, HBW⟩ hb_ hon hoff
              refine ⟨_, rfl, fun K hK => ?_⟩
              have e0 : a.tmps[0]? = some (.string s) := by rw [ha]; exact (putSel_off rfl).trans rfl
              replace ha := Aside0.mk ha
              have HBW := Aside0.mk HBW
              refine value_ (w1 := w') (v := .string s) (by rfl) rfl ?_ ?_
              · go_simp
                (try simp only [i64_w])
                try rfl
              refine hK.out _ _ ⟨(by rw [ha.out]; exact putSel_upk 1 hb_ rfl rfl rfl), HBW.out⟩
            refine steps_cons ?_ ?_
            · rintro b a w' ⟨ha, HBW⟩ hb_ hon hoff
              refine ⟨_, rfl, fun K hK => ?_⟩
              have e7 : a.tmps[7]? = some (.int .i64 (k : Int)) := by rw [ha]; exact (putSel_off rfl).trans rfl
              replace ha := Aside0.mk ha
              have HBW := Aside0.mk HBW
              refine value_ (w1 := w') (v := .int .i64 (k : Int)) (by rfl) rfl ?_ ?_
              · go_simp
                (try simp only [i64_w])
                try rfl
              refine hK.out _ _ ⟨(by rw [ha.out]; exact putSel_upk 2 hb_ rfl rfl rfl), HBW.out⟩
            refine steps_cons ?_ ?_
            · rintro b a w' ⟨ha, HBW⟩ hb_ hon hoff
              refine ⟨_, rfl, fun K hK => ?_⟩
              have e20 : a.tmps[20]? = some (.string s) := by rw [ha]; exact putSel_on (e := (1, 20, .string s)) 1 rfl rfl (hon 1 (by kernel_rfl)) rfl
              have e21 : a.tmps[21]? = some (.int .i64 (k : Int)) := by rw [ha]; exact putSel_on (e := (2, 21, .int .i64 (k : Int))) 2 rfl rfl (hon 2 (by kernel_rfl)) rfl
              replace ha := Aside0.mk ha
              have HBW := Aside0.mk HBW
              refine value_ (w1 := w') (v := .int .u8 (s[k].toNat : Int)) (by rfl) rfl ?_ ?_
              · go_simp
                (try simp only [i64_w])
                try rfl
              refine hK.out _ _ ⟨(by rw [ha.out]; exact putSel_upk 3 hb_ rfl rfl rfl), HBW.out⟩
            refine steps_cons ?_ ?_
            · rintro b a w' ⟨ha, HBW⟩ hb_ hon hoff
              refine ⟨_, rfl, fun K hK => ?_⟩
              have e19 : a.tmps[19]? = some (.agg #[.int .u64 (staySet true).a, .int .u64 (staySet true).b, .int .u64 (staySet true).c, .int .u64 (staySet true).d]) := by rw [ha]; exact putSel_on (e := (0, 19, .agg #[.int .u64 (staySet true).a, .int .u64 (staySet true).b, .int .u64 (staySet true).c, .int .u64 (staySet true).d])) 0 rfl rfl (hon 0 (by kernel_rfl)) rfl
              have e22 : a.tmps[22]? = some (.int .u8 (s[k].toNat : Int)) := by rw [ha]; exact putSel_on (e := (3, 22, .int .u8 (s[k].toNat : Int))) 3 rfl rfl (hon 3 (by kernel_rfl)) rfl
              replace ha := Aside0.mk ha
              have HBW := Aside0.mk HBW
              refine goes_ Try.func64 (by kernel_rfl) rfl #[.agg #[.int .u64 (staySet true).a, .int .u64 (staySet true).b, .int .u64 (staySet true).c, .int .u64 (staySet true).d], .int .u8 (s[k].toNat : Int)] (by rfl) rfl rfl (by first | (simp only [List.map_toArray, List.map_cons, List.map_nil, Act.eval, Array.getD_eq_getD_getElem?, Option.getD_some, e19, e22]; done) | (simp only [List.map_toArray, List.map_cons, List.map_nil, Act.eval, Array.getD_eq_getD_getElem?, Option.getD_some, e19, e22]; rfl)) ?_
              refine (has_any (staySet true) _ w' hc.1 hc.2).mono ?_
              rintro e w1 ⟨rfl, hb⟩
              rw [HX.out]
              refine ⟨_, rfl, ?_⟩
              refine hK.out _ _ ⟨(by rw [ha.out]; exact putSel_upk 4 hb_ rfl rfl rfl), below_step HBW.out hb⟩
            refine steps_cons ?_ ?_
            · rintro b a w' ⟨ha, HBW⟩ hb_ hon hoff
              refine ⟨_, rfl, fun K hK => ?_⟩
              have e23 : a.tmps[23]? = some (.bool false) := by rw [ha]; exact putSel_on (e := (4, 23, .bool false)) 4 rfl rfl (hon 4 (by kernel_rfl)) rfl
              replace ha := Aside0.mk ha
              have HBW := Aside0.mk HBW
              refine value_ (w1 := w') (v := .bool false) (by rfl) rfl ?_ ?_
              · go_simp
                (try simp only [i64_w])
                try rfl
              refine hK.out _ _ ⟨(by rw [ha.out]; exact putSel_upk 5 hb_ rfl rfl rfl), HBW.out⟩
            refine steps_cons ?_ ?_
            · rintro b a w' ⟨ha, HBW⟩ hb_ hon hoff
              refine ⟨_, rfl, fun K hK => ?_⟩
              have e1 : a.tmps[1]? = some (.bool true) := by rw [ha]; exact (putSel_off rfl).trans rfl
              have e24 : a.tmps[24]? = some (.bool false) := by rw [ha]; exact putSel_on (e := (5, 24, .bool false)) 5 rfl rfl (hon 5 (by kernel_rfl)) rfl
              replace ha := Aside0.mk ha
              have HBW := Aside0.mk HBW
              refine value_ (w1 := w') (v := .bool true) (wanted_on rfl rfl rfl (e24.trans (by first | rfl | (simp [*]; done)))) rfl ?_ ?_
              · go_simp
                (try simp only [i64_w])
                try rfl
              refine hK.out _ _ ⟨(by rw [ha.out]; exact putSel_upk 6 hb_ rfl rfl rfl), HBW.out⟩
            refine steps_cons ?_ ?_
            · rintro b a w' ⟨ha, HBW⟩ hb_ hon hoff
              refine ⟨_, rfl, fun K hK => ?_⟩
              have e25 : a.tmps[25]? = some (.bool true) := by rw [ha]; exact putSel_on (e := (6, 25, .bool true)) 6 rfl rfl (hon 6 (by kernel_rfl)) rfl
              have e24 : a.tmps[24]? = some (.bool false) := by rw [ha]; exact putSel_on (e := (5, 24, .bool false)) 5 rfl rfl (hon 5 (by kernel_rfl)) rfl
              replace ha := Aside0.mk ha
              have HBW := Aside0.mk HBW
              refine value_ (w1 := w') (v := .bool true) (wanted_on rfl rfl rfl (e24.trans (by first | rfl | (simp [*]; done)))) rfl ?_ ?_
              · go_simp
                (try simp only [i64_w])
                try rfl
              refine hK.out _ _ ⟨(by rw [ha.out]; exact putSel_upk 7 hb_ rfl rfl rfl), HBW.out⟩
            refine steps_cons ?_ ?_
            · rintro b a w' ⟨ha, HBW⟩ hb_ hon hoff
              refine ⟨_, rfl, fun K hK => ?_⟩
              have e0 : a.tmps[0]? = some (.string s) := by rw [ha]; exact (putSel_off rfl).trans rfl
              have e26 : a.tmps[26]? = some (.bool true) := by rw [ha]; exact putSel_on (e := (7, 26, .bool true)) 7 rfl rfl (hon 7 (by kernel_rfl)) rfl
              replace ha := Aside0.mk ha
              have HBW := Aside0.mk HBW
              refine value_ (w1 := w') (v := .string s) (wanted_on rfl rfl rfl (e26.trans (by first | rfl | (simp [*]; done)))) rfl ?_ ?_
              · go_simp
                (try simp only [i64_w])
                try rfl
              refine hK.out _ _ ⟨(by rw [ha.out]; exact putSel_upk 8 hb_ rfl rfl rfl), HBW.out⟩
            refine steps_cons ?_ ?_
            · rintro b a w' ⟨ha, HBW⟩ hb_ hon hoff
              refine ⟨_, rfl, fun K hK => ?_⟩
              have e7 : a.tmps[7]? = some (.int .i64 (k : Int)) := by rw [ha]; exact (putSel_off rfl).trans rfl
              have e26 : a.tmps[26]? = some (.bool true) := by rw [ha]; exact putSel_on (e := (7, 26, .bool true)) 7 rfl rfl (hon 7 (by kernel_rfl)) rfl
              replace ha := Aside0.mk ha
              have HBW := Aside0.mk HBW
              refine value_ (w1 := w') (v := .int .i64 (k : Int)) (wanted_on rfl rfl rfl (e26.trans (by first | rfl | (simp [*]; done)))) rfl ?_ ?_
              · go_simp
                (try simp only [i64_w])
                try rfl
              refine hK.out _ _ ⟨(by rw [ha.out]; exact putSel_upk 9 hb_ rfl rfl rfl), HBW.out⟩
            refine steps_cons ?_ ?_
            · rintro b a w' ⟨ha, HBW⟩ hb_ hon hoff
              refine ⟨_, rfl, fun K hK => ?_⟩
              have e27 : a.tmps[27]? = some (.string s) := by rw [ha]; exact putSel_on (e := (8, 27, .string s)) 8 rfl rfl (hon 8 (by kernel_rfl)) rfl
              have e28 : a.tmps[28]? = some (.int .i64 (k : Int)) := by rw [ha]; exact putSel_on (e := (9, 28, .int .i64 (k : Int))) 9 rfl rfl (hon 9 (by kernel_rfl)) rfl
              have e26 : a.tmps[26]? = some (.bool true) := by rw [ha]; exact putSel_on (e := (7, 26, .bool true)) 7 rfl rfl (hon 7 (by kernel_rfl)) rfl
              replace ha := Aside0.mk ha
              have HBW := Aside0.mk HBW
              refine value_ (w1 := w') (v := .string (s.extract k s.size)) (wanted_on rfl rfl rfl (e26.trans (by first | rfl | (simp [*]; done)))) rfl ?_ ?_
              · go_simp
                (try simp only [i64_w])
                try rfl
              refine hK.out _ _ ⟨(by rw [ha.out]; exact putSel_upk 10 hb_ rfl rfl rfl), HBW.out⟩
            refine steps_cons ?_ ?_
            · rintro b a w' ⟨ha, HBW⟩ hb_ hon hoff
              refine ⟨_, rfl, fun K hK => ?_⟩
              have e29 : a.tmps[29]? = some (.string (s.extract k s.size)) := by rw [ha]; exact putSel_on (e := (10, 29, .string (s.extract k s.size))) 10 rfl rfl (hon 10 (by kernel_rfl)) rfl
              have e26 : a.tmps[26]? = some (.bool true) := by rw [ha]; exact putSel_on (e := (7, 26, .bool true)) 7 rfl rfl (hon 7 (by kernel_rfl)) rfl
              replace ha := Aside0.mk ha
              have HBW := Aside0.mk HBW
              refine goes_ Try.func65 (by kernel_rfl) rfl #[.string (s.extract k s.size)] (wanted_on rfl rfl rfl (e26.trans (by first | rfl | (simp [*]; done)))) rfl rfl (by first | (simp only [List.map_toArray, List.map_cons, List.map_nil, Act.eval, Array.getD_eq_getD_getElem?, Option.getD_some, e29, e26]; done) | (simp only [List.map_toArray, List.map_cons, List.map_nil, Act.eval, Array.getD_eq_getD_getElem?, Option.getD_some, e29, e26]; rfl)) ?_
              refine (pctTriplet_any _ w').mono ?_
              rintro e w1 ⟨rfl, rfl⟩
              have hb := Below.refl w'.heap.size w'
              rw [HE.out]
              refine ⟨_, rfl, ?_⟩
              refine hK.out _ _ ⟨(by rw [ha.out]; exact putSel_upk 11 hb_ rfl rfl rfl), below_step HBW.out hb⟩
            refine steps_cons ?_ ?_
            · rintro b a w' ⟨ha, HBW⟩ hb_ hon hoff
              refine ⟨_, rfl, fun K hK => ?_⟩
              have e26 : a.tmps[26]? = some (.bool true) := by rw [ha]; exact putSel_on (e := (7, 26, .bool true)) 7 rfl rfl (hon 7 (by kernel_rfl)) rfl
              have e30 : a.tmps[30]? = some (.bool false) := by rw [ha]; exact putSel_on (e := (11, 30, .bool false)) 11 rfl rfl (hon 11 (by kernel_rfl)) rfl
              have e24 : a.tmps[24]? = some (.bool false) := by rw [ha]; exact putSel_on (e := (5, 24, .bool false)) 5 rfl rfl (hon 5 (by kernel_rfl)) rfl
              replace ha := Aside0.mk ha
              have HBW := Aside0.mk HBW
              refine value_ (w1 := w') (v := .bool false) (wanted_on rfl rfl rfl (e24.trans (by first | rfl | (simp [*]; done)))) rfl ?_ ?_
              · go_simp
                (try simp only [i64_w])
                try rfl
              refine hK.out _ _ ⟨(by rw [ha.out]; exact putSel_upk 12 hb_ rfl rfl rfl), HBW.out⟩
            refine steps_cons ?_ ?_
            · rintro b a w' ⟨ha, HBW⟩ hb_ hon hoff
              refine ⟨_, rfl, fun K hK => ?_⟩
              have e24 : a.tmps[24]? = some (.bool false) := by rw [ha]; exact putSel_on (e := (5, 24, .bool false)) 5 rfl rfl (hon 5 (by kernel_rfl)) rfl
              have e31 : a.tmps[31]? = some (.bool false) := by rw [ha]; exact putSel_on (e := (12, 31, .bool false)) 12 rfl rfl (hon 12 (by kernel_rfl)) rfl
              replace ha := Aside0.mk ha
              have HBW := Aside0.mk HBW
              refine value_ (w1 := w') (v := .bool false) (by rfl) rfl ?_ ?_
              · go_simp
                (try simp only [i64_w])
                try rfl
              refine hK.out _ _ ⟨(by rw [ha.out]; exact putSel_upk 13 hb_ rfl rfl rfl), HBW.out⟩
            exact steps_nil
          rintro b a w5 hall ⟨ha, HBW⟩
          have hb0_ := hall 0 (by kernel_rfl)
          have hb1_ := hall 1 (by kernel_rfl)
          have hb2_ := hall 2 (by kernel_rfl)
          have hb3_ := hall 3 (by kernel_rfl)
          have hb4_ := hall 4 (by kernel_rfl)
          have hb5_ := hall 5 (by kernel_rfl)
          have hb6_ := hall 6 (by kernel_rfl)
          have hb7_ := hall 7 (by kernel_rfl)
          have hb8_ := hall 8 (by kernel_rfl)
          have hb9_ := hall 9 (by kernel_rfl)
          have hb10_ := hall 10 (by kernel_rfl)
          have hb11_ := hall 11 (by kernel_rfl)
          have hb12_ := hall 12 (by kernel_rfl)
          have hb13_ := hall 13 (by kernel_rfl)
          subst ha
          simp only [putSel, hb0_, hb1_, hb2_, hb3_, hb4_, hb5_, hb6_, hb7_, hb8_, hb9_, hb10_, hb11_, hb12_, hb13_, if_true, Act.put, List.setIfInBounds_toArray, List.set_cons_zero, List.set_cons_succ]
          have HBW := Aside0.mk HBW
          clear hall hb0_ hb1_ hb2_ hb3_ hb4_ hb5_ hb6_ hb7_ hb8_ hb9_ hb10_ hb11_ hb12_ hb13_
          have HB2 := Aside0.mk (below_step (below_drew1 HB.out) HBW.out)
          have HSET2 := Aside0.mk (blk_below (blk_drew HSET.out) HBW.out)
          have HBL2 := Aside0.mk (builder_below (w := wr.drew) HBL.out HBW.out)
          have hw5 := HBW.out.size
          clear HBW HSET HBL
          go_wp2_with fail
          refine (pctOne_all _ _ hc.1 hc.2).mono ?_
          rintro e w6 ⟨rfl, hb6⟩
          have HB3 := Aside0.mk (below_step HB2.out hb6)
          have HSET3 := Aside0.mk (blk_below HSET2.out hb6)
          have HBL3 := Aside0.mk (builder_below HBL2.out hb6)
          have HLT := Aside0.mk (builder_lt HBL3.out)
          clear hb6 HB HB2 HSET2 HBL2
          go_wp2_with fail
          refine (writeString_any _ _ _ _ _ HBL3.out (by have := encCells_len true s k; have : (tripS (s[k].toNat : Int)).size = 3 := rfl; omega) (by have := HLT.out; omega)).mono ?_
          rintro e w7 ⟨rfl, hat, hb7⟩
          have HE := Aside0.mk (encTo_trip (keep := true) hlt HX.out HE2.out)
          have HAT := Aside0.mk hat
          have HSET4 := Aside0.mk ((hb7.block _ HLT5.out).trans HSET3.out)
          have HB4 := Aside0.mk (HB3.out.trans (hb7.mono (by omega)))
          clear hat hb7 HB3 HSET3 HBL3
          go_wp2_with fail
          go_roundw
          case rel => exact ⟨k + 1, by omega, by go_num, HSET4.out, .inr (by rw [HE.out]; exact HAT.out), HB4.out⟩
          case measure => simp [intOf]; omega
    · obtain rfl : k = s.size := by omega
      have HLT := Aside0.mk (builder_lt HBL.out)
      go_wp2_with fail
      refine (Try.Builder_String_any _ _ _ _ HBL.out (by have := HLT.out; omega)).mono ?_
      rintro e w6 ⟨rfl, hb6⟩
      have HB6 := Aside0.mk (HB.out.trans (hb6.mono (by omega)))
      clear hb6 HB
      go_wp2_with fail
      go_ret
      exact ⟨rfl, HB6.out⟩
end Go.Proofs.Ytbjeegkmafbejaa.X
