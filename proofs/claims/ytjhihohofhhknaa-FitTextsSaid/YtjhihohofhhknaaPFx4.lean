-- Printed by wip/xprint.py of this claim's authors, over the kit's print; not trusted: Lean checks it.
import Derived.Test.YtjhihohofhhknaaPFx0
import Derived.Test.YtjhihohofhhknaaPFx2
import Derived.Test.YtjhihohofhhknaaPFx3
namespace Go.Proofs.Ytjhihohofhhknaa.PF
open Go.RowKit Go.Proofs.YtjhihohofhhknaaW.PrintWords Go.Proofs.YtjhihohofhhknaaW.PrintLast Go.Proofs.YtjhihohofhhknaaW.PrintMore
attribute [local go_sem] max2_int min2_int max_two min_two max_three min_three max_four min_four   -- for this text's walks alone
set_option linter.unusedVariables false
set_option linter.unusedSimpArgs false

/-! ### phalaropelaw15_awake: function 6 (ours) -/
def awT : List S42 := [⟨⟨#[]⟩, 0, [⟨⟨#[97]⟩, 3, false⟩]⟩]
def awL : S30 := ⟨⟨#[97]⟩, 2, false, 2, 0⟩
def awV : S30 := ⟨⟨#[97]⟩, 1, false, 2, 2⟩
theorem aw_part_f : phalaropelaw15_part.f 0 ⟨#[97]⟩ 3 false = some awT := by rfl
theorem aw_fit6_f : fit_Fit.f awT [awL] = some 6 := by decide +kernel
theorem aw_fit0_f : fit_Fit.f awT [awV] = some 0 := by decide +kernel
theorem aw_whole_f : fit_Whole.f awT [awV] = some true := by decide +kernel
theorem aw_cut0_f : fit_Cut.f ⟨#[97]⟩ 3 false ⟨#[97]⟩ 1 false 2 2 = some false := by decide +kernel
theorem aw_cut1_f : fit_Cut.f ⟨#[97]⟩ 1 false ⟨#[97]⟩ 1 false 2 2 = some true := by decide +kernel
def CFPart (w : World) (v : Value) (l : List S42) : Prop := ∃ A c, v = .slice A 1 c ∧ 1 ≤ c ∧ Kd.C k42 w A 1 l
def CFVar (w : World) (v : Value) (l : List S30) : Prop := ∃ A c, v = .slice A 1 c ∧ 1 ≤ c ∧ Kd.C k30 w A 1 l
theorem CFPart.below {w w' : World} {v : Value} {l : List S42} (h : CFPart w v l) (hb : Below w.heap.size w w') : CFPart w' v l := by
  obtain ⟨A, c, h1, h2, h3⟩ := h
  exact ⟨A, c, h1, h2, Kd.C_below h3 hb⟩
theorem CFVar.below {w w' : World} {v : Value} {l : List S30} (h : CFVar w v l) (hb : Below w.heap.size w w') : CFVar w' v l := by
  obtain ⟨A, c, h1, h2, h3⟩ := h
  exact ⟨A, c, h1, h2, Kd.C_below h3 hb⟩
theorem aw_part (w : World) : Calls Try.prog 14 #[.int .u8 0, .agg #[.string ⟨#[97]⟩, .int .i64 3, .bool false]] w fun e w' => ∃ v, e = .returned v ∧ CFPart w' v awT ∧ Below w.heap.size w w' :=
  (phalaropelaw15_part.calls 0 ⟨#[97]⟩ 3 false awT w aw_part_f).mono fun e w' h => by
    obtain ⟨v, he, hn, hb⟩ := h
    obtain ⟨A, c, hv, hle, hC⟩ := Kd.N_reads hn
    exact ⟨v, he, ⟨A, c, hv, hle, hC⟩, hb⟩
theorem add_plain (b o j : Nat) : (⟨b, o, none⟩ : Addr).add j = ⟨b, o + j, none⟩ := by unfold Addr.add; split <;> simp_all
theorem c30_one (w : World) (v : S30) : Kd.C k30 (w.alloc (.cells #[.string v.f0, .int .i64 v.f1, .bool v.f2, .int .i64 v.f3, .int .i64 v.f4] 30 (0, 0))) (some ⟨w.heap.size, 0, none⟩) 1 [v] := by
  refine ⟨rfl, by simp, fun _ => ⟨_, rfl, fun j p hj => ?_⟩⟩
  cases j with
  | succ j => simp at hj
  | zero =>
    obtain rfl : v = p := by simpa using hj
    refine ⟨[.string v.f0, .int .i64 v.f1, .bool v.f2, .int .i64 v.f3, .int .i64 v.f4], rfl, k30_mk _ _, fun i u hi => ?_⟩
    have h := blk_cell (blk_new w (.cells #[.string v.f0, .int .i64 v.f1, .bool v.f2, .int .i64 v.f3, .int .i64 v.f4] 30 (0, 0))) i
    rw [add_plain, Nat.zero_mul, Nat.zero_add, Nat.zero_add, h, ← hi]
    simp
theorem c30_L (w : World) : Kd.C k30 (w.alloc (.cells #[.string ⟨#[97]⟩, .int .i64 2, .bool false, .int .i64 2, .int .i64 0] 30 (0, 0))) (some ⟨w.heap.size, 0, none⟩) 1 [awL] := c30_one w awL
theorem c30_V (w : World) : Kd.C k30 (w.alloc (.cells #[.string ⟨#[97]⟩, .int .i64 1, .bool false, .int .i64 2, .int .i64 2] 30 (0, 0))) (some ⟨w.heap.size, 0, none⟩) 1 [awV] := c30_one w awV
theorem aw_fit6 (A : Option Addr) (c : Nat) (B : Option Addr) (d : Nat) (w : World) (h0 : Kd.C k42 w A 1 awT) (hc : 1 ≤ c) (h1 : Kd.C k30 w B 1 [awL]) (hd : 1 ≤ d) :
    Calls Try.prog 9 #[.slice A 1 c, .slice B 1 d] w fun e w' => e = .returned (.int .i64 6) ∧ Below w.heap.size w w' := fit_Fit.calls A c awT B d [awL] 6 w h0 hc h1 hd aw_fit6_f
theorem aw_fit0 (A : Option Addr) (c : Nat) (B : Option Addr) (d : Nat) (w : World) (h0 : Kd.C k42 w A 1 awT) (hc : 1 ≤ c) (h1 : Kd.C k30 w B 1 [awV]) (hd : 1 ≤ d) :
    Calls Try.prog 9 #[.slice A 1 c, .slice B 1 d] w fun e w' => e = .returned (.int .i64 0) ∧ Below w.heap.size w w' := fit_Fit.calls A c awT B d [awV] 0 w h0 hc h1 hd aw_fit0_f
theorem aw_whole (A : Option Addr) (c : Nat) (B : Option Addr) (d : Nat) (w : World) (h0 : Kd.C k42 w A 1 awT) (hc : 1 ≤ c) (h1 : Kd.C k30 w B 1 [awV]) (hd : 1 ≤ d) :
    Calls Try.prog 13 #[.slice A 1 c, .slice B 1 d] w fun e w' => e = .returned (.bool true) ∧ Below w.heap.size w w' := fit_Whole.calls A c awT B d [awV] true w h0 hc h1 hd aw_whole_f
def phalaropelaw15_awake.f  : Option (Bool) := some true
def phalaropelaw15_awake.T4 : Bool × List (List Nat × List Nat) := (true, [([], []), ([0], [0]), ([], []), ([2], [2]), ([1, 3, 1], [1, 3]), ([4], [4]), ([5, 4], [5]), ([6], [6]), ([7, 6, 6], [6, 7]), ([6], [6]), ([9, 6], [6, 9]), ([8, 10, 8, 6], [6, 8, 10]), ([11, 6], [6, 11]), ([6, 12], [6, 12]), ([13, 11], [13]), ([14], [14]), ([14], [14]), ([15, 16, 14, 14], [14, 15, 16]), ([17, 14], [14, 17]), ([14, 18], [14, 18]), ([19, 17], [19]), ([20], [20]), ([20], [20]), ([21, 22, 20, 20], [20, 21, 22]), ([20, 23], [20, 23]), ([24, 23], [24]), ([25], [25]), ([26, 25, 25], [25, 26]), ([25], [25]), ([28, 25], [25, 28]), ([27, 29, 27, 25], [25, 27, 29]), ([25, 30], [25, 30]), ([31, 30, 0, 1, 2, 3, 4, 5, 6, 7, 8, 9, 10, 11, 12, 13, 14, 15, 16, 17, 18, 19, 20, 21, 22, 23, 24, 25, 26, 27, 28, 29, 30, 31], [31])])
def phalaropelaw15_awake.B4 : List Nat := [0, 1, 0, 4, 15, 31, 63, 127, 255, 127, 639, 2047, 4095, 8191, 16383, 32767, 32767, 131071, 262143, 524287, 1048575, 2097151, 2097151, 8388607, 16777215, 33554431, 67108863, 134217727, 67108863, 335544319, 1073741823, 2147483647, 4294967295]
theorem phalaropelaw15_awake.tab4 : rtab .any (opsOf Try.f6 4) = phalaropelaw15_awake.T4 := by kernel_rfl
theorem phalaropelaw15_awake.bits4 : waitsOk phalaropelaw15_awake.T4.2 phalaropelaw15_awake.B4 = true := by kernel_rfl
set_option maxHeartbeats 8000000 in
set_option maxRecDepth 100000 in
theorem phalaropelaw15_awake.calls  (r : Bool) (w : World) (h : phalaropelaw15_awake.f  = some r) :
    Calls Try.prog 6 #[] w fun e w' => e = .returned (.bool r) ∧ Below w.heap.size w w' := by
  obtain rfl := Option.some.inj h
  clear h
  go_enter Try.func6, Try.ntmps6
  go_wp2_with fail
  have B0 := blk_drew (blk_alloc (blk_alloc (blk_new w (.cells #[.string (⟨#[97]⟩ : ByteArray), .int .i64 2, .bool false, .int .i64 2, .int .i64 0] 30 (0, 0))) (.cells #[.string (⟨#[97]⟩ : ByteArray), .int .i64 1, .bool false, .int .i64 2, .int .i64 2] 30 (0, 0))) (.cells #[.string (⟨#[97]⟩ : ByteArray), .int .i64 3, .bool false] 37 (0, 0)))
  have B1 := blk_drew (blk_alloc (X.blk_new2 w (.cells #[.string (⟨#[97]⟩ : ByteArray), .int .i64 2, .bool false, .int .i64 2, .int .i64 0] 30 (0, 0)) (.cells #[.string (⟨#[97]⟩ : ByteArray), .int .i64 1, .bool false, .int .i64 2, .int .i64 2] 30 (0, 0))) (.cells #[.string (⟨#[97]⟩ : ByteArray), .int .i64 3, .bool false] 37 (0, 0)))
  have B2 := blk_drew (X.blk_new2 (w.alloc (.cells #[.string (⟨#[97]⟩ : ByteArray), .int .i64 2, .bool false, .int .i64 2, .int .i64 0] 30 (0, 0))) (.cells #[.string (⟨#[97]⟩ : ByteArray), .int .i64 1, .bool false, .int .i64 2, .int .i64 2] 30 (0, 0)) (.cells #[.string (⟨#[97]⟩ : ByteArray), .int .i64 3, .bool false] 37 (0, 0)))
  have HB0 : Aside0 (Below w.heap.size w (((w.alloc (.cells #[.string (⟨#[97]⟩ : ByteArray), .int .i64 2, .bool false, .int .i64 2, .int .i64 0] 30 (0, 0))).alloc (.cells #[.string (⟨#[97]⟩ : ByteArray), .int .i64 1, .bool false, .int .i64 2, .int .i64 2] 30 (0, 0))).alloc (.cells #[.string (⟨#[97]⟩ : ByteArray), .int .i64 3, .bool false] 37 (0, 0))).drew) := ⟨below_drew1 (below_alloc (X.below_new2 w _ _) _)⟩
  rw [X.size_alloc1] at B2
  generalize ((w.alloc (.cells #[.string (⟨#[97]⟩ : ByteArray), .int .i64 2, .bool false, .int .i64 2, .int .i64 0] 30 (0, 0))).alloc (.cells #[.string (⟨#[97]⟩ : ByteArray), .int .i64 1, .bool false, .int .i64 2, .int .i64 2] 30 (0, 0))).alloc (.cells #[.string (⟨#[97]⟩ : ByteArray), .int .i64 3, .bool false] 37 (0, 0)) = W3 at *
  have B0 := Aside0.mk B0
  have B1 := Aside0.mk B1
  have B2 := Aside0.mk B2
  refine start_ (n := 33) (S := fun w' => True) (ds := []) #[false, false, false, false, false, false, false, false, false, false, false, false, false, false, false, false, false, false, false, false, false, false, false, false, false, false, false, false, false, false, false, false, false] (by kernel_rfl) rfl rfl trivial (fun hHeld => ?_)
  refine with_tabW phalaropelaw15_awake.tab4 phalaropelaw15_awake.bits4 (fun HT_ HW_ => ?_)
  refine inv_at [0, 1, 2, 3, 4, 5, 6, 7, 8, 9, 10, 11, 12, 13, 14, 15, 16, 17, 18, 19, 20, 21, 22, 23, 24, 25, 26, 27, 28, 29, 30, 31, 32] (fun a0_ b a w' => ∃ (v1 : Value) (v3 : Value) (v8 : Value) (v10 : Value) (v27 : Value) (v29 : Value), a = putSel a0_ b [(0, 7, .agg #[.string (⟨#[97]⟩ : ByteArray), .int .i64 3, .bool false]), (1, 8, v1), (2, 9, .agg #[.string (⟨#[97]⟩ : ByteArray), .int .i64 2, .bool false, .int .i64 2, .int .i64 0]), (3, 10, v3), (4, 11, .int .i64 6), (5, 12, .bool true), (6, 13, .bool true), (7, 14, .agg #[.string (⟨#[97]⟩ : ByteArray), .int .i64 3, .bool false]), (8, 15, v8), (9, 16, .agg #[.string (⟨#[97]⟩ : ByteArray), .int .i64 1, .bool false, .int .i64 2, .int .i64 2]), (10, 17, v10), (11, 18, .int .i64 0), (12, 19, .bool true), (13, 20, .bool true), (14, 21, .bool true), (15, 22, .agg #[.string (⟨#[97]⟩ : ByteArray), .int .i64 3, .bool false]), (16, 23, .agg #[.string (⟨#[97]⟩ : ByteArray), .int .i64 1, .bool false, .int .i64 2, .int .i64 2]), (17, 24, .bool false), (18, 25, .bool true), (19, 26, .bool true), (20, 27, .bool true), (21, 28, .agg #[.string (⟨#[97]⟩ : ByteArray), .int .i64 1, .bool false]), (22, 29, .agg #[.string (⟨#[97]⟩ : ByteArray), .int .i64 1, .bool false, .int .i64 2, .int .i64 2]), (23, 30, .bool true), (24, 31, .bool true), (25, 32, .bool true), (26, 33, .agg #[.string (⟨#[97]⟩ : ByteArray), .int .i64 3, .bool false]), (27, 34, v27), (28, 35, .agg #[.string (⟨#[97]⟩ : ByteArray), .int .i64 1, .bool false, .int .i64 2, .int .i64 2]), (29, 36, v29), (30, 37, .bool true), (31, 38, .bool true), (32, 0, .bool true)] ∧ Below W3.drew.heap.size W3.drew w' ∧ (b 1 = true → CFPart w' v1 awT) ∧ (b 3 = true → CFVar w' v3 [awL]) ∧ (b 8 = true → CFPart w' v8 awT) ∧ (b 10 = true → CFVar w' v10 [awV]) ∧ (b 27 = true → CFPart w' v27 awT) ∧ (b 29 = true → CFVar w' v29 [awV])) HT_.out HW_.out (by kernel_rfl) (by kernel_rfl) ?_ ?_ ?_
  · exact ⟨.bool false, .bool false, .bool false, .bool false, .bool false, .bool false, by simp only [putSel, Bool.false_eq_true, if_false], Below.refl _ _, fun h_ => absurd h_ (by decide), fun h_ => absurd h_ (by decide), fun h_ => absurd h_ (by decide), fun h_ => absurd h_ (by decide), fun h_ => absurd h_ (by decide), fun h_ => absurd h_ (by decide)⟩
  · clear hHeld HT_ HW_
    refine steps_cons ?_ ?_
    · rintro b a w' ⟨v1, v3, v8, v10, v27, v29, ha, HBW, Q_V1, Q_V3, Q_V8, Q_V10, Q_V27, Q_V29⟩ hb_ hon hoff
      refine ⟨_, rfl, fun K hK => ?_⟩
      have e3 : a.tmps[3]? = some (.pointer (some ⟨w.heap.size + 1 + 1, 0, none⟩)) := by rw [ha]; exact (putSel_off rfl).trans rfl
      replace ha := Aside0.mk ha
      have HBW := Aside0.mk HBW
      have hc_ := blk_below (B2).out HBW.out
      have hc0_ := (blk_cell hc_ 0).trans rfl
      have hc1_ := (blk_cell hc_ 1).trans rfl
      have hc2_ := (blk_cell hc_ 2).trans rfl
      clear hc_
      refine value_ (w1 := w') (v := .agg #[.string (⟨#[97]⟩ : ByteArray), .int .i64 3, .bool false]) (by rfl) rfl ?_ ?_
      · go_simp
        (try simp only [i64_w])
        try rfl
      refine hK.out _ _ ⟨v1, v3, v8, v10, v27, v29, (by rw [ha.out]; exact putSel_upk 0 hb_ rfl rfl rfl), HBW.out, Q_V1, Q_V3, Q_V8, Q_V10, Q_V27, Q_V29⟩
    refine steps_cons ?_ ?_
    · rintro b a w' ⟨v1, v3, v8, v10, v27, v29, ha, HBW, Q_V1, Q_V3, Q_V8, Q_V10, Q_V27, Q_V29⟩ hb_ hon hoff
      refine ⟨_, rfl, fun K hK => ?_⟩
      have e7 : a.tmps[7]? = some (.agg #[.string (⟨#[97]⟩ : ByteArray), .int .i64 3, .bool false]) := by rw [ha]; exact putSel_on (e := (0, 7, .agg #[.string (⟨#[97]⟩ : ByteArray), .int .i64 3, .bool false])) 0 rfl rfl (hon 0 (by kernel_rfl)) rfl
      replace ha := Aside0.mk ha
      have HBW := Aside0.mk HBW
      refine goes_ Try.func14 (by kernel_rfl) rfl #[.int .u8 0, .agg #[.string (⟨#[97]⟩ : ByteArray), .int .i64 3, .bool false]] (by rfl) rfl rfl (by first | (simp only [List.map_toArray, List.map_cons, List.map_nil, Act.eval, Array.getD_eq_getD_getElem?, Option.getD_some, e7]; done) | (simp only [List.map_toArray, List.map_cons, List.map_nil, Act.eval, Array.getD_eq_getD_getElem?, Option.getD_some, e7]; rfl)) ?_
      refine (aw_part _).mono ?_
      rintro e w1 ⟨v1, rfl, h1, hb⟩
      refine ⟨_, rfl, ?_⟩
      refine hK.out _ _ ⟨v1, v3, v8, v10, v27, v29, (by rw [ha.out]; exact putSel_upk 1 hb_ rfl rfl rfl), below_step HBW.out hb, fun _ => h1, fun h_ => CFVar.below (Q_V3 h_) hb, fun h_ => CFPart.below (Q_V8 h_) hb, fun h_ => CFVar.below (Q_V10 h_) hb, fun h_ => CFPart.below (Q_V27 h_) hb, fun h_ => CFVar.below (Q_V29 h_) hb⟩
    refine steps_cons ?_ ?_
    · rintro b a w' ⟨v1, v3, v8, v10, v27, v29, ha, HBW, Q_V1, Q_V3, Q_V8, Q_V10, Q_V27, Q_V29⟩ hb_ hon hoff
      refine ⟨_, rfl, fun K hK => ?_⟩
      have e1 : a.tmps[1]? = some (.pointer (some ⟨w.heap.size, 0, none⟩)) := by rw [ha]; exact (putSel_off rfl).trans rfl
      replace ha := Aside0.mk ha
      have HBW := Aside0.mk HBW
      have hc_ := blk_below (B0).out HBW.out
      have hc0_ := (blk_cell hc_ 0).trans rfl
      have hc1_ := (blk_cell hc_ 1).trans rfl
      have hc2_ := (blk_cell hc_ 2).trans rfl
      have hc3_ := (blk_cell hc_ 3).trans rfl
      have hc4_ := (blk_cell hc_ 4).trans rfl
      clear hc_
      refine value_ (w1 := w') (v := .agg #[.string (⟨#[97]⟩ : ByteArray), .int .i64 2, .bool false, .int .i64 2, .int .i64 0]) (by rfl) rfl ?_ ?_
      · go_simp
        (try simp only [i64_w])
        try rfl
      refine hK.out _ _ ⟨v1, v3, v8, v10, v27, v29, (by rw [ha.out]; exact putSel_upk 2 hb_ rfl rfl rfl), HBW.out, Q_V1, Q_V3, Q_V8, Q_V10, Q_V27, Q_V29⟩
    refine steps_cons ?_ ?_
    · rintro b a w' ⟨v1, v3, v8, v10, v27, v29, ha, HBW, Q_V1, Q_V3, Q_V8, Q_V10, Q_V27, Q_V29⟩ hb_ hon hoff
      refine ⟨_, rfl, fun K hK => ?_⟩
      have e9 : a.tmps[9]? = some (.agg #[.string (⟨#[97]⟩ : ByteArray), .int .i64 2, .bool false, .int .i64 2, .int .i64 0]) := by rw [ha]; exact putSel_on (e := (2, 9, .agg #[.string (⟨#[97]⟩ : ByteArray), .int .i64 2, .bool false, .int .i64 2, .int .i64 0])) 2 rfl rfl (hon 2 (by kernel_rfl)) rfl
      replace ha := Aside0.mk ha
      have HBW := Aside0.mk HBW
      have hb := X.below_new1 w' (.cells #[.string (⟨#[97]⟩ : ByteArray), .int .i64 2, .bool false, .int .i64 2, .int .i64 0] 30 (0, 0))
      refine value_ (w1 := w'.alloc (.cells #[.string (⟨#[97]⟩ : ByteArray), .int .i64 2, .bool false, .int .i64 2, .int .i64 0] 30 (0, 0))) (v := .slice (some ⟨w'.heap.size, 0, none⟩) 1 1) (by rfl) rfl ?_ ?_
      · go_simp
        try rfl
      refine hK.out _ _ ⟨v1, .slice (some ⟨w'.heap.size, 0, none⟩) 1 1, v8, v10, v27, v29, (by rw [ha.out]; exact putSel_upk 3 hb_ rfl rfl rfl), below_step HBW.out hb, fun h_ => CFPart.below (Q_V1 h_) hb, fun _ => ⟨_, _, rfl, Nat.le_refl _, c30_L w'⟩, fun h_ => CFPart.below (Q_V8 h_) hb, fun h_ => CFVar.below (Q_V10 h_) hb, fun h_ => CFPart.below (Q_V27 h_) hb, fun h_ => CFVar.below (Q_V29 h_) hb⟩
    refine steps_cons ?_ ?_
    · rintro b a w' ⟨v1, v3, v8, v10, v27, v29, ha, HBW, Q_V1, Q_V3, Q_V8, Q_V10, Q_V27, Q_V29⟩ hb_ hon hoff
      refine ⟨_, rfl, fun K hK => ?_⟩
      obtain ⟨A1, c1, rfl, p1, q1⟩ := Q_V1 (hon 1 (by kernel_rfl))
      obtain ⟨A2, c2, rfl, p2, q2⟩ := Q_V3 (hon 3 (by kernel_rfl))
      have e8 : a.tmps[8]? = some (.slice A1 1 c1) := by rw [ha]; exact putSel_on (e := (1, 8, .slice A1 1 c1)) 1 rfl rfl (hon 1 (by kernel_rfl)) rfl
      have e10 : a.tmps[10]? = some (.slice A2 1 c2) := by rw [ha]; exact putSel_on (e := (3, 10, .slice A2 1 c2)) 3 rfl rfl (hon 3 (by kernel_rfl)) rfl
      replace ha := Aside0.mk ha
      have HBW := Aside0.mk HBW
      refine goes_ Try.func9 (by kernel_rfl) rfl #[.slice A1 1 c1, .slice A2 1 c2] (by rfl) rfl rfl (by first | (simp only [List.map_toArray, List.map_cons, List.map_nil, Act.eval, Array.getD_eq_getD_getElem?, Option.getD_some, e8, e10]; done) | (simp only [List.map_toArray, List.map_cons, List.map_nil, Act.eval, Array.getD_eq_getD_getElem?, Option.getD_some, e8, e10]; rfl)) ?_
      refine (aw_fit6 A1 c1 A2 c2 w' q1 p1 q2 p2).mono ?_
      rintro e w1 ⟨rfl, hb⟩
      refine ⟨_, rfl, ?_⟩
      refine hK.out _ _ ⟨.slice A1 1 c1, .slice A2 1 c2, v8, v10, v27, v29, (by rw [ha.out]; exact putSel_upk 4 hb_ rfl rfl rfl), below_step HBW.out hb, fun h_ => CFPart.below ⟨A1, c1, rfl, p1, q1⟩ hb, fun h_ => CFVar.below ⟨A2, c2, rfl, p2, q2⟩ hb, fun h_ => CFPart.below (Q_V8 h_) hb, fun h_ => CFVar.below (Q_V10 h_) hb, fun h_ => CFPart.below (Q_V27 h_) hb, fun h_ => CFVar.below (Q_V29 h_) hb⟩
    refine steps_cons ?_ ?_
    · rintro b a w' ⟨v1, v3, v8, v10, v27, v29, ha, HBW, Q_V1, Q_V3, Q_V8, Q_V10, Q_V27, Q_V29⟩ hb_ hon hoff
      refine ⟨_, rfl, fun K hK => ?_⟩
      have e11 : a.tmps[11]? = some (.int .i64 6) := by rw [ha]; exact putSel_on (e := (4, 11, .int .i64 6)) 4 rfl rfl (hon 4 (by kernel_rfl)) rfl
      replace ha := Aside0.mk ha
      have HBW := Aside0.mk HBW
      refine value_ (w1 := w') (v := .bool true) (by rfl) rfl ?_ ?_
      · go_simp
        (try simp only [i64_w])
        try rfl
      refine hK.out _ _ ⟨v1, v3, v8, v10, v27, v29, (by rw [ha.out]; exact putSel_upk 5 hb_ rfl rfl rfl), HBW.out, Q_V1, Q_V3, Q_V8, Q_V10, Q_V27, Q_V29⟩
    refine steps_cons ?_ ?_
    · rintro b a w' ⟨v1, v3, v8, v10, v27, v29, ha, HBW, Q_V1, Q_V3, Q_V8, Q_V10, Q_V27, Q_V29⟩ hb_ hon hoff
      refine ⟨_, rfl, fun K hK => ?_⟩
      have e12 : a.tmps[12]? = some (.bool true) := by rw [ha]; exact putSel_on (e := (5, 12, .bool true)) 5 rfl rfl (hon 5 (by kernel_rfl)) rfl
      replace ha := Aside0.mk ha
      have HBW := Aside0.mk HBW
      refine value_ (w1 := w') (v := .bool true) (by rfl) rfl ?_ ?_
      · go_simp
        (try simp only [i64_w])
        try rfl
      refine hK.out _ _ ⟨v1, v3, v8, v10, v27, v29, (by rw [ha.out]; exact putSel_upk 6 hb_ rfl rfl rfl), HBW.out, Q_V1, Q_V3, Q_V8, Q_V10, Q_V27, Q_V29⟩
    refine steps_cons ?_ ?_
    · rintro b a w' ⟨v1, v3, v8, v10, v27, v29, ha, HBW, Q_V1, Q_V3, Q_V8, Q_V10, Q_V27, Q_V29⟩ hb_ hon hoff
      refine ⟨_, rfl, fun K hK => ?_⟩
      have e3 : a.tmps[3]? = some (.pointer (some ⟨w.heap.size + 1 + 1, 0, none⟩)) := by rw [ha]; exact (putSel_off rfl).trans rfl
      have e13 : a.tmps[13]? = some (.bool true) := by rw [ha]; exact putSel_on (e := (6, 13, .bool true)) 6 rfl rfl (hon 6 (by kernel_rfl)) rfl
      replace ha := Aside0.mk ha
      have HBW := Aside0.mk HBW
      have hc_ := blk_below (B2).out HBW.out
      have hc0_ := (blk_cell hc_ 0).trans rfl
      have hc1_ := (blk_cell hc_ 1).trans rfl
      have hc2_ := (blk_cell hc_ 2).trans rfl
      clear hc_
      refine value_ (w1 := w') (v := .agg #[.string (⟨#[97]⟩ : ByteArray), .int .i64 3, .bool false]) (wanted_on rfl rfl rfl (e13.trans (by first | rfl | (simp [*]; done)))) rfl ?_ ?_
      · go_simp
        (try simp only [i64_w])
        try rfl
      refine hK.out _ _ ⟨v1, v3, v8, v10, v27, v29, (by rw [ha.out]; exact putSel_upk 7 hb_ rfl rfl rfl), HBW.out, Q_V1, Q_V3, Q_V8, Q_V10, Q_V27, Q_V29⟩
    refine steps_cons ?_ ?_
    · rintro b a w' ⟨v1, v3, v8, v10, v27, v29, ha, HBW, Q_V1, Q_V3, Q_V8, Q_V10, Q_V27, Q_V29⟩ hb_ hon hoff
      refine ⟨_, rfl, fun K hK => ?_⟩
      have e14 : a.tmps[14]? = some (.agg #[.string (⟨#[97]⟩ : ByteArray), .int .i64 3, .bool false]) := by rw [ha]; exact putSel_on (e := (7, 14, .agg #[.string (⟨#[97]⟩ : ByteArray), .int .i64 3, .bool false])) 7 rfl rfl (hon 7 (by kernel_rfl)) rfl
      have e13 : a.tmps[13]? = some (.bool true) := by rw [ha]; exact putSel_on (e := (6, 13, .bool true)) 6 rfl rfl (hon 6 (by kernel_rfl)) rfl
      replace ha := Aside0.mk ha
      have HBW := Aside0.mk HBW
      refine goes_ Try.func14 (by kernel_rfl) rfl #[.int .u8 0, .agg #[.string (⟨#[97]⟩ : ByteArray), .int .i64 3, .bool false]] (wanted_on rfl rfl rfl (e13.trans (by first | rfl | (simp [*]; done)))) rfl rfl (by first | (simp only [List.map_toArray, List.map_cons, List.map_nil, Act.eval, Array.getD_eq_getD_getElem?, Option.getD_some, e14, e13]; done) | (simp only [List.map_toArray, List.map_cons, List.map_nil, Act.eval, Array.getD_eq_getD_getElem?, Option.getD_some, e14, e13]; rfl)) ?_
      refine (aw_part _).mono ?_
      rintro e w1 ⟨v8, rfl, h1, hb⟩
      refine ⟨_, rfl, ?_⟩
      refine hK.out _ _ ⟨v1, v3, v8, v10, v27, v29, (by rw [ha.out]; exact putSel_upk 8 hb_ rfl rfl rfl), below_step HBW.out hb, fun h_ => CFPart.below (Q_V1 h_) hb, fun h_ => CFVar.below (Q_V3 h_) hb, fun _ => h1, fun h_ => CFVar.below (Q_V10 h_) hb, fun h_ => CFPart.below (Q_V27 h_) hb, fun h_ => CFVar.below (Q_V29 h_) hb⟩
    refine steps_cons ?_ ?_
    · rintro b a w' ⟨v1, v3, v8, v10, v27, v29, ha, HBW, Q_V1, Q_V3, Q_V8, Q_V10, Q_V27, Q_V29⟩ hb_ hon hoff
      refine ⟨_, rfl, fun K hK => ?_⟩
      have e2 : a.tmps[2]? = some (.pointer (some ⟨w.heap.size + 1, 0, none⟩)) := by rw [ha]; exact (putSel_off rfl).trans rfl
      have e13 : a.tmps[13]? = some (.bool true) := by rw [ha]; exact putSel_on (e := (6, 13, .bool true)) 6 rfl rfl (hon 6 (by kernel_rfl)) rfl
      replace ha := Aside0.mk ha
      have HBW := Aside0.mk HBW
      have hc_ := blk_below (B1).out HBW.out
      have hc0_ := (blk_cell hc_ 0).trans rfl
      have hc1_ := (blk_cell hc_ 1).trans rfl
      have hc2_ := (blk_cell hc_ 2).trans rfl
      have hc3_ := (blk_cell hc_ 3).trans rfl
      have hc4_ := (blk_cell hc_ 4).trans rfl
      clear hc_
      refine value_ (w1 := w') (v := .agg #[.string (⟨#[97]⟩ : ByteArray), .int .i64 1, .bool false, .int .i64 2, .int .i64 2]) (wanted_on rfl rfl rfl (e13.trans (by first | rfl | (simp [*]; done)))) rfl ?_ ?_
      · go_simp
        (try simp only [i64_w])
        try rfl
      refine hK.out _ _ ⟨v1, v3, v8, v10, v27, v29, (by rw [ha.out]; exact putSel_upk 9 hb_ rfl rfl rfl), HBW.out, Q_V1, Q_V3, Q_V8, Q_V10, Q_V27, Q_V29⟩
    refine steps_cons ?_ ?_
    · rintro b a w' ⟨v1, v3, v8, v10, v27, v29, ha, HBW, Q_V1, Q_V3, Q_V8, Q_V10, Q_V27, Q_V29⟩ hb_ hon hoff
      refine ⟨_, rfl, fun K hK => ?_⟩
      have e16 : a.tmps[16]? = some (.agg #[.string (⟨#[97]⟩ : ByteArray), .int .i64 1, .bool false, .int .i64 2, .int .i64 2]) := by rw [ha]; exact putSel_on (e := (9, 16, .agg #[.string (⟨#[97]⟩ : ByteArray), .int .i64 1, .bool false, .int .i64 2, .int .i64 2])) 9 rfl rfl (hon 9 (by kernel_rfl)) rfl
      have e13 : a.tmps[13]? = some (.bool true) := by rw [ha]; exact putSel_on (e := (6, 13, .bool true)) 6 rfl rfl (hon 6 (by kernel_rfl)) rfl
      replace ha := Aside0.mk ha
      have HBW := Aside0.mk HBW
      have hb := X.below_new1 w' (.cells #[.string (⟨#[97]⟩ : ByteArray), .int .i64 1, .bool false, .int .i64 2, .int .i64 2] 30 (0, 0))
      refine value_ (w1 := w'.alloc (.cells #[.string (⟨#[97]⟩ : ByteArray), .int .i64 1, .bool false, .int .i64 2, .int .i64 2] 30 (0, 0))) (v := .slice (some ⟨w'.heap.size, 0, none⟩) 1 1) (wanted_on rfl rfl rfl (e13.trans (by first | rfl | (simp [*]; done)))) rfl ?_ ?_
      · go_simp
        try rfl
      refine hK.out _ _ ⟨v1, v3, v8, .slice (some ⟨w'.heap.size, 0, none⟩) 1 1, v27, v29, (by rw [ha.out]; exact putSel_upk 10 hb_ rfl rfl rfl), below_step HBW.out hb, fun h_ => CFPart.below (Q_V1 h_) hb, fun h_ => CFVar.below (Q_V3 h_) hb, fun h_ => CFPart.below (Q_V8 h_) hb, fun _ => ⟨_, _, rfl, Nat.le_refl _, c30_V w'⟩, fun h_ => CFPart.below (Q_V27 h_) hb, fun h_ => CFVar.below (Q_V29 h_) hb⟩
    refine steps_cons ?_ ?_
    · rintro b a w' ⟨v1, v3, v8, v10, v27, v29, ha, HBW, Q_V1, Q_V3, Q_V8, Q_V10, Q_V27, Q_V29⟩ hb_ hon hoff
      refine ⟨_, rfl, fun K hK => ?_⟩
      obtain ⟨A1, c1, rfl, p1, q1⟩ := Q_V8 (hon 8 (by kernel_rfl))
      obtain ⟨A2, c2, rfl, p2, q2⟩ := Q_V10 (hon 10 (by kernel_rfl))
      have e15 : a.tmps[15]? = some (.slice A1 1 c1) := by rw [ha]; exact putSel_on (e := (8, 15, .slice A1 1 c1)) 8 rfl rfl (hon 8 (by kernel_rfl)) rfl
      have e17 : a.tmps[17]? = some (.slice A2 1 c2) := by rw [ha]; exact putSel_on (e := (10, 17, .slice A2 1 c2)) 10 rfl rfl (hon 10 (by kernel_rfl)) rfl
      have e13 : a.tmps[13]? = some (.bool true) := by rw [ha]; exact putSel_on (e := (6, 13, .bool true)) 6 rfl rfl (hon 6 (by kernel_rfl)) rfl
      replace ha := Aside0.mk ha
      have HBW := Aside0.mk HBW
      refine goes_ Try.func9 (by kernel_rfl) rfl #[.slice A1 1 c1, .slice A2 1 c2] (wanted_on rfl rfl rfl (e13.trans (by first | rfl | (simp [*]; done)))) rfl rfl (by first | (simp only [List.map_toArray, List.map_cons, List.map_nil, Act.eval, Array.getD_eq_getD_getElem?, Option.getD_some, e15, e17, e13]; done) | (simp only [List.map_toArray, List.map_cons, List.map_nil, Act.eval, Array.getD_eq_getD_getElem?, Option.getD_some, e15, e17, e13]; rfl)) ?_
      refine (aw_fit0 A1 c1 A2 c2 w' q1 p1 q2 p2).mono ?_
      rintro e w1 ⟨rfl, hb⟩
      refine ⟨_, rfl, ?_⟩
      refine hK.out _ _ ⟨v1, v3, .slice A1 1 c1, .slice A2 1 c2, v27, v29, (by rw [ha.out]; exact putSel_upk 11 hb_ rfl rfl rfl), below_step HBW.out hb, fun h_ => CFPart.below (Q_V1 h_) hb, fun h_ => CFVar.below (Q_V3 h_) hb, fun h_ => CFPart.below ⟨A1, c1, rfl, p1, q1⟩ hb, fun h_ => CFVar.below ⟨A2, c2, rfl, p2, q2⟩ hb, fun h_ => CFPart.below (Q_V27 h_) hb, fun h_ => CFVar.below (Q_V29 h_) hb⟩
    refine steps_cons ?_ ?_
    · rintro b a w' ⟨v1, v3, v8, v10, v27, v29, ha, HBW, Q_V1, Q_V3, Q_V8, Q_V10, Q_V27, Q_V29⟩ hb_ hon hoff
      refine ⟨_, rfl, fun K hK => ?_⟩
      have e18 : a.tmps[18]? = some (.int .i64 0) := by rw [ha]; exact putSel_on (e := (11, 18, .int .i64 0)) 11 rfl rfl (hon 11 (by kernel_rfl)) rfl
      have e13 : a.tmps[13]? = some (.bool true) := by rw [ha]; exact putSel_on (e := (6, 13, .bool true)) 6 rfl rfl (hon 6 (by kernel_rfl)) rfl
      replace ha := Aside0.mk ha
      have HBW := Aside0.mk HBW
      refine value_ (w1 := w') (v := .bool true) (wanted_on rfl rfl rfl (e13.trans (by first | rfl | (simp [*]; done)))) rfl ?_ ?_
      · go_simp
        (try simp only [i64_w])
        try rfl
      refine hK.out _ _ ⟨v1, v3, v8, v10, v27, v29, (by rw [ha.out]; exact putSel_upk 12 hb_ rfl rfl rfl), HBW.out, Q_V1, Q_V3, Q_V8, Q_V10, Q_V27, Q_V29⟩
    refine steps_cons ?_ ?_
    · rintro b a w' ⟨v1, v3, v8, v10, v27, v29, ha, HBW, Q_V1, Q_V3, Q_V8, Q_V10, Q_V27, Q_V29⟩ hb_ hon hoff
      refine ⟨_, rfl, fun K hK => ?_⟩
      have e13 : a.tmps[13]? = some (.bool true) := by rw [ha]; exact putSel_on (e := (6, 13, .bool true)) 6 rfl rfl (hon 6 (by kernel_rfl)) rfl
      have e19 : a.tmps[19]? = some (.bool true) := by rw [ha]; exact putSel_on (e := (12, 19, .bool true)) 12 rfl rfl (hon 12 (by kernel_rfl)) rfl
      replace ha := Aside0.mk ha
      have HBW := Aside0.mk HBW
      refine value_ (w1 := w') (v := .bool true) (by rfl) rfl ?_ ?_
      · go_simp
        (try simp only [i64_w])
        try rfl
      refine hK.out _ _ ⟨v1, v3, v8, v10, v27, v29, (by rw [ha.out]; exact putSel_upk 13 hb_ rfl rfl rfl), HBW.out, Q_V1, Q_V3, Q_V8, Q_V10, Q_V27, Q_V29⟩
    refine steps_cons ?_ ?_
    · rintro b a w' ⟨v1, v3, v8, v10, v27, v29, ha, HBW, Q_V1, Q_V3, Q_V8, Q_V10, Q_V27, Q_V29⟩ hb_ hon hoff
      refine ⟨_, rfl, fun K hK => ?_⟩
      have e20 : a.tmps[20]? = some (.bool true) := by rw [ha]; exact putSel_on (e := (13, 20, .bool true)) 13 rfl rfl (hon 13 (by kernel_rfl)) rfl
      replace ha := Aside0.mk ha
      have HBW := Aside0.mk HBW
      refine value_ (w1 := w') (v := .bool true) (by rfl) rfl ?_ ?_
      · go_simp
        (try simp only [i64_w])
        try rfl
      refine hK.out _ _ ⟨v1, v3, v8, v10, v27, v29, (by rw [ha.out]; exact putSel_upk 14 hb_ rfl rfl rfl), HBW.out, Q_V1, Q_V3, Q_V8, Q_V10, Q_V27, Q_V29⟩
    refine steps_cons ?_ ?_
    · rintro b a w' ⟨v1, v3, v8, v10, v27, v29, ha, HBW, Q_V1, Q_V3, Q_V8, Q_V10, Q_V27, Q_V29⟩ hb_ hon hoff
      refine ⟨_, rfl, fun K hK => ?_⟩
      have e3 : a.tmps[3]? = some (.pointer (some ⟨w.heap.size + 1 + 1, 0, none⟩)) := by rw [ha]; exact (putSel_off rfl).trans rfl
      have e21 : a.tmps[21]? = some (.bool true) := by rw [ha]; exact putSel_on (e := (14, 21, .bool true)) 14 rfl rfl (hon 14 (by kernel_rfl)) rfl
      replace ha := Aside0.mk ha
      have HBW := Aside0.mk HBW
      have hc_ := blk_below (B2).out HBW.out
      have hc0_ := (blk_cell hc_ 0).trans rfl
      have hc1_ := (blk_cell hc_ 1).trans rfl
      have hc2_ := (blk_cell hc_ 2).trans rfl
      clear hc_
      refine value_ (w1 := w') (v := .agg #[.string (⟨#[97]⟩ : ByteArray), .int .i64 3, .bool false]) (wanted_on rfl rfl rfl (e21.trans (by first | rfl | (simp [*]; done)))) rfl ?_ ?_
      · go_simp
        (try simp only [i64_w])
        try rfl
      refine hK.out _ _ ⟨v1, v3, v8, v10, v27, v29, (by rw [ha.out]; exact putSel_upk 15 hb_ rfl rfl rfl), HBW.out, Q_V1, Q_V3, Q_V8, Q_V10, Q_V27, Q_V29⟩
    refine steps_cons ?_ ?_
    · rintro b a w' ⟨v1, v3, v8, v10, v27, v29, ha, HBW, Q_V1, Q_V3, Q_V8, Q_V10, Q_V27, Q_V29⟩ hb_ hon hoff
      refine ⟨_, rfl, fun K hK => ?_⟩
      have e2 : a.tmps[2]? = some (.pointer (some ⟨w.heap.size + 1, 0, none⟩)) := by rw [ha]; exact (putSel_off rfl).trans rfl
      have e21 : a.tmps[21]? = some (.bool true) := by rw [ha]; exact putSel_on (e := (14, 21, .bool true)) 14 rfl rfl (hon 14 (by kernel_rfl)) rfl
      replace ha := Aside0.mk ha
      have HBW := Aside0.mk HBW
      have hc_ := blk_below (B1).out HBW.out
      have hc0_ := (blk_cell hc_ 0).trans rfl
      have hc1_ := (blk_cell hc_ 1).trans rfl
      have hc2_ := (blk_cell hc_ 2).trans rfl
      have hc3_ := (blk_cell hc_ 3).trans rfl
      have hc4_ := (blk_cell hc_ 4).trans rfl
      clear hc_
      refine value_ (w1 := w') (v := .agg #[.string (⟨#[97]⟩ : ByteArray), .int .i64 1, .bool false, .int .i64 2, .int .i64 2]) (wanted_on rfl rfl rfl (e21.trans (by first | rfl | (simp [*]; done)))) rfl ?_ ?_
      · go_simp
        (try simp only [i64_w])
        try rfl
      refine hK.out _ _ ⟨v1, v3, v8, v10, v27, v29, (by rw [ha.out]; exact putSel_upk 16 hb_ rfl rfl rfl), HBW.out, Q_V1, Q_V3, Q_V8, Q_V10, Q_V27, Q_V29⟩
    refine steps_cons ?_ ?_
    · rintro b a w' ⟨v1, v3, v8, v10, v27, v29, ha, HBW, Q_V1, Q_V3, Q_V8, Q_V10, Q_V27, Q_V29⟩ hb_ hon hoff
      refine ⟨_, rfl, fun K hK => ?_⟩
      have e22 : a.tmps[22]? = some (.agg #[.string (⟨#[97]⟩ : ByteArray), .int .i64 3, .bool false]) := by rw [ha]; exact putSel_on (e := (15, 22, .agg #[.string (⟨#[97]⟩ : ByteArray), .int .i64 3, .bool false])) 15 rfl rfl (hon 15 (by kernel_rfl)) rfl
      have e23 : a.tmps[23]? = some (.agg #[.string (⟨#[97]⟩ : ByteArray), .int .i64 1, .bool false, .int .i64 2, .int .i64 2]) := by rw [ha]; exact putSel_on (e := (16, 23, .agg #[.string (⟨#[97]⟩ : ByteArray), .int .i64 1, .bool false, .int .i64 2, .int .i64 2])) 16 rfl rfl (hon 16 (by kernel_rfl)) rfl
      have e21 : a.tmps[21]? = some (.bool true) := by rw [ha]; exact putSel_on (e := (14, 21, .bool true)) 14 rfl rfl (hon 14 (by kernel_rfl)) rfl
      replace ha := Aside0.mk ha
      have HBW := Aside0.mk HBW
      refine goes_ Try.func15 (by kernel_rfl) rfl #[.agg #[.string (⟨#[97]⟩ : ByteArray), .int .i64 3, .bool false], .agg #[.string (⟨#[97]⟩ : ByteArray), .int .i64 1, .bool false, .int .i64 2, .int .i64 2]] (wanted_on rfl rfl rfl (e21.trans (by first | rfl | (simp [*]; done)))) rfl rfl (by first | (simp only [List.map_toArray, List.map_cons, List.map_nil, Act.eval, Array.getD_eq_getD_getElem?, Option.getD_some, e22, e23, e21]; done) | (simp only [List.map_toArray, List.map_cons, List.map_nil, Act.eval, Array.getD_eq_getD_getElem?, Option.getD_some, e22, e23, e21]; rfl)) ?_
      refine (fit_Cut.calls _ 3 _ _ _ _ _ _ _ w' aw_cut0_f).mono ?_
      rintro e w1 ⟨rfl, hb⟩
      refine ⟨_, rfl, ?_⟩
      refine hK.out _ _ ⟨v1, v3, v8, v10, v27, v29, (by rw [ha.out]; exact putSel_upk 17 hb_ rfl rfl rfl), below_step HBW.out hb, fun h_ => CFPart.below (Q_V1 h_) hb, fun h_ => CFVar.below (Q_V3 h_) hb, fun h_ => CFPart.below (Q_V8 h_) hb, fun h_ => CFVar.below (Q_V10 h_) hb, fun h_ => CFPart.below (Q_V27 h_) hb, fun h_ => CFVar.below (Q_V29 h_) hb⟩
    refine steps_cons ?_ ?_
    · rintro b a w' ⟨v1, v3, v8, v10, v27, v29, ha, HBW, Q_V1, Q_V3, Q_V8, Q_V10, Q_V27, Q_V29⟩ hb_ hon hoff
      refine ⟨_, rfl, fun K hK => ?_⟩
      have e24 : a.tmps[24]? = some (.bool false) := by rw [ha]; exact putSel_on (e := (17, 24, .bool false)) 17 rfl rfl (hon 17 (by kernel_rfl)) rfl
      have e21 : a.tmps[21]? = some (.bool true) := by rw [ha]; exact putSel_on (e := (14, 21, .bool true)) 14 rfl rfl (hon 14 (by kernel_rfl)) rfl
      replace ha := Aside0.mk ha
      have HBW := Aside0.mk HBW
      refine value_ (w1 := w') (v := .bool true) (wanted_on rfl rfl rfl (e21.trans (by first | rfl | (simp [*]; done)))) rfl ?_ ?_
      · go_simp
        (try simp only [i64_w])
        try rfl
      refine hK.out _ _ ⟨v1, v3, v8, v10, v27, v29, (by rw [ha.out]; exact putSel_upk 18 hb_ rfl rfl rfl), HBW.out, Q_V1, Q_V3, Q_V8, Q_V10, Q_V27, Q_V29⟩
    refine steps_cons ?_ ?_
    · rintro b a w' ⟨v1, v3, v8, v10, v27, v29, ha, HBW, Q_V1, Q_V3, Q_V8, Q_V10, Q_V27, Q_V29⟩ hb_ hon hoff
      refine ⟨_, rfl, fun K hK => ?_⟩
      have e21 : a.tmps[21]? = some (.bool true) := by rw [ha]; exact putSel_on (e := (14, 21, .bool true)) 14 rfl rfl (hon 14 (by kernel_rfl)) rfl
      have e25 : a.tmps[25]? = some (.bool true) := by rw [ha]; exact putSel_on (e := (18, 25, .bool true)) 18 rfl rfl (hon 18 (by kernel_rfl)) rfl
      replace ha := Aside0.mk ha
      have HBW := Aside0.mk HBW
      refine value_ (w1 := w') (v := .bool true) (by rfl) rfl ?_ ?_
      · go_simp
        (try simp only [i64_w])
        try rfl
      refine hK.out _ _ ⟨v1, v3, v8, v10, v27, v29, (by rw [ha.out]; exact putSel_upk 19 hb_ rfl rfl rfl), HBW.out, Q_V1, Q_V3, Q_V8, Q_V10, Q_V27, Q_V29⟩
    refine steps_cons ?_ ?_
    · rintro b a w' ⟨v1, v3, v8, v10, v27, v29, ha, HBW, Q_V1, Q_V3, Q_V8, Q_V10, Q_V27, Q_V29⟩ hb_ hon hoff
      refine ⟨_, rfl, fun K hK => ?_⟩
      have e26 : a.tmps[26]? = some (.bool true) := by rw [ha]; exact putSel_on (e := (19, 26, .bool true)) 19 rfl rfl (hon 19 (by kernel_rfl)) rfl
      replace ha := Aside0.mk ha
      have HBW := Aside0.mk HBW
      refine value_ (w1 := w') (v := .bool true) (by rfl) rfl ?_ ?_
      · go_simp
        (try simp only [i64_w])
        try rfl
      refine hK.out _ _ ⟨v1, v3, v8, v10, v27, v29, (by rw [ha.out]; exact putSel_upk 20 hb_ rfl rfl rfl), HBW.out, Q_V1, Q_V3, Q_V8, Q_V10, Q_V27, Q_V29⟩
    refine steps_cons ?_ ?_
    · rintro b a w' ⟨v1, v3, v8, v10, v27, v29, ha, HBW, Q_V1, Q_V3, Q_V8, Q_V10, Q_V27, Q_V29⟩ hb_ hon hoff
      refine ⟨_, rfl, fun K hK => ?_⟩
      have e27 : a.tmps[27]? = some (.bool true) := by rw [ha]; exact putSel_on (e := (20, 27, .bool true)) 20 rfl rfl (hon 20 (by kernel_rfl)) rfl
      replace ha := Aside0.mk ha
      have HBW := Aside0.mk HBW
      refine value_ (w1 := w') (v := .agg #[.string (⟨#[97]⟩ : ByteArray), .int .i64 1, .bool false]) (wanted_on rfl rfl rfl (e27.trans (by first | rfl | (simp [*]; done)))) rfl ?_ ?_
      · go_simp
        (try simp only [i64_w])
        try rfl
      refine hK.out _ _ ⟨v1, v3, v8, v10, v27, v29, (by rw [ha.out]; exact putSel_upk 21 hb_ rfl rfl rfl), HBW.out, Q_V1, Q_V3, Q_V8, Q_V10, Q_V27, Q_V29⟩
    refine steps_cons ?_ ?_
    · rintro b a w' ⟨v1, v3, v8, v10, v27, v29, ha, HBW, Q_V1, Q_V3, Q_V8, Q_V10, Q_V27, Q_V29⟩ hb_ hon hoff
      refine ⟨_, rfl, fun K hK => ?_⟩
      have e2 : a.tmps[2]? = some (.pointer (some ⟨w.heap.size + 1, 0, none⟩)) := by rw [ha]; exact (putSel_off rfl).trans rfl
      have e27 : a.tmps[27]? = some (.bool true) := by rw [ha]; exact putSel_on (e := (20, 27, .bool true)) 20 rfl rfl (hon 20 (by kernel_rfl)) rfl
      replace ha := Aside0.mk ha
      have HBW := Aside0.mk HBW
      have hc_ := blk_below (B1).out HBW.out
      have hc0_ := (blk_cell hc_ 0).trans rfl
      have hc1_ := (blk_cell hc_ 1).trans rfl
      have hc2_ := (blk_cell hc_ 2).trans rfl
      have hc3_ := (blk_cell hc_ 3).trans rfl
      have hc4_ := (blk_cell hc_ 4).trans rfl
      clear hc_
      refine value_ (w1 := w') (v := .agg #[.string (⟨#[97]⟩ : ByteArray), .int .i64 1, .bool false, .int .i64 2, .int .i64 2]) (wanted_on rfl rfl rfl (e27.trans (by first | rfl | (simp [*]; done)))) rfl ?_ ?_
      · go_simp
        (try simp only [i64_w])
        try rfl
      refine hK.out _ _ ⟨v1, v3, v8, v10, v27, v29, (by rw [ha.out]; exact putSel_upk 22 hb_ rfl rfl rfl), HBW.out, Q_V1, Q_V3, Q_V8, Q_V10, Q_V27, Q_V29⟩
    refine steps_cons ?_ ?_
    · rintro b a w' ⟨v1, v3, v8, v10, v27, v29, ha, HBW, Q_V1, Q_V3, Q_V8, Q_V10, Q_V27, Q_V29⟩ hb_ hon hoff
      refine ⟨_, rfl, fun K hK => ?_⟩
      have e28 : a.tmps[28]? = some (.agg #[.string (⟨#[97]⟩ : ByteArray), .int .i64 1, .bool false]) := by rw [ha]; exact putSel_on (e := (21, 28, .agg #[.string (⟨#[97]⟩ : ByteArray), .int .i64 1, .bool false])) 21 rfl rfl (hon 21 (by kernel_rfl)) rfl
      have e29 : a.tmps[29]? = some (.agg #[.string (⟨#[97]⟩ : ByteArray), .int .i64 1, .bool false, .int .i64 2, .int .i64 2]) := by rw [ha]; exact putSel_on (e := (22, 29, .agg #[.string (⟨#[97]⟩ : ByteArray), .int .i64 1, .bool false, .int .i64 2, .int .i64 2])) 22 rfl rfl (hon 22 (by kernel_rfl)) rfl
      have e27 : a.tmps[27]? = some (.bool true) := by rw [ha]; exact putSel_on (e := (20, 27, .bool true)) 20 rfl rfl (hon 20 (by kernel_rfl)) rfl
      replace ha := Aside0.mk ha
      have HBW := Aside0.mk HBW
      refine goes_ Try.func15 (by kernel_rfl) rfl #[.agg #[.string (⟨#[97]⟩ : ByteArray), .int .i64 1, .bool false], .agg #[.string (⟨#[97]⟩ : ByteArray), .int .i64 1, .bool false, .int .i64 2, .int .i64 2]] (wanted_on rfl rfl rfl (e27.trans (by first | rfl | (simp [*]; done)))) rfl rfl (by first | (simp only [List.map_toArray, List.map_cons, List.map_nil, Act.eval, Array.getD_eq_getD_getElem?, Option.getD_some, e28, e29, e27]; done) | (simp only [List.map_toArray, List.map_cons, List.map_nil, Act.eval, Array.getD_eq_getD_getElem?, Option.getD_some, e28, e29, e27]; rfl)) ?_
      refine (fit_Cut.calls _ 1 _ _ _ _ _ _ _ w' aw_cut1_f).mono ?_
      rintro e w1 ⟨rfl, hb⟩
      refine ⟨_, rfl, ?_⟩
      refine hK.out _ _ ⟨v1, v3, v8, v10, v27, v29, (by rw [ha.out]; exact putSel_upk 23 hb_ rfl rfl rfl), below_step HBW.out hb, fun h_ => CFPart.below (Q_V1 h_) hb, fun h_ => CFVar.below (Q_V3 h_) hb, fun h_ => CFPart.below (Q_V8 h_) hb, fun h_ => CFVar.below (Q_V10 h_) hb, fun h_ => CFPart.below (Q_V27 h_) hb, fun h_ => CFVar.below (Q_V29 h_) hb⟩
    refine steps_cons ?_ ?_
    · rintro b a w' ⟨v1, v3, v8, v10, v27, v29, ha, HBW, Q_V1, Q_V3, Q_V8, Q_V10, Q_V27, Q_V29⟩ hb_ hon hoff
      refine ⟨_, rfl, fun K hK => ?_⟩
      have e27 : a.tmps[27]? = some (.bool true) := by rw [ha]; exact putSel_on (e := (20, 27, .bool true)) 20 rfl rfl (hon 20 (by kernel_rfl)) rfl
      have e30 : a.tmps[30]? = some (.bool true) := by rw [ha]; exact putSel_on (e := (23, 30, .bool true)) 23 rfl rfl (hon 23 (by kernel_rfl)) rfl
      replace ha := Aside0.mk ha
      have HBW := Aside0.mk HBW
      refine value_ (w1 := w') (v := .bool true) (by rfl) rfl ?_ ?_
      · go_simp
        (try simp only [i64_w])
        try rfl
      refine hK.out _ _ ⟨v1, v3, v8, v10, v27, v29, (by rw [ha.out]; exact putSel_upk 24 hb_ rfl rfl rfl), HBW.out, Q_V1, Q_V3, Q_V8, Q_V10, Q_V27, Q_V29⟩
    refine steps_cons ?_ ?_
    · rintro b a w' ⟨v1, v3, v8, v10, v27, v29, ha, HBW, Q_V1, Q_V3, Q_V8, Q_V10, Q_V27, Q_V29⟩ hb_ hon hoff
      refine ⟨_, rfl, fun K hK => ?_⟩
      have e31 : a.tmps[31]? = some (.bool true) := by rw [ha]; exact putSel_on (e := (24, 31, .bool true)) 24 rfl rfl (hon 24 (by kernel_rfl)) rfl
      replace ha := Aside0.mk ha
      have HBW := Aside0.mk HBW
      refine value_ (w1 := w') (v := .bool true) (by rfl) rfl ?_ ?_
      · go_simp
        (try simp only [i64_w])
        try rfl
      refine hK.out _ _ ⟨v1, v3, v8, v10, v27, v29, (by rw [ha.out]; exact putSel_upk 25 hb_ rfl rfl rfl), HBW.out, Q_V1, Q_V3, Q_V8, Q_V10, Q_V27, Q_V29⟩
    refine steps_cons ?_ ?_
    · rintro b a w' ⟨v1, v3, v8, v10, v27, v29, ha, HBW, Q_V1, Q_V3, Q_V8, Q_V10, Q_V27, Q_V29⟩ hb_ hon hoff
      refine ⟨_, rfl, fun K hK => ?_⟩
      have e3 : a.tmps[3]? = some (.pointer (some ⟨w.heap.size + 1 + 1, 0, none⟩)) := by rw [ha]; exact (putSel_off rfl).trans rfl
      have e32 : a.tmps[32]? = some (.bool true) := by rw [ha]; exact putSel_on (e := (25, 32, .bool true)) 25 rfl rfl (hon 25 (by kernel_rfl)) rfl
      replace ha := Aside0.mk ha
      have HBW := Aside0.mk HBW
      have hc_ := blk_below (B2).out HBW.out
      have hc0_ := (blk_cell hc_ 0).trans rfl
      have hc1_ := (blk_cell hc_ 1).trans rfl
      have hc2_ := (blk_cell hc_ 2).trans rfl
      clear hc_
      refine value_ (w1 := w') (v := .agg #[.string (⟨#[97]⟩ : ByteArray), .int .i64 3, .bool false]) (wanted_on rfl rfl rfl (e32.trans (by first | rfl | (simp [*]; done)))) rfl ?_ ?_
      · go_simp
        (try simp only [i64_w])
        try rfl
      refine hK.out _ _ ⟨v1, v3, v8, v10, v27, v29, (by rw [ha.out]; exact putSel_upk 26 hb_ rfl rfl rfl), HBW.out, Q_V1, Q_V3, Q_V8, Q_V10, Q_V27, Q_V29⟩
    refine steps_cons ?_ ?_
    · rintro b a w' ⟨v1, v3, v8, v10, v27, v29, ha, HBW, Q_V1, Q_V3, Q_V8, Q_V10, Q_V27, Q_V29⟩ hb_ hon hoff
      refine ⟨_, rfl, fun K hK => ?_⟩
      have e33 : a.tmps[33]? = some (.agg #[.string (⟨#[97]⟩ : ByteArray), .int .i64 3, .bool false]) := by rw [ha]; exact putSel_on (e := (26, 33, .agg #[.string (⟨#[97]⟩ : ByteArray), .int .i64 3, .bool false])) 26 rfl rfl (hon 26 (by kernel_rfl)) rfl
      have e32 : a.tmps[32]? = some (.bool true) := by rw [ha]; exact putSel_on (e := (25, 32, .bool true)) 25 rfl rfl (hon 25 (by kernel_rfl)) rfl
      replace ha := Aside0.mk ha
      have HBW := Aside0.mk HBW
      refine goes_ Try.func14 (by kernel_rfl) rfl #[.int .u8 0, .agg #[.string (⟨#[97]⟩ : ByteArray), .int .i64 3, .bool false]] (wanted_on rfl rfl rfl (e32.trans (by first | rfl | (simp [*]; done)))) rfl rfl (by first | (simp only [List.map_toArray, List.map_cons, List.map_nil, Act.eval, Array.getD_eq_getD_getElem?, Option.getD_some, e33, e32]; done) | (simp only [List.map_toArray, List.map_cons, List.map_nil, Act.eval, Array.getD_eq_getD_getElem?, Option.getD_some, e33, e32]; rfl)) ?_
      refine (aw_part _).mono ?_
      rintro e w1 ⟨v27, rfl, h1, hb⟩
      refine ⟨_, rfl, ?_⟩
      refine hK.out _ _ ⟨v1, v3, v8, v10, v27, v29, (by rw [ha.out]; exact putSel_upk 27 hb_ rfl rfl rfl), below_step HBW.out hb, fun h_ => CFPart.below (Q_V1 h_) hb, fun h_ => CFVar.below (Q_V3 h_) hb, fun h_ => CFPart.below (Q_V8 h_) hb, fun h_ => CFVar.below (Q_V10 h_) hb, fun _ => h1, fun h_ => CFVar.below (Q_V29 h_) hb⟩
    refine steps_cons ?_ ?_
    · rintro b a w' ⟨v1, v3, v8, v10, v27, v29, ha, HBW, Q_V1, Q_V3, Q_V8, Q_V10, Q_V27, Q_V29⟩ hb_ hon hoff
      refine ⟨_, rfl, fun K hK => ?_⟩
      have e2 : a.tmps[2]? = some (.pointer (some ⟨w.heap.size + 1, 0, none⟩)) := by rw [ha]; exact (putSel_off rfl).trans rfl
      have e32 : a.tmps[32]? = some (.bool true) := by rw [ha]; exact putSel_on (e := (25, 32, .bool true)) 25 rfl rfl (hon 25 (by kernel_rfl)) rfl
      replace ha := Aside0.mk ha
      have HBW := Aside0.mk HBW
      have hc_ := blk_below (B1).out HBW.out
      have hc0_ := (blk_cell hc_ 0).trans rfl
      have hc1_ := (blk_cell hc_ 1).trans rfl
      have hc2_ := (blk_cell hc_ 2).trans rfl
      have hc3_ := (blk_cell hc_ 3).trans rfl
      have hc4_ := (blk_cell hc_ 4).trans rfl
      clear hc_
      refine value_ (w1 := w') (v := .agg #[.string (⟨#[97]⟩ : ByteArray), .int .i64 1, .bool false, .int .i64 2, .int .i64 2]) (wanted_on rfl rfl rfl (e32.trans (by first | rfl | (simp [*]; done)))) rfl ?_ ?_
      · go_simp
        (try simp only [i64_w])
        try rfl
      refine hK.out _ _ ⟨v1, v3, v8, v10, v27, v29, (by rw [ha.out]; exact putSel_upk 28 hb_ rfl rfl rfl), HBW.out, Q_V1, Q_V3, Q_V8, Q_V10, Q_V27, Q_V29⟩
    refine steps_cons ?_ ?_
    · rintro b a w' ⟨v1, v3, v8, v10, v27, v29, ha, HBW, Q_V1, Q_V3, Q_V8, Q_V10, Q_V27, Q_V29⟩ hb_ hon hoff
      refine ⟨_, rfl, fun K hK => ?_⟩
      have e35 : a.tmps[35]? = some (.agg #[.string (⟨#[97]⟩ : ByteArray), .int .i64 1, .bool false, .int .i64 2, .int .i64 2]) := by rw [ha]; exact putSel_on (e := (28, 35, .agg #[.string (⟨#[97]⟩ : ByteArray), .int .i64 1, .bool false, .int .i64 2, .int .i64 2])) 28 rfl rfl (hon 28 (by kernel_rfl)) rfl
      have e32 : a.tmps[32]? = some (.bool true) := by rw [ha]; exact putSel_on (e := (25, 32, .bool true)) 25 rfl rfl (hon 25 (by kernel_rfl)) rfl
      replace ha := Aside0.mk ha
      have HBW := Aside0.mk HBW
      have hb := X.below_new1 w' (.cells #[.string (⟨#[97]⟩ : ByteArray), .int .i64 1, .bool false, .int .i64 2, .int .i64 2] 30 (0, 0))
      refine value_ (w1 := w'.alloc (.cells #[.string (⟨#[97]⟩ : ByteArray), .int .i64 1, .bool false, .int .i64 2, .int .i64 2] 30 (0, 0))) (v := .slice (some ⟨w'.heap.size, 0, none⟩) 1 1) (wanted_on rfl rfl rfl (e32.trans (by first | rfl | (simp [*]; done)))) rfl ?_ ?_
      · go_simp
        try rfl
      refine hK.out _ _ ⟨v1, v3, v8, v10, v27, .slice (some ⟨w'.heap.size, 0, none⟩) 1 1, (by rw [ha.out]; exact putSel_upk 29 hb_ rfl rfl rfl), below_step HBW.out hb, fun h_ => CFPart.below (Q_V1 h_) hb, fun h_ => CFVar.below (Q_V3 h_) hb, fun h_ => CFPart.below (Q_V8 h_) hb, fun h_ => CFVar.below (Q_V10 h_) hb, fun h_ => CFPart.below (Q_V27 h_) hb, fun _ => ⟨_, _, rfl, Nat.le_refl _, c30_V w'⟩⟩
    refine steps_cons ?_ ?_
    · rintro b a w' ⟨v1, v3, v8, v10, v27, v29, ha, HBW, Q_V1, Q_V3, Q_V8, Q_V10, Q_V27, Q_V29⟩ hb_ hon hoff
      refine ⟨_, rfl, fun K hK => ?_⟩
      obtain ⟨A1, c1, rfl, p1, q1⟩ := Q_V27 (hon 27 (by kernel_rfl))
      obtain ⟨A2, c2, rfl, p2, q2⟩ := Q_V29 (hon 29 (by kernel_rfl))
      have e34 : a.tmps[34]? = some (.slice A1 1 c1) := by rw [ha]; exact putSel_on (e := (27, 34, .slice A1 1 c1)) 27 rfl rfl (hon 27 (by kernel_rfl)) rfl
      have e36 : a.tmps[36]? = some (.slice A2 1 c2) := by rw [ha]; exact putSel_on (e := (29, 36, .slice A2 1 c2)) 29 rfl rfl (hon 29 (by kernel_rfl)) rfl
      have e32 : a.tmps[32]? = some (.bool true) := by rw [ha]; exact putSel_on (e := (25, 32, .bool true)) 25 rfl rfl (hon 25 (by kernel_rfl)) rfl
      replace ha := Aside0.mk ha
      have HBW := Aside0.mk HBW
      refine goes_ Try.func13 (by kernel_rfl) rfl #[.slice A1 1 c1, .slice A2 1 c2] (wanted_on rfl rfl rfl (e32.trans (by first | rfl | (simp [*]; done)))) rfl rfl (by first | (simp only [List.map_toArray, List.map_cons, List.map_nil, Act.eval, Array.getD_eq_getD_getElem?, Option.getD_some, e34, e36, e32]; done) | (simp only [List.map_toArray, List.map_cons, List.map_nil, Act.eval, Array.getD_eq_getD_getElem?, Option.getD_some, e34, e36, e32]; rfl)) ?_
      refine (aw_whole A1 c1 A2 c2 w' q1 p1 q2 p2).mono ?_
      rintro e w1 ⟨rfl, hb⟩
      refine ⟨_, rfl, ?_⟩
      refine hK.out _ _ ⟨v1, v3, v8, v10, .slice A1 1 c1, .slice A2 1 c2, (by rw [ha.out]; exact putSel_upk 30 hb_ rfl rfl rfl), below_step HBW.out hb, fun h_ => CFPart.below (Q_V1 h_) hb, fun h_ => CFVar.below (Q_V3 h_) hb, fun h_ => CFPart.below (Q_V8 h_) hb, fun h_ => CFVar.below (Q_V10 h_) hb, fun h_ => CFPart.below ⟨A1, c1, rfl, p1, q1⟩ hb, fun h_ => CFVar.below ⟨A2, c2, rfl, p2, q2⟩ hb⟩
    refine steps_cons ?_ ?_
    · rintro b a w' ⟨v1, v3, v8, v10, v27, v29, ha, HBW, Q_V1, Q_V3, Q_V8, Q_V10, Q_V27, Q_V29⟩ hb_ hon hoff
      refine ⟨_, rfl, fun K hK => ?_⟩
      have e32 : a.tmps[32]? = some (.bool true) := by rw [ha]; exact putSel_on (e := (25, 32, .bool true)) 25 rfl rfl (hon 25 (by kernel_rfl)) rfl
      have e37 : a.tmps[37]? = some (.bool true) := by rw [ha]; exact putSel_on (e := (30, 37, .bool true)) 30 rfl rfl (hon 30 (by kernel_rfl)) rfl
      replace ha := Aside0.mk ha
      have HBW := Aside0.mk HBW
      refine value_ (w1 := w') (v := .bool true) (by rfl) rfl ?_ ?_
      · go_simp
        (try simp only [i64_w])
        try rfl
      refine hK.out _ _ ⟨v1, v3, v8, v10, v27, v29, (by rw [ha.out]; exact putSel_upk 31 hb_ rfl rfl rfl), HBW.out, Q_V1, Q_V3, Q_V8, Q_V10, Q_V27, Q_V29⟩
    refine steps_cons ?_ ?_
    · rintro b a w' ⟨v1, v3, v8, v10, v27, v29, ha, HBW, Q_V1, Q_V3, Q_V8, Q_V10, Q_V27, Q_V29⟩ hb_ hon hoff
      refine ⟨_, rfl, fun K hK => ?_⟩
      have e38 : a.tmps[38]? = some (.bool true) := by rw [ha]; exact putSel_on (e := (31, 38, .bool true)) 31 rfl rfl (hon 31 (by kernel_rfl)) rfl
      replace ha := Aside0.mk ha
      have HBW := Aside0.mk HBW
      refine value_ (w1 := w') (v := .bool true) (by rfl) rfl ?_ ?_
      · go_simp
        (try simp only [i64_w])
        try rfl
      refine hK.out _ _ ⟨v1, v3, v8, v10, v27, v29, (by rw [ha.out]; exact putSel_upk 32 hb_ rfl rfl rfl), HBW.out, Q_V1, Q_V3, Q_V8, Q_V10, Q_V27, Q_V29⟩
    exact steps_nil
  rintro b a w5 hall ⟨v1, v3, v8, v10, v27, v29, ha, HBW, Q_V1, Q_V3, Q_V8, Q_V10, Q_V27, Q_V29⟩
  have hb0_ := hall 0 (by kernel_rfl)
  have hb1_ := hall 1 (by kernel_rfl)
  have hb2_ := hall 2 (by kernel_rfl)
  have hb3_ := hall 3 (by kernel_rfl)
  have hb4_ := hall 4 (by kernel_rfl)
  have hb5_ := hall 5 (by kernel_rfl)
  have hb6_ := hall 6 (by kernel_rfl)
  have hb7_ := hall 7 (by kernel_rfl)
  have hb8_ := hall 8 (by kernel_rfl)
  have hb9_ := hall 9 (by kernel_rfl)
  have hb10_ := hall 10 (by kernel_rfl)
  have hb11_ := hall 11 (by kernel_rfl)
  have hb12_ := hall 12 (by kernel_rfl)
  have hb13_ := hall 13 (by kernel_rfl)
  have hb14_ := hall 14 (by kernel_rfl)
  have hb15_ := hall 15 (by kernel_rfl)
  have hb16_ := hall 16 (by kernel_rfl)
  have hb17_ := hall 17 (by kernel_rfl)
  have hb18_ := hall 18 (by kernel_rfl)
  have hb19_ := hall 19 (by kernel_rfl)
  have hb20_ := hall 20 (by kernel_rfl)
  have hb21_ := hall 21 (by kernel_rfl)
  have hb22_ := hall 22 (by kernel_rfl)
  have hb23_ := hall 23 (by kernel_rfl)
  have hb24_ := hall 24 (by kernel_rfl)
  have hb25_ := hall 25 (by kernel_rfl)
  have hb26_ := hall 26 (by kernel_rfl)
  have hb27_ := hall 27 (by kernel_rfl)
  have hb28_ := hall 28 (by kernel_rfl)
  have hb29_ := hall 29 (by kernel_rfl)
  have hb30_ := hall 30 (by kernel_rfl)
  have hb31_ := hall 31 (by kernel_rfl)
  have hb32_ := hall 32 (by kernel_rfl)
  subst ha
  simp only [putSel, hb0_, hb1_, hb2_, hb3_, hb4_, hb5_, hb6_, hb7_, hb8_, hb9_, hb10_, hb11_, hb12_, hb13_, hb14_, hb15_, hb16_, hb17_, hb18_, hb19_, hb20_, hb21_, hb22_, hb23_, hb24_, hb25_, hb26_, hb27_, hb28_, hb29_, hb30_, hb31_, hb32_, if_true, Act.put, List.setIfInBounds_toArray, List.set_cons_zero, List.set_cons_succ]
  have HBW := Aside0.mk HBW
  clear hall hb0_ hb1_ hb2_ hb3_ hb4_ hb5_ hb6_ hb7_ hb8_ hb9_ hb10_ hb11_ hb12_ hb13_ hb14_ hb15_ hb16_ hb17_ hb18_ hb19_ hb20_ hb21_ hb22_ hb23_ hb24_ hb25_ hb26_ hb27_ hb28_ hb29_ hb30_ hb31_ hb32_ Q_V1 Q_V3 Q_V8 Q_V10 Q_V27 Q_V29
  try go_wp2
  go_ret
  exact ⟨rfl, below_step HB0.out HBW.out⟩
theorem awake_f : phalaropelaw15_awake.f = some true := rfl
end Go.Proofs.Ytjhihohofhhknaa.PF
