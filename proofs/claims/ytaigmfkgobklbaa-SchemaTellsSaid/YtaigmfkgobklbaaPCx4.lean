-- Printed by wip/xprint.py of this claim's authors, over the kit's print; not trusted: Lean checks it.
import Derived.Test.YtaigmfkgobklbaaPCx0
import Derived.Test.YtaigmfkgobklbaaPCx1
import Derived.Test.YtaigmfkgobklbaaPCx2
import Derived.Test.YtaigmfkgobklbaaPCx3
namespace Go.Proofs.Ytaigmfkgobklbaa.PC
open Go.RowKit Go.Proofs.YtaigmfkgobklbaaW.PrintWords Go.Proofs.YtaigmfkgobklbaaW.PrintLast Go.Proofs.YtaigmfkgobklbaaW.PrintMore
attribute [local go_sem] max2_int min2_int max_two min_two max_three min_three max_four min_four   -- for this text's walks alone
set_option linter.unusedVariables false
set_option linter.unusedSimpArgs false

/-! ### phalaroperef14_May: function 17 (ours) -/
theorem rfind_l0 (nm : ByteArray) (l : List S23) (hl : l.length ≤ 1000000) (d : Nat) : ∀ (k i : Nat), i + d = l.length → d < k →
    phalaroperef14_Find.l0 k l nm (i : Int) = some ((findV (l.drop i) nm).1.f0, (findV (l.drop i) nm).1.f1, (findV (l.drop i) nm).1.f2, (findV (l.drop i) nm).1.f3, (findV (l.drop i) nm).1.f4, (findV (l.drop i) nm).2) := by
  induction d with
  | zero =>
    intro k i hi hk
    obtain ⟨k, rfl⟩ : ∃ m, k = m + 1 := ⟨k - 1, by omega⟩
    rw [phalaroperef14_Find.l0, if_neg (by omega), List.drop_eq_nil_of_le (by omega)]
    rfl
  | succ d ih =>
    intro k i hi hk
    obtain ⟨k, rfl⟩ : ∃ m, k = m + 1 := ⟨k - 1, by omega⟩
    have hlt : i < l.length := by omega
    rw [phalaroperef14_Find.l0, if_pos (by omega), if_pos (by omega), rdv_at l i hlt, List.drop_eq_getElem_cons hlt]
    unfold findV
    by_cases h : l[i].f0.toList = nm.toList
    · rw [if_pos h, if_pos (beq_iff_eq.2 h)]
    · rw [if_neg h, if_neg (by rw [beq_iff_eq]; exact h), show wrap64 ((i : Int) + 1) = ((i + 1 : Nat) : Int) from by unfold wrap64; omega]
      exact ih k (i + 1) (by omega) (by omega)
theorem rfind_f (nm : ByteArray) (l : List S23) (hl : l.length ≤ 1000000) (k : Nat) (hk : l.length < k) :
    phalaroperef14_Find.f k l nm = some ((findV l nm).1.f0, (findV l nm).1.f1, (findV l nm).1.f2, (findV l nm).1.f3, (findV l nm).1.f4, (findV l nm).2) :=
  rfind_l0 nm l hl l.length k 0 (by omega) hk
theorem findV_any (nm : ByteArray) (l : List S23) : (findV l nm).2 = l.any fun x => x.f0.toList == nm.toList := by
  induction l with
  | nil => rfl
  | cons x l ih =>
    unfold findV
    rw [List.any_cons]
    split
    · rename_i h; rw [h]; rfl
    · rename_i h; rw [ih, Bool.eq_false_iff.2 h]; rfl
theorem findV_seen (nm : ByteArray) (l : List S23) (k : Nat) : (findV (l.take k) nm).2 = (seenAt l k).any fun y => y.toList == nm.toList := by
  rw [findV_any]; unfold seenAt; rw [List.any_reverse, List.any_map]; rfl
theorem infoVar : (Try.prog.info? 23).map (fun i => (i.zero, i.size, i.bytes)) = some (some (.agg #[(.string ⟨#[]⟩), (.int .i64 0), (.bool false), (.int .i64 0), (.int .i64 0)]), 5, 48) := by kernel_rfl
def May14.T4 : Bool × List (List Nat × List Nat) := (true, [([], []), ([], []), ([0, 1], [0, 1]), ([], []), ([], []), ([3, 4], [3, 4]), ([5], [5]), ([6], [6]), ([2, 7], [2, 7]), ([8], [8]), ([9], [9]), ([9], [9]), ([], []), ([12, 10, 8, 0, 1, 2, 3, 4, 5, 6, 7, 8, 9, 10, 12], [10, 12]), ([11, 13, 0, 1, 2, 3, 4, 5, 6, 7, 8, 9, 10, 11, 12, 13], [11])])
def May14.B4 : List Nat := [0, 0, 3, 0, 0, 24, 56, 120, 255, 511, 1023, 1023, 0, 6143, 16383]
theorem May14.tab4 : rtab .any (opsOf Try.f17 4) = May14.T4 := by kernel_rfl
theorem May14.bits4 : waitsOk May14.T4.2 May14.B4 = true := by kernel_rfl
def phalaroperef14_May.f (l0 : List (S23)) : Option (Bool) := if smallV l0 ∧ ∀ x ∈ l0, phalaroperef05_May.f Y.bigK x.f0 = some (Y.nameMay x.f0) then some (mayFrom [] l0 && decide (l0.length ≤ 8)) else none
set_option maxHeartbeats 8000000 in
set_option maxRecDepth 100000 in
theorem phalaroperef14_May.calls (A0 : Option Addr) (c0 : Nat) (l0 : List (S23)) (r : Bool) (w : World) (hr0 : Kd.C k23 w A0 l0.length l0) (hc0 : l0.length ≤ c0) (h : phalaroperef14_May.f l0 = some r) :
    Calls Try.prog 17 #[.slice A0 l0.length c0] w fun e w' => e = .returned (.bool r) ∧ Below w.heap.size w w' := by
  simp only [phalaroperef14_May.f] at h
  split at h
  · rename_i hsm
    obtain ⟨⟨hl, hx⟩, hnames⟩ := hsm
    obtain rfl := Option.some.inj h
    clear h
    have HR := Aside0.mk hr0
    have HX := Aside0.mk hx
    have HNM := Aside0.mk hnames
    have HR0 := HR
    have HC0 := Aside0.mk hc0
    clear hr0 hx hnames
    go_enter Try.func17, Try.ntmps17
    go_wp2_with fail
    go_loopw [3] (fun c wr => ∃ k : Nat, k ≤ l0.length ∧ c = .int .i64 k ∧ Below w.heap.size w wr ∧ Aside0 (mayFrom [] l0 = mayFrom (seenAt l0 k) (l0.drop k))) (fun c _ => (l0.length - intOf c).toNat)
    case atStart => exact ⟨0, by omega, by simp, Below.refl _ _, ⟨rfl⟩⟩
    case round =>
      obtain ⟨k, hk, rfl, hb, HI⟩ := hrel
      have HB := Aside0.mk hb
      clear hb
      by_cases hlt : k < l0.length
      · have HI1 := Aside0.mk (HI.out.trans (mayFrom_drop l0 k hlt))
        have hsz := HX.out _ (List.getElem_mem hlt)
        clear HI
        obtain ⟨x3_1, hx3⟩ : ∃ z : Int, z = (k : Int) := ⟨_, rfl⟩
        have HRD := Aside0.mk (show rd_T23 l0 x3_1 = l0[k] by rw [hx3]; exact rdv_at l0 k hlt)
        obtain ⟨y135, hy135⟩ : ∃ y_ : List S23, y_ = (l0.take (x3_1 : Int).toNat) := ⟨_, rfl⟩
        have htl : (l0.take k).length = k := by simp; omega
        have A50 := rfind_f (rd_T23 l0 x3_1).f0 (l0.take k) (by omega) Y.bigK (by rw [htl]; unfold Y.bigK; omega)
        have hany := findV_seen (rd_T23 l0 x3_1).f0 l0 k
        rw [show l0.take k = y135 by rw [hy135, hx3, Int.toNat_natCast]] at A50 hany
        rw [HRD.out] at hany
        rw [HRD.out] at A50
        rw [← HRD.out] at A50
        generalize (findV y135 (rd_T23 l0 x3_1).f0).1.f0 = t140, (findV y135 (rd_T23 l0 x3_1).f0).1.f1 = t141, (findV y135 (rd_T23 l0 x3_1).f0).1.f2 = t142, (findV y135 (rd_T23 l0 x3_1).f0).1.f3 = t143, (findV y135 (rd_T23 l0 x3_1).f0).1.f4 = t144 at A50
        obtain ⟨t145, ht145⟩ : ∃ b, b = (findV y135 (rd_T23 l0 x3_1).f0).2 := ⟨_, rfl⟩
        rw [← ht145] at A50
        rw [HRD.out] at ht145
        have HTW := Aside0.mk (ht145.trans hany)
        have A5 := Aside0.mk A50
        have Ny135 := Aside0.mk hy135
        clear A50 hy135 ht145 hany
        have hgo1 : decide (x3_1 < (l0.length : Int)) = true := decide_eq_true (by omega)
        have hgo2 : decide (0 ≤ x3_1) = true := decide_eq_true (by omega)
        have hgo3 : decide (x3_1 ≤ (l0.length : Int)) = true := decide_eq_true (by omega)
        have HX3 := Aside0.mk hx3
        rw [← hx3]
        clear hx3 htl
        go_upto_region 4 with (fail)
        go_cut [5] (fun v5 wx => v5 = .bool ((seenAt l0 k).any fun y => y.toList == l0[k].f0.toList) ∧ Aside0 (Below w.heap.size w wx))
        case first =>
          have n0_ := Aside0.mk (below_drew1 HB.out)
          clear HB
          have HB := n0_
          clear n0_
          have q8 : (x3_1 : Int) ≤ ((l0.length : Int) : Int) := of_decide_eq_true (by first | (with_reducible assumption) | assumption)
          obtain ⟨i08, hi08, _, hsz8, _⟩ := info_parts infoVar
          have hroom8 : l0.length ≤ c0 := HC0.out
          have hC8 : Kd.C k23 _ A0 l0.length l0 := HR0.out
          have hcut8 := cut_to (P := Try.prog) 37 23 .i64 Try.underlying37 hi08 A0 l0.length c0 x3_1 (of_decide_eq_true (by first | (with_reducible assumption) | assumption)) q8 hroom8
          have hr8 := Kd.C_take (m := (x3_1 : Int).toNat) hC8 (by omega)
          have hy8 : y135.length = (x3_1 : Int).toNat := (by rw [Ny135.out, List.length_take]; omega)
          rw [← Ny135.out] at hr8
          rw [← hy8] at hcut8
          have HR138 := Aside0.mk hr8
          have HC138 := Aside0.mk (show y135.length ≤ c0 from by omega)
          clear hr8 hC8 hroom8 hi08 hsz8
          have KY8 := Aside0.mk hy8
          clear hy8
          replace q8 := eq_true q8
          have p139 : 0 ≤ (x3_1 : Int) := of_decide_eq_true (by first | (with_reducible assumption) | assumption)
          have q139 : x3_1 < (l0.length : Int) := of_decide_eq_true (by first | (with_reducible assumption) | assumption)
          obtain ⟨ad139, e139, hx139_0, hx139_1, hx139_2, hx139_3, hx139_4⟩ := at_T23 HR0.out x3_1 p139 q139
          have hw139_4 := hx139_4
          have hw139_3 := hx139_3
          have hw139_2 := hx139_2
          have hw139_1 := hx139_1
          have hw139_0 := hx139_0
          cases e139
          replace hx139_0 := (HB.out.cell (World.block_lt_of_cell? w _ hx139_0)).trans hx139_0
          replace hx139_1 := (HB.out.cell (World.block_lt_of_cell? w _ hx139_1)).trans hx139_1
          replace hx139_2 := (HB.out.cell (World.block_lt_of_cell? w _ hx139_2)).trans hx139_2
          replace hx139_3 := (HB.out.cell (World.block_lt_of_cell? w _ hx139_3)).trans hx139_3
          replace hx139_4 := (HB.out.cell (World.block_lt_of_cell? w _ hx139_4)).trans hx139_4
          replace p139 := eq_true p139
          replace q139 := eq_true q139
          refine start_ (n := 15) (S := fun w' => w'.cell? (ad139.add ((x3_1).toNat * 5)) = some (.string ((rd_T23 l0 x3_1).f0)) ∧ w'.cell? ⟨(ad139.add ((x3_1).toNat * 5)).block, (ad139.add ((x3_1).toNat * 5)).off + 1, none⟩ = some (.int .i64 ((rd_T23 l0 x3_1).f1)) ∧ w'.cell? ⟨(ad139.add ((x3_1).toNat * 5)).block, (ad139.add ((x3_1).toNat * 5)).off + 2, none⟩ = some (.bool ((rd_T23 l0 x3_1).f2)) ∧ w'.cell? ⟨(ad139.add ((x3_1).toNat * 5)).block, (ad139.add ((x3_1).toNat * 5)).off + 3, none⟩ = some (.int .i64 ((rd_T23 l0 x3_1).f3)) ∧ w'.cell? ⟨(ad139.add ((x3_1).toNat * 5)).block, (ad139.add ((x3_1).toNat * 5)).off + 4, none⟩ = some (.int .i64 ((rd_T23 l0 x3_1).f4))) (ds := []) #[false, false, false, false, false, false, false, false, false, false, false, false, false, false, false] (by kernel_rfl) rfl rfl ⟨((HB.out.cell (World.block_lt_of_cell? w _ hw139_0)).trans hw139_0), ((HB.out.cell (World.block_lt_of_cell? w _ hw139_1)).trans hw139_1), ((HB.out.cell (World.block_lt_of_cell? w _ hw139_2)).trans hw139_2), ((HB.out.cell (World.block_lt_of_cell? w _ hw139_3)).trans hw139_3), ((HB.out.cell (World.block_lt_of_cell? w _ hw139_4)).trans hw139_4)⟩ (fun hHeld => ?_); refine with_tabW May14.tab4 May14.bits4 (fun HT_ HW_ => ?_)
          generalize wr.drew = w7 at HB HR138 hx139_0 hx139_1 hx139_2 hx139_3 hx139_4 hHeld ⊢
          refine pure_ (i := 0) (N := some 14) (v := ?_) (a' := ?_) #[true, false, false, false, false, false, false, false, false, false, false, false, false, false, false] rfl rfl (any_of HT_.out (by kernel_rfl)) (fun _ _ _ h => h) (Or.inl ⟨by rfl, ?_⟩) ?_ ?_
          rotate_left
          ·intro w'
           go_simp
           with_reducible rfl
          rotate_left
          ·simp only [Act.put, List.setIfInBounds_toArray, List.set_cons_zero, List.set_cons_succ, i64_w, i32_w]
           rfl
          refine pure_ (i := 1) (N := some 15) (v := ?_) (a' := ?_) #[true, true, false, false, false, false, false, false, false, false, false, false, false, false, false] rfl rfl (any_of HT_.out (by kernel_rfl)) (fun _ _ _ h => h) (Or.inl ⟨by rfl, ?_⟩) ?_ ?_
          rotate_left
          ·intro w'
           go_simp
           with_reducible rfl
          rotate_left
          ·simp only [Act.put, List.setIfInBounds_toArray, List.set_cons_zero, List.set_cons_succ, i64_w, i32_w]
           rfl
          refine pure_ (i := 2) (N := some 16) (v := ?_) (a' := ?_) #[true, true, true, false, false, false, false, false, false, false, false, false, false, false, false] rfl rfl (any_of HT_.out (by kernel_rfl)) (fun _ _ _ h => h) (Or.inl ⟨by rfl, ?_⟩) ?_ ?_
          rotate_left
          ·intro w'
           go_simp
           with_reducible rfl
          rotate_left
          ·simp only [Act.put, List.setIfInBounds_toArray, List.set_cons_zero, List.set_cons_succ, i64_w, i32_w]
           rfl
          refine pure_ (i := 3) (N := some 17) (v := ?_) (a' := ?_) #[true, true, true, true, false, false, false, false, false, false, false, false, false, false, false] rfl rfl (any_of HT_.out (by kernel_rfl)) (fun _ _ _ h => h) (Or.inl ⟨by rfl, ?_⟩) ?_ ?_
          rotate_left
          ·intro w'
           go_simp
           with_reducible rfl
          rotate_left
          ·simp only [Act.put, List.setIfInBounds_toArray, List.set_cons_zero, List.set_cons_succ, i64_w, i32_w]
           rfl
          refine pure_ (i := 4) (N := some 18) (v := ?_) (a' := ?_) #[true, true, true, true, true, false, false, false, false, false, false, false, false, false, false] rfl rfl (any_of HT_.out (by kernel_rfl)) (fun _ _ _ h => h) (Or.inl ⟨by rfl, ?_⟩) ?_ ?_
          rotate_left
          ·intro w'
           go_simp
           with_reducible rfl
          rotate_left
          ·simp only [Act.put, List.setIfInBounds_toArray, List.set_cons_zero, List.set_cons_succ, i64_w, i32_w]
           rfl
          refine pure_ (i := 5) (N := some 19) (v := ?_) (a' := ?_) #[true, true, true, true, true, true, false, false, false, false, false, false, false, false, false] rfl rfl (any_of HT_.out (by kernel_rfl)) (fun _ _ _ h => h) (Or.inl ⟨by rfl, ?_⟩) ?_ ?_
          rotate_left
          ·intro w'
           go_simp
           with_reducible rfl
          rotate_left
          ·simp only [Act.put, List.setIfInBounds_toArray, List.set_cons_zero, List.set_cons_succ, i64_w, i32_w]
           rfl
          refine pure_ (i := 6) (N := some 20) (v := ?_) (a' := ?_) #[true, true, true, true, true, true, true, false, false, false, false, false, false, false, false] rfl rfl (any_of HT_.out (by kernel_rfl)) (fun _ _ _ h => h) (Or.inl ⟨by rfl, ?_⟩) ?_ ?_
          rotate_left
          ·intro w'
           go_simp
           with_reducible rfl
          rotate_left
          ·simp only [Act.put, List.setIfInBounds_toArray, List.set_cons_zero, List.set_cons_succ, i64_w, i32_w]
           rfl
          refine take_ (i := 7) (N := some 21) (v := ?_) (a' := ?_) #[true, true, true, true, true, true, true, true, false, false, false, false, false, false, false] rfl rfl (take_ofW HT_.out HW_.out (by kernel_rfl)) (fun _ _ _ h => h) (Or.inl ⟨by rfl, ?_⟩) hHeld ?_ ?_
          rotate_left
          ·rintro w' ⟨s0, s1, s2, s3, s4⟩
           go_simp
           with_reducible rfl
          rotate_left
          ·simp only [Act.put, List.setIfInBounds_toArray, List.set_cons_zero, List.set_cons_succ, i64_w, i32_w]
           rfl
          refine join_ (σ := Nat) 2 #[true, true, true, true, true, true, true, true, true, true, true, true, true, false, false] (fun s_ => [(22, .tuple #[.agg #[.string t140, .int .i64 t141, .bool t142, .int .i64 t143, .int .i64 t144], .bool t145]), (4, .pointer (some ⟨s_, 0, none⟩)), (13, .tuple #[.agg #[.string t140, .int .i64 t141, .bool t142, .int .i64 t143, .int .i64 t144], .bool t145]), (23, .agg #[.string t140, .int .i64 t141, .bool t142, .int .i64 t143, .int .i64 t144]), (24, .bool t145)]) (fun s_ w' => (w'.cell? (ad139.add ((x3_1).toNat * 5)) = some (.string ((rd_T23 l0 x3_1).f0)) ∧ w'.cell? ⟨(ad139.add ((x3_1).toNat * 5)).block, (ad139.add ((x3_1).toNat * 5)).off + 1, none⟩ = some (.int .i64 ((rd_T23 l0 x3_1).f1)) ∧ w'.cell? ⟨(ad139.add ((x3_1).toNat * 5)).block, (ad139.add ((x3_1).toNat * 5)).off + 2, none⟩ = some (.bool ((rd_T23 l0 x3_1).f2)) ∧ w'.cell? ⟨(ad139.add ((x3_1).toNat * 5)).block, (ad139.add ((x3_1).toNat * 5)).off + 3, none⟩ = some (.int .i64 ((rd_T23 l0 x3_1).f3)) ∧ w'.cell? ⟨(ad139.add ((x3_1).toNat * 5)).block, (ad139.add ((x3_1).toNat * 5)).off + 4, none⟩ = some (.int .i64 ((rd_T23 l0 x3_1).f4))) ∧ (w'.heap[s_]? = some (.cells #[.string (⟨#[]⟩ : ByteArray), .int .i64 0, .bool false, .int .i64 0, .int .i64 0] 23 (0, 0))) ∧ (w.heap.size ≤ s_) ∧ (w.heap.size ≤ s_) ∧ (Below w.heap.size w w')) ?_ ?_
          rotate_left
          ·intro hCont
           refine two_ (i := 8) (j := 12) (Ni := some 22) (Nj := some 4) #[true, true, true, true, true, true, true, true, true, false, false, false, false, false, false] #[true, true, true, true, true, true, true, true, false, false, false, false, true, false, false] rfl rfl rfl rfl (two_of HT_.out (by kernel_rfl)) (by decide) (by decide) (fun K hK => ?_) (fun K hK => ?_)
           ·skip
            refine goes_ Try.func15 (by kernel_rfl) rfl #[.slice (some ad139) y135.length c0, .string ((rd_T23 l0 x3_1).f0)] (by rfl) rfl rfl (by (try simp only [List.map_toArray, List.map_cons, List.map_nil]); first | done | rfl | (simp only [List.length_drop, List.length_take]; rfl)) ?_
            with_reducible refine (phalaroperef14_Find.calls Y.bigK _ _ y135 ((rd_T23 l0 x3_1).f0) t140 t141 t142 t143 t144 t145 _ ?side1 ?side2 A5.out).mono ?_
            (case side1 => repeat (first | exact (Kd.C_below HR138.out HB.out) | (with_reducible refine Kd.C_alloc ?_ _) | (with_reducible refine Kd.C_drewN ?_ _) | (with_reducible refine Kd.C_drew ?_)))
            (case side2 => exact HC138.out)
            rintro e w9 ⟨rfl, hb⟩
            refine ⟨_, rfl, ?_⟩
            have n0_ := Aside0.mk (below_step (by repeat (first | (with_reducible first | exact HB.out | apply lA | apply pw_below_drewN | apply lD) | exact HB.out)) hb)
            clear HB
            have HB := n0_
            clear n0_
            (try clear hb)
            (try clear hb2)
            (try clear hk)
            (try clear hi)
            refine hK.out _ _ ⟨((HB.out.cell (World.block_lt_of_cell? w _ hw139_0)).trans hw139_0), ((HB.out.cell (World.block_lt_of_cell? w _ hw139_1)).trans hw139_1), ((HB.out.cell (World.block_lt_of_cell? w _ hw139_2)).trans hw139_2), ((HB.out.cell (World.block_lt_of_cell? w _ hw139_3)).trans hw139_3), ((HB.out.cell (World.block_lt_of_cell? w _ hw139_4)).trans hw139_4)⟩ (fun hHeld => ?_)
            clear hK K
            refine norm_ (a' := ?_) ?_ ?_
            rotate_left
            ·show Act.put _ (some 22) _ = _
             simp only [Act.put, List.setIfInBounds_toArray, List.set_cons_zero, List.set_cons_succ, i64_w, i32_w]
             rfl
            refine pure_ (i := 9) (N := some 13) (v := ?_) (a' := ?_) #[true, true, true, true, true, true, true, true, true, true, false, false, false, false, false] rfl rfl (any_of HT_.out (by kernel_rfl)) (fun _ _ _ h => h) (Or.inl ⟨by rfl, ?_⟩) ?_ ?_
            rotate_left
            ·intro w'
             go_simp
             with_reducible rfl
            rotate_left
            ·simp only [Act.put, List.setIfInBounds_toArray, List.set_cons_zero, List.set_cons_succ, i64_w, i32_w]
             rfl
            refine pure_ (i := 10) (N := some 23) (v := ?_) (a' := ?_) #[true, true, true, true, true, true, true, true, true, true, true, false, false, false, false] rfl rfl (any_of HT_.out (by kernel_rfl)) (fun _ _ _ h => h) (Or.inl ⟨by rfl, ?_⟩) ?_ ?_
            rotate_left
            ·intro w'
             go_simp
             with_reducible rfl
            rotate_left
            ·simp only [Act.put, List.setIfInBounds_toArray, List.set_cons_zero, List.set_cons_succ, i64_w, i32_w]
             rfl
            refine pure_ (i := 11) (N := some 24) (v := ?_) (a' := ?_) #[true, true, true, true, true, true, true, true, true, true, true, true, false, false, false] rfl rfl (any_of HT_.out (by kernel_rfl)) (fun _ _ _ h => h) (Or.inl ⟨by rfl, ?_⟩) ?_ ?_
            rotate_left
            ·intro w'
             go_simp
             with_reducible rfl
            rotate_left
            ·simp only [Act.put, List.setIfInBounds_toArray, List.set_cons_zero, List.set_cons_succ, i64_w, i32_w]
             rfl
            refine one_ (i := 12) (N := some 4) #[true, true, true, true, true, true, true, true, true, true, true, true, true, false, false] rfl rfl (one_of HT_.out (by kernel_rfl)) (by decide) (fun K hK => ?_)
            refine box_step ?hg (N := 4) ?hd (cs := #[.string (⟨#[]⟩ : ByteArray), .int .i64 0, .bool false, .int .i64 0, .int .i64 0]) (t := 23) ?hr ?_; (case hd => rfl); (case hg => rfl); (case hr => first | (go_simp; done) | (go_simp; rfl))
            intro gb146 hg w10 hbox hb
            have n0_ := Aside0.mk (below_step (by repeat (first | (with_reducible first | exact HB.out | apply lA | apply pw_below_drewN | apply lD) | exact HB.out)) hb)
            have n1_ := Aside0.mk (hbox)
            have n2_ := Aside0.mk ((by rw [hg]; exact (below_size (by repeat (first | (with_reducible first | exact HB.out | apply lA | apply pw_below_drewN | apply lD) | exact HB.out))) : w.heap.size ≤ gb146))
            have n3_ := Aside0.mk ((by rw [hg]; exact (below_size (by repeat (first | (with_reducible first | exact HB.out | apply lA | apply pw_below_drewN | apply lD) | exact HB.out))) : w.heap.size ≤ gb146))
            clear HB
            have HB := n0_
            have BK146 := n1_
            have GW146 := n2_
            have GE146 := n3_
            clear n0_ n1_ n2_ n3_
            clear hb hbox hg
            refine hK.out _ _ ⟨((HB.out.cell (World.block_lt_of_cell? w _ hw139_0)).trans hw139_0), ((HB.out.cell (World.block_lt_of_cell? w _ hw139_1)).trans hw139_1), ((HB.out.cell (World.block_lt_of_cell? w _ hw139_2)).trans hw139_2), ((HB.out.cell (World.block_lt_of_cell? w _ hw139_3)).trans hw139_3), ((HB.out.cell (World.block_lt_of_cell? w _ hw139_4)).trans hw139_4)⟩ (fun hHeld => ?_)
            clear hK K
            refine norm_ (a' := ?_) ?_ ?_
            rotate_left
            ·show Act.put _ (some 4) _ = _
             simp only [Act.put, List.setIfInBounds_toArray, List.set_cons_zero, List.set_cons_succ, i64_w, i32_w]
             rfl
            exact norm_ (by simp only [putAll, Act.put, List.setIfInBounds_toArray, List.set_cons_zero, List.set_cons_succ]) (hCont (gb146) _ ⟨hHeld, (by (with_reducible repeat first | apply bN | apply bD | apply bA); exact BK146.out), GW146.out, GE146.out, (by repeat (first | (with_reducible first | exact HB.out | apply lA | apply pw_below_drewN | apply lD | refine below_set ?_ GE146.out) | exact HB.out))⟩)
           ·skip
            refine box_step ?hg (N := 4) ?hd (cs := #[.string (⟨#[]⟩ : ByteArray), .int .i64 0, .bool false, .int .i64 0, .int .i64 0]) (t := 23) ?hr ?_; (case hd => rfl); (case hg => rfl); (case hr => first | (go_simp; done) | (go_simp; rfl))
            intro gb146 hg w9 hbox hb
            have n0_ := Aside0.mk (below_step (by repeat (first | (with_reducible first | exact HB.out | apply lA | apply pw_below_drewN | apply lD) | exact HB.out)) hb)
            have n1_ := Aside0.mk (hbox)
            have n2_ := Aside0.mk ((by rw [hg]; exact (below_size (by repeat (first | (with_reducible first | exact HB.out | apply lA | apply pw_below_drewN | apply lD) | exact HB.out))) : w.heap.size ≤ gb146))
            have n3_ := Aside0.mk ((by rw [hg]; exact (below_size (by repeat (first | (with_reducible first | exact HB.out | apply lA | apply pw_below_drewN | apply lD) | exact HB.out))) : w.heap.size ≤ gb146))
            clear HB
            have HB := n0_
            have BK146 := n1_
            have GW146 := n2_
            have GE146 := n3_
            clear n0_ n1_ n2_ n3_
            clear hb hbox hg
            refine hK.out _ _ ⟨((HB.out.cell (World.block_lt_of_cell? w _ hw139_0)).trans hw139_0), ((HB.out.cell (World.block_lt_of_cell? w _ hw139_1)).trans hw139_1), ((HB.out.cell (World.block_lt_of_cell? w _ hw139_2)).trans hw139_2), ((HB.out.cell (World.block_lt_of_cell? w _ hw139_3)).trans hw139_3), ((HB.out.cell (World.block_lt_of_cell? w _ hw139_4)).trans hw139_4)⟩ (fun hHeld => ?_)
            clear hK K
            refine norm_ (a' := ?_) ?_ ?_
            rotate_left
            ·show Act.put _ (some 4) _ = _
             simp only [Act.put, List.setIfInBounds_toArray, List.set_cons_zero, List.set_cons_succ, i64_w, i32_w]
             rfl
            refine one_ (i := 8) (N := some 22) #[true, true, true, true, true, true, true, true, true, false, false, false, true, false, false] rfl rfl (one_of HT_.out (by kernel_rfl)) (by decide) (fun K hK => ?_)
            refine goes_ Try.func15 (by kernel_rfl) rfl #[.slice (some ad139) y135.length c0, .string ((rd_T23 l0 x3_1).f0)] (by rfl) rfl rfl (by (try simp only [List.map_toArray, List.map_cons, List.map_nil]); first | done | rfl | (simp only [List.length_drop, List.length_take]; rfl)) ?_
            with_reducible refine (phalaroperef14_Find.calls Y.bigK _ _ y135 ((rd_T23 l0 x3_1).f0) t140 t141 t142 t143 t144 t145 _ ?side1 ?side2 A5.out).mono ?_
            (case side1 => repeat (first | exact (Kd.C_below HR138.out HB.out) | (with_reducible refine Kd.C_alloc ?_ _) | (with_reducible refine Kd.C_drewN ?_ _) | (with_reducible refine Kd.C_drew ?_)))
            (case side2 => exact HC138.out)
            rintro e w10 ⟨rfl, hb⟩
            refine ⟨_, rfl, ?_⟩
            have n0_ := Aside0.mk (blk_below (g := gb146) (o := .cells #[.string (⟨#[]⟩ : ByteArray), .int .i64 0, .bool false, .int .i64 0, .int .i64 0] 23 (0, 0)) (by (with_reducible repeat first | apply bN | apply bD | apply bA); exact BK146.out) hb)
            have n1_ := Aside0.mk (below_step (by repeat (first | (with_reducible first | exact HB.out | apply lA | apply pw_below_drewN | apply lD | refine below_set ?_ GE146.out) | exact HB.out)) hb)
            clear BK146
            clear HB
            have BK146 := n0_
            have HB := n1_
            clear n0_ n1_
            (try clear hb)
            (try clear hb2)
            (try clear hk)
            (try clear hi)
            refine hK.out _ _ ⟨((HB.out.cell (World.block_lt_of_cell? w _ hw139_0)).trans hw139_0), ((HB.out.cell (World.block_lt_of_cell? w _ hw139_1)).trans hw139_1), ((HB.out.cell (World.block_lt_of_cell? w _ hw139_2)).trans hw139_2), ((HB.out.cell (World.block_lt_of_cell? w _ hw139_3)).trans hw139_3), ((HB.out.cell (World.block_lt_of_cell? w _ hw139_4)).trans hw139_4)⟩ (fun hHeld => ?_)
            clear hK K
            refine norm_ (a' := ?_) ?_ ?_
            rotate_left
            ·show Act.put _ (some 22) _ = _
             simp only [Act.put, List.setIfInBounds_toArray, List.set_cons_zero, List.set_cons_succ, i64_w, i32_w]
             rfl
            refine pure_ (i := 9) (N := some 13) (v := ?_) (a' := ?_) #[true, true, true, true, true, true, true, true, true, true, false, false, true, false, false] rfl rfl (any_of HT_.out (by kernel_rfl)) (fun _ _ _ h => h) (Or.inl ⟨by rfl, ?_⟩) ?_ ?_
            rotate_left
            ·intro w'
             go_simp
             with_reducible rfl
            rotate_left
            ·simp only [Act.put, List.setIfInBounds_toArray, List.set_cons_zero, List.set_cons_succ, i64_w, i32_w]
             rfl
            refine pure_ (i := 10) (N := some 23) (v := ?_) (a' := ?_) #[true, true, true, true, true, true, true, true, true, true, true, false, true, false, false] rfl rfl (any_of HT_.out (by kernel_rfl)) (fun _ _ _ h => h) (Or.inl ⟨by rfl, ?_⟩) ?_ ?_
            rotate_left
            ·intro w'
             go_simp
             with_reducible rfl
            rotate_left
            ·simp only [Act.put, List.setIfInBounds_toArray, List.set_cons_zero, List.set_cons_succ, i64_w, i32_w]
             rfl
            refine pure_ (i := 11) (N := some 24) (v := ?_) (a' := ?_) #[true, true, true, true, true, true, true, true, true, true, true, true, true, false, false] rfl rfl (any_of HT_.out (by kernel_rfl)) (fun _ _ _ h => h) (Or.inl ⟨by rfl, ?_⟩) ?_ ?_
            rotate_left
            ·intro w'
             go_simp
             with_reducible rfl
            rotate_left
            ·simp only [Act.put, List.setIfInBounds_toArray, List.set_cons_zero, List.set_cons_succ, i64_w, i32_w]
             rfl
            exact norm_ (by simp only [putAll, Act.put, List.setIfInBounds_toArray, List.set_cons_zero, List.set_cons_succ]) (hCont (gb146) _ ⟨hHeld, (by (with_reducible repeat first | apply bN | apply bD | apply bA); exact BK146.out), GW146.out, GE146.out, (by repeat (first | (with_reducible first | exact HB.out | apply lA | apply pw_below_drewN | apply lD | refine below_set ?_ GE146.out) | exact HB.out))⟩)
          rintro gb146 w11 ⟨hS_, h0_, h1_, h2_, h3_⟩
          have n0_ : Aside0 (w11.heap[gb146]? = some (.cells #[.string (⟨#[]⟩ : ByteArray), .int .i64 0, .bool false, .int .i64 0, .int .i64 0] 23 (0, 0))) := ⟨h0_⟩
          have n1_ : Aside0 (w.heap.size ≤ gb146) := ⟨h1_⟩
          have n2_ : Aside0 (w.heap.size ≤ gb146) := ⟨h2_⟩
          have n3_ : Aside0 (Below w.heap.size w w11) := ⟨h3_⟩
          clear HB
          clear h0_ h1_ h2_ h3_
          have BK146 := n0_
          have GW146 := n1_
          have GE146 := n2_
          have HB := n3_
          clear n0_ n1_ n2_ n3_
          have hHeld : w11.cell? (ad139.add ((x3_1).toNat * 5)) = some (.string ((rd_T23 l0 x3_1).f0)) ∧ w11.cell? ⟨(ad139.add ((x3_1).toNat * 5)).block, (ad139.add ((x3_1).toNat * 5)).off + 1, none⟩ = some (.int .i64 ((rd_T23 l0 x3_1).f1)) ∧ w11.cell? ⟨(ad139.add ((x3_1).toNat * 5)).block, (ad139.add ((x3_1).toNat * 5)).off + 2, none⟩ = some (.bool ((rd_T23 l0 x3_1).f2)) ∧ w11.cell? ⟨(ad139.add ((x3_1).toNat * 5)).block, (ad139.add ((x3_1).toNat * 5)).off + 3, none⟩ = some (.int .i64 ((rd_T23 l0 x3_1).f3)) ∧ w11.cell? ⟨(ad139.add ((x3_1).toNat * 5)).block, (ad139.add ((x3_1).toNat * 5)).off + 4, none⟩ = some (.int .i64 ((rd_T23 l0 x3_1).f4)) := hS_
          refine norm_ (a' := ?_) ?_ ?_
          rotate_left
          ·simp only [putAll, Act.put, List.setIfInBounds_toArray, List.set_cons_zero, List.set_cons_succ]
           rfl
          refine one_ (i := 13) (N := none) #[true, true, true, true, true, true, true, true, true, true, true, true, true, true, false] rfl rfl (one_of HT_.out (by kernel_rfl)) (by decide) (fun K hK => ?_)
          have hs12 : w11.cell? ⟨gb146, 0, none⟩ = some (.string (⟨#[]⟩ : ByteArray)) := (blk_cell BK146.out 0).trans rfl
          have hfs12 := blk_frozen BK146.out 0
          have hs13 : w11.cell? ⟨gb146, 1, none⟩ = some (.int .i64 0) := (blk_cell BK146.out 1).trans rfl
          have hfs13 := blk_frozen BK146.out 1
          have hs14 : w11.cell? ⟨gb146, 2, none⟩ = some (.bool false) := (blk_cell BK146.out 2).trans rfl
          have hfs14 := blk_frozen BK146.out 2
          have hs15 : w11.cell? ⟨gb146, 3, none⟩ = some (.int .i64 0) := (blk_cell BK146.out 3).trans rfl
          have hfs15 := blk_frozen BK146.out 3
          have hs16 : w11.cell? ⟨gb146, 4, none⟩ = some (.int .i64 0) := (blk_cell BK146.out 4).trans rfl
          have hfs16 := blk_frozen BK146.out 4
          refine skip_ (w1 := ?_) (by rfl) rfl ?_ ?_
          rotate_left
          ·go_simp
           rfl
          refine hK.out _ _ ⟨((cell_far (p := ⟨gb146, _, none⟩) (by first | exact Nat.ne_of_lt (Nat.lt_of_lt_of_le (by have := World.block_lt_of_cell? _ _ hw139_0; first | rwa [add_block] at this | exact this) GW146.out) | (rw [add_block]; exact Nat.ne_of_lt (Nat.lt_of_lt_of_le (by have := World.block_lt_of_cell? _ _ hw139_0; first | rwa [add_block] at this | exact this) GW146.out)) | (show (Addr.add _ _).block ≠ _; rw [add_block]; exact Nat.ne_of_lt (Nat.lt_of_lt_of_le (by have := World.block_lt_of_cell? _ _ hw139_0; first | rwa [add_block] at this | exact this) GW146.out)) | (dsimp only; exact Nat.ne_of_lt (Nat.lt_of_lt_of_le (by have := World.block_lt_of_cell? _ _ hw139_0; first | rwa [add_block] at this | exact this) GW146.out))) _).trans (((cell_far (p := ⟨gb146, _, none⟩) (by first | exact Nat.ne_of_lt (Nat.lt_of_lt_of_le (by have := World.block_lt_of_cell? _ _ hw139_0; first | rwa [add_block] at this | exact this) GW146.out) | (rw [add_block]; exact Nat.ne_of_lt (Nat.lt_of_lt_of_le (by have := World.block_lt_of_cell? _ _ hw139_0; first | rwa [add_block] at this | exact this) GW146.out)) | (show (Addr.add _ _).block ≠ _; rw [add_block]; exact Nat.ne_of_lt (Nat.lt_of_lt_of_le (by have := World.block_lt_of_cell? _ _ hw139_0; first | rwa [add_block] at this | exact this) GW146.out)) | (dsimp only; exact Nat.ne_of_lt (Nat.lt_of_lt_of_le (by have := World.block_lt_of_cell? _ _ hw139_0; first | rwa [add_block] at this | exact this) GW146.out))) _).trans (((cell_far (p := ⟨gb146, _, none⟩) (by first | exact Nat.ne_of_lt (Nat.lt_of_lt_of_le (by have := World.block_lt_of_cell? _ _ hw139_0; first | rwa [add_block] at this | exact this) GW146.out) | (rw [add_block]; exact Nat.ne_of_lt (Nat.lt_of_lt_of_le (by have := World.block_lt_of_cell? _ _ hw139_0; first | rwa [add_block] at this | exact this) GW146.out)) | (show (Addr.add _ _).block ≠ _; rw [add_block]; exact Nat.ne_of_lt (Nat.lt_of_lt_of_le (by have := World.block_lt_of_cell? _ _ hw139_0; first | rwa [add_block] at this | exact this) GW146.out)) | (dsimp only; exact Nat.ne_of_lt (Nat.lt_of_lt_of_le (by have := World.block_lt_of_cell? _ _ hw139_0; first | rwa [add_block] at this | exact this) GW146.out))) _).trans (((cell_far (p := ⟨gb146, _, none⟩) (by first | exact Nat.ne_of_lt (Nat.lt_of_lt_of_le (by have := World.block_lt_of_cell? _ _ hw139_0; first | rwa [add_block] at this | exact this) GW146.out) | (rw [add_block]; exact Nat.ne_of_lt (Nat.lt_of_lt_of_le (by have := World.block_lt_of_cell? _ _ hw139_0; first | rwa [add_block] at this | exact this) GW146.out)) | (show (Addr.add _ _).block ≠ _; rw [add_block]; exact Nat.ne_of_lt (Nat.lt_of_lt_of_le (by have := World.block_lt_of_cell? _ _ hw139_0; first | rwa [add_block] at this | exact this) GW146.out)) | (dsimp only; exact Nat.ne_of_lt (Nat.lt_of_lt_of_le (by have := World.block_lt_of_cell? _ _ hw139_0; first | rwa [add_block] at this | exact this) GW146.out))) _).trans (((cell_far (p := ⟨gb146, _, none⟩) (by first | exact Nat.ne_of_lt (Nat.lt_of_lt_of_le (by have := World.block_lt_of_cell? _ _ hw139_0; first | rwa [add_block] at this | exact this) GW146.out) | (rw [add_block]; exact Nat.ne_of_lt (Nat.lt_of_lt_of_le (by have := World.block_lt_of_cell? _ _ hw139_0; first | rwa [add_block] at this | exact this) GW146.out)) | (show (Addr.add _ _).block ≠ _; rw [add_block]; exact Nat.ne_of_lt (Nat.lt_of_lt_of_le (by have := World.block_lt_of_cell? _ _ hw139_0; first | rwa [add_block] at this | exact this) GW146.out)) | (dsimp only; exact Nat.ne_of_lt (Nat.lt_of_lt_of_le (by have := World.block_lt_of_cell? _ _ hw139_0; first | rwa [add_block] at this | exact this) GW146.out))) _).trans (hHeld.1)))))))))), ((cell_far (p := ⟨gb146, _, none⟩) (by first | exact Nat.ne_of_lt (Nat.lt_of_lt_of_le (by have := World.block_lt_of_cell? _ _ hw139_1; first | rwa [add_block] at this | exact this) GW146.out) | (rw [add_block]; exact Nat.ne_of_lt (Nat.lt_of_lt_of_le (by have := World.block_lt_of_cell? _ _ hw139_1; first | rwa [add_block] at this | exact this) GW146.out)) | (show (Addr.add _ _).block ≠ _; rw [add_block]; exact Nat.ne_of_lt (Nat.lt_of_lt_of_le (by have := World.block_lt_of_cell? _ _ hw139_1; first | rwa [add_block] at this | exact this) GW146.out)) | (dsimp only; exact Nat.ne_of_lt (Nat.lt_of_lt_of_le (by have := World.block_lt_of_cell? _ _ hw139_1; first | rwa [add_block] at this | exact this) GW146.out))) _).trans (((cell_far (p := ⟨gb146, _, none⟩) (by first | exact Nat.ne_of_lt (Nat.lt_of_lt_of_le (by have := World.block_lt_of_cell? _ _ hw139_1; first | rwa [add_block] at this | exact this) GW146.out) | (rw [add_block]; exact Nat.ne_of_lt (Nat.lt_of_lt_of_le (by have := World.block_lt_of_cell? _ _ hw139_1; first | rwa [add_block] at this | exact this) GW146.out)) | (show (Addr.add _ _).block ≠ _; rw [add_block]; exact Nat.ne_of_lt (Nat.lt_of_lt_of_le (by have := World.block_lt_of_cell? _ _ hw139_1; first | rwa [add_block] at this | exact this) GW146.out)) | (dsimp only; exact Nat.ne_of_lt (Nat.lt_of_lt_of_le (by have := World.block_lt_of_cell? _ _ hw139_1; first | rwa [add_block] at this | exact this) GW146.out))) _).trans (((cell_far (p := ⟨gb146, _, none⟩) (by first | exact Nat.ne_of_lt (Nat.lt_of_lt_of_le (by have := World.block_lt_of_cell? _ _ hw139_1; first | rwa [add_block] at this | exact this) GW146.out) | (rw [add_block]; exact Nat.ne_of_lt (Nat.lt_of_lt_of_le (by have := World.block_lt_of_cell? _ _ hw139_1; first | rwa [add_block] at this | exact this) GW146.out)) | (show (Addr.add _ _).block ≠ _; rw [add_block]; exact Nat.ne_of_lt (Nat.lt_of_lt_of_le (by have := World.block_lt_of_cell? _ _ hw139_1; first | rwa [add_block] at this | exact this) GW146.out)) | (dsimp only; exact Nat.ne_of_lt (Nat.lt_of_lt_of_le (by have := World.block_lt_of_cell? _ _ hw139_1; first | rwa [add_block] at this | exact this) GW146.out))) _).trans (((cell_far (p := ⟨gb146, _, none⟩) (by first | exact Nat.ne_of_lt (Nat.lt_of_lt_of_le (by have := World.block_lt_of_cell? _ _ hw139_1; first | rwa [add_block] at this | exact this) GW146.out) | (rw [add_block]; exact Nat.ne_of_lt (Nat.lt_of_lt_of_le (by have := World.block_lt_of_cell? _ _ hw139_1; first | rwa [add_block] at this | exact this) GW146.out)) | (show (Addr.add _ _).block ≠ _; rw [add_block]; exact Nat.ne_of_lt (Nat.lt_of_lt_of_le (by have := World.block_lt_of_cell? _ _ hw139_1; first | rwa [add_block] at this | exact this) GW146.out)) | (dsimp only; exact Nat.ne_of_lt (Nat.lt_of_lt_of_le (by have := World.block_lt_of_cell? _ _ hw139_1; first | rwa [add_block] at this | exact this) GW146.out))) _).trans (((cell_far (p := ⟨gb146, _, none⟩) (by first | exact Nat.ne_of_lt (Nat.lt_of_lt_of_le (by have := World.block_lt_of_cell? _ _ hw139_1; first | rwa [add_block] at this | exact this) GW146.out) | (rw [add_block]; exact Nat.ne_of_lt (Nat.lt_of_lt_of_le (by have := World.block_lt_of_cell? _ _ hw139_1; first | rwa [add_block] at this | exact this) GW146.out)) | (show (Addr.add _ _).block ≠ _; rw [add_block]; exact Nat.ne_of_lt (Nat.lt_of_lt_of_le (by have := World.block_lt_of_cell? _ _ hw139_1; first | rwa [add_block] at this | exact this) GW146.out)) | (dsimp only; exact Nat.ne_of_lt (Nat.lt_of_lt_of_le (by have := World.block_lt_of_cell? _ _ hw139_1; first | rwa [add_block] at this | exact this) GW146.out))) _).trans (hHeld.2.1)))))))))), ((cell_far (p := ⟨gb146, _, none⟩) (by first | exact Nat.ne_of_lt (Nat.lt_of_lt_of_le (by have := World.block_lt_of_cell? _ _ hw139_2; first | rwa [add_block] at this | exact this) GW146.out) | (rw [add_block]; exact Nat.ne_of_lt (Nat.lt_of_lt_of_le (by have := World.block_lt_of_cell? _ _ hw139_2; first | rwa [add_block] at this | exact this) GW146.out)) | (show (Addr.add _ _).block ≠ _; rw [add_block]; exact Nat.ne_of_lt (Nat.lt_of_lt_of_le (by have := World.block_lt_of_cell? _ _ hw139_2; first | rwa [add_block] at this | exact this) GW146.out)) | (dsimp only; exact Nat.ne_of_lt (Nat.lt_of_lt_of_le (by have := World.block_lt_of_cell? _ _ hw139_2; first | rwa [add_block] at this | exact this) GW146.out))) _).trans (((cell_far (p := ⟨gb146, _, none⟩) (by first | exact Nat.ne_of_lt (Nat.lt_of_lt_of_le (by have := World.block_lt_of_cell? _ _ hw139_2; first | rwa [add_block] at this | exact this) GW146.out) | (rw [add_block]; exact Nat.ne_of_lt (Nat.lt_of_lt_of_le (by have := World.block_lt_of_cell? _ _ hw139_2; first | rwa [add_block] at this | exact this) GW146.out)) | (show (Addr.add _ _).block ≠ _; rw [add_block]; exact Nat.ne_of_lt (Nat.lt_of_lt_of_le (by have := World.block_lt_of_cell? _ _ hw139_2; first | rwa [add_block] at this | exact this) GW146.out)) | (dsimp only; exact Nat.ne_of_lt (Nat.lt_of_lt_of_le (by have := World.block_lt_of_cell? _ _ hw139_2; first | rwa [add_block] at this | exact this) GW146.out))) _).trans (((cell_far (p := ⟨gb146, _, none⟩) (by first | exact Nat.ne_of_lt (Nat.lt_of_lt_of_le (by have := World.block_lt_of_cell? _ _ hw139_2; first | rwa [add_block] at this | exact this) GW146.out) | (rw [add_block]; exact Nat.ne_of_lt (Nat.lt_of_lt_of_le (by have := World.block_lt_of_cell? _ _ hw139_2; first | rwa [add_block] at this | exact this) GW146.out)) | (show (Addr.add _ _).block ≠ _; rw [add_block]; exact Nat.ne_of_lt (Nat.lt_of_lt_of_le (by have := World.block_lt_of_cell? _ _ hw139_2; first | rwa [add_block] at this | exact this) GW146.out)) | (dsimp only; exact Nat.ne_of_lt (Nat.lt_of_lt_of_le (by have := World.block_lt_of_cell? _ _ hw139_2; first | rwa [add_block] at this | exact this) GW146.out))) _).trans (((cell_far (p := ⟨gb146, _, none⟩) (by first | exact Nat.ne_of_lt (Nat.lt_of_lt_of_le (by have := World.block_lt_of_cell? _ _ hw139_2; first | rwa [add_block] at this | exact this) GW146.out) | (rw [add_block]; exact Nat.ne_of_lt (Nat.lt_of_lt_of_le (by have := World.block_lt_of_cell? _ _ hw139_2; first | rwa [add_block] at this | exact this) GW146.out)) | (show (Addr.add _ _).block ≠ _; rw [add_block]; exact Nat.ne_of_lt (Nat.lt_of_lt_of_le (by have := World.block_lt_of_cell? _ _ hw139_2; first | rwa [add_block] at this | exact this) GW146.out)) | (dsimp only; exact Nat.ne_of_lt (Nat.lt_of_lt_of_le (by have := World.block_lt_of_cell? _ _ hw139_2; first | rwa [add_block] at this | exact this) GW146.out))) _).trans (((cell_far (p := ⟨gb146, _, none⟩) (by first | exact Nat.ne_of_lt (Nat.lt_of_lt_of_le (by have := World.block_lt_of_cell? _ _ hw139_2; first | rwa [add_block] at this | exact this) GW146.out) | (rw [add_block]; exact Nat.ne_of_lt (Nat.lt_of_lt_of_le (by have := World.block_lt_of_cell? _ _ hw139_2; first | rwa [add_block] at this | exact this) GW146.out)) | (show (Addr.add _ _).block ≠ _; rw [add_block]; exact Nat.ne_of_lt (Nat.lt_of_lt_of_le (by have := World.block_lt_of_cell? _ _ hw139_2; first | rwa [add_block] at this | exact this) GW146.out)) | (dsimp only; exact Nat.ne_of_lt (Nat.lt_of_lt_of_le (by have := World.block_lt_of_cell? _ _ hw139_2; first | rwa [add_block] at this | exact this) GW146.out))) _).trans (hHeld.2.2.1)))))))))), ((cell_far (p := ⟨gb146, _, none⟩) (by first | exact Nat.ne_of_lt (Nat.lt_of_lt_of_le (by have := World.block_lt_of_cell? _ _ hw139_3; first | rwa [add_block] at this | exact this) GW146.out) | (rw [add_block]; exact Nat.ne_of_lt (Nat.lt_of_lt_of_le (by have := World.block_lt_of_cell? _ _ hw139_3; first | rwa [add_block] at this | exact this) GW146.out)) | (show (Addr.add _ _).block ≠ _; rw [add_block]; exact Nat.ne_of_lt (Nat.lt_of_lt_of_le (by have := World.block_lt_of_cell? _ _ hw139_3; first | rwa [add_block] at this | exact this) GW146.out)) | (dsimp only; exact Nat.ne_of_lt (Nat.lt_of_lt_of_le (by have := World.block_lt_of_cell? _ _ hw139_3; first | rwa [add_block] at this | exact this) GW146.out))) _).trans (((cell_far (p := ⟨gb146, _, none⟩) (by first | exact Nat.ne_of_lt (Nat.lt_of_lt_of_le (by have := World.block_lt_of_cell? _ _ hw139_3; first | rwa [add_block] at this | exact this) GW146.out) | (rw [add_block]; exact Nat.ne_of_lt (Nat.lt_of_lt_of_le (by have := World.block_lt_of_cell? _ _ hw139_3; first | rwa [add_block] at this | exact this) GW146.out)) | (show (Addr.add _ _).block ≠ _; rw [add_block]; exact Nat.ne_of_lt (Nat.lt_of_lt_of_le (by have := World.block_lt_of_cell? _ _ hw139_3; first | rwa [add_block] at this | exact this) GW146.out)) | (dsimp only; exact Nat.ne_of_lt (Nat.lt_of_lt_of_le (by have := World.block_lt_of_cell? _ _ hw139_3; first | rwa [add_block] at this | exact this) GW146.out))) _).trans (((cell_far (p := ⟨gb146, _, none⟩) (by first | exact Nat.ne_of_lt (Nat.lt_of_lt_of_le (by have := World.block_lt_of_cell? _ _ hw139_3; first | rwa [add_block] at this | exact this) GW146.out) | (rw [add_block]; exact Nat.ne_of_lt (Nat.lt_of_lt_of_le (by have := World.block_lt_of_cell? _ _ hw139_3; first | rwa [add_block] at this | exact this) GW146.out)) | (show (Addr.add _ _).block ≠ _; rw [add_block]; exact Nat.ne_of_lt (Nat.lt_of_lt_of_le (by have := World.block_lt_of_cell? _ _ hw139_3; first | rwa [add_block] at this | exact this) GW146.out)) | (dsimp only; exact Nat.ne_of_lt (Nat.lt_of_lt_of_le (by have := World.block_lt_of_cell? _ _ hw139_3; first | rwa [add_block] at this | exact this) GW146.out))) _).trans (((cell_far (p := ⟨gb146, _, none⟩) (by first | exact Nat.ne_of_lt (Nat.lt_of_lt_of_le (by have := World.block_lt_of_cell? _ _ hw139_3; first | rwa [add_block] at this | exact this) GW146.out) | (rw [add_block]; exact Nat.ne_of_lt (Nat.lt_of_lt_of_le (by have := World.block_lt_of_cell? _ _ hw139_3; first | rwa [add_block] at this | exact this) GW146.out)) | (show (Addr.add _ _).block ≠ _; rw [add_block]; exact Nat.ne_of_lt (Nat.lt_of_lt_of_le (by have := World.block_lt_of_cell? _ _ hw139_3; first | rwa [add_block] at this | exact this) GW146.out)) | (dsimp only; exact Nat.ne_of_lt (Nat.lt_of_lt_of_le (by have := World.block_lt_of_cell? _ _ hw139_3; first | rwa [add_block] at this | exact this) GW146.out))) _).trans (((cell_far (p := ⟨gb146, _, none⟩) (by first | exact Nat.ne_of_lt (Nat.lt_of_lt_of_le (by have := World.block_lt_of_cell? _ _ hw139_3; first | rwa [add_block] at this | exact this) GW146.out) | (rw [add_block]; exact Nat.ne_of_lt (Nat.lt_of_lt_of_le (by have := World.block_lt_of_cell? _ _ hw139_3; first | rwa [add_block] at this | exact this) GW146.out)) | (show (Addr.add _ _).block ≠ _; rw [add_block]; exact Nat.ne_of_lt (Nat.lt_of_lt_of_le (by have := World.block_lt_of_cell? _ _ hw139_3; first | rwa [add_block] at this | exact this) GW146.out)) | (dsimp only; exact Nat.ne_of_lt (Nat.lt_of_lt_of_le (by have := World.block_lt_of_cell? _ _ hw139_3; first | rwa [add_block] at this | exact this) GW146.out))) _).trans (hHeld.2.2.2.1)))))))))), ((cell_far (p := ⟨gb146, _, none⟩) (by first | exact Nat.ne_of_lt (Nat.lt_of_lt_of_le (by have := World.block_lt_of_cell? _ _ hw139_4; first | rwa [add_block] at this | exact this) GW146.out) | (rw [add_block]; exact Nat.ne_of_lt (Nat.lt_of_lt_of_le (by have := World.block_lt_of_cell? _ _ hw139_4; first | rwa [add_block] at this | exact this) GW146.out)) | (show (Addr.add _ _).block ≠ _; rw [add_block]; exact Nat.ne_of_lt (Nat.lt_of_lt_of_le (by have := World.block_lt_of_cell? _ _ hw139_4; first | rwa [add_block] at this | exact this) GW146.out)) | (dsimp only; exact Nat.ne_of_lt (Nat.lt_of_lt_of_le (by have := World.block_lt_of_cell? _ _ hw139_4; first | rwa [add_block] at this | exact this) GW146.out))) _).trans (((cell_far (p := ⟨gb146, _, none⟩) (by first | exact Nat.ne_of_lt (Nat.lt_of_lt_of_le (by have := World.block_lt_of_cell? _ _ hw139_4; first | rwa [add_block] at this | exact this) GW146.out) | (rw [add_block]; exact Nat.ne_of_lt (Nat.lt_of_lt_of_le (by have := World.block_lt_of_cell? _ _ hw139_4; first | rwa [add_block] at this | exact this) GW146.out)) | (show (Addr.add _ _).block ≠ _; rw [add_block]; exact Nat.ne_of_lt (Nat.lt_of_lt_of_le (by have := World.block_lt_of_cell? _ _ hw139_4; first | rwa [add_block] at this | exact this) GW146.out)) | (dsimp only; exact Nat.ne_of_lt (Nat.lt_of_lt_of_le (by have := World.block_lt_of_cell? _ _ hw139_4; first | rwa [add_block] at this | exact this) GW146.out))) _).trans (((cell_far (p := ⟨gb146, _, none⟩) (by first | exact Nat.ne_of_lt (Nat.lt_of_lt_of_le (by have := World.block_lt_of_cell? _ _ hw139_4; first | rwa [add_block] at this | exact this) GW146.out) | (rw [add_block]; exact Nat.ne_of_lt (Nat.lt_of_lt_of_le (by have := World.block_lt_of_cell? _ _ hw139_4; first | rwa [add_block] at this | exact this) GW146.out)) | (show (Addr.add _ _).block ≠ _; rw [add_block]; exact Nat.ne_of_lt (Nat.lt_of_lt_of_le (by have := World.block_lt_of_cell? _ _ hw139_4; first | rwa [add_block] at this | exact this) GW146.out)) | (dsimp only; exact Nat.ne_of_lt (Nat.lt_of_lt_of_le (by have := World.block_lt_of_cell? _ _ hw139_4; first | rwa [add_block] at this | exact this) GW146.out))) _).trans (((cell_far (p := ⟨gb146, _, none⟩) (by first | exact Nat.ne_of_lt (Nat.lt_of_lt_of_le (by have := World.block_lt_of_cell? _ _ hw139_4; first | rwa [add_block] at this | exact this) GW146.out) | (rw [add_block]; exact Nat.ne_of_lt (Nat.lt_of_lt_of_le (by have := World.block_lt_of_cell? _ _ hw139_4; first | rwa [add_block] at this | exact this) GW146.out)) | (show (Addr.add _ _).block ≠ _; rw [add_block]; exact Nat.ne_of_lt (Nat.lt_of_lt_of_le (by have := World.block_lt_of_cell? _ _ hw139_4; first | rwa [add_block] at this | exact this) GW146.out)) | (dsimp only; exact Nat.ne_of_lt (Nat.lt_of_lt_of_le (by have := World.block_lt_of_cell? _ _ hw139_4; first | rwa [add_block] at this | exact this) GW146.out))) _).trans (((cell_far (p := ⟨gb146, _, none⟩) (by first | exact Nat.ne_of_lt (Nat.lt_of_lt_of_le (by have := World.block_lt_of_cell? _ _ hw139_4; first | rwa [add_block] at this | exact this) GW146.out) | (rw [add_block]; exact Nat.ne_of_lt (Nat.lt_of_lt_of_le (by have := World.block_lt_of_cell? _ _ hw139_4; first | rwa [add_block] at this | exact this) GW146.out)) | (show (Addr.add _ _).block ≠ _; rw [add_block]; exact Nat.ne_of_lt (Nat.lt_of_lt_of_le (by have := World.block_lt_of_cell? _ _ hw139_4; first | rwa [add_block] at this | exact this) GW146.out)) | (dsimp only; exact Nat.ne_of_lt (Nat.lt_of_lt_of_le (by have := World.block_lt_of_cell? _ _ hw139_4; first | rwa [add_block] at this | exact this) GW146.out))) _).trans (hHeld.2.2.2.2))))))))))⟩ (fun hHeld => ?_)
          clear hK K
          refine pure_ (i := 14) (N := some 5) (v := ?_) (a' := ?_) #[true, true, true, true, true, true, true, true, true, true, true, true, true, true, true] rfl rfl (any_of HT_.out (by kernel_rfl)) (fun _ _ _ h => h) (Or.inl ⟨by rfl, ?_⟩) ?_ ?_
          rotate_left
          ·intro w'
           go_simp
           with_reducible rfl
          rotate_left
          ·simp only [Act.put, List.setIfInBounds_toArray, List.set_cons_zero, List.set_cons_succ, i64_w, i32_w]
           rfl
          refine done_ (done_of HT_.out (by kernel_rfl)) ?_
          go_wp2_with fail
          go_meet
          exact ⟨by rw [HTW.out], ⟨by repeat (first | exact HB.out | refine below_set ?_ GE146.out)⟩⟩
        case rest =>
          obtain ⟨rfl, HBC⟩ := hcut
          obtain ⟨ad, rfl, h0, h1, h2, h3, h4⟩ := at_T23 (Kd.C_below HR.out HBC.out) x3_1 (by have := HX3.out; omega) (by have := HX3.out; omega)
          rw [HRD.out] at h0 h1 h2 h3 h4
          clear HTW A5 Ny135
          have hb0 : 0 ≤ x3_1 := by have := HX3.out; omega
          have hb1' : x3_1 < (l0.length : Int) := by have := HX3.out; omega
          cases hseen : (seenAt l0 k).any fun y => y.toList == l0[k].f0.toList with
          | true =>
            have HN := Aside0.mk (show mayFrom [] l0 = false by rw [HI1.out, if_pos hseen])
            clear HI1 hseen
            go_wp2_with fail
            go_ret
            exact ⟨by rw [HN.out]; rfl, below_alloc HBC.out _⟩
          | false =>
            have HI2 := Aside0.mk (HI1.out.trans (if_neg (by rw [hseen]; decide)))
            clear HI1 hseen
            have hnm := HNM.out _ (List.getElem_mem hlt)
            go_wp2_with fail
            refine (phalaroperef05_May.calls Y.bigK l0[k].f0 _ _ hnm).mono ?_
            rintro e w1 ⟨rfl, hd⟩
            have hb1 := hd.below
            have HB1 := Aside0.mk (below_step (below_alloc HBC.out _) hb1)
            have hx := blk_below (blk_new wc _) hb1
            obtain ⟨c1, c2, c3, c4, c5⟩ := cells5 hx
            clear hb1 hx h0 h1 h2 h3 h4 hd hnm
            cases hnm : Y.nameMay l0[k].f0 with
            | false =>
              have HN := Aside0.mk (show mayFrom [] l0 = false by rw [HI2.out, if_neg (by unfold varOk; rw [hnm]; simp)])
              clear HI2 hnm
              go_wp2_with fail
              go_ret
              exact ⟨by rw [HN.out]; rfl, HB1.out⟩
            | true =>
              by_cases hk1 : l0[k].f1 < 1
              · have HN := Aside0.mk (show mayFrom [] l0 = false by rw [HI2.out, if_neg (by unfold varOk; simp [hnm]; omega)])
                have dhk1 : decide (l0[k].f1 < 1) = true := decide_eq_true hk1
                clear HI2 hnm hk1
                go_wp2_with fail
                go_ret
                exact ⟨by rw [HN.out]; rfl, HB1.out⟩
              have dhk1 : decide (l0[k].f1 < 1) = false := decide_eq_false hk1
              by_cases hk2 : 3 < l0[k].f1
              · have HN := Aside0.mk (show mayFrom [] l0 = false by rw [HI2.out, if_neg (by unfold varOk; simp [hnm]; omega)])
                have dhk2 : decide (3 < l0[k].f1) = true := decide_eq_true hk2
                clear HI2 hnm hk2
                go_wp2_with fail
                go_ret
                exact ⟨by rw [HN.out]; rfl, HB1.out⟩
              have dhk2 : decide (3 < l0[k].f1) = false := decide_eq_false hk2
              by_cases hk3 : l0[k].f3 < 1
              · have HN := Aside0.mk (show mayFrom [] l0 = false by rw [HI2.out, if_neg (by unfold varOk; simp [hnm]; omega)])
                have dhk3 : decide (l0[k].f3 < 1) = true := decide_eq_true hk3
                clear HI2 hnm hk3
                go_wp2_with fail
                go_ret
                exact ⟨by rw [HN.out]; rfl, HB1.out⟩
              have dhk3 : decide (l0[k].f3 < 1) = false := decide_eq_false hk3
              by_cases hk4 : 4 < l0[k].f3
              · have HN := Aside0.mk (show mayFrom [] l0 = false by rw [HI2.out, if_neg (by unfold varOk; simp [hnm]; omega)])
                have dhk4 : decide (4 < l0[k].f3) = true := decide_eq_true hk4
                clear HI2 hnm hk4
                go_wp2_with fail
                go_ret
                exact ⟨by rw [HN.out]; rfl, HB1.out⟩
              have dhk4 : decide (4 < l0[k].f3) = false := decide_eq_false hk4
              by_cases hk5 : l0[k].f4 < 0
              · have HN := Aside0.mk (show mayFrom [] l0 = false by rw [HI2.out, if_neg (by unfold varOk; simp [hnm]; omega)])
                have dhk5 : decide (l0[k].f4 < 0) = true := decide_eq_true hk5
                clear HI2 hnm hk5
                go_wp2_with fail
                go_ret
                exact ⟨by rw [HN.out]; rfl, HB1.out⟩
              have dhk5 : decide (l0[k].f4 < 0) = false := decide_eq_false hk5
              by_cases hk6 : 8 < l0[k].f4
              · have HN := Aside0.mk (show mayFrom [] l0 = false by rw [HI2.out, if_neg (by unfold varOk; simp [hnm]; omega)])
                have dhk6 : decide (8 < l0[k].f4) = true := decide_eq_true hk6
                clear HI2 hnm hk6
                go_wp2_with fail
                go_ret
                exact ⟨by rw [HN.out]; rfl, HB1.out⟩
              have dhk6 : decide (8 < l0[k].f4) = false := decide_eq_false hk6
              have HN := Aside0.mk (show mayFrom [] l0 = mayFrom (seenAt l0 (k + 1)) (l0.drop (k + 1)) by rw [HI2.out, if_pos (by unfold varOk; simp [hnm]; omega)])
              clear HI2 hnm hk1 hk2 hk3 hk4 hk5 hk6
              go_wp2_with fail
              go_roundw
              case rel => exact ⟨k + 1, by omega, by have := HX3.out; subst this; go_num, HB1.out, HN⟩
              case measure => have := HX3.out; simp [intOf]; omega
      · have HN := Aside0.mk (show mayFrom [] l0 = true by rw [HI.out, mayFrom_end l0 k hlt])
        have e8 : decide ((l0.length : Int) ≤ 8) = decide (l0.length ≤ 8) := decide_eq_decide.2 (by omega)
        have HE := Aside0.mk e8
        clear HI e8
        go_wp2_with fail
        go_ret
        exact ⟨by rw [HN.out, Bool.true_and, ← HE.out]; rfl, HB.out⟩
  · cases h
/-! ### phalaroperef01_May: function 36 -/
def phalaroperef01_May.f (a0 : Int) : Option (Bool) := if a0 ≥ 0 then (if a0 ≤ 1114111 then (if a0 < 55296 then (some true) else (some (decide (a0 > 57343)))) else (some false)) else (some false)
set_option maxHeartbeats 8000000 in
set_option maxRecDepth 100000 in
theorem phalaroperef01_May.calls (a0 : Int) (r : Bool) (w : World) (h : phalaroperef01_May.f a0 = some r) :
    Calls Try.prog 36 #[.int .i64 a0] w fun e w' => e = .returned (.bool r) ∧ Drawn0 w w' := by
  have H : (if a0 ≥ 0 then (if a0 ≤ 1114111 then (if a0 < 55296 then (some true) else (some (decide (a0 > 57343)))) else (some false)) else (some false)) = some r := h
  clear h
  by_cases c2 : a0 ≥ 0
  · rw [if_pos c2] at H
    have c2b0 : decide (0 ≤ a0) = true := decide_eq_true c2
    clear c2
    by_cases c3 : a0 ≤ 1114111
    · rw [if_pos c3] at H
      have c3b0 : decide (a0 ≤ 1114111) = true := decide_eq_true c3
      clear c3
      by_cases c4 : a0 < 55296
      · rw [if_pos c4] at H
        have c4b0 : decide (a0 < 55296) = true := decide_eq_true c4
        clear c4
        obtain rfl := Option.some.inj H
        go_enter Try.func36, Try.ntmps36
        go_wp2
        go_ret
        exact ⟨by first | rfl | (simp; done) | (simp [*]; done), by repeat (first | exact Drawn0.refl _ | apply Drawn0.step)⟩
      · rw [if_neg c4] at H
        have c4b0 : decide (a0 < 55296) = false := decide_eq_false c4
        clear c4
        obtain rfl := Option.some.inj H
        go_enter Try.func36, Try.ntmps36
        go_wp2
        go_ret
        exact ⟨by first | rfl | (simp; done) | (simp [*]; done), by repeat (first | exact Drawn0.refl _ | apply Drawn0.step)⟩
    · rw [if_neg c3] at H
      have c3b0 : decide (a0 ≤ 1114111) = false := decide_eq_false c3
      clear c3
      obtain rfl := Option.some.inj H
      go_enter Try.func36, Try.ntmps36
      go_wp2
      go_ret
      exact ⟨by first | rfl | (simp; done) | (simp [*]; done), by repeat (first | exact Drawn0.refl _ | apply Drawn0.step)⟩
  · rw [if_neg c2] at H
    have c2b0 : decide (0 ≤ a0) = false := decide_eq_false c2
    clear c2
    obtain rfl := Option.some.inj H
    go_enter Try.func36, Try.ntmps36
    go_wp2
    go_ret
    exact ⟨by first | rfl | (simp; done) | (simp [*]; done), by repeat (first | exact Drawn0.refl _ | apply Drawn0.step)⟩

end Go.Proofs.Ytaigmfkgobklbaa.PC
