-- Printed by wip/xprint.py of this claim's authors, over the kit's print; not trusted: Lean checks it.
import Derived.Test.YtaigmfkgobklbaaPCx0
import Derived.Test.YtaigmfkgobklbaaPCx1
namespace Go.Proofs.Ytaigmfkgobklbaa.PC
open Go.RowKit Go.Proofs.YtaigmfkgobklbaaW.PrintWords Go.Proofs.YtaigmfkgobklbaaW.PrintLast Go.Proofs.YtaigmfkgobklbaaW.PrintMore
attribute [local go_sem] max2_int min2_int max_two min_two max_three min_three max_four min_four   -- for this text's walks alone
set_option linter.unusedVariables false
set_option linter.unusedSimpArgs false

/-! ### schema_May: function 16 (ours) -/
/-- Is a variable of a schema one, but for those ahead of it? -/
def varOk (x : S23) : Bool := Y.nameMay x.f0 && (decide (1 ≤ x.f1) && decide (x.f1 ≤ 3)) && (decide (1 ≤ x.f3) && decide (x.f3 ≤ 4)) && (decide (0 ≤ x.f4) && decide (x.f4 ≤ 8))
def mayFrom (seen : List ByteArray) : List S23 → Bool
  | [] => true
  | x :: l => if (seen.any fun y => y.toList == x.f0.toList) = true then false else if varOk x = true then mayFrom (x.f0 :: seen) l else false
def seenAt (l : List S23) (k : Nat) : List ByteArray := ((l.take k).map fun x => x.f0).reverse
theorem seenAt_succ (l : List S23) (k : Nat) (h : k < l.length) : seenAt l (k + 1) = l[k].f0 :: seenAt l k := by
  unfold seenAt; rw [List.take_succ_eq_append_getElem h, List.map_append, List.reverse_append]; rfl
theorem seenAt_len (l : List S23) (k : Nat) (h : k ≤ l.length) : (seenAt l k).length = k := by unfold seenAt; simp; omega
theorem mayFrom_drop (l : List S23) (k : Nat) (h : k < l.length) : mayFrom (seenAt l k) (l.drop k) = if ((seenAt l k).any fun y => y.toList == l[k].f0.toList) = true then false else if varOk l[k] = true then mayFrom (seenAt l (k + 1)) (l.drop (k + 1)) else false := by
  rw [List.drop_eq_getElem_cons h, mayFrom, seenAt_succ l k h]
theorem mayFrom_end (l : List S23) (k : Nat) (h : ¬ k < l.length) : mayFrom (seenAt l k) (l.drop k) = true := by
  rw [List.drop_eq_nil_of_le (by omega)]; rfl
def smallV (l : List S23) : Prop := l.length ≤ 100000 ∧ ∀ x ∈ l, x.f0.size ≤ 1000000
instance (l : List S23) : Decidable (smallV l) := by unfold smallV; infer_instance
def schema_May.f (l0 : List (S23)) : Option (Bool) := if smallV l0 then some (mayFrom [] l0 && decide (l0.length ≤ 8)) else none
set_option maxHeartbeats 8000000 in
set_option maxRecDepth 100000 in
theorem schema_May.calls (A0 : Option Addr) (c0 : Nat) (l0 : List (S23)) (r : Bool) (w : World) (hr0 : Kd.C k23 w A0 l0.length l0) (hc0 : l0.length ≤ c0) (h : schema_May.f l0 = some r) :
    Calls Try.prog 16 #[.slice A0 l0.length c0] w fun e w' => e = .returned (.bool r) ∧ Below w.heap.size w w' := by
  simp only [schema_May.f] at h
  split at h
  · rename_i hsm
    obtain ⟨hl, hx⟩ := hsm
    obtain rfl := Option.some.inj h
    clear h
    have HR := Aside0.mk hr0
    have HX := Aside0.mk hx
    clear hr0 hx
    have hmm := @run_makeMap Try.prog
    go_enter Try.func16, Try.ntmps16
    go_wp2_with fail
    clear hmm
    go_loopw [9] (fun c wr => ∃ k : Nat, k ≤ l0.length ∧ c = .int .i64 k ∧ Below w.heap.size w wr ∧ X.SeenMap wr w.heap.size (seenAt l0 k) ∧ Aside0 (mayFrom [] l0 = mayFrom (seenAt l0 k) (l0.drop k))) (fun c _ => (l0.length - intOf c).toNat)
    case atStart => exact ⟨0, by omega, by simp, X.below_new1 _ _, X.seen_made w, ⟨rfl⟩⟩
    case round =>
      obtain ⟨k, hk, rfl, hb, hs, HI⟩ := hrel
      have HB := Aside0.mk hb
      have HS := Aside0.mk hs
      clear hb hs
      by_cases hlt : k < l0.length
      · obtain ⟨ad, rfl, h0, h1, h2, h3, h4⟩ := at_T23 (Kd.C_below HR.out HB.out) (k : Int) (by omega) (by omega)
        rw [rdv_at l0 k hlt] at h0 h1 h2 h3 h4
        simp only [Int.toNat_natCast] at h0 h1 h2 h3 h4
        have HI1 := Aside0.mk (HI.out.trans (mayFrom_drop l0 k hlt))
        have hsz := HX.out _ (List.getElem_mem hlt)
        clear HI
        have hlook := X.seen_look (HS.out.alloc (.cells #[.string l0[k].f0, .int .i64 l0[k].f1, .bool l0[k].f2, .int .i64 l0[k].f3, .int .i64 l0[k].f4] 23 (0, 0))) l0[k].f0 (by unfold maxLen; omega)
        cases hseen : (seenAt l0 k).any fun y => y.toList == l0[k].f0.toList with
        | true =>
          rw [hseen] at hlook
          have HN := Aside0.mk (show mayFrom [] l0 = false by rw [HI1.out, if_pos hseen])
          clear HI1 hseen
          go_wp2_with fail
          go_ret
          exact ⟨by rw [HN.out]; rfl, below_alloc HB.out _⟩
        | false =>
          rw [hseen] at hlook
          have HI2 := Aside0.mk (HI1.out.trans (if_neg (by rw [hseen]; decide)))
          clear HI1 hseen
          go_wp2_with fail
          refine (X.vnameMay_any l0[k].f0 _ (by omega)).mono ?_
          rintro e w1 ⟨rfl, hb1⟩
          have HB1 := Aside0.mk (below_step (below_alloc HB.out _) hb1)
          have HS1 := Aside0.mk ((HS.out.alloc _).below hb1)
          have hx := blk_below (blk_new wr _) hb1
          obtain ⟨c1, c2, c3, c4, c5⟩ := cells5 hx
          have HLT := Aside0.mk (blk_lt hx)
          clear hlook HB HS hb1 hx h0 h1 h2 h3 h4
          cases hnm : Y.nameMay l0[k].f0 with
          | false =>
            have HN := Aside0.mk (show mayFrom [] l0 = false by rw [HI2.out, if_neg (by unfold varOk; rw [hnm]; simp)])
            clear HI2 hnm
            go_wp2_with fail
            go_ret
            exact ⟨by rw [HN.out]; rfl, HB1.out⟩
          | true =>
            by_cases hk1 : 1 ≤ l0[k].f1 ∧ l0[k].f1 ≤ 3
            · by_cases hk3 : 1 ≤ l0[k].f3 ∧ l0[k].f3 ≤ 4
              · by_cases hk4 : 0 ≤ l0[k].f4 ∧ l0[k].f4 ≤ 8
                · have HN := Aside0.mk (show mayFrom [] l0 = mayFrom (seenAt l0 (k + 1)) (l0.drop (k + 1)) by rw [HI2.out, if_pos (by unfold varOk; simp [hnm, hk1, hk3, hk4])])
                  clear HI2 hnm
                  go_wp2_with fail
                  refine (X.within_yes _ _ _ _ hk1.1 hk1.2).mono ?_
                  rintro e w2 ⟨rfl, rfl⟩
                  go_wp2_with fail
                  refine (X.within_yes _ _ _ _ hk3.1 hk3.2).mono ?_
                  rintro e w2 ⟨rfl, rfl⟩
                  go_wp2_with fail
                  refine (X.within_yes _ _ _ _ hk4.1 hk4.2).mono ?_
                  rintro e w2 ⟨rfl, rfl⟩
                  obtain ⟨w2, hput, hs2, hg⟩ := X.seen_put HS1.out l0[k].f0 (by unfold maxLen; omega) (by rw [seenAt_len l0 k hk]; unfold maxLen; omega)
                  rw [← seenAt_succ l0 k hlt] at hs2
                  have HB2 := Aside0.mk (show Below w.heap.size w w2 from pw_below_grown HB1.out _ HB1.out.size hg (fun j hj => by injection hj with hj; omega))
                  have HS2 := Aside0.mk hs2
                  clear hs2 hg
                  go_wp2_with fail
                  go_roundw
                  case rel => exact ⟨k + 1, by omega, by go_num, HB2.out, HS2.out, HN⟩
                  case measure => simp [intOf]; omega
                · have HN := Aside0.mk (show mayFrom [] l0 = false by rw [HI2.out, if_neg (by unfold varOk; simp [hnm]; omega)])
                  clear HI2 hnm
                  go_wp2_with fail
                  refine (X.within_yes _ _ _ _ hk1.1 hk1.2).mono ?_
                  rintro e w2 ⟨rfl, rfl⟩
                  go_wp2_with fail
                  refine (X.within_yes _ _ _ _ hk3.1 hk3.2).mono ?_
                  rintro e w2 ⟨rfl, rfl⟩
                  go_wp2_with fail
                  refine (X.within_no _ _ _ _ hk4).mono ?_
                  rintro e w2 ⟨rfl, rfl⟩
                  go_wp2_with fail
                  go_ret
                  exact ⟨by rw [HN.out]; rfl, HB1.out⟩
              · have HN := Aside0.mk (show mayFrom [] l0 = false by rw [HI2.out, if_neg (by unfold varOk; simp [hnm]; omega)])
                clear HI2 hnm
                go_wp2_with fail
                refine (X.within_yes _ _ _ _ hk1.1 hk1.2).mono ?_
                rintro e w2 ⟨rfl, rfl⟩
                go_wp2_with fail
                refine (X.within_no _ _ _ _ hk3).mono ?_
                rintro e w2 ⟨rfl, rfl⟩
                go_wp2_with fail
                go_ret
                exact ⟨by rw [HN.out]; rfl, HB1.out⟩
            · have HN := Aside0.mk (show mayFrom [] l0 = false by rw [HI2.out, if_neg (by unfold varOk; simp [hnm]; omega)])
              clear HI2 hnm
              go_wp2_with fail
              refine (X.within_no _ _ _ _ hk1).mono ?_
              rintro e w2 ⟨rfl, rfl⟩
              go_wp2_with fail
              go_ret
              exact ⟨by rw [HN.out]; rfl, HB1.out⟩
      · have HN := Aside0.mk (show mayFrom [] l0 = true by rw [HI.out, mayFrom_end l0 k hlt])
        have e8 : decide ((l0.length : Int) ≤ 8) = decide (l0.length ≤ 8) := decide_eq_decide.2 (by omega)
        have HE := Aside0.mk e8
        clear HI e8
        go_wp2_with fail
        go_ret
        exact ⟨by rw [HN.out, Bool.true_and, ← HE.out]; rfl, HB.out⟩
  · cases h
/-! ### phalaroperef14_Few: function 13 -/
mutual
def phalaroperef14_Few.l0 : Nat → List (S23) → Int → Option (Bool)
  | 0, _, _ => none
  | k + 1, x0, x3 => if x3 < (x0.length : Int) then (phalaroperef14_Few.j1 k x0 x3 (decide (x3 < 13))) else (phalaroperef14_Few.j1 k x0 x3 false)
def phalaroperef14_Few.j1 : Nat → List (S23) → Int → Bool → Option (Bool)
  | 0, _, _, _ => none
  | k + 1, x0, x3, x11 => if x11 = true then (if 0 ≤ x3 then (if x3 < (x0.length : Int) then (if (((rd_T23 x0 x3).f0).size : Int) > 200 then (some false) else (phalaroperef14_Few.l0 k x0 (wrap64 (x3 + 1)))) else (none)) else (none)) else (some (decide ((x0.length : Int) ≤ 12)))
end
def phalaroperef14_Few.f (k : Nat) (l0 : List (S23)) : Option (Bool) := phalaroperef14_Few.l0 k l0 0
theorem phalaroperef14_Few.mono_l : ∀ k, (∀ y0 y1, LeO (phalaroperef14_Few.l0 k y0 y1) (phalaroperef14_Few.l0 (k + 1) y0 y1)) ∧ (∀ y0 y1 y2, LeO (phalaroperef14_Few.j1 k y0 y1 y2) (phalaroperef14_Few.j1 (k + 1) y0 y1 y2))
  | 0 => ⟨fun _ _ r h => by simp [phalaroperef14_Few.l0] at h, fun _ _ _ r h => by simp [phalaroperef14_Few.j1] at h⟩
  | k + 1 => by
    obtain ⟨ih0, ih1⟩ := phalaroperef14_Few.mono_l k
    refine ⟨?_, ?_⟩
    · intro y0 y1
      unfold phalaroperef14_Few.l0
      repeat' first
      | (with_reducible exact ih0 _ _)
      | (with_reducible exact ih1 _ _ _)
      | (with_reducible exact LeO.refl _)
      | (with_reducible exact LeO.none _)
      | (with_reducible refine LeO.ite ?_ ?_)
      | (with_reducible refine LeO.bind ?_ (fun _ => ?_))
      | exact ih0 _ _
      | exact ih1 _ _ _
      | exact LeO.none _
      | refine LeO.ite ?_ ?_
      | refine LeO.bind ?_ (fun _ => ?_)
    · intro y0 y1 y2
      unfold phalaroperef14_Few.j1
      repeat' first
      | (with_reducible exact ih0 _ _)
      | (with_reducible exact ih1 _ _ _)
      | (with_reducible exact LeO.refl _)
      | (with_reducible exact LeO.none _)
      | (with_reducible refine LeO.ite ?_ ?_)
      | (with_reducible refine LeO.bind ?_ (fun _ => ?_))
      | exact ih0 _ _
      | exact ih1 _ _ _
      | exact LeO.none _
      | refine LeO.ite ?_ ?_
      | refine LeO.bind ?_ (fun _ => ?_)
theorem phalaroperef14_Few.mono : ∀ a0 k, LeO (phalaroperef14_Few.f k a0) (phalaroperef14_Few.f (k + 1) a0) := by
  intro a0 k
  obtain ⟨ih0, ih1⟩ := phalaroperef14_Few.mono_l k
  unfold phalaroperef14_Few.f
  repeat' first
      | (with_reducible exact ih0 _ _)
      | (with_reducible exact ih1 _ _ _)
      | (with_reducible exact LeO.refl _)
      | (with_reducible exact LeO.none _)
      | (with_reducible refine LeO.ite ?_ ?_)
      | (with_reducible refine LeO.bind ?_ (fun _ => ?_))
      | exact ih0 _ _
      | exact ih1 _ _ _
      | exact LeO.none _
      | refine LeO.ite ?_ ?_
      | refine LeO.bind ?_ (fun _ => ?_)
set_option maxHeartbeats 8000000 in
set_option maxRecDepth 100000 in
theorem phalaroperef14_Few.calls (k : Nat) (A0 : Option Addr) (c0 : Nat) (l0 : List (S23)) (r : Bool) (w : World) (hr0 : Kd.C k23 w A0 l0.length l0) (hc0 : l0.length ≤ c0) (h : phalaroperef14_Few.f k l0 = some r) :
    Calls Try.prog 13 #[.slice A0 l0.length c0] w fun e w' => e = .returned (.bool r) ∧ Drawn0 w w' := by
  have HR0 := Aside0.mk hr0
  have HC0 := Aside0.mk hc0
  clear hr0 hc0
  have H : (phalaroperef14_Few.l0 k l0 0) = some r := h
  clear h
  have H' := Aside0.mk H
  clear H
  go_enter Try.func13, Try.ntmps13
  go_wp2
  go_loopg [3] k (fun kq v3 w' => ∃ (x3_1 : Int), v3 = .int .i64 x3_1 ∧ Aside0 (phalaroperef14_Few.l0 kq l0 x3_1 = some r) ∧ Aside0 (kq ≤ k) ∧ Drawn0 w w')
  case atStart => exact ⟨(0), (by first | rfl | (simp; done) | (simp [*]; done)), H', ⟨Nat.le_refl _⟩, by repeat (first | exact Drawn0.refl _ | apply Drawn0.step)⟩
  case round =>
    clear H'
    try clear c1
    obtain ⟨x3_1, rfl, HA, HK1, ⟨m1, rfl⟩⟩ := hrel
    cases gk with
    | zero => exact absurd HA.out (by simp [phalaroperef14_Few.l0])
    | succ k1 =>
      have H := HA.out
      clear HA
      simp only [phalaroperef14_Few.l0] at H
      have HC2 := Aside0.mk H
      clear H
      go_upto_region 2 with (fail)
      go_cut [11] (fun v11 wc => ∃ (kq : Nat) (x11_1 : Bool), v11 = .bool x11_1 ∧ Aside0 (phalaroperef14_Few.j1 kq l0 x3_1 x11_1 = some r) ∧ Aside0 (kq ≤ k1) ∧ Drawn0 w wc)
      case first =>
        have H := HC2.out
        clear HC2
        by_cases c3 : x3_1 < (l0.length : Int)
        · rw [if_pos c3] at H
          have c3b0 : decide (x3_1 < (l0.length : Int)) = true := decide_eq_true c3
          clear c3
          (first | rw [c3b0] | (simp only [i64_w, i32_w]; rw [c3b0]) | skip)
          have H' := Aside0.mk H
          clear H
          go_wp2
          go_meet
          case rel => exact ⟨_, (decide (x3_1 < 13)), (by first | rfl | (simp; done) | (simp [*]; done)), H', ⟨by have := HK1.out; first | omega | exact Nat.le_refl _⟩, by repeat (first | exact Drawn0.refl _ | apply Drawn0.step)⟩
        · rw [if_neg c3] at H
          have c3b0 : decide (x3_1 < (l0.length : Int)) = false := decide_eq_false c3
          clear c3
          (first | rw [c3b0] | (simp only [i64_w, i32_w]; rw [c3b0]) | skip)
          have H' := Aside0.mk H
          clear H
          go_wp2
          go_meet
          case rel => exact ⟨_, (false), (by first | rfl | (simp; done) | (simp [*]; done)), H', ⟨by have := HK1.out; first | omega | exact Nat.le_refl _⟩, by repeat (first | exact Drawn0.refl _ | apply Drawn0.step)⟩
      case rest =>
        clear HC2
        try clear c1
        try clear p2
        try clear c3
        try clear c3b0
        obtain ⟨kq, x11_1, rfl, HA, HJ1, ⟨mc1, rfl⟩⟩ := hcut
        cases kq with
        | zero => exact absurd HA.out (by simp [phalaroperef14_Few.j1])
        | succ kj1 =>
          have H := HA.out
          clear HA
          simp only [phalaroperef14_Few.j1] at H
          by_cases c4 : x11_1 = true
          · subst c4
            have H1 : (if 0 ≤ x3_1 then (if x3_1 < (l0.length : Int) then (if (((rd_T23 l0 x3_1).f0).size : Int) > 200 then (some false) else (phalaroperef14_Few.l0 kj1 l0 (wrap64 (x3_1 + 1)))) else (none)) else (none)) = some r := by rw [if_pos rfl] at H; exact H
            clear H
            have H := H1
            clear H1
            by_cases c5 : 0 ≤ x3_1
            · rw [if_pos c5] at H
              have c5b0 : decide (0 ≤ x3_1) = true := decide_eq_true c5
              clear c5
              by_cases c6 : x3_1 < (l0.length : Int)
              · rw [if_pos c6] at H
                have c6b0 : decide (x3_1 < (l0.length : Int)) = true := decide_eq_true c6
                clear c6
                by_cases c7 : (((rd_T23 l0 x3_1).f0).size : Int) > 200
                · rw [if_pos c7] at H
                  have c7b0 : decide (200 < (((rd_T23 l0 x3_1).f0).size : Int)) = true := decide_eq_true c7
                  have c7b1 : decide (200 < ((rd_T23 l0 x3_1).f0).size) = true := decide_eq_true (by omega)
                  clear c7
                  obtain rfl := Option.some.inj H
                  have p120 : 0 ≤ (x3_1 : Int) := of_decide_eq_true (by first | (with_reducible assumption) | assumption)
                  have q120 : x3_1 < (l0.length : Int) := of_decide_eq_true (by first | (with_reducible assumption) | assumption)
                  obtain ⟨ad120, e120, hx120_0, hx120_1, hx120_2, hx120_3, hx120_4⟩ := at_T23 HR0.out x3_1 p120 q120
                  cases e120
                  replace p120 := eq_true p120
                  replace q120 := eq_true q120
                  go_wp2
                  go_ret
                  exact ⟨by first | rfl | (simp; done) | (simp [*]; done), by repeat (first | exact Drawn0.refl _ | apply Drawn0.step)⟩
                · rw [if_neg c7] at H
                  have c7b0 : decide (200 < (((rd_T23 l0 x3_1).f0).size : Int)) = false := decide_eq_false c7
                  have c7b1 : decide (200 < ((rd_T23 l0 x3_1).f0).size) = false := decide_eq_false (by omega)
                  clear c7
                  have H' := Aside0.mk H
                  clear H
                  have p120 : 0 ≤ (x3_1 : Int) := of_decide_eq_true (by first | (with_reducible assumption) | assumption)
                  have q120 : x3_1 < (l0.length : Int) := of_decide_eq_true (by first | (with_reducible assumption) | assumption)
                  obtain ⟨ad120, e120, hx120_0, hx120_1, hx120_2, hx120_3, hx120_4⟩ := at_T23 HR0.out x3_1 p120 q120
                  cases e120
                  replace p120 := eq_true p120
                  replace q120 := eq_true q120
                  go_wp2
                  go_roundg kj1
                  case measure => have := HK1.out; have := HJ1.out; omega
                  case rel => exact ⟨(wrap64 (x3_1 + 1)), (by first | rfl | (simp; done) | (simp [*]; done)), H', ⟨by have := HK1.out; have := HJ1.out; omega⟩, by repeat (first | exact Drawn0.refl _ | apply Drawn0.step)⟩
              · rw [if_neg c6] at H
                exact absurd H (by simp)
            · rw [if_neg c5] at H
              exact absurd H (by simp)
          · replace c4 := Bool.eq_false_iff.mpr c4
            subst c4
            have H1 : (some (decide ((l0.length : Int) ≤ 12))) = some r := by rw [if_neg (show ¬ (false = true) by decide)] at H; exact H
            clear H
            have H := H1
            clear H1
            obtain rfl := Option.some.inj H
            go_wp2
            go_ret
            exact ⟨by first | rfl | (simp; done) | (simp [*]; done), by repeat (first | exact Drawn0.refl _ | apply Drawn0.step)⟩

/-! ### phalaroperef14_Find: function 15 -/
def phalaroperef14_Find.l0 : Nat → List (S23) → ByteArray → Int → Option (ByteArray × Int × Bool × Int × Int × Bool)
  | 0, _, _, _ => none
  | k + 1, x0, x1, x6 => if x6 < (x0.length : Int) then (if 0 ≤ x6 then (if ((rd_T23 x0 x6).f0).toList = x1.toList then (some ((rd_T23 x0 x6).f0, (rd_T23 x0 x6).f1, (rd_T23 x0 x6).f2, (rd_T23 x0 x6).f3, (rd_T23 x0 x6).f4, true)) else (phalaroperef14_Find.l0 k x0 x1 (wrap64 (x6 + 1)))) else (none)) else (some ((⟨#[]⟩ : ByteArray), 0, false, 0, 0, false))
def phalaroperef14_Find.f (k : Nat) (l0 : List (S23)) (a1 : ByteArray) : Option (ByteArray × Int × Bool × Int × Int × Bool) := phalaroperef14_Find.l0 k l0 a1 0
theorem phalaroperef14_Find.mono_l : ∀ k, (∀ y0 y1 y2, LeO (phalaroperef14_Find.l0 k y0 y1 y2) (phalaroperef14_Find.l0 (k + 1) y0 y1 y2))
  | 0 => fun _ _ _ r h => by simp [phalaroperef14_Find.l0] at h
  | k + 1 => by
    have ih0 := phalaroperef14_Find.mono_l k
    · intro y0 y1 y2
      unfold phalaroperef14_Find.l0
      repeat' first
      | (with_reducible exact ih0 _ _ _)
      | (with_reducible exact LeO.refl _)
      | (with_reducible exact LeO.none _)
      | (with_reducible refine LeO.ite ?_ ?_)
      | (with_reducible refine LeO.bind ?_ (fun _ => ?_))
      | exact ih0 _ _ _
      | exact LeO.none _
      | refine LeO.ite ?_ ?_
      | refine LeO.bind ?_ (fun _ => ?_)
theorem phalaroperef14_Find.mono : ∀ a0 a1 k, LeO (phalaroperef14_Find.f k a0 a1) (phalaroperef14_Find.f (k + 1) a0 a1) := by
  intro a0 a1 k
  have ih0 := phalaroperef14_Find.mono_l k
  unfold phalaroperef14_Find.f
  repeat' first
      | (with_reducible exact ih0 _ _ _)
      | (with_reducible exact LeO.refl _)
      | (with_reducible exact LeO.none _)
      | (with_reducible refine LeO.ite ?_ ?_)
      | (with_reducible refine LeO.bind ?_ (fun _ => ?_))
      | exact ih0 _ _ _
      | exact LeO.none _
      | refine LeO.ite ?_ ?_
      | refine LeO.bind ?_ (fun _ => ?_)
set_option maxHeartbeats 8000000 in
set_option maxRecDepth 100000 in
theorem phalaroperef14_Find.calls (k : Nat) (A0 : Option Addr) (c0 : Nat) (l0 : List (S23)) (a1 : ByteArray) (r1 : ByteArray) (r2 : Int) (r3 : Bool) (r4 : Int) (r5 : Int) (r6 : Bool) (w : World) (hr0 : Kd.C k23 w A0 l0.length l0) (hc0 : l0.length ≤ c0) (h : phalaroperef14_Find.f k l0 a1 = some (r1, r2, r3, r4, r5, r6)) :
    Calls Try.prog 15 #[.slice A0 l0.length c0, .string a1] w fun e w' => e = .returned (.tuple #[.agg #[.string r1, .int .i64 r2, .bool r3, .int .i64 r4, .int .i64 r5], .bool r6]) ∧ Below w.heap.size w w' := by
  have hu23 := Try.underlying23
  have HR0 := Aside0.mk hr0
  have HC0 := Aside0.mk hc0
  clear hr0 hc0
  have HB := Aside0.mk (Below.refl w.heap.size w)
  have H : (phalaroperef14_Find.l0 k l0 a1 0) = some (r1, r2, r3, r4, r5, r6) := h
  clear h
  have H' := Aside0.mk H
  clear H
  go_enter Try.func15, Try.ntmps15
  go_wp2_with (first | ((with_reducible refine gate_dst (N := 4) rfl ?_); refine box_event ?hg (N := 4) ?hd (cs := #[.string (⟨#[]⟩ : ByteArray), .int .i64 0, .bool false, .int .i64 0, .int .i64 0]) (t := 23) ?hr ?_; (case hd => rfl); (case hg => rfl); (case hr => first | (go_simp; done) | (go_simp; rfl)); intro gb121 hg w3 hbox hb; have n0_ := Aside0.mk (below_step (by repeat (first | (with_reducible first | exact HB.out | apply below_alloc | apply pw_below_drewN | apply below_drew1) | exact HB.out)) hb); have n1_ := Aside0.mk (hbox); have n2_ := Aside0.mk ((by rw [hg]; exact (below_size (by repeat (first | (with_reducible first | exact HB.out | apply below_alloc | apply pw_below_drewN | apply below_drew1) | exact HB.out))) : w.heap.size ≤ gb121)); have n3_ := Aside0.mk ((by rw [hg]; exact (below_size (by repeat (first | (with_reducible first | exact HB.out | apply below_alloc | apply pw_below_drewN | apply below_drew1) | exact HB.out))) : w.heap.size ≤ gb121)); clear HB; have HB := n0_; have BK121 := n1_; have GW121 := n2_; have GE121 := n3_; clear n0_ n1_ n2_ n3_; clear hb hbox hg))
  go_loopg [6] k (fun kq v6 w' => ∃ (x6_1 : Int) (x122000_1 : ByteArray) (x122001_1 : Int) (x122002_1 : Bool) (x122003_1 : Int) (x122004_1 : Int), v6 = .int .i64 x6_1 ∧ Aside0 (phalaroperef14_Find.l0 kq l0 a1 x6_1 = some (r1, r2, r3, r4, r5, r6)) ∧ Aside0 (kq ≤ k) ∧ Aside0 (w'.heap[gb121]? = some (.cells #[.string x122000_1, .int .i64 x122001_1, .bool x122002_1, .int .i64 x122003_1, .int .i64 x122004_1] 23 (0, 0))) ∧ Aside0 (Below w.heap.size w w'))
  case atStart => exact ⟨(0), ((⟨#[]⟩ : ByteArray)), (0), (false), (0), (0), (by first | rfl | (simp; done) | (simp [*]; done)), H', ⟨Nat.le_refl _⟩, ⟨by (with_reducible repeat (first | refine blk_drewN ?_ _ | refine blk_drew ?_ | refine blk_alloc ?_ _)); exact BK121.out⟩, ⟨by repeat (first | (with_reducible first | exact HB.out | apply below_alloc | apply pw_below_drewN | apply below_drew1 | refine below_set ?_ GE121.out) | exact HB.out)⟩⟩
  case round =>
    clear H'
    try clear c1
    try clear p2
    obtain ⟨x6_1, x122000_1, x122001_1, x122002_1, x122003_1, x122004_1, rfl, HA, HK1, BK121, HB⟩ := hrel
    cases gk with
    | zero => exact absurd HA.out (by simp [phalaroperef14_Find.l0])
    | succ k1 =>
      have H := HA.out
      clear HA
      simp only [phalaroperef14_Find.l0] at H
      by_cases c4 : x6_1 < (l0.length : Int)
      · rw [if_pos c4] at H
        have c4b0 : decide (x6_1 < (l0.length : Int)) = true := decide_eq_true c4
        clear c4
        by_cases c5 : 0 ≤ x6_1
        · rw [if_pos c5] at H
          have c5b0 : decide (0 ≤ x6_1) = true := decide_eq_true c5
          clear c5
          by_cases c6 : ((rd_T23 l0 x6_1).f0).toList = a1.toList
          · rw [if_pos c6] at H
            have c6b0 : (((rd_T23 l0 x6_1).f0).toList == a1.toList) = true := beq_iff_eq.mpr c6
            have c6b1 : (((rd_T23 l0 x6_1).f0).toList != a1.toList) = false := bne_eq_false_iff_eq.mpr c6
            clear c6
            simp only [Option.some.injEq, Prod.mk.injEq] at H
            obtain ⟨rfl, rfl, rfl, rfl, rfl, rfl⟩ := H
            have p122 : 0 ≤ (x6_1 : Int) := of_decide_eq_true (by first | (with_reducible assumption) | assumption)
            have q122 : x6_1 < (l0.length : Int) := of_decide_eq_true (by first | (with_reducible assumption) | assumption)
            obtain ⟨ad122, e122, hx122_0, hx122_1, hx122_2, hx122_3, hx122_4⟩ := at_T23 HR0.out x6_1 p122 q122
            cases e122
            replace hx122_0 := (HB.out.cell (World.block_lt_of_cell? w _ hx122_0)).trans hx122_0
            replace hx122_1 := (HB.out.cell (World.block_lt_of_cell? w _ hx122_1)).trans hx122_1
            replace hx122_2 := (HB.out.cell (World.block_lt_of_cell? w _ hx122_2)).trans hx122_2
            replace hx122_3 := (HB.out.cell (World.block_lt_of_cell? w _ hx122_3)).trans hx122_3
            replace hx122_4 := (HB.out.cell (World.block_lt_of_cell? w _ hx122_4)).trans hx122_4
            replace p122 := eq_true p122
            replace q122 := eq_true q122
            have p123 : 0 ≤ (x6_1 : Int) := of_decide_eq_true (by first | (with_reducible assumption) | assumption)
            have q123 : x6_1 < (l0.length : Int) := of_decide_eq_true (by first | (with_reducible assumption) | assumption)
            obtain ⟨ad123, e123, hx123_0, hx123_1, hx123_2, hx123_3, hx123_4⟩ := at_T23 HR0.out x6_1 p123 q123
            obtain rfl : ad122 = ad123 := (by injection e123)
            replace hx123_0 := (HB.out.cell (World.block_lt_of_cell? w _ hx123_0)).trans hx123_0
            replace hx123_1 := (HB.out.cell (World.block_lt_of_cell? w _ hx123_1)).trans hx123_1
            replace hx123_2 := (HB.out.cell (World.block_lt_of_cell? w _ hx123_2)).trans hx123_2
            replace hx123_3 := (HB.out.cell (World.block_lt_of_cell? w _ hx123_3)).trans hx123_3
            replace hx123_4 := (HB.out.cell (World.block_lt_of_cell? w _ hx123_4)).trans hx123_4
            replace p123 := eq_true p123
            replace q123 := eq_true q123
            have hcz7_0 : wr.cell? ⟨gb121, 0, none⟩ = some (.string x122000_1) := (blk_cell BK121.out 0).trans rfl
            have hcz7_1 : wr.cell? ⟨gb121, 1, none⟩ = some (.int .i64 x122001_1) := (blk_cell BK121.out 1).trans rfl
            have hcz7_2 : wr.cell? ⟨gb121, 2, none⟩ = some (.bool x122002_1) := (blk_cell BK121.out 2).trans rfl
            have hcz7_3 : wr.cell? ⟨gb121, 3, none⟩ = some (.int .i64 x122003_1) := (blk_cell BK121.out 3).trans rfl
            have hcz7_4 : wr.cell? ⟨gb121, 4, none⟩ = some (.int .i64 x122004_1) := (blk_cell BK121.out 4).trans rfl
            have hfz7_0 := blk_frozen BK121.out 0
            have hfz7_1 := blk_frozen BK121.out 1
            have hfz7_2 := blk_frozen BK121.out 2
            have hfz7_3 := blk_frozen BK121.out 3
            have hfz7_4 := blk_frozen BK121.out 4
            go_wp2
            refine bodyPost_ret (results_ct rfl _ _ gb121 23 #[.string ((rd_T23 l0 x6_1).f0), .int .i64 ((rd_T23 l0 x6_1).f1), .bool ((rd_T23 l0 x6_1).f2), .int .i64 ((rd_T23 l0 x6_1).f3), .int .i64 ((rd_T23 l0 x6_1).f4)] (0, 0) _ rfl (by (with_reducible repeat (first | refine blk_drewN ?_ _ | refine blk_drew ?_ | refine blk_alloc ?_ _)); refine blk_put (cs := #[.string ((rd_T23 l0 x6_1).f0), .int .i64 ((rd_T23 l0 x6_1).f1), .bool ((rd_T23 l0 x6_1).f2), .int .i64 ((rd_T23 l0 x6_1).f3), .int .i64 x122004_1]) ?_ 4 _ rfl; (with_reducible repeat (first | refine blk_drewN ?_ _ | refine blk_drew ?_ | refine blk_alloc ?_ _)); refine blk_put (cs := #[.string ((rd_T23 l0 x6_1).f0), .int .i64 ((rd_T23 l0 x6_1).f1), .bool ((rd_T23 l0 x6_1).f2), .int .i64 x122003_1, .int .i64 x122004_1]) ?_ 3 _ rfl; (with_reducible repeat (first | refine blk_drewN ?_ _ | refine blk_drew ?_ | refine blk_alloc ?_ _)); refine blk_put (cs := #[.string ((rd_T23 l0 x6_1).f0), .int .i64 ((rd_T23 l0 x6_1).f1), .bool x122002_1, .int .i64 x122003_1, .int .i64 x122004_1]) ?_ 2 _ rfl; (with_reducible repeat (first | refine blk_drewN ?_ _ | refine blk_drew ?_ | refine blk_alloc ?_ _)); refine blk_put (cs := #[.string ((rd_T23 l0 x6_1).f0), .int .i64 x122001_1, .bool x122002_1, .int .i64 x122003_1, .int .i64 x122004_1]) ?_ 1 _ rfl; (with_reducible repeat (first | refine blk_drewN ?_ _ | refine blk_drew ?_ | refine blk_alloc ?_ _)); refine blk_put (cs := #[.string x122000_1, .int .i64 x122001_1, .bool x122002_1, .int .i64 x122003_1, .int .i64 x122004_1]) ?_ 0 _ rfl; (with_reducible repeat (first | refine blk_drewN ?_ _ | refine blk_drew ?_ | refine blk_alloc ?_ _)); exact BK121.out) Try.underlying23 rfl (by kernel_rfl)) rfl ?_
            exact ⟨by first | rfl | (simp [errW_none, errW_some] <;> rfl) | (simp [*, errW_none, errW_some] <;> rfl), by repeat (first | (with_reducible first | exact HB.out | apply below_alloc | apply pw_below_drewN | apply below_drew1 | refine below_set ?_ GE121.out) | exact HB.out)⟩
          · rw [if_neg c6] at H
            have c6b0 : (((rd_T23 l0 x6_1).f0).toList == a1.toList) = false := beq_eq_false_iff_ne.mpr c6
            have c6b1 : (((rd_T23 l0 x6_1).f0).toList != a1.toList) = true := bne_iff_ne.mpr c6
            have H' := Aside0.mk H
            clear H
            have p122 : 0 ≤ (x6_1 : Int) := of_decide_eq_true (by first | (with_reducible assumption) | assumption)
            have q122 : x6_1 < (l0.length : Int) := of_decide_eq_true (by first | (with_reducible assumption) | assumption)
            obtain ⟨ad122, e122, hx122_0, hx122_1, hx122_2, hx122_3, hx122_4⟩ := at_T23 HR0.out x6_1 p122 q122
            cases e122
            replace hx122_0 := (HB.out.cell (World.block_lt_of_cell? w _ hx122_0)).trans hx122_0
            replace hx122_1 := (HB.out.cell (World.block_lt_of_cell? w _ hx122_1)).trans hx122_1
            replace hx122_2 := (HB.out.cell (World.block_lt_of_cell? w _ hx122_2)).trans hx122_2
            replace hx122_3 := (HB.out.cell (World.block_lt_of_cell? w _ hx122_3)).trans hx122_3
            replace hx122_4 := (HB.out.cell (World.block_lt_of_cell? w _ hx122_4)).trans hx122_4
            replace p122 := eq_true p122
            replace q122 := eq_true q122
            go_wp2
            go_roundg k1
            case measure => have := HK1.out; omega
            case rel => exact ⟨(wrap64 (x6_1 + 1)), (x122000_1), (x122001_1), (x122002_1), (x122003_1), (x122004_1), (by first | rfl | (simp; done) | (simp [*]; done)), H', ⟨by have := HK1.out; omega⟩, ⟨by (with_reducible repeat (first | refine blk_drewN ?_ _ | refine blk_drew ?_ | refine blk_alloc ?_ _)); exact BK121.out⟩, ⟨by repeat (first | (with_reducible first | exact HB.out | apply below_alloc | apply pw_below_drewN | apply below_drew1 | refine below_set ?_ GE121.out) | exact HB.out)⟩⟩
        · rw [if_neg c5] at H
          exact absurd H (by simp)
      · rw [if_neg c4] at H
        have c4b0 : decide (x6_1 < (l0.length : Int)) = false := decide_eq_false c4
        clear c4
        simp only [Option.some.injEq, Prod.mk.injEq] at H
        obtain ⟨rfl, rfl, rfl, rfl, rfl, rfl⟩ := H
        have hcz8_0 : wr.cell? ⟨gb121, 0, none⟩ = some (.string x122000_1) := (blk_cell BK121.out 0).trans rfl
        have hcz8_1 : wr.cell? ⟨gb121, 1, none⟩ = some (.int .i64 x122001_1) := (blk_cell BK121.out 1).trans rfl
        have hcz8_2 : wr.cell? ⟨gb121, 2, none⟩ = some (.bool x122002_1) := (blk_cell BK121.out 2).trans rfl
        have hcz8_3 : wr.cell? ⟨gb121, 3, none⟩ = some (.int .i64 x122003_1) := (blk_cell BK121.out 3).trans rfl
        have hcz8_4 : wr.cell? ⟨gb121, 4, none⟩ = some (.int .i64 x122004_1) := (blk_cell BK121.out 4).trans rfl
        have hfz8_0 := blk_frozen BK121.out 0
        have hfz8_1 := blk_frozen BK121.out 1
        have hfz8_2 := blk_frozen BK121.out 2
        have hfz8_3 := blk_frozen BK121.out 3
        have hfz8_4 := blk_frozen BK121.out 4
        go_wp2
        refine bodyPost_ret (results_ct rfl _ _ gb121 23 #[.string (⟨#[]⟩ : ByteArray), .int .i64 0, .bool false, .int .i64 0, .int .i64 0] (0, 0) _ rfl (by (with_reducible repeat (first | refine blk_drewN ?_ _ | refine blk_drew ?_ | refine blk_alloc ?_ _)); refine blk_put (cs := #[.string (⟨#[]⟩ : ByteArray), .int .i64 0, .bool false, .int .i64 0, .int .i64 x122004_1]) ?_ 4 _ rfl; (with_reducible repeat (first | refine blk_drewN ?_ _ | refine blk_drew ?_ | refine blk_alloc ?_ _)); refine blk_put (cs := #[.string (⟨#[]⟩ : ByteArray), .int .i64 0, .bool false, .int .i64 x122003_1, .int .i64 x122004_1]) ?_ 3 _ rfl; (with_reducible repeat (first | refine blk_drewN ?_ _ | refine blk_drew ?_ | refine blk_alloc ?_ _)); refine blk_put (cs := #[.string (⟨#[]⟩ : ByteArray), .int .i64 0, .bool x122002_1, .int .i64 x122003_1, .int .i64 x122004_1]) ?_ 2 _ rfl; (with_reducible repeat (first | refine blk_drewN ?_ _ | refine blk_drew ?_ | refine blk_alloc ?_ _)); refine blk_put (cs := #[.string (⟨#[]⟩ : ByteArray), .int .i64 x122001_1, .bool x122002_1, .int .i64 x122003_1, .int .i64 x122004_1]) ?_ 1 _ rfl; (with_reducible repeat (first | refine blk_drewN ?_ _ | refine blk_drew ?_ | refine blk_alloc ?_ _)); refine blk_put (cs := #[.string x122000_1, .int .i64 x122001_1, .bool x122002_1, .int .i64 x122003_1, .int .i64 x122004_1]) ?_ 0 _ rfl; (with_reducible repeat (first | refine blk_drewN ?_ _ | refine blk_drew ?_ | refine blk_alloc ?_ _)); exact BK121.out) Try.underlying23 rfl (by kernel_rfl)) rfl ?_
        exact ⟨by first | rfl | (simp [errW_none, errW_some] <;> rfl) | (simp [*, errW_none, errW_some] <;> rfl), by repeat (first | (with_reducible first | exact HB.out | apply below_alloc | apply pw_below_drewN | apply below_drew1 | refine below_set ?_ GE121.out) | exact HB.out)⟩

/-! ### phalaroperef02_Digit: function 37 -/
def phalaroperef02_Digit.f (a0 : Int) : Option (Bool) := if a0 ≥ 48 then (some (decide (a0 ≤ 57))) else (some false)
set_option maxHeartbeats 8000000 in
set_option maxRecDepth 100000 in
theorem phalaroperef02_Digit.calls (a0 : Int) (r : Bool) (w : World) (h : phalaroperef02_Digit.f a0 = some r) :
    Calls Try.prog 37 #[.int .u8 a0] w fun e w' => e = .returned (.bool r) ∧ Drawn0 w w' := by
  have H : (if a0 ≥ 48 then (some (decide (a0 ≤ 57))) else (some false)) = some r := h
  clear h
  by_cases c2 : a0 ≥ 48
  · rw [if_pos c2] at H
    have c2b0 : decide (48 ≤ a0) = true := decide_eq_true c2
    clear c2
    obtain rfl := Option.some.inj H
    go_enter Try.func37, Try.ntmps37
    go_wp2
    go_ret
    exact ⟨by first | rfl | (simp; done) | (simp [*]; done), by repeat (first | exact Drawn0.refl _ | apply Drawn0.step)⟩
  · rw [if_neg c2] at H
    have c2b0 : decide (48 ≤ a0) = false := decide_eq_false c2
    clear c2
    obtain rfl := Option.some.inj H
    go_enter Try.func37, Try.ntmps37
    go_wp2
    go_ret
    exact ⟨by first | rfl | (simp; done) | (simp [*]; done), by repeat (first | exact Drawn0.refl _ | apply Drawn0.step)⟩

/-! ### phalaroperef02_Alpha: function 52 -/
def phalaroperef02_Alpha.f (a0 : Int) : Option (Bool) := if a0 ≥ 65 then (if a0 ≤ 90 then (some true) else (if a0 ≥ 97 then (some (decide (a0 ≤ 122))) else (some false))) else (if a0 ≥ 97 then (some (decide (a0 ≤ 122))) else (some false))
set_option maxHeartbeats 8000000 in
set_option maxRecDepth 100000 in
theorem phalaroperef02_Alpha.calls (a0 : Int) (r : Bool) (w : World) (h : phalaroperef02_Alpha.f a0 = some r) :
    Calls Try.prog 52 #[.int .u8 a0] w fun e w' => e = .returned (.bool r) ∧ Drawn0 w w' := by
  have H : (if a0 ≥ 65 then (if a0 ≤ 90 then (some true) else (if a0 ≥ 97 then (some (decide (a0 ≤ 122))) else (some false))) else (if a0 ≥ 97 then (some (decide (a0 ≤ 122))) else (some false))) = some r := h
  clear h
  by_cases c2 : a0 ≥ 65
  · rw [if_pos c2] at H
    have c2b0 : decide (65 ≤ a0) = true := decide_eq_true c2
    clear c2
    by_cases c3 : a0 ≤ 90
    · rw [if_pos c3] at H
      have c3b0 : decide (a0 ≤ 90) = true := decide_eq_true c3
      clear c3
      obtain rfl := Option.some.inj H
      go_enter Try.func52, Try.ntmps52
      go_wp2
      go_ret
      exact ⟨by first | rfl | (simp; done) | (simp [*]; done), by repeat (first | exact Drawn0.refl _ | apply Drawn0.step)⟩
    · rw [if_neg c3] at H
      have c3b0 : decide (a0 ≤ 90) = false := decide_eq_false c3
      clear c3
      by_cases c4 : a0 ≥ 97
      · rw [if_pos c4] at H
        have c4b0 : decide (97 ≤ a0) = true := decide_eq_true c4
        clear c4
        obtain rfl := Option.some.inj H
        go_enter Try.func52, Try.ntmps52
        go_wp2
        go_ret
        exact ⟨by first | rfl | (simp; done) | (simp [*]; done), by repeat (first | exact Drawn0.refl _ | apply Drawn0.step)⟩
      · rw [if_neg c4] at H
        have c4b0 : decide (97 ≤ a0) = false := decide_eq_false c4
        clear c4
        obtain rfl := Option.some.inj H
        go_enter Try.func52, Try.ntmps52
        go_wp2
        go_ret
        exact ⟨by first | rfl | (simp; done) | (simp [*]; done), by repeat (first | exact Drawn0.refl _ | apply Drawn0.step)⟩
  · rw [if_neg c2] at H
    have c2b0 : decide (65 ≤ a0) = false := decide_eq_false c2
    clear c2
    by_cases c5 : a0 ≥ 97
    · rw [if_pos c5] at H
      have c5b0 : decide (97 ≤ a0) = true := decide_eq_true c5
      clear c5
      obtain rfl := Option.some.inj H
      go_enter Try.func52, Try.ntmps52
      go_wp2
      go_ret
      exact ⟨by first | rfl | (simp; done) | (simp [*]; done), by repeat (first | exact Drawn0.refl _ | apply Drawn0.step)⟩
    · rw [if_neg c5] at H
      have c5b0 : decide (97 ≤ a0) = false := decide_eq_false c5
      clear c5
      obtain rfl := Option.some.inj H
      go_enter Try.func52, Try.ntmps52
      go_wp2
      go_ret
      exact ⟨by first | rfl | (simp; done) | (simp [*]; done), by repeat (first | exact Drawn0.refl _ | apply Drawn0.step)⟩

/-! ### phalaroperef02_Word: function 38 -/
def phalaroperef02_Word.f (a0 : Int) : Option (Bool) := (phalaroperef02_Alpha.f a0).bind fun t124 => (if t124 = true then (some true) else ((phalaroperef02_Digit.f a0).bind fun t125 => (if t125 = true then (some true) else (some (a0 == 95)))))
set_option maxHeartbeats 8000000 in
set_option maxRecDepth 100000 in
theorem phalaroperef02_Word.calls (a0 : Int) (r : Bool) (w : World) (h : phalaroperef02_Word.f a0 = some r) :
    Calls Try.prog 38 #[.int .u8 a0] w fun e w' => e = .returned (.bool r) ∧ Drawn0 w w' := by
  have H : ((phalaroperef02_Alpha.f a0).bind fun t124 => (if t124 = true then (some true) else ((phalaroperef02_Digit.f a0).bind fun t125 => (if t125 = true then (some true) else (some (a0 == 95)))))) = some r := h
  clear h
  replace H := Option.bind_eq_some_iff.mp H
  obtain ⟨t124, A20, H⟩ := H
  replace H : (if t124 = true then (some true) else ((phalaroperef02_Digit.f a0).bind fun t125 => (if t125 = true then (some true) else (some (a0 == 95))))) = some r := H
  have A2 := Aside0.mk A20
  clear A20
  by_cases c3 : t124 = true
  · subst c3
    have H1 : (some true) = some r := by rw [if_pos rfl] at H; exact H
    clear H
    have H := H1
    clear H1
    obtain rfl := Option.some.inj H
    go_enter Try.func38, Try.ntmps38
    go_wp2_with (first | ((with_reducible refine gate_callee (f := 52) rfl ?_); refine goesL_ (some 4) rfl rfl Try.func52 (by kernel_rfl) rfl #[.int .u8 a0] rfl (by (try simp only [List.map_toArray, List.map_cons, List.map_nil]); first | done | rfl | (simp only [List.length_drop, List.length_take]; rfl)) ?_; (with_reducible refine (phalaroperef02_Alpha.calls a0 true _ A2.out).mono ?_); rintro e w' ⟨rfl, ⟨nd, rfl⟩⟩; refine ⟨_, rfl, ?_⟩))
    go_ret
    exact ⟨by first | rfl | (simp; done) | (simp [*]; done), by repeat (first | exact Drawn0.refl _ | apply Drawn0.step)⟩
  · replace c3 := Bool.eq_false_iff.mpr c3
    subst c3
    have H1 : ((phalaroperef02_Digit.f a0).bind fun t125 => (if t125 = true then (some true) else (some (a0 == 95)))) = some r := by rw [if_neg (show ¬ (false = true) by decide)] at H; exact H
    clear H
    have H := H1
    clear H1
    replace H := Option.bind_eq_some_iff.mp H
    obtain ⟨t125, A40, H⟩ := H
    replace H : (if t125 = true then (some true) else (some (a0 == 95))) = some r := H
    have A4 := Aside0.mk A40
    clear A40
    by_cases c5 : t125 = true
    · subst c5
      have H1 : (some true) = some r := by rw [if_pos rfl] at H; exact H
      clear H
      have H := H1
      clear H1
      obtain rfl := Option.some.inj H
      go_enter Try.func38, Try.ntmps38
      go_wp2_with (first | ((with_reducible refine gate_callee (f := 52) rfl ?_); refine goesL_ (some 4) rfl rfl Try.func52 (by kernel_rfl) rfl #[.int .u8 a0] rfl (by (try simp only [List.map_toArray, List.map_cons, List.map_nil]); first | done | rfl | (simp only [List.length_drop, List.length_take]; rfl)) ?_; (with_reducible refine (phalaroperef02_Alpha.calls a0 false _ A2.out).mono ?_); rintro e w' ⟨rfl, ⟨nd, rfl⟩⟩; refine ⟨_, rfl, ?_⟩) | (go_at_call 37; (with_reducible refine (phalaroperef02_Digit.calls a0 true _ A4.out).mono ?_); rintro e w' ⟨rfl, ⟨nd, rfl⟩⟩))
      go_ret
      exact ⟨by first | rfl | (simp; done) | (simp [*]; done), by repeat (first | exact Drawn0.refl _ | apply Drawn0.step)⟩
    · replace c5 := Bool.eq_false_iff.mpr c5
      subst c5
      have H1 : (some (a0 == 95)) = some r := by rw [if_neg (show ¬ (false = true) by decide)] at H; exact H
      clear H
      have H := H1
      clear H1
      obtain rfl := Option.some.inj H
      go_enter Try.func38, Try.ntmps38
      go_wp2_with (first | ((with_reducible refine gate_callee (f := 52) rfl ?_); refine goesL_ (some 4) rfl rfl Try.func52 (by kernel_rfl) rfl #[.int .u8 a0] rfl (by (try simp only [List.map_toArray, List.map_cons, List.map_nil]); first | done | rfl | (simp only [List.length_drop, List.length_take]; rfl)) ?_; (with_reducible refine (phalaroperef02_Alpha.calls a0 false _ A2.out).mono ?_); rintro e w' ⟨rfl, ⟨nd, rfl⟩⟩; refine ⟨_, rfl, ?_⟩) | (go_at_call 37; (with_reducible refine (phalaroperef02_Digit.calls a0 false _ A4.out).mono ?_); rintro e w' ⟨rfl, ⟨nd, rfl⟩⟩))
      go_ret
      exact ⟨by first | rfl | (simp; done) | (simp [*]; done), by repeat (first | exact Drawn0.refl _ | apply Drawn0.step)⟩

end Go.Proofs.Ytaigmfkgobklbaa.PC
