/- Texts of this claim, those that nothing needs left out: PEx9 PEx10 PEx11 ZuE. -/
import Derived.Test.YtbjeegkmafbejaaErG4
import Derived.Test.YtbjeegkmafbejaaErG8
import Derived.Test.YtbjeegkmafbejaaErG2
section
namespace Go.Proofs.Ytbjeegkmafbejaa.PE
open Go.RowKit Go.Proofs.YtbjeegkmafbejaaW.PrintWords Go.Proofs.YtbjeegkmafbejaaW.PrintLast Go.Proofs.YtbjeegkmafbejaaW.PrintMore
attribute [local go_sem] max2_int min2_int max_two min_two max_three min_three max_four min_four   -- for this text's walks alone
set_option linter.unusedVariables false
set_option linter.unusedSimpArgs false
def phalaroperef01_tail.l0 : Nat → Int → Int → Int → Option (Int)
  | 0, _, _, _ => none
  | k + 1, x0, x1, x5 => if x5 < x1 then (phalaroperef01_tail.l0 k (wrap64 (Int.tdiv x0 64)) x1 (wrap64 (x5 + 1))) else (some ((wrap64 (128 + (Int.tmod x0 64))) % 256))
def phalaroperef01_tail.f (k : Nat) (a0 : Int) (a1 : Int) : Option (Int) := phalaroperef01_tail.l0 k a0 a1 0
set_option maxHeartbeats 8000000 in
set_option maxRecDepth 100000 in
theorem phalaroperef01_tail.calls (k : Nat) (a0 : Int) (a1 : Int) (r : Int) (w : World) (h : phalaroperef01_tail.f k a0 a1 = some r) :
    Calls Try.prog 96 #[.int .i64 a0, .int .i64 a1] w fun e w' => e = .returned (.int .u8 r) ∧ Drawn0 w w' := by
  have H : (phalaroperef01_tail.l0 k a0 a1 0) = some r := h
  clear h
  have H' := Aside0.mk H
  clear H
  go_enter Try.func96, Try.ntmps96
  go_wp2
  go_loopg [0, 5] k (fun kq v0 v5 w' => ∃ (x0_1 : Int) (x5_1 : Int), v0 = .int .i64 x0_1 ∧ v5 = .int .i64 x5_1 ∧ Aside0 (phalaroperef01_tail.l0 kq x0_1 a1 x5_1 = some r) ∧ Aside0 (kq ≤ k) ∧ Drawn0 w w')
  case atStart => exact ⟨(a0), (0), (by first | rfl | (simp; done) | (simp [*]; done)), (by first | rfl | (simp; done) | (simp [*]; done)), H', ⟨Nat.le_refl _⟩, by repeat (first | exact Drawn0.refl _ | apply Drawn0.step)⟩
  case round =>
    clear H'
    try clear p2
    obtain ⟨x0_1, x5_1, rfl, rfl, HA, HK1, ⟨m1, rfl⟩⟩ := hrel
    cases gk with
    | zero => exact absurd HA.out (by simp [phalaroperef01_tail.l0])
    | succ k1 =>
      have H := HA.out
      clear HA
      simp only [phalaroperef01_tail.l0] at H
      by_cases c3 : x5_1 < a1
      · rw [if_pos c3] at H
        have c3b0 : decide (x5_1 < a1) = true := decide_eq_true c3
        clear c3
        have H' := Aside0.mk H
        clear H
        go_wp2
        go_roundg k1
        case measure => have := HK1.out; omega
        case rel => exact ⟨(wrap64 (Int.tdiv x0_1 64)), (wrap64 (x5_1 + 1)), (by first | rfl | (simp; done) | (simp [*]; done)), (by first | rfl | (simp; done) | (simp [*]; done)), H', ⟨by have := HK1.out; omega⟩, by repeat (first | exact Drawn0.refl _ | apply Drawn0.step)⟩
      · rw [if_neg c3] at H
        have c3b0 : decide (x5_1 < a1) = false := decide_eq_false c3
        clear c3
        obtain rfl := Option.some.inj H
        go_wp2
        go_ret
        exact ⟨by first | rfl | (simp; done) | (simp [*]; done), by repeat (first | exact Drawn0.refl _ | apply Drawn0.step)⟩
def phalaroperef01_One.f (k : Nat) (a0 : Int) : Option (ByteArray) := if a0 < 128 then (some (strOfNums (([(a0) % 256] : List Int)))) else (if a0 < 2048 then ((phalaroperef01_tail.f k a0 0).bind fun t199 => (some (strOfNums (([(wrap64 (192 + (wrap64 (Int.tdiv a0 64)))) % 256, t199] : List Int))))) else (if a0 < 65536 then ((phalaroperef01_tail.f k a0 1).bind fun t203 => ((phalaroperef01_tail.f k a0 0).bind fun t204 => (some (strOfNums (([(wrap64 (224 + (wrap64 (Int.tdiv a0 4096)))) % 256, t203, t204] : List Int)))))) else ((phalaroperef01_tail.f k a0 2).bind fun t208 => ((phalaroperef01_tail.f k a0 1).bind fun t209 => ((phalaroperef01_tail.f k a0 0).bind fun t210 => (some (strOfNums (([(wrap64 (240 + (wrap64 (Int.tdiv a0 262144)))) % 256, t208, t209, t210] : List Int)))))))))
set_option maxHeartbeats 8000000 in
set_option maxRecDepth 100000 in
theorem phalaroperef01_One.calls (k : Nat) (a0 : Int) (r : ByteArray) (w : World) (h : phalaroperef01_One.f k a0 = some r) :
    Calls Try.prog 88 #[.int .i64 a0] w fun e w' => e = .returned (.string r) ∧ Below w.heap.size w w' := by
  have HB := Aside0.mk (Below.refl w.heap.size w)
  have H : (if a0 < 128 then (some (strOfNums (([(a0) % 256] : List Int)))) else (if a0 < 2048 then ((phalaroperef01_tail.f k a0 0).bind fun t199 => (some (strOfNums (([(wrap64 (192 + (wrap64 (Int.tdiv a0 64)))) % 256, t199] : List Int))))) else (if a0 < 65536 then ((phalaroperef01_tail.f k a0 1).bind fun t203 => ((phalaroperef01_tail.f k a0 0).bind fun t204 => (some (strOfNums (([(wrap64 (224 + (wrap64 (Int.tdiv a0 4096)))) % 256, t203, t204] : List Int)))))) else ((phalaroperef01_tail.f k a0 2).bind fun t208 => ((phalaroperef01_tail.f k a0 1).bind fun t209 => ((phalaroperef01_tail.f k a0 0).bind fun t210 => (some (strOfNums (([(wrap64 (240 + (wrap64 (Int.tdiv a0 262144)))) % 256, t208, t209, t210] : List Int)))))))))) = some r := h
  clear h
  by_cases c2 : a0 < 128
  · rw [if_pos c2] at H
    have c2b0 : decide (a0 < 128) = true := decide_eq_true c2
    clear c2
    obtain ⟨y196, hy196⟩ : ∃ y_ : List Int, y_ = (([(a0) % 256] : List Int)) := ⟨_, rfl⟩
    replace H : (some (strOfNums y196)) = some r := by first | (rw [hy196]; with_reducible exact H) | (have H2_ := (Option.bind_some _ _).symm.trans H; rw [hy196]; with_reducible exact H2_) | (have H2_ := (Option.bind_some _ _).symm.trans H; with_reducible exact H2_) | with_reducible exact H | (rw [hy196]; exact H) | exact H
    have Ny196 := Aside0.mk hy196
    clear hy196
    obtain rfl := Option.some.inj H
    go_enter Try.func88, Try.ntmps88
    go_wp2_with (first | ((with_reducible refine gate_dst (N := 7) rfl ?_); refine Kd.R_lit (Kd.int .u8) _ 5 ?hg (N := 7) ?hd (xs := ([(a0) % 256] : List Int)) (inner := [.int .u8 ((a0) % 256)]) (ok := fun _ => True) (okp := fun _ => True) ?hr ?hp (fun _ hk => hk) trivial (Below.refl _ _) (Nat.le_refl _) (by simp) ?_; (case hd => rfl); (case hg => rfl); (case hr => first | (go_simp; done) | (go_simp; rfl)); (case hp => exact (Reps.one (show Kd.M (Kd.int .u8) _ _ _ ((a0) % 256) [.int .u8 ((a0) % 256)] from rfl) (Reps.none _ _))); intro v197 w3 ho4 hb hg_ hnew_; clear hg_ hnew_; (first | rw [← Ny196.out] at ho4 | (simp only [Int.reduceToNat] at ho4; rw [← Ny196.out] at ho4)); have n0_ := Aside0.mk (Kd.R_lower ho4 (below_size (by repeat (first | (with_reducible first | exact HB.out | apply below_alloc | apply pw_below_drewN | apply below_drew1) | exact HB.out)))); have n1_ := Aside0.mk (below_step (by repeat (first | (with_reducible first | exact HB.out | apply below_alloc | apply pw_below_drewN | apply below_drew1) | exact HB.out)) hb); clear HB; have HO198 := n0_; have HB := n1_; clear n0_ n1_; clear hb ho4; have hcv5 := own_string (P := Try.prog) Try.underlying59 Try.underlying5 Try.underlying9 (Kd.own_of_R HO198.out)))
    go_ret
    exact ⟨by first | rfl | (simp [errW_none, errW_some] <;> rfl) | (simp [*, errW_none, errW_some] <;> rfl), by repeat (first | (with_reducible first | exact HB.out | apply below_alloc | apply pw_below_drewN | apply below_drew1) | exact HB.out)⟩
  · rw [if_neg c2] at H
    have c2b0 : decide (a0 < 128) = false := decide_eq_false c2
    clear c2
    by_cases c6 : a0 < 2048
    · rw [if_pos c6] at H
      have c6b0 : decide (a0 < 2048) = true := decide_eq_true c6
      clear c6
      replace H := Option.bind_eq_some_iff.mp H
      obtain ⟨t199, A70, H⟩ := H
      replace H : (some (strOfNums (([(wrap64 (192 + (wrap64 (Int.tdiv a0 64)))) % 256, t199] : List Int)))) = some r := H
      have A7 := Aside0.mk A70
      clear A70
      obtain ⟨y200, hy200⟩ : ∃ y_ : List Int, y_ = (([(wrap64 (192 + (wrap64 (Int.tdiv a0 64)))) % 256, t199] : List Int)) := ⟨_, rfl⟩
      replace H : (some (strOfNums y200)) = some r := by first | (rw [hy200]; with_reducible exact H) | (have H2_ := (Option.bind_some _ _).symm.trans H; rw [hy200]; with_reducible exact H2_) | (have H2_ := (Option.bind_some _ _).symm.trans H; with_reducible exact H2_) | with_reducible exact H | (rw [hy200]; exact H) | exact H
      have Ny200 := Aside0.mk hy200
      clear hy200
      obtain rfl := Option.some.inj H
      go_enter Try.func88, Try.ntmps88
      go_wp2_with (first | ((with_reducible refine gate_callee (f := 96) rfl ?_); refine goesL_ (some 16) rfl rfl Try.func96 (by kernel_rfl) rfl #[.int .i64 a0, .int .i64 0] rfl (by (try simp only [List.map_toArray, List.map_cons, List.map_nil]); first | done | rfl | (simp only [List.length_drop, List.length_take]; rfl)) ?_; (with_reducible refine (phalaroperef01_tail.calls k a0 0 t199 _ A7.out).mono ?_); rintro e w' ⟨rfl, ⟨nd, rfl⟩⟩; refine ⟨_, rfl, ?_⟩) | ((with_reducible refine gate_dst (N := 17) rfl ?_); refine Kd.R_lit (Kd.int .u8) _ 5 ?hg (N := 17) ?hd (xs := ([(wrap64 (192 + (wrap64 (Int.tdiv a0 64)))) % 256, t199] : List Int)) (inner := [.int .u8 ((wrap64 (192 + (wrap64 (Int.tdiv a0 64)))) % 256), .int .u8 t199]) (ok := fun _ => True) (okp := fun _ => True) ?hr ?hp (fun _ hk => hk) trivial (Below.refl _ _) (Nat.le_refl _) (by simp) ?_; (case hd => rfl); (case hg => rfl); (case hr => first | (go_simp; done) | (go_simp; rfl)); (case hp => exact (Reps.one (show Kd.M (Kd.int .u8) _ _ _ ((wrap64 (192 + (wrap64 (Int.tdiv a0 64)))) % 256) [.int .u8 ((wrap64 (192 + (wrap64 (Int.tdiv a0 64)))) % 256)] from rfl) (Reps.one (show Kd.M (Kd.int .u8) _ _ _ t199 [.int .u8 t199] from rfl) (Reps.none _ _)))); intro v201 w8 ho9 hb hg_ hnew_; clear hg_ hnew_; (first | rw [← Ny200.out] at ho9 | (simp only [Int.reduceToNat] at ho9; rw [← Ny200.out] at ho9)); have n0_ := Aside0.mk (Kd.R_lower ho9 (below_size (by repeat (first | (with_reducible first | exact HB.out | apply below_alloc | apply pw_below_drewN | apply below_drew1) | exact HB.out)))); have n1_ := Aside0.mk (below_step (by repeat (first | (with_reducible first | exact HB.out | apply below_alloc | apply pw_below_drewN | apply below_drew1) | exact HB.out)) hb); clear HB; have HO202 := n0_; have HB := n1_; clear n0_ n1_; clear hb ho9; have hcv10 := own_string (P := Try.prog) Try.underlying59 Try.underlying5 Try.underlying9 (Kd.own_of_R HO202.out)))
      go_ret
      exact ⟨by first | rfl | (simp [errW_none, errW_some] <;> rfl) | (simp [*, errW_none, errW_some] <;> rfl), by repeat (first | (with_reducible first | exact HB.out | apply below_alloc | apply pw_below_drewN | apply below_drew1) | exact HB.out)⟩
    · rw [if_neg c6] at H
      have c6b0 : decide (a0 < 2048) = false := decide_eq_false c6
      clear c6
      by_cases c11 : a0 < 65536
      · rw [if_pos c11] at H
        have c11b0 : decide (a0 < 65536) = true := decide_eq_true c11
        clear c11
        replace H := Option.bind_eq_some_iff.mp H
        obtain ⟨t203, A120, H⟩ := H
        replace H : ((phalaroperef01_tail.f k a0 0).bind fun t204 => (some (strOfNums (([(wrap64 (224 + (wrap64 (Int.tdiv a0 4096)))) % 256, t203, t204] : List Int))))) = some r := H
        have A12 := Aside0.mk A120
        clear A120
        replace H := Option.bind_eq_some_iff.mp H
        obtain ⟨t204, A130, H⟩ := H
        replace H : (some (strOfNums (([(wrap64 (224 + (wrap64 (Int.tdiv a0 4096)))) % 256, t203, t204] : List Int)))) = some r := H
        have A13 := Aside0.mk A130
        clear A130
        obtain ⟨y205, hy205⟩ : ∃ y_ : List Int, y_ = (([(wrap64 (224 + (wrap64 (Int.tdiv a0 4096)))) % 256, t203, t204] : List Int)) := ⟨_, rfl⟩
        replace H : (some (strOfNums y205)) = some r := by first | (rw [hy205]; with_reducible exact H) | (have H2_ := (Option.bind_some _ _).symm.trans H; rw [hy205]; with_reducible exact H2_) | (have H2_ := (Option.bind_some _ _).symm.trans H; with_reducible exact H2_) | with_reducible exact H | (rw [hy205]; exact H) | exact H
        have Ny205 := Aside0.mk hy205
        clear hy205
        obtain rfl := Option.some.inj H
        go_enter Try.func88, Try.ntmps88
        go_wp2_with (first | ((with_reducible refine gate_callee (f := 96) rfl ?_); refine goesL_ (some 26) rfl rfl Try.func96 (by kernel_rfl) rfl #[.int .i64 a0, .int .i64 1] rfl (by (try simp only [List.map_toArray, List.map_cons, List.map_nil]); first | done | rfl | (simp only [List.length_drop, List.length_take]; rfl)) ?_; (with_reducible refine (phalaroperef01_tail.calls k a0 1 t203 _ A12.out).mono ?_); rintro e w' ⟨rfl, ⟨nd, rfl⟩⟩; refine ⟨_, rfl, ?_⟩) | ((with_reducible refine gate_callee (f := 96) rfl ?_); refine goesL_ (some 28) rfl rfl Try.func96 (by kernel_rfl) rfl #[.int .i64 a0, .int .i64 0] rfl (by (try simp only [List.map_toArray, List.map_cons, List.map_nil]); first | done | rfl | (simp only [List.length_drop, List.length_take]; rfl)) ?_; (with_reducible refine (phalaroperef01_tail.calls k a0 0 t204 _ A13.out).mono ?_); rintro e w' ⟨rfl, ⟨nd, rfl⟩⟩; refine ⟨_, rfl, ?_⟩) | ((with_reducible refine gate_dst (N := 29) rfl ?_); refine Kd.R_lit (Kd.int .u8) _ 5 ?hg (N := 29) ?hd (xs := ([(wrap64 (224 + (wrap64 (Int.tdiv a0 4096)))) % 256, t203, t204] : List Int)) (inner := [.int .u8 ((wrap64 (224 + (wrap64 (Int.tdiv a0 4096)))) % 256), .int .u8 t203, .int .u8 t204]) (ok := fun _ => True) (okp := fun _ => True) ?hr ?hp (fun _ hk => hk) trivial (Below.refl _ _) (Nat.le_refl _) (by simp) ?_; (case hd => rfl); (case hg => rfl); (case hr => first | (go_simp; done) | (go_simp; rfl)); (case hp => exact (Reps.one (show Kd.M (Kd.int .u8) _ _ _ ((wrap64 (224 + (wrap64 (Int.tdiv a0 4096)))) % 256) [.int .u8 ((wrap64 (224 + (wrap64 (Int.tdiv a0 4096)))) % 256)] from rfl) (Reps.one (show Kd.M (Kd.int .u8) _ _ _ t203 [.int .u8 t203] from rfl) (Reps.one (show Kd.M (Kd.int .u8) _ _ _ t204 [.int .u8 t204] from rfl) (Reps.none _ _))))); intro v206 w14 ho15 hb hg_ hnew_; clear hg_ hnew_; (first | rw [← Ny205.out] at ho15 | (simp only [Int.reduceToNat] at ho15; rw [← Ny205.out] at ho15)); have n0_ := Aside0.mk (Kd.R_lower ho15 (below_size (by repeat (first | (with_reducible first | exact HB.out | apply below_alloc | apply pw_below_drewN | apply below_drew1) | exact HB.out)))); have n1_ := Aside0.mk (below_step (by repeat (first | (with_reducible first | exact HB.out | apply below_alloc | apply pw_below_drewN | apply below_drew1) | exact HB.out)) hb); clear HB; have HO207 := n0_; have HB := n1_; clear n0_ n1_; clear hb ho15; have hcv16 := own_string (P := Try.prog) Try.underlying59 Try.underlying5 Try.underlying9 (Kd.own_of_R HO207.out)))
        go_ret
        exact ⟨by first | rfl | (simp [errW_none, errW_some] <;> rfl) | (simp [*, errW_none, errW_some] <;> rfl), by repeat (first | (with_reducible first | exact HB.out | apply below_alloc | apply pw_below_drewN | apply below_drew1) | exact HB.out)⟩
      · rw [if_neg c11] at H
        have c11b0 : decide (a0 < 65536) = false := decide_eq_false c11
        clear c11
        replace H := Option.bind_eq_some_iff.mp H
        obtain ⟨t208, A170, H⟩ := H
        replace H : ((phalaroperef01_tail.f k a0 1).bind fun t209 => ((phalaroperef01_tail.f k a0 0).bind fun t210 => (some (strOfNums (([(wrap64 (240 + (wrap64 (Int.tdiv a0 262144)))) % 256, t208, t209, t210] : List Int)))))) = some r := H
        have A17 := Aside0.mk A170
        clear A170
        replace H := Option.bind_eq_some_iff.mp H
        obtain ⟨t209, A180, H⟩ := H
        replace H : ((phalaroperef01_tail.f k a0 0).bind fun t210 => (some (strOfNums (([(wrap64 (240 + (wrap64 (Int.tdiv a0 262144)))) % 256, t208, t209, t210] : List Int))))) = some r := H
        have A18 := Aside0.mk A180
        clear A180
        replace H := Option.bind_eq_some_iff.mp H
        obtain ⟨t210, A190, H⟩ := H
        replace H : (some (strOfNums (([(wrap64 (240 + (wrap64 (Int.tdiv a0 262144)))) % 256, t208, t209, t210] : List Int)))) = some r := H
        have A19 := Aside0.mk A190
        clear A190
        obtain ⟨y211, hy211⟩ : ∃ y_ : List Int, y_ = (([(wrap64 (240 + (wrap64 (Int.tdiv a0 262144)))) % 256, t208, t209, t210] : List Int)) := ⟨_, rfl⟩
        replace H : (some (strOfNums y211)) = some r := by first | (rw [hy211]; with_reducible exact H) | (have H2_ := (Option.bind_some _ _).symm.trans H; rw [hy211]; with_reducible exact H2_) | (have H2_ := (Option.bind_some _ _).symm.trans H; with_reducible exact H2_) | with_reducible exact H | (rw [hy211]; exact H) | exact H
        have Ny211 := Aside0.mk hy211
        clear hy211
        obtain rfl := Option.some.inj H
        go_enter Try.func88, Try.ntmps88
        go_wp2_with (first | ((with_reducible refine gate_callee (f := 96) rfl ?_); refine goesL_ (some 36) rfl rfl Try.func96 (by kernel_rfl) rfl #[.int .i64 a0, .int .i64 2] rfl (by (try simp only [List.map_toArray, List.map_cons, List.map_nil]); first | done | rfl | (simp only [List.length_drop, List.length_take]; rfl)) ?_; (with_reducible refine (phalaroperef01_tail.calls k a0 2 t208 _ A17.out).mono ?_); rintro e w' ⟨rfl, ⟨nd, rfl⟩⟩; refine ⟨_, rfl, ?_⟩) | ((with_reducible refine gate_callee (f := 96) rfl ?_); refine goesL_ (some 38) rfl rfl Try.func96 (by kernel_rfl) rfl #[.int .i64 a0, .int .i64 1] rfl (by (try simp only [List.map_toArray, List.map_cons, List.map_nil]); first | done | rfl | (simp only [List.length_drop, List.length_take]; rfl)) ?_; (with_reducible refine (phalaroperef01_tail.calls k a0 1 t209 _ A18.out).mono ?_); rintro e w' ⟨rfl, ⟨nd, rfl⟩⟩; refine ⟨_, rfl, ?_⟩) | ((with_reducible refine gate_callee (f := 96) rfl ?_); refine goesL_ (some 40) rfl rfl Try.func96 (by kernel_rfl) rfl #[.int .i64 a0, .int .i64 0] rfl (by (try simp only [List.map_toArray, List.map_cons, List.map_nil]); first | done | rfl | (simp only [List.length_drop, List.length_take]; rfl)) ?_; (with_reducible refine (phalaroperef01_tail.calls k a0 0 t210 _ A19.out).mono ?_); rintro e w' ⟨rfl, ⟨nd, rfl⟩⟩; refine ⟨_, rfl, ?_⟩) | ((with_reducible refine gate_dst (N := 41) rfl ?_); refine Kd.R_lit (Kd.int .u8) _ 5 ?hg (N := 41) ?hd (xs := ([(wrap64 (240 + (wrap64 (Int.tdiv a0 262144)))) % 256, t208, t209, t210] : List Int)) (inner := [.int .u8 ((wrap64 (240 + (wrap64 (Int.tdiv a0 262144)))) % 256), .int .u8 t208, .int .u8 t209, .int .u8 t210]) (ok := fun _ => True) (okp := fun _ => True) ?hr ?hp (fun _ hk => hk) trivial (Below.refl _ _) (Nat.le_refl _) (by simp) ?_; (case hd => rfl); (case hg => rfl); (case hr => first | (go_simp; done) | (go_simp; rfl)); (case hp => exact (Reps.one (show Kd.M (Kd.int .u8) _ _ _ ((wrap64 (240 + (wrap64 (Int.tdiv a0 262144)))) % 256) [.int .u8 ((wrap64 (240 + (wrap64 (Int.tdiv a0 262144)))) % 256)] from rfl) (Reps.one (show Kd.M (Kd.int .u8) _ _ _ t208 [.int .u8 t208] from rfl) (Reps.one (show Kd.M (Kd.int .u8) _ _ _ t209 [.int .u8 t209] from rfl) (Reps.one (show Kd.M (Kd.int .u8) _ _ _ t210 [.int .u8 t210] from rfl) (Reps.none _ _)))))); intro v212 w20 ho21 hb hg_ hnew_; clear hg_ hnew_; (first | rw [← Ny211.out] at ho21 | (simp only [Int.reduceToNat] at ho21; rw [← Ny211.out] at ho21)); have n0_ := Aside0.mk (Kd.R_lower ho21 (below_size (by repeat (first | (with_reducible first | exact HB.out | apply below_alloc | apply pw_below_drewN | apply below_drew1) | exact HB.out)))); have n1_ := Aside0.mk (below_step (by repeat (first | (with_reducible first | exact HB.out | apply below_alloc | apply pw_below_drewN | apply below_drew1) | exact HB.out)) hb); clear HB; have HO213 := n0_; have HB := n1_; clear n0_ n1_; clear hb ho21; have hcv22 := own_string (P := Try.prog) Try.underlying59 Try.underlying5 Try.underlying9 (Kd.own_of_R HO213.out)))
        go_ret
        exact ⟨by first | rfl | (simp [errW_none, errW_some] <;> rfl) | (simp [*, errW_none, errW_some] <;> rfl), by repeat (first | (with_reducible first | exact HB.out | apply below_alloc | apply pw_below_drewN | apply below_drew1) | exact HB.out)⟩
end Go.Proofs.Ytbjeegkmafbejaa.PE
end
section
namespace Go.Proofs.Ytbjeegkmafbejaa.PE
open Go.RowKit Go.Proofs.YtbjeegkmafbejaaW.PrintWords Go.Proofs.YtbjeegkmafbejaaW.PrintLast Go.Proofs.YtbjeegkmafbejaaW.PrintMore
attribute [local go_sem] max2_int min2_int max_two min_two max_three min_three max_four min_four   -- for this text's walks alone
set_option linter.unusedVariables false
set_option linter.unusedSimpArgs false
mutual
def phalaroperef01_First.l0 : Nat → ByteArray → Int → Int → Option (Int × Int)
  | 0, _, _, _ => none
  | k + 1, x0, x4, x5 => if x5 ≤ 4 then (phalaroperef01_First.j1 k x0 x4 x5 (decide (x5 ≤ (x0.size : Int)))) else (phalaroperef01_First.j1 k x0 x4 x5 false)
def phalaroperef01_First.j1 : Nat → ByteArray → Int → Int → Bool → Option (Int × Int)
  | 0, _, _, _, _ => none
  | k + 1, x0, x4, x5, x14 => if x14 = true then (if 0 ≤ (wrap64 (x5 - 1)) then (if (wrap64 (x5 - 1)) < (x0.size : Int) then (if x5 = 1 then (if (wrap64 (bt x0 (wrap64 (x5 - 1)))) ≥ 192 then (phalaroperef01_First.j2 k x0 (wrap64 ((wrap64 (bt x0 (wrap64 (x5 - 1)))) - 192)) x5 (wrap64 (bt x0 (wrap64 (x5 - 1))))) else (phalaroperef01_First.j2 k x0 (wrap64 (bt x0 (wrap64 (x5 - 1)))) x5 (wrap64 (bt x0 (wrap64 (x5 - 1)))))) else (phalaroperef01_First.j3 k x0 (wrap64 ((wrap64 (64 * x4)) + (Int.tmod (wrap64 (bt x0 (wrap64 (x5 - 1)))) 64))) x5)) else (none)) else (none)) else (some (0, 0))
def phalaroperef01_First.j3 : Nat → ByteArray → Int → Int → Option (Int × Int)
  | 0, _, _, _ => none
  | k + 1, x0, x4, x5 => (phalaroperef01_May.f x4).bind fun t214 => (if t214 = true then ((phalaroperef01_One.f k x4).bind fun t215 => (if 0 ≤ x5 then (if x5 ≤ (x0.size : Int) then (if t215.toList = (x0.extract 0 (x5 : Int).toNat).toList then (some (x4, x5)) else (phalaroperef01_First.l0 k x0 x4 (wrap64 (x5 + 1)))) else (none)) else (none))) else (phalaroperef01_First.l0 k x0 x4 (wrap64 (x5 + 1))))
def phalaroperef01_First.j2 : Nat → ByteArray → Int → Int → Int → Option (Int × Int)
  | 0, _, _, _, _ => none
  | k + 1, x0, x4, x5, x6 => if x6 ≥ 224 then (if x6 ≥ 240 then (phalaroperef01_First.j3 k x0 (wrap64 (x6 - 240)) x5) else (phalaroperef01_First.j3 k x0 (wrap64 (x6 - 224)) x5)) else (if x6 ≥ 240 then (phalaroperef01_First.j3 k x0 (wrap64 (x6 - 240)) x5) else (phalaroperef01_First.j3 k x0 x4 x5))
end
def phalaroperef01_First.f (k : Nat) (a0 : ByteArray) : Option (Int × Int) := phalaroperef01_First.l0 k a0 0 1
def phalaroperef01_First.T15 : Bool × List (List Nat × List Nat) := (true, [([], []), ([0], [0]), ([1, 1], [1]), ([2], [2]), ([3, 2, 2], [2, 3]), ([2], [2]), ([2], [2]), ([5, 6, 2], [2, 5, 6]), ([4, 7, 2], [2, 4, 7]), ([2, 8], [2, 8])])
def phalaroperef01_First.B15 : List Nat := [0, 1, 3, 7, 15, 7, 7, 103, 255, 511]
theorem phalaroperef01_First.tab15 : rtab .any (opsOf Try.f76 15) = phalaroperef01_First.T15 := by kernel_rfl
theorem phalaroperef01_First.bits15 : waitsOk phalaroperef01_First.T15.2 phalaroperef01_First.B15 = true := by kernel_rfl
set_option maxHeartbeats 8000000 in
set_option maxRecDepth 100000 in
theorem phalaroperef01_First.calls (k : Nat) (a0 : ByteArray) (r1 : Int) (r2 : Int) (w : World) (h : phalaroperef01_First.f k a0 = some (r1, r2)) :
    Calls Try.prog 76 #[.string a0] w fun e w' => e = .returned (.tuple #[.int .i64 r1, .int .i64 r2]) ∧ Below w.heap.size w w' := by
  have HB := Aside0.mk (Below.refl w.heap.size w)
  have H : (phalaroperef01_First.l0 k a0 0 1) = some (r1, r2) := h
  clear h
  have H' := Aside0.mk H
  clear H
  go_enter Try.func76, Try.ntmps76
  go_wp2
  go_loopg [4, 5] k (fun kq v4 v5 w' => ∃ (x4_1 : Int) (x5_1 : Int), v4 = .int .i64 x4_1 ∧ v5 = .int .i64 x5_1 ∧ Aside0 (phalaroperef01_First.l0 kq a0 x4_1 x5_1 = some (r1, r2)) ∧ Aside0 (kq ≤ k) ∧ Aside0 (Below w.heap.size w w'))
  case atStart => exact ⟨(0), (1), (by first | rfl | (simp; done) | (simp [*]; done)), (by first | rfl | (simp; done) | (simp [*]; done)), H', ⟨Nat.le_refl _⟩, ⟨by repeat (first | (with_reducible first | exact HB.out | apply below_alloc | apply pw_below_drewN | apply below_drew1) | exact HB.out)⟩⟩
  case round =>
    clear H'
    obtain ⟨x4_1, x5_1, rfl, rfl, HA, HK1, HB⟩ := hrel
    cases gk with
    | zero => exact absurd HA.out (by simp [phalaroperef01_First.l0])
    | succ k1 =>
      have H := HA.out
      clear HA
      simp only [phalaroperef01_First.l0] at H
      have HC2 := Aside0.mk H
      clear H
      go_upto_region 3 with (fail)
      go_cut [14] (fun v14 wc => ∃ (kq : Nat) (x14_1 : Bool), v14 = .bool x14_1 ∧ Aside0 (phalaroperef01_First.j1 kq a0 x4_1 x5_1 x14_1 = some (r1, r2)) ∧ Aside0 (kq ≤ k1) ∧ Aside0 (Below w.heap.size w wc))
      case first =>
        have H := HC2.out
        clear HC2
        by_cases c3 : x5_1 ≤ 4
        · rw [if_pos c3] at H
          have c3b0 : decide (x5_1 ≤ 4) = true := decide_eq_true c3
          clear c3
          (first | rw [c3b0] | (simp only [i64_w, i32_w]; rw [c3b0]) | skip)
          have H' := Aside0.mk H
          clear H
          go_wp2
          go_meet
          case rel => exact ⟨_, (decide (x5_1 ≤ (a0.size : Int))), (by first | rfl | (simp; done) | (simp [*]; done)), H', ⟨by have := HK1.out; first | omega | exact Nat.le_refl _⟩, ⟨by repeat (first | (with_reducible first | exact HB.out | apply below_alloc | apply pw_below_drewN | apply below_drew1) | exact HB.out)⟩⟩
        · rw [if_neg c3] at H
          have c3b0 : decide (x5_1 ≤ 4) = false := decide_eq_false c3
          clear c3
          (first | rw [c3b0] | (simp only [i64_w, i32_w]; rw [c3b0]) | skip)
          have H' := Aside0.mk H
          clear H
          go_wp2
          go_meet
          case rel => exact ⟨_, (false), (by first | rfl | (simp; done) | (simp [*]; done)), H', ⟨by have := HK1.out; first | omega | exact Nat.le_refl _⟩, ⟨by repeat (first | (with_reducible first | exact HB.out | apply below_alloc | apply pw_below_drewN | apply below_drew1) | exact HB.out)⟩⟩
      case rest =>
        clear HC2
        try clear p2
        try clear c3
        try clear c3b0
        obtain ⟨kq, x14_1, rfl, HA, HJ1, HB⟩ := hcut
        cases kq with
        | zero => exact absurd HA.out (by simp [phalaroperef01_First.j1])
        | succ kj1 =>
          have H := HA.out
          clear HA
          simp only [phalaroperef01_First.j1] at H
          by_cases c4 : x14_1 = true
          · subst c4
            have H1 : (if 0 ≤ (wrap64 (x5_1 - 1)) then (if (wrap64 (x5_1 - 1)) < (a0.size : Int) then (if x5_1 = 1 then (if (wrap64 (bt a0 (wrap64 (x5_1 - 1)))) ≥ 192 then (phalaroperef01_First.j2 kj1 a0 (wrap64 ((wrap64 (bt a0 (wrap64 (x5_1 - 1)))) - 192)) x5_1 (wrap64 (bt a0 (wrap64 (x5_1 - 1))))) else (phalaroperef01_First.j2 kj1 a0 (wrap64 (bt a0 (wrap64 (x5_1 - 1)))) x5_1 (wrap64 (bt a0 (wrap64 (x5_1 - 1)))))) else (phalaroperef01_First.j3 kj1 a0 (wrap64 ((wrap64 (64 * x4_1)) + (Int.tmod (wrap64 (bt a0 (wrap64 (x5_1 - 1)))) 64))) x5_1)) else (none)) else (none)) = some (r1, r2) := by rw [if_pos rfl] at H; exact H
            clear H
            have H := H1
            clear H1
            obtain ⟨ji5, hji5⟩ : ∃ j_ : Int, (wrap64 (x5_1 - 1)) = j_ := ⟨_, rfl⟩
            replace H : (if 0 ≤ (ji5) then (if (ji5) < (a0.size : Int) then (if x5_1 = 1 then (if (wrap64 (bt a0 (ji5))) ≥ 192 then (phalaroperef01_First.j2 kj1 a0 (wrap64 ((wrap64 (bt a0 (ji5))) - 192)) x5_1 (wrap64 (bt a0 (ji5)))) else (phalaroperef01_First.j2 kj1 a0 (wrap64 (bt a0 (ji5))) x5_1 (wrap64 (bt a0 (ji5))))) else (phalaroperef01_First.j3 kj1 a0 (wrap64 ((wrap64 (64 * x4_1)) + (Int.tmod (wrap64 (bt a0 (ji5))) 64))) x5_1)) else (none)) else (none)) = some (r1, r2) := by first | (rw [hji5] at H; exact H) | (simp only [hji5] at H ⊢; exact H)
            have hji5w : (IntKind.i64.wrap (x5_1 - 1)) = ji5 := (i64_w _).trans hji5
            by_cases c6 : 0 ≤ (ji5)
            · rw [if_pos c6] at H
              have c6b0 : decide (0 ≤ (ji5)) = true := decide_eq_true c6
              clear c6
              by_cases c7 : (ji5) < (a0.size : Int)
              · rw [if_pos c7] at H
                have c7b0 : decide ((ji5) < (a0.size : Int)) = true := decide_eq_true c7
                clear c7
                have HC9 := Aside0.mk H
                clear H
                have p8 : 0 ≤ ((ji5) : Int) := of_decide_eq_true (by first | (with_reducible assumption) | assumption)
                have q8 : (ji5) < (a0.size : Int) := of_decide_eq_true (by first | (with_reducible assumption) | assumption)
                have hx8 := bt_at a0 (ji5)
                replace p8 := eq_true p8
                replace q8 := eq_true q8
                go_upto_if 23 with (fail)
                go_cut [4] (fun v4 wc => ∃ (kq : Nat) (x4_8 : Int), v4 = .int .i64 x4_8 ∧ Aside0 (phalaroperef01_First.j3 kq a0 x4_8 x5_1 = some (r1, r2)) ∧ Aside0 (kq ≤ kj1) ∧ Aside0 (Below w.heap.size w wc))
                case first =>
                  have H := HC9.out
                  clear HC9
                  by_cases c10 : x5_1 = 1
                  · rw [if_pos c10] at H
                    have c10b0 : (x5_1 == 1) = true := beq_iff_eq.mpr c10
                    have c10b1 : (x5_1 != 1) = false := bne_eq_false_iff_eq.mpr c10
                    clear c10
                    (first | rw [c10b0] | (simp only [i64_w, i32_w]; rw [c10b0]) | skip)
                    have HC11 := Aside0.mk H
                    clear H
                    go_upto_if 26 with (fail)
                    go_cut [4] (fun v4 wc => ∃ (kq : Nat) (x4_10 : Int), v4 = .int .i64 x4_10 ∧ Aside0 (phalaroperef01_First.j2 kq a0 x4_10 x5_1 (wrap64 (bt a0 (ji5))) = some (r1, r2)) ∧ Aside0 (kq ≤ kj1) ∧ Aside0 (Below w.heap.size w wc))
                    case first =>
                      have H := HC11.out
                      clear HC11
                      by_cases c12 : (wrap64 (bt a0 (ji5))) ≥ 192
                      · rw [if_pos c12] at H
                        have c12b0 : decide (192 ≤ (wrap64 (bt a0 (ji5)))) = true := decide_eq_true c12
                        clear c12
                        (first | rw [c12b0] | (simp only [i64_w, i32_w]; rw [c12b0]) | skip)
                        have H' := Aside0.mk H
                        clear H
                        go_wp2
                        go_meet
                        case rel => exact ⟨_, (wrap64 ((wrap64 (bt a0 (ji5))) - 192)), (by first | rfl | (simp; done) | (simp only [← hji5] <;> (first | rfl | simp)) | (simp [*]; done)), H', ⟨by have := HK1.out; have := HJ1.out; first | omega | exact Nat.le_refl _⟩, ⟨by repeat (first | (with_reducible first | exact HB.out | apply below_alloc | apply pw_below_drewN | apply below_drew1) | exact HB.out)⟩⟩
                      · rw [if_neg c12] at H
                        have c12b0 : decide (192 ≤ (wrap64 (bt a0 (ji5)))) = false := decide_eq_false c12
                        clear c12
                        (first | rw [c12b0] | (simp only [i64_w, i32_w]; rw [c12b0]) | skip)
                        have H' := Aside0.mk H
                        clear H
                        go_wp2
                        go_meet
                        case rel => exact ⟨_, (wrap64 (bt a0 (ji5))), (by first | rfl | (simp; done) | (simp only [← hji5] <;> (first | rfl | simp)) | (simp [*]; done)), H', ⟨by have := HK1.out; have := HJ1.out; first | omega | exact Nat.le_refl _⟩, ⟨by repeat (first | (with_reducible first | exact HB.out | apply below_alloc | apply pw_below_drewN | apply below_drew1) | exact HB.out)⟩⟩
                    case rest =>
                      clear HC11
                      try clear c1
                      try clear p2
                      try clear c3
                      try clear c3b0
                      try clear c4
                      try clear c6
                      try clear c6b0
                      try clear p6
                      try clear c7
                      try clear c7b0
                      try clear p8
                      try clear q8
                      try clear hx8
                      try clear c10
                      try clear c10b0
                      try clear c10b1
                      try clear c12
                      try clear c12b0
                      try clear p2
                      try clear p8
                      try clear q8
                      obtain ⟨kq, x4_10, rfl, HA, HJ10, HB⟩ := hcut
                      cases kq with
                      | zero => exact absurd HA.out (by simp [phalaroperef01_First.j2])
                      | succ kj10 =>
                        have H := HA.out
                        clear HA
                        simp only [phalaroperef01_First.j2] at H
                        by_cases c13 : (wrap64 (bt a0 (ji5))) ≥ 224
                        · rw [if_pos c13] at H
                          have c13b0 : decide (224 ≤ (wrap64 (bt a0 (ji5)))) = true := decide_eq_true c13
                          clear c13
                          by_cases c14 : (wrap64 (bt a0 (ji5))) ≥ 240
                          · rw [if_pos c14] at H
                            have c14b0 : decide (240 ≤ (wrap64 (bt a0 (ji5)))) = true := decide_eq_true c14
                            clear c14
                            have H' := Aside0.mk H
                            clear H
                            go_wp2
                            go_meet
                            case rel => exact ⟨_, (wrap64 ((wrap64 (bt a0 (ji5))) - 240)), (by first | rfl | (simp; done) | (simp only [← hji5] <;> (first | rfl | simp)) | (simp [*]; done)), H', ⟨by have := HK1.out; have := HJ1.out; have := HJ10.out; first | omega | exact Nat.le_refl _⟩, ⟨by repeat (first | (with_reducible first | exact HB.out | apply below_alloc | apply pw_below_drewN | apply below_drew1) | exact HB.out)⟩⟩
                          · rw [if_neg c14] at H
                            have c14b0 : decide (240 ≤ (wrap64 (bt a0 (ji5)))) = false := decide_eq_false c14
                            clear c14
                            have H' := Aside0.mk H
                            clear H
                            go_wp2
                            go_meet
                            case rel => exact ⟨_, (wrap64 ((wrap64 (bt a0 (ji5))) - 224)), (by first | rfl | (simp; done) | (simp only [← hji5] <;> (first | rfl | simp)) | (simp [*]; done)), H', ⟨by have := HK1.out; have := HJ1.out; have := HJ10.out; first | omega | exact Nat.le_refl _⟩, ⟨by repeat (first | (with_reducible first | exact HB.out | apply below_alloc | apply pw_below_drewN | apply below_drew1) | exact HB.out)⟩⟩
                        · rw [if_neg c13] at H
                          have c13b0 : decide (224 ≤ (wrap64 (bt a0 (ji5)))) = false := decide_eq_false c13
                          clear c13
                          by_cases c15 : (wrap64 (bt a0 (ji5))) ≥ 240
                          · rw [if_pos c15] at H
                            have c15b0 : decide (240 ≤ (wrap64 (bt a0 (ji5)))) = true := decide_eq_true c15
                            clear c15
                            have H' := Aside0.mk H
                            clear H
                            go_wp2
                            go_meet
                            case rel => exact ⟨_, (wrap64 ((wrap64 (bt a0 (ji5))) - 240)), (by first | rfl | (simp; done) | (simp only [← hji5] <;> (first | rfl | simp)) | (simp [*]; done)), H', ⟨by have := HK1.out; have := HJ1.out; have := HJ10.out; first | omega | exact Nat.le_refl _⟩, ⟨by repeat (first | (with_reducible first | exact HB.out | apply below_alloc | apply pw_below_drewN | apply below_drew1) | exact HB.out)⟩⟩
                          · rw [if_neg c15] at H
                            have c15b0 : decide (240 ≤ (wrap64 (bt a0 (ji5)))) = false := decide_eq_false c15
                            clear c15
                            have H' := Aside0.mk H
                            clear H
                            go_wp2
                            go_meet
                            case rel => exact ⟨_, (x4_10), (by first | rfl | (simp; done) | (simp [*]; done)), H', ⟨by have := HK1.out; have := HJ1.out; have := HJ10.out; first | omega | exact Nat.le_refl _⟩, ⟨by repeat (first | (with_reducible first | exact HB.out | apply below_alloc | apply pw_below_drewN | apply below_drew1) | exact HB.out)⟩⟩
                  · rw [if_neg c10] at H
                    have c10b0 : (x5_1 == 1) = false := beq_eq_false_iff_ne.mpr c10
                    have c10b1 : (x5_1 != 1) = true := bne_iff_ne.mpr c10
                    (first | rw [c10b0] | (simp only [i64_w, i32_w]; rw [c10b0]) | skip)
                    have H' := Aside0.mk H
                    clear H
                    go_wp2
                    go_meet
                    case rel => exact ⟨_, (wrap64 ((wrap64 (64 * x4_1)) + (Int.tmod (wrap64 (bt a0 (ji5))) 64))), (by first | rfl | (simp; done) | (simp only [← hji5] <;> (first | rfl | simp)) | (simp [*]; done)), H', ⟨by have := HK1.out; have := HJ1.out; first | omega | exact Nat.le_refl _⟩, ⟨by repeat (first | (with_reducible first | exact HB.out | apply below_alloc | apply pw_below_drewN | apply below_drew1) | exact HB.out)⟩⟩
                case rest =>
                  clear HC9
                  try clear c1
                  try clear p2
                  try clear c3
                  try clear c3b0
                  try clear c4
                  try clear c6
                  try clear c6b0
                  try clear p6
                  try clear c7
                  try clear c7b0
                  try clear p8
                  try clear q8
                  try clear hx8
                  try clear c10
                  try clear c10b0
                  try clear c10b1
                  try clear c12
                  try clear c12b0
                  try clear c13
                  try clear c13b0
                  try clear c14
                  try clear c14b0
                  try clear c15
                  try clear c15b0
                  try clear p2
                  try clear p6
                  try clear p8
                  try clear q8
                  obtain ⟨kq, x4_8, rfl, HA, HJ8, HB⟩ := hcut
                  cases kq with
                  | zero => exact absurd HA.out (by simp [phalaroperef01_First.j3])
                  | succ kj8 =>
                    have H := HA.out
                    clear HA
                    simp only [phalaroperef01_First.j3] at H
                    replace H := Option.bind_eq_some_iff.mp H
                    obtain ⟨t214, A160, H⟩ := H
                    replace H : (if t214 = true then ((phalaroperef01_One.f kj8 x4_8).bind fun t215 => (if 0 ≤ x5_1 then (if x5_1 ≤ (a0.size : Int) then (if t215.toList = (a0.extract 0 (x5_1 : Int).toNat).toList then (some (x4_8, x5_1)) else (phalaroperef01_First.l0 kj8 a0 x4_8 (wrap64 (x5_1 + 1)))) else (none)) else (none))) else (phalaroperef01_First.l0 kj8 a0 x4_8 (wrap64 (x5_1 + 1)))) = some (r1, r2) := H
                    have A16 := Aside0.mk A160
                    clear A160
                    by_cases c17 : t214 = true
                    · subst c17
                      have H1 : ((phalaroperef01_One.f kj8 x4_8).bind fun t215 => (if 0 ≤ x5_1 then (if x5_1 ≤ (a0.size : Int) then (if t215.toList = (a0.extract 0 (x5_1 : Int).toNat).toList then (some (x4_8, x5_1)) else (phalaroperef01_First.l0 kj8 a0 x4_8 (wrap64 (x5_1 + 1)))) else (none)) else (none))) = some (r1, r2) := by rw [if_pos rfl] at H; exact H
                      clear H
                      have H := H1
                      clear H1
                      replace H := Option.bind_eq_some_iff.mp H
                      obtain ⟨t215, A180, H⟩ := H
                      replace H : (if 0 ≤ x5_1 then (if x5_1 ≤ (a0.size : Int) then (if t215.toList = (a0.extract 0 (x5_1 : Int).toNat).toList then (some (x4_8, x5_1)) else (phalaroperef01_First.l0 kj8 a0 x4_8 (wrap64 (x5_1 + 1)))) else (none)) else (none)) = some (r1, r2) := H
                      have A18 := Aside0.mk A180
                      clear A180
                      by_cases c19 : 0 ≤ x5_1
                      · rw [if_pos c19] at H
                        have c19b0 := eq_true c19
                        have c19b1 : decide (0 ≤ x5_1) = true := decide_eq_true c19
                        clear c19
                        by_cases c20 : x5_1 ≤ (a0.size : Int)
                        · rw [if_pos c20] at H
                          have c20b0 := eq_true c20
                          have c20b1 : decide (x5_1 ≤ (a0.size : Int)) = true := decide_eq_true c20
                          clear c20
                          by_cases c21 : t215.toList = (a0.extract 0 (x5_1 : Int).toNat).toList
                          · rw [if_pos c21] at H
                            have c21b0 : (t215.toList == (a0.extract 0 (x5_1 : Int).toNat).toList) = true := beq_iff_eq.mpr c21
                            have c21b1 : (t215.toList != (a0.extract 0 (x5_1 : Int).toNat).toList) = false := bne_eq_false_iff_eq.mpr c21
                            clear c21
                            simp only [Option.some.injEq, Prod.mk.injEq] at H
                            obtain ⟨rfl, rfl⟩ := H
                            try go_wp2
                            have n0_ := Aside0.mk (below_drew1 HB.out)
                            clear HB
                            have HB := n0_
                            clear n0_
                            refine start_ (n := 10) (S := fun w' => True) (ds := []) #[false, false, false, false, false, false, false, false, false, false] (by kernel_rfl) rfl rfl trivial (fun hHeld => ?_); refine with_tabW phalaroperef01_First.tab15 phalaroperef01_First.bits15 (fun HT_ HW_ => ?_)
                            generalize wc.drew = w22 at HB hHeld ⊢
                            refine pure_ (i := 0) (N := some 42) (v := ?_) (a' := ?_) #[true, false, false, false, false, false, false, false, false, false] rfl rfl (any_of HT_.out (by kernel_rfl)) (fun _ _ _ h => h) (Or.inl ⟨by rfl, ?_⟩) ?_ ?_
                            rotate_left
                            · intro w'
                              go_simp
                              with_reducible rfl
                            rotate_left
                            · simp only [Act.put, List.setIfInBounds_toArray, List.set_cons_zero, List.set_cons_succ, i64_w, i32_w]
                              rfl
                            refine one_ (i := 1) (N := some 43) #[true, true, false, false, false, false, false, false, false, false] rfl rfl (one_of HT_.out (by kernel_rfl)) (by decide) (fun K hK => ?_)
                            refine goes_ Try.func87 (by kernel_rfl) rfl #[.int .i64 x4_8] (by rfl) rfl rfl (by (try simp only [List.map_toArray, List.map_cons, List.map_nil]); first | done | rfl | (simp only [List.length_drop, List.length_take]; rfl)) ?_
                            with_reducible refine (phalaroperef01_May.calls x4_8 true _ A16.out).mono ?_
                            rintro e w' ⟨rfl, ⟨nd, rfl⟩⟩
                            refine ⟨_, rfl, ?_⟩
                            refine hK.out _ _ trivial (fun hHeld => ?_)
                            clear hK K
                            refine norm_ (a' := ?_) ?_ ?_
                            rotate_left
                            · show Act.put _ (some 43) _ = _
                              simp only [Act.put, List.setIfInBounds_toArray, List.set_cons_zero, List.set_cons_succ, i64_w, i32_w]
                              rfl
                            refine pure_ (i := 2) (N := some 44) (v := ?_) (a' := ?_) #[true, true, true, false, false, false, false, false, false, false] rfl rfl (any_of HT_.out (by kernel_rfl)) (fun _ _ _ h => h) (Or.inl ⟨by rfl, ?_⟩) ?_ ?_
                            rotate_left
                            · intro w'
                              go_simp
                              with_reducible rfl
                            rotate_left
                            · simp only [Act.put, List.setIfInBounds_toArray, List.set_cons_zero, List.set_cons_succ, i64_w, i32_w]
                              rfl
                            refine pure_ (i := 3) (N := some 45) (v := ?_) (a' := ?_) #[true, true, true, true, false, false, false, false, false, false] rfl rfl (any_of HT_.out (by kernel_rfl)) (fun _ _ _ h => h) (Or.inl ⟨by rfl, ?_⟩) ?_ ?_
                            rotate_left
                            · intro w'
                              go_simp
                              with_reducible rfl
                            rotate_left
                            · simp only [Act.put, List.setIfInBounds_toArray, List.set_cons_zero, List.set_cons_succ, i64_w, i32_w]
                              rfl
                            refine pure_ (i := 5) (N := some 47) (v := ?_) (a' := ?_) #[true, true, true, true, false, true, false, false, false, false] rfl rfl (any_of HT_.out (by kernel_rfl)) (fun _ _ _ h => h) (Or.inl ⟨by rfl, ?_⟩) ?_ ?_
                            rotate_left
                            · intro w'
                              go_simp
                              with_reducible rfl
                            rotate_left
                            · simp only [Act.put, List.setIfInBounds_toArray, List.set_cons_zero, List.set_cons_succ, i64_w, i32_w]
                              rfl
                            refine pure_ (i := 6) (N := some 48) (v := ?_) (a' := ?_) #[true, true, true, true, false, true, true, false, false, false] rfl rfl (any_of HT_.out (by kernel_rfl)) (fun _ _ _ h => h) (Or.inl ⟨by rfl, ?_⟩) ?_ ?_
                            rotate_left
                            · intro w'
                              go_simp
                              with_reducible rfl
                            rotate_left
                            · simp only [Act.put, List.setIfInBounds_toArray, List.set_cons_zero, List.set_cons_succ, i64_w, i32_w]
                              rfl
                            refine pure_ (i := 7) (N := some 49) (v := ?_) (a' := ?_) #[true, true, true, true, false, true, true, true, false, false] rfl rfl (any_of HT_.out (by kernel_rfl)) (fun _ _ _ h => h) (Or.inl ⟨by rfl, ?_⟩) ?_ ?_
                            rotate_left
                            · intro w'
                              go_simp
                              with_reducible rfl
                            rotate_left
                            · simp only [Act.put, List.setIfInBounds_toArray, List.set_cons_zero, List.set_cons_succ, i64_w, i32_w]
                              rfl
                            refine one_ (i := 4) (N := some 46) #[true, true, true, true, true, true, true, true, false, false] rfl rfl (one_of HT_.out (by kernel_rfl)) (by decide) (fun K hK => ?_)
                            refine goes_ Try.func88 (by kernel_rfl) rfl #[.int .i64 x4_8] (by rfl) rfl rfl (by (try simp only [List.map_toArray, List.map_cons, List.map_nil]); first | done | rfl | (simp only [List.length_drop, List.length_take]; rfl)) ?_
                            with_reducible refine (phalaroperef01_One.calls kj8 x4_8 t215 _ A18.out).mono ?_
                            rintro e w23 ⟨rfl, hb⟩
                            refine ⟨_, rfl, ?_⟩
                            have n0_ := Aside0.mk (below_step (by repeat (first | (with_reducible first | exact HB.out | apply below_alloc | apply pw_below_drewN | apply below_drew1) | exact HB.out)) hb)
                            clear HB
                            have HB := n0_
                            clear n0_
                            (try clear hb)
                            (try clear hb2)
                            (try clear hk)
                            (try clear hi)
                            refine hK.out _ _ trivial (fun hHeld => ?_)
                            clear hK K
                            refine norm_ (a' := ?_) ?_ ?_
                            rotate_left
                            · show Act.put _ (some 46) _ = _
                              simp only [Act.put, List.setIfInBounds_toArray, List.set_cons_zero, List.set_cons_succ, i64_w, i32_w]
                              rfl
                            refine pure_ (i := 8) (N := some 50) (v := ?_) (a' := ?_) #[true, true, true, true, true, true, true, true, true, false] rfl rfl (any_of HT_.out (by kernel_rfl)) (fun _ _ _ h => h) (Or.inl ⟨by rfl, ?_⟩) ?_ ?_
                            rotate_left
                            · intro w'
                              go_simp
                              with_reducible rfl
                            rotate_left
                            · simp only [Act.put, List.setIfInBounds_toArray, List.set_cons_zero, List.set_cons_succ, i64_w, i32_w]
                              rfl
                            refine pure_ (i := 9) (N := some 51) (v := ?_) (a' := ?_) #[true, true, true, true, true, true, true, true, true, true] rfl rfl (any_of HT_.out (by kernel_rfl)) (fun _ _ _ h => h) (Or.inl ⟨by rfl, ?_⟩) ?_ ?_
                            rotate_left
                            · intro w'
                              go_simp
                              with_reducible rfl
                            rotate_left
                            · simp only [Act.put, List.setIfInBounds_toArray, List.set_cons_zero, List.set_cons_succ, i64_w, i32_w]
                              rfl
                            refine done_ (done_of HT_.out (by kernel_rfl)) ?_
                            try go_wp2
                            go_ret2
                            exact ⟨by first | rfl | (simp [errW_none, errW_some] <;> rfl) | (simp only [← hji5]; first | rfl | (simp [errW_none, errW_some] <;> rfl)) | (simp [*, errW_none, errW_some] <;> rfl), by repeat (first | (with_reducible first | exact HB.out | apply below_alloc | apply pw_below_drewN | apply below_drew1) | exact HB.out)⟩
                          · rw [if_neg c21] at H
                            have c21b0 : (t215.toList == (a0.extract 0 (x5_1 : Int).toNat).toList) = false := beq_eq_false_iff_ne.mpr c21
                            have c21b1 : (t215.toList != (a0.extract 0 (x5_1 : Int).toNat).toList) = true := bne_iff_ne.mpr c21
                            have H' := Aside0.mk H
                            clear H
                            try go_wp2
                            have n0_ := Aside0.mk (below_drew1 HB.out)
                            clear HB
                            have HB := n0_
                            clear n0_
                            refine start_ (n := 10) (S := fun w' => True) (ds := []) #[false, false, false, false, false, false, false, false, false, false] (by kernel_rfl) rfl rfl trivial (fun hHeld => ?_); refine with_tabW phalaroperef01_First.tab15 phalaroperef01_First.bits15 (fun HT_ HW_ => ?_)
                            generalize wc.drew = w24 at HB hHeld ⊢
                            refine pure_ (i := 0) (N := some 42) (v := ?_) (a' := ?_) #[true, false, false, false, false, false, false, false, false, false] rfl rfl (any_of HT_.out (by kernel_rfl)) (fun _ _ _ h => h) (Or.inl ⟨by rfl, ?_⟩) ?_ ?_
                            rotate_left
                            · intro w'
                              go_simp
                              with_reducible rfl
                            rotate_left
                            · simp only [Act.put, List.setIfInBounds_toArray, List.set_cons_zero, List.set_cons_succ, i64_w, i32_w]
                              rfl
                            refine one_ (i := 1) (N := some 43) #[true, true, false, false, false, false, false, false, false, false] rfl rfl (one_of HT_.out (by kernel_rfl)) (by decide) (fun K hK => ?_)
                            refine goes_ Try.func87 (by kernel_rfl) rfl #[.int .i64 x4_8] (by rfl) rfl rfl (by (try simp only [List.map_toArray, List.map_cons, List.map_nil]); first | done | rfl | (simp only [List.length_drop, List.length_take]; rfl)) ?_
                            with_reducible refine (phalaroperef01_May.calls x4_8 true _ A16.out).mono ?_
                            rintro e w' ⟨rfl, ⟨nd, rfl⟩⟩
                            refine ⟨_, rfl, ?_⟩
                            refine hK.out _ _ trivial (fun hHeld => ?_)
                            clear hK K
                            refine norm_ (a' := ?_) ?_ ?_
                            rotate_left
                            · show Act.put _ (some 43) _ = _
                              simp only [Act.put, List.setIfInBounds_toArray, List.set_cons_zero, List.set_cons_succ, i64_w, i32_w]
                              rfl
                            refine pure_ (i := 2) (N := some 44) (v := ?_) (a' := ?_) #[true, true, true, false, false, false, false, false, false, false] rfl rfl (any_of HT_.out (by kernel_rfl)) (fun _ _ _ h => h) (Or.inl ⟨by rfl, ?_⟩) ?_ ?_
                            rotate_left
                            · intro w'
                              go_simp
                              with_reducible rfl
                            rotate_left
                            · simp only [Act.put, List.setIfInBounds_toArray, List.set_cons_zero, List.set_cons_succ, i64_w, i32_w]
                              rfl
                            refine pure_ (i := 3) (N := some 45) (v := ?_) (a' := ?_) #[true, true, true, true, false, false, false, false, false, false] rfl rfl (any_of HT_.out (by kernel_rfl)) (fun _ _ _ h => h) (Or.inl ⟨by rfl, ?_⟩) ?_ ?_
                            rotate_left
                            · intro w'
                              go_simp
                              with_reducible rfl
                            rotate_left
                            · simp only [Act.put, List.setIfInBounds_toArray, List.set_cons_zero, List.set_cons_succ, i64_w, i32_w]
                              rfl
                            refine pure_ (i := 5) (N := some 47) (v := ?_) (a' := ?_) #[true, true, true, true, false, true, false, false, false, false] rfl rfl (any_of HT_.out (by kernel_rfl)) (fun _ _ _ h => h) (Or.inl ⟨by rfl, ?_⟩) ?_ ?_
                            rotate_left
                            · intro w'
                              go_simp
                              with_reducible rfl
                            rotate_left
                            · simp only [Act.put, List.setIfInBounds_toArray, List.set_cons_zero, List.set_cons_succ, i64_w, i32_w]
                              rfl
                            refine pure_ (i := 6) (N := some 48) (v := ?_) (a' := ?_) #[true, true, true, true, false, true, true, false, false, false] rfl rfl (any_of HT_.out (by kernel_rfl)) (fun _ _ _ h => h) (Or.inl ⟨by rfl, ?_⟩) ?_ ?_
                            rotate_left
                            · intro w'
                              go_simp
                              with_reducible rfl
                            rotate_left
                            · simp only [Act.put, List.setIfInBounds_toArray, List.set_cons_zero, List.set_cons_succ, i64_w, i32_w]
                              rfl
                            refine pure_ (i := 7) (N := some 49) (v := ?_) (a' := ?_) #[true, true, true, true, false, true, true, true, false, false] rfl rfl (any_of HT_.out (by kernel_rfl)) (fun _ _ _ h => h) (Or.inl ⟨by rfl, ?_⟩) ?_ ?_
                            rotate_left
                            · intro w'
                              go_simp
                              with_reducible rfl
                            rotate_left
                            · simp only [Act.put, List.setIfInBounds_toArray, List.set_cons_zero, List.set_cons_succ, i64_w, i32_w]
                              rfl
                            refine one_ (i := 4) (N := some 46) #[true, true, true, true, true, true, true, true, false, false] rfl rfl (one_of HT_.out (by kernel_rfl)) (by decide) (fun K hK => ?_)
                            refine goes_ Try.func88 (by kernel_rfl) rfl #[.int .i64 x4_8] (by rfl) rfl rfl (by (try simp only [List.map_toArray, List.map_cons, List.map_nil]); first | done | rfl | (simp only [List.length_drop, List.length_take]; rfl)) ?_
                            with_reducible refine (phalaroperef01_One.calls kj8 x4_8 t215 _ A18.out).mono ?_
                            rintro e w25 ⟨rfl, hb⟩
                            refine ⟨_, rfl, ?_⟩
                            have n0_ := Aside0.mk (below_step (by repeat (first | (with_reducible first | exact HB.out | apply below_alloc | apply pw_below_drewN | apply below_drew1) | exact HB.out)) hb)
                            clear HB
                            have HB := n0_
                            clear n0_
                            (try clear hb)
                            (try clear hb2)
                            (try clear hk)
                            (try clear hi)
                            refine hK.out _ _ trivial (fun hHeld => ?_)
                            clear hK K
                            refine norm_ (a' := ?_) ?_ ?_
                            rotate_left
                            · show Act.put _ (some 46) _ = _
                              simp only [Act.put, List.setIfInBounds_toArray, List.set_cons_zero, List.set_cons_succ, i64_w, i32_w]
                              rfl
                            refine pure_ (i := 8) (N := some 50) (v := ?_) (a' := ?_) #[true, true, true, true, true, true, true, true, true, false] rfl rfl (any_of HT_.out (by kernel_rfl)) (fun _ _ _ h => h) (Or.inl ⟨by rfl, ?_⟩) ?_ ?_
                            rotate_left
                            · intro w'
                              go_simp
                              with_reducible rfl
                            rotate_left
                            · simp only [Act.put, List.setIfInBounds_toArray, List.set_cons_zero, List.set_cons_succ, i64_w, i32_w]
                              rfl
                            refine pure_ (i := 9) (N := some 51) (v := ?_) (a' := ?_) #[true, true, true, true, true, true, true, true, true, true] rfl rfl (any_of HT_.out (by kernel_rfl)) (fun _ _ _ h => h) (Or.inl ⟨by rfl, ?_⟩) ?_ ?_
                            rotate_left
                            · intro w'
                              go_simp
                              with_reducible rfl
                            rotate_left
                            · simp only [Act.put, List.setIfInBounds_toArray, List.set_cons_zero, List.set_cons_succ, i64_w, i32_w]
                              rfl
                            refine done_ (done_of HT_.out (by kernel_rfl)) ?_
                            try go_wp2
                            go_roundg kj8
                            case measure => have := HK1.out; have := HJ1.out; have := HJ8.out; omega
                            case rel => exact ⟨(x4_8), (wrap64 (x5_1 + 1)), (by first | rfl | (simp; done) | (simp [*]; done)), (by first | rfl | (simp; done) | (simp [*]; done)), H', ⟨by have := HK1.out; have := HJ1.out; have := HJ8.out; omega⟩, ⟨by repeat (first | (with_reducible first | exact HB.out | apply below_alloc | apply pw_below_drewN | apply below_drew1) | exact HB.out)⟩⟩
                        · rw [if_neg c20] at H
                          exact absurd H (by simp)
                      · rw [if_neg c19] at H
                        exact absurd H (by simp)
                    · replace c17 := Bool.eq_false_iff.mpr c17
                      subst c17
                      have H1 : (phalaroperef01_First.l0 kj8 a0 x4_8 (wrap64 (x5_1 + 1))) = some (r1, r2) := by rw [if_neg (show ¬ (false = true) by decide)] at H; exact H
                      clear H
                      have H := H1
                      clear H1
                      have H' := Aside0.mk H
                      clear H
                      try go_wp2
                      have n0_ := Aside0.mk (below_drew1 HB.out)
                      clear HB
                      have HB := n0_
                      clear n0_
                      refine start_ (n := 10) (S := fun w' => True) (ds := []) #[false, false, false, false, false, false, false, false, false, false] (by kernel_rfl) rfl rfl trivial (fun hHeld => ?_); refine with_tabW phalaroperef01_First.tab15 phalaroperef01_First.bits15 (fun HT_ HW_ => ?_)
                      generalize wc.drew = w26 at HB hHeld ⊢
                      refine pure_ (i := 0) (N := some 42) (v := ?_) (a' := ?_) #[true, false, false, false, false, false, false, false, false, false] rfl rfl (any_of HT_.out (by kernel_rfl)) (fun _ _ _ h => h) (Or.inl ⟨by rfl, ?_⟩) ?_ ?_
                      rotate_left
                      · intro w'
                        go_simp
                        with_reducible rfl
                      rotate_left
                      · simp only [Act.put, List.setIfInBounds_toArray, List.set_cons_zero, List.set_cons_succ, i64_w, i32_w]
                        rfl
                      refine one_ (i := 1) (N := some 43) #[true, true, false, false, false, false, false, false, false, false] rfl rfl (one_of HT_.out (by kernel_rfl)) (by decide) (fun K hK => ?_)
                      refine goes_ Try.func87 (by kernel_rfl) rfl #[.int .i64 x4_8] (by rfl) rfl rfl (by (try simp only [List.map_toArray, List.map_cons, List.map_nil]); first | done | rfl | (simp only [List.length_drop, List.length_take]; rfl)) ?_
                      with_reducible refine (phalaroperef01_May.calls x4_8 false _ A16.out).mono ?_
                      rintro e w' ⟨rfl, ⟨nd, rfl⟩⟩
                      refine ⟨_, rfl, ?_⟩
                      refine hK.out _ _ trivial (fun hHeld => ?_)
                      clear hK K
                      refine norm_ (a' := ?_) ?_ ?_
                      rotate_left
                      · show Act.put _ (some 43) _ = _
                        simp only [Act.put, List.setIfInBounds_toArray, List.set_cons_zero, List.set_cons_succ, i64_w, i32_w]
                        rfl
                      refine pure_ (i := 2) (N := some 44) (v := ?_) (a' := ?_) #[true, true, true, false, false, false, false, false, false, false] rfl rfl (any_of HT_.out (by kernel_rfl)) (fun _ _ _ h => h) (Or.inl ⟨by rfl, ?_⟩) ?_ ?_
                      rotate_left
                      · intro w'
                        go_simp
                        with_reducible rfl
                      rotate_left
                      · simp only [Act.put, List.setIfInBounds_toArray, List.set_cons_zero, List.set_cons_succ, i64_w, i32_w]
                        rfl
                      refine pure_ (i := 3) (N := some 45) (v := undef) (a' := ?_) #[true, true, true, true, false, false, false, false, false, false] rfl rfl (any_of HT_.out (by kernel_rfl)) (fun _ _ _ h => h) (Or.inr ⟨by rfl, rfl⟩) ?_ ?_
                      rotate_left
                      · simp only [Act.put, List.setIfInBounds_toArray, List.set_cons_zero, List.set_cons_succ, i64_w, i32_w]
                        rfl
                      refine pure_ (i := 4) (N := some 46) (v := undef) (a' := ?_) #[true, true, true, true, true, false, false, false, false, false] rfl rfl (any_of HT_.out (by kernel_rfl)) (fun _ _ _ h => h) (Or.inr ⟨by rfl, rfl⟩) ?_ ?_
                      rotate_left
                      · simp only [Act.put, List.setIfInBounds_toArray, List.set_cons_zero, List.set_cons_succ, i64_w, i32_w]
                        rfl
                      refine pure_ (i := 5) (N := some 47) (v := undef) (a' := ?_) #[true, true, true, true, true, true, false, false, false, false] rfl rfl (any_of HT_.out (by kernel_rfl)) (fun _ _ _ h => h) (Or.inr ⟨by rfl, rfl⟩) ?_ ?_
                      rotate_left
                      · simp only [Act.put, List.setIfInBounds_toArray, List.set_cons_zero, List.set_cons_succ, i64_w, i32_w]
                        rfl
                      refine pure_ (i := 6) (N := some 48) (v := undef) (a' := ?_) #[true, true, true, true, true, true, true, false, false, false] rfl rfl (any_of HT_.out (by kernel_rfl)) (fun _ _ _ h => h) (Or.inr ⟨by rfl, rfl⟩) ?_ ?_
                      rotate_left
                      · simp only [Act.put, List.setIfInBounds_toArray, List.set_cons_zero, List.set_cons_succ, i64_w, i32_w]
                        rfl
                      refine pure_ (i := 7) (N := some 49) (v := undef) (a' := ?_) #[true, true, true, true, true, true, true, true, false, false] rfl rfl (any_of HT_.out (by kernel_rfl)) (fun _ _ _ h => h) (Or.inr ⟨by rfl, rfl⟩) ?_ ?_
                      rotate_left
                      · simp only [Act.put, List.setIfInBounds_toArray, List.set_cons_zero, List.set_cons_succ, i64_w, i32_w]
                        rfl
                      refine pure_ (i := 8) (N := some 50) (v := undef) (a' := ?_) #[true, true, true, true, true, true, true, true, true, false] rfl rfl (any_of HT_.out (by kernel_rfl)) (fun _ _ _ h => h) (Or.inr ⟨by rfl, rfl⟩) ?_ ?_
                      rotate_left
                      · simp only [Act.put, List.setIfInBounds_toArray, List.set_cons_zero, List.set_cons_succ, i64_w, i32_w]
                        rfl
                      refine pure_ (i := 9) (N := some 51) (v := ?_) (a' := ?_) #[true, true, true, true, true, true, true, true, true, true] rfl rfl (any_of HT_.out (by kernel_rfl)) (fun _ _ _ h => h) (Or.inl ⟨by rfl, ?_⟩) ?_ ?_
                      rotate_left
                      · intro w'
                        go_simp
                        with_reducible rfl
                      rotate_left
                      · simp only [Act.put, List.setIfInBounds_toArray, List.set_cons_zero, List.set_cons_succ, i64_w, i32_w]
                        rfl
                      refine done_ (done_of HT_.out (by kernel_rfl)) ?_
                      try go_wp2
                      go_roundg kj8
                      case measure => have := HK1.out; have := HJ1.out; have := HJ8.out; omega
                      case rel => exact ⟨(x4_8), (wrap64 (x5_1 + 1)), (by first | rfl | (simp; done) | (simp [*]; done)), (by first | rfl | (simp; done) | (simp [*]; done)), H', ⟨by have := HK1.out; have := HJ1.out; have := HJ8.out; omega⟩, ⟨by repeat (first | (with_reducible first | exact HB.out | apply below_alloc | apply pw_below_drewN | apply below_drew1) | exact HB.out)⟩⟩
              · rw [if_neg c7] at H
                exact absurd H (by simp)
            · rw [if_neg c6] at H
              exact absurd H (by simp)
          · replace c4 := Bool.eq_false_iff.mpr c4
            subst c4
            have H1 : (some (0, 0)) = some (r1, r2) := by rw [if_neg (show ¬ (false = true) by decide)] at H; exact H
            clear H
            have H := H1
            clear H1
            simp only [Option.some.injEq, Prod.mk.injEq] at H
            obtain ⟨rfl, rfl⟩ := H
            go_wp2
            go_ret2
            exact ⟨by first | rfl | (simp [errW_none, errW_some] <;> rfl) | (simp [*, errW_none, errW_some] <;> rfl), by repeat (first | (with_reducible first | exact HB.out | apply below_alloc | apply pw_below_drewN | apply below_drew1) | exact HB.out)⟩
end Go.Proofs.Ytbjeegkmafbejaa.PE
end
section
namespace Go.Proofs.Ytbjeegkmafbejaa.PE
open Go.RowKit Go.Proofs.YtbjeegkmafbejaaW.PrintWords Go.Proofs.YtbjeegkmafbejaaW.PrintLast Go.Proofs.YtbjeegkmafbejaaW.PrintMore
attribute [local go_sem] max2_int min2_int max_two min_two max_three min_three max_four min_four   -- for this text's walks alone
set_option linter.unusedVariables false
set_option linter.unusedSimpArgs false
def phalaroperef01_Begin.l0 : Nat → ByteArray → List Int → Int → Option (List Int × Int)
  | 0, _, _, _ => none
  | k + 1, x0, x4, x5 => if x5 < (x0.size : Int) then (if 0 ≤ x5 then (if x5 ≤ (x0.size : Int) then ((phalaroperef01_First.f k (x0.extract (x5 : Int).toNat x0.size)).bind fun bt216 => (if bt216.2 = 0 then (some (x4, x5)) else (if x4.length < 17592186044416 then (phalaroperef01_Begin.l0 k x0 (x4 ++ [bt216.1]) (wrap64 (x5 + bt216.2))) else (none)))) else (none)) else (none)) else (some (x4, x5))
def phalaroperef01_Begin.f (k : Nat) (a0 : ByteArray) : Option (List Int × Int) := phalaroperef01_Begin.l0 k a0 ([] : List Int) 0
set_option maxHeartbeats 8000000 in
set_option maxRecDepth 100000 in
theorem phalaroperef01_Begin.calls (k : Nat) (a0 : ByteArray) (r1 : List Int) (r2 : Int) (w : World) (h : phalaroperef01_Begin.f k a0 = some (r1, r2)) :
    Calls Try.prog 58 #[.string a0] w fun e w' => ∃ v0_ : Value, e = .returned (.tuple #[v0_, .int .i64 r2]) ∧ Kd.R (Kd.int .i64) 3 w' w.heap.size (fun _ => True) v0_ r1 ∧ Below w.heap.size w w' := by
  have HB := Aside0.mk (Below.refl w.heap.size w)
  have H : (phalaroperef01_Begin.l0 k a0 ([] : List Int) 0) = some (r1, r2) := h
  clear h
  have H' := Aside0.mk H
  clear H
  go_enter Try.func58, Try.ntmps58
  go_wp2
  go_loopg [4, 5] k (fun kq v4 v5 w' => ∃ (x4_1 : List Int) (x5_1 : Int), v5 = .int .i64 x5_1 ∧ Aside0 (phalaroperef01_Begin.l0 kq a0 x4_1 x5_1 = some (r1, r2)) ∧ Aside0 (kq ≤ k) ∧ Aside0 (Kd.R (Kd.int .i64) 3 w' w.heap.size (fun _ => True) v4 x4_1) ∧ Aside0 (Below w.heap.size w w'))
  case atStart => exact ⟨(([] : List Int)), (0), (by first | rfl | (simp; done) | (simp [*]; done)), H', ⟨Nat.le_refl _⟩, ⟨by first | exact Kd.R_nil _ _ _ _ _ | exact Kd.N_nil _ _ _ _ _ | exact Kd.V_nil _ _ _ _ _ | exact Kd.Q_nil _ _ _ _ _ | exact Kd.S_nil _ _ _ _ _⟩, ⟨by repeat (first | (with_reducible first | exact HB.out | apply below_alloc | apply pw_below_drewN | apply below_drew1) | exact HB.out)⟩⟩
  case round =>
    clear H'
    obtain ⟨x4_1, x5_1, rfl, HA, HK1, HO_4, HB⟩ := hrel
    cases gk with
    | zero => exact absurd HA.out (by simp [phalaroperef01_Begin.l0])
    | succ k1 =>
      have H := HA.out
      clear HA
      simp only [phalaroperef01_Begin.l0] at H
      by_cases c2 : x5_1 < (a0.size : Int)
      · rw [if_pos c2] at H
        have c2b0 : decide (x5_1 < (a0.size : Int)) = true := decide_eq_true c2
        clear c2
        by_cases c3 : 0 ≤ x5_1
        · rw [if_pos c3] at H
          have c3b0 := eq_true c3
          have c3b1 : decide (0 ≤ x5_1) = true := decide_eq_true c3
          clear c3
          by_cases c4 : x5_1 ≤ (a0.size : Int)
          · rw [if_pos c4] at H
            have c4b0 := eq_true c4
            have c4b1 : decide (x5_1 ≤ (a0.size : Int)) = true := decide_eq_true c4
            clear c4
            replace H := Option.bind_eq_some_iff.mp H
            obtain ⟨⟨t216, t217⟩, A50, H⟩ := H
            replace H : (if t217 = 0 then (some (x4_1, x5_1)) else (if x4_1.length < 17592186044416 then (phalaroperef01_Begin.l0 k1 a0 (x4_1 ++ [t216]) (wrap64 (x5_1 + t217))) else (none))) = some (r1, r2) := H
            have A5 := Aside0.mk A50
            clear A50
            by_cases c6 : t217 = 0
            · rw [if_pos c6] at H
              have c6b0 : (t217 == 0) = true := beq_iff_eq.mpr c6
              have c6b1 : (t217 != 0) = false := bne_eq_false_iff_eq.mpr c6
              clear c6
              simp only [Option.some.injEq, Prod.mk.injEq] at H
              obtain ⟨rfl, rfl⟩ := H
              go_wp2_with (first | ((with_reducible refine gate_callee (f := 76) rfl ?_); refine goesL_ (some 16) rfl rfl Try.func76 (by kernel_rfl) rfl #[.string (a0.extract (x5_1 : Int).toNat a0.size)] rfl (by (try simp only [List.map_toArray, List.map_cons, List.map_nil]); first | done | rfl | (simp only [List.length_drop, List.length_take]; rfl)) ?_; (with_reducible refine (phalaroperef01_First.calls k1 (a0.extract (x5_1 : Int).toNat a0.size) t216 t217 _ A5.out).mono ?_); rintro e w7 ⟨rfl, hb⟩; refine ⟨_, rfl, ?_⟩; have n0_ := Aside0.mk (Kd.R_below (by (with_reducible repeat (first | apply Kd.R_alloc | apply Kd.R_drewN | apply Kd.R_drew)); exact HO_4.out) hb); have n1_ := Aside0.mk (below_step (by repeat (first | (with_reducible first | exact HB.out | apply below_alloc | apply pw_below_drewN | apply below_drew1) | exact HB.out)) hb); clear HO_4; clear HB; have HO_4 := n0_; have HB := n1_; clear n0_ n1_; (try clear hb); (try clear hb2); (try clear hk); (try clear hi)))
              go_ret2
              exact ⟨_, by first | rfl | (simp [errW_none, errW_some] <;> rfl) | (simp [*, errW_none, errW_some] <;> rfl), by (with_reducible repeat (first | apply Kd.R_alloc | apply Kd.R_drewN | apply Kd.R_drew)); exact HO_4.out, by repeat (first | (with_reducible first | exact HB.out | apply below_alloc | apply pw_below_drewN | apply below_drew1) | exact HB.out)⟩
            · rw [if_neg c6] at H
              have c6b0 : (t217 == 0) = false := beq_eq_false_iff_ne.mpr c6
              have c6b1 : (t217 != 0) = true := bne_iff_ne.mpr c6
              by_cases c8 : x4_1.length < 17592186044416
              · rw [if_pos c8] at H
                have LMc8 := Aside0.mk c8
                clear c8
                obtain ⟨y218, hy218⟩ : ∃ y_ : List Int, y_ = (x4_1 ++ [t216]) := ⟨_, rfl⟩
                replace H : (phalaroperef01_Begin.l0 k1 a0 y218 (wrap64 (x5_1 + t217))) = some (r1, r2) := by first | (rw [hy218]; with_reducible exact H) | (have H2_ := (Option.bind_some _ _).symm.trans H; rw [hy218]; with_reducible exact H2_) | (have H2_ := (Option.bind_some _ _).symm.trans H; with_reducible exact H2_) | with_reducible exact H | (rw [hy218]; exact H) | exact H
                have Ny218 := Aside0.mk hy218
                clear hy218
                have H' := Aside0.mk H
                clear H
                go_wp2_with (first | ((with_reducible refine gate_callee (f := 76) rfl ?_); refine goesL_ (some 16) rfl rfl Try.func76 (by kernel_rfl) rfl #[.string (a0.extract (x5_1 : Int).toNat a0.size)] rfl (by (try simp only [List.map_toArray, List.map_cons, List.map_nil]); first | done | rfl | (simp only [List.length_drop, List.length_take]; rfl)) ?_; (with_reducible refine (phalaroperef01_First.calls k1 (a0.extract (x5_1 : Int).toNat a0.size) t216 t217 _ A5.out).mono ?_); rintro e w9 ⟨rfl, hb⟩; refine ⟨_, rfl, ?_⟩; have n0_ := Aside0.mk (Kd.R_below (by (with_reducible repeat (first | apply Kd.R_alloc | apply Kd.R_drewN | apply Kd.R_drew)); exact HO_4.out) hb); have n1_ := Aside0.mk (below_step (by repeat (first | (with_reducible first | exact HB.out | apply below_alloc | apply pw_below_drewN | apply below_drew1) | exact HB.out)) hb); clear HO_4; clear HB; have HO_4 := n0_; have HB := n1_; clear n0_ n1_; (try clear hb); (try clear hb2); (try clear hk); (try clear hi)) | ((with_reducible refine gate_builtin (b := .append) (xs := #[.tmp 21, .tmp 23]) rfl ?_); at_builtin; refine Kd.R_append (Kd.int .i64) (w0 := w) w.heap.size rfl (.tmp 21) (.tmp 23) 77 3 (.int .i64 0) 8 rfl Try.underlying77 info3 rfl (by decide) (by omega) u4 x4_1 t216 [.int .i64 t216] (fun _ => True) (fun _ => False) rfl rfl ?aP (fun _ hk => hk.elim) ?aF ?aO ?aB ?aS ?aL ?_; (case aP => exact rfl); (case aB => exact (by repeat (first | (with_reducible first | exact HB.out | apply below_alloc | apply pw_below_drewN | apply below_drew1) | exact HB.out))); (case aF => exact (fun _ _ => trivial)); (case aO => exact (by (with_reducible repeat (first | apply Kd.R_alloc | apply Kd.R_drewN | apply Kd.R_drew)); exact HO_4.out)); (case aS => exact (below_size (by repeat (first | (with_reducible first | exact HB.out | apply below_alloc | apply pw_below_drewN | apply below_drew1) | exact HB.out)))); (case aL => have := LMc8.out; omega); intro v219 w10 ho hb hg hat; rw [← Ny218.out] at ho; have n0_ := Aside0.mk (hb); have n1_ := Aside0.mk (ho); clear HB; clear HO_4; have HB := n0_; have HO220 := n1_; clear n0_ n1_; clear ho hb hg hat))
                go_roundg k1
                case measure => have := HK1.out; omega
                case rel => exact ⟨(y218), (wrap64 (x5_1 + t217)), (by first | rfl | (simp; done) | (simp [*]; done)), H', ⟨by have := HK1.out; omega⟩, ⟨by (with_reducible repeat (first | apply Kd.R_alloc | apply Kd.R_drewN | apply Kd.R_drew)); exact HO220.out⟩, ⟨by repeat (first | (with_reducible first | exact HB.out | apply below_alloc | apply pw_below_drewN | apply below_drew1) | exact HB.out)⟩⟩
              · rw [if_neg c8] at H
                exact absurd H (by simp)
          · rw [if_neg c4] at H
            exact absurd H (by simp)
        · rw [if_neg c3] at H
          exact absurd H (by simp)
      · rw [if_neg c2] at H
        have c2b0 : decide (x5_1 < (a0.size : Int)) = false := decide_eq_false c2
        clear c2
        simp only [Option.some.injEq, Prod.mk.injEq] at H
        obtain ⟨rfl, rfl⟩ := H
        go_wp2
        go_ret2
        exact ⟨_, by first | rfl | (simp [errW_none, errW_some] <;> rfl) | (simp [*, errW_none, errW_some] <;> rfl), by (with_reducible repeat (first | apply Kd.R_alloc | apply Kd.R_drewN | apply Kd.R_drew)); exact HO_4.out, by repeat (first | (with_reducible first | exact HB.out | apply below_alloc | apply pw_below_drewN | apply below_drew1) | exact HB.out)⟩
def phalaroperef01_Valid.f (k : Nat) (a0 : ByteArray) : Option (Bool) := (phalaroperef01_Begin.f k a0).bind fun bt221 => (some (bt221.2 == (a0.size : Int)))
set_option maxHeartbeats 8000000 in
set_option maxRecDepth 100000 in
theorem phalaroperef01_Valid.calls (k : Nat) (a0 : ByteArray) (r : Bool) (w : World) (h : phalaroperef01_Valid.f k a0 = some r) :
    Calls Try.prog 37 #[.string a0] w fun e w' => e = .returned (.bool r) ∧ Below w.heap.size w w' := by
  have HB := Aside0.mk (Below.refl w.heap.size w)
  have H : ((phalaroperef01_Begin.f k a0).bind fun bt221 => (some (bt221.2 == (a0.size : Int)))) = some r := h
  clear h
  replace H := Option.bind_eq_some_iff.mp H
  obtain ⟨⟨t221, t222⟩, A20, H⟩ := H
  replace H : (some (t222 == (a0.size : Int))) = some r := H
  have A2 := Aside0.mk A20
  clear A20
  obtain rfl := Option.some.inj H
  go_enter Try.func37, Try.ntmps37
  go_wp2_with (first | ((with_reducible refine gate_callee (f := 58) rfl ?_); refine goesL_ (some 7) rfl rfl Try.func58 (by kernel_rfl) rfl #[.string a0] rfl (by (try simp only [List.map_toArray, List.map_cons, List.map_nil]); first | done | rfl | (simp only [List.length_drop, List.length_take]; rfl)) ?_; (with_reducible refine (phalaroperef01_Begin.calls k a0 t221 t222 _ A2.out).mono ?_); rintro e w3 ⟨v223, rfl, ho0, hb⟩; refine ⟨_, rfl, ?_⟩; have n0_ := Aside0.mk (Kd.R_lower ho0 (below_size (by repeat (first | (with_reducible first | exact HB.out | apply below_alloc | apply pw_below_drewN | apply below_drew1) | exact HB.out)))); have n1_ := Aside0.mk (below_step (by repeat (first | (with_reducible first | exact HB.out | apply below_alloc | apply pw_below_drewN | apply below_drew1) | exact HB.out)) hb); clear HB; have HO224 := n0_; have HB := n1_; clear n0_ n1_; (try clear hb); (try clear hb2); (try clear hk); (try clear hi); (try clear ho0)))
  go_ret
  exact ⟨by first | rfl | (simp [errW_none, errW_some] <;> rfl) | (simp [*, errW_none, errW_some] <;> rfl), by repeat (first | (with_reducible first | exact HB.out | apply below_alloc | apply pw_below_drewN | apply below_drew1) | exact HB.out)⟩
def phalaroperef08_Valid.l0 : Nat → List ByteArray → Int → Option (Bool)
  | 0, _, _ => none
  | k + 1, x3, x4 => if x4 < (x3.length : Int) then (if 0 ≤ x4 then ((phalaroperef01_Valid.f k (rdOf ByteArray.empty x3 x4)).bind fun t230 => (if t230 = true then (phalaroperef08_Valid.l0 k x3 (wrap64 (x4 + 1))) else (some false))) else (none)) else (some true)
def phalaroperef08_Valid.f (k : Nat) (a0_0 : Int) (a0_1 : ByteArray) (l0_2 : List ByteArray) (l0_3 : List (S69)) : Option (Bool) := (phalaroperef08_Texts.f k a0_0 a0_1 l0_2 l0_3).bind fun t226 => (phalaroperef08_Valid.l0 k t226 0)
set_option maxHeartbeats 8000000 in
set_option maxRecDepth 100000 in
theorem phalaroperef08_Valid.calls (k : Nat) (a0_0 : Int) (a0_1 : ByteArray) (A0_2 : Option Addr) (c0_2 : Nat) (l0_2 : List ByteArray) (A0_3 : Option Addr) (c0_3 : Nat) (l0_3 : List (S69)) (r : Bool) (w : World) (hr0_2 : Kd.C Kd.string w A0_2 l0_2.length l0_2) (hc0_2 : l0_2.length ≤ c0_2) (hr0_3 : Kd.C k69 w A0_3 l0_3.length l0_3) (hc0_3 : l0_3.length ≤ c0_3) (h : phalaroperef08_Valid.f k a0_0 a0_1 l0_2 l0_3 = some r) :
    Calls Try.prog 17 #[.agg #[.int .i64 a0_0, .string a0_1, .slice A0_2 l0_2.length c0_2, .slice A0_3 l0_3.length c0_3]] w fun e w' => e = .returned (.bool r) ∧ Below w.heap.size w w' := by
  have hu27 := Try.underlying27
  have HR0_2 := Aside0.mk hr0_2
  have HC0_2 := Aside0.mk hc0_2
  clear hr0_2 hc0_2
  have HR0_3 := Aside0.mk hr0_3
  have HC0_3 := Aside0.mk hc0_3
  clear hr0_3 hc0_3
  have HB := Aside0.mk (Below.refl w.heap.size w)
  have H : ((phalaroperef08_Texts.f k a0_0 a0_1 l0_2 l0_3).bind fun t226 => (phalaroperef08_Valid.l0 k t226 0)) = some r := h
  clear h
  replace H := Option.bind_eq_some_iff.mp H
  obtain ⟨t226, A20, H⟩ := H
  replace H : (phalaroperef08_Valid.l0 k t226 0) = some r := H
  have A2 := Aside0.mk A20
  clear A20
  have H' := Aside0.mk H
  clear H
  go_enter Try.func17, Try.ntmps17
  go_wp2_with (first | ((with_reducible refine gate_dst (N := 1) rfl ?_); refine box_event ?hg (N := 1) ?hd (cs := #[.int .i64 a0_0, .string a0_1, .slice A0_2 l0_2.length c0_2, .slice A0_3 l0_3.length c0_3]) (t := 27) ?hr ?_; (case hd => rfl); (case hg => rfl); (case hr => first | (go_simp; done) | (go_simp; rfl)); intro gb225 hg w3 hbox hb; have n0_ := Aside0.mk (below_step (by repeat (first | (with_reducible first | exact HB.out | apply below_alloc | apply pw_below_drewN | apply below_drew1) | exact HB.out)) hb); have n1_ := Aside0.mk (hbox); have n2_ := Aside0.mk ((by rw [hg]; exact (below_size (by repeat (first | (with_reducible first | exact HB.out | apply below_alloc | apply pw_below_drewN | apply below_drew1) | exact HB.out))) : w.heap.size ≤ gb225)); have n3_ := Aside0.mk ((by rw [hg]; exact (below_size (by repeat (first | (with_reducible first | exact HB.out | apply below_alloc | apply pw_below_drewN | apply below_drew1) | exact HB.out))) : w.heap.size ≤ gb225)); clear HB; have HB := n0_; have BK225 := n1_; have GW225 := n2_; have GE225 := n3_; clear n0_ n1_ n2_ n3_; clear hb hbox hg; have hcz4_0 : w3.cell? ⟨gb225, 0, none⟩ = some (.int .i64 a0_0) := (blk_cell BK225.out 0).trans rfl; have hcz4_1 : w3.cell? ⟨gb225, 1, none⟩ = some (.string a0_1) := (blk_cell BK225.out 1).trans rfl; have hcz4_2 : w3.cell? ⟨gb225, 2, none⟩ = some (.slice A0_2 l0_2.length c0_2) := (blk_cell BK225.out 2).trans rfl; have hcz4_3 : w3.cell? ⟨gb225, 3, none⟩ = some (.slice A0_3 l0_3.length c0_3) := (blk_cell BK225.out 3).trans rfl; have hfz4_0 := blk_frozen BK225.out 0; have hfz4_1 := blk_frozen BK225.out 1; have hfz4_2 := blk_frozen BK225.out 2; have hfz4_3 := blk_frozen BK225.out 3) | ((with_reducible refine gate_callee (f := 36) rfl ?_); refine goesL_ (some 6) rfl rfl Try.func36 (by kernel_rfl) rfl #[.agg #[.int .i64 a0_0, .string a0_1, .slice A0_2 l0_2.length c0_2, .slice A0_3 l0_3.length c0_3]] rfl (by (try simp only [List.map_toArray, List.map_cons, List.map_nil]); first | done | rfl | (simp only [List.length_drop, List.length_take]; rfl)) ?_; (with_reducible refine (phalaroperef08_Texts.calls k a0_0 a0_1 _ _ l0_2 _ _ l0_3 t226 _ ?side1 ?side2 ?side3 ?side4 A2.out).mono ?_); (case side1 => repeat (first | exact (Kd.C_below HR0_2.out HB.out) | (with_reducible refine Kd.C_alloc ?_ _) | (with_reducible refine Kd.C_drewN ?_ _) | (with_reducible refine Kd.C_drew ?_))); (case side2 => exact HC0_2.out); (case side3 => repeat (first | exact (Kd.C_below HR0_3.out HB.out) | (with_reducible refine Kd.C_alloc ?_ _) | (with_reducible refine Kd.C_drewN ?_ _) | (with_reducible refine Kd.C_drew ?_))); (case side4 => exact HC0_3.out); rintro e w5 ⟨v227, rfl, ho0, hb⟩; refine ⟨_, rfl, ?_⟩; have n0_ := Aside0.mk (Kd.R_lower ho0 (below_size (by repeat (first | (with_reducible first | exact HB.out | apply below_alloc | apply pw_below_drewN | apply below_drew1 | refine below_set ?_ GE225.out) | exact HB.out)))); have n1_ := Aside0.mk (blk_below (g := gb225) (o := .cells #[.int .i64 a0_0, .string a0_1, .slice A0_2 l0_2.length c0_2, .slice A0_3 l0_3.length c0_3] 27 (0, 0)) (by (with_reducible repeat (first | refine blk_drewN ?_ _ | refine blk_drew ?_ | refine blk_alloc ?_ _)); exact BK225.out) hb); have n2_ := Aside0.mk (below_step (by repeat (first | (with_reducible first | exact HB.out | apply below_alloc | apply pw_below_drewN | apply below_drew1 | refine below_set ?_ GE225.out) | exact HB.out)) hb); clear BK225; clear HB; have HO228 := n0_; have BK225 := n1_; have HB := n2_; clear n0_ n1_ n2_; (try clear hb); (try clear hb2); (try clear hk); (try clear hi); (try clear ho0)))
  go_loopg [4] k (fun kq v4 w' => ∃ (x4_1 : Int), v4 = .int .i64 x4_1 ∧ Aside0 (phalaroperef08_Valid.l0 kq t226 x4_1 = some r) ∧ Aside0 (kq ≤ k) ∧ Aside0 (Kd.R Kd.string 9 w' w.heap.size (fun _ => True) v227 t226) ∧ Aside0 (w'.heap[gb225]? = some (.cells #[.int .i64 a0_0, .string a0_1, (.slice A0_2 l0_2.length c0_2), (.slice A0_3 l0_3.length c0_3)] 27 (0, 0))) ∧ Aside0 (Below w.heap.size w w'))
  case atStart => exact ⟨(0), (by first | rfl | (simp; done) | (simp [*]; done)), H', ⟨Nat.le_refl _⟩, ⟨by (with_reducible repeat (first | apply Kd.R_alloc | apply Kd.R_drewN | apply Kd.R_drew)); exact HO228.out⟩, ⟨by (with_reducible repeat (first | refine blk_drewN ?_ _ | refine blk_drew ?_ | refine blk_alloc ?_ _)); exact BK225.out⟩, ⟨by repeat (first | (with_reducible first | exact HB.out | apply below_alloc | apply pw_below_drewN | apply below_drew1 | refine below_set ?_ GE225.out) | exact HB.out)⟩⟩
  case round =>
    clear H'
    try clear c1
    try clear p2
    try clear c3
    try clear hcz4_0
    try clear hcz4_1
    try clear hcz4_2
    try clear hcz4_3
    try clear hfz4_0
    try clear hfz4_1
    try clear hfz4_2
    try clear hfz4_3
    obtain ⟨x4_1, rfl, HA, HK1, HO_3, BK225, HB⟩ := hrel
    cases gk with
    | zero => exact absurd HA.out (by simp [phalaroperef08_Valid.l0])
    | succ k1 =>
      have H := HA.out
      clear HA
      simp only [phalaroperef08_Valid.l0] at H
      by_cases c6 : x4_1 < (t226.length : Int)
      · rw [if_pos c6] at H
        have c6b0 : decide (x4_1 < (t226.length : Int)) = true := decide_eq_true c6
        clear c6
        by_cases c7 : 0 ≤ x4_1
        · rw [if_pos c7] at H
          have c7b0 : decide (0 ≤ x4_1) = true := decide_eq_true c7
          clear c7
          replace H := Option.bind_eq_some_iff.mp H
          obtain ⟨t230, A80, H⟩ := H
          replace H : (if t230 = true then (phalaroperef08_Valid.l0 k1 t226 (wrap64 (x4_1 + 1))) else (some false)) = some r := H
          have A8 := Aside0.mk A80
          clear A80
          by_cases c9 : t230 = true
          · subst c9
            have H1 : (phalaroperef08_Valid.l0 k1 t226 (wrap64 (x4_1 + 1))) = some r := by rw [if_pos rfl] at H; exact H
            clear H
            have H := H1
            clear H1
            have H' := Aside0.mk H
            clear H
            obtain ⟨Ao10, co10, eo10⟩ := Kd.R_slice HO_3.out
            subst eo10
            have p229 : 0 ≤ (x4_1 : Int) := of_decide_eq_true (by first | (with_reducible assumption) | assumption)
            have q229 : x4_1 < (t226.length : Int) := of_decide_eq_true (by first | (with_reducible assumption) | assumption)
            obtain ⟨ad229, e229, hx229_0⟩ := Kd.at_string (Kd.R_reads' HO_3.out).2.2 x4_1 p229 q229
            cases e229
            replace p229 := eq_true p229
            replace q229 := eq_true q229
            go_wp2_with (first | ((with_reducible refine gate_callee (f := 37) rfl ?_); refine goesL_ (some 17) rfl rfl Try.func37 (by kernel_rfl) rfl #[.string (rdOf ByteArray.empty t226 x4_1)] rfl (by (try simp only [List.map_toArray, List.map_cons, List.map_nil]); first | done | rfl | (simp only [List.length_drop, List.length_take]; rfl)) ?_; (with_reducible refine (phalaroperef01_Valid.calls k1 (rdOf ByteArray.empty t226 x4_1) true _ A8.out).mono ?_); rintro e w11 ⟨rfl, hb⟩; refine ⟨_, rfl, ?_⟩; have n0_ := Aside0.mk (Kd.R_below (by (with_reducible repeat (first | apply Kd.R_alloc | apply Kd.R_drewN | apply Kd.R_drew)); exact HO_3.out) hb); have n1_ := Aside0.mk (blk_below (g := gb225) (o := .cells #[.int .i64 a0_0, .string a0_1, .slice A0_2 l0_2.length c0_2, .slice A0_3 l0_3.length c0_3] 27 (0, 0)) (by (with_reducible repeat (first | refine blk_drewN ?_ _ | refine blk_drew ?_ | refine blk_alloc ?_ _)); exact BK225.out) hb); have n2_ := Aside0.mk (below_step (by repeat (first | (with_reducible first | exact HB.out | apply below_alloc | apply pw_below_drewN | apply below_drew1 | refine below_set ?_ GE225.out) | exact HB.out)) hb); clear HO_3; clear BK225; clear HB; have HO_3 := n0_; have BK225 := n1_; have HB := n2_; clear n0_ n1_ n2_; (try clear hb); (try clear hb2); (try clear hk); (try clear hi)))
            go_roundg k1
            case measure => have := HK1.out; omega
            case rel => exact ⟨(wrap64 (x4_1 + 1)), (by first | rfl | (simp; done) | (simp [*]; done)), H', ⟨by have := HK1.out; omega⟩, ⟨by (with_reducible repeat (first | apply Kd.R_alloc | apply Kd.R_drewN | apply Kd.R_drew)); exact HO_3.out⟩, ⟨by (with_reducible repeat (first | refine blk_drewN ?_ _ | refine blk_drew ?_ | refine blk_alloc ?_ _)); exact BK225.out⟩, ⟨by repeat (first | (with_reducible first | exact HB.out | apply below_alloc | apply pw_below_drewN | apply below_drew1 | refine below_set ?_ GE225.out) | exact HB.out)⟩⟩
          · replace c9 := Bool.eq_false_iff.mpr c9
            subst c9
            have H1 : (some false) = some r := by rw [if_neg (show ¬ (false = true) by decide)] at H; exact H
            clear H
            have H := H1
            clear H1
            obtain rfl := Option.some.inj H
            obtain ⟨Ao12, co12, eo12⟩ := Kd.R_slice HO_3.out
            subst eo12
            have p229 : 0 ≤ (x4_1 : Int) := of_decide_eq_true (by first | (with_reducible assumption) | assumption)
            have q229 : x4_1 < (t226.length : Int) := of_decide_eq_true (by first | (with_reducible assumption) | assumption)
            obtain ⟨ad229, e229, hx229_0⟩ := Kd.at_string (Kd.R_reads' HO_3.out).2.2 x4_1 p229 q229
            cases e229
            replace p229 := eq_true p229
            replace q229 := eq_true q229
            go_wp2_with (first | ((with_reducible refine gate_callee (f := 37) rfl ?_); refine goesL_ (some 17) rfl rfl Try.func37 (by kernel_rfl) rfl #[.string (rdOf ByteArray.empty t226 x4_1)] rfl (by (try simp only [List.map_toArray, List.map_cons, List.map_nil]); first | done | rfl | (simp only [List.length_drop, List.length_take]; rfl)) ?_; (with_reducible refine (phalaroperef01_Valid.calls k1 (rdOf ByteArray.empty t226 x4_1) false _ A8.out).mono ?_); rintro e w13 ⟨rfl, hb⟩; refine ⟨_, rfl, ?_⟩; have n0_ := Aside0.mk (Kd.R_below (by (with_reducible repeat (first | apply Kd.R_alloc | apply Kd.R_drewN | apply Kd.R_drew)); exact HO_3.out) hb); have n1_ := Aside0.mk (blk_below (g := gb225) (o := .cells #[.int .i64 a0_0, .string a0_1, .slice A0_2 l0_2.length c0_2, .slice A0_3 l0_3.length c0_3] 27 (0, 0)) (by (with_reducible repeat (first | refine blk_drewN ?_ _ | refine blk_drew ?_ | refine blk_alloc ?_ _)); exact BK225.out) hb); have n2_ := Aside0.mk (below_step (by repeat (first | (with_reducible first | exact HB.out | apply below_alloc | apply pw_below_drewN | apply below_drew1 | refine below_set ?_ GE225.out) | exact HB.out)) hb); clear HO_3; clear BK225; clear HB; have HO_3 := n0_; have BK225 := n1_; have HB := n2_; clear n0_ n1_ n2_; (try clear hb); (try clear hb2); (try clear hk); (try clear hi)))
            go_ret
            exact ⟨by first | rfl | (simp [errW_none, errW_some] <;> rfl) | (simp [*, errW_none, errW_some] <;> rfl), by repeat (first | (with_reducible first | exact HB.out | apply below_alloc | apply pw_below_drewN | apply below_drew1 | refine below_set ?_ GE225.out) | exact HB.out)⟩
        · rw [if_neg c7] at H
          exact absurd H (by simp)
      · rw [if_neg c6] at H
        have c6b0 : decide (x4_1 < (t226.length : Int)) = false := decide_eq_false c6
        clear c6
        obtain rfl := Option.some.inj H
        obtain ⟨Ao14, co14, eo14⟩ := Kd.R_slice HO_3.out
        subst eo14
        go_wp2
        go_ret
        exact ⟨by first | rfl | (simp [errW_none, errW_some] <;> rfl) | (simp [*, errW_none, errW_some] <;> rfl), by repeat (first | (with_reducible first | exact HB.out | apply below_alloc | apply pw_below_drewN | apply below_drew1 | refine below_set ?_ GE225.out) | exact HB.out)⟩
end Go.Proofs.Ytbjeegkmafbejaa.PE
end
section
namespace Go.Proofs.Ytbjeegkmafbejaa.PE
set_option linter.unusedSimpArgs false
set_option linter.unusedVariables false
open Go.RowKit Go.Proofs.YtbjeegkmafbejaaW.PrintWords Go.Proofs.YtbjeegkmafbejaaW.PrintLast Y
def encL (c : Nat) : List Nat := if c < 128 then [c] else if c < 2048 then [192 + c / 64, 128 + c % 64] else if c < 65536 then [224 + c / 4096, 128 + c / 64 % 64, 128 + c % 64] else [240 + c / 262144, 128 + c / 4096 % 64, 128 + c / 64 % 64, 128 + c % 64]
theorem encL_lt (c : Nat) (hc : c ≤ 1114111) : ∀ x ∈ encL c, x < 256 := by
  intro x hx
  unfold encL at hx
  split at hx
  · simp at hx; omega
  split at hx
  · simp at hx; omega
  split at hx
  · simp at hx; omega
  · simp at hx; omega
theorem tail_l0 (k : Nat) (c : Nat) (hc : c ≤ 1114111) (m i : Nat) (hm : i ≤ m) (h3 : m ≤ 3) (hk : m - i < k) : phalaroperef01_tail.l0 k (c : Int) (m : Int) (i : Int) = some ((128 + c / 64 ^ (m - i) % 64 : Nat) : Int) := by
  induction k generalizing c i with
  | zero => omega
  | succ k ih =>
    simp only [phalaroperef01_tail.l0]
    by_cases h : i < m
    · rw [if_pos (by omega), show (64 : Int) = ((64 : Nat) : Int) from rfl, tdiv64, w64 _ (by omega) (by have : c / 64 ≤ c := Nat.div_le_self _ _; omega),
        show wrap64 ((i : Int) + 1) = ((i + 1 : Nat) : Int) from w64 _ (by omega) (by omega), ih (c / 64) (by have : c / 64 ≤ c := Nat.div_le_self _ _; omega) (i + 1) (by omega) (by omega)]
      congr 3
      rw [Nat.div_div_eq_div_mul, ← Nat.pow_succ', show (m - (i + 1)).succ = m - i from by omega]
    · rw [if_neg (by omega), show (64 : Int) = ((64 : Nat) : Int) from rfl, tmod64, w64 _ (by omega) (by omega), show m - i = 0 from by omega]
      congr 1
      rw [Nat.pow_zero, Nat.div_one]
      omega
theorem tail_f (k c : Nat) (hc : c ≤ 1114111) (m : Nat) (h3 : m ≤ 3) (hk : m < k) : phalaroperef01_tail.f k (c : Int) (m : Int) = some ((128 + c / 64 ^ m % 64 : Nat) : Int) := by
  have := tail_l0 k c hc m 0 (by omega) h3 (by omega)
  simpa [phalaroperef01_tail.f] using this
theorem one_f (k c : Nat) (hc : c ≤ 1114111) (hk : 3 < k) : phalaroperef01_One.f k (c : Int) = some (strOfNums ((encL c).map fun (n : Nat) => (n : Int))) := by
  have t0 := tail_f k c hc 0 (by omega) (by omega)
  have t1 := tail_f k c hc 1 (by omega) (by omega)
  have t2 := tail_f k c hc 2 (by omega) (by omega)
  unfold phalaroperef01_One.f encL
  by_cases h1 : c < 128
  · rw [if_pos (by omega), if_pos h1]
    congr 2
    simp only [List.map_cons, List.map_nil, List.cons.injEq, and_true]
    omega
  rw [if_neg (by omega), if_neg h1]
  by_cases h2 : c < 2048
  · rw [if_pos (by omega), if_pos h2, show (0 : Int) = ((0 : Nat) : Int) from rfl, t0]
    simp only [Option.bind_some]
    congr 2
    rw [show (64 : Int) = ((64 : Nat) : Int) from rfl, tdiv64, w64 ((c / 64 : Nat) : Int) (by omega) (by omega), w64 _ (by omega) (by omega)]
    simp only [List.map_cons, List.map_nil, List.cons.injEq, and_true]
    constructor
    · omega
    · simp
  rw [if_neg (by omega), if_neg h2]
  by_cases h3 : c < 65536
  · rw [if_pos (by omega), if_pos h3, show (0 : Int) = ((0 : Nat) : Int) from rfl, t0, show (1 : Int) = ((1 : Nat) : Int) from rfl, t1]
    simp only [Option.bind_some]
    congr 2
    rw [show (4096 : Int) = ((4096 : Nat) : Int) from rfl, tdiv64, w64 ((c / 4096 : Nat) : Int) (by omega) (by omega), w64 _ (by omega) (by omega)]
    simp only [List.map_cons, List.map_nil, List.cons.injEq, and_true]
    refine ⟨by omega, by simp, by simp⟩
  · rw [if_neg (by omega), if_neg h3, show (0 : Int) = ((0 : Nat) : Int) from rfl, t0, show (1 : Int) = ((1 : Nat) : Int) from rfl, t1, show (2 : Int) = ((2 : Nat) : Int) from rfl, t2]
    simp only [Option.bind_some]
    congr 2
    rw [show (262144 : Int) = ((262144 : Nat) : Int) from rfl, tdiv64, w64 ((c / 262144 : Nat) : Int) (by omega) (by omega), w64 _ (by omega) (by omega)]
    simp only [List.map_cons, List.map_nil, List.cons.injEq, and_true]
    refine ⟨by omega, by simp, by simp, by simp⟩
def bytesN (s : ByteArray) (n : Nat) : List Nat := (List.range n).map (byteAt s)
theorem toNat_inj_list {a b : List UInt8} (h : a.map UInt8.toNat = b.map UInt8.toNat) : a = b := by
  induction a generalizing b with
  | nil => cases b with
    | nil => rfl
    | cons y b => simp at h
  | cons x a ih => cases b with
    | nil => simp at h
    | cons y b =>
      simp only [List.map_cons, List.cons.injEq] at h
      rw [UInt8.toNat_inj.1 h.1, ih h.2]
theorem extract_nats (s : ByteArray) (n : Nat) (h : n ≤ s.size) : (s.extract 0 n).toList.map UInt8.toNat = bytesN s n := by
  rw [ByteArray.toList_eq]
  have hs : s.data.size = s.size := rfl
  apply List.ext_getElem
  · simp [ByteArray.data_extract, bytesN]; omega
  · intro i h1 h2
    have hi : i < n := by simpa [bytesN] using h2
    simp only [bytesN, List.getElem_map, List.getElem_range]
    unfold byteAt
    rw [get!_at s i (by omega)]
    simp [ByteArray.data_extract]
theorem same_text (s : ByteArray) (l : List Nat) (hl : ∀ x ∈ l, x < 256) (n : Nat) (h : n ≤ s.size) : ((strOfNums (l.map fun (n : Nat) => (n : Int))).toList = (s.extract 0 n).toList) = (l = bytesN s n) := by
  have e : (strOfNums (l.map fun (n : Nat) => (n : Int))).toList.map UInt8.toNat = l := by
    rw [ByteArray.toList_eq, strOfNums_data, List.map_map, List.map_map]
    conv => rhs; rw [← List.map_id l]
    refine List.map_congr_left fun x hx => ?_
    have := hl x hx
    simp
    omega
  rw [eq_iff_iff]
  constructor
  · intro he; rw [← e, he, extract_nats s n h]
  · intro he; exact toNat_inj_list (by rw [e, extract_nats s n h]; exact he)
def tst (s : ByteArray) (n c : Nat) : Prop := mayC (c : Int) = true ∧ encL c = bytesN s n
instance (s : ByteArray) (n c : Nat) : Decidable (tst s n c) := by unfold tst; infer_instance
theorem mayC_le {c : Nat} (h : mayC (c : Int) = true) : c ≤ 1114111 := by
  unfold mayC at h
  rw [Bool.and_eq_true, Bool.and_eq_true, decide_eq_true_iff, decide_eq_true_iff] at h
  omega
theorem j3_step (s : ByteArray) (k n c : Nat) (hk : 3 < k) (hn : n ≤ s.size) (hn4 : n ≤ 4) : phalaroperef01_First.j3 (k + 1) s (c : Int) (n : Int) = if tst s n c then some ((c : Int), (n : Int)) else phalaroperef01_First.l0 k s (c : Int) ((n + 1 : Nat) : Int) := by
  simp only [phalaroperef01_First.j3]
  rw [may_f]
  simp only [Option.bind_some]
  have hw : wrap64 ((n : Int) + 1) = ((n + 1 : Nat) : Int) := w64 _ (by omega) (by omega)
  by_cases hm : mayC (c : Int) = true
  · rw [if_pos hm, one_f k c (mayC_le hm) hk]
    simp only [Option.bind_some]
    rw [if_pos (by omega), if_pos (by omega), Int.toNat_natCast, hw]
    by_cases ht : encL c = bytesN s n
    · rw [if_pos (by rw [same_text s _ (encL_lt c (mayC_le hm)) n hn]; exact ht), if_pos ⟨hm, ht⟩]
    · rw [if_neg (by rw [same_text s _ (encL_lt c (mayC_le hm)) n hn]; exact ht), if_neg (fun h => ht h.2)]
  · rw [if_neg hm, hw, if_neg (fun h => hm h.1)]
theorem l0_step (s : ByteArray) (k n c : Nat) (hk : 3 < k) (hn2 : 2 ≤ n) (hc : c ≤ 100000000) : phalaroperef01_First.l0 (k + 3) s (c : Int) (n : Int) =
    if n ≤ 4 ∧ n ≤ s.size then (if tst s n (64 * c + byteAt s (n - 1) % 64) then some (((64 * c + byteAt s (n - 1) % 64 : Nat) : Int), (n : Int)) else phalaroperef01_First.l0 k s ((64 * c + byteAt s (n - 1) % 64 : Nat) : Int) ((n + 1 : Nat) : Int)) else some (0, 0) := by
  have hb := byteAt_lt s (n - 1)
  simp only [phalaroperef01_First.l0]
  by_cases h4 : n ≤ 4
  · rw [if_pos (by omega)]
    by_cases hs : n ≤ s.size
    · rw [if_pos ⟨h4, hs⟩]
      simp only [phalaroperef01_First.j1]
      have hw : wrap64 ((n : Int) - 1) = ((n - 1 : Nat) : Int) := by rw [w64 _ (by omega) (by omega)]; omega
      rw [if_pos (decide_eq_true (by omega)), hw, if_pos (by omega), if_pos (by omega), if_neg (by omega), bt_byteAt, w64 (byteAt s (n - 1) : Int) (by omega) (by omega), show (64 : Int) = ((64 : Nat) : Int) from rfl, tmod64, w64 (((64 : Nat) : Int) * (c : Int)) (by omega) (by omega), w64 _ (by omega) (by omega)]
      rw [show (((64 : Nat) : Int) * (c : Int) + ((byteAt s (n - 1) % 64 : Nat) : Int)) = ((64 * c + byteAt s (n - 1) % 64 : Nat) : Int) from by omega]
      exact j3_step s k n _ hk hs h4
    · rw [if_neg (fun h => hs h.2)]
      simp only [phalaroperef01_First.j1]
      rw [if_neg (by rw [decide_eq_true_iff]; omega)]
  · rw [if_neg (by omega), if_neg (fun h => h4 h.1)]
    simp only [phalaroperef01_First.j1]
    rw [if_neg (by decide)]
def lead (b : Nat) : Nat := if b < 192 then b else if b < 224 then b - 192 else if b < 240 then b - 224 else b - 240
theorem l0_first (s : ByteArray) (k : Nat) (hk : 3 < k) : phalaroperef01_First.l0 (k + 4) s 0 1 =
    if 1 ≤ s.size then (if tst s 1 (lead (byteAt s 0)) then some ((lead (byteAt s 0) : Int), 1) else phalaroperef01_First.l0 k s (lead (byteAt s 0) : Int) 2) else some (0, 0) := by
  have hb := byteAt_lt s 0
  simp only [phalaroperef01_First.l0]
  rw [if_pos (by omega)]
  by_cases hs : 1 ≤ s.size
  · rw [if_pos hs]
    simp only [phalaroperef01_First.j1]
    have hw : wrap64 ((1 : Int) - 1) = ((0 : Nat) : Int) := by rw [w64 _ (by omega) (by omega)]; rfl
    have hbt : wrap64 (bt s ((0 : Nat) : Int)) = (byteAt s 0 : Int) := by rw [bt_byteAt, w64 _ (by omega) (by omega)]
    rw [if_pos (decide_eq_true (by omega)), hw, if_pos (by omega), if_pos (by omega), if_pos trivial, hbt]
    have j := fun c => j3_step s k 1 c hk hs (by omega)
    unfold lead
    by_cases h1 : byteAt s 0 < 192
    · rw [if_neg (by omega), if_pos h1]
      simp only [phalaroperef01_First.j2]
      rw [if_neg (by omega), if_neg (by omega)]
      exact j _
    · rw [if_pos (by omega), if_neg h1]
      simp only [phalaroperef01_First.j2]
      by_cases h2 : byteAt s 0 < 224
      · rw [if_neg (by omega), if_neg (by omega), if_pos h2, w64 _ (by omega) (by omega), show ((byteAt s 0 : Int) - 192) = ((byteAt s 0 - 192 : Nat) : Int) from by omega]
        exact j _
      · rw [if_pos (by omega), if_neg h2]
        by_cases h3 : byteAt s 0 < 240
        · rw [if_neg (by omega), if_pos h3, w64 _ (by omega) (by omega), show ((byteAt s 0 : Int) - 224) = ((byteAt s 0 - 224 : Nat) : Int) from by omega]
          exact j _
        · rw [if_pos (by omega), if_neg h3, w64 _ (by omega) (by omega), show ((byteAt s 0 : Int) - 240) = ((byteAt s 0 - 240 : Nat) : Int) from by omega]
          exact j _
  · rw [if_neg hs]
    simp only [phalaroperef01_First.j1]
    rw [if_neg (by rw [decide_eq_true_iff]; omega)]
theorem bytesN_1 (s : ByteArray) : bytesN s 1 = [byteAt s 0] := rfl
theorem bytesN_2 (s : ByteArray) : bytesN s 2 = [byteAt s 0, byteAt s 1] := rfl
theorem bytesN_3 (s : ByteArray) : bytesN s 3 = [byteAt s 0, byteAt s 1, byteAt s 2] := rfl
theorem bytesN_4 (s : ByteArray) : bytesN s 4 = [byteAt s 0, byteAt s 1, byteAt s 2, byteAt s 3] := rfl
theorem mayC_nat (c : Nat) : mayC (c : Int) = true ↔ (c ≤ 1114111 ∧ (c < 55296 ∨ 57343 < c)) := by
  unfold mayC
  rw [Bool.and_eq_true, Bool.and_eq_true, Bool.or_eq_true, decide_eq_true_iff, decide_eq_true_iff, decide_eq_true_iff, decide_eq_true_iff]
  omega
theorem encL_forms (c : Nat) : (c < 128 ∧ encL c = [c]) ∨ (128 ≤ c ∧ c < 2048 ∧ encL c = [192 + c / 64, 128 + c % 64]) ∨ (2048 ≤ c ∧ c < 65536 ∧ encL c = [224 + c / 4096, 128 + c / 64 % 64, 128 + c % 64]) ∨ (65536 ≤ c ∧ encL c = [240 + c / 262144, 128 + c / 4096 % 64, 128 + c / 64 % 64, 128 + c % 64]) := by
  unfold encL
  by_cases h1 : c < 128
  · exact .inl ⟨h1, if_pos h1⟩
  by_cases h2 : c < 2048
  · exact .inr (.inl ⟨by omega, h2, by rw [if_neg h1, if_pos h2]⟩)
  by_cases h3 : c < 65536
  · exact .inr (.inr (.inl ⟨by omega, h3, by rw [if_neg h1, if_neg h2, if_pos h3]⟩))
  · exact .inr (.inr (.inr ⟨by omega, by rw [if_neg h1, if_neg h2, if_neg h3]⟩))
theorem tst1 (s : ByteArray) (c : Nat) : tst s 1 c ↔ (c < 128 ∧ byteAt s 0 = c) := by
  unfold tst
  rw [mayC_nat, bytesN_1]
  rcases encL_forms c with ⟨h, e⟩ | ⟨h, h', e⟩ | ⟨h, h', e⟩ | ⟨h, e⟩ <;> rw [e] <;> simp only [List.cons.injEq, and_true, reduceCtorEq, and_false, false_iff, List.cons_ne_nil] <;> omega
theorem tst2 (s : ByteArray) (c : Nat) : tst s 2 c ↔ (128 ≤ c ∧ c < 2048 ∧ byteAt s 0 = 192 + c / 64 ∧ byteAt s 1 = 128 + c % 64) := by
  unfold tst
  rw [mayC_nat, bytesN_2]
  rcases encL_forms c with ⟨h, e⟩ | ⟨h, h', e⟩ | ⟨h, h', e⟩ | ⟨h, e⟩ <;> rw [e] <;> simp only [List.cons.injEq, and_true, reduceCtorEq, and_false, false_iff, List.cons_ne_nil] <;> omega
theorem tst3 (s : ByteArray) (c : Nat) : tst s 3 c ↔ (2048 ≤ c ∧ c < 65536 ∧ (c < 55296 ∨ 57343 < c) ∧ byteAt s 0 = 224 + c / 4096 ∧ byteAt s 1 = 128 + c / 64 % 64 ∧ byteAt s 2 = 128 + c % 64) := by
  unfold tst
  rw [mayC_nat, bytesN_3]
  rcases encL_forms c with ⟨h, e⟩ | ⟨h, h', e⟩ | ⟨h, h', e⟩ | ⟨h, e⟩ <;> rw [e] <;> simp only [List.cons.injEq, and_true, reduceCtorEq, and_false, false_iff, List.cons_ne_nil] <;> omega
theorem tst4 (s : ByteArray) (c : Nat) : tst s 4 c ↔ (65536 ≤ c ∧ c ≤ 1114111 ∧ byteAt s 0 = 240 + c / 262144 ∧ byteAt s 1 = 128 + c / 4096 % 64 ∧ byteAt s 2 = 128 + c / 64 % 64 ∧ byteAt s 3 = 128 + c % 64) := by
  unfold tst
  rw [mayC_nat, bytesN_4]
  rcases encL_forms c with ⟨h, e⟩ | ⟨h, h', e⟩ | ⟨h, h', e⟩ | ⟨h, e⟩ <;> rw [e] <;> simp only [List.cons.injEq, and_true, reduceCtorEq, and_false, false_iff, List.cons_ne_nil] <;> omega
def firstS (s : ByteArray) : Int × Int := if s.size = 0 ∨ badAt s 0 = true then (0, 0) else (((Utf8.decode s 0).1 : Int), ((Utf8.decode s 0).2 : Int))
theorem lead_le (b : Nat) (h : b < 256) : lead b ≤ 255 := by unfold lead; split <;> (try split) <;> (try split) <;> omega
set_option maxHeartbeats 4000000 in
theorem first_f (s : ByteArray) (k : Nat) (hk : 20 < k) : phalaroperef01_First.f k s = some (firstS s) := by
  have u0 := byteAt_lt s 0
  have u1 := byteAt_lt s 1
  have u2 := byteAt_lt s 2
  have u3 := byteAt_lt s 3
  have hl := lead_le _ u0
  unfold phalaroperef01_First.f
  obtain ⟨k, rfl⟩ : ∃ m, k = m + 9 + 4 := ⟨k - 13, by omega⟩
  rw [l0_first s (k + 9) (by omega)]
  have e2 : ∀ c : Nat, c ≤ 255 → phalaroperef01_First.l0 (k + 9) s (c : Int) 2 = _ := fun c hc => l0_step s (k + 6) 2 c (by omega) (by omega) (by omega)
  have e3 : ∀ c : Nat, c ≤ 20000 → phalaroperef01_First.l0 (k + 6) s (c : Int) ((2 + 1 : Nat) : Int) = _ := fun c hc => l0_step s (k + 3) 3 c (by omega) (by omega) (by omega)
  have e4 : ∀ c : Nat, c ≤ 2000000 → phalaroperef01_First.l0 (k + 3) s (c : Int) ((3 + 1 : Nat) : Int) = _ := fun c hc => l0_step s k 4 c (by omega) (by omega) (by omega)
  have e5 : ∀ c : Nat, phalaroperef01_First.l0 k s (c : Int) ((4 + 1 : Nat) : Int) = some (0, 0) := fun c => by
    obtain ⟨k, rfl⟩ : ∃ m, k = m + 2 := ⟨k - 2, by omega⟩
    simp only [phalaroperef01_First.l0]
    rw [if_neg (by omega)]
    simp only [phalaroperef01_First.j1]
    rw [if_neg (by decide)]
  unfold firstS
  by_cases hs : s.size = 0
  · rw [if_neg (by omega), if_pos (.inl hs)]
  rw [if_pos (by omega), e2 _ hl]
  obtain ⟨c1, hc1⟩ : ∃ c1, c1 = lead (byteAt s 0) := ⟨_, rfl⟩
  rw [← hc1] at hl ⊢
  have hc1' : (byteAt s 0 < 192 ∧ c1 = byteAt s 0) ∨ (192 ≤ byteAt s 0 ∧ byteAt s 0 < 224 ∧ c1 = byteAt s 0 - 192) ∨ (224 ≤ byteAt s 0 ∧ byteAt s 0 < 240 ∧ c1 = byteAt s 0 - 224) ∨ (240 ≤ byteAt s 0 ∧ c1 = byteAt s 0 - 240) := by
    rw [hc1]; unfold lead; split
    · omega
    split
    · omega
    split <;> omega
  clear hc1
  rw [show 2 - 1 = 1 from rfl, e3 _ (by omega), show 3 - 1 = 2 from rfl, e4 _ (by omega), show 4 - 1 = 3 from rfl, e5]
  clear e2 e3 e4 e5
  obtain ⟨c2, hc2⟩ : ∃ c2, c2 = 64 * c1 + byteAt s 1 % 64 := ⟨_, rfl⟩
  rw [← hc2]
  obtain ⟨c3, hc3⟩ : ∃ c3, c3 = 64 * c2 + byteAt s 2 % 64 := ⟨_, rfl⟩
  rw [← hc3]
  obtain ⟨c4, hc4⟩ : ∃ c4, c4 = 64 * c3 + byteAt s 3 % 64 := ⟨_, rfl⟩
  rw [← hc4]
  have bad_no : ∀ c n : Nat, Utf8.decode s 0 = (c, n) → (n ≠ 1 ∨ c ≠ 65533) → ¬ (s.size = 0 ∨ badAt s 0 = true) := by
    intro c n e h h'
    rcases h' with h' | h'
    · exact hs h'
    · unfold badAt at h'
      rw [e, Bool.and_eq_true, beq_iff_eq, beq_iff_eq] at h'
      rcases h with h | h
      · exact h h'.2
      · exact h h'.1
  have ha := decode_arms s 0
  rw [show 0 + 1 = 1 from rfl, show 0 + 2 = 2 from rfl, show 0 + 3 = 3 from rfl] at ha
  rcases ha with ⟨h0, e⟩ | ⟨c, h0, h1, h2, h3, h4, e⟩ | ⟨c, h0, h1, h2, h3, h4, h5, h6, e⟩ | ⟨c, h0, h1, h2, h3, h4, h5, h6, h7, e⟩ | ⟨e, g0, g2, g3, g4⟩
  · rw [if_pos ((tst1 s c1).2 (by omega)), if_neg (bad_no _ _ e (.inr (by omega))), e]
    have : c1 = byteAt s 0 := by omega
    rw [this]; rfl
  · have q : c2 = c := by omega
    rw [if_neg (fun h => by have := (tst1 s c1).1 h; omega), if_pos (by omega), if_pos ((tst2 s c2).2 (by omega)), if_neg (bad_no _ _ e (.inl (by omega))), e, q]
    try rfl
  · have q : c3 = c := by omega
    rw [if_neg (fun h => by have := (tst1 s c1).1 h; omega), if_pos (by omega), if_neg (fun h => by have := (tst2 s c2).1 h; omega), if_pos (by omega), if_pos ((tst3 s c3).2 (by omega)), if_neg (bad_no _ _ e (.inl (by omega))), e, q]
    try rfl
  · have q : c4 = c := by omega
    rw [if_neg (fun h => by have := (tst1 s c1).1 h; omega), if_pos (by omega), if_neg (fun h => by have := (tst2 s c2).1 h; omega), if_pos (by omega), if_neg (fun h => by have := (tst3 s c3).1 h; omega), if_pos (by omega), if_pos ((tst4 s c4).2 (by omega)), if_neg (bad_no _ _ e (.inl (by omega))), e, q]
    try rfl
  · have hb : badAt s 0 = true := by unfold badAt; rw [e]; rfl
    rw [if_pos (show s.size = 0 ∨ badAt s 0 = true from .inr hb), if_neg (show ¬ tst s 1 c1 from fun h => by have := (tst1 s c1).1 h; omega)]
    by_cases s2 : 2 ≤ 4 ∧ 2 ≤ s.size
    · rw [if_pos s2, if_neg (fun h => by have := (tst2 s c2).1 h; clear g3 g4 h hc3 hc4; omega)]
      by_cases s3 : 3 ≤ 4 ∧ 3 ≤ s.size
      · rw [if_pos s3, if_neg (fun h => by have := (tst3 s c3).1 h; clear g2 g4 h hc4; omega)]
        by_cases s4 : 4 ≤ 4 ∧ 4 ≤ s.size
        · rw [if_pos s4, if_neg (fun h => by have := (tst4 s c4).1 h; clear g2 g3 h; omega)]
        · rw [if_neg s4]
      · rw [if_neg s3]
    · rw [if_neg s2]
theorem extract_size (s : ByteArray) (p : Nat) : (s.extract p s.size).size = s.size - p := by
  have hs : s.data.size = s.size := rfl
  show (s.extract p s.size).data.size = _
  rw [ByteArray.data_extract, Array.size_extract]
  omega
theorem extract_byteAt (s : ByteArray) (p i : Nat) : byteAt (s.extract p s.size) i = byteAt s (p + i) := by
  by_cases h : p + i < s.size
  · have h1 : i < (s.extract p s.size).size := by rw [extract_size]; omega
    unfold byteAt
    rw [get!_at _ _ h1, get!_at _ _ h]
    congr 1
    simp [ByteArray.data_extract]
  · rw [get!_out _ _ h, get!_out _ _ (by rw [extract_size]; omega)]
theorem decode_extract (s : ByteArray) (p : Nat) : Utf8.decode (s.extract p s.size) 0 = Utf8.decode s p := by
  have b := fun i => extract_byteAt s p i
  have hz : ∀ i, decide (0 + i < (s.extract p s.size).size) = decide (p + i < s.size) := fun i => by rw [extract_size]; exact decide_eq_decide.2 (by omega)
  unfold byteAt at b
  unfold Utf8.decode
  simp only [hz]
  simp only [Nat.zero_add, b, Nat.add_zero]
theorem badAt_extract (s : ByteArray) (p : Nat) : badAt (s.extract p s.size) 0 = badAt s p := by unfold badAt; rw [decode_extract]
theorem begin_l0 (s : ByteArray) (hs : s.size ≤ 1000000) (f : Nat) : ∀ (k p : Nat) (acc : List Int), s.size ≤ p + f → p ≤ s.size → acc.length ≤ p → f + 25 < k →
    phalaroperef01_Begin.l0 k s acc (p : Int) = some (acc ++ (charsFrom s f p).1, ((charsFrom s f p).2 : Int)) := by
  induction f with
  | zero =>
    intro k p acc h1 h2 h3 hk
    obtain ⟨k, rfl⟩ : ∃ m, k = m + 1 := ⟨k - 1, by omega⟩
    simp only [phalaroperef01_Begin.l0, charsFrom]
    rw [if_neg (by omega), List.append_nil]
  | succ f ih =>
    intro k p acc h1 h2 h3 hk
    obtain ⟨k, rfl⟩ : ∃ m, k = m + 1 := ⟨k - 1, by omega⟩
    simp only [phalaroperef01_Begin.l0]
    by_cases hp : p < s.size
    · rw [if_pos (by omega), if_pos (by omega), if_pos (by omega), Int.toNat_natCast, first_f _ k (by omega)]
      have hF : firstS (s.extract p s.size) = if badAt s p = true then (0, 0) else (((Utf8.decode s p).1 : Int), ((Utf8.decode s p).2 : Int)) := by
        unfold firstS
        rw [extract_size, badAt_extract, decode_extract]
        by_cases hb : badAt s p = true
        · rw [if_pos (.inr hb), if_pos hb]
        · rw [if_neg (fun h => by rcases h with h | h; (· omega); exact hb h), if_neg hb]
      rw [hF]
      by_cases hb : badAt s p = true
      · rw [if_pos hb]
        simp only [Option.bind_some]
        rw [if_pos trivial, charsFrom_bad s _ p hb, List.append_nil]
      · have hb' : badAt s p = false := by simpa using hb
        have hd := decode_in s p hp
        have hd2 := decode_pos s p
        rw [if_neg hb]
        simp only [Option.bind_some]
        rw [if_neg (by omega), if_pos (by omega)]
        rw [show wrap64 ((p : Int) + ((Utf8.decode s p).2 : Int)) = ((p + (Utf8.decode s p).2 : Nat) : Int) from w64 _ (by omega) (by omega),
          ih k _ _ (by omega) hd (by rw [List.length_append, List.length_singleton]; omega) (by omega), charsFrom_go s f p hp hb', List.append_assoc]
        rfl
    · rw [if_neg (by omega), charsFrom_end s _ p hp, List.append_nil]
theorem begin_f (s : ByteArray) (hs : s.size ≤ 1000000) (k : Nat) (hk : s.size + 25 < k) : phalaroperef01_Begin.f k s = some (chars s, (badPos s : Int)) := by
  have := begin_l0 s hs s.size k 0 [] (by omega) (by omega) (by simp) hk
  rw [List.nil_append] at this
  exact this
theorem charsFrom_le (s : ByteArray) (f : Nat) : ∀ p, p ≤ s.size → (charsFrom s f p).2 ≤ s.size := by
  induction f with
  | zero => intro p h; exact h
  | succ f ih =>
    intro p h
    simp only [charsFrom]
    split
    · rename_i hp
      split
      · exact h
      · exact ih _ (decode_in s p hp)
    · exact h
theorem badPos_le (s : ByteArray) : badPos s ≤ s.size := charsFrom_le s s.size 0 (by omega)
theorem validS_iff (s : ByteArray) : validS s = true ↔ badPos s = s.size := by
  unfold validS; rw [decide_eq_true_iff]; have := badPos_le s; omega
theorem valid_f (s : ByteArray) (hs : s.size ≤ 1000000) (k : Nat) (hk : s.size + 25 < k) : phalaroperef01_Valid.f k s = some (validS s) := by
  unfold phalaroperef01_Valid.f
  rw [begin_f s hs k hk]
  simp only [Option.bind_some]
  congr 1
  cases hv : validS s with
  | true => rw [(validS_iff s).1 hv]; simp
  | false =>
    rw [beq_eq_false_iff_ne]
    intro h
    have := (validS_iff s).2 (by omega)
    rw [hv] at this; cases this
end Go.Proofs.Ytbjeegkmafbejaa.PE
end
