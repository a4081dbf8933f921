-- Printed by wip/xprint.py of this claim's authors, over the kit's print; not trusted: Lean checks it.
import Derived.Test.YtaigmfkgobklbaaPBx0
import Derived.Test.YtaigmfkgobklbaaPBx1
import Derived.Test.YtaigmfkgobklbaaPBx2
import Derived.Test.YtaigmfkgobklbaaPBx3
namespace Go.Proofs.Ytaigmfkgobklbaa.PB
open Go.RowKit Go.Proofs.YtaigmfkgobklbaaW.PrintWords Go.Proofs.YtaigmfkgobklbaaW.PrintLast Go.Proofs.YtaigmfkgobklbaaW.PrintMore
attribute [local go_sem] max2_int min2_int max_two min_two max_three min_three max_four min_four   -- for this text's walks alone
set_option linter.unusedVariables false
set_option linter.unusedSimpArgs false

/-! ### schema_In: function 9 (ours) -/
/-- A value's texts. -/
def textsOf (k : Int) (s : ByteArray) (l : List ByteArray) (p : List S44) : List ByteArray :=
  if k = 1 then [s] else if k = 2 then l else if k = 3 then p.flatMap (fun x => [x.f0, x.f1]) else []
/-- Are a value's parts of a moderate size? -/
def modest (s : ByteArray) (l : List ByteArray) (p : List S44) : Prop :=
  s.size ≤ 1000000 ∧ l.length ≤ 100000 ∧ p.length ≤ 100000 ∧ (∀ x ∈ l, x.size ≤ 1000000) ∧ ∀ x ∈ p, x.f0.size ≤ 1000000 ∧ x.f1.size ≤ 1000000
instance (s : ByteArray) (l : List ByteArray) (p : List S44) : Decidable (modest s l p) := by unfold modest; infer_instance
theorem rd_at (xs : List S44) (k : Nat) (h : k < xs.length) : rd_T44 xs (k : Int) = xs[k] := by
  unfold rd_T44; rw [Int.toNat_natCast, List.getD_eq_getElem?_getD, List.getElem?_eq_getElem h]; rfl
theorem texts_l0 (p : List S44) (hp : p.length ≤ 100000) (d : Nat) : ∀ (k : Nat) (i : Nat) (acc : List ByteArray), i + d = p.length → d < k → acc.length + 2 * d ≤ 200000 →
    value_Texts.l0 k acc p (p.length : Int) (i : Int) = some (acc ++ (p.drop i).flatMap (fun x => [x.f0, x.f1])) := by
  induction d with
  | zero =>
    intro k i acc hi hk ha
    obtain ⟨k, rfl⟩ : ∃ m, k = m + 1 := ⟨k - 1, by omega⟩
    simp only [value_Texts.l0]
    rw [if_neg (by omega), List.drop_eq_nil_of_le (by omega)]
    simp
  | succ d ih =>
    intro k i acc hi hk ha
    obtain ⟨k, rfl⟩ : ∃ m, k = m + 1 := ⟨k - 1, by omega⟩
    simp only [value_Texts.l0]
    rw [if_pos (by omega), if_pos (by omega), if_pos (by omega), rd_at p i (by omega)]
    simp only [Option.bind_some, List.length_cons, List.length_nil]
    rw [if_pos (by omega), show wrap64 ((i : Int) + 1) = ((i + 1 : Nat) : Int) from by unfold wrap64; omega,
      ih k (i + 1) _ (by omega) (by omega) (by rw [List.length_append]; simp; omega), List.drop_eq_getElem_cons (show i < p.length by omega), List.flatMap_cons, List.append_assoc]
theorem texts_f (k : Nat) (vk : Int) (s : ByteArray) (l : List ByteArray) (p : List S44) (hm : modest s l p) (hk : p.length < k) : value_Texts.f k vk s l p = some (textsOf vk s l p) := by
  obtain ⟨_, hl, hp, _, _⟩ := hm
  unfold value_Texts.f textsOf
  by_cases h1 : vk = 1
  · rw [if_pos h1, if_pos h1]
  rw [if_neg h1, if_neg h1]
  by_cases h2 : vk = 2
  · rw [if_pos h2, if_pos h2]; unfold slices_Clone_string_string.f; rw [if_pos (by omega)]; rfl
  rw [if_neg h2, if_neg h2]
  by_cases h3 : vk = 3
  · rw [if_pos h3, if_pos h3]
    have := texts_l0 p hp p.length k 0 [] (by omega) hk (by simp; omega)
    simpa using this
  · rw [if_neg h3, if_neg h3]
theorem texts_small {vk : Int} {s : ByteArray} {l : List ByteArray} {p : List S44} (hm : modest s l p) : (textsOf vk s l p).length ≤ 1000000 ∧ ∀ x ∈ textsOf vk s l p, x.size ≤ 1000000 := by
  obtain ⟨hs, hl, hp, hl2, hp2⟩ := hm
  unfold textsOf
  split
  · exact ⟨by simp, fun x hx => by rw [List.mem_singleton.1 hx]; exact hs⟩
  split
  · exact ⟨by omega, hl2⟩
  split
  · refine ⟨?_, fun x hx => ?_⟩
    · have : ∀ q : List S44, (q.flatMap (fun x => [x.f0, x.f1])).length = 2 * q.length := fun q => by
        induction q with
        | nil => rfl
        | cons a q ih => rw [List.flatMap_cons, List.length_append, ih]; simp; omega
      rw [this]; omega
    · obtain ⟨y, hy, hx⟩ := List.mem_flatMap.1 hx
      obtain ⟨h0, h1⟩ := hp2 y hy
      simp at hx
      rcases hx with rfl | rfl <;> assumption
  · exact ⟨by simp, fun x hx => by simp at hx⟩
/-- Is a value as a schema says? -/
def inV (kd cl mx vk : Int) (s : ByteArray) (l : List ByteArray) (p : List S44) : Bool :=
  (vk == kd && decide (0 < (textsOf vk s l p).length)) && !(textsOf vk s l p).any fun t => !X.fitsS cl mx t
def schema_In.f (a0_0 : ByteArray) (a0_1 : Int) (a0_2 : Bool) (a0_3 : Int) (a0_4 : Int) (a1_0 : Int) (a1_1 : ByteArray) (l1_2 : List ByteArray) (l1_3 : List (S44)) : Option (Bool) := if modest a1_1 l1_2 l1_3 then some (inV a0_1 a0_3 a0_4 a1_0 a1_1 l1_2 l1_3) else none
set_option maxHeartbeats 8000000 in
set_option maxRecDepth 100000 in
theorem schema_In.calls (a0_0 : ByteArray) (a0_1 : Int) (a0_2 : Bool) (a0_3 : Int) (a0_4 : Int) (a1_0 : Int) (a1_1 : ByteArray) (A1_2 : Option Addr) (c1_2 : Nat) (l1_2 : List ByteArray) (A1_3 : Option Addr) (c1_3 : Nat) (l1_3 : List (S44)) (r : Bool) (w : World) (hr1_2 : Kd.C Kd.string w A1_2 l1_2.length l1_2) (hc1_2 : l1_2.length ≤ c1_2) (hr1_3 : Kd.C k44 w A1_3 l1_3.length l1_3) (hc1_3 : l1_3.length ≤ c1_3) (h : schema_In.f a0_0 a0_1 a0_2 a0_3 a0_4 a1_0 a1_1 l1_2 l1_3 = some r) :
    Calls Try.prog 9 #[.agg #[.string a0_0, .int .i64 a0_1, .bool a0_2, .int .i64 a0_3, .int .i64 a0_4], .agg #[.int .i64 a1_0, .string a1_1, .slice A1_2 l1_2.length c1_2, .slice A1_3 l1_3.length c1_3]] w fun e w' => e = .returned (.bool r) ∧ Below w.heap.size w w' := by
  simp only [schema_In.f] at h
  split at h
  · rename_i hm
    obtain rfl := Option.some.inj h
    clear h
    have HS := Aside0.mk (texts_small (vk := a1_0) hm)
    have HF := Aside0.mk (texts_f (l1_3.length + 1) a1_0 a1_1 l1_2 l1_3 hm (Nat.lt_succ_self _))
    have HD := Aside0.mk (show value_Defined.f (l1_3.length + 1) a1_0 a1_1 l1_2 l1_3 = some (decide (0 < (textsOf a1_0 a1_1 l1_2 l1_3).length)) by
      unfold value_Defined.f; rw [HF.out]; simp)
    have HR2 := Aside0.mk hr1_2
    have HR3 := Aside0.mk hr1_3
    clear hr1_2 hr1_3 hm
    by_cases hk : a1_0 = a0_1
    · have hk' : (a1_0 == a0_1) = true := beq_iff_eq.2 hk
      cases hd : decide (0 < (textsOf a1_0 a1_1 l1_2 l1_3).length) with
      | true =>
        have HV := Aside0.mk (show inV a0_1 a0_3 a0_4 a1_0 a1_1 l1_2 l1_3 = !(textsOf a1_0 a1_1 l1_2 l1_3).any fun t => !X.fitsS a0_3 a0_4 t by unfold inV; rw [hk', hd]; rfl)
        rw [hd] at HD
        clear hd hk
        go_enter Try.func9, Try.ntmps9
        go_wp2_with fail
        refine (value_Defined.calls (l1_3.length + 1) a1_0 a1_1 A1_2 c1_2 l1_2 A1_3 c1_3 l1_3 _ _ (Kd.C_below HR2.out (X.below_new2 _ _ _)) hc1_2 (Kd.C_below HR3.out (X.below_new2 _ _ _)) hc1_3 HD.out).mono ?_
        rintro e w1 ⟨rfl, hb⟩
        have hbx := blk_below (blk_alloc (blk_new w (.cells (X.varC a0_0 a0_1 a0_2 a0_3 a0_4) 23)) _) hb
        have hby := blk_below (X.blk_new2 w _ _) hb
        have HBX := Aside0.mk hbx
        have HB := Aside0.mk (below_step (w := w) (X.below_new2 w _ _) hb)
        have c0 : w1.cell? ⟨w.heap.size + 1, 0, none⟩ = some (.int .i64 a1_0) := (blk_cell hby 0).trans rfl
        have c1 : w1.cell? ⟨w.heap.size + 1, 1, none⟩ = some (.string a1_1) := (blk_cell hby 1).trans rfl
        have c2 : w1.cell? ⟨w.heap.size + 1, 2, none⟩ = some (.slice A1_2 l1_2.length c1_2) := (blk_cell hby 2).trans rfl
        have c3 : w1.cell? ⟨w.heap.size + 1, 3, none⟩ = some (.slice A1_3 l1_3.length c1_3) := (blk_cell hby 3).trans rfl
        clear hb hbx hby
        go_wp2_with fail
        refine (value_Texts.calls (l1_3.length + 1) a1_0 a1_1 A1_2 c1_2 l1_2 A1_3 c1_3 l1_3 _ _ (Kd.C_below HR2.out HB.out) hc1_2 (Kd.C_below HR3.out HB.out) hc1_3 HF.out).mono ?_
        rintro e w2 ⟨v, rfl, hv, hb⟩
        obtain ⟨A, n, rfl, hle, hv⟩ := Kd.R_reads hv
        have HBX2 := Aside0.mk (blk_below HBX.out hb)
        have HB2 := Aside0.mk (below_step HB.out hb)
        have HVV := Aside0.mk hv
        clear hb hv c0 c1 c2 c3 HBX HB
        go_wp2_with fail
        refine (X.containsFunc_str _ _ _ _ _ _ _ HS.out.1 HVV.out (X.In1_tells w.heap.size _ a0_0 a0_1 a0_2 a0_3 a0_4 HBX2.out _ HS.out.2)).mono ?_
        rintro e w3 ⟨rfl, hb⟩
        have HB3 := Aside0.mk (below_step HB2.out hb)
        clear hb
        go_wp2_with fail
        go_ret
        exact ⟨by rw [HV.out]; rfl, HB3.out⟩
      | false =>
        have HV := Aside0.mk (show inV a0_1 a0_3 a0_4 a1_0 a1_1 l1_2 l1_3 = false by unfold inV; rw [hk', hd]; rfl)
        rw [hd] at HD
        clear hd hk
        go_enter Try.func9, Try.ntmps9
        go_wp2_with fail
        refine (value_Defined.calls (l1_3.length + 1) a1_0 a1_1 A1_2 c1_2 l1_2 A1_3 c1_3 l1_3 _ _ (Kd.C_below HR2.out (X.below_new2 _ _ _)) hc1_2 (Kd.C_below HR3.out (X.below_new2 _ _ _)) hc1_3 HD.out).mono ?_
        rintro e w1 ⟨rfl, hb⟩
        have HB := Aside0.mk (below_step (w := w) (X.below_new2 w _ _) hb)
        clear hb
        go_wp2_with fail
        go_ret
        exact ⟨by rw [HV.out]; rfl, HB.out⟩
    · have hk' : (a1_0 == a0_1) = false := beq_eq_false_iff_ne.2 hk
      have HV := Aside0.mk (show inV a0_1 a0_3 a0_4 a1_0 a1_1 l1_2 l1_3 = false by unfold inV; rw [hk']; rfl)
      go_enter Try.func9, Try.ntmps9
      go_wp2_with fail
      go_ret
      exact ⟨by rw [HV.out]; rfl, X.below_new2 _ _ _⟩
  · exact absurd h (by simp)
end Go.Proofs.Ytaigmfkgobklbaa.PB
