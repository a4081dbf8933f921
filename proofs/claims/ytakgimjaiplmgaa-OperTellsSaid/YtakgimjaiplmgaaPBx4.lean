-- Printed by wip/xprint.py of this claim's authors, over the kit's print; not trusted: Lean checks it.
import Derived.Test.YtakgimjaiplmgaaPBx0
import Derived.Test.YtakgimjaiplmgaaPBx1
import Derived.Test.YtakgimjaiplmgaaPBx2
import Derived.Test.YtakgimjaiplmgaaPBx3
namespace Go.Proofs.Ytakgimjaiplmgaa.PB
open Go.RowKit Go.Proofs.YtakgimjaiplmgaaW.PrintWords Go.Proofs.YtakgimjaiplmgaaW.PrintLast Go.Proofs.YtakgimjaiplmgaaW.PrintMore
attribute [local go_sem] max2_int min2_int max_two min_two max_three min_three max_four min_four   -- for this text's walks alone
set_option linter.unusedVariables false
set_option linter.unusedSimpArgs false

attribute [local go_sem high] eqA24 eqA27
/-! ### oper_All: function 11 (ours) -/
theorem own_base {w : World} {base base' : Nat} {e : TypeId} {size : Nat} {v : Value} {n : Nat} {xs : List Value} (h : w.ownsRow base e size v n xs) (hb : base' ≤ base) : w.ownsRow base' e size v n xs := by
  refine ⟨h.1, h.2.imp_right ?_⟩
  rintro ⟨g, cap, cur, h1, h2, h3⟩
  exact ⟨g, cap, cur, h1, Nat.le_trans hb h2, h3⟩
theorem less_f (a b : Int) : cmp_Less_byte.f a b = some (decide (a < b)) := by
  unfold cmp_Less_byte.f cmp_isNaN_byte.f
  simp
theorem rd_mid (a : List Int) (x : Int) (b : List Int) : rd (a ++ x :: b) (a.length : Int) = x := by
  unfold rd; simp
/-- One element goes down to its place; then the next ones. -/
theorem ins_l1 (n : Nat) (hn : n ≤ 1000000) (c : List Int)
    (next : ∀ s : List Int, s.Pairwise (· ≤ ·) → s.length + c.length = n → ∃ k r, slices_insertionSortOrdered_byte.l0 k (s ++ c) 0 (n : Int) (s.length : Int) = some r ∧ r.Perm (s ++ c) ∧ r.Pairwise (· ≤ ·)) (d : Nat) :
    ∀ (a : List Int) (x : Int) (b : List Int), a.length = d → (a ++ b).Pairwise (· ≤ ·) → (∀ y ∈ b, x ≤ y) → a.length + b.length + 1 + c.length = n →
      ∃ k r, slices_insertionSortOrdered_byte.l1 k (a ++ x :: (b ++ c)) 0 (n : Int) ((a.length + b.length : Nat) : Int) (a.length : Int) = some r ∧ r.Perm (a ++ x :: (b ++ c)) ∧ r.Pairwise (· ≤ ·) := by
  induction d with
  | zero =>
    intro a x b ha hs hx hl
    obtain rfl : a = [] := List.eq_nil_of_length_eq_zero ha
    obtain ⟨k, r, h1, h2, h3⟩ := next (x :: b) (List.pairwise_cons.2 ⟨hx, by simpa using hs⟩) (by simp at hl ⊢; omega)
    refine ⟨k + 1, r, ?_, by simpa using h2, h3⟩
    simp only [slices_insertionSortOrdered_byte.l1]
    rw [if_neg (by simp)]
    rw [show wrap64 (((([] : List Int).length + b.length : Nat) : Int) + 1) = ((x :: b).length : Int) from by unfold wrap64; simp at hl ⊢; omega]
    simpa using h1
  | succ d ih =>
    intro a x b ha hs hx hl
    obtain ⟨a', z, rfl⟩ : ∃ a' z, a = a' ++ [z] := ⟨a.dropLast, a.getLast (by intro h; rw [h] at ha; simp at ha), (List.dropLast_concat_getLast _).symm⟩
    have hal : a'.length = d := by simpa using ha
    have e1 : ((a' ++ [z]).length : Int) - 1 = (a'.length : Int) := by simp
    have ew : wrap64 (((a' ++ [z]).length : Int) - 1) = (a'.length : Int) := by rw [e1]; unfold wrap64; simp at hl; omega
    have g1 : rd (a' ++ [z] ++ x :: (b ++ c)) ((a' ++ [z]).length : Int) = x := rd_mid _ _ _
    have g2 : rd (a' ++ [z] ++ x :: (b ++ c)) (a'.length : Int) = z := by rw [List.append_assoc]; exact rd_mid _ _ _
    by_cases hlt : x < z
    · obtain ⟨k, r, h1, h2, h3⟩ := ih a' x (z :: b) hal (by simpa using hs) (fun y hy => by
        rcases List.mem_cons.1 hy with rfl | hy
        · omega
        · exact hx y hy) (by simp at hl ⊢; omega)
      refine ⟨k + 1, r, ?_, h2.trans ?_, h3⟩
      · simp only [slices_insertionSortOrdered_byte.l1]
        rw [if_pos (by simp <;> omega), if_pos (by simp <;> omega), if_pos (by simp <;> omega), ew, if_pos (by omega), if_pos (by simp <;> omega), g1, g2, less_f]
        simp only [Option.bind_some, hlt, decide_true, if_true]
        have es : (((a' ++ [z] ++ x :: (b ++ c)).set ((a' ++ [z]).length : Int).toNat z).set (a'.length : Int).toNat x) = a' ++ x :: (z :: b ++ c) := by
          simp
        rw [es, show ((((a' ++ [z]).length + b.length : Nat) : Int)) = ((a'.length + (z :: b).length : Nat) : Int) from by simp; omega]
        exact h1
      · rw [List.append_assoc]
        exact List.Perm.append_left a' (List.Perm.swap z x (b ++ c))
    · have hzx : z ≤ x := by omega
      obtain ⟨k, r, h1, h2, h3⟩ := next (a' ++ [z] ++ x :: b) (by
        obtain ⟨s1, s2, s3⟩ := List.pairwise_append.1 hs
        refine List.pairwise_append.2 ⟨s1, List.pairwise_cons.2 ⟨hx, s2⟩, fun p hp q hq => ?_⟩
        rcases List.mem_cons.1 hq with rfl | hq
        · have : p ≤ z := by
            rcases List.mem_append.1 hp with hp | hp
            · exact (List.pairwise_append.1 s1).2.2 p hp z (by simp)
            · rw [List.mem_singleton.1 hp]; exact Int.le_refl _
          omega
        · exact s3 p hp q hq) (by simp at hl ⊢; omega)
      refine ⟨k + 1, r, ?_, by simpa using h2, h3⟩
      simp only [slices_insertionSortOrdered_byte.l1]
      rw [if_pos (by simp <;> omega), if_pos (by simp <;> omega), if_pos (by simp <;> omega), ew, if_pos (by omega), if_pos (by simp <;> omega), g1, g2, less_f]
      simp only [Option.bind_some, hlt, decide_false]
      rw [if_neg (by simp)]
      rw [show wrap64 ((((a' ++ [z]).length + b.length : Nat) : Int) + 1) = ((a' ++ [z] ++ x :: b).length : Int) from by unfold wrap64; simp at hl ⊢; omega]
      simpa using h1
theorem ins_l0 (n : Nat) (hn : n ≤ 1000000) (c : List Int) : ∀ s : List Int, s.Pairwise (· ≤ ·) → s.length + c.length = n →
    ∃ k r, slices_insertionSortOrdered_byte.l0 k (s ++ c) 0 (n : Int) (s.length : Int) = some r ∧ r.Perm (s ++ c) ∧ r.Pairwise (· ≤ ·) := by
  induction c with
  | nil =>
    intro s hs hl
    refine ⟨1, s, ?_, by simp, hs⟩
    simp only [slices_insertionSortOrdered_byte.l0]
    rw [if_neg (by simp at hl; omega), List.append_nil]
  | cons x c ih =>
    intro s hs hl
    obtain ⟨k, r, h1, h2, h3⟩ := ins_l1 n hn c ih s.length s x [] rfl (by simpa using hs) (by simp) (by simp at hl ⊢; omega)
    refine ⟨k + 1, r, ?_, by simpa using h2, h3⟩
    simp only [slices_insertionSortOrdered_byte.l0]
    rw [if_pos (by simp at hl; omega)]
    simpa using h1
theorem ins_opers {ss : List Int} (h : ss.Perm X.opers) : ∃ k, slices_insertionSortOrdered_byte.f k ss 0 8 = some X.opers := by
  have h8 : ss.length = 8 := h.length_eq
  rcases ss with _ | ⟨x, ss⟩
  · simp at h8
  obtain ⟨k, r, h1, h2, h3⟩ := ins_l0 8 (by omega) ss [x] (by simp) (by simp at h8 ⊢; omega)
  refine ⟨k, ?_⟩
  unfold slices_insertionSortOrdered_byte.f
  have : r = X.opers := List.Perm.eq_of_pairwise (le := fun a b => a ≤ b) (fun a b _ _ h1 h2 => Int.le_antisymm h1 h2) h3 (by decide) (h2.trans h)
  rw [← this, show wrap64 (0 + 1) = (([x].length : Nat) : Int) from by unfold wrap64; simp]
  exact h1
set_option maxHeartbeats 4000000 in
set_option maxRecDepth 100000 in
theorem pdq8 (v : Value) (l : List Int) (hl : l.length = 8) (r : List Int) (k : Nat) (w0 w : World) (hB : Below w0.heap.size w0 w) (ho : Kd.R (Kd.int .u8) 5 w w0.heap.size (fun _ => True) v l) (h : slices_insertionSortOrdered_byte.f k l 0 8 = some r) :
    Calls Try.prog 24 #[v, .int .i64 0, .int .i64 8, .int .i64 4] w fun e w' => e = .returned (.tuple #[]) ∧ Kd.R (Kd.int .u8) 5 w' w0.heap.size (fun _ => True) v r ∧ Below w0.heap.size w0 w' := by
  have HI := Aside0.mk (slices_insertionSortOrdered_byte.calls k (fun _ => True) v l 0 8 r w0 w hB ho h)
  clear hB ho h
  go_enter Try.func24, Try.ntmps24
  go_wp2_with fail
  refine wp_loop_rounds 1 ?_
  rw [rounds_succ]
  go_wp2_with fail
  refine HI.out.mono ?_
  rintro e w1 ⟨rfl, h1, h2, _⟩
  have H1 := Aside0.mk h1
  have H2 := Aside0.mk h2
  clear h1 h2
  go_wp2_with fail
  exact bodyPost_ret (results_none rfl _ _ _) rfl ⟨rfl, Kd.R_mono H1.out (fun _ _ => trivial), H2.out⟩
set_option maxHeartbeats 2000000 in
theorem sort8 (A : Option Addr) (c : Nat) (l : List Int) (hl : l.length = 8) (r : List Int) (k : Nat) (w0 w : World) (hB : Below w0.heap.size w0 w) (ho : Kd.R (Kd.int .u8) 5 w w0.heap.size (fun _ => True) (.slice A 8 c) l) (h : slices_insertionSortOrdered_byte.f k l 0 8 = some r) :
    Calls Try.prog 20 #[.slice A 8 c] w fun e w' => e = .returned (.tuple #[]) ∧ Kd.R (Kd.int .u8) 5 w' w0.heap.size (fun _ => True) (.slice A 8 c) r ∧ Below w0.heap.size w0 w' := by
  have HP := Aside0.mk (pdq8 (.slice A 8 c) l hl r k w0 w hB ho h)
  have HL := Aside0.mk (Try.bits_Len 8 w (by omega) (by omega))
  have hb : Lib.bitLen (8 : Int).toNat = 4 := by decide
  rw [hb] at HL
  clear hB ho h hb
  go_enter Try.func20, Try.ntmps20
  go_wp2_with fail
  refine HL.out.mono ?_
  rintro e w1 ⟨rfl, rfl⟩
  go_wp2_with fail
  refine HP.out.mono ?_
  rintro e w2 ⟨rfl, h1, h2⟩
  have H1 := Aside0.mk h1
  have H2 := Aside0.mk h2
  clear h1 h2
  go_wp2_with fail
  go_end0
  exact ⟨rfl, H1.out, H2.out⟩
set_option maxHeartbeats 2000000 in
theorem sorted_calls (Bm b nn : Nat) (w0 w : World) (hB : Below w0.heap.size w0 w) (hBm : Bm < w.heap.size) (hm : w.cell? ⟨Bm, 0, none⟩ = some (.map (some b))) (hown : w.ownsMap Try.prog 5 X.ruleR b nn X.rulesD0) :
    Calls Try.prog 15 #[.func (.func 21) #[] #[.pointer (some ⟨Bm, 0, none⟩)]] w fun e w' => ∃ v, e = .returned v ∧ Kd.R (Kd.int .u8) 5 w' w0.heap.size (fun _ => True) v X.opers ∧ Below w0.heap.size w0 w' := by
  have HC := Aside0.mk (X.collectU Bm b nn X.rulesD0 (by decide) w hBm hm hown)
  have HB := Aside0.mk hB
  have hsz := hB.size
  clear hm hown hB
  go_enter Try.func15, Try.ntmps15
  go_wp2_with fail
  refine HC.out.mono ?_
  rintro e w1 ⟨v, ss, rfl, ⟨hnd, hmem⟩, hrow, hb1⟩
  have hp := X.opers_perm hnd hmem
  have h8 := Aside0.mk (show ss.length = 8 from hp.length_eq)
  obtain ⟨k, hk⟩ := ins_opers hp
  have HK := Aside0.mk hk
  have hR : Kd.R (Kd.int .u8) 5 w1 w0.heap.size (fun _ => True) v ss := Kd.R_of_own (own_base hrow hsz) (fun _ _ => trivial)
  obtain ⟨A, c, hv, _, _⟩ := Kd.R_reads hR
  rw [h8.out] at hv
  subst hv
  have HB1 := Aside0.mk (HB.out.trans (hb1.mono hsz))
  have HR := Aside0.mk hR
  clear hp hk hR hrow hb1 hnd hmem
  go_wp2_with fail
  refine (sort8 A c ss h8.out X.opers k w0 w1 HB1.out HR.out HK.out).mono ?_
  rintro e w2 ⟨rfl, h1, h2⟩
  have H1 := Aside0.mk h1
  have H2 := Aside0.mk h2
  clear h1 h2
  go_wp2_with fail
  go_ret
  exact ⟨_, rfl, H1.out, H2.out⟩
def oper_All.f  : Option (List Int) := some X.opers
set_option maxHeartbeats 8000000 in
set_option maxRecDepth 100000 in
theorem oper_All.calls  (r : List Int) (w : World) (h : oper_All.f  = some r) :
    Calls Try.prog 11 #[] w fun e w' => ∃ v0_ : Value, e = .returned (v0_) ∧ Kd.R (Kd.int .u8) 5 w' w.heap.size (fun _ => True) v0_ r ∧ Below w.heap.size w w' := by
  obtain rfl := Option.some.inj h
  clear h
  go_enter Try.func11, Try.ntmps11
  go_wp2_with fail
  refine (X.rules_any _).mono ?_
  rintro e w1 ⟨rfl, hm, hb⟩
  have HM := Aside0.mk hm
  have HB := Aside0.mk hb
  clear hm hb
  go_wp2_with fail
  refine (X.keysU _ _).mono ?_
  rintro e w2 ⟨rfl, rfl⟩
  have HM2 := Aside0.mk (show (w1.alloc (.cells #[.map (some w.heap.size)] 34)).ownsMap Try.prog 5 X.ruleR w.heap.size 8 X.rulesD0 from World.ownsMap.alloc HM.out _)
  have HC := Aside0.mk (show (w1.alloc (.cells #[.map (some w.heap.size)] 34)).cell? ⟨w1.heap.size, 0, none⟩ = some (.map (some w.heap.size)) from (Boxed.new w1 34 (.map (some w.heap.size))).cell)
  have HB2 := Aside0.mk (below_alloc HB.out (.cells #[.map (some w.heap.size)] 34))
  go_wp2_with fail
  refine (sorted_calls w1.heap.size w.heap.size 8 w _ HB2.out (by simp) HC.out HM2.out).mono ?_
  rintro e w3 ⟨v, rfl, h1, h2⟩
  have H1 := Aside0.mk h1
  have H2 := Aside0.mk h2
  clear h1 h2
  go_wp2_with fail
  go_ret
  exact ⟨_, rfl, H1.out, H2.out⟩
/-! ### phalaropelaw10_awake: function 8 -/
def phalaropelaw10_awake.f  : Option (Bool) := (oper_Of.f 63).bind fun bt110 => ((oper_Of.f 33).bind fun bt117 => (if bt110.2.2.2.2.2 = true then (if bt117.2.2.2.2.2 = true then (some false) else (if (bt110.1.toList == ([63] : List UInt8) && (bt110.2.1.toList == ([38] : List UInt8) && (bt110.2.2.1 && (bt110.2.2.2.1.toList == ([61] : List UInt8) && (!bt110.2.2.2.2.1))))) = true then ((oper_All.f).bind fun t124 => (some ((t124.length : Int) == 8))) else (some false))) else (some false)))
set_option maxHeartbeats 8000000 in
set_option maxRecDepth 100000 in
theorem phalaropelaw10_awake.calls  (r : Bool) (w : World) (h : phalaropelaw10_awake.f  = some r) :
    Calls Try.prog 8 #[] w fun e w' => e = .returned (.bool r) ∧ Below w.heap.size w w' := by
  have hu24 := Try.underlying24
  have HB := Aside0.mk (Below.refl w.heap.size w)
  have H : ((oper_Of.f 63).bind fun bt110 => ((oper_Of.f 33).bind fun bt117 => (if bt110.2.2.2.2.2 = true then (if bt117.2.2.2.2.2 = true then (some false) else (if (bt110.1.toList == ([63] : List UInt8) && (bt110.2.1.toList == ([38] : List UInt8) && (bt110.2.2.1 && (bt110.2.2.2.1.toList == ([61] : List UInt8) && (!bt110.2.2.2.2.1))))) = true then ((oper_All.f).bind fun t124 => (some ((t124.length : Int) == 8))) else (some false))) else (some false)))) = some r := h
  clear h
  replace H := Option.bind_eq_some_iff.mp H
  obtain ⟨⟨t110, t111, t112, t113, t114, t115⟩, A10, H⟩ := H
  replace H : ((oper_Of.f 33).bind fun bt117 => (if t115 = true then (if bt117.2.2.2.2.2 = true then (some false) else (if (t110.toList == ([63] : List UInt8) && (t111.toList == ([38] : List UInt8) && (t112 && (t113.toList == ([61] : List UInt8) && (!t114))))) = true then ((oper_All.f).bind fun t124 => (some ((t124.length : Int) == 8))) else (some false))) else (some false))) = some r := H
  have A1 := Aside0.mk A10
  clear A10
  replace H := Option.bind_eq_some_iff.mp H
  obtain ⟨⟨t117, t118, t119, t120, t121, t122⟩, A20, H⟩ := H
  replace H : (if t115 = true then (if t122 = true then (some false) else (if (t110.toList == ([63] : List UInt8) && (t111.toList == ([38] : List UInt8) && (t112 && (t113.toList == ([61] : List UInt8) && (!t114))))) = true then ((oper_All.f).bind fun t124 => (some ((t124.length : Int) == 8))) else (some false))) else (some false)) = some r := H
  have A2 := Aside0.mk A20
  clear A20
  by_cases c3 : t115 = true
  · subst c3
    have H1 : (if t122 = true then (some false) else (if (t110.toList == ([63] : List UInt8) && (t111.toList == ([38] : List UInt8) && (t112 && (t113.toList == ([61] : List UInt8) && (!t114))))) = true then ((oper_All.f).bind fun t124 => (some ((t124.length : Int) == 8))) else (some false))) = some r := by rw [if_pos rfl] at H; exact H
    clear H
    have H := H1
    clear H1
    by_cases c4 : t122 = true
    · subst c4
      have H1 : (some false) = some r := by rw [if_pos rfl] at H; exact H
      clear H
      have H := H1
      clear H1
      obtain rfl := Option.some.inj H
      go_enter Try.func8, Try.ntmps8
      go_wp2_with (first | ((with_reducible refine gate_callee (f := 9) rfl ?_); refine goesL_ (some 6) rfl rfl Try.func9 (by kernel_rfl) rfl #[.int .u8 63] rfl (by (try simp only [List.map_toArray, List.map_cons, List.map_nil]); first | done | rfl | (simp only [List.length_drop, List.length_take]; rfl)) ?_; (with_reducible refine (oper_Of.calls 63 t110 t111 t112 t113 t114 true _ A1.out).mono ?_); rintro e w5 ⟨rfl, hb⟩; refine ⟨_, rfl, ?_⟩; have n0_ := Aside0.mk (below_step (by repeat (first | (with_reducible first | exact HB.out | apply below_alloc | apply pw_below_drewN | apply below_drew1) | exact HB.out)) hb); clear HB; have HB := n0_; clear n0_; (try clear hb); (try clear hb2); (try clear hk); (try clear hi)) | ((with_reducible refine gate_dst (N := 1) rfl ?_); (try (refine gate_guard (by rfl) ?_; dsimp only)); refine box_event ?hg (N := 1) ?hd (cs := #[.string (⟨#[]⟩ : ByteArray), .string (⟨#[]⟩ : ByteArray), .bool false, .string (⟨#[]⟩ : ByteArray), .bool false]) (t := 24) ?hr ?_; (case hd => rfl); (case hg => rfl); (case hr => first | (go_simp; done) | (go_simp; rfl)); intro gb116 hg w6 hbox hb; have n0_ := Aside0.mk (below_step (by repeat (first | (with_reducible first | exact HB.out | apply below_alloc | apply pw_below_drewN | apply below_drew1) | exact HB.out)) hb); have n1_ := Aside0.mk (hbox); have n2_ := Aside0.mk ((by rw [hg]; exact (below_size (by repeat (first | (with_reducible first | exact HB.out | apply below_alloc | apply pw_below_drewN | apply below_drew1) | exact HB.out))) : w.heap.size ≤ gb116)); have n3_ := Aside0.mk ((by rw [hg]; exact (below_size (by repeat (first | (with_reducible first | exact HB.out | apply below_alloc | apply pw_below_drewN | apply below_drew1) | exact HB.out))) : w.heap.size ≤ gb116)); clear HB; have HB := n0_; have BK116 := n1_; have GW116 := n2_; have GE116 := n3_; clear n0_ n1_ n2_ n3_; clear hb hbox hg; have hcz7_0 : w6.cell? ⟨gb116, 0, none⟩ = some (.string (⟨#[]⟩ : ByteArray)) := (blk_cell BK116.out 0).trans rfl; have hcz7_1 : w6.cell? ⟨gb116, 1, none⟩ = some (.string (⟨#[]⟩ : ByteArray)) := (blk_cell BK116.out 1).trans rfl; have hcz7_2 : w6.cell? ⟨gb116, 2, none⟩ = some (.bool false) := (blk_cell BK116.out 2).trans rfl; have hcz7_3 : w6.cell? ⟨gb116, 3, none⟩ = some (.string (⟨#[]⟩ : ByteArray)) := (blk_cell BK116.out 3).trans rfl; have hcz7_4 : w6.cell? ⟨gb116, 4, none⟩ = some (.bool false) := (blk_cell BK116.out 4).trans rfl; have hfz7_0 := blk_frozen BK116.out 0; have hfz7_1 := blk_frozen BK116.out 1; have hfz7_2 := blk_frozen BK116.out 2; have hfz7_3 := blk_frozen BK116.out 3; have hfz7_4 := blk_frozen BK116.out 4) | ((with_reducible refine gate_callee (f := 9) rfl ?_); refine goesL_ (some 10) rfl rfl Try.func9 (by kernel_rfl) rfl #[.int .u8 33] rfl (by (try simp only [List.map_toArray, List.map_cons, List.map_nil]); first | done | rfl | (simp only [List.length_drop, List.length_take]; rfl)) ?_; (with_reducible refine (oper_Of.calls 33 t117 t118 t119 t120 t121 true _ A2.out).mono ?_); rintro e w8 ⟨rfl, hb⟩; refine ⟨_, rfl, ?_⟩; have n0_ := Aside0.mk (blk_below (g := gb116) (o := .cells #[.string t110, .string t111, .bool t112, .string t113, .bool t114] 24 (0, 0)) (by (with_reducible repeat (first | refine blk_drewN ?_ _ | refine blk_drew ?_ | refine blk_alloc ?_ _)); refine blk_put (cs := #[.string t110, .string t111, .bool t112, .string t113, .bool false]) ?_ 4 _ rfl; (with_reducible repeat (first | refine blk_drewN ?_ _ | refine blk_drew ?_ | refine blk_alloc ?_ _)); refine blk_put (cs := #[.string t110, .string t111, .bool t112, .string (⟨#[]⟩ : ByteArray), .bool false]) ?_ 3 _ rfl; (with_reducible repeat (first | refine blk_drewN ?_ _ | refine blk_drew ?_ | refine blk_alloc ?_ _)); refine blk_put (cs := #[.string t110, .string t111, .bool false, .string (⟨#[]⟩ : ByteArray), .bool false]) ?_ 2 _ rfl; (with_reducible repeat (first | refine blk_drewN ?_ _ | refine blk_drew ?_ | refine blk_alloc ?_ _)); refine blk_put (cs := #[.string t110, .string (⟨#[]⟩ : ByteArray), .bool false, .string (⟨#[]⟩ : ByteArray), .bool false]) ?_ 1 _ rfl; (with_reducible repeat (first | refine blk_drewN ?_ _ | refine blk_drew ?_ | refine blk_alloc ?_ _)); refine blk_put (cs := #[.string (⟨#[]⟩ : ByteArray), .string (⟨#[]⟩ : ByteArray), .bool false, .string (⟨#[]⟩ : ByteArray), .bool false]) ?_ 0 _ rfl; (with_reducible repeat (first | refine blk_drewN ?_ _ | refine blk_drew ?_ | refine blk_alloc ?_ _)); exact BK116.out) hb); have n1_ := Aside0.mk (below_step (by repeat (first | (with_reducible first | exact HB.out | apply below_alloc | apply pw_below_drewN | apply below_drew1 | refine below_set ?_ GE116.out) | exact HB.out)) hb); clear BK116; clear HB; have BK116 := n0_; have HB := n1_; clear n0_ n1_; (try clear hb); (try clear hb2); (try clear hk); (try clear hi)) | ((with_reducible refine gate_dst (N := 3) rfl ?_); (try (refine gate_guard (by rfl) ?_; dsimp only)); refine box_event ?hg (N := 3) ?hd (cs := #[.string (⟨#[]⟩ : ByteArray), .string (⟨#[]⟩ : ByteArray), .bool false, .string (⟨#[]⟩ : ByteArray), .bool false]) (t := 24) ?hr ?_; (case hd => rfl); (case hg => rfl); (case hr => first | (go_simp; done) | (go_simp; rfl)); intro gb123 hg w9 hbox hb; have n0_ := Aside0.mk (blk_below (g := gb116) (o := .cells #[.string t110, .string t111, .bool t112, .string t113, .bool t114] 24 (0, 0)) (by (with_reducible repeat (first | refine blk_drewN ?_ _ | refine blk_drew ?_ | refine blk_alloc ?_ _)); exact BK116.out) hb); have n1_ := Aside0.mk (below_step (by repeat (first | (with_reducible first | exact HB.out | apply below_alloc | apply pw_below_drewN | apply below_drew1 | refine below_set ?_ GE116.out) | exact HB.out)) hb); have n2_ := Aside0.mk (hbox); have n3_ := Aside0.mk ((by rw [hg]; exact (below_size (by repeat (first | (with_reducible first | exact HB.out | apply below_alloc | apply pw_below_drewN | apply below_drew1 | refine below_set ?_ GE116.out) | exact HB.out))) : w.heap.size ≤ gb123)); have n4_ := Aside0.mk ((by rw [hg]; exact (below_size (by repeat (first | (with_reducible first | exact HB.out | apply below_alloc | apply pw_below_drewN | apply below_drew1 | refine below_set ?_ GE116.out) | exact HB.out))) : w.heap.size ≤ gb123)); have n5_ := Aside0.mk ((by rw [hg]; exact Nat.ne_of_lt (blk_lt (g := gb116) (o := .cells #[.string t110, .string t111, .bool t112, .string t113, .bool t114] 24 (0, 0)) (by (with_reducible repeat (first | refine blk_drewN ?_ _ | refine blk_drew ?_ | refine blk_alloc ?_ _)); exact BK116.out)) : gb116 ≠ gb123)); have n6_ := Aside0.mk ((by rw [hg]; exact Nat.ne_of_gt (blk_lt (g := gb116) (o := .cells #[.string t110, .string t111, .bool t112, .string t113, .bool t114] 24 (0, 0)) (by (with_reducible repeat (first | refine blk_drewN ?_ _ | refine blk_drew ?_ | refine blk_alloc ?_ _)); exact BK116.out)) : gb123 ≠ gb116)); clear BK116; clear HB; have BK116 := n0_; have HB := n1_; have BK123 := n2_; have GW123 := n3_; have GE123 := n4_; have NB116_123 := n5_; have NB123_116 := n6_; clear n0_ n1_ n2_ n3_ n4_ n5_ n6_; clear hb hbox hg; have hnb10 := NB123_116.out; have hnc10 := NB116_123.out; have hcz11_0 : w9.cell? ⟨gb123, 0, none⟩ = some (.string (⟨#[]⟩ : ByteArray)) := (blk_cell BK123.out 0).trans rfl; have hcz11_1 : w9.cell? ⟨gb123, 1, none⟩ = some (.string (⟨#[]⟩ : ByteArray)) := (blk_cell BK123.out 1).trans rfl; have hcz11_2 : w9.cell? ⟨gb123, 2, none⟩ = some (.bool false) := (blk_cell BK123.out 2).trans rfl; have hcz11_3 : w9.cell? ⟨gb123, 3, none⟩ = some (.string (⟨#[]⟩ : ByteArray)) := (blk_cell BK123.out 3).trans rfl; have hcz11_4 : w9.cell? ⟨gb123, 4, none⟩ = some (.bool false) := (blk_cell BK123.out 4).trans rfl; have hfz11_0 := blk_frozen BK123.out 0; have hfz11_1 := blk_frozen BK123.out 1; have hfz11_2 := blk_frozen BK123.out 2; have hfz11_3 := blk_frozen BK123.out 3; have hfz11_4 := blk_frozen BK123.out 4))
      go_ret
      exact ⟨by first | rfl | (simp [errW_none, errW_some] <;> rfl) | (simp [*, errW_none, errW_some] <;> rfl), by repeat (first | (with_reducible first | exact HB.out | apply below_alloc | apply pw_below_drewN | apply below_drew1 | refine below_set ?_ GE116.out | refine below_set ?_ GE123.out) | exact HB.out)⟩
    · replace c4 := Bool.eq_false_iff.mpr c4
      subst c4
      have H1 : (if (t110.toList == ([63] : List UInt8) && (t111.toList == ([38] : List UInt8) && (t112 && (t113.toList == ([61] : List UInt8) && (!t114))))) = true then ((oper_All.f).bind fun t124 => (some ((t124.length : Int) == 8))) else (some false)) = some r := by rw [if_neg (show ¬ (false = true) by decide)] at H; exact H
      clear H
      have H := H1
      clear H1
      by_cases c12 : (t110.toList == ([63] : List UInt8) && (t111.toList == ([38] : List UInt8) && (t112 && (t113.toList == ([61] : List UInt8) && (!t114))))) = true
      · rw [if_pos c12] at H
        have c12b0 : (t110.toList == ([63] : List UInt8) && (t111.toList == ([38] : List UInt8) && (t112 && (t113.toList == ([61] : List UInt8) && (!t114))))) = true := c12
        (try (have c12b1 : decide (t110.toList = ([63] : List UInt8) && (t111.toList == ([38] : List UInt8) && (t112 && (t113.toList == ([61] : List UInt8) && (!t114))))) = true := by simpa using c12))
        (try (have c12b2 : (t110.toList == ([63] : List UInt8) && (t111.toList == ([38] : List UInt8) && (t112 && (t113.toList == ([61] : List UInt8) && (!t114))))) = true := by simpa using c12))
        clear c12
        replace H := Option.bind_eq_some_iff.mp H
        obtain ⟨t124, A130, H⟩ := H
        replace H : (some ((t124.length : Int) == 8)) = some r := H
        have A13 := Aside0.mk A130
        clear A130
        obtain rfl := Option.some.inj H
        go_enter Try.func8, Try.ntmps8
        go_wp2_with (first | ((with_reducible refine gate_callee (f := 9) rfl ?_); refine goesL_ (some 6) rfl rfl Try.func9 (by kernel_rfl) rfl #[.int .u8 63] rfl (by (try simp only [List.map_toArray, List.map_cons, List.map_nil]); first | done | rfl | (simp only [List.length_drop, List.length_take]; rfl)) ?_; (with_reducible refine (oper_Of.calls 63 t110 t111 t112 t113 t114 true _ A1.out).mono ?_); rintro e w14 ⟨rfl, hb⟩; refine ⟨_, rfl, ?_⟩; have n0_ := Aside0.mk (below_step (by repeat (first | (with_reducible first | exact HB.out | apply below_alloc | apply pw_below_drewN | apply below_drew1) | exact HB.out)) hb); clear HB; have HB := n0_; clear n0_; (try clear hb); (try clear hb2); (try clear hk); (try clear hi)) | ((with_reducible refine gate_dst (N := 1) rfl ?_); (try (refine gate_guard (by rfl) ?_; dsimp only)); refine box_event ?hg (N := 1) ?hd (cs := #[.string (⟨#[]⟩ : ByteArray), .string (⟨#[]⟩ : ByteArray), .bool false, .string (⟨#[]⟩ : ByteArray), .bool false]) (t := 24) ?hr ?_; (case hd => rfl); (case hg => rfl); (case hr => first | (go_simp; done) | (go_simp; rfl)); intro gb116 hg w15 hbox hb; have n0_ := Aside0.mk (below_step (by repeat (first | (with_reducible first | exact HB.out | apply below_alloc | apply pw_below_drewN | apply below_drew1) | exact HB.out)) hb); have n1_ := Aside0.mk (hbox); have n2_ := Aside0.mk ((by rw [hg]; exact (below_size (by repeat (first | (with_reducible first | exact HB.out | apply below_alloc | apply pw_below_drewN | apply below_drew1) | exact HB.out))) : w.heap.size ≤ gb116)); have n3_ := Aside0.mk ((by rw [hg]; exact (below_size (by repeat (first | (with_reducible first | exact HB.out | apply below_alloc | apply pw_below_drewN | apply below_drew1) | exact HB.out))) : w.heap.size ≤ gb116)); clear HB; have HB := n0_; have BK116 := n1_; have GW116 := n2_; have GE116 := n3_; clear n0_ n1_ n2_ n3_; clear hb hbox hg; have hcz16_0 : w15.cell? ⟨gb116, 0, none⟩ = some (.string (⟨#[]⟩ : ByteArray)) := (blk_cell BK116.out 0).trans rfl; have hcz16_1 : w15.cell? ⟨gb116, 1, none⟩ = some (.string (⟨#[]⟩ : ByteArray)) := (blk_cell BK116.out 1).trans rfl; have hcz16_2 : w15.cell? ⟨gb116, 2, none⟩ = some (.bool false) := (blk_cell BK116.out 2).trans rfl; have hcz16_3 : w15.cell? ⟨gb116, 3, none⟩ = some (.string (⟨#[]⟩ : ByteArray)) := (blk_cell BK116.out 3).trans rfl; have hcz16_4 : w15.cell? ⟨gb116, 4, none⟩ = some (.bool false) := (blk_cell BK116.out 4).trans rfl; have hfz16_0 := blk_frozen BK116.out 0; have hfz16_1 := blk_frozen BK116.out 1; have hfz16_2 := blk_frozen BK116.out 2; have hfz16_3 := blk_frozen BK116.out 3; have hfz16_4 := blk_frozen BK116.out 4) | ((with_reducible refine gate_callee (f := 9) rfl ?_); refine goesL_ (some 10) rfl rfl Try.func9 (by kernel_rfl) rfl #[.int .u8 33] rfl (by (try simp only [List.map_toArray, List.map_cons, List.map_nil]); first | done | rfl | (simp only [List.length_drop, List.length_take]; rfl)) ?_; (with_reducible refine (oper_Of.calls 33 t117 t118 t119 t120 t121 false _ A2.out).mono ?_); rintro e w17 ⟨rfl, hb⟩; refine ⟨_, rfl, ?_⟩; have n0_ := Aside0.mk (blk_below (g := gb116) (o := .cells #[.string t110, .string t111, .bool t112, .string t113, .bool t114] 24 (0, 0)) (by (with_reducible repeat (first | refine blk_drewN ?_ _ | refine blk_drew ?_ | refine blk_alloc ?_ _)); refine blk_put (cs := #[.string t110, .string t111, .bool t112, .string t113, .bool false]) ?_ 4 _ rfl; (with_reducible repeat (first | refine blk_drewN ?_ _ | refine blk_drew ?_ | refine blk_alloc ?_ _)); refine blk_put (cs := #[.string t110, .string t111, .bool t112, .string (⟨#[]⟩ : ByteArray), .bool false]) ?_ 3 _ rfl; (with_reducible repeat (first | refine blk_drewN ?_ _ | refine blk_drew ?_ | refine blk_alloc ?_ _)); refine blk_put (cs := #[.string t110, .string t111, .bool false, .string (⟨#[]⟩ : ByteArray), .bool false]) ?_ 2 _ rfl; (with_reducible repeat (first | refine blk_drewN ?_ _ | refine blk_drew ?_ | refine blk_alloc ?_ _)); refine blk_put (cs := #[.string t110, .string (⟨#[]⟩ : ByteArray), .bool false, .string (⟨#[]⟩ : ByteArray), .bool false]) ?_ 1 _ rfl; (with_reducible repeat (first | refine blk_drewN ?_ _ | refine blk_drew ?_ | refine blk_alloc ?_ _)); refine blk_put (cs := #[.string (⟨#[]⟩ : ByteArray), .string (⟨#[]⟩ : ByteArray), .bool false, .string (⟨#[]⟩ : ByteArray), .bool false]) ?_ 0 _ rfl; (with_reducible repeat (first | refine blk_drewN ?_ _ | refine blk_drew ?_ | refine blk_alloc ?_ _)); exact BK116.out) hb); have n1_ := Aside0.mk (below_step (by repeat (first | (with_reducible first | exact HB.out | apply below_alloc | apply pw_below_drewN | apply below_drew1 | refine below_set ?_ GE116.out) | exact HB.out)) hb); clear BK116; clear HB; have BK116 := n0_; have HB := n1_; clear n0_ n1_; (try clear hb); (try clear hb2); (try clear hk); (try clear hi)) | ((with_reducible refine gate_dst (N := 3) rfl ?_); (try (refine gate_guard (by rfl) ?_; dsimp only)); refine box_event ?hg (N := 3) ?hd (cs := #[.string (⟨#[]⟩ : ByteArray), .string (⟨#[]⟩ : ByteArray), .bool false, .string (⟨#[]⟩ : ByteArray), .bool false]) (t := 24) ?hr ?_; (case hd => rfl); (case hg => rfl); (case hr => first | (go_simp; done) | (go_simp; rfl)); intro gb123 hg w18 hbox hb; have n0_ := Aside0.mk (blk_below (g := gb116) (o := .cells #[.string t110, .string t111, .bool t112, .string t113, .bool t114] 24 (0, 0)) (by (with_reducible repeat (first | refine blk_drewN ?_ _ | refine blk_drew ?_ | refine blk_alloc ?_ _)); exact BK116.out) hb); have n1_ := Aside0.mk (below_step (by repeat (first | (with_reducible first | exact HB.out | apply below_alloc | apply pw_below_drewN | apply below_drew1 | refine below_set ?_ GE116.out) | exact HB.out)) hb); have n2_ := Aside0.mk (hbox); have n3_ := Aside0.mk ((by rw [hg]; exact (below_size (by repeat (first | (with_reducible first | exact HB.out | apply below_alloc | apply pw_below_drewN | apply below_drew1 | refine below_set ?_ GE116.out) | exact HB.out))) : w.heap.size ≤ gb123)); have n4_ := Aside0.mk ((by rw [hg]; exact (below_size (by repeat (first | (with_reducible first | exact HB.out | apply below_alloc | apply pw_below_drewN | apply below_drew1 | refine below_set ?_ GE116.out) | exact HB.out))) : w.heap.size ≤ gb123)); have n5_ := Aside0.mk ((by rw [hg]; exact Nat.ne_of_lt (blk_lt (g := gb116) (o := .cells #[.string t110, .string t111, .bool t112, .string t113, .bool t114] 24 (0, 0)) (by (with_reducible repeat (first | refine blk_drewN ?_ _ | refine blk_drew ?_ | refine blk_alloc ?_ _)); exact BK116.out)) : gb116 ≠ gb123)); have n6_ := Aside0.mk ((by rw [hg]; exact Nat.ne_of_gt (blk_lt (g := gb116) (o := .cells #[.string t110, .string t111, .bool t112, .string t113, .bool t114] 24 (0, 0)) (by (with_reducible repeat (first | refine blk_drewN ?_ _ | refine blk_drew ?_ | refine blk_alloc ?_ _)); exact BK116.out)) : gb123 ≠ gb116)); clear BK116; clear HB; have BK116 := n0_; have HB := n1_; have BK123 := n2_; have GW123 := n3_; have GE123 := n4_; have NB116_123 := n5_; have NB123_116 := n6_; clear n0_ n1_ n2_ n3_ n4_ n5_ n6_; clear hb hbox hg; have hnb19 := NB123_116.out; have hnc19 := NB116_123.out; have hcz20_0 : w18.cell? ⟨gb123, 0, none⟩ = some (.string (⟨#[]⟩ : ByteArray)) := (blk_cell BK123.out 0).trans rfl; have hcz20_1 : w18.cell? ⟨gb123, 1, none⟩ = some (.string (⟨#[]⟩ : ByteArray)) := (blk_cell BK123.out 1).trans rfl; have hcz20_2 : w18.cell? ⟨gb123, 2, none⟩ = some (.bool false) := (blk_cell BK123.out 2).trans rfl; have hcz20_3 : w18.cell? ⟨gb123, 3, none⟩ = some (.string (⟨#[]⟩ : ByteArray)) := (blk_cell BK123.out 3).trans rfl; have hcz20_4 : w18.cell? ⟨gb123, 4, none⟩ = some (.bool false) := (blk_cell BK123.out 4).trans rfl; have hfz20_0 := blk_frozen BK123.out 0; have hfz20_1 := blk_frozen BK123.out 1; have hfz20_2 := blk_frozen BK123.out 2; have hfz20_3 := blk_frozen BK123.out 3; have hfz20_4 := blk_frozen BK123.out 4; have hcz21_0 : w18.cell? ⟨gb116, 0, none⟩ = some (.string t110) := (blk_cell BK116.out 0).trans rfl; have hcz21_1 : w18.cell? ⟨gb116, 1, none⟩ = some (.string t111) := (blk_cell BK116.out 1).trans rfl; have hcz21_2 : w18.cell? ⟨gb116, 2, none⟩ = some (.bool t112) := (blk_cell BK116.out 2).trans rfl; have hcz21_3 : w18.cell? ⟨gb116, 3, none⟩ = some (.string t113) := (blk_cell BK116.out 3).trans rfl; have hcz21_4 : w18.cell? ⟨gb116, 4, none⟩ = some (.bool t114) := (blk_cell BK116.out 4).trans rfl; have hfz21_0 := blk_frozen BK116.out 0; have hfz21_1 := blk_frozen BK116.out 1; have hfz21_2 := blk_frozen BK116.out 2; have hfz21_3 := blk_frozen BK116.out 3; have hfz21_4 := blk_frozen BK116.out 4) | (go_at_call 11; (with_reducible refine (oper_All.calls  t124 _ A13.out).mono ?_); rintro e w22 ⟨v125, rfl, ho0, hb⟩; have n0_ := Aside0.mk (Kd.R_lower ho0 (below_size (by repeat (first | (with_reducible first | exact HB.out | apply below_alloc | apply pw_below_drewN | apply below_drew1 | refine below_set ?_ GE116.out | refine below_set ?_ GE123.out) | exact HB.out)))); have n1_ := Aside0.mk (blk_below (g := gb116) (o := .cells #[.string t110, .string t111, .bool t112, .string t113, .bool t114] 24 (0, 0)) (by (with_reducible repeat (first | refine blk_drewN ?_ _ | refine blk_drew ?_ | refine blk_alloc ?_ _)); refine blk_far ?_ NB116_123.out _; (with_reducible repeat (first | refine blk_drewN ?_ _ | refine blk_drew ?_ | refine blk_alloc ?_ _)); refine blk_far ?_ NB116_123.out _; (with_reducible repeat (first | refine blk_drewN ?_ _ | refine blk_drew ?_ | refine blk_alloc ?_ _)); refine blk_far ?_ NB116_123.out _; (with_reducible repeat (first | refine blk_drewN ?_ _ | refine blk_drew ?_ | refine blk_alloc ?_ _)); refine blk_far ?_ NB116_123.out _; (with_reducible repeat (first | refine blk_drewN ?_ _ | refine blk_drew ?_ | refine blk_alloc ?_ _)); refine blk_far ?_ NB116_123.out _; (with_reducible repeat (first | refine blk_drewN ?_ _ | refine blk_drew ?_ | refine blk_alloc ?_ _)); exact BK116.out) hb); have n2_ := Aside0.mk (blk_below (g := gb123) (o := .cells #[.string t117, .string t118, .bool t119, .string t120, .bool t121] 24 (0, 0)) (by (with_reducible repeat (first | refine blk_drewN ?_ _ | refine blk_drew ?_ | refine blk_alloc ?_ _)); refine blk_put (cs := #[.string t117, .string t118, .bool t119, .string t120, .bool false]) ?_ 4 _ rfl; (with_reducible repeat (first | refine blk_drewN ?_ _ | refine blk_drew ?_ | refine blk_alloc ?_ _)); refine blk_put (cs := #[.string t117, .string t118, .bool t119, .string (⟨#[]⟩ : ByteArray), .bool false]) ?_ 3 _ rfl; (with_reducible repeat (first | refine blk_drewN ?_ _ | refine blk_drew ?_ | refine blk_alloc ?_ _)); refine blk_put (cs := #[.string t117, .string t118, .bool false, .string (⟨#[]⟩ : ByteArray), .bool false]) ?_ 2 _ rfl; (with_reducible repeat (first | refine blk_drewN ?_ _ | refine blk_drew ?_ | refine blk_alloc ?_ _)); refine blk_put (cs := #[.string t117, .string (⟨#[]⟩ : ByteArray), .bool false, .string (⟨#[]⟩ : ByteArray), .bool false]) ?_ 1 _ rfl; (with_reducible repeat (first | refine blk_drewN ?_ _ | refine blk_drew ?_ | refine blk_alloc ?_ _)); refine blk_put (cs := #[.string (⟨#[]⟩ : ByteArray), .string (⟨#[]⟩ : ByteArray), .bool false, .string (⟨#[]⟩ : ByteArray), .bool false]) ?_ 0 _ rfl; (with_reducible repeat (first | refine blk_drewN ?_ _ | refine blk_drew ?_ | refine blk_alloc ?_ _)); exact BK123.out) hb); have n3_ := Aside0.mk (below_step (by repeat (first | (with_reducible first | exact HB.out | apply below_alloc | apply pw_below_drewN | apply below_drew1 | refine below_set ?_ GE116.out | refine below_set ?_ GE123.out) | exact HB.out)) hb); clear BK116; clear BK123; clear HB; have HO126 := n0_; have BK116 := n1_; have BK123 := n2_; have HB := n3_; clear n0_ n1_ n2_ n3_; (try clear hb); (try clear hb2); (try clear hk); (try clear hi); (try clear ho0); obtain ⟨Ao23, co23, eo23⟩ := Kd.R_slice HO126.out; subst eo23))
        go_ret
        exact ⟨by first | rfl | (simp [errW_none, errW_some] <;> rfl) | (simp [*, errW_none, errW_some] <;> rfl), by repeat (first | (with_reducible first | exact HB.out | apply below_alloc | apply pw_below_drewN | apply below_drew1 | refine below_set ?_ GE116.out | refine below_set ?_ GE123.out) | exact HB.out)⟩
      · rw [if_neg c12] at H
        have c12b0 : (t110.toList == ([63] : List UInt8) && (t111.toList == ([38] : List UInt8) && (t112 && (t113.toList == ([61] : List UInt8) && (!t114))))) = false := by simpa using c12
        (try (have c12b1 : decide (t110.toList = ([63] : List UInt8) && (t111.toList == ([38] : List UInt8) && (t112 && (t113.toList == ([61] : List UInt8) && (!t114))))) = false := by simpa using c12))
        (try (have c12b2 : (t110.toList == ([63] : List UInt8) && (t111.toList == ([38] : List UInt8) && (t112 && (t113.toList == ([61] : List UInt8) && (!t114))))) = false := by simpa using c12))
        (try (have c12b3 : ¬ (t110.toList = ([63] : List UInt8) && (t111.toList == ([38] : List UInt8) && (t112 && (t113.toList == ([61] : List UInt8) && (!t114))))) := by simpa using c12))
        clear c12
        obtain rfl := Option.some.inj H
        go_enter Try.func8, Try.ntmps8
        go_wp2_with (first | ((with_reducible refine gate_callee (f := 9) rfl ?_); refine goesL_ (some 6) rfl rfl Try.func9 (by kernel_rfl) rfl #[.int .u8 63] rfl (by (try simp only [List.map_toArray, List.map_cons, List.map_nil]); first | done | rfl | (simp only [List.length_drop, List.length_take]; rfl)) ?_; (with_reducible refine (oper_Of.calls 63 t110 t111 t112 t113 t114 true _ A1.out).mono ?_); rintro e w24 ⟨rfl, hb⟩; refine ⟨_, rfl, ?_⟩; have n0_ := Aside0.mk (below_step (by repeat (first | (with_reducible first | exact HB.out | apply below_alloc | apply pw_below_drewN | apply below_drew1) | exact HB.out)) hb); clear HB; have HB := n0_; clear n0_; (try clear hb); (try clear hb2); (try clear hk); (try clear hi)) | ((with_reducible refine gate_dst (N := 1) rfl ?_); (try (refine gate_guard (by rfl) ?_; dsimp only)); refine box_event ?hg (N := 1) ?hd (cs := #[.string (⟨#[]⟩ : ByteArray), .string (⟨#[]⟩ : ByteArray), .bool false, .string (⟨#[]⟩ : ByteArray), .bool false]) (t := 24) ?hr ?_; (case hd => rfl); (case hg => rfl); (case hr => first | (go_simp; done) | (go_simp; rfl)); intro gb116 hg w25 hbox hb; have n0_ := Aside0.mk (below_step (by repeat (first | (with_reducible first | exact HB.out | apply below_alloc | apply pw_below_drewN | apply below_drew1) | exact HB.out)) hb); have n1_ := Aside0.mk (hbox); have n2_ := Aside0.mk ((by rw [hg]; exact (below_size (by repeat (first | (with_reducible first | exact HB.out | apply below_alloc | apply pw_below_drewN | apply below_drew1) | exact HB.out))) : w.heap.size ≤ gb116)); have n3_ := Aside0.mk ((by rw [hg]; exact (below_size (by repeat (first | (with_reducible first | exact HB.out | apply below_alloc | apply pw_below_drewN | apply below_drew1) | exact HB.out))) : w.heap.size ≤ gb116)); clear HB; have HB := n0_; have BK116 := n1_; have GW116 := n2_; have GE116 := n3_; clear n0_ n1_ n2_ n3_; clear hb hbox hg; have hcz26_0 : w25.cell? ⟨gb116, 0, none⟩ = some (.string (⟨#[]⟩ : ByteArray)) := (blk_cell BK116.out 0).trans rfl; have hcz26_1 : w25.cell? ⟨gb116, 1, none⟩ = some (.string (⟨#[]⟩ : ByteArray)) := (blk_cell BK116.out 1).trans rfl; have hcz26_2 : w25.cell? ⟨gb116, 2, none⟩ = some (.bool false) := (blk_cell BK116.out 2).trans rfl; have hcz26_3 : w25.cell? ⟨gb116, 3, none⟩ = some (.string (⟨#[]⟩ : ByteArray)) := (blk_cell BK116.out 3).trans rfl; have hcz26_4 : w25.cell? ⟨gb116, 4, none⟩ = some (.bool false) := (blk_cell BK116.out 4).trans rfl; have hfz26_0 := blk_frozen BK116.out 0; have hfz26_1 := blk_frozen BK116.out 1; have hfz26_2 := blk_frozen BK116.out 2; have hfz26_3 := blk_frozen BK116.out 3; have hfz26_4 := blk_frozen BK116.out 4) | ((with_reducible refine gate_callee (f := 9) rfl ?_); refine goesL_ (some 10) rfl rfl Try.func9 (by kernel_rfl) rfl #[.int .u8 33] rfl (by (try simp only [List.map_toArray, List.map_cons, List.map_nil]); first | done | rfl | (simp only [List.length_drop, List.length_take]; rfl)) ?_; (with_reducible refine (oper_Of.calls 33 t117 t118 t119 t120 t121 false _ A2.out).mono ?_); rintro e w27 ⟨rfl, hb⟩; refine ⟨_, rfl, ?_⟩; have n0_ := Aside0.mk (blk_below (g := gb116) (o := .cells #[.string t110, .string t111, .bool t112, .string t113, .bool t114] 24 (0, 0)) (by (with_reducible repeat (first | refine blk_drewN ?_ _ | refine blk_drew ?_ | refine blk_alloc ?_ _)); refine blk_put (cs := #[.string t110, .string t111, .bool t112, .string t113, .bool false]) ?_ 4 _ rfl; (with_reducible repeat (first | refine blk_drewN ?_ _ | refine blk_drew ?_ | refine blk_alloc ?_ _)); refine blk_put (cs := #[.string t110, .string t111, .bool t112, .string (⟨#[]⟩ : ByteArray), .bool false]) ?_ 3 _ rfl; (with_reducible repeat (first | refine blk_drewN ?_ _ | refine blk_drew ?_ | refine blk_alloc ?_ _)); refine blk_put (cs := #[.string t110, .string t111, .bool false, .string (⟨#[]⟩ : ByteArray), .bool false]) ?_ 2 _ rfl; (with_reducible repeat (first | refine blk_drewN ?_ _ | refine blk_drew ?_ | refine blk_alloc ?_ _)); refine blk_put (cs := #[.string t110, .string (⟨#[]⟩ : ByteArray), .bool false, .string (⟨#[]⟩ : ByteArray), .bool false]) ?_ 1 _ rfl; (with_reducible repeat (first | refine blk_drewN ?_ _ | refine blk_drew ?_ | refine blk_alloc ?_ _)); refine blk_put (cs := #[.string (⟨#[]⟩ : ByteArray), .string (⟨#[]⟩ : ByteArray), .bool false, .string (⟨#[]⟩ : ByteArray), .bool false]) ?_ 0 _ rfl; (with_reducible repeat (first | refine blk_drewN ?_ _ | refine blk_drew ?_ | refine blk_alloc ?_ _)); exact BK116.out) hb); have n1_ := Aside0.mk (below_step (by repeat (first | (with_reducible first | exact HB.out | apply below_alloc | apply pw_below_drewN | apply below_drew1 | refine below_set ?_ GE116.out) | exact HB.out)) hb); clear BK116; clear HB; have BK116 := n0_; have HB := n1_; clear n0_ n1_; (try clear hb); (try clear hb2); (try clear hk); (try clear hi)) | ((with_reducible refine gate_dst (N := 3) rfl ?_); (try (refine gate_guard (by rfl) ?_; dsimp only)); refine box_event ?hg (N := 3) ?hd (cs := #[.string (⟨#[]⟩ : ByteArray), .string (⟨#[]⟩ : ByteArray), .bool false, .string (⟨#[]⟩ : ByteArray), .bool false]) (t := 24) ?hr ?_; (case hd => rfl); (case hg => rfl); (case hr => first | (go_simp; done) | (go_simp; rfl)); intro gb123 hg w28 hbox hb; have n0_ := Aside0.mk (blk_below (g := gb116) (o := .cells #[.string t110, .string t111, .bool t112, .string t113, .bool t114] 24 (0, 0)) (by (with_reducible repeat (first | refine blk_drewN ?_ _ | refine blk_drew ?_ | refine blk_alloc ?_ _)); exact BK116.out) hb); have n1_ := Aside0.mk (below_step (by repeat (first | (with_reducible first | exact HB.out | apply below_alloc | apply pw_below_drewN | apply below_drew1 | refine below_set ?_ GE116.out) | exact HB.out)) hb); have n2_ := Aside0.mk (hbox); have n3_ := Aside0.mk ((by rw [hg]; exact (below_size (by repeat (first | (with_reducible first | exact HB.out | apply below_alloc | apply pw_below_drewN | apply below_drew1 | refine below_set ?_ GE116.out) | exact HB.out))) : w.heap.size ≤ gb123)); have n4_ := Aside0.mk ((by rw [hg]; exact (below_size (by repeat (first | (with_reducible first | exact HB.out | apply below_alloc | apply pw_below_drewN | apply below_drew1 | refine below_set ?_ GE116.out) | exact HB.out))) : w.heap.size ≤ gb123)); have n5_ := Aside0.mk ((by rw [hg]; exact Nat.ne_of_lt (blk_lt (g := gb116) (o := .cells #[.string t110, .string t111, .bool t112, .string t113, .bool t114] 24 (0, 0)) (by (with_reducible repeat (first | refine blk_drewN ?_ _ | refine blk_drew ?_ | refine blk_alloc ?_ _)); exact BK116.out)) : gb116 ≠ gb123)); have n6_ := Aside0.mk ((by rw [hg]; exact Nat.ne_of_gt (blk_lt (g := gb116) (o := .cells #[.string t110, .string t111, .bool t112, .string t113, .bool t114] 24 (0, 0)) (by (with_reducible repeat (first | refine blk_drewN ?_ _ | refine blk_drew ?_ | refine blk_alloc ?_ _)); exact BK116.out)) : gb123 ≠ gb116)); clear BK116; clear HB; have BK116 := n0_; have HB := n1_; have BK123 := n2_; have GW123 := n3_; have GE123 := n4_; have NB116_123 := n5_; have NB123_116 := n6_; clear n0_ n1_ n2_ n3_ n4_ n5_ n6_; clear hb hbox hg; have hnb29 := NB123_116.out; have hnc29 := NB116_123.out; have hcz30_0 : w28.cell? ⟨gb123, 0, none⟩ = some (.string (⟨#[]⟩ : ByteArray)) := (blk_cell BK123.out 0).trans rfl; have hcz30_1 : w28.cell? ⟨gb123, 1, none⟩ = some (.string (⟨#[]⟩ : ByteArray)) := (blk_cell BK123.out 1).trans rfl; have hcz30_2 : w28.cell? ⟨gb123, 2, none⟩ = some (.bool false) := (blk_cell BK123.out 2).trans rfl; have hcz30_3 : w28.cell? ⟨gb123, 3, none⟩ = some (.string (⟨#[]⟩ : ByteArray)) := (blk_cell BK123.out 3).trans rfl; have hcz30_4 : w28.cell? ⟨gb123, 4, none⟩ = some (.bool false) := (blk_cell BK123.out 4).trans rfl; have hfz30_0 := blk_frozen BK123.out 0; have hfz30_1 := blk_frozen BK123.out 1; have hfz30_2 := blk_frozen BK123.out 2; have hfz30_3 := blk_frozen BK123.out 3; have hfz30_4 := blk_frozen BK123.out 4; have hcz31_0 : w28.cell? ⟨gb116, 0, none⟩ = some (.string t110) := (blk_cell BK116.out 0).trans rfl; have hcz31_1 : w28.cell? ⟨gb116, 1, none⟩ = some (.string t111) := (blk_cell BK116.out 1).trans rfl; have hcz31_2 : w28.cell? ⟨gb116, 2, none⟩ = some (.bool t112) := (blk_cell BK116.out 2).trans rfl; have hcz31_3 : w28.cell? ⟨gb116, 3, none⟩ = some (.string t113) := (blk_cell BK116.out 3).trans rfl; have hcz31_4 : w28.cell? ⟨gb116, 4, none⟩ = some (.bool t114) := (blk_cell BK116.out 4).trans rfl; have hfz31_0 := blk_frozen BK116.out 0; have hfz31_1 := blk_frozen BK116.out 1; have hfz31_2 := blk_frozen BK116.out 2; have hfz31_3 := blk_frozen BK116.out 3; have hfz31_4 := blk_frozen BK116.out 4))
        go_ret
        exact ⟨by first | rfl | (simp [errW_none, errW_some] <;> rfl) | (simp [*, errW_none, errW_some] <;> rfl), by repeat (first | (with_reducible first | exact HB.out | apply below_alloc | apply pw_below_drewN | apply below_drew1 | refine below_set ?_ GE116.out | refine below_set ?_ GE123.out) | exact HB.out)⟩
  · replace c3 := Bool.eq_false_iff.mpr c3
    subst c3
    have H1 : (some false) = some r := by rw [if_neg (show ¬ (false = true) by decide)] at H; exact H
    clear H
    have H := H1
    clear H1
    obtain rfl := Option.some.inj H
    go_enter Try.func8, Try.ntmps8
    go_wp2_with (first | ((with_reducible refine gate_callee (f := 9) rfl ?_); refine goesL_ (some 6) rfl rfl Try.func9 (by kernel_rfl) rfl #[.int .u8 63] rfl (by (try simp only [List.map_toArray, List.map_cons, List.map_nil]); first | done | rfl | (simp only [List.length_drop, List.length_take]; rfl)) ?_; (with_reducible refine (oper_Of.calls 63 t110 t111 t112 t113 t114 false _ A1.out).mono ?_); rintro e w32 ⟨rfl, hb⟩; refine ⟨_, rfl, ?_⟩; have n0_ := Aside0.mk (below_step (by repeat (first | (with_reducible first | exact HB.out | apply below_alloc | apply pw_below_drewN | apply below_drew1) | exact HB.out)) hb); clear HB; have HB := n0_; clear n0_; (try clear hb); (try clear hb2); (try clear hk); (try clear hi)) | ((with_reducible refine gate_dst (N := 1) rfl ?_); (try (refine gate_guard (by rfl) ?_; dsimp only)); refine box_event ?hg (N := 1) ?hd (cs := #[.string (⟨#[]⟩ : ByteArray), .string (⟨#[]⟩ : ByteArray), .bool false, .string (⟨#[]⟩ : ByteArray), .bool false]) (t := 24) ?hr ?_; (case hd => rfl); (case hg => rfl); (case hr => first | (go_simp; done) | (go_simp; rfl)); intro gb116 hg w33 hbox hb; have n0_ := Aside0.mk (below_step (by repeat (first | (with_reducible first | exact HB.out | apply below_alloc | apply pw_below_drewN | apply below_drew1) | exact HB.out)) hb); have n1_ := Aside0.mk (hbox); have n2_ := Aside0.mk ((by rw [hg]; exact (below_size (by repeat (first | (with_reducible first | exact HB.out | apply below_alloc | apply pw_below_drewN | apply below_drew1) | exact HB.out))) : w.heap.size ≤ gb116)); have n3_ := Aside0.mk ((by rw [hg]; exact (below_size (by repeat (first | (with_reducible first | exact HB.out | apply below_alloc | apply pw_below_drewN | apply below_drew1) | exact HB.out))) : w.heap.size ≤ gb116)); clear HB; have HB := n0_; have BK116 := n1_; have GW116 := n2_; have GE116 := n3_; clear n0_ n1_ n2_ n3_; clear hb hbox hg; have hcz34_0 : w33.cell? ⟨gb116, 0, none⟩ = some (.string (⟨#[]⟩ : ByteArray)) := (blk_cell BK116.out 0).trans rfl; have hcz34_1 : w33.cell? ⟨gb116, 1, none⟩ = some (.string (⟨#[]⟩ : ByteArray)) := (blk_cell BK116.out 1).trans rfl; have hcz34_2 : w33.cell? ⟨gb116, 2, none⟩ = some (.bool false) := (blk_cell BK116.out 2).trans rfl; have hcz34_3 : w33.cell? ⟨gb116, 3, none⟩ = some (.string (⟨#[]⟩ : ByteArray)) := (blk_cell BK116.out 3).trans rfl; have hcz34_4 : w33.cell? ⟨gb116, 4, none⟩ = some (.bool false) := (blk_cell BK116.out 4).trans rfl; have hfz34_0 := blk_frozen BK116.out 0; have hfz34_1 := blk_frozen BK116.out 1; have hfz34_2 := blk_frozen BK116.out 2; have hfz34_3 := blk_frozen BK116.out 3; have hfz34_4 := blk_frozen BK116.out 4) | ((with_reducible refine gate_callee (f := 9) rfl ?_); refine goesL_ (some 10) rfl rfl Try.func9 (by kernel_rfl) rfl #[.int .u8 33] rfl (by (try simp only [List.map_toArray, List.map_cons, List.map_nil]); first | done | rfl | (simp only [List.length_drop, List.length_take]; rfl)) ?_; (with_reducible refine (oper_Of.calls 33 t117 t118 t119 t120 t121 t122 _ A2.out).mono ?_); rintro e w35 ⟨rfl, hb⟩; refine ⟨_, rfl, ?_⟩; have n0_ := Aside0.mk (blk_below (g := gb116) (o := .cells #[.string t110, .string t111, .bool t112, .string t113, .bool t114] 24 (0, 0)) (by (with_reducible repeat (first | refine blk_drewN ?_ _ | refine blk_drew ?_ | refine blk_alloc ?_ _)); refine blk_put (cs := #[.string t110, .string t111, .bool t112, .string t113, .bool false]) ?_ 4 _ rfl; (with_reducible repeat (first | refine blk_drewN ?_ _ | refine blk_drew ?_ | refine blk_alloc ?_ _)); refine blk_put (cs := #[.string t110, .string t111, .bool t112, .string (⟨#[]⟩ : ByteArray), .bool false]) ?_ 3 _ rfl; (with_reducible repeat (first | refine blk_drewN ?_ _ | refine blk_drew ?_ | refine blk_alloc ?_ _)); refine blk_put (cs := #[.string t110, .string t111, .bool false, .string (⟨#[]⟩ : ByteArray), .bool false]) ?_ 2 _ rfl; (with_reducible repeat (first | refine blk_drewN ?_ _ | refine blk_drew ?_ | refine blk_alloc ?_ _)); refine blk_put (cs := #[.string t110, .string (⟨#[]⟩ : ByteArray), .bool false, .string (⟨#[]⟩ : ByteArray), .bool false]) ?_ 1 _ rfl; (with_reducible repeat (first | refine blk_drewN ?_ _ | refine blk_drew ?_ | refine blk_alloc ?_ _)); refine blk_put (cs := #[.string (⟨#[]⟩ : ByteArray), .string (⟨#[]⟩ : ByteArray), .bool false, .string (⟨#[]⟩ : ByteArray), .bool false]) ?_ 0 _ rfl; (with_reducible repeat (first | refine blk_drewN ?_ _ | refine blk_drew ?_ | refine blk_alloc ?_ _)); exact BK116.out) hb); have n1_ := Aside0.mk (below_step (by repeat (first | (with_reducible first | exact HB.out | apply below_alloc | apply pw_below_drewN | apply below_drew1 | refine below_set ?_ GE116.out) | exact HB.out)) hb); clear BK116; clear HB; have BK116 := n0_; have HB := n1_; clear n0_ n1_; (try clear hb); (try clear hb2); (try clear hk); (try clear hi)) | ((with_reducible refine gate_dst (N := 3) rfl ?_); (try (refine gate_guard (by rfl) ?_; dsimp only)); refine box_event ?hg (N := 3) ?hd (cs := #[.string (⟨#[]⟩ : ByteArray), .string (⟨#[]⟩ : ByteArray), .bool false, .string (⟨#[]⟩ : ByteArray), .bool false]) (t := 24) ?hr ?_; (case hd => rfl); (case hg => rfl); (case hr => first | (go_simp; done) | (go_simp; rfl)); intro gb123 hg w36 hbox hb; have n0_ := Aside0.mk (blk_below (g := gb116) (o := .cells #[.string t110, .string t111, .bool t112, .string t113, .bool t114] 24 (0, 0)) (by (with_reducible repeat (first | refine blk_drewN ?_ _ | refine blk_drew ?_ | refine blk_alloc ?_ _)); exact BK116.out) hb); have n1_ := Aside0.mk (below_step (by repeat (first | (with_reducible first | exact HB.out | apply below_alloc | apply pw_below_drewN | apply below_drew1 | refine below_set ?_ GE116.out) | exact HB.out)) hb); have n2_ := Aside0.mk (hbox); have n3_ := Aside0.mk ((by rw [hg]; exact (below_size (by repeat (first | (with_reducible first | exact HB.out | apply below_alloc | apply pw_below_drewN | apply below_drew1 | refine below_set ?_ GE116.out) | exact HB.out))) : w.heap.size ≤ gb123)); have n4_ := Aside0.mk ((by rw [hg]; exact (below_size (by repeat (first | (with_reducible first | exact HB.out | apply below_alloc | apply pw_below_drewN | apply below_drew1 | refine below_set ?_ GE116.out) | exact HB.out))) : w.heap.size ≤ gb123)); have n5_ := Aside0.mk ((by rw [hg]; exact Nat.ne_of_lt (blk_lt (g := gb116) (o := .cells #[.string t110, .string t111, .bool t112, .string t113, .bool t114] 24 (0, 0)) (by (with_reducible repeat (first | refine blk_drewN ?_ _ | refine blk_drew ?_ | refine blk_alloc ?_ _)); exact BK116.out)) : gb116 ≠ gb123)); have n6_ := Aside0.mk ((by rw [hg]; exact Nat.ne_of_gt (blk_lt (g := gb116) (o := .cells #[.string t110, .string t111, .bool t112, .string t113, .bool t114] 24 (0, 0)) (by (with_reducible repeat (first | refine blk_drewN ?_ _ | refine blk_drew ?_ | refine blk_alloc ?_ _)); exact BK116.out)) : gb123 ≠ gb116)); clear BK116; clear HB; have BK116 := n0_; have HB := n1_; have BK123 := n2_; have GW123 := n3_; have GE123 := n4_; have NB116_123 := n5_; have NB123_116 := n6_; clear n0_ n1_ n2_ n3_ n4_ n5_ n6_; clear hb hbox hg; have hnb37 := NB123_116.out; have hnc37 := NB116_123.out; have hcz38_0 : w36.cell? ⟨gb123, 0, none⟩ = some (.string (⟨#[]⟩ : ByteArray)) := (blk_cell BK123.out 0).trans rfl; have hcz38_1 : w36.cell? ⟨gb123, 1, none⟩ = some (.string (⟨#[]⟩ : ByteArray)) := (blk_cell BK123.out 1).trans rfl; have hcz38_2 : w36.cell? ⟨gb123, 2, none⟩ = some (.bool false) := (blk_cell BK123.out 2).trans rfl; have hcz38_3 : w36.cell? ⟨gb123, 3, none⟩ = some (.string (⟨#[]⟩ : ByteArray)) := (blk_cell BK123.out 3).trans rfl; have hcz38_4 : w36.cell? ⟨gb123, 4, none⟩ = some (.bool false) := (blk_cell BK123.out 4).trans rfl; have hfz38_0 := blk_frozen BK123.out 0; have hfz38_1 := blk_frozen BK123.out 1; have hfz38_2 := blk_frozen BK123.out 2; have hfz38_3 := blk_frozen BK123.out 3; have hfz38_4 := blk_frozen BK123.out 4))
    go_ret
    exact ⟨by first | rfl | (simp [errW_none, errW_some] <;> rfl) | (simp [*, errW_none, errW_some] <;> rfl), by repeat (first | (with_reducible first | exact HB.out | apply below_alloc | apply pw_below_drewN | apply below_drew1 | refine below_set ?_ GE116.out | refine below_set ?_ GE123.out) | exact HB.out)⟩

/-! ### phalaroperef02_In: function 17 -/
def phalaroperef02_In.l0 : Nat → ByteArray → Int → Int → Option (Bool)
  | 0, _, _, _ => none
  | k + 1, x0, x1, x5 => if x5 < (x0.size : Int) then (if 0 ≤ x5 then (if (bt x0 x5) = x1 then (some true) else (phalaroperef02_In.l0 k x0 x1 (wrap64 (x5 + 1)))) else (none)) else (some false)
def phalaroperef02_In.f (k : Nat) (a0 : ByteArray) (a1 : Int) : Option (Bool) := phalaroperef02_In.l0 k a0 a1 0
theorem phalaroperef02_In.mono_l : ∀ k, (∀ y0 y1 y2, LeO (phalaroperef02_In.l0 k y0 y1 y2) (phalaroperef02_In.l0 (k + 1) y0 y1 y2))
  | 0 => fun _ _ _ r h => by simp [phalaroperef02_In.l0] at h
  | k + 1 => by
    have ih0 := phalaroperef02_In.mono_l k
    · intro y0 y1 y2
      unfold phalaroperef02_In.l0
      repeat' first
      | (with_reducible exact ih0 _ _ _)
      | (with_reducible exact LeO.refl _)
      | (with_reducible exact LeO.none _)
      | (with_reducible refine LeO.ite ?_ ?_)
      | (with_reducible refine LeO.bind ?_ (fun _ => ?_))
      | exact ih0 _ _ _
      | exact LeO.none _
      | refine LeO.ite ?_ ?_
      | refine LeO.bind ?_ (fun _ => ?_)
theorem phalaroperef02_In.mono : ∀ a0 a1 k, LeO (phalaroperef02_In.f k a0 a1) (phalaroperef02_In.f (k + 1) a0 a1) := by
  intro a0 a1 k
  have ih0 := phalaroperef02_In.mono_l k
  unfold phalaroperef02_In.f
  repeat' first
      | (with_reducible exact ih0 _ _ _)
      | (with_reducible exact LeO.refl _)
      | (with_reducible exact LeO.none _)
      | (with_reducible refine LeO.ite ?_ ?_)
      | (with_reducible refine LeO.bind ?_ (fun _ => ?_))
      | exact ih0 _ _ _
      | exact LeO.none _
      | refine LeO.ite ?_ ?_
      | refine LeO.bind ?_ (fun _ => ?_)
set_option maxHeartbeats 8000000 in
set_option maxRecDepth 100000 in
theorem phalaroperef02_In.calls (k : Nat) (a0 : ByteArray) (a1 : Int) (r : Bool) (w : World) (h : phalaroperef02_In.f k a0 a1 = some r) :
    Calls Try.prog 17 #[.string a0, .int .u8 a1] w fun e w' => e = .returned (.bool r) ∧ Drawn0 w w' := by
  have H : (phalaroperef02_In.l0 k a0 a1 0) = some r := h
  clear h
  have H' := Aside0.mk H
  clear H
  go_enter Try.func17, Try.ntmps17
  go_wp2
  go_loopg [5] k (fun kq v5 w' => ∃ (x5_1 : Int), v5 = .int .i64 x5_1 ∧ Aside0 (phalaroperef02_In.l0 kq a0 a1 x5_1 = some r) ∧ Aside0 (kq ≤ k) ∧ Drawn0 w w')
  case atStart => exact ⟨(0), (by first | rfl | (simp; done) | (simp [*]; done)), H', ⟨Nat.le_refl _⟩, by repeat (first | exact Drawn0.refl _ | apply Drawn0.step)⟩
  case round =>
    clear H'
    try clear c1
    try clear p2
    obtain ⟨x5_1, rfl, HA, HK1, ⟨m1, rfl⟩⟩ := hrel
    cases gk with
    | zero => exact absurd HA.out (by simp [phalaroperef02_In.l0])
    | succ k1 =>
      have H := HA.out
      clear HA
      simp only [phalaroperef02_In.l0] at H
      by_cases c3 : x5_1 < (a0.size : Int)
      · rw [if_pos c3] at H
        have c3b0 : decide (x5_1 < (a0.size : Int)) = true := decide_eq_true c3
        clear c3
        by_cases c4 : 0 ≤ x5_1
        · rw [if_pos c4] at H
          have c4b0 : decide (0 ≤ x5_1) = true := decide_eq_true c4
          clear c4
          by_cases c6 : (bt a0 x5_1) = a1
          · rw [if_pos c6] at H
            have c6b0 : ((bt a0 x5_1) == a1) = true := beq_iff_eq.mpr c6
            have c6b1 : ((bt a0 x5_1) != a1) = false := bne_eq_false_iff_eq.mpr c6
            clear c6
            obtain rfl := Option.some.inj H
            have p5 : 0 ≤ (x5_1 : Int) := of_decide_eq_true (by first | (with_reducible assumption) | assumption)
            have q5 : x5_1 < (a0.size : Int) := of_decide_eq_true (by first | (with_reducible assumption) | assumption)
            have hx5 := bt_at a0 x5_1
            replace p5 := eq_true p5
            replace q5 := eq_true q5
            go_wp2
            go_ret
            exact ⟨by first | rfl | (simp; done) | (simp [*]; done), by repeat (first | exact Drawn0.refl _ | apply Drawn0.step)⟩
          · rw [if_neg c6] at H
            have c6b0 : ((bt a0 x5_1) == a1) = false := beq_eq_false_iff_ne.mpr c6
            have c6b1 : ((bt a0 x5_1) != a1) = true := bne_iff_ne.mpr c6
            have H' := Aside0.mk H
            clear H
            have p5 : 0 ≤ (x5_1 : Int) := of_decide_eq_true (by first | (with_reducible assumption) | assumption)
            have q5 : x5_1 < (a0.size : Int) := of_decide_eq_true (by first | (with_reducible assumption) | assumption)
            have hx5 := bt_at a0 x5_1
            replace p5 := eq_true p5
            replace q5 := eq_true q5
            go_wp2
            go_roundg k1
            case measure => have := HK1.out; omega
            case rel => exact ⟨(wrap64 (x5_1 + 1)), (by first | rfl | (simp; done) | (simp [*]; done)), H', ⟨by have := HK1.out; omega⟩, by repeat (first | exact Drawn0.refl _ | apply Drawn0.step)⟩
        · rw [if_neg c4] at H
          exact absurd H (by simp)
      · rw [if_neg c3] at H
        have c3b0 : decide (x5_1 < (a0.size : Int)) = false := decide_eq_false c3
        clear c3
        obtain rfl := Option.some.inj H
        go_wp2
        go_ret
        exact ⟨by first | rfl | (simp; done) | (simp [*]; done), by repeat (first | exact Drawn0.refl _ | apply Drawn0.step)⟩

/-! ### phalaroperef07_Operator: function 12 -/
def phalaroperef07_Operator.f (k : Nat) (a0 : Int) : Option (Bool) := if a0 = 0 then (some true) else ((phalaroperef02_In.f k (⟨#[43, 35, 46, 47, 59, 63, 38]⟩ : ByteArray) a0).bind fun t127 => (some t127))
theorem phalaroperef07_Operator.mono : ∀ a0 k, LeO (phalaroperef07_Operator.f k a0) (phalaroperef07_Operator.f (k + 1) a0) := by
  intro a0 k
  unfold phalaroperef07_Operator.f
  repeat' first
      | (with_reducible exact phalaroperef02_In.mono _ _ _)
      | (with_reducible exact LeO.refl _)
      | (with_reducible exact LeO.none _)
      | (with_reducible refine LeO.ite ?_ ?_)
      | (with_reducible refine LeO.bind ?_ (fun _ => ?_))
      | exact phalaroperef02_In.mono _ _ _
      | exact LeO.none _
      | refine LeO.ite ?_ ?_
      | refine LeO.bind ?_ (fun _ => ?_)
set_option maxHeartbeats 8000000 in
set_option maxRecDepth 100000 in
theorem phalaroperef07_Operator.calls (k : Nat) (a0 : Int) (r : Bool) (w : World) (h : phalaroperef07_Operator.f k a0 = some r) :
    Calls Try.prog 12 #[.int .u8 a0] w fun e w' => e = .returned (.bool r) ∧ Drawn0 w w' := by
  have H : (if a0 = 0 then (some true) else ((phalaroperef02_In.f k (⟨#[43, 35, 46, 47, 59, 63, 38]⟩ : ByteArray) a0).bind fun t127 => (some t127))) = some r := h
  clear h
  by_cases c2 : a0 = 0
  · rw [if_pos c2] at H
    have c2b0 : (a0 == 0) = true := beq_iff_eq.mpr c2
    have c2b1 : (a0 != 0) = false := bne_eq_false_iff_eq.mpr c2
    clear c2
    obtain rfl := Option.some.inj H
    go_enter Try.func12, Try.ntmps12
    go_wp2
    go_ret
    exact ⟨by first | rfl | (simp; done) | (simp [*]; done), by repeat (first | exact Drawn0.refl _ | apply Drawn0.step)⟩
  · rw [if_neg c2] at H
    have c2b0 : (a0 == 0) = false := beq_eq_false_iff_ne.mpr c2
    have c2b1 : (a0 != 0) = true := bne_iff_ne.mpr c2
    replace H := Option.bind_eq_some_iff.mp H
    obtain ⟨t127, A30, H⟩ := H
    replace H : (some t127) = some r := H
    have A3 := Aside0.mk A30
    clear A30
    obtain rfl := Option.some.inj H
    go_enter Try.func12, Try.ntmps12
    go_wp2_with (first | (go_at_call 17; (with_reducible refine (phalaroperef02_In.calls k (⟨#[43, 35, 46, 47, 59, 63, 38]⟩ : ByteArray) a0 t127 _ A3.out).mono ?_); rintro e w' ⟨rfl, ⟨nd, rfl⟩⟩))
    go_ret
    exact ⟨by first | rfl | (simp; done) | (simp [*]; done), by repeat (first | exact Drawn0.refl _ | apply Drawn0.step)⟩

/-! ### phalaroperef10_Of: function 10 (ours) -/
theorem rop_f (c : Int) (h : 0 ≤ c ∧ c ≤ 255) : phalaroperef07_Operator.f 20 c = some (X.isOper c) := by
  obtain ⟨n, rfl⟩ : ∃ n : Nat, c = n := ⟨c.toNat, by omega⟩
  have : ∀ n : Fin 256, phalaroperef07_Operator.f 20 (n.1 : Int) = some (X.isOper (n.1 : Int)) := by decide +kernel
  exact this ⟨n, by omega⟩
theorem conv1 (W : World) (B : Nat) (v : Int) (s : ByteArray) (hs : strOfNums [v] = s) (h : W.cell? ⟨B, 0, none⟩ = some (.int .u8 v)) :
    (convert 31 9 (.slice (some ⟨B, 0, none⟩) 1 1)).run Try.prog W = .ok (.string s) W := by
  subst hs
  exact run_convert_bytes_arg W 31 5 Try.underlying31 Try.underlying5 B 0 1 1 [v] rfl (fun i hi => by
    obtain rfl : i = 0 := by omega
    exact h) 9 Try.underlying9
set_option maxHeartbeats 4000000 in
set_option maxRecDepth 100000 in
theorem ref10_at_0 (w : World) : Calls Try.prog 10 #[.int .u8 0] w fun e w' => e = .returned (.tuple #[.agg #[.string (⟨#[]⟩ : ByteArray), .string (⟨#[44]⟩ : ByteArray), .bool false, .string (⟨#[]⟩ : ByteArray), .bool false], .bool true]) ∧ Below w.heap.size w w' := by
  go_enter Try.func10, Try.ntmps10
  go_wp2_with fail
  refine (phalaroperef07_Operator.calls 20 0 true _ (by decide +kernel)).mono ?_
  rintro e w1 ⟨rfl, hd⟩
  have hb := hd.below
  have HR := Aside0.mk (blk_below (blk_new w _) hb)
  have HB := Aside0.mk (below_step (w := w) (X.below_new1 w _) hb)
  clear hd hb
  have hlt : w.heap.size < w1.heap.size := (Array.getElem?_eq_some_iff.1 HR.out).1
  have hne : w1.heap.size ≠ w.heap.size := by omega
  obtain ⟨z0, z1, z2, z3, z4⟩ := X.cells5 HR.out
  obtain ⟨f0, f1, f2, f3, f4⟩ := X.frozen5 HR.out
  have hfar : ∀ (W : World) (o k : Nat) (v : Value), (W.setCell ⟨w1.heap.size, o, none⟩ v).cell? ⟨w.heap.size, k, none⟩ = W.cell? ⟨w.heap.size, k, none⟩ := fun W o k v => World.cell?_setCell_far W _ _ v hne
  have hal : ∀ (W : World) (o : Obj) (k : Nat), w.heap.size < W.heap.size → (W.alloc o).cell? ⟨w.heap.size, k, none⟩ = W.cell? ⟨w.heap.size, k, none⟩ := fun W o k h => by
    have : Below (w.heap.size + 1) W (W.alloc o) := (Below.refl _ W).alloc h _
    exact this.cell (p := ⟨w.heap.size, k, none⟩) (Nat.lt_succ_self _)
  have hfr : ∀ (W : World) (o : Obj) (k : Nat), w.heap.size < W.heap.size → (W.alloc o).frozen? ⟨w.heap.size, k, none⟩ = W.frozen? ⟨w.heap.size, k, none⟩ := fun W o k h => by
    have : Below (w.heap.size + 1) W (W.alloc o) := (Below.refl _ W).alloc h _
    exact this.frozen (p := ⟨w.heap.size, k, none⟩) (Nat.lt_succ_self _)
  have hlt1 : w.heap.size < w1.heap.size + 1 := by omega
  have hlt2 : w.heap.size < w1.heap.size + 1 + 1 := by omega
  have hcv := fun (W : World) (B : Nat) (h : W.cell? ⟨B, 0, none⟩ = some (.int .u8 0)) => conv1 W B 0 (⟨#[0]⟩ : ByteArray) rfl h
  go_wp2_with fail
  refine bodyPost_ret (v := .tuple #[.agg #[.string (⟨#[]⟩ : ByteArray), .string (⟨#[44]⟩ : ByteArray), .bool false, .string (⟨#[]⟩ : ByteArray), .bool false], .bool true]) (by simp [results, Try.results10, go_sem, z0, z1, z2, z3, z4, hfar, hal, hlt, hlt1, hlt2]) rfl ⟨rfl, ?_⟩
  have hge : w.heap.size ≤ w1.heap.size := by omega
  repeat (with_reducible first | exact HB.out | apply below_alloc | refine below_set ?_ (Nat.le_refl _) | refine below_set ?_ hge)
set_option maxHeartbeats 4000000 in
set_option maxRecDepth 100000 in
theorem ref10_at_43 (w : World) : Calls Try.prog 10 #[.int .u8 43] w fun e w' => e = .returned (.tuple #[.agg #[.string (⟨#[]⟩ : ByteArray), .string (⟨#[44]⟩ : ByteArray), .bool false, .string (⟨#[]⟩ : ByteArray), .bool true], .bool true]) ∧ Below w.heap.size w w' := by
  go_enter Try.func10, Try.ntmps10
  go_wp2_with fail
  refine (phalaroperef07_Operator.calls 20 43 true _ (by decide +kernel)).mono ?_
  rintro e w1 ⟨rfl, hd⟩
  have hb := hd.below
  have HR := Aside0.mk (blk_below (blk_new w _) hb)
  have HB := Aside0.mk (below_step (w := w) (X.below_new1 w _) hb)
  clear hd hb
  have hlt : w.heap.size < w1.heap.size := (Array.getElem?_eq_some_iff.1 HR.out).1
  have hne : w1.heap.size ≠ w.heap.size := by omega
  obtain ⟨z0, z1, z2, z3, z4⟩ := X.cells5 HR.out
  obtain ⟨f0, f1, f2, f3, f4⟩ := X.frozen5 HR.out
  have hfar : ∀ (W : World) (o k : Nat) (v : Value), (W.setCell ⟨w1.heap.size, o, none⟩ v).cell? ⟨w.heap.size, k, none⟩ = W.cell? ⟨w.heap.size, k, none⟩ := fun W o k v => World.cell?_setCell_far W _ _ v hne
  have hal : ∀ (W : World) (o : Obj) (k : Nat), w.heap.size < W.heap.size → (W.alloc o).cell? ⟨w.heap.size, k, none⟩ = W.cell? ⟨w.heap.size, k, none⟩ := fun W o k h => by
    have : Below (w.heap.size + 1) W (W.alloc o) := (Below.refl _ W).alloc h _
    exact this.cell (p := ⟨w.heap.size, k, none⟩) (Nat.lt_succ_self _)
  have hfr : ∀ (W : World) (o : Obj) (k : Nat), w.heap.size < W.heap.size → (W.alloc o).frozen? ⟨w.heap.size, k, none⟩ = W.frozen? ⟨w.heap.size, k, none⟩ := fun W o k h => by
    have : Below (w.heap.size + 1) W (W.alloc o) := (Below.refl _ W).alloc h _
    exact this.frozen (p := ⟨w.heap.size, k, none⟩) (Nat.lt_succ_self _)
  have hlt1 : w.heap.size < w1.heap.size + 1 := by omega
  have hlt2 : w.heap.size < w1.heap.size + 1 + 1 := by omega
  have hcv := fun (W : World) (B : Nat) (h : W.cell? ⟨B, 0, none⟩ = some (.int .u8 43)) => conv1 W B 43 (⟨#[43]⟩ : ByteArray) rfl h
  go_wp2_with fail
  refine bodyPost_ret (v := .tuple #[.agg #[.string (⟨#[]⟩ : ByteArray), .string (⟨#[44]⟩ : ByteArray), .bool false, .string (⟨#[]⟩ : ByteArray), .bool true], .bool true]) (by simp [results, Try.results10, go_sem, z0, z1, z2, z3, z4, hfar, hal, hlt, hlt1, hlt2]) rfl ⟨rfl, ?_⟩
  have hge : w.heap.size ≤ w1.heap.size := by omega
  repeat (with_reducible first | exact HB.out | apply below_alloc | refine below_set ?_ (Nat.le_refl _) | refine below_set ?_ hge)
set_option maxHeartbeats 4000000 in
set_option maxRecDepth 100000 in
theorem ref10_at_35 (w : World) : Calls Try.prog 10 #[.int .u8 35] w fun e w' => e = .returned (.tuple #[.agg #[.string (⟨#[35]⟩ : ByteArray), .string (⟨#[44]⟩ : ByteArray), .bool false, .string (⟨#[]⟩ : ByteArray), .bool true], .bool true]) ∧ Below w.heap.size w w' := by
  go_enter Try.func10, Try.ntmps10
  go_wp2_with fail
  refine (phalaroperef07_Operator.calls 20 35 true _ (by decide +kernel)).mono ?_
  rintro e w1 ⟨rfl, hd⟩
  have hb := hd.below
  have HR := Aside0.mk (blk_below (blk_new w _) hb)
  have HB := Aside0.mk (below_step (w := w) (X.below_new1 w _) hb)
  clear hd hb
  have hlt : w.heap.size < w1.heap.size := (Array.getElem?_eq_some_iff.1 HR.out).1
  have hne : w1.heap.size ≠ w.heap.size := by omega
  obtain ⟨z0, z1, z2, z3, z4⟩ := X.cells5 HR.out
  obtain ⟨f0, f1, f2, f3, f4⟩ := X.frozen5 HR.out
  have hfar : ∀ (W : World) (o k : Nat) (v : Value), (W.setCell ⟨w1.heap.size, o, none⟩ v).cell? ⟨w.heap.size, k, none⟩ = W.cell? ⟨w.heap.size, k, none⟩ := fun W o k v => World.cell?_setCell_far W _ _ v hne
  have hal : ∀ (W : World) (o : Obj) (k : Nat), w.heap.size < W.heap.size → (W.alloc o).cell? ⟨w.heap.size, k, none⟩ = W.cell? ⟨w.heap.size, k, none⟩ := fun W o k h => by
    have : Below (w.heap.size + 1) W (W.alloc o) := (Below.refl _ W).alloc h _
    exact this.cell (p := ⟨w.heap.size, k, none⟩) (Nat.lt_succ_self _)
  have hfr : ∀ (W : World) (o : Obj) (k : Nat), w.heap.size < W.heap.size → (W.alloc o).frozen? ⟨w.heap.size, k, none⟩ = W.frozen? ⟨w.heap.size, k, none⟩ := fun W o k h => by
    have : Below (w.heap.size + 1) W (W.alloc o) := (Below.refl _ W).alloc h _
    exact this.frozen (p := ⟨w.heap.size, k, none⟩) (Nat.lt_succ_self _)
  have hlt1 : w.heap.size < w1.heap.size + 1 := by omega
  have hlt2 : w.heap.size < w1.heap.size + 1 + 1 := by omega
  have hcv := fun (W : World) (B : Nat) (h : W.cell? ⟨B, 0, none⟩ = some (.int .u8 35)) => conv1 W B 35 (⟨#[35]⟩ : ByteArray) rfl h
  go_wp2_with fail
  refine bodyPost_ret (v := .tuple #[.agg #[.string (⟨#[35]⟩ : ByteArray), .string (⟨#[44]⟩ : ByteArray), .bool false, .string (⟨#[]⟩ : ByteArray), .bool true], .bool true]) (by simp [results, Try.results10, go_sem, z0, z1, z2, z3, z4, hfar, hal, hlt, hlt1, hlt2]) rfl ⟨rfl, ?_⟩
  have hge : w.heap.size ≤ w1.heap.size := by omega
  repeat (with_reducible first | exact HB.out | apply below_alloc | refine below_set ?_ (Nat.le_refl _) | refine below_set ?_ hge)
set_option maxHeartbeats 4000000 in
set_option maxRecDepth 100000 in
theorem ref10_at_46 (w : World) : Calls Try.prog 10 #[.int .u8 46] w fun e w' => e = .returned (.tuple #[.agg #[.string (⟨#[46]⟩ : ByteArray), .string (⟨#[46]⟩ : ByteArray), .bool false, .string (⟨#[]⟩ : ByteArray), .bool false], .bool true]) ∧ Below w.heap.size w w' := by
  go_enter Try.func10, Try.ntmps10
  go_wp2_with fail
  refine (phalaroperef07_Operator.calls 20 46 true _ (by decide +kernel)).mono ?_
  rintro e w1 ⟨rfl, hd⟩
  have hb := hd.below
  have HR := Aside0.mk (blk_below (blk_new w _) hb)
  have HB := Aside0.mk (below_step (w := w) (X.below_new1 w _) hb)
  clear hd hb
  have hlt : w.heap.size < w1.heap.size := (Array.getElem?_eq_some_iff.1 HR.out).1
  have hne : w1.heap.size ≠ w.heap.size := by omega
  obtain ⟨z0, z1, z2, z3, z4⟩ := X.cells5 HR.out
  obtain ⟨f0, f1, f2, f3, f4⟩ := X.frozen5 HR.out
  have hfar : ∀ (W : World) (o k : Nat) (v : Value), (W.setCell ⟨w1.heap.size, o, none⟩ v).cell? ⟨w.heap.size, k, none⟩ = W.cell? ⟨w.heap.size, k, none⟩ := fun W o k v => World.cell?_setCell_far W _ _ v hne
  have hal : ∀ (W : World) (o : Obj) (k : Nat), w.heap.size < W.heap.size → (W.alloc o).cell? ⟨w.heap.size, k, none⟩ = W.cell? ⟨w.heap.size, k, none⟩ := fun W o k h => by
    have : Below (w.heap.size + 1) W (W.alloc o) := (Below.refl _ W).alloc h _
    exact this.cell (p := ⟨w.heap.size, k, none⟩) (Nat.lt_succ_self _)
  have hfr : ∀ (W : World) (o : Obj) (k : Nat), w.heap.size < W.heap.size → (W.alloc o).frozen? ⟨w.heap.size, k, none⟩ = W.frozen? ⟨w.heap.size, k, none⟩ := fun W o k h => by
    have : Below (w.heap.size + 1) W (W.alloc o) := (Below.refl _ W).alloc h _
    exact this.frozen (p := ⟨w.heap.size, k, none⟩) (Nat.lt_succ_self _)
  have hlt1 : w.heap.size < w1.heap.size + 1 := by omega
  have hlt2 : w.heap.size < w1.heap.size + 1 + 1 := by omega
  have hcv := fun (W : World) (B : Nat) (h : W.cell? ⟨B, 0, none⟩ = some (.int .u8 46)) => conv1 W B 46 (⟨#[46]⟩ : ByteArray) rfl h
  go_wp2_with fail
  refine bodyPost_ret (v := .tuple #[.agg #[.string (⟨#[46]⟩ : ByteArray), .string (⟨#[46]⟩ : ByteArray), .bool false, .string (⟨#[]⟩ : ByteArray), .bool false], .bool true]) (by simp [results, Try.results10, go_sem, z0, z1, z2, z3, z4, hfar, hal, hlt, hlt1, hlt2]) rfl ⟨rfl, ?_⟩
  have hge : w.heap.size ≤ w1.heap.size := by omega
  repeat (with_reducible first | exact HB.out | apply below_alloc | refine below_set ?_ (Nat.le_refl _) | refine below_set ?_ hge)
set_option maxHeartbeats 4000000 in
set_option maxRecDepth 100000 in
theorem ref10_at_47 (w : World) : Calls Try.prog 10 #[.int .u8 47] w fun e w' => e = .returned (.tuple #[.agg #[.string (⟨#[47]⟩ : ByteArray), .string (⟨#[47]⟩ : ByteArray), .bool false, .string (⟨#[]⟩ : ByteArray), .bool false], .bool true]) ∧ Below w.heap.size w w' := by
  go_enter Try.func10, Try.ntmps10
  go_wp2_with fail
  refine (phalaroperef07_Operator.calls 20 47 true _ (by decide +kernel)).mono ?_
  rintro e w1 ⟨rfl, hd⟩
  have hb := hd.below
  have HR := Aside0.mk (blk_below (blk_new w _) hb)
  have HB := Aside0.mk (below_step (w := w) (X.below_new1 w _) hb)
  clear hd hb
  have hlt : w.heap.size < w1.heap.size := (Array.getElem?_eq_some_iff.1 HR.out).1
  have hne : w1.heap.size ≠ w.heap.size := by omega
  obtain ⟨z0, z1, z2, z3, z4⟩ := X.cells5 HR.out
  obtain ⟨f0, f1, f2, f3, f4⟩ := X.frozen5 HR.out
  have hfar : ∀ (W : World) (o k : Nat) (v : Value), (W.setCell ⟨w1.heap.size, o, none⟩ v).cell? ⟨w.heap.size, k, none⟩ = W.cell? ⟨w.heap.size, k, none⟩ := fun W o k v => World.cell?_setCell_far W _ _ v hne
  have hal : ∀ (W : World) (o : Obj) (k : Nat), w.heap.size < W.heap.size → (W.alloc o).cell? ⟨w.heap.size, k, none⟩ = W.cell? ⟨w.heap.size, k, none⟩ := fun W o k h => by
    have : Below (w.heap.size + 1) W (W.alloc o) := (Below.refl _ W).alloc h _
    exact this.cell (p := ⟨w.heap.size, k, none⟩) (Nat.lt_succ_self _)
  have hfr : ∀ (W : World) (o : Obj) (k : Nat), w.heap.size < W.heap.size → (W.alloc o).frozen? ⟨w.heap.size, k, none⟩ = W.frozen? ⟨w.heap.size, k, none⟩ := fun W o k h => by
    have : Below (w.heap.size + 1) W (W.alloc o) := (Below.refl _ W).alloc h _
    exact this.frozen (p := ⟨w.heap.size, k, none⟩) (Nat.lt_succ_self _)
  have hlt1 : w.heap.size < w1.heap.size + 1 := by omega
  have hlt2 : w.heap.size < w1.heap.size + 1 + 1 := by omega
  have hcv := fun (W : World) (B : Nat) (h : W.cell? ⟨B, 0, none⟩ = some (.int .u8 47)) => conv1 W B 47 (⟨#[47]⟩ : ByteArray) rfl h
  go_wp2_with fail
  refine bodyPost_ret (v := .tuple #[.agg #[.string (⟨#[47]⟩ : ByteArray), .string (⟨#[47]⟩ : ByteArray), .bool false, .string (⟨#[]⟩ : ByteArray), .bool false], .bool true]) (by simp [results, Try.results10, go_sem, z0, z1, z2, z3, z4, hfar, hal, hlt, hlt1, hlt2]) rfl ⟨rfl, ?_⟩
  have hge : w.heap.size ≤ w1.heap.size := by omega
  repeat (with_reducible first | exact HB.out | apply below_alloc | refine below_set ?_ (Nat.le_refl _) | refine below_set ?_ hge)
set_option maxHeartbeats 4000000 in
set_option maxRecDepth 100000 in
theorem ref10_at_59 (w : World) : Calls Try.prog 10 #[.int .u8 59] w fun e w' => e = .returned (.tuple #[.agg #[.string (⟨#[59]⟩ : ByteArray), .string (⟨#[59]⟩ : ByteArray), .bool true, .string (⟨#[]⟩ : ByteArray), .bool false], .bool true]) ∧ Below w.heap.size w w' := by
  go_enter Try.func10, Try.ntmps10
  go_wp2_with fail
  refine (phalaroperef07_Operator.calls 20 59 true _ (by decide +kernel)).mono ?_
  rintro e w1 ⟨rfl, hd⟩
  have hb := hd.below
  have HR := Aside0.mk (blk_below (blk_new w _) hb)
  have HB := Aside0.mk (below_step (w := w) (X.below_new1 w _) hb)
  clear hd hb
  have hlt : w.heap.size < w1.heap.size := (Array.getElem?_eq_some_iff.1 HR.out).1
  have hne : w1.heap.size ≠ w.heap.size := by omega
  obtain ⟨z0, z1, z2, z3, z4⟩ := X.cells5 HR.out
  obtain ⟨f0, f1, f2, f3, f4⟩ := X.frozen5 HR.out
  have hfar : ∀ (W : World) (o k : Nat) (v : Value), (W.setCell ⟨w1.heap.size, o, none⟩ v).cell? ⟨w.heap.size, k, none⟩ = W.cell? ⟨w.heap.size, k, none⟩ := fun W o k v => World.cell?_setCell_far W _ _ v hne
  have hal : ∀ (W : World) (o : Obj) (k : Nat), w.heap.size < W.heap.size → (W.alloc o).cell? ⟨w.heap.size, k, none⟩ = W.cell? ⟨w.heap.size, k, none⟩ := fun W o k h => by
    have : Below (w.heap.size + 1) W (W.alloc o) := (Below.refl _ W).alloc h _
    exact this.cell (p := ⟨w.heap.size, k, none⟩) (Nat.lt_succ_self _)
  have hfr : ∀ (W : World) (o : Obj) (k : Nat), w.heap.size < W.heap.size → (W.alloc o).frozen? ⟨w.heap.size, k, none⟩ = W.frozen? ⟨w.heap.size, k, none⟩ := fun W o k h => by
    have : Below (w.heap.size + 1) W (W.alloc o) := (Below.refl _ W).alloc h _
    exact this.frozen (p := ⟨w.heap.size, k, none⟩) (Nat.lt_succ_self _)
  have hlt1 : w.heap.size < w1.heap.size + 1 := by omega
  have hlt2 : w.heap.size < w1.heap.size + 1 + 1 := by omega
  have hcv := fun (W : World) (B : Nat) (h : W.cell? ⟨B, 0, none⟩ = some (.int .u8 59)) => conv1 W B 59 (⟨#[59]⟩ : ByteArray) rfl h
  go_wp2_with fail
  refine bodyPost_ret (v := .tuple #[.agg #[.string (⟨#[59]⟩ : ByteArray), .string (⟨#[59]⟩ : ByteArray), .bool true, .string (⟨#[]⟩ : ByteArray), .bool false], .bool true]) (by simp [results, Try.results10, go_sem, z0, z1, z2, z3, z4, hfar, hal, hlt, hlt1, hlt2]) rfl ⟨rfl, ?_⟩
  have hge : w.heap.size ≤ w1.heap.size := by omega
  repeat (with_reducible first | exact HB.out | apply below_alloc | refine below_set ?_ (Nat.le_refl _) | refine below_set ?_ hge)
set_option maxHeartbeats 4000000 in
set_option maxRecDepth 100000 in
theorem ref10_at_63 (w : World) : Calls Try.prog 10 #[.int .u8 63] w fun e w' => e = .returned (.tuple #[.agg #[.string (⟨#[63]⟩ : ByteArray), .string (⟨#[38]⟩ : ByteArray), .bool true, .string (⟨#[61]⟩ : ByteArray), .bool false], .bool true]) ∧ Below w.heap.size w w' := by
  go_enter Try.func10, Try.ntmps10
  go_wp2_with fail
  refine (phalaroperef07_Operator.calls 20 63 true _ (by decide +kernel)).mono ?_
  rintro e w1 ⟨rfl, hd⟩
  have hb := hd.below
  have HR := Aside0.mk (blk_below (blk_new w _) hb)
  have HB := Aside0.mk (below_step (w := w) (X.below_new1 w _) hb)
  clear hd hb
  have hlt : w.heap.size < w1.heap.size := (Array.getElem?_eq_some_iff.1 HR.out).1
  have hne : w1.heap.size ≠ w.heap.size := by omega
  obtain ⟨z0, z1, z2, z3, z4⟩ := X.cells5 HR.out
  obtain ⟨f0, f1, f2, f3, f4⟩ := X.frozen5 HR.out
  have hfar : ∀ (W : World) (o k : Nat) (v : Value), (W.setCell ⟨w1.heap.size, o, none⟩ v).cell? ⟨w.heap.size, k, none⟩ = W.cell? ⟨w.heap.size, k, none⟩ := fun W o k v => World.cell?_setCell_far W _ _ v hne
  have hal : ∀ (W : World) (o : Obj) (k : Nat), w.heap.size < W.heap.size → (W.alloc o).cell? ⟨w.heap.size, k, none⟩ = W.cell? ⟨w.heap.size, k, none⟩ := fun W o k h => by
    have : Below (w.heap.size + 1) W (W.alloc o) := (Below.refl _ W).alloc h _
    exact this.cell (p := ⟨w.heap.size, k, none⟩) (Nat.lt_succ_self _)
  have hfr : ∀ (W : World) (o : Obj) (k : Nat), w.heap.size < W.heap.size → (W.alloc o).frozen? ⟨w.heap.size, k, none⟩ = W.frozen? ⟨w.heap.size, k, none⟩ := fun W o k h => by
    have : Below (w.heap.size + 1) W (W.alloc o) := (Below.refl _ W).alloc h _
    exact this.frozen (p := ⟨w.heap.size, k, none⟩) (Nat.lt_succ_self _)
  have hlt1 : w.heap.size < w1.heap.size + 1 := by omega
  have hlt2 : w.heap.size < w1.heap.size + 1 + 1 := by omega
  have hcv := fun (W : World) (B : Nat) (h : W.cell? ⟨B, 0, none⟩ = some (.int .u8 63)) => conv1 W B 63 (⟨#[63]⟩ : ByteArray) rfl h
  go_wp2_with fail
  refine bodyPost_ret (v := .tuple #[.agg #[.string (⟨#[63]⟩ : ByteArray), .string (⟨#[38]⟩ : ByteArray), .bool true, .string (⟨#[61]⟩ : ByteArray), .bool false], .bool true]) (by simp [results, Try.results10, go_sem, z0, z1, z2, z3, z4, hfar, hal, hlt, hlt1, hlt2]) rfl ⟨rfl, ?_⟩
  have hge : w.heap.size ≤ w1.heap.size := by omega
  repeat (with_reducible first | exact HB.out | apply below_alloc | refine below_set ?_ (Nat.le_refl _) | refine below_set ?_ hge)
set_option maxHeartbeats 4000000 in
set_option maxRecDepth 100000 in
theorem ref10_at_38 (w : World) : Calls Try.prog 10 #[.int .u8 38] w fun e w' => e = .returned (.tuple #[.agg #[.string (⟨#[38]⟩ : ByteArray), .string (⟨#[38]⟩ : ByteArray), .bool true, .string (⟨#[61]⟩ : ByteArray), .bool false], .bool true]) ∧ Below w.heap.size w w' := by
  go_enter Try.func10, Try.ntmps10
  go_wp2_with fail
  refine (phalaroperef07_Operator.calls 20 38 true _ (by decide +kernel)).mono ?_
  rintro e w1 ⟨rfl, hd⟩
  have hb := hd.below
  have HR := Aside0.mk (blk_below (blk_new w _) hb)
  have HB := Aside0.mk (below_step (w := w) (X.below_new1 w _) hb)
  clear hd hb
  have hlt : w.heap.size < w1.heap.size := (Array.getElem?_eq_some_iff.1 HR.out).1
  have hne : w1.heap.size ≠ w.heap.size := by omega
  obtain ⟨z0, z1, z2, z3, z4⟩ := X.cells5 HR.out
  obtain ⟨f0, f1, f2, f3, f4⟩ := X.frozen5 HR.out
  have hfar : ∀ (W : World) (o k : Nat) (v : Value), (W.setCell ⟨w1.heap.size, o, none⟩ v).cell? ⟨w.heap.size, k, none⟩ = W.cell? ⟨w.heap.size, k, none⟩ := fun W o k v => World.cell?_setCell_far W _ _ v hne
  have hal : ∀ (W : World) (o : Obj) (k : Nat), w.heap.size < W.heap.size → (W.alloc o).cell? ⟨w.heap.size, k, none⟩ = W.cell? ⟨w.heap.size, k, none⟩ := fun W o k h => by
    have : Below (w.heap.size + 1) W (W.alloc o) := (Below.refl _ W).alloc h _
    exact this.cell (p := ⟨w.heap.size, k, none⟩) (Nat.lt_succ_self _)
  have hfr : ∀ (W : World) (o : Obj) (k : Nat), w.heap.size < W.heap.size → (W.alloc o).frozen? ⟨w.heap.size, k, none⟩ = W.frozen? ⟨w.heap.size, k, none⟩ := fun W o k h => by
    have : Below (w.heap.size + 1) W (W.alloc o) := (Below.refl _ W).alloc h _
    exact this.frozen (p := ⟨w.heap.size, k, none⟩) (Nat.lt_succ_self _)
  have hlt1 : w.heap.size < w1.heap.size + 1 := by omega
  have hlt2 : w.heap.size < w1.heap.size + 1 + 1 := by omega
  have hcv := fun (W : World) (B : Nat) (h : W.cell? ⟨B, 0, none⟩ = some (.int .u8 38)) => conv1 W B 38 (⟨#[38]⟩ : ByteArray) rfl h
  go_wp2_with fail
  refine bodyPost_ret (v := .tuple #[.agg #[.string (⟨#[38]⟩ : ByteArray), .string (⟨#[38]⟩ : ByteArray), .bool true, .string (⟨#[61]⟩ : ByteArray), .bool false], .bool true]) (by simp [results, Try.results10, go_sem, z0, z1, z2, z3, z4, hfar, hal, hlt, hlt1, hlt2]) rfl ⟨rfl, ?_⟩
  have hge : w.heap.size ≤ w1.heap.size := by omega
  repeat (with_reducible first | exact HB.out | apply below_alloc | refine below_set ?_ (Nat.le_refl _) | refine below_set ?_ hge)
set_option maxHeartbeats 4000000 in
set_option maxRecDepth 100000 in
theorem ref10_no (c : Int) (hb : 0 ≤ c ∧ c ≤ 255) (hc : X.isOper c = false) (w : World) : Calls Try.prog 10 #[.int .u8 c] w fun e w' => e = .returned (.tuple #[.agg #[.string (⟨#[]⟩ : ByteArray), .string (⟨#[]⟩ : ByteArray), .bool false, .string (⟨#[]⟩ : ByteArray), .bool false], .bool false]) ∧ Below w.heap.size w w' := by
  have HF := Aside0.mk (show phalaroperef07_Operator.f 20 c = some false by rw [rop_f c hb, hc])
  clear hc
  go_enter Try.func10, Try.ntmps10
  go_wp2_with fail
  refine (phalaroperef07_Operator.calls 20 c false _ HF.out).mono ?_
  rintro e w1 ⟨rfl, hd⟩
  have hb := hd.below
  have HR := Aside0.mk (blk_below (blk_new w _) hb)
  have HB := Aside0.mk (below_step (w := w) (X.below_new1 w _) hb)
  clear hd hb
  obtain ⟨z0, z1, z2, z3, z4⟩ := X.cells5 HR.out
  obtain ⟨f0, f1, f2, f3, f4⟩ := X.frozen5 HR.out
  go_wp2_with fail
  refine bodyPost_ret (v := .tuple #[.agg #[.string (⟨#[]⟩ : ByteArray), .string (⟨#[]⟩ : ByteArray), .bool false, .string (⟨#[]⟩ : ByteArray), .bool false], .bool false]) (by simp [results, Try.results10, go_sem, z0, z1, z2, z3, z4]) rfl ⟨rfl, ?_⟩
  repeat (with_reducible first | exact HB.out | apply below_alloc | refine below_set ?_ (Nat.le_refl _))
theorem ref10_cases {a : Int} (h : X.isOper a = true) : a = 0 ∨ a = 43 ∨ a = 35 ∨ a = 46 ∨ a = 47 ∨ a = 59 ∨ a = 63 ∨ a = 38 := by
  simp [X.isOper] at h; omega
def phalaroperef10_Of.f (a0 : Int) : Option (ByteArray × ByteArray × Bool × ByteArray × Bool × Bool) := if 0 ≤ a0 ∧ a0 ≤ 255 then some (X.ruleFirst a0, X.ruleSep a0, X.ruleNamed a0, X.ruleEmpty a0, X.ruleKeep a0, X.isOper a0) else none
set_option maxHeartbeats 8000000 in
set_option maxRecDepth 100000 in
theorem phalaroperef10_Of.calls (a0 : Int) (r1 : ByteArray) (r2 : ByteArray) (r3 : Bool) (r4 : ByteArray) (r5 : Bool) (r6 : Bool) (w : World) (h : phalaroperef10_Of.f a0 = some (r1, r2, r3, r4, r5, r6)) :
    Calls Try.prog 10 #[.int .u8 a0] w fun e w' => e = .returned (.tuple #[.agg #[.string r1, .string r2, .bool r3, .string r4, .bool r5], .bool r6]) ∧ Below w.heap.size w w' := by
  simp only [phalaroperef10_Of.f] at h
  split at h
  · rename_i hb
    have hR := Option.some.inj h
    simp only [Prod.mk.injEq] at hR
    obtain ⟨rfl, rfl, rfl, rfl, rfl, rfl⟩ := hR
    clear h
    cases h0 : X.isOper a0 with
    | true =>
      rcases ref10_cases h0 with rfl | rfl | rfl | rfl | rfl | rfl | rfl | rfl
      · exact ref10_at_0 w
      · exact ref10_at_43 w
      · exact ref10_at_35 w
      · exact ref10_at_46 w
      · exact ref10_at_47 w
      · exact ref10_at_59 w
      · exact ref10_at_63 w
      · exact ref10_at_38 w
    | false =>
      have := X.no_rule h0
      simp only [X.ruleV, Value.agg.injEq, Array.mk.injEq, List.cons.injEq, Value.string.injEq, Value.bool.injEq, and_true] at this
      obtain ⟨e1, e2, e3, e4, e5⟩ := this
      rw [e1, e2, e3, e4, e5]
      exact ref10_no a0 hb h0 w
  · cases h
/-! ### phalaropelaw10_OperTells: function 3 -/
def phalaropelaw10_OperTells.f (a0 : Int) : Option (Bool) := (phalaropelaw10_awake.f).bind fun t128 => ((oper_Of.f a0).bind fun bt129 => ((phalaroperef10_Of.f a0).bind fun bt136 => (if t128 = true then (if (bt129.2.2.2.2.2 == bt136.2.2.2.2.2) = true then (some (bt129.1.toList == bt136.1.toList && (bt129.2.1.toList == bt136.2.1.toList && (bt129.2.2.1 == bt136.2.2.1 && (bt129.2.2.2.1.toList == bt136.2.2.2.1.toList && (bt129.2.2.2.2.1 == bt136.2.2.2.2.1)))))) else (some false)) else (some false))))
set_option maxHeartbeats 8000000 in
set_option maxRecDepth 100000 in
theorem phalaropelaw10_OperTells.calls (a0 : Int) (r : Bool) (w : World) (h : phalaropelaw10_OperTells.f a0 = some r) :
    Calls Try.prog 3 #[.int .u8 a0] w fun e w' => e = .returned (.bool r) ∧ Below w.heap.size w w' := by
  have hu24 := Try.underlying24
  have hu27 := Try.underlying27
  have HB := Aside0.mk (Below.refl w.heap.size w)
  have H : ((phalaropelaw10_awake.f).bind fun t128 => ((oper_Of.f a0).bind fun bt129 => ((phalaroperef10_Of.f a0).bind fun bt136 => (if t128 = true then (if (bt129.2.2.2.2.2 == bt136.2.2.2.2.2) = true then (some (bt129.1.toList == bt136.1.toList && (bt129.2.1.toList == bt136.2.1.toList && (bt129.2.2.1 == bt136.2.2.1 && (bt129.2.2.2.1.toList == bt136.2.2.2.1.toList && (bt129.2.2.2.2.1 == bt136.2.2.2.2.1)))))) else (some false)) else (some false))))) = some r := h
  clear h
  replace H := Option.bind_eq_some_iff.mp H
  obtain ⟨t128, A20, H⟩ := H
  replace H : ((oper_Of.f a0).bind fun bt129 => ((phalaroperef10_Of.f a0).bind fun bt136 => (if t128 = true then (if (bt129.2.2.2.2.2 == bt136.2.2.2.2.2) = true then (some (bt129.1.toList == bt136.1.toList && (bt129.2.1.toList == bt136.2.1.toList && (bt129.2.2.1 == bt136.2.2.1 && (bt129.2.2.2.1.toList == bt136.2.2.2.1.toList && (bt129.2.2.2.2.1 == bt136.2.2.2.2.1)))))) else (some false)) else (some false)))) = some r := H
  have A2 := Aside0.mk A20
  clear A20
  replace H := Option.bind_eq_some_iff.mp H
  obtain ⟨⟨t129, t130, t131, t132, t133, t134⟩, A30, H⟩ := H
  replace H : ((phalaroperef10_Of.f a0).bind fun bt136 => (if t128 = true then (if (t134 == bt136.2.2.2.2.2) = true then (some (t129.toList == bt136.1.toList && (t130.toList == bt136.2.1.toList && (t131 == bt136.2.2.1 && (t132.toList == bt136.2.2.2.1.toList && (t133 == bt136.2.2.2.2.1)))))) else (some false)) else (some false))) = some r := H
  have A3 := Aside0.mk A30
  clear A30
  replace H := Option.bind_eq_some_iff.mp H
  obtain ⟨⟨t136, t137, t138, t139, t140, t141⟩, A40, H⟩ := H
  replace H : (if t128 = true then (if (t134 == t141) = true then (some (t129.toList == t136.toList && (t130.toList == t137.toList && (t131 == t138 && (t132.toList == t139.toList && (t133 == t140)))))) else (some false)) else (some false)) = some r := H
  have A4 := Aside0.mk A40
  clear A40
  by_cases c5 : t128 = true
  · subst c5
    have H1 : (if (t134 == t141) = true then (some (t129.toList == t136.toList && (t130.toList == t137.toList && (t131 == t138 && (t132.toList == t139.toList && (t133 == t140)))))) else (some false)) = some r := by rw [if_pos rfl] at H; exact H
    clear H
    have H := H1
    clear H1
    by_cases c6 : (t134 == t141) = true
    · rw [if_pos c6] at H
      have c6b0 : (t134 == t141) = true := c6
      (try (have c6b1 : decide (t134 = t141) = true := by simpa using c6))
      (try (have c6b2 : (t134 == t141) = true := by simpa using c6))
      clear c6
      obtain rfl := Option.some.inj H
      go_enter Try.func3, Try.ntmps3
      go_wp2_with (first | ((with_reducible refine gate_callee (f := 8) rfl ?_); refine goesL_ (some 8) rfl rfl Try.func8 (by kernel_rfl) rfl #[] rfl (by (try simp only [List.map_toArray, List.map_cons, List.map_nil]); first | done | rfl | (simp only [List.length_drop, List.length_take]; rfl)) ?_; (with_reducible refine (phalaropelaw10_awake.calls  true _ A2.out).mono ?_); rintro e w7 ⟨rfl, hb⟩; refine ⟨_, rfl, ?_⟩; have n0_ := Aside0.mk (below_step (by repeat (first | (with_reducible first | exact HB.out | apply below_alloc | apply pw_below_drewN | apply below_drew1) | exact HB.out)) hb); clear HB; have HB := n0_; clear n0_; (try clear hb); (try clear hb2); (try clear hk); (try clear hi)) | ((with_reducible refine gate_callee (f := 9) rfl ?_); refine goesL_ (some 11) rfl rfl Try.func9 (by kernel_rfl) rfl #[.int .u8 a0] rfl (by (try simp only [List.map_toArray, List.map_cons, List.map_nil]); first | done | rfl | (simp only [List.length_drop, List.length_take]; rfl)) ?_; (with_reducible refine (oper_Of.calls a0 t129 t130 t131 t132 t133 t134 _ A3.out).mono ?_); rintro e w8 ⟨rfl, hb⟩; refine ⟨_, rfl, ?_⟩; have n0_ := Aside0.mk (below_step (by repeat (first | (with_reducible first | exact HB.out | apply below_alloc | apply pw_below_drewN | apply below_drew1) | exact HB.out)) hb); clear HB; have HB := n0_; clear n0_; (try clear hb); (try clear hb2); (try clear hk); (try clear hi)) | ((with_reducible refine gate_dst (N := 4) rfl ?_); refine box_event ?hg (N := 4) ?hd (cs := #[.string (⟨#[]⟩ : ByteArray), .string (⟨#[]⟩ : ByteArray), .bool false, .string (⟨#[]⟩ : ByteArray), .bool false]) (t := 24) ?hr ?_; (case hd => rfl); (case hg => rfl); (case hr => first | (go_simp; done) | (go_simp; rfl)); intro gb135 hg w9 hbox hb; have n0_ := Aside0.mk (below_step (by repeat (first | (with_reducible first | exact HB.out | apply below_alloc | apply pw_below_drewN | apply below_drew1) | exact HB.out)) hb); have n1_ := Aside0.mk (hbox); have n2_ := Aside0.mk ((by rw [hg]; exact (below_size (by repeat (first | (with_reducible first | exact HB.out | apply below_alloc | apply pw_below_drewN | apply below_drew1) | exact HB.out))) : w.heap.size ≤ gb135)); have n3_ := Aside0.mk ((by rw [hg]; exact (below_size (by repeat (first | (with_reducible first | exact HB.out | apply below_alloc | apply pw_below_drewN | apply below_drew1) | exact HB.out))) : w.heap.size ≤ gb135)); clear HB; have HB := n0_; have BK135 := n1_; have GW135 := n2_; have GE135 := n3_; clear n0_ n1_ n2_ n3_; clear hb hbox hg; have hcz10_0 : w9.cell? ⟨gb135, 0, none⟩ = some (.string (⟨#[]⟩ : ByteArray)) := (blk_cell BK135.out 0).trans rfl; have hcz10_1 : w9.cell? ⟨gb135, 1, none⟩ = some (.string (⟨#[]⟩ : ByteArray)) := (blk_cell BK135.out 1).trans rfl; have hcz10_2 : w9.cell? ⟨gb135, 2, none⟩ = some (.bool false) := (blk_cell BK135.out 2).trans rfl; have hcz10_3 : w9.cell? ⟨gb135, 3, none⟩ = some (.string (⟨#[]⟩ : ByteArray)) := (blk_cell BK135.out 3).trans rfl; have hcz10_4 : w9.cell? ⟨gb135, 4, none⟩ = some (.bool false) := (blk_cell BK135.out 4).trans rfl; have hfz10_0 := blk_frozen BK135.out 0; have hfz10_1 := blk_frozen BK135.out 1; have hfz10_2 := blk_frozen BK135.out 2; have hfz10_3 := blk_frozen BK135.out 3; have hfz10_4 := blk_frozen BK135.out 4) | ((with_reducible refine gate_callee (f := 10) rfl ?_); refine goesL_ (some 16) rfl rfl Try.func10 (by kernel_rfl) rfl #[.int .u8 a0] rfl (by (try simp only [List.map_toArray, List.map_cons, List.map_nil]); first | done | rfl | (simp only [List.length_drop, List.length_take]; rfl)) ?_; (with_reducible refine (phalaroperef10_Of.calls a0 t136 t137 t138 t139 t140 t141 _ A4.out).mono ?_); rintro e w11 ⟨rfl, hb⟩; refine ⟨_, rfl, ?_⟩; have n0_ := Aside0.mk (blk_below (g := gb135) (o := .cells #[.string t129, .string t130, .bool t131, .string t132, .bool t133] 24 (0, 0)) (by (with_reducible repeat (first | refine blk_drewN ?_ _ | refine blk_drew ?_ | refine blk_alloc ?_ _)); refine blk_put (cs := #[.string t129, .string t130, .bool t131, .string t132, .bool false]) ?_ 4 _ rfl; (with_reducible repeat (first | refine blk_drewN ?_ _ | refine blk_drew ?_ | refine blk_alloc ?_ _)); refine blk_put (cs := #[.string t129, .string t130, .bool t131, .string (⟨#[]⟩ : ByteArray), .bool false]) ?_ 3 _ rfl; (with_reducible repeat (first | refine blk_drewN ?_ _ | refine blk_drew ?_ | refine blk_alloc ?_ _)); refine blk_put (cs := #[.string t129, .string t130, .bool false, .string (⟨#[]⟩ : ByteArray), .bool false]) ?_ 2 _ rfl; (with_reducible repeat (first | refine blk_drewN ?_ _ | refine blk_drew ?_ | refine blk_alloc ?_ _)); refine blk_put (cs := #[.string t129, .string (⟨#[]⟩ : ByteArray), .bool false, .string (⟨#[]⟩ : ByteArray), .bool false]) ?_ 1 _ rfl; (with_reducible repeat (first | refine blk_drewN ?_ _ | refine blk_drew ?_ | refine blk_alloc ?_ _)); refine blk_put (cs := #[.string (⟨#[]⟩ : ByteArray), .string (⟨#[]⟩ : ByteArray), .bool false, .string (⟨#[]⟩ : ByteArray), .bool false]) ?_ 0 _ rfl; (with_reducible repeat (first | refine blk_drewN ?_ _ | refine blk_drew ?_ | refine blk_alloc ?_ _)); exact BK135.out) hb); have n1_ := Aside0.mk (below_step (by repeat (first | (with_reducible first | exact HB.out | apply below_alloc | apply pw_below_drewN | apply below_drew1 | refine below_set ?_ GE135.out) | exact HB.out)) hb); clear BK135; clear HB; have BK135 := n0_; have HB := n1_; clear n0_ n1_; (try clear hb); (try clear hb2); (try clear hk); (try clear hi)) | ((with_reducible refine gate_dst (N := 6) rfl ?_); refine box_event ?hg (N := 6) ?hd (cs := #[.string (⟨#[]⟩ : ByteArray), .string (⟨#[]⟩ : ByteArray), .bool false, .string (⟨#[]⟩ : ByteArray), .bool false]) (t := 27) ?hr ?_; (case hd => rfl); (case hg => rfl); (case hr => first | (go_simp; done) | (go_simp; rfl)); intro gb142 hg w12 hbox hb; have n0_ := Aside0.mk (blk_below (g := gb135) (o := .cells #[.string t129, .string t130, .bool t131, .string t132, .bool t133] 24 (0, 0)) (by (with_reducible repeat (first | refine blk_drewN ?_ _ | refine blk_drew ?_ | refine blk_alloc ?_ _)); exact BK135.out) hb); have n1_ := Aside0.mk (below_step (by repeat (first | (with_reducible first | exact HB.out | apply below_alloc | apply pw_below_drewN | apply below_drew1 | refine below_set ?_ GE135.out) | exact HB.out)) hb); have n2_ := Aside0.mk (hbox); have n3_ := Aside0.mk ((by rw [hg]; exact (below_size (by repeat (first | (with_reducible first | exact HB.out | apply below_alloc | apply pw_below_drewN | apply below_drew1 | refine below_set ?_ GE135.out) | exact HB.out))) : w.heap.size ≤ gb142)); have n4_ := Aside0.mk ((by rw [hg]; exact (below_size (by repeat (first | (with_reducible first | exact HB.out | apply below_alloc | apply pw_below_drewN | apply below_drew1 | refine below_set ?_ GE135.out) | exact HB.out))) : w.heap.size ≤ gb142)); have n5_ := Aside0.mk ((by rw [hg]; exact Nat.ne_of_lt (blk_lt (g := gb135) (o := .cells #[.string t129, .string t130, .bool t131, .string t132, .bool t133] 24 (0, 0)) (by (with_reducible repeat (first | refine blk_drewN ?_ _ | refine blk_drew ?_ | refine blk_alloc ?_ _)); exact BK135.out)) : gb135 ≠ gb142)); have n6_ := Aside0.mk ((by rw [hg]; exact Nat.ne_of_gt (blk_lt (g := gb135) (o := .cells #[.string t129, .string t130, .bool t131, .string t132, .bool t133] 24 (0, 0)) (by (with_reducible repeat (first | refine blk_drewN ?_ _ | refine blk_drew ?_ | refine blk_alloc ?_ _)); exact BK135.out)) : gb142 ≠ gb135)); clear BK135; clear HB; have BK135 := n0_; have HB := n1_; have BK142 := n2_; have GW142 := n3_; have GE142 := n4_; have NB135_142 := n5_; have NB142_135 := n6_; clear n0_ n1_ n2_ n3_ n4_ n5_ n6_; clear hb hbox hg; have hnb13 := NB142_135.out; have hnc13 := NB135_142.out; have hcz14_0 : w12.cell? ⟨gb142, 0, none⟩ = some (.string (⟨#[]⟩ : ByteArray)) := (blk_cell BK142.out 0).trans rfl; have hcz14_1 : w12.cell? ⟨gb142, 1, none⟩ = some (.string (⟨#[]⟩ : ByteArray)) := (blk_cell BK142.out 1).trans rfl; have hcz14_2 : w12.cell? ⟨gb142, 2, none⟩ = some (.bool false) := (blk_cell BK142.out 2).trans rfl; have hcz14_3 : w12.cell? ⟨gb142, 3, none⟩ = some (.string (⟨#[]⟩ : ByteArray)) := (blk_cell BK142.out 3).trans rfl; have hcz14_4 : w12.cell? ⟨gb142, 4, none⟩ = some (.bool false) := (blk_cell BK142.out 4).trans rfl; have hfz14_0 := blk_frozen BK142.out 0; have hfz14_1 := blk_frozen BK142.out 1; have hfz14_2 := blk_frozen BK142.out 2; have hfz14_3 := blk_frozen BK142.out 3; have hfz14_4 := blk_frozen BK142.out 4; have hcz15_0 : w12.cell? ⟨gb135, 0, none⟩ = some (.string t129) := (blk_cell BK135.out 0).trans rfl; have hcz15_1 : w12.cell? ⟨gb135, 1, none⟩ = some (.string t130) := (blk_cell BK135.out 1).trans rfl; have hcz15_2 : w12.cell? ⟨gb135, 2, none⟩ = some (.bool t131) := (blk_cell BK135.out 2).trans rfl; have hcz15_3 : w12.cell? ⟨gb135, 3, none⟩ = some (.string t132) := (blk_cell BK135.out 3).trans rfl; have hcz15_4 : w12.cell? ⟨gb135, 4, none⟩ = some (.bool t133) := (blk_cell BK135.out 4).trans rfl; have hfz15_0 := blk_frozen BK135.out 0; have hfz15_1 := blk_frozen BK135.out 1; have hfz15_2 := blk_frozen BK135.out 2; have hfz15_3 := blk_frozen BK135.out 3; have hfz15_4 := blk_frozen BK135.out 4))
      go_ret
      exact ⟨by first | rfl | (simp [errW_none, errW_some] <;> rfl) | (simp [*, errW_none, errW_some] <;> rfl), by repeat (first | (with_reducible first | exact HB.out | apply below_alloc | apply pw_below_drewN | apply below_drew1 | refine below_set ?_ GE135.out | refine below_set ?_ GE142.out) | exact HB.out)⟩
    · rw [if_neg c6] at H
      have c6b0 : (t134 == t141) = false := by simpa using c6
      (try (have c6b1 : decide (t134 = t141) = false := by simpa using c6))
      (try (have c6b2 : (t134 == t141) = false := by simpa using c6))
      (try (have c6b3 : ¬ (t134 = t141) := by simpa using c6))
      clear c6
      obtain rfl := Option.some.inj H
      go_enter Try.func3, Try.ntmps3
      go_wp2_with (first | ((with_reducible refine gate_callee (f := 8) rfl ?_); refine goesL_ (some 8) rfl rfl Try.func8 (by kernel_rfl) rfl #[] rfl (by (try simp only [List.map_toArray, List.map_cons, List.map_nil]); first | done | rfl | (simp only [List.length_drop, List.length_take]; rfl)) ?_; (with_reducible refine (phalaropelaw10_awake.calls  true _ A2.out).mono ?_); rintro e w16 ⟨rfl, hb⟩; refine ⟨_, rfl, ?_⟩; have n0_ := Aside0.mk (below_step (by repeat (first | (with_reducible first | exact HB.out | apply below_alloc | apply pw_below_drewN | apply below_drew1) | exact HB.out)) hb); clear HB; have HB := n0_; clear n0_; (try clear hb); (try clear hb2); (try clear hk); (try clear hi)) | ((with_reducible refine gate_callee (f := 9) rfl ?_); refine goesL_ (some 11) rfl rfl Try.func9 (by kernel_rfl) rfl #[.int .u8 a0] rfl (by (try simp only [List.map_toArray, List.map_cons, List.map_nil]); first | done | rfl | (simp only [List.length_drop, List.length_take]; rfl)) ?_; (with_reducible refine (oper_Of.calls a0 t129 t130 t131 t132 t133 t134 _ A3.out).mono ?_); rintro e w17 ⟨rfl, hb⟩; refine ⟨_, rfl, ?_⟩; have n0_ := Aside0.mk (below_step (by repeat (first | (with_reducible first | exact HB.out | apply below_alloc | apply pw_below_drewN | apply below_drew1) | exact HB.out)) hb); clear HB; have HB := n0_; clear n0_; (try clear hb); (try clear hb2); (try clear hk); (try clear hi)) | ((with_reducible refine gate_dst (N := 4) rfl ?_); refine box_event ?hg (N := 4) ?hd (cs := #[.string (⟨#[]⟩ : ByteArray), .string (⟨#[]⟩ : ByteArray), .bool false, .string (⟨#[]⟩ : ByteArray), .bool false]) (t := 24) ?hr ?_; (case hd => rfl); (case hg => rfl); (case hr => first | (go_simp; done) | (go_simp; rfl)); intro gb135 hg w18 hbox hb; have n0_ := Aside0.mk (below_step (by repeat (first | (with_reducible first | exact HB.out | apply below_alloc | apply pw_below_drewN | apply below_drew1) | exact HB.out)) hb); have n1_ := Aside0.mk (hbox); have n2_ := Aside0.mk ((by rw [hg]; exact (below_size (by repeat (first | (with_reducible first | exact HB.out | apply below_alloc | apply pw_below_drewN | apply below_drew1) | exact HB.out))) : w.heap.size ≤ gb135)); have n3_ := Aside0.mk ((by rw [hg]; exact (below_size (by repeat (first | (with_reducible first | exact HB.out | apply below_alloc | apply pw_below_drewN | apply below_drew1) | exact HB.out))) : w.heap.size ≤ gb135)); clear HB; have HB := n0_; have BK135 := n1_; have GW135 := n2_; have GE135 := n3_; clear n0_ n1_ n2_ n3_; clear hb hbox hg; have hcz19_0 : w18.cell? ⟨gb135, 0, none⟩ = some (.string (⟨#[]⟩ : ByteArray)) := (blk_cell BK135.out 0).trans rfl; have hcz19_1 : w18.cell? ⟨gb135, 1, none⟩ = some (.string (⟨#[]⟩ : ByteArray)) := (blk_cell BK135.out 1).trans rfl; have hcz19_2 : w18.cell? ⟨gb135, 2, none⟩ = some (.bool false) := (blk_cell BK135.out 2).trans rfl; have hcz19_3 : w18.cell? ⟨gb135, 3, none⟩ = some (.string (⟨#[]⟩ : ByteArray)) := (blk_cell BK135.out 3).trans rfl; have hcz19_4 : w18.cell? ⟨gb135, 4, none⟩ = some (.bool false) := (blk_cell BK135.out 4).trans rfl; have hfz19_0 := blk_frozen BK135.out 0; have hfz19_1 := blk_frozen BK135.out 1; have hfz19_2 := blk_frozen BK135.out 2; have hfz19_3 := blk_frozen BK135.out 3; have hfz19_4 := blk_frozen BK135.out 4) | ((with_reducible refine gate_callee (f := 10) rfl ?_); refine goesL_ (some 16) rfl rfl Try.func10 (by kernel_rfl) rfl #[.int .u8 a0] rfl (by (try simp only [List.map_toArray, List.map_cons, List.map_nil]); first | done | rfl | (simp only [List.length_drop, List.length_take]; rfl)) ?_; (with_reducible refine (phalaroperef10_Of.calls a0 t136 t137 t138 t139 t140 t141 _ A4.out).mono ?_); rintro e w20 ⟨rfl, hb⟩; refine ⟨_, rfl, ?_⟩; have n0_ := Aside0.mk (blk_below (g := gb135) (o := .cells #[.string t129, .string t130, .bool t131, .string t132, .bool t133] 24 (0, 0)) (by (with_reducible repeat (first | refine blk_drewN ?_ _ | refine blk_drew ?_ | refine blk_alloc ?_ _)); refine blk_put (cs := #[.string t129, .string t130, .bool t131, .string t132, .bool false]) ?_ 4 _ rfl; (with_reducible repeat (first | refine blk_drewN ?_ _ | refine blk_drew ?_ | refine blk_alloc ?_ _)); refine blk_put (cs := #[.string t129, .string t130, .bool t131, .string (⟨#[]⟩ : ByteArray), .bool false]) ?_ 3 _ rfl; (with_reducible repeat (first | refine blk_drewN ?_ _ | refine blk_drew ?_ | refine blk_alloc ?_ _)); refine blk_put (cs := #[.string t129, .string t130, .bool false, .string (⟨#[]⟩ : ByteArray), .bool false]) ?_ 2 _ rfl; (with_reducible repeat (first | refine blk_drewN ?_ _ | refine blk_drew ?_ | refine blk_alloc ?_ _)); refine blk_put (cs := #[.string t129, .string (⟨#[]⟩ : ByteArray), .bool false, .string (⟨#[]⟩ : ByteArray), .bool false]) ?_ 1 _ rfl; (with_reducible repeat (first | refine blk_drewN ?_ _ | refine blk_drew ?_ | refine blk_alloc ?_ _)); refine blk_put (cs := #[.string (⟨#[]⟩ : ByteArray), .string (⟨#[]⟩ : ByteArray), .bool false, .string (⟨#[]⟩ : ByteArray), .bool false]) ?_ 0 _ rfl; (with_reducible repeat (first | refine blk_drewN ?_ _ | refine blk_drew ?_ | refine blk_alloc ?_ _)); exact BK135.out) hb); have n1_ := Aside0.mk (below_step (by repeat (first | (with_reducible first | exact HB.out | apply below_alloc | apply pw_below_drewN | apply below_drew1 | refine below_set ?_ GE135.out) | exact HB.out)) hb); clear BK135; clear HB; have BK135 := n0_; have HB := n1_; clear n0_ n1_; (try clear hb); (try clear hb2); (try clear hk); (try clear hi)) | ((with_reducible refine gate_dst (N := 6) rfl ?_); refine box_event ?hg (N := 6) ?hd (cs := #[.string (⟨#[]⟩ : ByteArray), .string (⟨#[]⟩ : ByteArray), .bool false, .string (⟨#[]⟩ : ByteArray), .bool false]) (t := 27) ?hr ?_; (case hd => rfl); (case hg => rfl); (case hr => first | (go_simp; done) | (go_simp; rfl)); intro gb142 hg w21 hbox hb; have n0_ := Aside0.mk (blk_below (g := gb135) (o := .cells #[.string t129, .string t130, .bool t131, .string t132, .bool t133] 24 (0, 0)) (by (with_reducible repeat (first | refine blk_drewN ?_ _ | refine blk_drew ?_ | refine blk_alloc ?_ _)); exact BK135.out) hb); have n1_ := Aside0.mk (below_step (by repeat (first | (with_reducible first | exact HB.out | apply below_alloc | apply pw_below_drewN | apply below_drew1 | refine below_set ?_ GE135.out) | exact HB.out)) hb); have n2_ := Aside0.mk (hbox); have n3_ := Aside0.mk ((by rw [hg]; exact (below_size (by repeat (first | (with_reducible first | exact HB.out | apply below_alloc | apply pw_below_drewN | apply below_drew1 | refine below_set ?_ GE135.out) | exact HB.out))) : w.heap.size ≤ gb142)); have n4_ := Aside0.mk ((by rw [hg]; exact (below_size (by repeat (first | (with_reducible first | exact HB.out | apply below_alloc | apply pw_below_drewN | apply below_drew1 | refine below_set ?_ GE135.out) | exact HB.out))) : w.heap.size ≤ gb142)); have n5_ := Aside0.mk ((by rw [hg]; exact Nat.ne_of_lt (blk_lt (g := gb135) (o := .cells #[.string t129, .string t130, .bool t131, .string t132, .bool t133] 24 (0, 0)) (by (with_reducible repeat (first | refine blk_drewN ?_ _ | refine blk_drew ?_ | refine blk_alloc ?_ _)); exact BK135.out)) : gb135 ≠ gb142)); have n6_ := Aside0.mk ((by rw [hg]; exact Nat.ne_of_gt (blk_lt (g := gb135) (o := .cells #[.string t129, .string t130, .bool t131, .string t132, .bool t133] 24 (0, 0)) (by (with_reducible repeat (first | refine blk_drewN ?_ _ | refine blk_drew ?_ | refine blk_alloc ?_ _)); exact BK135.out)) : gb142 ≠ gb135)); clear BK135; clear HB; have BK135 := n0_; have HB := n1_; have BK142 := n2_; have GW142 := n3_; have GE142 := n4_; have NB135_142 := n5_; have NB142_135 := n6_; clear n0_ n1_ n2_ n3_ n4_ n5_ n6_; clear hb hbox hg; have hnb22 := NB142_135.out; have hnc22 := NB135_142.out; have hcz23_0 : w21.cell? ⟨gb142, 0, none⟩ = some (.string (⟨#[]⟩ : ByteArray)) := (blk_cell BK142.out 0).trans rfl; have hcz23_1 : w21.cell? ⟨gb142, 1, none⟩ = some (.string (⟨#[]⟩ : ByteArray)) := (blk_cell BK142.out 1).trans rfl; have hcz23_2 : w21.cell? ⟨gb142, 2, none⟩ = some (.bool false) := (blk_cell BK142.out 2).trans rfl; have hcz23_3 : w21.cell? ⟨gb142, 3, none⟩ = some (.string (⟨#[]⟩ : ByteArray)) := (blk_cell BK142.out 3).trans rfl; have hcz23_4 : w21.cell? ⟨gb142, 4, none⟩ = some (.bool false) := (blk_cell BK142.out 4).trans rfl; have hfz23_0 := blk_frozen BK142.out 0; have hfz23_1 := blk_frozen BK142.out 1; have hfz23_2 := blk_frozen BK142.out 2; have hfz23_3 := blk_frozen BK142.out 3; have hfz23_4 := blk_frozen BK142.out 4))
      go_ret
      exact ⟨by first | rfl | (simp [errW_none, errW_some] <;> rfl) | (simp [*, errW_none, errW_some] <;> rfl), by repeat (first | (with_reducible first | exact HB.out | apply below_alloc | apply pw_below_drewN | apply below_drew1 | refine below_set ?_ GE135.out | refine below_set ?_ GE142.out) | exact HB.out)⟩
  · replace c5 := Bool.eq_false_iff.mpr c5
    subst c5
    have H1 : (some false) = some r := by rw [if_neg (show ¬ (false = true) by decide)] at H; exact H
    clear H
    have H := H1
    clear H1
    obtain rfl := Option.some.inj H
    go_enter Try.func3, Try.ntmps3
    go_wp2_with (first | ((with_reducible refine gate_callee (f := 8) rfl ?_); refine goesL_ (some 8) rfl rfl Try.func8 (by kernel_rfl) rfl #[] rfl (by (try simp only [List.map_toArray, List.map_cons, List.map_nil]); first | done | rfl | (simp only [List.length_drop, List.length_take]; rfl)) ?_; (with_reducible refine (phalaropelaw10_awake.calls  false _ A2.out).mono ?_); rintro e w24 ⟨rfl, hb⟩; refine ⟨_, rfl, ?_⟩; have n0_ := Aside0.mk (below_step (by repeat (first | (with_reducible first | exact HB.out | apply below_alloc | apply pw_below_drewN | apply below_drew1) | exact HB.out)) hb); clear HB; have HB := n0_; clear n0_; (try clear hb); (try clear hb2); (try clear hk); (try clear hi)) | ((with_reducible refine gate_callee (f := 9) rfl ?_); refine goesL_ (some 11) rfl rfl Try.func9 (by kernel_rfl) rfl #[.int .u8 a0] rfl (by (try simp only [List.map_toArray, List.map_cons, List.map_nil]); first | done | rfl | (simp only [List.length_drop, List.length_take]; rfl)) ?_; (with_reducible refine (oper_Of.calls a0 t129 t130 t131 t132 t133 t134 _ A3.out).mono ?_); rintro e w25 ⟨rfl, hb⟩; refine ⟨_, rfl, ?_⟩; have n0_ := Aside0.mk (below_step (by repeat (first | (with_reducible first | exact HB.out | apply below_alloc | apply pw_below_drewN | apply below_drew1) | exact HB.out)) hb); clear HB; have HB := n0_; clear n0_; (try clear hb); (try clear hb2); (try clear hk); (try clear hi)) | ((with_reducible refine gate_dst (N := 4) rfl ?_); refine box_event ?hg (N := 4) ?hd (cs := #[.string (⟨#[]⟩ : ByteArray), .string (⟨#[]⟩ : ByteArray), .bool false, .string (⟨#[]⟩ : ByteArray), .bool false]) (t := 24) ?hr ?_; (case hd => rfl); (case hg => rfl); (case hr => first | (go_simp; done) | (go_simp; rfl)); intro gb135 hg w26 hbox hb; have n0_ := Aside0.mk (below_step (by repeat (first | (with_reducible first | exact HB.out | apply below_alloc | apply pw_below_drewN | apply below_drew1) | exact HB.out)) hb); have n1_ := Aside0.mk (hbox); have n2_ := Aside0.mk ((by rw [hg]; exact (below_size (by repeat (first | (with_reducible first | exact HB.out | apply below_alloc | apply pw_below_drewN | apply below_drew1) | exact HB.out))) : w.heap.size ≤ gb135)); have n3_ := Aside0.mk ((by rw [hg]; exact (below_size (by repeat (first | (with_reducible first | exact HB.out | apply below_alloc | apply pw_below_drewN | apply below_drew1) | exact HB.out))) : w.heap.size ≤ gb135)); clear HB; have HB := n0_; have BK135 := n1_; have GW135 := n2_; have GE135 := n3_; clear n0_ n1_ n2_ n3_; clear hb hbox hg; have hcz27_0 : w26.cell? ⟨gb135, 0, none⟩ = some (.string (⟨#[]⟩ : ByteArray)) := (blk_cell BK135.out 0).trans rfl; have hcz27_1 : w26.cell? ⟨gb135, 1, none⟩ = some (.string (⟨#[]⟩ : ByteArray)) := (blk_cell BK135.out 1).trans rfl; have hcz27_2 : w26.cell? ⟨gb135, 2, none⟩ = some (.bool false) := (blk_cell BK135.out 2).trans rfl; have hcz27_3 : w26.cell? ⟨gb135, 3, none⟩ = some (.string (⟨#[]⟩ : ByteArray)) := (blk_cell BK135.out 3).trans rfl; have hcz27_4 : w26.cell? ⟨gb135, 4, none⟩ = some (.bool false) := (blk_cell BK135.out 4).trans rfl; have hfz27_0 := blk_frozen BK135.out 0; have hfz27_1 := blk_frozen BK135.out 1; have hfz27_2 := blk_frozen BK135.out 2; have hfz27_3 := blk_frozen BK135.out 3; have hfz27_4 := blk_frozen BK135.out 4) | ((with_reducible refine gate_callee (f := 10) rfl ?_); refine goesL_ (some 16) rfl rfl Try.func10 (by kernel_rfl) rfl #[.int .u8 a0] rfl (by (try simp only [List.map_toArray, List.map_cons, List.map_nil]); first | done | rfl | (simp only [List.length_drop, List.length_take]; rfl)) ?_; (with_reducible refine (phalaroperef10_Of.calls a0 t136 t137 t138 t139 t140 t141 _ A4.out).mono ?_); rintro e w28 ⟨rfl, hb⟩; refine ⟨_, rfl, ?_⟩; have n0_ := Aside0.mk (blk_below (g := gb135) (o := .cells #[.string t129, .string t130, .bool t131, .string t132, .bool t133] 24 (0, 0)) (by (with_reducible repeat (first | refine blk_drewN ?_ _ | refine blk_drew ?_ | refine blk_alloc ?_ _)); refine blk_put (cs := #[.string t129, .string t130, .bool t131, .string t132, .bool false]) ?_ 4 _ rfl; (with_reducible repeat (first | refine blk_drewN ?_ _ | refine blk_drew ?_ | refine blk_alloc ?_ _)); refine blk_put (cs := #[.string t129, .string t130, .bool t131, .string (⟨#[]⟩ : ByteArray), .bool false]) ?_ 3 _ rfl; (with_reducible repeat (first | refine blk_drewN ?_ _ | refine blk_drew ?_ | refine blk_alloc ?_ _)); refine blk_put (cs := #[.string t129, .string t130, .bool false, .string (⟨#[]⟩ : ByteArray), .bool false]) ?_ 2 _ rfl; (with_reducible repeat (first | refine blk_drewN ?_ _ | refine blk_drew ?_ | refine blk_alloc ?_ _)); refine blk_put (cs := #[.string t129, .string (⟨#[]⟩ : ByteArray), .bool false, .string (⟨#[]⟩ : ByteArray), .bool false]) ?_ 1 _ rfl; (with_reducible repeat (first | refine blk_drewN ?_ _ | refine blk_drew ?_ | refine blk_alloc ?_ _)); refine blk_put (cs := #[.string (⟨#[]⟩ : ByteArray), .string (⟨#[]⟩ : ByteArray), .bool false, .string (⟨#[]⟩ : ByteArray), .bool false]) ?_ 0 _ rfl; (with_reducible repeat (first | refine blk_drewN ?_ _ | refine blk_drew ?_ | refine blk_alloc ?_ _)); exact BK135.out) hb); have n1_ := Aside0.mk (below_step (by repeat (first | (with_reducible first | exact HB.out | apply below_alloc | apply pw_below_drewN | apply below_drew1 | refine below_set ?_ GE135.out) | exact HB.out)) hb); clear BK135; clear HB; have BK135 := n0_; have HB := n1_; clear n0_ n1_; (try clear hb); (try clear hb2); (try clear hk); (try clear hi)) | ((with_reducible refine gate_dst (N := 6) rfl ?_); refine box_event ?hg (N := 6) ?hd (cs := #[.string (⟨#[]⟩ : ByteArray), .string (⟨#[]⟩ : ByteArray), .bool false, .string (⟨#[]⟩ : ByteArray), .bool false]) (t := 27) ?hr ?_; (case hd => rfl); (case hg => rfl); (case hr => first | (go_simp; done) | (go_simp; rfl)); intro gb142 hg w29 hbox hb; have n0_ := Aside0.mk (blk_below (g := gb135) (o := .cells #[.string t129, .string t130, .bool t131, .string t132, .bool t133] 24 (0, 0)) (by (with_reducible repeat (first | refine blk_drewN ?_ _ | refine blk_drew ?_ | refine blk_alloc ?_ _)); exact BK135.out) hb); have n1_ := Aside0.mk (below_step (by repeat (first | (with_reducible first | exact HB.out | apply below_alloc | apply pw_below_drewN | apply below_drew1 | refine below_set ?_ GE135.out) | exact HB.out)) hb); have n2_ := Aside0.mk (hbox); have n3_ := Aside0.mk ((by rw [hg]; exact (below_size (by repeat (first | (with_reducible first | exact HB.out | apply below_alloc | apply pw_below_drewN | apply below_drew1 | refine below_set ?_ GE135.out) | exact HB.out))) : w.heap.size ≤ gb142)); have n4_ := Aside0.mk ((by rw [hg]; exact (below_size (by repeat (first | (with_reducible first | exact HB.out | apply below_alloc | apply pw_below_drewN | apply below_drew1 | refine below_set ?_ GE135.out) | exact HB.out))) : w.heap.size ≤ gb142)); have n5_ := Aside0.mk ((by rw [hg]; exact Nat.ne_of_lt (blk_lt (g := gb135) (o := .cells #[.string t129, .string t130, .bool t131, .string t132, .bool t133] 24 (0, 0)) (by (with_reducible repeat (first | refine blk_drewN ?_ _ | refine blk_drew ?_ | refine blk_alloc ?_ _)); exact BK135.out)) : gb135 ≠ gb142)); have n6_ := Aside0.mk ((by rw [hg]; exact Nat.ne_of_gt (blk_lt (g := gb135) (o := .cells #[.string t129, .string t130, .bool t131, .string t132, .bool t133] 24 (0, 0)) (by (with_reducible repeat (first | refine blk_drewN ?_ _ | refine blk_drew ?_ | refine blk_alloc ?_ _)); exact BK135.out)) : gb142 ≠ gb135)); clear BK135; clear HB; have BK135 := n0_; have HB := n1_; have BK142 := n2_; have GW142 := n3_; have GE142 := n4_; have NB135_142 := n5_; have NB142_135 := n6_; clear n0_ n1_ n2_ n3_ n4_ n5_ n6_; clear hb hbox hg; have hnb30 := NB142_135.out; have hnc30 := NB135_142.out; have hcz31_0 : w29.cell? ⟨gb142, 0, none⟩ = some (.string (⟨#[]⟩ : ByteArray)) := (blk_cell BK142.out 0).trans rfl; have hcz31_1 : w29.cell? ⟨gb142, 1, none⟩ = some (.string (⟨#[]⟩ : ByteArray)) := (blk_cell BK142.out 1).trans rfl; have hcz31_2 : w29.cell? ⟨gb142, 2, none⟩ = some (.bool false) := (blk_cell BK142.out 2).trans rfl; have hcz31_3 : w29.cell? ⟨gb142, 3, none⟩ = some (.string (⟨#[]⟩ : ByteArray)) := (blk_cell BK142.out 3).trans rfl; have hcz31_4 : w29.cell? ⟨gb142, 4, none⟩ = some (.bool false) := (blk_cell BK142.out 4).trans rfl; have hfz31_0 := blk_frozen BK142.out 0; have hfz31_1 := blk_frozen BK142.out 1; have hfz31_2 := blk_frozen BK142.out 2; have hfz31_3 := blk_frozen BK142.out 3; have hfz31_4 := blk_frozen BK142.out 4))
    go_ret
    exact ⟨by first | rfl | (simp [errW_none, errW_some] <;> rfl) | (simp [*, errW_none, errW_some] <;> rfl), by repeat (first | (with_reducible first | exact HB.out | apply below_alloc | apply pw_below_drewN | apply below_drew1 | refine below_set ?_ GE135.out | refine below_set ?_ GE142.out) | exact HB.out)⟩

/-- THE ONE PURE STATEMENT of phalaropelaw10_OperTells: yours. -/
def phalaropelaw10_OperTells.Pure : Prop := ∀ (a0 : Int), (Lit.int .u8 a0).wf = true → phalaropelaw10_OperTells.f a0 = some true
theorem phalaropelaw10_OperTells.walk (P : phalaropelaw10_OperTells.Pure) (a0 : Int) (w : World) (w0 : (Lit.int .u8 a0).wf = true) :
    Calls Try.prog 3 #[.int .u8 a0] w fun e w' => e = .returned (.bool true) ∧ Below w.heap.size w w' := by
  have h := P a0 w0
  refine (phalaropelaw10_OperTells.calls a0 true w h).mono ?_
  rintro e w' ⟨rfl, hd⟩
  exact ⟨rfl, hd⟩

end Go.Proofs.Ytakgimjaiplmgaa.PB
