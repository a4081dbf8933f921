-- Printed by wip/xprint.py of this claim's authors, over the kit's print; not trusted: Lean checks it.
import Derived.Test.YtakgimjaiplmgaaPCx0
import Derived.Test.YtakgimjaiplmgaaPCx1
import Derived.Test.YtakgimjaiplmgaaPCx2
namespace Go.Proofs.Ytakgimjaiplmgaa.PC
open Go.RowKit Go.Proofs.YtakgimjaiplmgaaW.PrintWords Go.Proofs.YtakgimjaiplmgaaW.PrintLast Go.Proofs.YtakgimjaiplmgaaW.PrintMore
attribute [local go_sem] max2_int min2_int max_two min_two max_three min_three max_four min_four   -- for this text's walks alone
set_option linter.unusedVariables false
set_option linter.unusedSimpArgs false

attribute [local go_sem high] eqA24
/-! ### oper_All: function 11 (ours) -/
theorem own_base {w : World} {base base' : Nat} {e : TypeId} {size : Nat} {v : Value} {n : Nat} {xs : List Value} (h : w.ownsRow base e size v n xs) (hb : base' ≤ base) : w.ownsRow base' e size v n xs := by
  refine ⟨h.1, h.2.imp_right ?_⟩
  rintro ⟨g, cap, cur, h1, h2, h3⟩
  exact ⟨g, cap, cur, h1, Nat.le_trans hb h2, h3⟩
theorem less_f (a b : Int) : cmp_Less_byte.f a b = some (decide (a < b)) := by
  unfold cmp_Less_byte.f cmp_isNaN_byte.f
  simp
theorem rd_mid (a : List Int) (x : Int) (b : List Int) : rd (a ++ x :: b) (a.length : Int) = x := by
  unfold rd; simp
/-- One element goes down to its place; then the next ones. -/
theorem ins_l1 (n : Nat) (hn : n ≤ 1000000) (c : List Int)
    (next : ∀ s : List Int, s.Pairwise (· ≤ ·) → s.length + c.length = n → ∃ k r, slices_insertionSortOrdered_byte.l0 k (s ++ c) 0 (n : Int) (s.length : Int) = some r ∧ r.Perm (s ++ c) ∧ r.Pairwise (· ≤ ·)) (d : Nat) :
    ∀ (a : List Int) (x : Int) (b : List Int), a.length = d → (a ++ b).Pairwise (· ≤ ·) → (∀ y ∈ b, x ≤ y) → a.length + b.length + 1 + c.length = n →
      ∃ k r, slices_insertionSortOrdered_byte.l1 k (a ++ x :: (b ++ c)) 0 (n : Int) ((a.length + b.length : Nat) : Int) (a.length : Int) = some r ∧ r.Perm (a ++ x :: (b ++ c)) ∧ r.Pairwise (· ≤ ·) := by
  induction d with
  | zero =>
    intro a x b ha hs hx hl
    obtain rfl : a = [] := List.eq_nil_of_length_eq_zero ha
    obtain ⟨k, r, h1, h2, h3⟩ := next (x :: b) (List.pairwise_cons.2 ⟨hx, by simpa using hs⟩) (by simp at hl ⊢; omega)
    refine ⟨k + 1, r, ?_, by simpa using h2, h3⟩
    simp only [slices_insertionSortOrdered_byte.l1]
    rw [if_neg (by simp)]
    rw [show wrap64 (((([] : List Int).length + b.length : Nat) : Int) + 1) = ((x :: b).length : Int) from by unfold wrap64; simp at hl ⊢; omega]
    simpa using h1
  | succ d ih =>
    intro a x b ha hs hx hl
    obtain ⟨a', z, rfl⟩ : ∃ a' z, a = a' ++ [z] := ⟨a.dropLast, a.getLast (by intro h; rw [h] at ha; simp at ha), (List.dropLast_concat_getLast _).symm⟩
    have hal : a'.length = d := by simpa using ha
    have e1 : ((a' ++ [z]).length : Int) - 1 = (a'.length : Int) := by simp
    have ew : wrap64 (((a' ++ [z]).length : Int) - 1) = (a'.length : Int) := by rw [e1]; unfold wrap64; simp at hl; omega
    have g1 : rd (a' ++ [z] ++ x :: (b ++ c)) ((a' ++ [z]).length : Int) = x := rd_mid _ _ _
    have g2 : rd (a' ++ [z] ++ x :: (b ++ c)) (a'.length : Int) = z := by rw [List.append_assoc]; exact rd_mid _ _ _
    by_cases hlt : x < z
    · obtain ⟨k, r, h1, h2, h3⟩ := ih a' x (z :: b) hal (by simpa using hs) (fun y hy => by
        rcases List.mem_cons.1 hy with rfl | hy
        · omega
        · exact hx y hy) (by simp at hl ⊢; omega)
      refine ⟨k + 1, r, ?_, h2.trans ?_, h3⟩
      · simp only [slices_insertionSortOrdered_byte.l1]
        rw [if_pos (by simp <;> omega), if_pos (by simp <;> omega), if_pos (by simp <;> omega), ew, if_pos (by omega), if_pos (by simp <;> omega), g1, g2, less_f]
        simp only [Option.bind_some, hlt, decide_true, if_true]
        have es : (((a' ++ [z] ++ x :: (b ++ c)).set ((a' ++ [z]).length : Int).toNat z).set (a'.length : Int).toNat x) = a' ++ x :: (z :: b ++ c) := by
          simp
        rw [es, show ((((a' ++ [z]).length + b.length : Nat) : Int)) = ((a'.length + (z :: b).length : Nat) : Int) from by simp; omega]
        exact h1
      · rw [List.append_assoc]
        exact List.Perm.append_left a' (List.Perm.swap z x (b ++ c))
    · have hzx : z ≤ x := by omega
      obtain ⟨k, r, h1, h2, h3⟩ := next (a' ++ [z] ++ x :: b) (by
        obtain ⟨s1, s2, s3⟩ := List.pairwise_append.1 hs
        refine List.pairwise_append.2 ⟨s1, List.pairwise_cons.2 ⟨hx, s2⟩, fun p hp q hq => ?_⟩
        rcases List.mem_cons.1 hq with rfl | hq
        · have : p ≤ z := by
            rcases List.mem_append.1 hp with hp | hp
            · exact (List.pairwise_append.1 s1).2.2 p hp z (by simp)
            · rw [List.mem_singleton.1 hp]; exact Int.le_refl _
          omega
        · exact s3 p hp q hq) (by simp at hl ⊢; omega)
      refine ⟨k + 1, r, ?_, by simpa using h2, h3⟩
      simp only [slices_insertionSortOrdered_byte.l1]
      rw [if_pos (by simp <;> omega), if_pos (by simp <;> omega), if_pos (by simp <;> omega), ew, if_pos (by omega), if_pos (by simp <;> omega), g1, g2, less_f]
      simp only [Option.bind_some, hlt, decide_false]
      rw [if_neg (by simp)]
      rw [show wrap64 ((((a' ++ [z]).length + b.length : Nat) : Int) + 1) = ((a' ++ [z] ++ x :: b).length : Int) from by unfold wrap64; simp at hl ⊢; omega]
      simpa using h1
theorem ins_l0 (n : Nat) (hn : n ≤ 1000000) (c : List Int) : ∀ s : List Int, s.Pairwise (· ≤ ·) → s.length + c.length = n →
    ∃ k r, slices_insertionSortOrdered_byte.l0 k (s ++ c) 0 (n : Int) (s.length : Int) = some r ∧ r.Perm (s ++ c) ∧ r.Pairwise (· ≤ ·) := by
  induction c with
  | nil =>
    intro s hs hl
    refine ⟨1, s, ?_, by simp, hs⟩
    simp only [slices_insertionSortOrdered_byte.l0]
    rw [if_neg (by simp at hl; omega), List.append_nil]
  | cons x c ih =>
    intro s hs hl
    obtain ⟨k, r, h1, h2, h3⟩ := ins_l1 n hn c ih s.length s x [] rfl (by simpa using hs) (by simp) (by simp at hl ⊢; omega)
    refine ⟨k + 1, r, ?_, by simpa using h2, h3⟩
    simp only [slices_insertionSortOrdered_byte.l0]
    rw [if_pos (by simp at hl; omega)]
    simpa using h1
theorem ins_opers {ss : List Int} (h : ss.Perm X.opers) : ∃ k, slices_insertionSortOrdered_byte.f k ss 0 8 = some X.opers := by
  have h8 : ss.length = 8 := h.length_eq
  rcases ss with _ | ⟨x, ss⟩
  · simp at h8
  obtain ⟨k, r, h1, h2, h3⟩ := ins_l0 8 (by omega) ss [x] (by simp) (by simp at h8 ⊢; omega)
  refine ⟨k, ?_⟩
  unfold slices_insertionSortOrdered_byte.f
  have : r = X.opers := List.Perm.eq_of_pairwise (le := fun a b => a ≤ b) (fun a b _ _ h1 h2 => Int.le_antisymm h1 h2) h3 (by decide) (h2.trans h)
  rw [← this, show wrap64 (0 + 1) = (([x].length : Nat) : Int) from by unfold wrap64; simp]
  exact h1
set_option maxHeartbeats 4000000 in
set_option maxRecDepth 100000 in
theorem pdq8 (v : Value) (l : List Int) (hl : l.length = 8) (r : List Int) (k : Nat) (w0 w : World) (hB : Below w0.heap.size w0 w) (ho : Kd.R (Kd.int .u8) 5 w w0.heap.size (fun _ => True) v l) (h : slices_insertionSortOrdered_byte.f k l 0 8 = some r) :
    Calls Try.prog 24 #[v, .int .i64 0, .int .i64 8, .int .i64 4] w fun e w' => e = .returned (.tuple #[]) ∧ Kd.R (Kd.int .u8) 5 w' w0.heap.size (fun _ => True) v r ∧ Below w0.heap.size w0 w' := by
  have HI := Aside0.mk (slices_insertionSortOrdered_byte.calls k (fun _ => True) v l 0 8 r w0 w hB ho h)
  clear hB ho h
  go_enter Try.func24, Try.ntmps24
  go_wp2_with fail
  refine wp_loop_rounds 1 ?_
  rw [rounds_succ]
  go_wp2_with fail
  refine HI.out.mono ?_
  rintro e w1 ⟨rfl, h1, h2, _⟩
  have H1 := Aside0.mk h1
  have H2 := Aside0.mk h2
  clear h1 h2
  go_wp2_with fail
  exact bodyPost_ret (results_none rfl _ _ _) rfl ⟨rfl, Kd.R_mono H1.out (fun _ _ => trivial), H2.out⟩
set_option maxHeartbeats 2000000 in
theorem sort8 (A : Option Addr) (c : Nat) (l : List Int) (hl : l.length = 8) (r : List Int) (k : Nat) (w0 w : World) (hB : Below w0.heap.size w0 w) (ho : Kd.R (Kd.int .u8) 5 w w0.heap.size (fun _ => True) (.slice A 8 c) l) (h : slices_insertionSortOrdered_byte.f k l 0 8 = some r) :
    Calls Try.prog 20 #[.slice A 8 c] w fun e w' => e = .returned (.tuple #[]) ∧ Kd.R (Kd.int .u8) 5 w' w0.heap.size (fun _ => True) (.slice A 8 c) r ∧ Below w0.heap.size w0 w' := by
  have HP := Aside0.mk (pdq8 (.slice A 8 c) l hl r k w0 w hB ho h)
  have HL := Aside0.mk (Try.bits_Len 8 w (by omega) (by omega))
  have hb : Lib.bitLen (8 : Int).toNat = 4 := by decide
  rw [hb] at HL
  clear hB ho h hb
  go_enter Try.func20, Try.ntmps20
  go_wp2_with fail
  refine HL.out.mono ?_
  rintro e w1 ⟨rfl, rfl⟩
  go_wp2_with fail
  refine HP.out.mono ?_
  rintro e w2 ⟨rfl, h1, h2⟩
  have H1 := Aside0.mk h1
  have H2 := Aside0.mk h2
  clear h1 h2
  go_wp2_with fail
  go_end0
  exact ⟨rfl, H1.out, H2.out⟩
set_option maxHeartbeats 2000000 in
theorem sorted_calls (Bm b nn : Nat) (w0 w : World) (hB : Below w0.heap.size w0 w) (hBm : Bm < w.heap.size) (hm : w.cell? ⟨Bm, 0, none⟩ = some (.map (some b))) (hown : w.ownsMap Try.prog 5 X.ruleR b nn X.rulesD0) :
    Calls Try.prog 15 #[.func (.func 21) #[] #[.pointer (some ⟨Bm, 0, none⟩)]] w fun e w' => ∃ v, e = .returned v ∧ Kd.R (Kd.int .u8) 5 w' w0.heap.size (fun _ => True) v X.opers ∧ Below w0.heap.size w0 w' := by
  have HC := Aside0.mk (X.collectU Bm b nn X.rulesD0 (by decide) w hBm hm hown)
  have HB := Aside0.mk hB
  have hsz := hB.size
  clear hm hown hB
  go_enter Try.func15, Try.ntmps15
  go_wp2_with fail
  refine HC.out.mono ?_
  rintro e w1 ⟨v, ss, rfl, ⟨hnd, hmem⟩, hrow, hb1⟩
  have hp := X.opers_perm hnd hmem
  have h8 := Aside0.mk (show ss.length = 8 from hp.length_eq)
  obtain ⟨k, hk⟩ := ins_opers hp
  have HK := Aside0.mk hk
  have hR : Kd.R (Kd.int .u8) 5 w1 w0.heap.size (fun _ => True) v ss := Kd.R_of_own (own_base hrow hsz) (fun _ _ => trivial)
  obtain ⟨A, c, hv, _, _⟩ := Kd.R_reads hR
  rw [h8.out] at hv
  subst hv
  have HB1 := Aside0.mk (HB.out.trans (hb1.mono hsz))
  have HR := Aside0.mk hR
  clear hp hk hR hrow hb1 hnd hmem
  go_wp2_with fail
  refine (sort8 A c ss h8.out X.opers k w0 w1 HB1.out HR.out HK.out).mono ?_
  rintro e w2 ⟨rfl, h1, h2⟩
  have H1 := Aside0.mk h1
  have H2 := Aside0.mk h2
  clear h1 h2
  go_wp2_with fail
  go_ret
  exact ⟨_, rfl, H1.out, H2.out⟩
def oper_All.f  : Option (List Int) := some X.opers
set_option maxHeartbeats 8000000 in
set_option maxRecDepth 100000 in
theorem oper_All.calls  (r : List Int) (w : World) (h : oper_All.f  = some r) :
    Calls Try.prog 11 #[] w fun e w' => ∃ v0_ : Value, e = .returned (v0_) ∧ Kd.R (Kd.int .u8) 5 w' w.heap.size (fun _ => True) v0_ r ∧ Below w.heap.size w w' := by
  obtain rfl := Option.some.inj h
  clear h
  go_enter Try.func11, Try.ntmps11
  go_wp2_with fail
  refine (X.rules_any _).mono ?_
  rintro e w1 ⟨rfl, hm, hb⟩
  have HM := Aside0.mk hm
  have HB := Aside0.mk hb
  clear hm hb
  go_wp2_with fail
  refine (X.keysU _ _).mono ?_
  rintro e w2 ⟨rfl, rfl⟩
  have HM2 := Aside0.mk (show (w1.alloc (.cells #[.map (some w.heap.size)] 34)).ownsMap Try.prog 5 X.ruleR w.heap.size 8 X.rulesD0 from World.ownsMap.alloc HM.out _)
  have HC := Aside0.mk (show (w1.alloc (.cells #[.map (some w.heap.size)] 34)).cell? ⟨w1.heap.size, 0, none⟩ = some (.map (some w.heap.size)) from (Boxed.new w1 34 (.map (some w.heap.size))).cell)
  have HB2 := Aside0.mk (below_alloc HB.out (.cells #[.map (some w.heap.size)] 34))
  go_wp2_with fail
  refine (sorted_calls w1.heap.size w.heap.size 8 w _ HB2.out (by simp) HC.out HM2.out).mono ?_
  rintro e w3 ⟨v, rfl, h1, h2⟩
  have H1 := Aside0.mk h1
  have H2 := Aside0.mk h2
  clear h1 h2
  go_wp2_with fail
  go_ret
  exact ⟨_, rfl, H1.out, H2.out⟩
/-! ### phalaropelaw10_awake: function 8 -/
def phalaropelaw10_awake.f  : Option (Bool) := (oper_Of.f 63).bind fun bt110 => ((oper_Of.f 33).bind fun bt117 => (if bt110.2.2.2.2.2 = true then (if bt117.2.2.2.2.2 = true then (some false) else (if (bt110.1.toList == ([63] : List UInt8) && (bt110.2.1.toList == ([38] : List UInt8) && (bt110.2.2.1 && (bt110.2.2.2.1.toList == ([61] : List UInt8) && (!bt110.2.2.2.2.1))))) = true then ((oper_All.f).bind fun t124 => (some ((t124.length : Int) == 8))) else (some false))) else (some false)))
set_option maxHeartbeats 8000000 in
set_option maxRecDepth 100000 in
theorem phalaropelaw10_awake.calls  (r : Bool) (w : World) (h : phalaropelaw10_awake.f  = some r) :
    Calls Try.prog 8 #[] w fun e w' => e = .returned (.bool r) ∧ Below w.heap.size w w' := by
  have hu24 := Try.underlying24
  have HB := Aside0.mk (Below.refl w.heap.size w)
  have H : ((oper_Of.f 63).bind fun bt110 => ((oper_Of.f 33).bind fun bt117 => (if bt110.2.2.2.2.2 = true then (if bt117.2.2.2.2.2 = true then (some false) else (if (bt110.1.toList == ([63] : List UInt8) && (bt110.2.1.toList == ([38] : List UInt8) && (bt110.2.2.1 && (bt110.2.2.2.1.toList == ([61] : List UInt8) && (!bt110.2.2.2.2.1))))) = true then ((oper_All.f).bind fun t124 => (some ((t124.length : Int) == 8))) else (some false))) else (some false)))) = some r := h
  clear h
  replace H := Option.bind_eq_some_iff.mp H
  obtain ⟨⟨t110, t111, t112, t113, t114, t115⟩, A10, H⟩ := H
  replace H : ((oper_Of.f 33).bind fun bt117 => (if t115 = true then (if bt117.2.2.2.2.2 = true then (some false) else (if (t110.toList == ([63] : List UInt8) && (t111.toList == ([38] : List UInt8) && (t112 && (t113.toList == ([61] : List UInt8) && (!t114))))) = true then ((oper_All.f).bind fun t124 => (some ((t124.length : Int) == 8))) else (some false))) else (some false))) = some r := H
  have A1 := Aside0.mk A10
  clear A10
  replace H := Option.bind_eq_some_iff.mp H
  obtain ⟨⟨t117, t118, t119, t120, t121, t122⟩, A20, H⟩ := H
  replace H : (if t115 = true then (if t122 = true then (some false) else (if (t110.toList == ([63] : List UInt8) && (t111.toList == ([38] : List UInt8) && (t112 && (t113.toList == ([61] : List UInt8) && (!t114))))) = true then ((oper_All.f).bind fun t124 => (some ((t124.length : Int) == 8))) else (some false))) else (some false)) = some r := H
  have A2 := Aside0.mk A20
  clear A20
  by_cases c3 : t115 = true
  · subst c3
    have H1 : (if t122 = true then (some false) else (if (t110.toList == ([63] : List UInt8) && (t111.toList == ([38] : List UInt8) && (t112 && (t113.toList == ([61] : List UInt8) && (!t114))))) = true then ((oper_All.f).bind fun t124 => (some ((t124.length : Int) == 8))) else (some false))) = some r := by rw [if_pos rfl] at H; exact H
    clear H
    have H := H1
    clear H1
    by_cases c4 : t122 = true
    · subst c4
      have H1 : (some false) = some r := by rw [if_pos rfl] at H; exact H
      clear H
      have H := H1
      clear H1
      obtain rfl := Option.some.inj H
      go_enter Try.func8, Try.ntmps8
      go_wp2_with (first | ((with_reducible refine gate_callee (f := 9) rfl ?_); refine goesL_ (some 6) rfl rfl Try.func9 (by kernel_rfl) rfl #[.int .u8 63] rfl (by (try simp only [List.map_toArray, List.map_cons, List.map_nil]); first | done | rfl | (simp only [List.length_drop, List.length_take]; rfl)) ?_; (with_reducible refine (oper_Of.calls 63 t110 t111 t112 t113 t114 true _ A1.out).mono ?_); rintro e w5 ⟨rfl, hb⟩; refine ⟨_, rfl, ?_⟩; have n0_ := Aside0.mk (below_step (by repeat (first | (with_reducible first | exact HB.out | apply below_alloc | apply pw_below_drewN | apply below_drew1) | exact HB.out)) hb); clear HB; have HB := n0_; clear n0_; (try clear hb); (try clear hb2); (try clear hk); (try clear hi)) | ((with_reducible refine gate_dst (N := 1) rfl ?_); (try (refine gate_guard (by rfl) ?_; dsimp only)); refine box_event ?hg (N := 1) ?hd (cs := #[.string (⟨#[]⟩ : ByteArray), .string (⟨#[]⟩ : ByteArray), .bool false, .string (⟨#[]⟩ : ByteArray), .bool false]) (t := 24) ?hr ?_; (case hd => rfl); (case hg => rfl); (case hr => first | (go_simp; done) | (go_simp; rfl)); intro gb116 hg w6 hbox hb; have n0_ := Aside0.mk (below_step (by repeat (first | (with_reducible first | exact HB.out | apply below_alloc | apply pw_below_drewN | apply below_drew1) | exact HB.out)) hb); have n1_ := Aside0.mk (hbox); have n2_ := Aside0.mk ((by rw [hg]; exact (below_size (by repeat (first | (with_reducible first | exact HB.out | apply below_alloc | apply pw_below_drewN | apply below_drew1) | exact HB.out))) : w.heap.size ≤ gb116)); have n3_ := Aside0.mk ((by rw [hg]; exact (below_size (by repeat (first | (with_reducible first | exact HB.out | apply below_alloc | apply pw_below_drewN | apply below_drew1) | exact HB.out))) : w.heap.size ≤ gb116)); clear HB; have HB := n0_; have BK116 := n1_; have GW116 := n2_; have GE116 := n3_; clear n0_ n1_ n2_ n3_; clear hb hbox hg; have hcz7_0 : w6.cell? ⟨gb116, 0, none⟩ = some (.string (⟨#[]⟩ : ByteArray)) := (blk_cell BK116.out 0).trans rfl; have hcz7_1 : w6.cell? ⟨gb116, 1, none⟩ = some (.string (⟨#[]⟩ : ByteArray)) := (blk_cell BK116.out 1).trans rfl; have hcz7_2 : w6.cell? ⟨gb116, 2, none⟩ = some (.bool false) := (blk_cell BK116.out 2).trans rfl; have hcz7_3 : w6.cell? ⟨gb116, 3, none⟩ = some (.string (⟨#[]⟩ : ByteArray)) := (blk_cell BK116.out 3).trans rfl; have hcz7_4 : w6.cell? ⟨gb116, 4, none⟩ = some (.bool false) := (blk_cell BK116.out 4).trans rfl; have hfz7_0 := blk_frozen BK116.out 0; have hfz7_1 := blk_frozen BK116.out 1; have hfz7_2 := blk_frozen BK116.out 2; have hfz7_3 := blk_frozen BK116.out 3; have hfz7_4 := blk_frozen BK116.out 4) | ((with_reducible refine gate_callee (f := 9) rfl ?_); refine goesL_ (some 10) rfl rfl Try.func9 (by kernel_rfl) rfl #[.int .u8 33] rfl (by (try simp only [List.map_toArray, List.map_cons, List.map_nil]); first | done | rfl | (simp only [List.length_drop, List.length_take]; rfl)) ?_; (with_reducible refine (oper_Of.calls 33 t117 t118 t119 t120 t121 true _ A2.out).mono ?_); rintro e w8 ⟨rfl, hb⟩; refine ⟨_, rfl, ?_⟩; have n0_ := Aside0.mk (blk_below (g := gb116) (o := .cells #[.string t110, .string t111, .bool t112, .string t113, .bool t114] 24 (0, 0)) (by (with_reducible repeat (first | refine blk_drewN ?_ _ | refine blk_drew ?_ | refine blk_alloc ?_ _)); refine blk_put (cs := #[.string t110, .string t111, .bool t112, .string t113, .bool false]) ?_ 4 _ rfl; (with_reducible repeat (first | refine blk_drewN ?_ _ | refine blk_drew ?_ | refine blk_alloc ?_ _)); refine blk_put (cs := #[.string t110, .string t111, .bool t112, .string (⟨#[]⟩ : ByteArray), .bool false]) ?_ 3 _ rfl; (with_reducible repeat (first | refine blk_drewN ?_ _ | refine blk_drew ?_ | refine blk_alloc ?_ _)); refine blk_put (cs := #[.string t110, .string t111, .bool false, .string (⟨#[]⟩ : ByteArray), .bool false]) ?_ 2 _ rfl; (with_reducible repeat (first | refine blk_drewN ?_ _ | refine blk_drew ?_ | refine blk_alloc ?_ _)); refine blk_put (cs := #[.string t110, .string (⟨#[]⟩ : ByteArray), .bool false, .string (⟨#[]⟩ : ByteArray), .bool false]) ?_ 1 _ rfl; (with_reducible repeat (first | refine blk_drewN ?_ _ | refine blk_drew ?_ | refine blk_alloc ?_ _)); refine blk_put (cs := #[.string (⟨#[]⟩ : ByteArray), .string (⟨#[]⟩ : ByteArray), .bool false, .string (⟨#[]⟩ : ByteArray), .bool false]) ?_ 0 _ rfl; (with_reducible repeat (first | refine blk_drewN ?_ _ | refine blk_drew ?_ | refine blk_alloc ?_ _)); exact BK116.out) hb); have n1_ := Aside0.mk (below_step (by repeat (first | (with_reducible first | exact HB.out | apply below_alloc | apply pw_below_drewN | apply below_drew1 | refine below_set ?_ GE116.out) | exact HB.out)) hb); clear BK116; clear HB; have BK116 := n0_; have HB := n1_; clear n0_ n1_; (try clear hb); (try clear hb2); (try clear hk); (try clear hi)) | ((with_reducible refine gate_dst (N := 3) rfl ?_); (try (refine gate_guard (by rfl) ?_; dsimp only)); refine box_event ?hg (N := 3) ?hd (cs := #[.string (⟨#[]⟩ : ByteArray), .string (⟨#[]⟩ : ByteArray), .bool false, .string (⟨#[]⟩ : ByteArray), .bool false]) (t := 24) ?hr ?_; (case hd => rfl); (case hg => rfl); (case hr => first | (go_simp; done) | (go_simp; rfl)); intro gb123 hg w9 hbox hb; have n0_ := Aside0.mk (blk_below (g := gb116) (o := .cells #[.string t110, .string t111, .bool t112, .string t113, .bool t114] 24 (0, 0)) (by (with_reducible repeat (first | refine blk_drewN ?_ _ | refine blk_drew ?_ | refine blk_alloc ?_ _)); exact BK116.out) hb); have n1_ := Aside0.mk (below_step (by repeat (first | (with_reducible first | exact HB.out | apply below_alloc | apply pw_below_drewN | apply below_drew1 | refine below_set ?_ GE116.out) | exact HB.out)) hb); have n2_ := Aside0.mk (hbox); have n3_ := Aside0.mk ((by rw [hg]; exact (below_size (by repeat (first | (with_reducible first | exact HB.out | apply below_alloc | apply pw_below_drewN | apply below_drew1 | refine below_set ?_ GE116.out) | exact HB.out))) : w.heap.size ≤ gb123)); have n4_ := Aside0.mk ((by rw [hg]; exact (below_size (by repeat (first | (with_reducible first | exact HB.out | apply below_alloc | apply pw_below_drewN | apply below_drew1 | refine below_set ?_ GE116.out) | exact HB.out))) : w.heap.size ≤ gb123)); have n5_ := Aside0.mk ((by rw [hg]; exact Nat.ne_of_lt (blk_lt (g := gb116) (o := .cells #[.string t110, .string t111, .bool t112, .string t113, .bool t114] 24 (0, 0)) (by (with_reducible repeat (first | refine blk_drewN ?_ _ | refine blk_drew ?_ | refine blk_alloc ?_ _)); exact BK116.out)) : gb116 ≠ gb123)); have n6_ := Aside0.mk ((by rw [hg]; exact Nat.ne_of_gt (blk_lt (g := gb116) (o := .cells #[.string t110, .string t111, .bool t112, .string t113, .bool t114] 24 (0, 0)) (by (with_reducible repeat (first | refine blk_drewN ?_ _ | refine blk_drew ?_ | refine blk_alloc ?_ _)); exact BK116.out)) : gb123 ≠ gb116)); clear BK116; clear HB; have BK116 := n0_; have HB := n1_; have BK123 := n2_; have GW123 := n3_; have GE123 := n4_; have NB116_123 := n5_; have NB123_116 := n6_; clear n0_ n1_ n2_ n3_ n4_ n5_ n6_; clear hb hbox hg; have hnb10 := NB123_116.out; have hnc10 := NB116_123.out; have hcz11_0 : w9.cell? ⟨gb123, 0, none⟩ = some (.string (⟨#[]⟩ : ByteArray)) := (blk_cell BK123.out 0).trans rfl; have hcz11_1 : w9.cell? ⟨gb123, 1, none⟩ = some (.string (⟨#[]⟩ : ByteArray)) := (blk_cell BK123.out 1).trans rfl; have hcz11_2 : w9.cell? ⟨gb123, 2, none⟩ = some (.bool false) := (blk_cell BK123.out 2).trans rfl; have hcz11_3 : w9.cell? ⟨gb123, 3, none⟩ = some (.string (⟨#[]⟩ : ByteArray)) := (blk_cell BK123.out 3).trans rfl; have hcz11_4 : w9.cell? ⟨gb123, 4, none⟩ = some (.bool false) := (blk_cell BK123.out 4).trans rfl; have hfz11_0 := blk_frozen BK123.out 0; have hfz11_1 := blk_frozen BK123.out 1; have hfz11_2 := blk_frozen BK123.out 2; have hfz11_3 := blk_frozen BK123.out 3; have hfz11_4 := blk_frozen BK123.out 4))
      go_ret
      exact ⟨by first | rfl | (simp [errW_none, errW_some] <;> rfl) | (simp [*, errW_none, errW_some] <;> rfl), by repeat (first | (with_reducible first | exact HB.out | apply below_alloc | apply pw_below_drewN | apply below_drew1 | refine below_set ?_ GE116.out | refine below_set ?_ GE123.out) | exact HB.out)⟩
    · replace c4 := Bool.eq_false_iff.mpr c4
      subst c4
      have H1 : (if (t110.toList == ([63] : List UInt8) && (t111.toList == ([38] : List UInt8) && (t112 && (t113.toList == ([61] : List UInt8) && (!t114))))) = true then ((oper_All.f).bind fun t124 => (some ((t124.length : Int) == 8))) else (some false)) = some r := by rw [if_neg (show ¬ (false = true) by decide)] at H; exact H
      clear H
      have H := H1
      clear H1
      by_cases c12 : (t110.toList == ([63] : List UInt8) && (t111.toList == ([38] : List UInt8) && (t112 && (t113.toList == ([61] : List UInt8) && (!t114))))) = true
      · rw [if_pos c12] at H
        have c12b0 : (t110.toList == ([63] : List UInt8) && (t111.toList == ([38] : List UInt8) && (t112 && (t113.toList == ([61] : List UInt8) && (!t114))))) = true := c12
        (try (have c12b1 : decide (t110.toList = ([63] : List UInt8) && (t111.toList == ([38] : List UInt8) && (t112 && (t113.toList == ([61] : List UInt8) && (!t114))))) = true := by simpa using c12))
        (try (have c12b2 : (t110.toList == ([63] : List UInt8) && (t111.toList == ([38] : List UInt8) && (t112 && (t113.toList == ([61] : List UInt8) && (!t114))))) = true := by simpa using c12))
        clear c12
        replace H := Option.bind_eq_some_iff.mp H
        obtain ⟨t124, A130, H⟩ := H
        replace H : (some ((t124.length : Int) == 8)) = some r := H
        have A13 := Aside0.mk A130
        clear A130
        obtain rfl := Option.some.inj H
        go_enter Try.func8, Try.ntmps8
        go_wp2_with (first | ((with_reducible refine gate_callee (f := 9) rfl ?_); refine goesL_ (some 6) rfl rfl Try.func9 (by kernel_rfl) rfl #[.int .u8 63] rfl (by (try simp only [List.map_toArray, List.map_cons, List.map_nil]); first | done | rfl | (simp only [List.length_drop, List.length_take]; rfl)) ?_; (with_reducible refine (oper_Of.calls 63 t110 t111 t112 t113 t114 true _ A1.out).mono ?_); rintro e w14 ⟨rfl, hb⟩; refine ⟨_, rfl, ?_⟩; have n0_ := Aside0.mk (below_step (by repeat (first | (with_reducible first | exact HB.out | apply below_alloc | apply pw_below_drewN | apply below_drew1) | exact HB.out)) hb); clear HB; have HB := n0_; clear n0_; (try clear hb); (try clear hb2); (try clear hk); (try clear hi)) | ((with_reducible refine gate_dst (N := 1) rfl ?_); (try (refine gate_guard (by rfl) ?_; dsimp only)); refine box_event ?hg (N := 1) ?hd (cs := #[.string (⟨#[]⟩ : ByteArray), .string (⟨#[]⟩ : ByteArray), .bool false, .string (⟨#[]⟩ : ByteArray), .bool false]) (t := 24) ?hr ?_; (case hd => rfl); (case hg => rfl); (case hr => first | (go_simp; done) | (go_simp; rfl)); intro gb116 hg w15 hbox hb; have n0_ := Aside0.mk (below_step (by repeat (first | (with_reducible first | exact HB.out | apply below_alloc | apply pw_below_drewN | apply below_drew1) | exact HB.out)) hb); have n1_ := Aside0.mk (hbox); have n2_ := Aside0.mk ((by rw [hg]; exact (below_size (by repeat (first | (with_reducible first | exact HB.out | apply below_alloc | apply pw_below_drewN | apply below_drew1) | exact HB.out))) : w.heap.size ≤ gb116)); have n3_ := Aside0.mk ((by rw [hg]; exact (below_size (by repeat (first | (with_reducible first | exact HB.out | apply below_alloc | apply pw_below_drewN | apply below_drew1) | exact HB.out))) : w.heap.size ≤ gb116)); clear HB; have HB := n0_; have BK116 := n1_; have GW116 := n2_; have GE116 := n3_; clear n0_ n1_ n2_ n3_; clear hb hbox hg; have hcz16_0 : w15.cell? ⟨gb116, 0, none⟩ = some (.string (⟨#[]⟩ : ByteArray)) := (blk_cell BK116.out 0).trans rfl; have hcz16_1 : w15.cell? ⟨gb116, 1, none⟩ = some (.string (⟨#[]⟩ : ByteArray)) := (blk_cell BK116.out 1).trans rfl; have hcz16_2 : w15.cell? ⟨gb116, 2, none⟩ = some (.bool false) := (blk_cell BK116.out 2).trans rfl; have hcz16_3 : w15.cell? ⟨gb116, 3, none⟩ = some (.string (⟨#[]⟩ : ByteArray)) := (blk_cell BK116.out 3).trans rfl; have hcz16_4 : w15.cell? ⟨gb116, 4, none⟩ = some (.bool false) := (blk_cell BK116.out 4).trans rfl; have hfz16_0 := blk_frozen BK116.out 0; have hfz16_1 := blk_frozen BK116.out 1; have hfz16_2 := blk_frozen BK116.out 2; have hfz16_3 := blk_frozen BK116.out 3; have hfz16_4 := blk_frozen BK116.out 4) | ((with_reducible refine gate_callee (f := 9) rfl ?_); refine goesL_ (some 10) rfl rfl Try.func9 (by kernel_rfl) rfl #[.int .u8 33] rfl (by (try simp only [List.map_toArray, List.map_cons, List.map_nil]); first | done | rfl | (simp only [List.length_drop, List.length_take]; rfl)) ?_; (with_reducible refine (oper_Of.calls 33 t117 t118 t119 t120 t121 false _ A2.out).mono ?_); rintro e w17 ⟨rfl, hb⟩; refine ⟨_, rfl, ?_⟩; have n0_ := Aside0.mk (blk_below (g := gb116) (o := .cells #[.string t110, .string t111, .bool t112, .string t113, .bool t114] 24 (0, 0)) (by (with_reducible repeat (first | refine blk_drewN ?_ _ | refine blk_drew ?_ | refine blk_alloc ?_ _)); refine blk_put (cs := #[.string t110, .string t111, .bool t112, .string t113, .bool false]) ?_ 4 _ rfl; (with_reducible repeat (first | refine blk_drewN ?_ _ | refine blk_drew ?_ | refine blk_alloc ?_ _)); refine blk_put (cs := #[.string t110, .string t111, .bool t112, .string (⟨#[]⟩ : ByteArray), .bool false]) ?_ 3 _ rfl; (with_reducible repeat (first | refine blk_drewN ?_ _ | refine blk_drew ?_ | refine blk_alloc ?_ _)); refine blk_put (cs := #[.string t110, .string t111, .bool false, .string (⟨#[]⟩ : ByteArray), .bool false]) ?_ 2 _ rfl; (with_reducible repeat (first | refine blk_drewN ?_ _ | refine blk_drew ?_ | refine blk_alloc ?_ _)); refine blk_put (cs := #[.string t110, .string (⟨#[]⟩ : ByteArray), .bool false, .string (⟨#[]⟩ : ByteArray), .bool false]) ?_ 1 _ rfl; (with_reducible repeat (first | refine blk_drewN ?_ _ | refine blk_drew ?_ | refine blk_alloc ?_ _)); refine blk_put (cs := #[.string (⟨#[]⟩ : ByteArray), .string (⟨#[]⟩ : ByteArray), .bool false, .string (⟨#[]⟩ : ByteArray), .bool false]) ?_ 0 _ rfl; (with_reducible repeat (first | refine blk_drewN ?_ _ | refine blk_drew ?_ | refine blk_alloc ?_ _)); exact BK116.out) hb); have n1_ := Aside0.mk (below_step (by repeat (first | (with_reducible first | exact HB.out | apply below_alloc | apply pw_below_drewN | apply below_drew1 | refine below_set ?_ GE116.out) | exact HB.out)) hb); clear BK116; clear HB; have BK116 := n0_; have HB := n1_; clear n0_ n1_; (try clear hb); (try clear hb2); (try clear hk); (try clear hi)) | ((with_reducible refine gate_dst (N := 3) rfl ?_); (try (refine gate_guard (by rfl) ?_; dsimp only)); refine box_event ?hg (N := 3) ?hd (cs := #[.string (⟨#[]⟩ : ByteArray), .string (⟨#[]⟩ : ByteArray), .bool false, .string (⟨#[]⟩ : ByteArray), .bool false]) (t := 24) ?hr ?_; (case hd => rfl); (case hg => rfl); (case hr => first | (go_simp; done) | (go_simp; rfl)); intro gb123 hg w18 hbox hb; have n0_ := Aside0.mk (blk_below (g := gb116) (o := .cells #[.string t110, .string t111, .bool t112, .string t113, .bool t114] 24 (0, 0)) (by (with_reducible repeat (first | refine blk_drewN ?_ _ | refine blk_drew ?_ | refine blk_alloc ?_ _)); exact BK116.out) hb); have n1_ := Aside0.mk (below_step (by repeat (first | (with_reducible first | exact HB.out | apply below_alloc | apply pw_below_drewN | apply below_drew1 | refine below_set ?_ GE116.out) | exact HB.out)) hb); have n2_ := Aside0.mk (hbox); have n3_ := Aside0.mk ((by rw [hg]; exact (below_size (by repeat (first | (with_reducible first | exact HB.out | apply below_alloc | apply pw_below_drewN | apply below_drew1 | refine below_set ?_ GE116.out) | exact HB.out))) : w.heap.size ≤ gb123)); have n4_ := Aside0.mk ((by rw [hg]; exact (below_size (by repeat (first | (with_reducible first | exact HB.out | apply below_alloc | apply pw_below_drewN | apply below_drew1 | refine below_set ?_ GE116.out) | exact HB.out))) : w.heap.size ≤ gb123)); have n5_ := Aside0.mk ((by rw [hg]; exact Nat.ne_of_lt (blk_lt (g := gb116) (o := .cells #[.string t110, .string t111, .bool t112, .string t113, .bool t114] 24 (0, 0)) (by (with_reducible repeat (first | refine blk_drewN ?_ _ | refine blk_drew ?_ | refine blk_alloc ?_ _)); exact BK116.out)) : gb116 ≠ gb123)); have n6_ := Aside0.mk ((by rw [hg]; exact Nat.ne_of_gt (blk_lt (g := gb116) (o := .cells #[.string t110, .string t111, .bool t112, .string t113, .bool t114] 24 (0, 0)) (by (with_reducible repeat (first | refine blk_drewN ?_ _ | refine blk_drew ?_ | refine blk_alloc ?_ _)); exact BK116.out)) : gb123 ≠ gb116)); clear BK116; clear HB; have BK116 := n0_; have HB := n1_; have BK123 := n2_; have GW123 := n3_; have GE123 := n4_; have NB116_123 := n5_; have NB123_116 := n6_; clear n0_ n1_ n2_ n3_ n4_ n5_ n6_; clear hb hbox hg; have hnb19 := NB123_116.out; have hnc19 := NB116_123.out; have hcz20_0 : w18.cell? ⟨gb123, 0, none⟩ = some (.string (⟨#[]⟩ : ByteArray)) := (blk_cell BK123.out 0).trans rfl; have hcz20_1 : w18.cell? ⟨gb123, 1, none⟩ = some (.string (⟨#[]⟩ : ByteArray)) := (blk_cell BK123.out 1).trans rfl; have hcz20_2 : w18.cell? ⟨gb123, 2, none⟩ = some (.bool false) := (blk_cell BK123.out 2).trans rfl; have hcz20_3 : w18.cell? ⟨gb123, 3, none⟩ = some (.string (⟨#[]⟩ : ByteArray)) := (blk_cell BK123.out 3).trans rfl; have hcz20_4 : w18.cell? ⟨gb123, 4, none⟩ = some (.bool false) := (blk_cell BK123.out 4).trans rfl; have hfz20_0 := blk_frozen BK123.out 0; have hfz20_1 := blk_frozen BK123.out 1; have hfz20_2 := blk_frozen BK123.out 2; have hfz20_3 := blk_frozen BK123.out 3; have hfz20_4 := blk_frozen BK123.out 4; have hcz21_0 : w18.cell? ⟨gb116, 0, none⟩ = some (.string t110) := (blk_cell BK116.out 0).trans rfl; have hcz21_1 : w18.cell? ⟨gb116, 1, none⟩ = some (.string t111) := (blk_cell BK116.out 1).trans rfl; have hcz21_2 : w18.cell? ⟨gb116, 2, none⟩ = some (.bool t112) := (blk_cell BK116.out 2).trans rfl; have hcz21_3 : w18.cell? ⟨gb116, 3, none⟩ = some (.string t113) := (blk_cell BK116.out 3).trans rfl; have hcz21_4 : w18.cell? ⟨gb116, 4, none⟩ = some (.bool t114) := (blk_cell BK116.out 4).trans rfl; have hfz21_0 := blk_frozen BK116.out 0; have hfz21_1 := blk_frozen BK116.out 1; have hfz21_2 := blk_frozen BK116.out 2; have hfz21_3 := blk_frozen BK116.out 3; have hfz21_4 := blk_frozen BK116.out 4) | (go_at_call 11; (with_reducible refine (oper_All.calls  t124 _ A13.out).mono ?_); rintro e w22 ⟨v125, rfl, ho0, hb⟩; have n0_ := Aside0.mk (Kd.R_lower ho0 (below_size (by repeat (first | (with_reducible first | exact HB.out | apply below_alloc | apply pw_below_drewN | apply below_drew1 | refine below_set ?_ GE116.out | refine below_set ?_ GE123.out) | exact HB.out)))); have n1_ := Aside0.mk (blk_below (g := gb116) (o := .cells #[.string t110, .string t111, .bool t112, .string t113, .bool t114] 24 (0, 0)) (by (with_reducible repeat (first | refine blk_drewN ?_ _ | refine blk_drew ?_ | refine blk_alloc ?_ _)); refine blk_far ?_ NB116_123.out _; (with_reducible repeat (first | refine blk_drewN ?_ _ | refine blk_drew ?_ | refine blk_alloc ?_ _)); refine blk_far ?_ NB116_123.out _; (with_reducible repeat (first | refine blk_drewN ?_ _ | refine blk_drew ?_ | refine blk_alloc ?_ _)); refine blk_far ?_ NB116_123.out _; (with_reducible repeat (first | refine blk_drewN ?_ _ | refine blk_drew ?_ | refine blk_alloc ?_ _)); refine blk_far ?_ NB116_123.out _; (with_reducible repeat (first | refine blk_drewN ?_ _ | refine blk_drew ?_ | refine blk_alloc ?_ _)); refine blk_far ?_ NB116_123.out _; (with_reducible repeat (first | refine blk_drewN ?_ _ | refine blk_drew ?_ | refine blk_alloc ?_ _)); exact BK116.out) hb); have n2_ := Aside0.mk (blk_below (g := gb123) (o := .cells #[.string t117, .string t118, .bool t119, .string t120, .bool t121] 24 (0, 0)) (by (with_reducible repeat (first | refine blk_drewN ?_ _ | refine blk_drew ?_ | refine blk_alloc ?_ _)); refine blk_put (cs := #[.string t117, .string t118, .bool t119, .string t120, .bool false]) ?_ 4 _ rfl; (with_reducible repeat (first | refine blk_drewN ?_ _ | refine blk_drew ?_ | refine blk_alloc ?_ _)); refine blk_put (cs := #[.string t117, .string t118, .bool t119, .string (⟨#[]⟩ : ByteArray), .bool false]) ?_ 3 _ rfl; (with_reducible repeat (first | refine blk_drewN ?_ _ | refine blk_drew ?_ | refine blk_alloc ?_ _)); refine blk_put (cs := #[.string t117, .string t118, .bool false, .string (⟨#[]⟩ : ByteArray), .bool false]) ?_ 2 _ rfl; (with_reducible repeat (first | refine blk_drewN ?_ _ | refine blk_drew ?_ | refine blk_alloc ?_ _)); refine blk_put (cs := #[.string t117, .string (⟨#[]⟩ : ByteArray), .bool false, .string (⟨#[]⟩ : ByteArray), .bool false]) ?_ 1 _ rfl; (with_reducible repeat (first | refine blk_drewN ?_ _ | refine blk_drew ?_ | refine blk_alloc ?_ _)); refine blk_put (cs := #[.string (⟨#[]⟩ : ByteArray), .string (⟨#[]⟩ : ByteArray), .bool false, .string (⟨#[]⟩ : ByteArray), .bool false]) ?_ 0 _ rfl; (with_reducible repeat (first | refine blk_drewN ?_ _ | refine blk_drew ?_ | refine blk_alloc ?_ _)); exact BK123.out) hb); have n3_ := Aside0.mk (below_step (by repeat (first | (with_reducible first | exact HB.out | apply below_alloc | apply pw_below_drewN | apply below_drew1 | refine below_set ?_ GE116.out | refine below_set ?_ GE123.out) | exact HB.out)) hb); clear BK116; clear BK123; clear HB; have HO126 := n0_; have BK116 := n1_; have BK123 := n2_; have HB := n3_; clear n0_ n1_ n2_ n3_; (try clear hb); (try clear hb2); (try clear hk); (try clear hi); (try clear ho0); obtain ⟨Ao23, co23, eo23⟩ := Kd.R_slice HO126.out; subst eo23))
        go_ret
        exact ⟨by first | rfl | (simp [errW_none, errW_some] <;> rfl) | (simp [*, errW_none, errW_some] <;> rfl), by repeat (first | (with_reducible first | exact HB.out | apply below_alloc | apply pw_below_drewN | apply below_drew1 | refine below_set ?_ GE116.out | refine below_set ?_ GE123.out) | exact HB.out)⟩
      · rw [if_neg c12] at H
        have c12b0 : (t110.toList == ([63] : List UInt8) && (t111.toList == ([38] : List UInt8) && (t112 && (t113.toList == ([61] : List UInt8) && (!t114))))) = false := by simpa using c12
        (try (have c12b1 : decide (t110.toList = ([63] : List UInt8) && (t111.toList == ([38] : List UInt8) && (t112 && (t113.toList == ([61] : List UInt8) && (!t114))))) = false := by simpa using c12))
        (try (have c12b2 : (t110.toList == ([63] : List UInt8) && (t111.toList == ([38] : List UInt8) && (t112 && (t113.toList == ([61] : List UInt8) && (!t114))))) = false := by simpa using c12))
        (try (have c12b3 : ¬ (t110.toList = ([63] : List UInt8) && (t111.toList == ([38] : List UInt8) && (t112 && (t113.toList == ([61] : List UInt8) && (!t114))))) := by simpa using c12))
        clear c12
        obtain rfl := Option.some.inj H
        go_enter Try.func8, Try.ntmps8
        go_wp2_with (first | ((with_reducible refine gate_callee (f := 9) rfl ?_); refine goesL_ (some 6) rfl rfl Try.func9 (by kernel_rfl) rfl #[.int .u8 63] rfl (by (try simp only [List.map_toArray, List.map_cons, List.map_nil]); first | done | rfl | (simp only [List.length_drop, List.length_take]; rfl)) ?_; (with_reducible refine (oper_Of.calls 63 t110 t111 t112 t113 t114 true _ A1.out).mono ?_); rintro e w24 ⟨rfl, hb⟩; refine ⟨_, rfl, ?_⟩; have n0_ := Aside0.mk (below_step (by repeat (first | (with_reducible first | exact HB.out | apply below_alloc | apply pw_below_drewN | apply below_drew1) | exact HB.out)) hb); clear HB; have HB := n0_; clear n0_; (try clear hb); (try clear hb2); (try clear hk); (try clear hi)) | ((with_reducible refine gate_dst (N := 1) rfl ?_); (try (refine gate_guard (by rfl) ?_; dsimp only)); refine box_event ?hg (N := 1) ?hd (cs := #[.string (⟨#[]⟩ : ByteArray), .string (⟨#[]⟩ : ByteArray), .bool false, .string (⟨#[]⟩ : ByteArray), .bool false]) (t := 24) ?hr ?_; (case hd => rfl); (case hg => rfl); (case hr => first | (go_simp; done) | (go_simp; rfl)); intro gb116 hg w25 hbox hb; have n0_ := Aside0.mk (below_step (by repeat (first | (with_reducible first | exact HB.out | apply below_alloc | apply pw_below_drewN | apply below_drew1) | exact HB.out)) hb); have n1_ := Aside0.mk (hbox); have n2_ := Aside0.mk ((by rw [hg]; exact (below_size (by repeat (first | (with_reducible first | exact HB.out | apply below_alloc | apply pw_below_drewN | apply below_drew1) | exact HB.out))) : w.heap.size ≤ gb116)); have n3_ := Aside0.mk ((by rw [hg]; exact (below_size (by repeat (first | (with_reducible first | exact HB.out | apply below_alloc | apply pw_below_drewN | apply below_drew1) | exact HB.out))) : w.heap.size ≤ gb116)); clear HB; have HB := n0_; have BK116 := n1_; have GW116 := n2_; have GE116 := n3_; clear n0_ n1_ n2_ n3_; clear hb hbox hg; have hcz26_0 : w25.cell? ⟨gb116, 0, none⟩ = some (.string (⟨#[]⟩ : ByteArray)) := (blk_cell BK116.out 0).trans rfl; have hcz26_1 : w25.cell? ⟨gb116, 1, none⟩ = some (.string (⟨#[]⟩ : ByteArray)) := (blk_cell BK116.out 1).trans rfl; have hcz26_2 : w25.cell? ⟨gb116, 2, none⟩ = some (.bool false) := (blk_cell BK116.out 2).trans rfl; have hcz26_3 : w25.cell? ⟨gb116, 3, none⟩ = some (.string (⟨#[]⟩ : ByteArray)) := (blk_cell BK116.out 3).trans rfl; have hcz26_4 : w25.cell? ⟨gb116, 4, none⟩ = some (.bool false) := (blk_cell BK116.out 4).trans rfl; have hfz26_0 := blk_frozen BK116.out 0; have hfz26_1 := blk_frozen BK116.out 1; have hfz26_2 := blk_frozen BK116.out 2; have hfz26_3 := blk_frozen BK116.out 3; have hfz26_4 := blk_frozen BK116.out 4) | ((with_reducible refine gate_callee (f := 9) rfl ?_); refine goesL_ (some 10) rfl rfl Try.func9 (by kernel_rfl) rfl #[.int .u8 33] rfl (by (try simp only [List.map_toArray, List.map_cons, List.map_nil]); first | done | rfl | (simp only [List.length_drop, List.length_take]; rfl)) ?_; (with_reducible refine (oper_Of.calls 33 t117 t118 t119 t120 t121 false _ A2.out).mono ?_); rintro e w27 ⟨rfl, hb⟩; refine ⟨_, rfl, ?_⟩; have n0_ := Aside0.mk (blk_below (g := gb116) (o := .cells #[.string t110, .string t111, .bool t112, .string t113, .bool t114] 24 (0, 0)) (by (with_reducible repeat (first | refine blk_drewN ?_ _ | refine blk_drew ?_ | refine blk_alloc ?_ _)); refine blk_put (cs := #[.string t110, .string t111, .bool t112, .string t113, .bool false]) ?_ 4 _ rfl; (with_reducible repeat (first | refine blk_drewN ?_ _ | refine blk_drew ?_ | refine blk_alloc ?_ _)); refine blk_put (cs := #[.string t110, .string t111, .bool t112, .string (⟨#[]⟩ : ByteArray), .bool false]) ?_ 3 _ rfl; (with_reducible repeat (first | refine blk_drewN ?_ _ | refine blk_drew ?_ | refine blk_alloc ?_ _)); refine blk_put (cs := #[.string t110, .string t111, .bool false, .string (⟨#[]⟩ : ByteArray), .bool false]) ?_ 2 _ rfl; (with_reducible repeat (first | refine blk_drewN ?_ _ | refine blk_drew ?_ | refine blk_alloc ?_ _)); refine blk_put (cs := #[.string t110, .string (⟨#[]⟩ : ByteArray), .bool false, .string (⟨#[]⟩ : ByteArray), .bool false]) ?_ 1 _ rfl; (with_reducible repeat (first | refine blk_drewN ?_ _ | refine blk_drew ?_ | refine blk_alloc ?_ _)); refine blk_put (cs := #[.string (⟨#[]⟩ : ByteArray), .string (⟨#[]⟩ : ByteArray), .bool false, .string (⟨#[]⟩ : ByteArray), .bool false]) ?_ 0 _ rfl; (with_reducible repeat (first | refine blk_drewN ?_ _ | refine blk_drew ?_ | refine blk_alloc ?_ _)); exact BK116.out) hb); have n1_ := Aside0.mk (below_step (by repeat (first | (with_reducible first | exact HB.out | apply below_alloc | apply pw_below_drewN | apply below_drew1 | refine below_set ?_ GE116.out) | exact HB.out)) hb); clear BK116; clear HB; have BK116 := n0_; have HB := n1_; clear n0_ n1_; (try clear hb); (try clear hb2); (try clear hk); (try clear hi)) | ((with_reducible refine gate_dst (N := 3) rfl ?_); (try (refine gate_guard (by rfl) ?_; dsimp only)); refine box_event ?hg (N := 3) ?hd (cs := #[.string (⟨#[]⟩ : ByteArray), .string (⟨#[]⟩ : ByteArray), .bool false, .string (⟨#[]⟩ : ByteArray), .bool false]) (t := 24) ?hr ?_; (case hd => rfl); (case hg => rfl); (case hr => first | (go_simp; done) | (go_simp; rfl)); intro gb123 hg w28 hbox hb; have n0_ := Aside0.mk (blk_below (g := gb116) (o := .cells #[.string t110, .string t111, .bool t112, .string t113, .bool t114] 24 (0, 0)) (by (with_reducible repeat (first | refine blk_drewN ?_ _ | refine blk_drew ?_ | refine blk_alloc ?_ _)); exact BK116.out) hb); have n1_ := Aside0.mk (below_step (by repeat (first | (with_reducible first | exact HB.out | apply below_alloc | apply pw_below_drewN | apply below_drew1 | refine below_set ?_ GE116.out) | exact HB.out)) hb); have n2_ := Aside0.mk (hbox); have n3_ := Aside0.mk ((by rw [hg]; exact (below_size (by repeat (first | (with_reducible first | exact HB.out | apply below_alloc | apply pw_below_drewN | apply below_drew1 | refine below_set ?_ GE116.out) | exact HB.out))) : w.heap.size ≤ gb123)); have n4_ := Aside0.mk ((by rw [hg]; exact (below_size (by repeat (first | (with_reducible first | exact HB.out | apply below_alloc | apply pw_below_drewN | apply below_drew1 | refine below_set ?_ GE116.out) | exact HB.out))) : w.heap.size ≤ gb123)); have n5_ := Aside0.mk ((by rw [hg]; exact Nat.ne_of_lt (blk_lt (g := gb116) (o := .cells #[.string t110, .string t111, .bool t112, .string t113, .bool t114] 24 (0, 0)) (by (with_reducible repeat (first | refine blk_drewN ?_ _ | refine blk_drew ?_ | refine blk_alloc ?_ _)); exact BK116.out)) : gb116 ≠ gb123)); have n6_ := Aside0.mk ((by rw [hg]; exact Nat.ne_of_gt (blk_lt (g := gb116) (o := .cells #[.string t110, .string t111, .bool t112, .string t113, .bool t114] 24 (0, 0)) (by (with_reducible repeat (first | refine blk_drewN ?_ _ | refine blk_drew ?_ | refine blk_alloc ?_ _)); exact BK116.out)) : gb123 ≠ gb116)); clear BK116; clear HB; have BK116 := n0_; have HB := n1_; have BK123 := n2_; have GW123 := n3_; have GE123 := n4_; have NB116_123 := n5_; have NB123_116 := n6_; clear n0_ n1_ n2_ n3_ n4_ n5_ n6_; clear hb hbox hg; have hnb29 := NB123_116.out; have hnc29 := NB116_123.out; have hcz30_0 : w28.cell? ⟨gb123, 0, none⟩ = some (.string (⟨#[]⟩ : ByteArray)) := (blk_cell BK123.out 0).trans rfl; have hcz30_1 : w28.cell? ⟨gb123, 1, none⟩ = some (.string (⟨#[]⟩ : ByteArray)) := (blk_cell BK123.out 1).trans rfl; have hcz30_2 : w28.cell? ⟨gb123, 2, none⟩ = some (.bool false) := (blk_cell BK123.out 2).trans rfl; have hcz30_3 : w28.cell? ⟨gb123, 3, none⟩ = some (.string (⟨#[]⟩ : ByteArray)) := (blk_cell BK123.out 3).trans rfl; have hcz30_4 : w28.cell? ⟨gb123, 4, none⟩ = some (.bool false) := (blk_cell BK123.out 4).trans rfl; have hfz30_0 := blk_frozen BK123.out 0; have hfz30_1 := blk_frozen BK123.out 1; have hfz30_2 := blk_frozen BK123.out 2; have hfz30_3 := blk_frozen BK123.out 3; have hfz30_4 := blk_frozen BK123.out 4; have hcz31_0 : w28.cell? ⟨gb116, 0, none⟩ = some (.string t110) := (blk_cell BK116.out 0).trans rfl; have hcz31_1 : w28.cell? ⟨gb116, 1, none⟩ = some (.string t111) := (blk_cell BK116.out 1).trans rfl; have hcz31_2 : w28.cell? ⟨gb116, 2, none⟩ = some (.bool t112) := (blk_cell BK116.out 2).trans rfl; have hcz31_3 : w28.cell? ⟨gb116, 3, none⟩ = some (.string t113) := (blk_cell BK116.out 3).trans rfl; have hcz31_4 : w28.cell? ⟨gb116, 4, none⟩ = some (.bool t114) := (blk_cell BK116.out 4).trans rfl; have hfz31_0 := blk_frozen BK116.out 0; have hfz31_1 := blk_frozen BK116.out 1; have hfz31_2 := blk_frozen BK116.out 2; have hfz31_3 := blk_frozen BK116.out 3; have hfz31_4 := blk_frozen BK116.out 4))
        go_ret
        exact ⟨by first | rfl | (simp [errW_none, errW_some] <;> rfl) | (simp [*, errW_none, errW_some] <;> rfl), by repeat (first | (with_reducible first | exact HB.out | apply below_alloc | apply pw_below_drewN | apply below_drew1 | refine below_set ?_ GE116.out | refine below_set ?_ GE123.out) | exact HB.out)⟩
  · replace c3 := Bool.eq_false_iff.mpr c3
    subst c3
    have H1 : (some false) = some r := by rw [if_neg (show ¬ (false = true) by decide)] at H; exact H
    clear H
    have H := H1
    clear H1
    obtain rfl := Option.some.inj H
    go_enter Try.func8, Try.ntmps8
    go_wp2_with (first | ((with_reducible refine gate_callee (f := 9) rfl ?_); refine goesL_ (some 6) rfl rfl Try.func9 (by kernel_rfl) rfl #[.int .u8 63] rfl (by (try simp only [List.map_toArray, List.map_cons, List.map_nil]); first | done | rfl | (simp only [List.length_drop, List.length_take]; rfl)) ?_; (with_reducible refine (oper_Of.calls 63 t110 t111 t112 t113 t114 false _ A1.out).mono ?_); rintro e w32 ⟨rfl, hb⟩; refine ⟨_, rfl, ?_⟩; have n0_ := Aside0.mk (below_step (by repeat (first | (with_reducible first | exact HB.out | apply below_alloc | apply pw_below_drewN | apply below_drew1) | exact HB.out)) hb); clear HB; have HB := n0_; clear n0_; (try clear hb); (try clear hb2); (try clear hk); (try clear hi)) | ((with_reducible refine gate_dst (N := 1) rfl ?_); (try (refine gate_guard (by rfl) ?_; dsimp only)); refine box_event ?hg (N := 1) ?hd (cs := #[.string (⟨#[]⟩ : ByteArray), .string (⟨#[]⟩ : ByteArray), .bool false, .string (⟨#[]⟩ : ByteArray), .bool false]) (t := 24) ?hr ?_; (case hd => rfl); (case hg => rfl); (case hr => first | (go_simp; done) | (go_simp; rfl)); intro gb116 hg w33 hbox hb; have n0_ := Aside0.mk (below_step (by repeat (first | (with_reducible first | exact HB.out | apply below_alloc | apply pw_below_drewN | apply below_drew1) | exact HB.out)) hb); have n1_ := Aside0.mk (hbox); have n2_ := Aside0.mk ((by rw [hg]; exact (below_size (by repeat (first | (with_reducible first | exact HB.out | apply below_alloc | apply pw_below_drewN | apply below_drew1) | exact HB.out))) : w.heap.size ≤ gb116)); have n3_ := Aside0.mk ((by rw [hg]; exact (below_size (by repeat (first | (with_reducible first | exact HB.out | apply below_alloc | apply pw_below_drewN | apply below_drew1) | exact HB.out))) : w.heap.size ≤ gb116)); clear HB; have HB := n0_; have BK116 := n1_; have GW116 := n2_; have GE116 := n3_; clear n0_ n1_ n2_ n3_; clear hb hbox hg; have hcz34_0 : w33.cell? ⟨gb116, 0, none⟩ = some (.string (⟨#[]⟩ : ByteArray)) := (blk_cell BK116.out 0).trans rfl; have hcz34_1 : w33.cell? ⟨gb116, 1, none⟩ = some (.string (⟨#[]⟩ : ByteArray)) := (blk_cell BK116.out 1).trans rfl; have hcz34_2 : w33.cell? ⟨gb116, 2, none⟩ = some (.bool false) := (blk_cell BK116.out 2).trans rfl; have hcz34_3 : w33.cell? ⟨gb116, 3, none⟩ = some (.string (⟨#[]⟩ : ByteArray)) := (blk_cell BK116.out 3).trans rfl; have hcz34_4 : w33.cell? ⟨gb116, 4, none⟩ = some (.bool false) := (blk_cell BK116.out 4).trans rfl; have hfz34_0 := blk_frozen BK116.out 0; have hfz34_1 := blk_frozen BK116.out 1; have hfz34_2 := blk_frozen BK116.out 2; have hfz34_3 := blk_frozen BK116.out 3; have hfz34_4 := blk_frozen BK116.out 4) | ((with_reducible refine gate_callee (f := 9) rfl ?_); refine goesL_ (some 10) rfl rfl Try.func9 (by kernel_rfl) rfl #[.int .u8 33] rfl (by (try simp only [List.map_toArray, List.map_cons, List.map_nil]); first | done | rfl | (simp only [List.length_drop, List.length_take]; rfl)) ?_; (with_reducible refine (oper_Of.calls 33 t117 t118 t119 t120 t121 t122 _ A2.out).mono ?_); rintro e w35 ⟨rfl, hb⟩; refine ⟨_, rfl, ?_⟩; have n0_ := Aside0.mk (blk_below (g := gb116) (o := .cells #[.string t110, .string t111, .bool t112, .string t113, .bool t114] 24 (0, 0)) (by (with_reducible repeat (first | refine blk_drewN ?_ _ | refine blk_drew ?_ | refine blk_alloc ?_ _)); refine blk_put (cs := #[.string t110, .string t111, .bool t112, .string t113, .bool false]) ?_ 4 _ rfl; (with_reducible repeat (first | refine blk_drewN ?_ _ | refine blk_drew ?_ | refine blk_alloc ?_ _)); refine blk_put (cs := #[.string t110, .string t111, .bool t112, .string (⟨#[]⟩ : ByteArray), .bool false]) ?_ 3 _ rfl; (with_reducible repeat (first | refine blk_drewN ?_ _ | refine blk_drew ?_ | refine blk_alloc ?_ _)); refine blk_put (cs := #[.string t110, .string t111, .bool false, .string (⟨#[]⟩ : ByteArray), .bool false]) ?_ 2 _ rfl; (with_reducible repeat (first | refine blk_drewN ?_ _ | refine blk_drew ?_ | refine blk_alloc ?_ _)); refine blk_put (cs := #[.string t110, .string (⟨#[]⟩ : ByteArray), .bool false, .string (⟨#[]⟩ : ByteArray), .bool false]) ?_ 1 _ rfl; (with_reducible repeat (first | refine blk_drewN ?_ _ | refine blk_drew ?_ | refine blk_alloc ?_ _)); refine blk_put (cs := #[.string (⟨#[]⟩ : ByteArray), .string (⟨#[]⟩ : ByteArray), .bool false, .string (⟨#[]⟩ : ByteArray), .bool false]) ?_ 0 _ rfl; (with_reducible repeat (first | refine blk_drewN ?_ _ | refine blk_drew ?_ | refine blk_alloc ?_ _)); exact BK116.out) hb); have n1_ := Aside0.mk (below_step (by repeat (first | (with_reducible first | exact HB.out | apply below_alloc | apply pw_below_drewN | apply below_drew1 | refine below_set ?_ GE116.out) | exact HB.out)) hb); clear BK116; clear HB; have BK116 := n0_; have HB := n1_; clear n0_ n1_; (try clear hb); (try clear hb2); (try clear hk); (try clear hi)) | ((with_reducible refine gate_dst (N := 3) rfl ?_); (try (refine gate_guard (by rfl) ?_; dsimp only)); refine box_event ?hg (N := 3) ?hd (cs := #[.string (⟨#[]⟩ : ByteArray), .string (⟨#[]⟩ : ByteArray), .bool false, .string (⟨#[]⟩ : ByteArray), .bool false]) (t := 24) ?hr ?_; (case hd => rfl); (case hg => rfl); (case hr => first | (go_simp; done) | (go_simp; rfl)); intro gb123 hg w36 hbox hb; have n0_ := Aside0.mk (blk_below (g := gb116) (o := .cells #[.string t110, .string t111, .bool t112, .string t113, .bool t114] 24 (0, 0)) (by (with_reducible repeat (first | refine blk_drewN ?_ _ | refine blk_drew ?_ | refine blk_alloc ?_ _)); exact BK116.out) hb); have n1_ := Aside0.mk (below_step (by repeat (first | (with_reducible first | exact HB.out | apply below_alloc | apply pw_below_drewN | apply below_drew1 | refine below_set ?_ GE116.out) | exact HB.out)) hb); have n2_ := Aside0.mk (hbox); have n3_ := Aside0.mk ((by rw [hg]; exact (below_size (by repeat (first | (with_reducible first | exact HB.out | apply below_alloc | apply pw_below_drewN | apply below_drew1 | refine below_set ?_ GE116.out) | exact HB.out))) : w.heap.size ≤ gb123)); have n4_ := Aside0.mk ((by rw [hg]; exact (below_size (by repeat (first | (with_reducible first | exact HB.out | apply below_alloc | apply pw_below_drewN | apply below_drew1 | refine below_set ?_ GE116.out) | exact HB.out))) : w.heap.size ≤ gb123)); have n5_ := Aside0.mk ((by rw [hg]; exact Nat.ne_of_lt (blk_lt (g := gb116) (o := .cells #[.string t110, .string t111, .bool t112, .string t113, .bool t114] 24 (0, 0)) (by (with_reducible repeat (first | refine blk_drewN ?_ _ | refine blk_drew ?_ | refine blk_alloc ?_ _)); exact BK116.out)) : gb116 ≠ gb123)); have n6_ := Aside0.mk ((by rw [hg]; exact Nat.ne_of_gt (blk_lt (g := gb116) (o := .cells #[.string t110, .string t111, .bool t112, .string t113, .bool t114] 24 (0, 0)) (by (with_reducible repeat (first | refine blk_drewN ?_ _ | refine blk_drew ?_ | refine blk_alloc ?_ _)); exact BK116.out)) : gb123 ≠ gb116)); clear BK116; clear HB; have BK116 := n0_; have HB := n1_; have BK123 := n2_; have GW123 := n3_; have GE123 := n4_; have NB116_123 := n5_; have NB123_116 := n6_; clear n0_ n1_ n2_ n3_ n4_ n5_ n6_; clear hb hbox hg; have hnb37 := NB123_116.out; have hnc37 := NB116_123.out; have hcz38_0 : w36.cell? ⟨gb123, 0, none⟩ = some (.string (⟨#[]⟩ : ByteArray)) := (blk_cell BK123.out 0).trans rfl; have hcz38_1 : w36.cell? ⟨gb123, 1, none⟩ = some (.string (⟨#[]⟩ : ByteArray)) := (blk_cell BK123.out 1).trans rfl; have hcz38_2 : w36.cell? ⟨gb123, 2, none⟩ = some (.bool false) := (blk_cell BK123.out 2).trans rfl; have hcz38_3 : w36.cell? ⟨gb123, 3, none⟩ = some (.string (⟨#[]⟩ : ByteArray)) := (blk_cell BK123.out 3).trans rfl; have hcz38_4 : w36.cell? ⟨gb123, 4, none⟩ = some (.bool false) := (blk_cell BK123.out 4).trans rfl; have hfz38_0 := blk_frozen BK123.out 0; have hfz38_1 := blk_frozen BK123.out 1; have hfz38_2 := blk_frozen BK123.out 2; have hfz38_3 := blk_frozen BK123.out 3; have hfz38_4 := blk_frozen BK123.out 4))
    go_ret
    exact ⟨by first | rfl | (simp [errW_none, errW_some] <;> rfl) | (simp [*, errW_none, errW_some] <;> rfl), by repeat (first | (with_reducible first | exact HB.out | apply below_alloc | apply pw_below_drewN | apply below_drew1 | refine below_set ?_ GE116.out | refine below_set ?_ GE123.out) | exact HB.out)⟩

/-! ### phalaropelaw10_OperApart: function 5 (ours) -/
theorem aw_true : phalaropelaw10_awake.f = some true := by decide +kernel
theorem cells5' {w : World} {B : Nat} {a b c d e : Value} {t : TypeId} (h : w.heap[B]? = some (.cells #[a, b, c, d, e] t (0, 0))) :
    w.cell? ⟨B, 0, none⟩ = some a ∧ w.cell? ⟨B, 1, none⟩ = some b ∧ w.cell? ⟨B, 2, none⟩ = some c ∧ w.cell? ⟨B, 3, none⟩ = some d ∧ w.cell? ⟨B, 4, none⟩ = some e := X.cells5 h
set_option maxHeartbeats 4000000 in
set_option maxRecDepth 100000 in
theorem ap_same_ffe (a0 : Int) (x0 x1 x3 : ByteArray) (w : World) (hx : oper_Of.f a0 = some (x0, x1, false, x3, false, true)) (hy : oper_Of.f a0 = some (x0, x1, false, x3, false, true)) (h0 : decide ((x0.size : Int) ≤ 1) = true) (h1 : ((x1.size : Int) == 1) = true) (h4 : (x3.toList == ([] : List UInt8)) = true) :
    Calls Try.prog 5 #[.int .u8 a0, .int .u8 a0] w fun e w' => e = .returned (.bool true) ∧ Below w.heap.size w w' := by
  have HX := Aside0.mk hx
  have HY := Aside0.mk hy
  have hu24 := Try.underlying24
  clear hx hy
  go_enter Try.func5, Try.ntmps5
  go_wp2_with fail
  refine (phalaropelaw10_awake.calls true _ aw_true).mono ?_
  rintro e w1 ⟨rfl, hb⟩
  have HB1 := Aside0.mk hb
  clear hb
  go_wp2_with fail
  refine (oper_Of.calls _ _ _ _ _ _ _ _ HX.out).mono ?_
  rintro e w2 ⟨rfl, hb⟩
  have HB2 := Aside0.mk (below_step HB1.out hb)
  clear hb HB1
  go_wp2_with fail
  refine (oper_Of.calls _ _ _ _ _ _ _ _ HY.out).mono ?_
  rintro e w3 ⟨rfl, hb⟩
  have HB3 := Aside0.mk (below_alloc (below_step (below_alloc HB2.out (.cells #[.string x0, .string x1, .bool false, .string x3, .bool false] 24 (0, 0))) hb) (.cells #[.string x0, .string x1, .bool false, .string x3, .bool false] 24 (0, 0)))
  obtain ⟨c0, c1, c2, c3, c4⟩ := cells5' (blk_alloc (blk_below (blk_new w2 (.cells #[.string x0, .string x1, .bool false, .string x3, .bool false] 24 (0, 0))) hb) (.cells #[.string x0, .string x1, .bool false, .string x3, .bool false] 24 (0, 0)))
  obtain ⟨d0, d1, d2, d3, d4⟩ := cells5' (blk_new w3 (.cells #[.string x0, .string x1, .bool false, .string x3, .bool false] 24 (0, 0)))
  clear hb HB2
  go_wp2_with fail
  go_ret
  exact ⟨rfl, by repeat (first | exact HB3.out | refine Below.drew ?_ | exact HB3.out.drew)⟩
set_option maxHeartbeats 4000000 in
set_option maxRecDepth 100000 in
theorem ap_other_ffe (a0 a1 : Int) (x0 x1 x3 : ByteArray) (y0 y1 : ByteArray) (y2 : Bool) (y3 : ByteArray) (y4 : Bool) (w : World) (hx : oper_Of.f a0 = some (x0, x1, false, x3, false, true)) (hy : oper_Of.f a1 = some (y0, y1, y2, y3, y4, true)) (h0 : decide ((x0.size : Int) ≤ 1) = true) (h1 : ((x1.size : Int) == 1) = true) (h4 : (x3.toList == ([] : List UInt8)) = true) (hab : (a0 == a1) = false) (hf : (x0.toList == y0.toList) = false) :
    Calls Try.prog 5 #[.int .u8 a0, .int .u8 a1] w fun e w' => e = .returned (.bool true) ∧ Below w.heap.size w w' := by
  have HX := Aside0.mk hx
  have HY := Aside0.mk hy
  have hu24 := Try.underlying24
  clear hx hy
  go_enter Try.func5, Try.ntmps5
  go_wp2_with fail
  refine (phalaropelaw10_awake.calls true _ aw_true).mono ?_
  rintro e w1 ⟨rfl, hb⟩
  have HB1 := Aside0.mk hb
  clear hb
  go_wp2_with fail
  refine (oper_Of.calls _ _ _ _ _ _ _ _ HX.out).mono ?_
  rintro e w2 ⟨rfl, hb⟩
  have HB2 := Aside0.mk (below_step HB1.out hb)
  clear hb HB1
  go_wp2_with fail
  refine (oper_Of.calls _ _ _ _ _ _ _ _ HY.out).mono ?_
  rintro e w3 ⟨rfl, hb⟩
  have HB3 := Aside0.mk (below_alloc (below_step (below_alloc HB2.out (.cells #[.string x0, .string x1, .bool false, .string x3, .bool false] 24 (0, 0))) hb) (.cells #[.string y0, .string y1, .bool y2, .string y3, .bool y4] 24 (0, 0)))
  obtain ⟨c0, c1, c2, c3, c4⟩ := cells5' (blk_alloc (blk_below (blk_new w2 (.cells #[.string x0, .string x1, .bool false, .string x3, .bool false] 24 (0, 0))) hb) (.cells #[.string y0, .string y1, .bool y2, .string y3, .bool y4] 24 (0, 0)))
  obtain ⟨d0, d1, d2, d3, d4⟩ := cells5' (blk_new w3 (.cells #[.string y0, .string y1, .bool y2, .string y3, .bool y4] 24 (0, 0)))
  clear hb HB2
  go_wp2_with fail
  go_ret
  exact ⟨rfl, by repeat (first | exact HB3.out | refine Below.drew ?_ | exact HB3.out.drew)⟩
set_option maxHeartbeats 4000000 in
set_option maxRecDepth 100000 in
theorem ap_same_fte (a0 : Int) (x0 x1 x3 : ByteArray) (w : World) (hx : oper_Of.f a0 = some (x0, x1, false, x3, true, true)) (hy : oper_Of.f a0 = some (x0, x1, false, x3, true, true)) (h0 : decide ((x0.size : Int) ≤ 1) = true) (h1 : ((x1.size : Int) == 1) = true) (h4 : (x3.toList == ([] : List UInt8)) = true) :
    Calls Try.prog 5 #[.int .u8 a0, .int .u8 a0] w fun e w' => e = .returned (.bool true) ∧ Below w.heap.size w w' := by
  have HX := Aside0.mk hx
  have HY := Aside0.mk hy
  have hu24 := Try.underlying24
  clear hx hy
  go_enter Try.func5, Try.ntmps5
  go_wp2_with fail
  refine (phalaropelaw10_awake.calls true _ aw_true).mono ?_
  rintro e w1 ⟨rfl, hb⟩
  have HB1 := Aside0.mk hb
  clear hb
  go_wp2_with fail
  refine (oper_Of.calls _ _ _ _ _ _ _ _ HX.out).mono ?_
  rintro e w2 ⟨rfl, hb⟩
  have HB2 := Aside0.mk (below_step HB1.out hb)
  clear hb HB1
  go_wp2_with fail
  refine (oper_Of.calls _ _ _ _ _ _ _ _ HY.out).mono ?_
  rintro e w3 ⟨rfl, hb⟩
  have HB3 := Aside0.mk (below_alloc (below_step (below_alloc HB2.out (.cells #[.string x0, .string x1, .bool false, .string x3, .bool true] 24 (0, 0))) hb) (.cells #[.string x0, .string x1, .bool false, .string x3, .bool true] 24 (0, 0)))
  obtain ⟨c0, c1, c2, c3, c4⟩ := cells5' (blk_alloc (blk_below (blk_new w2 (.cells #[.string x0, .string x1, .bool false, .string x3, .bool true] 24 (0, 0))) hb) (.cells #[.string x0, .string x1, .bool false, .string x3, .bool true] 24 (0, 0)))
  obtain ⟨d0, d1, d2, d3, d4⟩ := cells5' (blk_new w3 (.cells #[.string x0, .string x1, .bool false, .string x3, .bool true] 24 (0, 0)))
  clear hb HB2
  go_wp2_with fail
  go_ret
  exact ⟨rfl, by repeat (first | exact HB3.out | refine Below.drew ?_ | exact HB3.out.drew)⟩
set_option maxHeartbeats 4000000 in
set_option maxRecDepth 100000 in
theorem ap_other_fte (a0 a1 : Int) (x0 x1 x3 : ByteArray) (y0 y1 : ByteArray) (y2 : Bool) (y3 : ByteArray) (y4 : Bool) (w : World) (hx : oper_Of.f a0 = some (x0, x1, false, x3, true, true)) (hy : oper_Of.f a1 = some (y0, y1, y2, y3, y4, true)) (h0 : decide ((x0.size : Int) ≤ 1) = true) (h1 : ((x1.size : Int) == 1) = true) (h4 : (x3.toList == ([] : List UInt8)) = true) (hab : (a0 == a1) = false) (hf : (x0.toList == y0.toList) = false) :
    Calls Try.prog 5 #[.int .u8 a0, .int .u8 a1] w fun e w' => e = .returned (.bool true) ∧ Below w.heap.size w w' := by
  have HX := Aside0.mk hx
  have HY := Aside0.mk hy
  have hu24 := Try.underlying24
  clear hx hy
  go_enter Try.func5, Try.ntmps5
  go_wp2_with fail
  refine (phalaropelaw10_awake.calls true _ aw_true).mono ?_
  rintro e w1 ⟨rfl, hb⟩
  have HB1 := Aside0.mk hb
  clear hb
  go_wp2_with fail
  refine (oper_Of.calls _ _ _ _ _ _ _ _ HX.out).mono ?_
  rintro e w2 ⟨rfl, hb⟩
  have HB2 := Aside0.mk (below_step HB1.out hb)
  clear hb HB1
  go_wp2_with fail
  refine (oper_Of.calls _ _ _ _ _ _ _ _ HY.out).mono ?_
  rintro e w3 ⟨rfl, hb⟩
  have HB3 := Aside0.mk (below_alloc (below_step (below_alloc HB2.out (.cells #[.string x0, .string x1, .bool false, .string x3, .bool true] 24 (0, 0))) hb) (.cells #[.string y0, .string y1, .bool y2, .string y3, .bool y4] 24 (0, 0)))
  obtain ⟨c0, c1, c2, c3, c4⟩ := cells5' (blk_alloc (blk_below (blk_new w2 (.cells #[.string x0, .string x1, .bool false, .string x3, .bool true] 24 (0, 0))) hb) (.cells #[.string y0, .string y1, .bool y2, .string y3, .bool y4] 24 (0, 0)))
  obtain ⟨d0, d1, d2, d3, d4⟩ := cells5' (blk_new w3 (.cells #[.string y0, .string y1, .bool y2, .string y3, .bool y4] 24 (0, 0)))
  clear hb HB2
  go_wp2_with fail
  go_ret
  exact ⟨rfl, by repeat (first | exact HB3.out | refine Below.drew ?_ | exact HB3.out.drew)⟩
set_option maxHeartbeats 4000000 in
set_option maxRecDepth 100000 in
theorem ap_same_tfe (a0 : Int) (x0 x1 x3 : ByteArray) (w : World) (hx : oper_Of.f a0 = some (x0, x1, true, x3, false, true)) (hy : oper_Of.f a0 = some (x0, x1, true, x3, false, true)) (h0 : decide ((x0.size : Int) ≤ 1) = true) (h1 : ((x1.size : Int) == 1) = true) (h2 : (x1.toList == ([44] : List UInt8)) = false) (h2' : (x1.toList != ([44] : List UInt8)) = true) (h3 : (x0.toList == ([] : List UInt8)) = false) (h3' : (x0.toList != ([] : List UInt8)) = true) (h4 : (x3.toList == ([] : List UInt8)) = true) :
    Calls Try.prog 5 #[.int .u8 a0, .int .u8 a0] w fun e w' => e = .returned (.bool true) ∧ Below w.heap.size w w' := by
  have HX := Aside0.mk hx
  have HY := Aside0.mk hy
  have hu24 := Try.underlying24
  clear hx hy
  go_enter Try.func5, Try.ntmps5
  go_wp2_with fail
  refine (phalaropelaw10_awake.calls true _ aw_true).mono ?_
  rintro e w1 ⟨rfl, hb⟩
  have HB1 := Aside0.mk hb
  clear hb
  go_wp2_with fail
  refine (oper_Of.calls _ _ _ _ _ _ _ _ HX.out).mono ?_
  rintro e w2 ⟨rfl, hb⟩
  have HB2 := Aside0.mk (below_step HB1.out hb)
  clear hb HB1
  go_wp2_with fail
  refine (oper_Of.calls _ _ _ _ _ _ _ _ HY.out).mono ?_
  rintro e w3 ⟨rfl, hb⟩
  have HB3 := Aside0.mk (below_alloc (below_step (below_alloc HB2.out (.cells #[.string x0, .string x1, .bool true, .string x3, .bool false] 24 (0, 0))) hb) (.cells #[.string x0, .string x1, .bool true, .string x3, .bool false] 24 (0, 0)))
  obtain ⟨c0, c1, c2, c3, c4⟩ := cells5' (blk_alloc (blk_below (blk_new w2 (.cells #[.string x0, .string x1, .bool true, .string x3, .bool false] 24 (0, 0))) hb) (.cells #[.string x0, .string x1, .bool true, .string x3, .bool false] 24 (0, 0)))
  obtain ⟨d0, d1, d2, d3, d4⟩ := cells5' (blk_new w3 (.cells #[.string x0, .string x1, .bool true, .string x3, .bool false] 24 (0, 0)))
  clear hb HB2
  go_wp2_with fail
  go_ret
  exact ⟨rfl, by repeat (first | exact HB3.out | refine Below.drew ?_ | exact HB3.out.drew)⟩
set_option maxHeartbeats 4000000 in
set_option maxRecDepth 100000 in
theorem ap_other_tfe (a0 a1 : Int) (x0 x1 x3 : ByteArray) (y0 y1 : ByteArray) (y2 : Bool) (y3 : ByteArray) (y4 : Bool) (w : World) (hx : oper_Of.f a0 = some (x0, x1, true, x3, false, true)) (hy : oper_Of.f a1 = some (y0, y1, y2, y3, y4, true)) (h0 : decide ((x0.size : Int) ≤ 1) = true) (h1 : ((x1.size : Int) == 1) = true) (h2 : (x1.toList == ([44] : List UInt8)) = false) (h2' : (x1.toList != ([44] : List UInt8)) = true) (h3 : (x0.toList == ([] : List UInt8)) = false) (h3' : (x0.toList != ([] : List UInt8)) = true) (h4 : (x3.toList == ([] : List UInt8)) = true) (hab : (a0 == a1) = false) (hf : (x0.toList == y0.toList) = false) :
    Calls Try.prog 5 #[.int .u8 a0, .int .u8 a1] w fun e w' => e = .returned (.bool true) ∧ Below w.heap.size w w' := by
  have HX := Aside0.mk hx
  have HY := Aside0.mk hy
  have hu24 := Try.underlying24
  clear hx hy
  go_enter Try.func5, Try.ntmps5
  go_wp2_with fail
  refine (phalaropelaw10_awake.calls true _ aw_true).mono ?_
  rintro e w1 ⟨rfl, hb⟩
  have HB1 := Aside0.mk hb
  clear hb
  go_wp2_with fail
  refine (oper_Of.calls _ _ _ _ _ _ _ _ HX.out).mono ?_
  rintro e w2 ⟨rfl, hb⟩
  have HB2 := Aside0.mk (below_step HB1.out hb)
  clear hb HB1
  go_wp2_with fail
  refine (oper_Of.calls _ _ _ _ _ _ _ _ HY.out).mono ?_
  rintro e w3 ⟨rfl, hb⟩
  have HB3 := Aside0.mk (below_alloc (below_step (below_alloc HB2.out (.cells #[.string x0, .string x1, .bool true, .string x3, .bool false] 24 (0, 0))) hb) (.cells #[.string y0, .string y1, .bool y2, .string y3, .bool y4] 24 (0, 0)))
  obtain ⟨c0, c1, c2, c3, c4⟩ := cells5' (blk_alloc (blk_below (blk_new w2 (.cells #[.string x0, .string x1, .bool true, .string x3, .bool false] 24 (0, 0))) hb) (.cells #[.string y0, .string y1, .bool y2, .string y3, .bool y4] 24 (0, 0)))
  obtain ⟨d0, d1, d2, d3, d4⟩ := cells5' (blk_new w3 (.cells #[.string y0, .string y1, .bool y2, .string y3, .bool y4] 24 (0, 0)))
  clear hb HB2
  go_wp2_with fail
  go_ret
  exact ⟨rfl, by repeat (first | exact HB3.out | refine Below.drew ?_ | exact HB3.out.drew)⟩
set_option maxHeartbeats 4000000 in
set_option maxRecDepth 100000 in
theorem ap_same_tfq (a0 : Int) (x0 x1 x3 : ByteArray) (w : World) (hx : oper_Of.f a0 = some (x0, x1, true, x3, false, true)) (hy : oper_Of.f a0 = some (x0, x1, true, x3, false, true)) (h0 : decide ((x0.size : Int) ≤ 1) = true) (h1 : ((x1.size : Int) == 1) = true) (h2 : (x1.toList == ([44] : List UInt8)) = false) (h2' : (x1.toList != ([44] : List UInt8)) = true) (h3 : (x0.toList == ([] : List UInt8)) = false) (h3' : (x0.toList != ([] : List UInt8)) = true) (h4 : (x3.toList == ([] : List UInt8)) = false) (h5 : (x3.toList == ([61] : List UInt8)) = true) :
    Calls Try.prog 5 #[.int .u8 a0, .int .u8 a0] w fun e w' => e = .returned (.bool true) ∧ Below w.heap.size w w' := by
  have HX := Aside0.mk hx
  have HY := Aside0.mk hy
  have hu24 := Try.underlying24
  clear hx hy
  go_enter Try.func5, Try.ntmps5
  go_wp2_with fail
  refine (phalaropelaw10_awake.calls true _ aw_true).mono ?_
  rintro e w1 ⟨rfl, hb⟩
  have HB1 := Aside0.mk hb
  clear hb
  go_wp2_with fail
  refine (oper_Of.calls _ _ _ _ _ _ _ _ HX.out).mono ?_
  rintro e w2 ⟨rfl, hb⟩
  have HB2 := Aside0.mk (below_step HB1.out hb)
  clear hb HB1
  go_wp2_with fail
  refine (oper_Of.calls _ _ _ _ _ _ _ _ HY.out).mono ?_
  rintro e w3 ⟨rfl, hb⟩
  have HB3 := Aside0.mk (below_alloc (below_step (below_alloc HB2.out (.cells #[.string x0, .string x1, .bool true, .string x3, .bool false] 24 (0, 0))) hb) (.cells #[.string x0, .string x1, .bool true, .string x3, .bool false] 24 (0, 0)))
  obtain ⟨c0, c1, c2, c3, c4⟩ := cells5' (blk_alloc (blk_below (blk_new w2 (.cells #[.string x0, .string x1, .bool true, .string x3, .bool false] 24 (0, 0))) hb) (.cells #[.string x0, .string x1, .bool true, .string x3, .bool false] 24 (0, 0)))
  obtain ⟨d0, d1, d2, d3, d4⟩ := cells5' (blk_new w3 (.cells #[.string x0, .string x1, .bool true, .string x3, .bool false] 24 (0, 0)))
  clear hb HB2
  go_wp2_with fail
  go_ret
  exact ⟨rfl, by repeat (first | exact HB3.out | refine Below.drew ?_ | exact HB3.out.drew)⟩
set_option maxHeartbeats 4000000 in
set_option maxRecDepth 100000 in
theorem ap_other_tfq (a0 a1 : Int) (x0 x1 x3 : ByteArray) (y0 y1 : ByteArray) (y2 : Bool) (y3 : ByteArray) (y4 : Bool) (w : World) (hx : oper_Of.f a0 = some (x0, x1, true, x3, false, true)) (hy : oper_Of.f a1 = some (y0, y1, y2, y3, y4, true)) (h0 : decide ((x0.size : Int) ≤ 1) = true) (h1 : ((x1.size : Int) == 1) = true) (h2 : (x1.toList == ([44] : List UInt8)) = false) (h2' : (x1.toList != ([44] : List UInt8)) = true) (h3 : (x0.toList == ([] : List UInt8)) = false) (h3' : (x0.toList != ([] : List UInt8)) = true) (h4 : (x3.toList == ([] : List UInt8)) = false) (h5 : (x3.toList == ([61] : List UInt8)) = true) (hab : (a0 == a1) = false) (hf : (x0.toList == y0.toList) = false) :
    Calls Try.prog 5 #[.int .u8 a0, .int .u8 a1] w fun e w' => e = .returned (.bool true) ∧ Below w.heap.size w w' := by
  have HX := Aside0.mk hx
  have HY := Aside0.mk hy
  have hu24 := Try.underlying24
  clear hx hy
  go_enter Try.func5, Try.ntmps5
  go_wp2_with fail
  refine (phalaropelaw10_awake.calls true _ aw_true).mono ?_
  rintro e w1 ⟨rfl, hb⟩
  have HB1 := Aside0.mk hb
  clear hb
  go_wp2_with fail
  refine (oper_Of.calls _ _ _ _ _ _ _ _ HX.out).mono ?_
  rintro e w2 ⟨rfl, hb⟩
  have HB2 := Aside0.mk (below_step HB1.out hb)
  clear hb HB1
  go_wp2_with fail
  refine (oper_Of.calls _ _ _ _ _ _ _ _ HY.out).mono ?_
  rintro e w3 ⟨rfl, hb⟩
  have HB3 := Aside0.mk (below_alloc (below_step (below_alloc HB2.out (.cells #[.string x0, .string x1, .bool true, .string x3, .bool false] 24 (0, 0))) hb) (.cells #[.string y0, .string y1, .bool y2, .string y3, .bool y4] 24 (0, 0)))
  obtain ⟨c0, c1, c2, c3, c4⟩ := cells5' (blk_alloc (blk_below (blk_new w2 (.cells #[.string x0, .string x1, .bool true, .string x3, .bool false] 24 (0, 0))) hb) (.cells #[.string y0, .string y1, .bool y2, .string y3, .bool y4] 24 (0, 0)))
  obtain ⟨d0, d1, d2, d3, d4⟩ := cells5' (blk_new w3 (.cells #[.string y0, .string y1, .bool y2, .string y3, .bool y4] 24 (0, 0)))
  clear hb HB2
  go_wp2_with fail
  go_ret
  exact ⟨rfl, by repeat (first | exact HB3.out | refine Below.drew ?_ | exact HB3.out.drew)⟩
set_option maxHeartbeats 4000000 in
set_option maxRecDepth 100000 in
theorem ap_0_43  (w : World) (hx : oper_Of.f 0 = some (⟨#[]⟩, ⟨#[44]⟩, false, ⟨#[]⟩, false, true)) (hy : oper_Of.f 43 = some (⟨#[]⟩, ⟨#[44]⟩, false, ⟨#[]⟩, true, true)) :
    Calls Try.prog 5 #[.int .u8 0, .int .u8 43] w fun e w' => e = .returned (.bool true) ∧ Below w.heap.size w w' := by
  have HX := Aside0.mk hx
  have HY := Aside0.mk hy
  have hu24 := Try.underlying24
  clear hx hy
  go_enter Try.func5, Try.ntmps5
  go_wp2_with fail
  refine (phalaropelaw10_awake.calls true _ aw_true).mono ?_
  rintro e w1 ⟨rfl, hb⟩
  have HB1 := Aside0.mk hb
  clear hb
  go_wp2_with fail
  refine (oper_Of.calls _ _ _ _ _ _ _ _ HX.out).mono ?_
  rintro e w2 ⟨rfl, hb⟩
  have HB2 := Aside0.mk (below_step HB1.out hb)
  clear hb HB1
  go_wp2_with fail
  refine (oper_Of.calls _ _ _ _ _ _ _ _ HY.out).mono ?_
  rintro e w3 ⟨rfl, hb⟩
  have HB3 := Aside0.mk (below_alloc (below_step (below_alloc HB2.out (.cells #[.string ⟨#[]⟩, .string ⟨#[44]⟩, .bool false, .string ⟨#[]⟩, .bool false] 24 (0, 0))) hb) (.cells #[.string ⟨#[]⟩, .string ⟨#[44]⟩, .bool false, .string ⟨#[]⟩, .bool true] 24 (0, 0)))
  obtain ⟨c0, c1, c2, c3, c4⟩ := cells5' (blk_alloc (blk_below (blk_new w2 (.cells #[.string ⟨#[]⟩, .string ⟨#[44]⟩, .bool false, .string ⟨#[]⟩, .bool false] 24 (0, 0))) hb) (.cells #[.string ⟨#[]⟩, .string ⟨#[44]⟩, .bool false, .string ⟨#[]⟩, .bool true] 24 (0, 0)))
  obtain ⟨d0, d1, d2, d3, d4⟩ := cells5' (blk_new w3 (.cells #[.string ⟨#[]⟩, .string ⟨#[44]⟩, .bool false, .string ⟨#[]⟩, .bool true] 24 (0, 0)))
  clear hb HB2
  go_wp2_with fail
  go_ret
  exact ⟨rfl, by repeat (first | exact HB3.out | refine Below.drew ?_ | exact HB3.out.drew)⟩
set_option maxHeartbeats 4000000 in
set_option maxRecDepth 100000 in
theorem ap_43_0  (w : World) (hx : oper_Of.f 43 = some (⟨#[]⟩, ⟨#[44]⟩, false, ⟨#[]⟩, true, true)) (hy : oper_Of.f 0 = some (⟨#[]⟩, ⟨#[44]⟩, false, ⟨#[]⟩, false, true)) :
    Calls Try.prog 5 #[.int .u8 43, .int .u8 0] w fun e w' => e = .returned (.bool true) ∧ Below w.heap.size w w' := by
  have HX := Aside0.mk hx
  have HY := Aside0.mk hy
  have hu24 := Try.underlying24
  clear hx hy
  go_enter Try.func5, Try.ntmps5
  go_wp2_with fail
  refine (phalaropelaw10_awake.calls true _ aw_true).mono ?_
  rintro e w1 ⟨rfl, hb⟩
  have HB1 := Aside0.mk hb
  clear hb
  go_wp2_with fail
  refine (oper_Of.calls _ _ _ _ _ _ _ _ HX.out).mono ?_
  rintro e w2 ⟨rfl, hb⟩
  have HB2 := Aside0.mk (below_step HB1.out hb)
  clear hb HB1
  go_wp2_with fail
  refine (oper_Of.calls _ _ _ _ _ _ _ _ HY.out).mono ?_
  rintro e w3 ⟨rfl, hb⟩
  have HB3 := Aside0.mk (below_alloc (below_step (below_alloc HB2.out (.cells #[.string ⟨#[]⟩, .string ⟨#[44]⟩, .bool false, .string ⟨#[]⟩, .bool true] 24 (0, 0))) hb) (.cells #[.string ⟨#[]⟩, .string ⟨#[44]⟩, .bool false, .string ⟨#[]⟩, .bool false] 24 (0, 0)))
  obtain ⟨c0, c1, c2, c3, c4⟩ := cells5' (blk_alloc (blk_below (blk_new w2 (.cells #[.string ⟨#[]⟩, .string ⟨#[44]⟩, .bool false, .string ⟨#[]⟩, .bool true] 24 (0, 0))) hb) (.cells #[.string ⟨#[]⟩, .string ⟨#[44]⟩, .bool false, .string ⟨#[]⟩, .bool false] 24 (0, 0)))
  obtain ⟨d0, d1, d2, d3, d4⟩ := cells5' (blk_new w3 (.cells #[.string ⟨#[]⟩, .string ⟨#[44]⟩, .bool false, .string ⟨#[]⟩, .bool false] 24 (0, 0)))
  clear hb HB2
  go_wp2_with fail
  go_ret
  exact ⟨rfl, by repeat (first | exact HB3.out | refine Below.drew ?_ | exact HB3.out.drew)⟩
set_option maxHeartbeats 4000000 in
set_option maxRecDepth 100000 in
theorem ap_no_yes (a0 a1 : Int) (y0 y1 : ByteArray) (y2 : Bool) (y3 : ByteArray) (y4 : Bool) (w : World) (hx : oper_Of.f a0 = some (⟨#[]⟩, ⟨#[]⟩, false, ⟨#[]⟩, false, false)) (hy : oper_Of.f a1 = some (y0, y1, y2, y3, y4, true)) :
    Calls Try.prog 5 #[.int .u8 a0, .int .u8 a1] w fun e w' => e = .returned (.bool true) ∧ Below w.heap.size w w' := by
  have HX := Aside0.mk hx
  have HY := Aside0.mk hy
  have hu24 := Try.underlying24
  clear hx hy
  go_enter Try.func5, Try.ntmps5
  go_wp2_with fail
  refine (phalaropelaw10_awake.calls true _ aw_true).mono ?_
  rintro e w1 ⟨rfl, hb⟩
  have HB1 := Aside0.mk hb
  clear hb
  go_wp2_with fail
  refine (oper_Of.calls _ _ _ _ _ _ _ _ HX.out).mono ?_
  rintro e w2 ⟨rfl, hb⟩
  have HB2 := Aside0.mk (below_step HB1.out hb)
  clear hb HB1
  go_wp2_with fail
  refine (oper_Of.calls _ _ _ _ _ _ _ _ HY.out).mono ?_
  rintro e w3 ⟨rfl, hb⟩
  have HB3 := Aside0.mk (below_alloc (below_step (below_alloc HB2.out (.cells #[.string ⟨#[]⟩, .string ⟨#[]⟩, .bool false, .string ⟨#[]⟩, .bool false] 24 (0, 0))) hb) (.cells #[.string y0, .string y1, .bool y2, .string y3, .bool y4] 24 (0, 0)))
  obtain ⟨c0, c1, c2, c3, c4⟩ := cells5' (blk_alloc (blk_below (blk_new w2 (.cells #[.string ⟨#[]⟩, .string ⟨#[]⟩, .bool false, .string ⟨#[]⟩, .bool false] 24 (0, 0))) hb) (.cells #[.string y0, .string y1, .bool y2, .string y3, .bool y4] 24 (0, 0)))
  obtain ⟨d0, d1, d2, d3, d4⟩ := cells5' (blk_new w3 (.cells #[.string y0, .string y1, .bool y2, .string y3, .bool y4] 24 (0, 0)))
  clear hb HB2
  go_wp2_with fail
  go_ret
  exact ⟨rfl, by repeat (first | exact HB3.out | refine Below.drew ?_ | exact HB3.out.drew)⟩
set_option maxHeartbeats 4000000 in
set_option maxRecDepth 100000 in
theorem ap_yes_no (a0 a1 : Int) (x0 x1 : ByteArray) (x2 : Bool) (x3 : ByteArray) (x4 : Bool) (w : World) (hx : oper_Of.f a0 = some (x0, x1, x2, x3, x4, true)) (hy : oper_Of.f a1 = some (⟨#[]⟩, ⟨#[]⟩, false, ⟨#[]⟩, false, false)) :
    Calls Try.prog 5 #[.int .u8 a0, .int .u8 a1] w fun e w' => e = .returned (.bool true) ∧ Below w.heap.size w w' := by
  have HX := Aside0.mk hx
  have HY := Aside0.mk hy
  have hu24 := Try.underlying24
  clear hx hy
  go_enter Try.func5, Try.ntmps5
  go_wp2_with fail
  refine (phalaropelaw10_awake.calls true _ aw_true).mono ?_
  rintro e w1 ⟨rfl, hb⟩
  have HB1 := Aside0.mk hb
  clear hb
  go_wp2_with fail
  refine (oper_Of.calls _ _ _ _ _ _ _ _ HX.out).mono ?_
  rintro e w2 ⟨rfl, hb⟩
  have HB2 := Aside0.mk (below_step HB1.out hb)
  clear hb HB1
  go_wp2_with fail
  refine (oper_Of.calls _ _ _ _ _ _ _ _ HY.out).mono ?_
  rintro e w3 ⟨rfl, hb⟩
  have HB3 := Aside0.mk (below_alloc (below_step (below_alloc HB2.out (.cells #[.string x0, .string x1, .bool x2, .string x3, .bool x4] 24 (0, 0))) hb) (.cells #[.string ⟨#[]⟩, .string ⟨#[]⟩, .bool false, .string ⟨#[]⟩, .bool false] 24 (0, 0)))
  obtain ⟨c0, c1, c2, c3, c4⟩ := cells5' (blk_alloc (blk_below (blk_new w2 (.cells #[.string x0, .string x1, .bool x2, .string x3, .bool x4] 24 (0, 0))) hb) (.cells #[.string ⟨#[]⟩, .string ⟨#[]⟩, .bool false, .string ⟨#[]⟩, .bool false] 24 (0, 0)))
  obtain ⟨d0, d1, d2, d3, d4⟩ := cells5' (blk_new w3 (.cells #[.string ⟨#[]⟩, .string ⟨#[]⟩, .bool false, .string ⟨#[]⟩, .bool false] 24 (0, 0)))
  clear hb HB2
  go_wp2_with fail
  go_ret
  exact ⟨rfl, by repeat (first | exact HB3.out | refine Below.drew ?_ | exact HB3.out.drew)⟩
set_option maxHeartbeats 4000000 in
set_option maxRecDepth 100000 in
theorem ap_no_no (a0 a1 : Int) (w : World) (hx : oper_Of.f a0 = some (⟨#[]⟩, ⟨#[]⟩, false, ⟨#[]⟩, false, false)) (hy : oper_Of.f a1 = some (⟨#[]⟩, ⟨#[]⟩, false, ⟨#[]⟩, false, false)) :
    Calls Try.prog 5 #[.int .u8 a0, .int .u8 a1] w fun e w' => e = .returned (.bool true) ∧ Below w.heap.size w w' := by
  have HX := Aside0.mk hx
  have HY := Aside0.mk hy
  have hu24 := Try.underlying24
  clear hx hy
  go_enter Try.func5, Try.ntmps5
  go_wp2_with fail
  refine (phalaropelaw10_awake.calls true _ aw_true).mono ?_
  rintro e w1 ⟨rfl, hb⟩
  have HB1 := Aside0.mk hb
  clear hb
  go_wp2_with fail
  refine (oper_Of.calls _ _ _ _ _ _ _ _ HX.out).mono ?_
  rintro e w2 ⟨rfl, hb⟩
  have HB2 := Aside0.mk (below_step HB1.out hb)
  clear hb HB1
  go_wp2_with fail
  refine (oper_Of.calls _ _ _ _ _ _ _ _ HY.out).mono ?_
  rintro e w3 ⟨rfl, hb⟩
  have HB3 := Aside0.mk (below_alloc (below_step (below_alloc HB2.out (.cells #[.string ⟨#[]⟩, .string ⟨#[]⟩, .bool false, .string ⟨#[]⟩, .bool false] 24 (0, 0))) hb) (.cells #[.string ⟨#[]⟩, .string ⟨#[]⟩, .bool false, .string ⟨#[]⟩, .bool false] 24 (0, 0)))
  obtain ⟨c0, c1, c2, c3, c4⟩ := cells5' (blk_alloc (blk_below (blk_new w2 (.cells #[.string ⟨#[]⟩, .string ⟨#[]⟩, .bool false, .string ⟨#[]⟩, .bool false] 24 (0, 0))) hb) (.cells #[.string ⟨#[]⟩, .string ⟨#[]⟩, .bool false, .string ⟨#[]⟩, .bool false] 24 (0, 0)))
  obtain ⟨d0, d1, d2, d3, d4⟩ := cells5' (blk_new w3 (.cells #[.string ⟨#[]⟩, .string ⟨#[]⟩, .bool false, .string ⟨#[]⟩, .bool false] 24 (0, 0)))
  clear hb HB2
  go_wp2_with fail
  go_ret
  exact ⟨rfl, by repeat (first | exact HB3.out | refine Below.drew ?_ | exact HB3.out.drew)⟩
theorem op_cases {a : Int} (h : X.isOper a = true) : a = 0 ∨ a = 43 ∨ a = 35 ∨ a = 46 ∨ a = 47 ∨ a = 59 ∨ a = 63 ∨ a = 38 := by
  simp [X.isOper] at h; omega
theorem ap_of {a : Int} (h0 : 0 ≤ a ∧ a ≤ 255) : oper_Of.f a = some (X.ruleFirst a, X.ruleSep a, X.ruleNamed a, X.ruleEmpty a, X.ruleKeep a, X.isOper a) := by
  unfold oper_Of.f; rw [if_pos h0]
theorem ap_not {a : Int} (h0 : 0 ≤ a ∧ a ≤ 255) (h : X.isOper a = false) : oper_Of.f a = some (⟨#[]⟩, ⟨#[]⟩, false, ⟨#[]⟩, false, false) := by
  rw [ap_of h0, h]
  have := X.no_rule h
  simp only [X.ruleV, Value.agg.injEq, Array.mk.injEq, List.cons.injEq, Value.string.injEq, Value.bool.injEq, and_true] at this
  obtain ⟨e1, e2, e3, e4, e5⟩ := this
  rw [e1, e2, e3, e4, e5]
theorem ap_at_0 (a1 : Int) (hb : 0 ≤ a1 ∧ a1 ≤ 255) (h1 : X.isOper a1 = true) (w : World) : Calls Try.prog 5 #[.int .u8 0, .int .u8 a1] w fun e w' => e = .returned (.bool true) ∧ Below w.heap.size w w' := by
  by_cases he : a1 = 0
  · subst he
    exact ap_same_ffe 0 (⟨#[]⟩ : ByteArray) (⟨#[44]⟩ : ByteArray) (⟨#[]⟩ : ByteArray) w rfl rfl (by decide +kernel) (by decide +kernel) (by decide +kernel)
  by_cases h2 : a1 = 43
  · subst h2
    exact ap_0_43 w rfl rfl
  have hy := ap_of hb
  rw [h1] at hy
  refine ap_other_ffe 0 a1 (⟨#[]⟩ : ByteArray) (⟨#[44]⟩ : ByteArray) (⟨#[]⟩ : ByteArray) (X.ruleFirst a1) (X.ruleSep a1) (X.ruleNamed a1) (X.ruleEmpty a1) (X.ruleKeep a1) w rfl hy (by decide +kernel) (by decide +kernel) (by decide +kernel) (beq_eq_false_iff_ne.2 (fun h => he h.symm)) ?_
  rcases op_cases h1 with rfl | rfl | rfl | rfl | rfl | rfl | rfl | rfl <;> first | decide +kernel | exact absurd rfl he | exact absurd rfl h2
theorem ap_at_43 (a1 : Int) (hb : 0 ≤ a1 ∧ a1 ≤ 255) (h1 : X.isOper a1 = true) (w : World) : Calls Try.prog 5 #[.int .u8 43, .int .u8 a1] w fun e w' => e = .returned (.bool true) ∧ Below w.heap.size w w' := by
  by_cases he : a1 = 43
  · subst he
    exact ap_same_fte 43 (⟨#[]⟩ : ByteArray) (⟨#[44]⟩ : ByteArray) (⟨#[]⟩ : ByteArray) w rfl rfl (by decide +kernel) (by decide +kernel) (by decide +kernel)
  by_cases h2 : a1 = 0
  · subst h2
    exact ap_43_0 w rfl rfl
  have hy := ap_of hb
  rw [h1] at hy
  refine ap_other_fte 43 a1 (⟨#[]⟩ : ByteArray) (⟨#[44]⟩ : ByteArray) (⟨#[]⟩ : ByteArray) (X.ruleFirst a1) (X.ruleSep a1) (X.ruleNamed a1) (X.ruleEmpty a1) (X.ruleKeep a1) w rfl hy (by decide +kernel) (by decide +kernel) (by decide +kernel) (beq_eq_false_iff_ne.2 (fun h => he h.symm)) ?_
  rcases op_cases h1 with rfl | rfl | rfl | rfl | rfl | rfl | rfl | rfl <;> first | decide +kernel | exact absurd rfl he | exact absurd rfl h2
theorem ap_at_35 (a1 : Int) (hb : 0 ≤ a1 ∧ a1 ≤ 255) (h1 : X.isOper a1 = true) (w : World) : Calls Try.prog 5 #[.int .u8 35, .int .u8 a1] w fun e w' => e = .returned (.bool true) ∧ Below w.heap.size w w' := by
  by_cases he : a1 = 35
  · subst he
    exact ap_same_fte 35 (⟨#[35]⟩ : ByteArray) (⟨#[44]⟩ : ByteArray) (⟨#[]⟩ : ByteArray) w rfl rfl (by decide +kernel) (by decide +kernel) (by decide +kernel)
  have hy := ap_of hb
  rw [h1] at hy
  refine ap_other_fte 35 a1 (⟨#[35]⟩ : ByteArray) (⟨#[44]⟩ : ByteArray) (⟨#[]⟩ : ByteArray) (X.ruleFirst a1) (X.ruleSep a1) (X.ruleNamed a1) (X.ruleEmpty a1) (X.ruleKeep a1) w rfl hy (by decide +kernel) (by decide +kernel) (by decide +kernel) (beq_eq_false_iff_ne.2 (fun h => he h.symm)) ?_
  rcases op_cases h1 with rfl | rfl | rfl | rfl | rfl | rfl | rfl | rfl <;> first | decide +kernel | exact absurd rfl he
theorem ap_at_46 (a1 : Int) (hb : 0 ≤ a1 ∧ a1 ≤ 255) (h1 : X.isOper a1 = true) (w : World) : Calls Try.prog 5 #[.int .u8 46, .int .u8 a1] w fun e w' => e = .returned (.bool true) ∧ Below w.heap.size w w' := by
  by_cases he : a1 = 46
  · subst he
    exact ap_same_ffe 46 (⟨#[46]⟩ : ByteArray) (⟨#[46]⟩ : ByteArray) (⟨#[]⟩ : ByteArray) w rfl rfl (by decide +kernel) (by decide +kernel) (by decide +kernel)
  have hy := ap_of hb
  rw [h1] at hy
  refine ap_other_ffe 46 a1 (⟨#[46]⟩ : ByteArray) (⟨#[46]⟩ : ByteArray) (⟨#[]⟩ : ByteArray) (X.ruleFirst a1) (X.ruleSep a1) (X.ruleNamed a1) (X.ruleEmpty a1) (X.ruleKeep a1) w rfl hy (by decide +kernel) (by decide +kernel) (by decide +kernel) (beq_eq_false_iff_ne.2 (fun h => he h.symm)) ?_
  rcases op_cases h1 with rfl | rfl | rfl | rfl | rfl | rfl | rfl | rfl <;> first | decide +kernel | exact absurd rfl he
theorem ap_at_47 (a1 : Int) (hb : 0 ≤ a1 ∧ a1 ≤ 255) (h1 : X.isOper a1 = true) (w : World) : Calls Try.prog 5 #[.int .u8 47, .int .u8 a1] w fun e w' => e = .returned (.bool true) ∧ Below w.heap.size w w' := by
  by_cases he : a1 = 47
  · subst he
    exact ap_same_ffe 47 (⟨#[47]⟩ : ByteArray) (⟨#[47]⟩ : ByteArray) (⟨#[]⟩ : ByteArray) w rfl rfl (by decide +kernel) (by decide +kernel) (by decide +kernel)
  have hy := ap_of hb
  rw [h1] at hy
  refine ap_other_ffe 47 a1 (⟨#[47]⟩ : ByteArray) (⟨#[47]⟩ : ByteArray) (⟨#[]⟩ : ByteArray) (X.ruleFirst a1) (X.ruleSep a1) (X.ruleNamed a1) (X.ruleEmpty a1) (X.ruleKeep a1) w rfl hy (by decide +kernel) (by decide +kernel) (by decide +kernel) (beq_eq_false_iff_ne.2 (fun h => he h.symm)) ?_
  rcases op_cases h1 with rfl | rfl | rfl | rfl | rfl | rfl | rfl | rfl <;> first | decide +kernel | exact absurd rfl he
theorem ap_at_59 (a1 : Int) (hb : 0 ≤ a1 ∧ a1 ≤ 255) (h1 : X.isOper a1 = true) (w : World) : Calls Try.prog 5 #[.int .u8 59, .int .u8 a1] w fun e w' => e = .returned (.bool true) ∧ Below w.heap.size w w' := by
  by_cases he : a1 = 59
  · subst he
    exact ap_same_tfe 59 (⟨#[59]⟩ : ByteArray) (⟨#[59]⟩ : ByteArray) (⟨#[]⟩ : ByteArray) w rfl rfl (by decide +kernel) (by decide +kernel) (by decide +kernel) (by decide +kernel) (by decide +kernel) (by decide +kernel) (by decide +kernel)
  have hy := ap_of hb
  rw [h1] at hy
  refine ap_other_tfe 59 a1 (⟨#[59]⟩ : ByteArray) (⟨#[59]⟩ : ByteArray) (⟨#[]⟩ : ByteArray) (X.ruleFirst a1) (X.ruleSep a1) (X.ruleNamed a1) (X.ruleEmpty a1) (X.ruleKeep a1) w rfl hy (by decide +kernel) (by decide +kernel) (by decide +kernel) (by decide +kernel) (by decide +kernel) (by decide +kernel) (by decide +kernel) (beq_eq_false_iff_ne.2 (fun h => he h.symm)) ?_
  rcases op_cases h1 with rfl | rfl | rfl | rfl | rfl | rfl | rfl | rfl <;> first | decide +kernel | exact absurd rfl he
theorem ap_at_63 (a1 : Int) (hb : 0 ≤ a1 ∧ a1 ≤ 255) (h1 : X.isOper a1 = true) (w : World) : Calls Try.prog 5 #[.int .u8 63, .int .u8 a1] w fun e w' => e = .returned (.bool true) ∧ Below w.heap.size w w' := by
  by_cases he : a1 = 63
  · subst he
    exact ap_same_tfq 63 (⟨#[63]⟩ : ByteArray) (⟨#[38]⟩ : ByteArray) (⟨#[61]⟩ : ByteArray) w rfl rfl (by decide +kernel) (by decide +kernel) (by decide +kernel) (by decide +kernel) (by decide +kernel) (by decide +kernel) (by decide +kernel) (by decide +kernel)
  have hy := ap_of hb
  rw [h1] at hy
  refine ap_other_tfq 63 a1 (⟨#[63]⟩ : ByteArray) (⟨#[38]⟩ : ByteArray) (⟨#[61]⟩ : ByteArray) (X.ruleFirst a1) (X.ruleSep a1) (X.ruleNamed a1) (X.ruleEmpty a1) (X.ruleKeep a1) w rfl hy (by decide +kernel) (by decide +kernel) (by decide +kernel) (by decide +kernel) (by decide +kernel) (by decide +kernel) (by decide +kernel) (by decide +kernel) (beq_eq_false_iff_ne.2 (fun h => he h.symm)) ?_
  rcases op_cases h1 with rfl | rfl | rfl | rfl | rfl | rfl | rfl | rfl <;> first | decide +kernel | exact absurd rfl he
theorem ap_at_38 (a1 : Int) (hb : 0 ≤ a1 ∧ a1 ≤ 255) (h1 : X.isOper a1 = true) (w : World) : Calls Try.prog 5 #[.int .u8 38, .int .u8 a1] w fun e w' => e = .returned (.bool true) ∧ Below w.heap.size w w' := by
  by_cases he : a1 = 38
  · subst he
    exact ap_same_tfq 38 (⟨#[38]⟩ : ByteArray) (⟨#[38]⟩ : ByteArray) (⟨#[61]⟩ : ByteArray) w rfl rfl (by decide +kernel) (by decide +kernel) (by decide +kernel) (by decide +kernel) (by decide +kernel) (by decide +kernel) (by decide +kernel) (by decide +kernel)
  have hy := ap_of hb
  rw [h1] at hy
  refine ap_other_tfq 38 a1 (⟨#[38]⟩ : ByteArray) (⟨#[38]⟩ : ByteArray) (⟨#[61]⟩ : ByteArray) (X.ruleFirst a1) (X.ruleSep a1) (X.ruleNamed a1) (X.ruleEmpty a1) (X.ruleKeep a1) w rfl hy (by decide +kernel) (by decide +kernel) (by decide +kernel) (by decide +kernel) (by decide +kernel) (by decide +kernel) (by decide +kernel) (by decide +kernel) (beq_eq_false_iff_ne.2 (fun h => he h.symm)) ?_
  rcases op_cases h1 with rfl | rfl | rfl | rfl | rfl | rfl | rfl | rfl <;> first | decide +kernel | exact absurd rfl he
def phalaropelaw10_OperApart.f (a0 : Int) (a1 : Int) : Option (Bool) := if (0 ≤ a0 ∧ a0 ≤ 255) ∧ (0 ≤ a1 ∧ a1 ≤ 255) then some true else none
set_option maxHeartbeats 8000000 in
set_option maxRecDepth 100000 in
theorem phalaropelaw10_OperApart.calls (a0 : Int) (a1 : Int) (r : Bool) (w : World) (h : phalaropelaw10_OperApart.f a0 a1 = some r) :
    Calls Try.prog 5 #[.int .u8 a0, .int .u8 a1] w fun e w' => e = .returned (.bool r) ∧ Below w.heap.size w w' := by
  simp only [phalaropelaw10_OperApart.f] at h
  split at h
  · rename_i hb
    obtain ⟨hb0, hb1⟩ := hb
    obtain rfl := Option.some.inj h
    clear h
    cases h0 : X.isOper a0 with
    | true =>
      cases h1 : X.isOper a1 with
      | true =>
        rcases op_cases h0 with rfl | rfl | rfl | rfl | rfl | rfl | rfl | rfl
        · exact ap_at_0 a1 hb1 h1 w
        · exact ap_at_43 a1 hb1 h1 w
        · exact ap_at_35 a1 hb1 h1 w
        · exact ap_at_46 a1 hb1 h1 w
        · exact ap_at_47 a1 hb1 h1 w
        · exact ap_at_59 a1 hb1 h1 w
        · exact ap_at_63 a1 hb1 h1 w
        · exact ap_at_38 a1 hb1 h1 w
      | false =>
        have hx := ap_of hb0
        rw [h0] at hx
        exact ap_yes_no a0 a1 _ _ _ _ _ w hx (ap_not hb1 h1)
    | false =>
      cases h1 : X.isOper a1 with
      | true =>
        have hy := ap_of hb1
        rw [h1] at hy
        exact ap_no_yes a0 a1 _ _ _ _ _ w (ap_not hb0 h0) hy
      | false => exact ap_no_no a0 a1 w (ap_not hb0 h0) (ap_not hb1 h1)
  · cases h
theorem u8_bounds {a : Int} (hw : (Lit.int .u8 a).wf = true) : 0 ≤ a ∧ a ≤ 255 := by
  have hw : (decide (IntKind.u8.min ≤ a) && decide (a ≤ IntKind.u8.max)) = true := hw
  rw [show IntKind.u8.min = 0 from by decide, show IntKind.u8.max = 255 from by decide, Bool.and_eq_true, decide_eq_true_eq, decide_eq_true_eq] at hw
  exact hw
theorem OperApart_walk {a0 a1 : Int} (W : World) (h0 : (Lit.int .u8 a0).wf = true) (h1 : (Lit.int .u8 a1).wf = true) :
    Calls Try.prog 5 #[.int .u8 a0, .int .u8 a1] W fun e w' => e = .returned (.bool true) ∧ Below W.heap.size W w' :=
  phalaropelaw10_OperApart.calls a0 a1 true W (by unfold phalaropelaw10_OperApart.f; rw [if_pos ⟨u8_bounds h0, u8_bounds h1⟩])
end Go.Proofs.Ytakgimjaiplmgaa.PC
