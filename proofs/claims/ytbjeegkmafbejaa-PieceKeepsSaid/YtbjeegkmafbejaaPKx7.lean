-- Printed by wip/xprint.py of this claim's authors, over the kit's print; not trusted: Lean checks it.
import Derived.Test.YtbjeegkmafbejaaPKx0
import Derived.Test.YtbjeegkmafbejaaPKx1
import Derived.Test.YtbjeegkmafbejaaPKx2
import Derived.Test.YtbjeegkmafbejaaPKx6
namespace Go.Proofs.Ytbjeegkmafbejaa.PK
open Go.RowKit Go.Proofs.YtbjeegkmafbejaaW.PrintWords Go.Proofs.YtbjeegkmafbejaaW.PrintLast Go.Proofs.YtbjeegkmafbejaaW.PrintMore
attribute [local go_sem] max2_int min2_int max_two min_two max_three min_three max_four min_four   -- for this text's walks alone
set_option linter.unusedVariables false
set_option linter.unusedSimpArgs false

/-! ### phalaropelaw11_PieceKeeps: function 6 -/
mutual
def phalaropelaw11_PieceKeeps.j0 : Nat → Int → ByteArray → Bool → Bool → ByteArray → ByteArray → Bool → ByteArray → Bool → Int → ByteArray → Option (Bool)
  | 0, _, _, _, _, _, _, _, _, _, _, _ => none
  | k + 1, x0, x1, x5, x39, x190000, x190001, x190002, x190003, x190004, x191000, x191001 => if x39 = true then (some x5) else ((piece_One.f x0 (⟨#[97]⟩ : ByteArray) 0 false x191000 x191001 ([] : List ByteArray) ([] : List (S69))).bind fun bt192 => (phalaropelaw11_PieceKeeps.l0 k x1 x5 bt192.1 bt192.2.2 0 0 x190000 x190001 x190002 x190003 x190004))
def phalaropelaw11_PieceKeeps.l0 : Nat → ByteArray → Bool → ByteArray → Int → Int → Int → ByteArray → ByteArray → Bool → ByteArray → Bool → Option (Bool)
  | 0, _, _, _, _, _, _, _, _, _, _, _ => none
  | k + 1, x1, x5, x9, x11, x12, x13, x190000, x190001, x190002, x190003, x190004 => if x13 < (x9.size : Int) then (if 0 ≤ x13 then ((phalaroperef02_Reserved.f k (bt x9 x13)).bind fun t195 => (if t195 = true then (phalaropelaw11_PieceKeeps.l0 k x1 x5 x9 x11 (wrap64 (x12 + 1)) (wrap64 (x13 + 1)) x190000 x190001 x190002 x190003 x190004) else (phalaropelaw11_PieceKeeps.l0 k x1 x5 x9 x11 x12 (wrap64 (x13 + 1)) x190000 x190001 x190002 x190003 x190004))) else (none)) else (phalaropelaw11_PieceKeeps.l1 k x1 x5 x11 x12 0 0 x190000 x190001 x190002 x190003 x190004)
def phalaropelaw11_PieceKeeps.l1 : Nat → ByteArray → Bool → Int → Int → Int → Int → ByteArray → ByteArray → Bool → ByteArray → Bool → Option (Bool)
  | 0, _, _, _, _, _, _, _, _, _, _, _ => none
  | k + 1, x1, x5, x11, x12, x14, x15, x190000, x190001, x190002, x190003, x190004 => if x15 < (x1.size : Int) then (if 0 ≤ x15 then ((phalaroperef02_Reserved.f k (bt x1 x15)).bind fun t196 => (if t196 = true then (phalaropelaw11_PieceKeeps.l1 k x1 x5 x11 x12 (wrap64 (x14 + 1)) (wrap64 (x15 + 1)) x190000 x190001 x190002 x190003 x190004) else (phalaropelaw11_PieceKeeps.l1 k x1 x5 x11 x12 x14 (wrap64 (x15 + 1)) x190000 x190001 x190002 x190003 x190004))) else (none)) else (if x5 = true then (if x11 = 0 then (if x190004 = true then (if x12 = x14 then (some true) else (some false)) else (some (x12 == 0))) else (some false)) else (some false))
end
def phalaropelaw11_PieceKeeps.f (k : Nat) (a0 : Int) (a1 : ByteArray) : Option (Bool) := (phalaropelaw11_awake.f).bind fun t182 => ((oper_Of.f a0).bind fun bt183 => (if bt183.2.2.2.2.2 = true then (if bt183.2.2.1 = true then (phalaropelaw11_PieceKeeps.j0 k a0 a1 t182 true bt183.1 bt183.2.1 bt183.2.2.1 bt183.2.2.2.1 bt183.2.2.2.2.1 1 a1) else (if (a1.size : Int) > 200 then (phalaropelaw11_PieceKeeps.j0 k a0 a1 t182 true bt183.1 bt183.2.1 bt183.2.2.1 bt183.2.2.2.1 bt183.2.2.2.2.1 1 a1) else ((phalaroperef08_Valid.f k 1 a1 ([] : List ByteArray) ([] : List (S69))).bind fun t191 => (phalaropelaw11_PieceKeeps.j0 k a0 a1 t182 (!t191) bt183.1 bt183.2.1 bt183.2.2.1 bt183.2.2.2.1 bt183.2.2.2.2.1 1 a1)))) else (phalaropelaw11_PieceKeeps.j0 k a0 a1 t182 true bt183.1 bt183.2.1 bt183.2.2.1 bt183.2.2.2.1 bt183.2.2.2.2.1 1 a1)))
theorem phalaropelaw11_PieceKeeps.mono_l : ∀ k, (∀ y0 y1 y2 y3 y4 y5 y6 y7 y8 y9 y10, LeO (phalaropelaw11_PieceKeeps.j0 k y0 y1 y2 y3 y4 y5 y6 y7 y8 y9 y10) (phalaropelaw11_PieceKeeps.j0 (k + 1) y0 y1 y2 y3 y4 y5 y6 y7 y8 y9 y10)) ∧ (∀ y0 y1 y2 y3 y4 y5 y6 y7 y8 y9 y10, LeO (phalaropelaw11_PieceKeeps.l0 k y0 y1 y2 y3 y4 y5 y6 y7 y8 y9 y10) (phalaropelaw11_PieceKeeps.l0 (k + 1) y0 y1 y2 y3 y4 y5 y6 y7 y8 y9 y10)) ∧ (∀ y0 y1 y2 y3 y4 y5 y6 y7 y8 y9 y10, LeO (phalaropelaw11_PieceKeeps.l1 k y0 y1 y2 y3 y4 y5 y6 y7 y8 y9 y10) (phalaropelaw11_PieceKeeps.l1 (k + 1) y0 y1 y2 y3 y4 y5 y6 y7 y8 y9 y10))
  | 0 => ⟨fun _ _ _ _ _ _ _ _ _ _ _ r h => by simp [phalaropelaw11_PieceKeeps.j0] at h, fun _ _ _ _ _ _ _ _ _ _ _ r h => by simp [phalaropelaw11_PieceKeeps.l0] at h, fun _ _ _ _ _ _ _ _ _ _ _ r h => by simp [phalaropelaw11_PieceKeeps.l1] at h⟩
  | k + 1 => by
    obtain ⟨ih0, ih1, ih2⟩ := phalaropelaw11_PieceKeeps.mono_l k
    refine ⟨?_, ?_, ?_⟩
    · intro y0 y1 y2 y3 y4 y5 y6 y7 y8 y9 y10
      unfold phalaropelaw11_PieceKeeps.j0
      repeat' first
      | (with_reducible exact ih0 _ _ _ _ _ _ _ _ _ _ _)
      | (with_reducible exact ih1 _ _ _ _ _ _ _ _ _ _ _)
      | (with_reducible exact ih2 _ _ _ _ _ _ _ _ _ _ _)
      | (with_reducible exact phalaroperef02_Reserved.mono _ _)
      | (with_reducible exact phalaroperef08_Valid.mono _ _ _ _ _)
      | (with_reducible exact LeO.refl _)
      | (with_reducible exact LeO.none _)
      | (with_reducible refine LeO.ite ?_ ?_)
      | (with_reducible refine LeO.bind ?_ (fun _ => ?_))
      | exact ih0 _ _ _ _ _ _ _ _ _ _ _
      | exact ih1 _ _ _ _ _ _ _ _ _ _ _
      | exact ih2 _ _ _ _ _ _ _ _ _ _ _
      | exact phalaroperef02_Reserved.mono _ _
      | exact phalaroperef08_Valid.mono _ _ _ _ _
      | exact LeO.none _
      | refine LeO.ite ?_ ?_
      | refine LeO.bind ?_ (fun _ => ?_)
    · intro y0 y1 y2 y3 y4 y5 y6 y7 y8 y9 y10
      unfold phalaropelaw11_PieceKeeps.l0
      repeat' first
      | (with_reducible exact ih0 _ _ _ _ _ _ _ _ _ _ _)
      | (with_reducible exact ih1 _ _ _ _ _ _ _ _ _ _ _)
      | (with_reducible exact ih2 _ _ _ _ _ _ _ _ _ _ _)
      | (with_reducible exact phalaroperef02_Reserved.mono _ _)
      | (with_reducible exact phalaroperef08_Valid.mono _ _ _ _ _)
      | (with_reducible exact LeO.refl _)
      | (with_reducible exact LeO.none _)
      | (with_reducible refine LeO.ite ?_ ?_)
      | (with_reducible refine LeO.bind ?_ (fun _ => ?_))
      | exact ih0 _ _ _ _ _ _ _ _ _ _ _
      | exact ih1 _ _ _ _ _ _ _ _ _ _ _
      | exact ih2 _ _ _ _ _ _ _ _ _ _ _
      | exact phalaroperef02_Reserved.mono _ _
      | exact phalaroperef08_Valid.mono _ _ _ _ _
      | exact LeO.none _
      | refine LeO.ite ?_ ?_
      | refine LeO.bind ?_ (fun _ => ?_)
    · intro y0 y1 y2 y3 y4 y5 y6 y7 y8 y9 y10
      unfold phalaropelaw11_PieceKeeps.l1
      repeat' first
      | (with_reducible exact ih0 _ _ _ _ _ _ _ _ _ _ _)
      | (with_reducible exact ih1 _ _ _ _ _ _ _ _ _ _ _)
      | (with_reducible exact ih2 _ _ _ _ _ _ _ _ _ _ _)
      | (with_reducible exact phalaroperef02_Reserved.mono _ _)
      | (with_reducible exact phalaroperef08_Valid.mono _ _ _ _ _)
      | (with_reducible exact LeO.refl _)
      | (with_reducible exact LeO.none _)
      | (with_reducible refine LeO.ite ?_ ?_)
      | (with_reducible refine LeO.bind ?_ (fun _ => ?_))
      | exact ih0 _ _ _ _ _ _ _ _ _ _ _
      | exact ih1 _ _ _ _ _ _ _ _ _ _ _
      | exact ih2 _ _ _ _ _ _ _ _ _ _ _
      | exact phalaroperef02_Reserved.mono _ _
      | exact phalaroperef08_Valid.mono _ _ _ _ _
      | exact LeO.none _
      | refine LeO.ite ?_ ?_
      | refine LeO.bind ?_ (fun _ => ?_)
theorem phalaropelaw11_PieceKeeps.mono : ∀ a0 a1 k, LeO (phalaropelaw11_PieceKeeps.f k a0 a1) (phalaropelaw11_PieceKeeps.f (k + 1) a0 a1) := by
  intro a0 a1 k
  obtain ⟨ih0, ih1, ih2⟩ := phalaropelaw11_PieceKeeps.mono_l k
  unfold phalaropelaw11_PieceKeeps.f
  repeat' first
      | (with_reducible exact ih0 _ _ _ _ _ _ _ _ _ _ _)
      | (with_reducible exact ih1 _ _ _ _ _ _ _ _ _ _ _)
      | (with_reducible exact ih2 _ _ _ _ _ _ _ _ _ _ _)
      | (with_reducible exact phalaroperef02_Reserved.mono _ _)
      | (with_reducible exact phalaroperef08_Valid.mono _ _ _ _ _)
      | (with_reducible exact LeO.refl _)
      | (with_reducible exact LeO.none _)
      | (with_reducible refine LeO.ite ?_ ?_)
      | (with_reducible refine LeO.bind ?_ (fun _ => ?_))
      | exact ih0 _ _ _ _ _ _ _ _ _ _ _
      | exact ih1 _ _ _ _ _ _ _ _ _ _ _
      | exact ih2 _ _ _ _ _ _ _ _ _ _ _
      | exact phalaroperef02_Reserved.mono _ _
      | exact phalaroperef08_Valid.mono _ _ _ _ _
      | exact LeO.none _
      | refine LeO.ite ?_ ?_
      | refine LeO.bind ?_ (fun _ => ?_)
set_option maxHeartbeats 8000000 in
set_option maxRecDepth 100000 in
theorem phalaropelaw11_PieceKeeps.calls (k : Nat) (a0 : Int) (a1 : ByteArray) (r : Bool) (w : World) (h : phalaropelaw11_PieceKeeps.f k a0 a1 = some r) :
    Calls Try.prog 6 #[.int .u8 a0, .string a1] w fun e w' => e = .returned (.bool r) ∧ Below w.heap.size w w' := by
  have hu43 := Try.underlying43
  have hu27 := Try.underlying27
  have hu23 := Try.underlying23
  have HB := Aside0.mk (Below.refl w.heap.size w)
  have H : ((phalaropelaw11_awake.f).bind fun t182 => ((oper_Of.f a0).bind fun bt183 => (if bt183.2.2.2.2.2 = true then (if bt183.2.2.1 = true then (phalaropelaw11_PieceKeeps.j0 k a0 a1 t182 true bt183.1 bt183.2.1 bt183.2.2.1 bt183.2.2.2.1 bt183.2.2.2.2.1 1 a1) else (if (a1.size : Int) > 200 then (phalaropelaw11_PieceKeeps.j0 k a0 a1 t182 true bt183.1 bt183.2.1 bt183.2.2.1 bt183.2.2.2.1 bt183.2.2.2.2.1 1 a1) else ((phalaroperef08_Valid.f k 1 a1 ([] : List ByteArray) ([] : List (S69))).bind fun t191 => (phalaropelaw11_PieceKeeps.j0 k a0 a1 t182 (!t191) bt183.1 bt183.2.1 bt183.2.2.1 bt183.2.2.2.1 bt183.2.2.2.2.1 1 a1)))) else (phalaropelaw11_PieceKeeps.j0 k a0 a1 t182 true bt183.1 bt183.2.1 bt183.2.2.1 bt183.2.2.2.1 bt183.2.2.2.2.1 1 a1)))) = some r := h
  clear h
  replace H := Option.bind_eq_some_iff.mp H
  obtain ⟨t182, A30, H⟩ := H
  replace H : ((oper_Of.f a0).bind fun bt183 => (if bt183.2.2.2.2.2 = true then (if bt183.2.2.1 = true then (phalaropelaw11_PieceKeeps.j0 k a0 a1 t182 true bt183.1 bt183.2.1 bt183.2.2.1 bt183.2.2.2.1 bt183.2.2.2.2.1 1 a1) else (if (a1.size : Int) > 200 then (phalaropelaw11_PieceKeeps.j0 k a0 a1 t182 true bt183.1 bt183.2.1 bt183.2.2.1 bt183.2.2.2.1 bt183.2.2.2.2.1 1 a1) else ((phalaroperef08_Valid.f k 1 a1 ([] : List ByteArray) ([] : List (S69))).bind fun t191 => (phalaropelaw11_PieceKeeps.j0 k a0 a1 t182 (!t191) bt183.1 bt183.2.1 bt183.2.2.1 bt183.2.2.2.1 bt183.2.2.2.2.1 1 a1)))) else (phalaropelaw11_PieceKeeps.j0 k a0 a1 t182 true bt183.1 bt183.2.1 bt183.2.2.1 bt183.2.2.2.1 bt183.2.2.2.2.1 1 a1))) = some r := H
  have A3 := Aside0.mk A30
  clear A30
  replace H := Option.bind_eq_some_iff.mp H
  obtain ⟨⟨t183, t184, t185, t186, t187, t188⟩, A40, H⟩ := H
  replace H : (if t188 = true then (if t185 = true then (phalaropelaw11_PieceKeeps.j0 k a0 a1 t182 true t183 t184 t185 t186 t187 1 a1) else (if (a1.size : Int) > 200 then (phalaropelaw11_PieceKeeps.j0 k a0 a1 t182 true t183 t184 t185 t186 t187 1 a1) else ((phalaroperef08_Valid.f k 1 a1 ([] : List ByteArray) ([] : List (S69))).bind fun t191 => (phalaropelaw11_PieceKeeps.j0 k a0 a1 t182 (!t191) t183 t184 t185 t186 t187 1 a1)))) else (phalaropelaw11_PieceKeeps.j0 k a0 a1 t182 true t183 t184 t185 t186 t187 1 a1)) = some r := H
  have A4 := Aside0.mk A40
  clear A40
  have HC5 := Aside0.mk H
  clear H
  go_enter Try.func6, Try.ntmps6
  go_upto_region 4 with (first | ((with_reducible refine gate_callee (f := 8) rfl ?_); refine goesL_ (some 16) rfl rfl Try.func8 (by kernel_rfl) rfl #[] rfl (by (try simp only [List.map_toArray, List.map_cons, List.map_nil]); first | done | rfl | (simp only [List.length_drop, List.length_take]; rfl)) ?_; (with_reducible refine (phalaropelaw11_awake.calls  t182 _ A3.out).mono ?_); rintro e w6 ⟨rfl, hb⟩; refine ⟨_, rfl, ?_⟩; have n0_ := Aside0.mk (below_step (by repeat (first | (with_reducible first | exact HB.out | apply below_alloc | apply pw_below_drewN | apply below_drew1) | exact HB.out)) hb); clear HB; have HB := n0_; clear n0_; (try clear hb); (try clear hb2); (try clear hk); (try clear hi)) | ((with_reducible refine gate_callee (f := 18) rfl ?_); refine goesL_ (some 19) rfl rfl Try.func18 (by kernel_rfl) rfl #[.int .u8 a0] rfl (by (try simp only [List.map_toArray, List.map_cons, List.map_nil]); first | done | rfl | (simp only [List.length_drop, List.length_take]; rfl)) ?_; (with_reducible refine (oper_Of.calls a0 t183 t184 t185 t186 t187 t188 _ A4.out).mono ?_); rintro e w7 ⟨rfl, hb⟩; refine ⟨_, rfl, ?_⟩; have n0_ := Aside0.mk (below_step (by repeat (first | (with_reducible first | exact HB.out | apply below_alloc | apply pw_below_drewN | apply below_drew1) | exact HB.out)) hb); clear HB; have HB := n0_; clear n0_; (try clear hb); (try clear hb2); (try clear hk); (try clear hi)) | ((with_reducible refine gate_dst (N := 6) rfl ?_); (try (refine gate_guard (by rfl) ?_; dsimp only)); refine box_event ?hg (N := 6) ?hd (cs := #[.string (⟨#[]⟩ : ByteArray), .string (⟨#[]⟩ : ByteArray), .bool false, .string (⟨#[]⟩ : ByteArray), .bool false]) (t := 43) ?hr ?_; (case hd => rfl); (case hg => rfl); (case hr => first | (go_simp; done) | (go_simp; rfl)); intro gb189 hg w8 hbox hb; have n0_ := Aside0.mk (below_step (by repeat (first | (with_reducible first | exact HB.out | apply below_alloc | apply pw_below_drewN | apply below_drew1) | exact HB.out)) hb); have n1_ := Aside0.mk (hbox); have n2_ := Aside0.mk ((by rw [hg]; exact (below_size (by repeat (first | (with_reducible first | exact HB.out | apply below_alloc | apply pw_below_drewN | apply below_drew1) | exact HB.out))) : w.heap.size ≤ gb189)); have n3_ := Aside0.mk ((by rw [hg]; exact (below_size (by repeat (first | (with_reducible first | exact HB.out | apply below_alloc | apply pw_below_drewN | apply below_drew1) | exact HB.out))) : w.heap.size ≤ gb189)); clear HB; have HB := n0_; have BK189 := n1_; have GW189 := n2_; have GE189 := n3_; clear n0_ n1_ n2_ n3_; clear hb hbox hg; have hcz9_0 : w8.cell? ⟨gb189, 0, none⟩ = some (.string (⟨#[]⟩ : ByteArray)) := (blk_cell BK189.out 0).trans rfl; have hcz9_1 : w8.cell? ⟨gb189, 1, none⟩ = some (.string (⟨#[]⟩ : ByteArray)) := (blk_cell BK189.out 1).trans rfl; have hcz9_2 : w8.cell? ⟨gb189, 2, none⟩ = some (.bool false) := (blk_cell BK189.out 2).trans rfl; have hcz9_3 : w8.cell? ⟨gb189, 3, none⟩ = some (.string (⟨#[]⟩ : ByteArray)) := (blk_cell BK189.out 3).trans rfl; have hcz9_4 : w8.cell? ⟨gb189, 4, none⟩ = some (.bool false) := (blk_cell BK189.out 4).trans rfl; have hfz9_0 := blk_frozen BK189.out 0; have hfz9_1 := blk_frozen BK189.out 1; have hfz9_2 := blk_frozen BK189.out 2; have hfz9_3 := blk_frozen BK189.out 3; have hfz9_4 := blk_frozen BK189.out 4) | ((with_reducible refine gate_dst (N := 8) rfl ?_); (try (refine gate_guard (by rfl) ?_; dsimp only)); refine box_event ?hg (N := 8) ?hd (cs := #[.int .i64 0, .string (⟨#[]⟩ : ByteArray), .slice none 0 0, .slice none 0 0]) (t := 27) ?hr ?_; (case hd => rfl); (case hg => rfl); (case hr => first | (go_simp; done) | (go_simp; rfl)); intro gb190 hg w10 hbox hb; have n0_ := Aside0.mk (blk_below (g := gb189) (o := .cells #[.string t183, .string t184, .bool t185, .string t186, .bool t187] 43 (0, 0)) (by (with_reducible repeat (first | refine blk_drewN ?_ _ | refine blk_drew ?_ | refine blk_alloc ?_ _)); refine blk_put (cs := #[.string t183, .string t184, .bool t185, .string t186, .bool false]) ?_ 4 _ rfl; (with_reducible repeat (first | refine blk_drewN ?_ _ | refine blk_drew ?_ | refine blk_alloc ?_ _)); refine blk_put (cs := #[.string t183, .string t184, .bool t185, .string (⟨#[]⟩ : ByteArray), .bool false]) ?_ 3 _ rfl; (with_reducible repeat (first | refine blk_drewN ?_ _ | refine blk_drew ?_ | refine blk_alloc ?_ _)); refine blk_put (cs := #[.string t183, .string t184, .bool false, .string (⟨#[]⟩ : ByteArray), .bool false]) ?_ 2 _ rfl; (with_reducible repeat (first | refine blk_drewN ?_ _ | refine blk_drew ?_ | refine blk_alloc ?_ _)); refine blk_put (cs := #[.string t183, .string (⟨#[]⟩ : ByteArray), .bool false, .string (⟨#[]⟩ : ByteArray), .bool false]) ?_ 1 _ rfl; (with_reducible repeat (first | refine blk_drewN ?_ _ | refine blk_drew ?_ | refine blk_alloc ?_ _)); refine blk_put (cs := #[.string (⟨#[]⟩ : ByteArray), .string (⟨#[]⟩ : ByteArray), .bool false, .string (⟨#[]⟩ : ByteArray), .bool false]) ?_ 0 _ rfl; (with_reducible repeat (first | refine blk_drewN ?_ _ | refine blk_drew ?_ | refine blk_alloc ?_ _)); exact BK189.out) hb); have n1_ := Aside0.mk (below_step (by repeat (first | (with_reducible first | exact HB.out | apply below_alloc | apply pw_below_drewN | apply below_drew1 | refine below_set ?_ GE189.out) | exact HB.out)) hb); have n2_ := Aside0.mk (hbox); have n3_ := Aside0.mk ((by rw [hg]; exact (below_size (by repeat (first | (with_reducible first | exact HB.out | apply below_alloc | apply pw_below_drewN | apply below_drew1 | refine below_set ?_ GE189.out) | exact HB.out))) : w.heap.size ≤ gb190)); have n4_ := Aside0.mk ((by rw [hg]; exact (below_size (by repeat (first | (with_reducible first | exact HB.out | apply below_alloc | apply pw_below_drewN | apply below_drew1 | refine below_set ?_ GE189.out) | exact HB.out))) : w.heap.size ≤ gb190)); have n5_ := Aside0.mk ((by rw [hg]; exact Nat.ne_of_lt (blk_lt (g := gb189) (o := .cells #[.string t183, .string t184, .bool t185, .string t186, .bool t187] 43 (0, 0)) (by (with_reducible repeat (first | refine blk_drewN ?_ _ | refine blk_drew ?_ | refine blk_alloc ?_ _)); refine blk_put (cs := #[.string t183, .string t184, .bool t185, .string t186, .bool false]) ?_ 4 _ rfl; (with_reducible repeat (first | refine blk_drewN ?_ _ | refine blk_drew ?_ | refine blk_alloc ?_ _)); refine blk_put (cs := #[.string t183, .string t184, .bool t185, .string (⟨#[]⟩ : ByteArray), .bool false]) ?_ 3 _ rfl; (with_reducible repeat (first | refine blk_drewN ?_ _ | refine blk_drew ?_ | refine blk_alloc ?_ _)); refine blk_put (cs := #[.string t183, .string t184, .bool false, .string (⟨#[]⟩ : ByteArray), .bool false]) ?_ 2 _ rfl; (with_reducible repeat (first | refine blk_drewN ?_ _ | refine blk_drew ?_ | refine blk_alloc ?_ _)); refine blk_put (cs := #[.string t183, .string (⟨#[]⟩ : ByteArray), .bool false, .string (⟨#[]⟩ : ByteArray), .bool false]) ?_ 1 _ rfl; (with_reducible repeat (first | refine blk_drewN ?_ _ | refine blk_drew ?_ | refine blk_alloc ?_ _)); refine blk_put (cs := #[.string (⟨#[]⟩ : ByteArray), .string (⟨#[]⟩ : ByteArray), .bool false, .string (⟨#[]⟩ : ByteArray), .bool false]) ?_ 0 _ rfl; (with_reducible repeat (first | refine blk_drewN ?_ _ | refine blk_drew ?_ | refine blk_alloc ?_ _)); exact BK189.out)) : gb189 ≠ gb190)); have n6_ := Aside0.mk ((by rw [hg]; exact Nat.ne_of_gt (blk_lt (g := gb189) (o := .cells #[.string t183, .string t184, .bool t185, .string t186, .bool t187] 43 (0, 0)) (by (with_reducible repeat (first | refine blk_drewN ?_ _ | refine blk_drew ?_ | refine blk_alloc ?_ _)); refine blk_put (cs := #[.string t183, .string t184, .bool t185, .string t186, .bool false]) ?_ 4 _ rfl; (with_reducible repeat (first | refine blk_drewN ?_ _ | refine blk_drew ?_ | refine blk_alloc ?_ _)); refine blk_put (cs := #[.string t183, .string t184, .bool t185, .string (⟨#[]⟩ : ByteArray), .bool false]) ?_ 3 _ rfl; (with_reducible repeat (first | refine blk_drewN ?_ _ | refine blk_drew ?_ | refine blk_alloc ?_ _)); refine blk_put (cs := #[.string t183, .string t184, .bool false, .string (⟨#[]⟩ : ByteArray), .bool false]) ?_ 2 _ rfl; (with_reducible repeat (first | refine blk_drewN ?_ _ | refine blk_drew ?_ | refine blk_alloc ?_ _)); refine blk_put (cs := #[.string t183, .string (⟨#[]⟩ : ByteArray), .bool false, .string (⟨#[]⟩ : ByteArray), .bool false]) ?_ 1 _ rfl; (with_reducible repeat (first | refine blk_drewN ?_ _ | refine blk_drew ?_ | refine blk_alloc ?_ _)); refine blk_put (cs := #[.string (⟨#[]⟩ : ByteArray), .string (⟨#[]⟩ : ByteArray), .bool false, .string (⟨#[]⟩ : ByteArray), .bool false]) ?_ 0 _ rfl; (with_reducible repeat (first | refine blk_drewN ?_ _ | refine blk_drew ?_ | refine blk_alloc ?_ _)); exact BK189.out)) : gb190 ≠ gb189)); clear BK189; clear HB; have BK189 := n0_; have HB := n1_; have BK190 := n2_; have GW190 := n3_; have GE190 := n4_; have NB189_190 := n5_; have NB190_189 := n6_; clear n0_ n1_ n2_ n3_ n4_ n5_ n6_; clear hb hbox hg; have hnb11 := NB190_189.out; have hnc11 := NB189_190.out; have hcz12_0 : w10.cell? ⟨gb190, 0, none⟩ = some (.int .i64 0) := (blk_cell BK190.out 0).trans rfl; have hcz12_1 : w10.cell? ⟨gb190, 1, none⟩ = some (.string (⟨#[]⟩ : ByteArray)) := (blk_cell BK190.out 1).trans rfl; have hcz12_2 : w10.cell? ⟨gb190, 2, none⟩ = some (.slice none 0 0) := (blk_cell BK190.out 2).trans rfl; have hcz12_3 : w10.cell? ⟨gb190, 3, none⟩ = some (.slice none 0 0) := (blk_cell BK190.out 3).trans rfl; have hfz12_0 := blk_frozen BK190.out 0; have hfz12_1 := blk_frozen BK190.out 1; have hfz12_2 := blk_frozen BK190.out 2; have hfz12_3 := blk_frozen BK190.out 3))
  (try simp only [Act.put, List.setIfInBounds_toArray, List.set_cons_zero, List.set_cons_succ])
  go_cut [39] (fun v39 wc => ∃ (kq : Nat) (x39_4 : Bool), v39 = .bool x39_4 ∧ Aside0 (phalaropelaw11_PieceKeeps.j0 kq a0 a1 t182 x39_4 t183 t184 t185 t186 t187 1 a1 = some r) ∧ Aside0 (kq ≤ k) ∧ Aside0 (wc.heap[gb189]? = some (.cells #[.string t183, .string t184, .bool t185, .string t186, .bool t187] 43 (0, 0))) ∧ Aside0 (wc.heap[gb190]? = some (.cells #[.int .i64 1, .string a1, (.slice none 0 0), (.slice none 0 0)] 27 (0, 0))) ∧ Aside0 (Below w.heap.size w wc))
  case first =>
    have H := HC5.out
    clear HC5
    by_cases c13 : t188 = true
    · subst c13
      have H1 : (if t185 = true then (phalaropelaw11_PieceKeeps.j0 k a0 a1 t182 true t183 t184 t185 t186 t187 1 a1) else (if (a1.size : Int) > 200 then (phalaropelaw11_PieceKeeps.j0 k a0 a1 t182 true t183 t184 t185 t186 t187 1 a1) else ((phalaroperef08_Valid.f k 1 a1 ([] : List ByteArray) ([] : List (S69))).bind fun t191 => (phalaropelaw11_PieceKeeps.j0 k a0 a1 t182 (!t191) t183 t184 t185 t186 t187 1 a1)))) = some r := by rw [if_pos rfl] at H; exact H
      clear H
      have H := H1
      clear H1
      by_cases c14 : t185 = true
      · subst c14
        have H1 : (phalaropelaw11_PieceKeeps.j0 k a0 a1 t182 true t183 t184 true t186 t187 1 a1) = some r := by rw [if_pos rfl] at H; exact H
        clear H
        have H := H1
        clear H1
        have H' := Aside0.mk H
        clear H
        have hnb15 := NB189_190.out
        have hnc15 := NB190_189.out
        have hcz16_0 : w10.cell? ⟨gb189, 0, none⟩ = some (.string t183) := (blk_cell BK189.out 0).trans rfl
        have hcz16_1 : w10.cell? ⟨gb189, 1, none⟩ = some (.string t184) := (blk_cell BK189.out 1).trans rfl
        have hcz16_2 : w10.cell? ⟨gb189, 2, none⟩ = some (.bool true) := (blk_cell BK189.out 2).trans rfl
        have hcz16_3 : w10.cell? ⟨gb189, 3, none⟩ = some (.string t186) := (blk_cell BK189.out 3).trans rfl
        have hcz16_4 : w10.cell? ⟨gb189, 4, none⟩ = some (.bool t187) := (blk_cell BK189.out 4).trans rfl
        have hfz16_0 := blk_frozen BK189.out 0
        have hfz16_1 := blk_frozen BK189.out 1
        have hfz16_2 := blk_frozen BK189.out 2
        have hfz16_3 := blk_frozen BK189.out 3
        have hfz16_4 := blk_frozen BK189.out 4
        go_wp2
        go_meet
        case rel => exact ⟨_, (true), (by first | rfl | (simp; done) | (simp [*]; done)), H', ⟨by first | omega | exact Nat.le_refl _⟩, ⟨by (with_reducible repeat (first | refine blk_drewN ?_ _ | refine blk_drew ?_ | refine blk_alloc ?_ _)); refine blk_far ?_ NB189_190.out _; (with_reducible repeat (first | refine blk_drewN ?_ _ | refine blk_drew ?_ | refine blk_alloc ?_ _)); refine blk_far ?_ NB189_190.out _; (with_reducible repeat (first | refine blk_drewN ?_ _ | refine blk_drew ?_ | refine blk_alloc ?_ _)); refine blk_far ?_ NB189_190.out _; (with_reducible repeat (first | refine blk_drewN ?_ _ | refine blk_drew ?_ | refine blk_alloc ?_ _)); refine blk_far ?_ NB189_190.out _; (with_reducible repeat (first | refine blk_drewN ?_ _ | refine blk_drew ?_ | refine blk_alloc ?_ _)); exact BK189.out⟩, ⟨by (with_reducible repeat (first | refine blk_drewN ?_ _ | refine blk_drew ?_ | refine blk_alloc ?_ _)); refine blk_put (cs := #[.int .i64 1, .string a1, .slice none 0 0, .slice none 0 0]) ?_ 3 _ rfl; (with_reducible repeat (first | refine blk_drewN ?_ _ | refine blk_drew ?_ | refine blk_alloc ?_ _)); refine blk_put (cs := #[.int .i64 1, .string a1, .slice none 0 0, .slice none 0 0]) ?_ 2 _ rfl; (with_reducible repeat (first | refine blk_drewN ?_ _ | refine blk_drew ?_ | refine blk_alloc ?_ _)); refine blk_put (cs := #[.int .i64 1, .string (⟨#[]⟩ : ByteArray), .slice none 0 0, .slice none 0 0]) ?_ 1 _ rfl; (with_reducible repeat (first | refine blk_drewN ?_ _ | refine blk_drew ?_ | refine blk_alloc ?_ _)); refine blk_put (cs := #[.int .i64 0, .string (⟨#[]⟩ : ByteArray), .slice none 0 0, .slice none 0 0]) ?_ 0 _ rfl; (with_reducible repeat (first | refine blk_drewN ?_ _ | refine blk_drew ?_ | refine blk_alloc ?_ _)); exact BK190.out⟩, ⟨by repeat (first | (with_reducible first | exact HB.out | apply below_alloc | apply pw_below_drewN | apply below_drew1 | refine below_set ?_ GE189.out | refine below_set ?_ GE190.out) | exact HB.out)⟩⟩
      · replace c14 := Bool.eq_false_iff.mpr c14
        subst c14
        have H1 : (if (a1.size : Int) > 200 then (phalaropelaw11_PieceKeeps.j0 k a0 a1 t182 true t183 t184 false t186 t187 1 a1) else ((phalaroperef08_Valid.f k 1 a1 ([] : List ByteArray) ([] : List (S69))).bind fun t191 => (phalaropelaw11_PieceKeeps.j0 k a0 a1 t182 (!t191) t183 t184 false t186 t187 1 a1))) = some r := by rw [if_neg (show ¬ (false = true) by decide)] at H; exact H
        clear H
        have H := H1
        clear H1
        by_cases c17 : (a1.size : Int) > 200
        · rw [if_pos c17] at H
          have c17b0 : decide (200 < (a1.size : Int)) = true := decide_eq_true c17
          have c17b1 : decide (200 < a1.size) = true := decide_eq_true (by omega)
          clear c17
          (first | rw [c17b0] | (simp only [i64_w, i32_w]; rw [c17b0]) | skip)
          have H' := Aside0.mk H
          clear H
          have hnb18 := NB189_190.out
          have hnc18 := NB190_189.out
          have hcz19_0 : w10.cell? ⟨gb189, 0, none⟩ = some (.string t183) := (blk_cell BK189.out 0).trans rfl
          have hcz19_1 : w10.cell? ⟨gb189, 1, none⟩ = some (.string t184) := (blk_cell BK189.out 1).trans rfl
          have hcz19_2 : w10.cell? ⟨gb189, 2, none⟩ = some (.bool false) := (blk_cell BK189.out 2).trans rfl
          have hcz19_3 : w10.cell? ⟨gb189, 3, none⟩ = some (.string t186) := (blk_cell BK189.out 3).trans rfl
          have hcz19_4 : w10.cell? ⟨gb189, 4, none⟩ = some (.bool t187) := (blk_cell BK189.out 4).trans rfl
          have hfz19_0 := blk_frozen BK189.out 0
          have hfz19_1 := blk_frozen BK189.out 1
          have hfz19_2 := blk_frozen BK189.out 2
          have hfz19_3 := blk_frozen BK189.out 3
          have hfz19_4 := blk_frozen BK189.out 4
          go_wp2
          go_meet
          case rel => exact ⟨_, (true), (by first | rfl | (simp; done) | (simp [*]; done)), H', ⟨by first | omega | exact Nat.le_refl _⟩, ⟨by (with_reducible repeat (first | refine blk_drewN ?_ _ | refine blk_drew ?_ | refine blk_alloc ?_ _)); refine blk_far ?_ NB189_190.out _; (with_reducible repeat (first | refine blk_drewN ?_ _ | refine blk_drew ?_ | refine blk_alloc ?_ _)); refine blk_far ?_ NB189_190.out _; (with_reducible repeat (first | refine blk_drewN ?_ _ | refine blk_drew ?_ | refine blk_alloc ?_ _)); refine blk_far ?_ NB189_190.out _; (with_reducible repeat (first | refine blk_drewN ?_ _ | refine blk_drew ?_ | refine blk_alloc ?_ _)); refine blk_far ?_ NB189_190.out _; (with_reducible repeat (first | refine blk_drewN ?_ _ | refine blk_drew ?_ | refine blk_alloc ?_ _)); exact BK189.out⟩, ⟨by (with_reducible repeat (first | refine blk_drewN ?_ _ | refine blk_drew ?_ | refine blk_alloc ?_ _)); refine blk_put (cs := #[.int .i64 1, .string a1, .slice none 0 0, .slice none 0 0]) ?_ 3 _ rfl; (with_reducible repeat (first | refine blk_drewN ?_ _ | refine blk_drew ?_ | refine blk_alloc ?_ _)); refine blk_put (cs := #[.int .i64 1, .string a1, .slice none 0 0, .slice none 0 0]) ?_ 2 _ rfl; (with_reducible repeat (first | refine blk_drewN ?_ _ | refine blk_drew ?_ | refine blk_alloc ?_ _)); refine blk_put (cs := #[.int .i64 1, .string (⟨#[]⟩ : ByteArray), .slice none 0 0, .slice none 0 0]) ?_ 1 _ rfl; (with_reducible repeat (first | refine blk_drewN ?_ _ | refine blk_drew ?_ | refine blk_alloc ?_ _)); refine blk_put (cs := #[.int .i64 0, .string (⟨#[]⟩ : ByteArray), .slice none 0 0, .slice none 0 0]) ?_ 0 _ rfl; (with_reducible repeat (first | refine blk_drewN ?_ _ | refine blk_drew ?_ | refine blk_alloc ?_ _)); exact BK190.out⟩, ⟨by repeat (first | (with_reducible first | exact HB.out | apply below_alloc | apply pw_below_drewN | apply below_drew1 | refine below_set ?_ GE189.out | refine below_set ?_ GE190.out) | exact HB.out)⟩⟩
        · rw [if_neg c17] at H
          have c17b0 : decide (200 < (a1.size : Int)) = false := decide_eq_false c17
          have c17b1 : decide (200 < a1.size) = false := decide_eq_false (by omega)
          clear c17
          (first | rw [c17b0] | (simp only [i64_w, i32_w]; rw [c17b0]) | skip)
          replace H := Option.bind_eq_some_iff.mp H
          obtain ⟨t191, A200, H⟩ := H
          replace H : (phalaropelaw11_PieceKeeps.j0 k a0 a1 t182 (!t191) t183 t184 false t186 t187 1 a1) = some r := H
          have A20 := Aside0.mk A200
          clear A200
          have H' := Aside0.mk H
          clear H
          have hnb21 := NB189_190.out
          have hnc21 := NB190_189.out
          have hcz22_0 : w10.cell? ⟨gb189, 0, none⟩ = some (.string t183) := (blk_cell BK189.out 0).trans rfl
          have hcz22_1 : w10.cell? ⟨gb189, 1, none⟩ = some (.string t184) := (blk_cell BK189.out 1).trans rfl
          have hcz22_2 : w10.cell? ⟨gb189, 2, none⟩ = some (.bool false) := (blk_cell BK189.out 2).trans rfl
          have hcz22_3 : w10.cell? ⟨gb189, 3, none⟩ = some (.string t186) := (blk_cell BK189.out 3).trans rfl
          have hcz22_4 : w10.cell? ⟨gb189, 4, none⟩ = some (.bool t187) := (blk_cell BK189.out 4).trans rfl
          have hfz22_0 := blk_frozen BK189.out 0
          have hfz22_1 := blk_frozen BK189.out 1
          have hfz22_2 := blk_frozen BK189.out 2
          have hfz22_3 := blk_frozen BK189.out 3
          have hfz22_4 := blk_frozen BK189.out 4
          have hcz23_0 : w10.cell? ⟨gb190, 0, none⟩ = some (.int .i64 0) := (blk_cell BK190.out 0).trans rfl
          have hcz23_1 : w10.cell? ⟨gb190, 1, none⟩ = some (.string (⟨#[]⟩ : ByteArray)) := (blk_cell BK190.out 1).trans rfl
          have hcz23_2 : w10.cell? ⟨gb190, 2, none⟩ = some (.slice none 0 0) := (blk_cell BK190.out 2).trans rfl
          have hcz23_3 : w10.cell? ⟨gb190, 3, none⟩ = some (.slice none 0 0) := (blk_cell BK190.out 3).trans rfl
          have hfz23_0 := blk_frozen BK190.out 0
          have hfz23_1 := blk_frozen BK190.out 1
          have hfz23_2 := blk_frozen BK190.out 2
          have hfz23_3 := blk_frozen BK190.out 3
          go_wp2_with (first | (go_at_call 17; (refine (phalaroperef08_Valid.calls k 1 a1 _ _ ([] : List ByteArray) _ _ ([] : List (S69)) t191 _ ?side1 ?side2 ?side3 ?side4 A20.out).mono ?_); (case side1 => exact Kd.C_nil _ _); (case side2 => exact Nat.le_refl _); (case side3 => exact Kd.C_nil _ _); (case side4 => exact Nat.le_refl _); rintro e w24 ⟨rfl, hb⟩; have n0_ := Aside0.mk (blk_below (g := gb189) (o := .cells #[.string t183, .string t184, .bool false, .string t186, .bool t187] 43 (0, 0)) (by (with_reducible repeat (first | refine blk_drewN ?_ _ | refine blk_drew ?_ | refine blk_alloc ?_ _)); refine blk_far ?_ NB189_190.out _; (with_reducible repeat (first | refine blk_drewN ?_ _ | refine blk_drew ?_ | refine blk_alloc ?_ _)); refine blk_far ?_ NB189_190.out _; (with_reducible repeat (first | refine blk_drewN ?_ _ | refine blk_drew ?_ | refine blk_alloc ?_ _)); refine blk_far ?_ NB189_190.out _; (with_reducible repeat (first | refine blk_drewN ?_ _ | refine blk_drew ?_ | refine blk_alloc ?_ _)); refine blk_far ?_ NB189_190.out _; (with_reducible repeat (first | refine blk_drewN ?_ _ | refine blk_drew ?_ | refine blk_alloc ?_ _)); exact BK189.out) hb); have n1_ := Aside0.mk (blk_below (g := gb190) (o := .cells #[.int .i64 1, .string a1, .slice none 0 0, .slice none 0 0] 27 (0, 0)) (by (with_reducible repeat (first | refine blk_drewN ?_ _ | refine blk_drew ?_ | refine blk_alloc ?_ _)); refine blk_put (cs := #[.int .i64 1, .string a1, .slice none 0 0, .slice none 0 0]) ?_ 3 _ rfl; (with_reducible repeat (first | refine blk_drewN ?_ _ | refine blk_drew ?_ | refine blk_alloc ?_ _)); refine blk_put (cs := #[.int .i64 1, .string a1, .slice none 0 0, .slice none 0 0]) ?_ 2 _ rfl; (with_reducible repeat (first | refine blk_drewN ?_ _ | refine blk_drew ?_ | refine blk_alloc ?_ _)); refine blk_put (cs := #[.int .i64 1, .string (⟨#[]⟩ : ByteArray), .slice none 0 0, .slice none 0 0]) ?_ 1 _ rfl; (with_reducible repeat (first | refine blk_drewN ?_ _ | refine blk_drew ?_ | refine blk_alloc ?_ _)); refine blk_put (cs := #[.int .i64 0, .string (⟨#[]⟩ : ByteArray), .slice none 0 0, .slice none 0 0]) ?_ 0 _ rfl; (with_reducible repeat (first | refine blk_drewN ?_ _ | refine blk_drew ?_ | refine blk_alloc ?_ _)); exact BK190.out) hb); have n2_ := Aside0.mk (below_step (by repeat (first | (with_reducible first | exact HB.out | apply below_alloc | apply pw_below_drewN | apply below_drew1 | refine below_set ?_ GE189.out | refine below_set ?_ GE190.out) | exact HB.out)) hb); clear BK189; clear BK190; clear HB; have BK189 := n0_; have BK190 := n1_; have HB := n2_; clear n0_ n1_ n2_; (try clear hb); (try clear hb2); (try clear hk); (try clear hi)))
          go_meet
          case rel => exact ⟨_, (!t191), (by first | rfl | (simp; done) | (simp [*]; done)), H', ⟨by first | omega | exact Nat.le_refl _⟩, ⟨by (with_reducible repeat (first | refine blk_drewN ?_ _ | refine blk_drew ?_ | refine blk_alloc ?_ _)); exact BK189.out⟩, ⟨by (with_reducible repeat (first | refine blk_drewN ?_ _ | refine blk_drew ?_ | refine blk_alloc ?_ _)); exact BK190.out⟩, ⟨by repeat (first | (with_reducible first | exact HB.out | apply below_alloc | apply pw_below_drewN | apply below_drew1 | refine below_set ?_ GE189.out | refine below_set ?_ GE190.out) | exact HB.out)⟩⟩
    · replace c13 := Bool.eq_false_iff.mpr c13
      subst c13
      have H1 : (phalaropelaw11_PieceKeeps.j0 k a0 a1 t182 true t183 t184 t185 t186 t187 1 a1) = some r := by rw [if_neg (show ¬ (false = true) by decide)] at H; exact H
      clear H
      have H := H1
      clear H1
      have H' := Aside0.mk H
      clear H
      go_wp2
      go_meet
      case rel => exact ⟨_, (true), (by first | rfl | (simp; done) | (simp [*]; done)), H', ⟨by first | omega | exact Nat.le_refl _⟩, ⟨by (with_reducible repeat (first | refine blk_drewN ?_ _ | refine blk_drew ?_ | refine blk_alloc ?_ _)); refine blk_far ?_ NB189_190.out _; (with_reducible repeat (first | refine blk_drewN ?_ _ | refine blk_drew ?_ | refine blk_alloc ?_ _)); refine blk_far ?_ NB189_190.out _; (with_reducible repeat (first | refine blk_drewN ?_ _ | refine blk_drew ?_ | refine blk_alloc ?_ _)); refine blk_far ?_ NB189_190.out _; (with_reducible repeat (first | refine blk_drewN ?_ _ | refine blk_drew ?_ | refine blk_alloc ?_ _)); refine blk_far ?_ NB189_190.out _; (with_reducible repeat (first | refine blk_drewN ?_ _ | refine blk_drew ?_ | refine blk_alloc ?_ _)); exact BK189.out⟩, ⟨by (with_reducible repeat (first | refine blk_drewN ?_ _ | refine blk_drew ?_ | refine blk_alloc ?_ _)); refine blk_put (cs := #[.int .i64 1, .string a1, .slice none 0 0, .slice none 0 0]) ?_ 3 _ rfl; (with_reducible repeat (first | refine blk_drewN ?_ _ | refine blk_drew ?_ | refine blk_alloc ?_ _)); refine blk_put (cs := #[.int .i64 1, .string a1, .slice none 0 0, .slice none 0 0]) ?_ 2 _ rfl; (with_reducible repeat (first | refine blk_drewN ?_ _ | refine blk_drew ?_ | refine blk_alloc ?_ _)); refine blk_put (cs := #[.int .i64 1, .string (⟨#[]⟩ : ByteArray), .slice none 0 0, .slice none 0 0]) ?_ 1 _ rfl; (with_reducible repeat (first | refine blk_drewN ?_ _ | refine blk_drew ?_ | refine blk_alloc ?_ _)); refine blk_put (cs := #[.int .i64 0, .string (⟨#[]⟩ : ByteArray), .slice none 0 0, .slice none 0 0]) ?_ 0 _ rfl; (with_reducible repeat (first | refine blk_drewN ?_ _ | refine blk_drew ?_ | refine blk_alloc ?_ _)); exact BK190.out⟩, ⟨by repeat (first | (with_reducible first | exact HB.out | apply below_alloc | apply pw_below_drewN | apply below_drew1 | refine below_set ?_ GE189.out | refine below_set ?_ GE190.out) | exact HB.out)⟩⟩
  case rest =>
    clear HC5
    try clear c1
    try clear c2
    try clear p2
    try clear c6
    try clear c8
    try clear c11
    try clear c13
    try clear c14
    try clear c15
    try clear c17
    try clear c17b0
    try clear c17b1
    try clear c18
    try clear c21
    try clear hcz12_0
    try clear hcz12_1
    try clear hcz12_2
    try clear hcz12_3
    try clear hcz16_0
    try clear hcz16_1
    try clear hcz16_2
    try clear hcz16_3
    try clear hcz16_4
    try clear hcz19_0
    try clear hcz19_1
    try clear hcz19_2
    try clear hcz19_3
    try clear hcz19_4
    try clear hcz22_0
    try clear hcz22_1
    try clear hcz22_2
    try clear hcz22_3
    try clear hcz22_4
    try clear hcz23_0
    try clear hcz23_1
    try clear hcz23_2
    try clear hcz23_3
    try clear hcz9_0
    try clear hcz9_1
    try clear hcz9_2
    try clear hcz9_3
    try clear hcz9_4
    try clear hfz12_0
    try clear hfz12_1
    try clear hfz12_2
    try clear hfz12_3
    try clear hfz16_0
    try clear hfz16_1
    try clear hfz16_2
    try clear hfz16_3
    try clear hfz16_4
    try clear hfz19_0
    try clear hfz19_1
    try clear hfz19_2
    try clear hfz19_3
    try clear hfz19_4
    try clear hfz22_0
    try clear hfz22_1
    try clear hfz22_2
    try clear hfz22_3
    try clear hfz22_4
    try clear hfz23_0
    try clear hfz23_1
    try clear hfz23_2
    try clear hfz23_3
    try clear hfz9_0
    try clear hfz9_1
    try clear hfz9_2
    try clear hfz9_3
    try clear hfz9_4
    obtain ⟨kq, x39_4, rfl, HA, HJ4, BK189, BK190, HB⟩ := hcut
    cases kq with
    | zero => exact absurd HA.out (by simp [phalaropelaw11_PieceKeeps.j0])
    | succ kj4 =>
      have H := HA.out
      clear HA
      simp only [phalaropelaw11_PieceKeeps.j0] at H
      by_cases c25 : x39_4 = true
      · subst c25
        have H1 : (some t182) = some r := by rw [if_pos rfl] at H; exact H
        clear H
        have H := H1
        clear H1
        obtain rfl := Option.some.inj H
        go_wp2
        go_ret
        exact ⟨by first | rfl | (simp [errW_none, errW_some] <;> rfl) | (simp [*, errW_none, errW_some] <;> rfl), by repeat (first | (with_reducible first | exact HB.out | apply below_alloc | apply pw_below_drewN | apply below_drew1 | refine below_set ?_ GE189.out | refine below_set ?_ GE190.out) | exact HB.out)⟩
      · replace c25 := Bool.eq_false_iff.mpr c25
        subst c25
        have H1 : ((piece_One.f a0 (⟨#[97]⟩ : ByteArray) 0 false 1 a1 ([] : List ByteArray) ([] : List (S69))).bind fun bt192 => (phalaropelaw11_PieceKeeps.l0 kj4 a1 t182 bt192.1 bt192.2.2 0 0 t183 t184 t185 t186 t187)) = some r := by rw [if_neg (show ¬ (false = true) by decide)] at H; exact H
        clear H
        have H := H1
        clear H1
        replace H := Option.bind_eq_some_iff.mp H
        obtain ⟨⟨t192, t193, t194⟩, A260, H⟩ := H
        replace H : (phalaropelaw11_PieceKeeps.l0 kj4 a1 t182 t192 t194 0 0 t183 t184 t185 t186 t187) = some r := H
        have A26 := Aside0.mk A260
        clear A260
        have H' := Aside0.mk H
        clear H
        have hnb27 := NB190_189.out
        have hnc27 := NB189_190.out
        have hcz28_0 : wc.cell? ⟨gb190, 0, none⟩ = some (.int .i64 1) := (blk_cell BK190.out 0).trans rfl
        have hcz28_1 : wc.cell? ⟨gb190, 1, none⟩ = some (.string a1) := (blk_cell BK190.out 1).trans rfl
        have hcz28_2 : wc.cell? ⟨gb190, 2, none⟩ = some (.slice none 0 0) := (blk_cell BK190.out 2).trans rfl
        have hcz28_3 : wc.cell? ⟨gb190, 3, none⟩ = some (.slice none 0 0) := (blk_cell BK190.out 3).trans rfl
        have hfz28_0 := blk_frozen BK190.out 0
        have hfz28_1 := blk_frozen BK190.out 1
        have hfz28_2 := blk_frozen BK190.out 2
        have hfz28_3 := blk_frozen BK190.out 3
        go_wp2_with (first | ((with_reducible refine gate_callee (f := 10) rfl ?_); refine goesL_ (some 45) rfl rfl Try.func10 (by kernel_rfl) rfl #[.int .u8 a0, .agg #[.string (⟨#[97]⟩ : ByteArray), .int .i64 0, .bool false], .agg #[.int .i64 1, .string a1, .slice none 0 0, .slice none 0 0]] rfl (by (try simp only [List.map_toArray, List.map_cons, List.map_nil]); first | done | rfl | (simp only [List.length_drop, List.length_take]; rfl)) ?_; (refine (piece_One.calls a0 (⟨#[97]⟩ : ByteArray) 0 false 1 a1 _ _ ([] : List ByteArray) _ _ ([] : List (S69)) t192 t193 t194 _ ?side1 ?side2 ?side3 ?side4 A26.out).mono ?_); (case side1 => exact Kd.C_nil _ _); (case side2 => exact Nat.le_refl _); (case side3 => exact Kd.C_nil _ _); (case side4 => exact Nat.le_refl _); rintro e w29 ⟨rfl, hb⟩; refine ⟨_, rfl, ?_⟩; have n0_ := Aside0.mk (blk_below (g := gb189) (o := .cells #[.string t183, .string t184, .bool t185, .string t186, .bool t187] 43 (0, 0)) (by (with_reducible repeat (first | refine blk_drewN ?_ _ | refine blk_drew ?_ | refine blk_alloc ?_ _)); exact BK189.out) hb); have n1_ := Aside0.mk (blk_below (g := gb190) (o := .cells #[.int .i64 1, .string a1, .slice none 0 0, .slice none 0 0] 27 (0, 0)) (by (with_reducible repeat (first | refine blk_drewN ?_ _ | refine blk_drew ?_ | refine blk_alloc ?_ _)); exact BK190.out) hb); have n2_ := Aside0.mk (below_step (by repeat (first | (with_reducible first | exact HB.out | apply below_alloc | apply pw_below_drewN | apply below_drew1 | refine below_set ?_ GE189.out | refine below_set ?_ GE190.out) | exact HB.out)) hb); clear BK189; clear BK190; clear HB; have BK189 := n0_; have BK190 := n1_; have HB := n2_; clear n0_ n1_ n2_; (try clear hb); (try clear hb2); (try clear hk); (try clear hi)))
        go_loopg [12, 13] kj4 (fun kq v12 v13 w' => ∃ (x12_2 : Int) (x13_2 : Int), v12 = .int .i64 x12_2 ∧ v13 = .int .i64 x13_2 ∧ Aside0 (phalaropelaw11_PieceKeeps.l0 kq a1 t182 t192 t194 x12_2 x13_2 t183 t184 t185 t186 t187 = some r) ∧ Aside0 (kq ≤ kj4) ∧ Aside0 (w'.heap[gb189]? = some (.cells #[.string t183, .string t184, .bool t185, .string t186, .bool t187] 43 (0, 0))) ∧ Aside0 (w'.heap[gb190]? = some (.cells #[.int .i64 1, .string a1, (.slice none 0 0), (.slice none 0 0)] 27 (0, 0))) ∧ Aside0 (Below w.heap.size w w'))
        case atStart => exact ⟨(0), (0), (by first | rfl | (simp; done) | (simp [*]; done)), (by first | rfl | (simp; done) | (simp [*]; done)), H', ⟨Nat.le_refl _⟩, ⟨by (with_reducible repeat (first | refine blk_drewN ?_ _ | refine blk_drew ?_ | refine blk_alloc ?_ _)); exact BK189.out⟩, ⟨by (with_reducible repeat (first | refine blk_drewN ?_ _ | refine blk_drew ?_ | refine blk_alloc ?_ _)); exact BK190.out⟩, ⟨by repeat (first | (with_reducible first | exact HB.out | apply below_alloc | apply pw_below_drewN | apply below_drew1 | refine below_set ?_ GE189.out | refine below_set ?_ GE190.out) | exact HB.out)⟩⟩
        case round =>
          clear H'
          try clear c1
          try clear c2
          try clear p2
          try clear c6
          try clear c8
          try clear c10
          try clear c11
          try clear c13
          try clear c14
          try clear c15
          try clear c17
          try clear c17b0
          try clear c17b1
          try clear c18
          try clear c21
          try clear c25
          try clear c27
          try clear hcz12_0
          try clear hcz12_1
          try clear hcz12_2
          try clear hcz12_3
          try clear hcz16_0
          try clear hcz16_1
          try clear hcz16_2
          try clear hcz16_3
          try clear hcz16_4
          try clear hcz19_0
          try clear hcz19_1
          try clear hcz19_2
          try clear hcz19_3
          try clear hcz19_4
          try clear hcz22_0
          try clear hcz22_1
          try clear hcz22_2
          try clear hcz22_3
          try clear hcz22_4
          try clear hcz23_0
          try clear hcz23_1
          try clear hcz23_2
          try clear hcz23_3
          try clear hcz28_0
          try clear hcz28_1
          try clear hcz28_2
          try clear hcz28_3
          try clear hcz9_0
          try clear hcz9_1
          try clear hcz9_2
          try clear hcz9_3
          try clear hcz9_4
          try clear hfz12_0
          try clear hfz12_1
          try clear hfz12_2
          try clear hfz12_3
          try clear hfz16_0
          try clear hfz16_1
          try clear hfz16_2
          try clear hfz16_3
          try clear hfz16_4
          try clear hfz19_0
          try clear hfz19_1
          try clear hfz19_2
          try clear hfz19_3
          try clear hfz19_4
          try clear hfz22_0
          try clear hfz22_1
          try clear hfz22_2
          try clear hfz22_3
          try clear hfz22_4
          try clear hfz23_0
          try clear hfz23_1
          try clear hfz23_2
          try clear hfz23_3
          try clear hfz28_0
          try clear hfz28_1
          try clear hfz28_2
          try clear hfz28_3
          try clear hfz9_0
          try clear hfz9_1
          try clear hfz9_2
          try clear hfz9_3
          try clear hfz9_4
          try clear p2
          obtain ⟨x12_2, x13_2, rfl, rfl, HA, HK2, BK189, BK190, HB⟩ := hrel
          cases gk with
          | zero => exact absurd HA.out (by simp [phalaropelaw11_PieceKeeps.l0])
          | succ k2 =>
            have H := HA.out
            clear HA
            simp only [phalaropelaw11_PieceKeeps.l0] at H
            by_cases c30 : x13_2 < (t192.size : Int)
            · rw [if_pos c30] at H
              have c30b0 : decide (x13_2 < (t192.size : Int)) = true := decide_eq_true c30
              clear c30
              by_cases c31 : 0 ≤ x13_2
              · rw [if_pos c31] at H
                have c31b0 : decide (0 ≤ x13_2) = true := decide_eq_true c31
                clear c31
                replace H := Option.bind_eq_some_iff.mp H
                obtain ⟨t195, A330, H⟩ := H
                replace H : (if t195 = true then (phalaropelaw11_PieceKeeps.l0 k2 a1 t182 t192 t194 (wrap64 (x12_2 + 1)) (wrap64 (x13_2 + 1)) t183 t184 t185 t186 t187) else (phalaropelaw11_PieceKeeps.l0 k2 a1 t182 t192 t194 x12_2 (wrap64 (x13_2 + 1)) t183 t184 t185 t186 t187)) = some r := H
                have A33 := Aside0.mk A330
                clear A330
                by_cases c34 : t195 = true
                · subst c34
                  have H1 : (phalaropelaw11_PieceKeeps.l0 k2 a1 t182 t192 t194 (wrap64 (x12_2 + 1)) (wrap64 (x13_2 + 1)) t183 t184 t185 t186 t187) = some r := by rw [if_pos rfl] at H; exact H
                  clear H
                  have H := H1
                  clear H1
                  have H' := Aside0.mk H
                  clear H
                  have p32 : 0 ≤ (x13_2 : Int) := of_decide_eq_true (by first | (with_reducible assumption) | assumption)
                  have q32 : x13_2 < (t192.size : Int) := of_decide_eq_true (by first | (with_reducible assumption) | assumption)
                  have hx32 := bt_at t192 x13_2
                  replace p32 := eq_true p32
                  replace q32 := eq_true q32
                  go_wp2_with (first | ((with_reducible refine gate_callee (f := 12) rfl ?_); refine goesL_ (some 58) rfl rfl Try.func12 (by kernel_rfl) rfl #[.int .u8 (bt t192 x13_2)] rfl (by (try simp only [List.map_toArray, List.map_cons, List.map_nil]); first | done | rfl | (simp only [List.length_drop, List.length_take]; rfl)) ?_; (with_reducible refine (phalaroperef02_Reserved.calls k2 (bt t192 x13_2) true _ A33.out).mono ?_); rintro e w' ⟨rfl, ⟨nd, rfl⟩⟩; refine ⟨_, rfl, ?_⟩))
                  go_roundg k2
                  case measure => have := HJ4.out; have := HK2.out; omega
                  case rel => exact ⟨(wrap64 (x12_2 + 1)), (wrap64 (x13_2 + 1)), (by first | rfl | (simp; done) | (simp [*]; done)), (by first | rfl | (simp; done) | (simp [*]; done)), H', ⟨by have := HJ4.out; have := HK2.out; omega⟩, ⟨by (with_reducible repeat (first | refine blk_drewN ?_ _ | refine blk_drew ?_ | refine blk_alloc ?_ _)); exact BK189.out⟩, ⟨by (with_reducible repeat (first | refine blk_drewN ?_ _ | refine blk_drew ?_ | refine blk_alloc ?_ _)); exact BK190.out⟩, ⟨by repeat (first | (with_reducible first | exact HB.out | apply below_alloc | apply pw_below_drewN | apply below_drew1 | refine below_set ?_ GE189.out | refine below_set ?_ GE190.out) | exact HB.out)⟩⟩
                · replace c34 := Bool.eq_false_iff.mpr c34
                  subst c34
                  have H1 : (phalaropelaw11_PieceKeeps.l0 k2 a1 t182 t192 t194 x12_2 (wrap64 (x13_2 + 1)) t183 t184 t185 t186 t187) = some r := by rw [if_neg (show ¬ (false = true) by decide)] at H; exact H
                  clear H
                  have H := H1
                  clear H1
                  have H' := Aside0.mk H
                  clear H
                  have p32 : 0 ≤ (x13_2 : Int) := of_decide_eq_true (by first | (with_reducible assumption) | assumption)
                  have q32 : x13_2 < (t192.size : Int) := of_decide_eq_true (by first | (with_reducible assumption) | assumption)
                  have hx32 := bt_at t192 x13_2
                  replace p32 := eq_true p32
                  replace q32 := eq_true q32
                  go_wp2_with (first | ((with_reducible refine gate_callee (f := 12) rfl ?_); refine goesL_ (some 58) rfl rfl Try.func12 (by kernel_rfl) rfl #[.int .u8 (bt t192 x13_2)] rfl (by (try simp only [List.map_toArray, List.map_cons, List.map_nil]); first | done | rfl | (simp only [List.length_drop, List.length_take]; rfl)) ?_; (with_reducible refine (phalaroperef02_Reserved.calls k2 (bt t192 x13_2) false _ A33.out).mono ?_); rintro e w' ⟨rfl, ⟨nd, rfl⟩⟩; refine ⟨_, rfl, ?_⟩))
                  go_roundg k2
                  case measure => have := HJ4.out; have := HK2.out; omega
                  case rel => exact ⟨(x12_2), (wrap64 (x13_2 + 1)), (by first | rfl | (simp; done) | (simp [*]; done)), (by first | rfl | (simp; done) | (simp [*]; done)), H', ⟨by have := HJ4.out; have := HK2.out; omega⟩, ⟨by (with_reducible repeat (first | refine blk_drewN ?_ _ | refine blk_drew ?_ | refine blk_alloc ?_ _)); exact BK189.out⟩, ⟨by (with_reducible repeat (first | refine blk_drewN ?_ _ | refine blk_drew ?_ | refine blk_alloc ?_ _)); exact BK190.out⟩, ⟨by repeat (first | (with_reducible first | exact HB.out | apply below_alloc | apply pw_below_drewN | apply below_drew1 | refine below_set ?_ GE189.out | refine below_set ?_ GE190.out) | exact HB.out)⟩⟩
              · rw [if_neg c31] at H
                exact absurd H (by simp)
            · rw [if_neg c30] at H
              have c30b0 : decide (x13_2 < (t192.size : Int)) = false := decide_eq_false c30
              clear c30
              have H' := Aside0.mk H
              clear H
              go_wp2
              go_loopg [14, 15] k2 (fun kq v14 v15 w' => ∃ (x14_3 : Int) (x15_3 : Int), v14 = .int .i64 x14_3 ∧ v15 = .int .i64 x15_3 ∧ Aside0 (phalaropelaw11_PieceKeeps.l1 kq a1 t182 t194 x12_2 x14_3 x15_3 t183 t184 t185 t186 t187 = some r) ∧ Aside0 (kq ≤ k2) ∧ Aside0 (w'.heap[gb189]? = some (.cells #[.string t183, .string t184, .bool t185, .string t186, .bool t187] 43 (0, 0))) ∧ Aside0 (w'.heap[gb190]? = some (.cells #[.int .i64 1, .string a1, (.slice none 0 0), (.slice none 0 0)] 27 (0, 0))) ∧ Aside0 (Below w.heap.size w w'))
              case atStart => exact ⟨(0), (0), (by first | rfl | (simp; done) | (simp [*]; done)), (by first | rfl | (simp; done) | (simp [*]; done)), H', ⟨Nat.le_refl _⟩, ⟨by (with_reducible repeat (first | refine blk_drewN ?_ _ | refine blk_drew ?_ | refine blk_alloc ?_ _)); exact BK189.out⟩, ⟨by (with_reducible repeat (first | refine blk_drewN ?_ _ | refine blk_drew ?_ | refine blk_alloc ?_ _)); exact BK190.out⟩, ⟨by repeat (first | (with_reducible first | exact HB.out | apply below_alloc | apply pw_below_drewN | apply below_drew1 | refine below_set ?_ GE189.out | refine below_set ?_ GE190.out) | exact HB.out)⟩⟩
              case round =>
                clear H'
                try clear c1
                try clear c2
                try clear p2
                try clear c3
                try clear p3
                try clear q3
                try clear hx3
                try clear c6
                try clear p6
                try clear c8
                try clear c10
                try clear c11
                try clear c12
                try clear c13
                try clear c14
                try clear c15
                try clear c17
                try clear c17b0
                try clear c17b1
                try clear c18
                try clear c21
                try clear c25
                try clear c27
                try clear c30
                try clear c30b0
                try clear c31
                try clear c31b0
                try clear p32
                try clear q32
                try clear hx32
                try clear c34
                try clear hcz12_0
                try clear hcz12_1
                try clear hcz12_2
                try clear hcz12_3
                try clear hcz16_0
                try clear hcz16_1
                try clear hcz16_2
                try clear hcz16_3
                try clear hcz16_4
                try clear hcz19_0
                try clear hcz19_1
                try clear hcz19_2
                try clear hcz19_3
                try clear hcz19_4
                try clear hcz22_0
                try clear hcz22_1
                try clear hcz22_2
                try clear hcz22_3
                try clear hcz22_4
                try clear hcz23_0
                try clear hcz23_1
                try clear hcz23_2
                try clear hcz23_3
                try clear hcz28_0
                try clear hcz28_1
                try clear hcz28_2
                try clear hcz28_3
                try clear hcz9_0
                try clear hcz9_1
                try clear hcz9_2
                try clear hcz9_3
                try clear hcz9_4
                try clear hfz12_0
                try clear hfz12_1
                try clear hfz12_2
                try clear hfz12_3
                try clear hfz16_0
                try clear hfz16_1
                try clear hfz16_2
                try clear hfz16_3
                try clear hfz16_4
                try clear hfz19_0
                try clear hfz19_1
                try clear hfz19_2
                try clear hfz19_3
                try clear hfz19_4
                try clear hfz22_0
                try clear hfz22_1
                try clear hfz22_2
                try clear hfz22_3
                try clear hfz22_4
                try clear hfz23_0
                try clear hfz23_1
                try clear hfz23_2
                try clear hfz23_3
                try clear hfz28_0
                try clear hfz28_1
                try clear hfz28_2
                try clear hfz28_3
                try clear hfz9_0
                try clear hfz9_1
                try clear hfz9_2
                try clear hfz9_3
                try clear hfz9_4
                try clear p2
                try clear p32
                try clear q32
                obtain ⟨x14_3, x15_3, rfl, rfl, HA, HK3, BK189, BK190, HB⟩ := hrel
                cases gk with
                | zero => exact absurd HA.out (by simp [phalaropelaw11_PieceKeeps.l1])
                | succ k3 =>
                  have H := HA.out
                  clear HA
                  simp only [phalaropelaw11_PieceKeeps.l1] at H
                  by_cases c35 : x15_3 < (a1.size : Int)
                  · rw [if_pos c35] at H
                    have c35b0 : decide (x15_3 < (a1.size : Int)) = true := decide_eq_true c35
                    clear c35
                    by_cases c36 : 0 ≤ x15_3
                    · rw [if_pos c36] at H
                      have c36b0 : decide (0 ≤ x15_3) = true := decide_eq_true c36
                      clear c36
                      replace H := Option.bind_eq_some_iff.mp H
                      obtain ⟨t196, A380, H⟩ := H
                      replace H : (if t196 = true then (phalaropelaw11_PieceKeeps.l1 k3 a1 t182 t194 x12_2 (wrap64 (x14_3 + 1)) (wrap64 (x15_3 + 1)) t183 t184 t185 t186 t187) else (phalaropelaw11_PieceKeeps.l1 k3 a1 t182 t194 x12_2 x14_3 (wrap64 (x15_3 + 1)) t183 t184 t185 t186 t187)) = some r := H
                      have A38 := Aside0.mk A380
                      clear A380
                      by_cases c39 : t196 = true
                      · subst c39
                        have H1 : (phalaropelaw11_PieceKeeps.l1 k3 a1 t182 t194 x12_2 (wrap64 (x14_3 + 1)) (wrap64 (x15_3 + 1)) t183 t184 t185 t186 t187) = some r := by rw [if_pos rfl] at H; exact H
                        clear H
                        have H := H1
                        clear H1
                        have H' := Aside0.mk H
                        clear H
                        have p37 : 0 ≤ (x15_3 : Int) := of_decide_eq_true (by first | (with_reducible assumption) | assumption)
                        have q37 : x15_3 < (a1.size : Int) := of_decide_eq_true (by first | (with_reducible assumption) | assumption)
                        have hx37 := bt_at a1 x15_3
                        replace p37 := eq_true p37
                        replace q37 := eq_true q37
                        go_wp2_with (first | ((with_reducible refine gate_callee (f := 12) rfl ?_); refine goesL_ (some 70) rfl rfl Try.func12 (by kernel_rfl) rfl #[.int .u8 (bt a1 x15_3)] rfl (by (try simp only [List.map_toArray, List.map_cons, List.map_nil]); first | done | rfl | (simp only [List.length_drop, List.length_take]; rfl)) ?_; (with_reducible refine (phalaroperef02_Reserved.calls k3 (bt a1 x15_3) true _ A38.out).mono ?_); rintro e w' ⟨rfl, ⟨nd, rfl⟩⟩; refine ⟨_, rfl, ?_⟩))
                        go_roundg k3
                        case measure => have := HJ4.out; have := HK2.out; have := HK3.out; omega
                        case rel => exact ⟨(wrap64 (x14_3 + 1)), (wrap64 (x15_3 + 1)), (by first | rfl | (simp; done) | (simp [*]; done)), (by first | rfl | (simp; done) | (simp [*]; done)), H', ⟨by have := HJ4.out; have := HK2.out; have := HK3.out; omega⟩, ⟨by (with_reducible repeat (first | refine blk_drewN ?_ _ | refine blk_drew ?_ | refine blk_alloc ?_ _)); exact BK189.out⟩, ⟨by (with_reducible repeat (first | refine blk_drewN ?_ _ | refine blk_drew ?_ | refine blk_alloc ?_ _)); exact BK190.out⟩, ⟨by repeat (first | (with_reducible first | exact HB.out | apply below_alloc | apply pw_below_drewN | apply below_drew1 | refine below_set ?_ GE189.out | refine below_set ?_ GE190.out) | exact HB.out)⟩⟩
                      · replace c39 := Bool.eq_false_iff.mpr c39
                        subst c39
                        have H1 : (phalaropelaw11_PieceKeeps.l1 k3 a1 t182 t194 x12_2 x14_3 (wrap64 (x15_3 + 1)) t183 t184 t185 t186 t187) = some r := by rw [if_neg (show ¬ (false = true) by decide)] at H; exact H
                        clear H
                        have H := H1
                        clear H1
                        have H' := Aside0.mk H
                        clear H
                        have p37 : 0 ≤ (x15_3 : Int) := of_decide_eq_true (by first | (with_reducible assumption) | assumption)
                        have q37 : x15_3 < (a1.size : Int) := of_decide_eq_true (by first | (with_reducible assumption) | assumption)
                        have hx37 := bt_at a1 x15_3
                        replace p37 := eq_true p37
                        replace q37 := eq_true q37
                        go_wp2_with (first | ((with_reducible refine gate_callee (f := 12) rfl ?_); refine goesL_ (some 70) rfl rfl Try.func12 (by kernel_rfl) rfl #[.int .u8 (bt a1 x15_3)] rfl (by (try simp only [List.map_toArray, List.map_cons, List.map_nil]); first | done | rfl | (simp only [List.length_drop, List.length_take]; rfl)) ?_; (with_reducible refine (phalaroperef02_Reserved.calls k3 (bt a1 x15_3) false _ A38.out).mono ?_); rintro e w' ⟨rfl, ⟨nd, rfl⟩⟩; refine ⟨_, rfl, ?_⟩))
                        go_roundg k3
                        case measure => have := HJ4.out; have := HK2.out; have := HK3.out; omega
                        case rel => exact ⟨(x14_3), (wrap64 (x15_3 + 1)), (by first | rfl | (simp; done) | (simp [*]; done)), (by first | rfl | (simp; done) | (simp [*]; done)), H', ⟨by have := HJ4.out; have := HK2.out; have := HK3.out; omega⟩, ⟨by (with_reducible repeat (first | refine blk_drewN ?_ _ | refine blk_drew ?_ | refine blk_alloc ?_ _)); exact BK189.out⟩, ⟨by (with_reducible repeat (first | refine blk_drewN ?_ _ | refine blk_drew ?_ | refine blk_alloc ?_ _)); exact BK190.out⟩, ⟨by repeat (first | (with_reducible first | exact HB.out | apply below_alloc | apply pw_below_drewN | apply below_drew1 | refine below_set ?_ GE189.out | refine below_set ?_ GE190.out) | exact HB.out)⟩⟩
                    · rw [if_neg c36] at H
                      exact absurd H (by simp)
                  · rw [if_neg c35] at H
                    have c35b0 : decide (x15_3 < (a1.size : Int)) = false := decide_eq_false c35
                    clear c35
                    by_cases c40 : t182 = true
                    · subst c40
                      have H1 : (if t194 = 0 then (if t187 = true then (if x12_2 = x14_3 then (some true) else (some false)) else (some (x12_2 == 0))) else (some false)) = some r := by rw [if_pos rfl] at H; exact H
                      clear H
                      have H := H1
                      clear H1
                      by_cases c41 : t194 = 0
                      · rw [if_pos c41] at H
                        have c41b0 : (t194 == 0) = true := beq_iff_eq.mpr c41
                        have c41b1 : (t194 != 0) = false := bne_eq_false_iff_eq.mpr c41
                        clear c41
                        by_cases c42 : t187 = true
                        · subst c42
                          have H1 : (if x12_2 = x14_3 then (some true) else (some false)) = some r := by rw [if_pos rfl] at H; exact H
                          clear H
                          have H := H1
                          clear H1
                          by_cases c43 : x12_2 = x14_3
                          · rw [if_pos c43] at H
                            have c43b0 : (x12_2 == x14_3) = true := beq_iff_eq.mpr c43
                            have c43b1 : (x12_2 != x14_3) = false := bne_eq_false_iff_eq.mpr c43
                            clear c43
                            obtain rfl := Option.some.inj H
                            have hnb44 := NB189_190.out
                            have hnc44 := NB190_189.out
                            have hcz45_0 : wr.cell? ⟨gb189, 0, none⟩ = some (.string t183) := (blk_cell BK189.out 0).trans rfl
                            have hcz45_1 : wr.cell? ⟨gb189, 1, none⟩ = some (.string t184) := (blk_cell BK189.out 1).trans rfl
                            have hcz45_2 : wr.cell? ⟨gb189, 2, none⟩ = some (.bool t185) := (blk_cell BK189.out 2).trans rfl
                            have hcz45_3 : wr.cell? ⟨gb189, 3, none⟩ = some (.string t186) := (blk_cell BK189.out 3).trans rfl
                            have hcz45_4 : wr.cell? ⟨gb189, 4, none⟩ = some (.bool true) := (blk_cell BK189.out 4).trans rfl
                            have hfz45_0 := blk_frozen BK189.out 0
                            have hfz45_1 := blk_frozen BK189.out 1
                            have hfz45_2 := blk_frozen BK189.out 2
                            have hfz45_3 := blk_frozen BK189.out 3
                            have hfz45_4 := blk_frozen BK189.out 4
                            go_wp2
                            go_ret
                            exact ⟨by first | rfl | (simp [errW_none, errW_some] <;> rfl) | (simp [*, errW_none, errW_some] <;> rfl), by repeat (first | (with_reducible first | exact HB.out | apply below_alloc | apply pw_below_drewN | apply below_drew1 | refine below_set ?_ GE189.out | refine below_set ?_ GE190.out) | exact HB.out)⟩
                          · rw [if_neg c43] at H
                            have c43b0 : (x12_2 == x14_3) = false := beq_eq_false_iff_ne.mpr c43
                            have c43b1 : (x12_2 != x14_3) = true := bne_iff_ne.mpr c43
                            obtain rfl := Option.some.inj H
                            have hnb46 := NB189_190.out
                            have hnc46 := NB190_189.out
                            have hcz47_0 : wr.cell? ⟨gb189, 0, none⟩ = some (.string t183) := (blk_cell BK189.out 0).trans rfl
                            have hcz47_1 : wr.cell? ⟨gb189, 1, none⟩ = some (.string t184) := (blk_cell BK189.out 1).trans rfl
                            have hcz47_2 : wr.cell? ⟨gb189, 2, none⟩ = some (.bool t185) := (blk_cell BK189.out 2).trans rfl
                            have hcz47_3 : wr.cell? ⟨gb189, 3, none⟩ = some (.string t186) := (blk_cell BK189.out 3).trans rfl
                            have hcz47_4 : wr.cell? ⟨gb189, 4, none⟩ = some (.bool true) := (blk_cell BK189.out 4).trans rfl
                            have hfz47_0 := blk_frozen BK189.out 0
                            have hfz47_1 := blk_frozen BK189.out 1
                            have hfz47_2 := blk_frozen BK189.out 2
                            have hfz47_3 := blk_frozen BK189.out 3
                            have hfz47_4 := blk_frozen BK189.out 4
                            go_wp2
                            go_ret
                            exact ⟨by first | rfl | (simp [errW_none, errW_some] <;> rfl) | (simp [*, errW_none, errW_some] <;> rfl), by repeat (first | (with_reducible first | exact HB.out | apply below_alloc | apply pw_below_drewN | apply below_drew1 | refine below_set ?_ GE189.out | refine below_set ?_ GE190.out) | exact HB.out)⟩
                        · replace c42 := Bool.eq_false_iff.mpr c42
                          subst c42
                          have H1 : (some (x12_2 == 0)) = some r := by rw [if_neg (show ¬ (false = true) by decide)] at H; exact H
                          clear H
                          have H := H1
                          clear H1
                          obtain rfl := Option.some.inj H
                          have hnb48 := NB189_190.out
                          have hnc48 := NB190_189.out
                          have hcz49_0 : wr.cell? ⟨gb189, 0, none⟩ = some (.string t183) := (blk_cell BK189.out 0).trans rfl
                          have hcz49_1 : wr.cell? ⟨gb189, 1, none⟩ = some (.string t184) := (blk_cell BK189.out 1).trans rfl
                          have hcz49_2 : wr.cell? ⟨gb189, 2, none⟩ = some (.bool t185) := (blk_cell BK189.out 2).trans rfl
                          have hcz49_3 : wr.cell? ⟨gb189, 3, none⟩ = some (.string t186) := (blk_cell BK189.out 3).trans rfl
                          have hcz49_4 : wr.cell? ⟨gb189, 4, none⟩ = some (.bool false) := (blk_cell BK189.out 4).trans rfl
                          have hfz49_0 := blk_frozen BK189.out 0
                          have hfz49_1 := blk_frozen BK189.out 1
                          have hfz49_2 := blk_frozen BK189.out 2
                          have hfz49_3 := blk_frozen BK189.out 3
                          have hfz49_4 := blk_frozen BK189.out 4
                          go_wp2
                          go_ret
                          exact ⟨by first | rfl | (simp [errW_none, errW_some] <;> rfl) | (simp [*, errW_none, errW_some] <;> rfl), by repeat (first | (with_reducible first | exact HB.out | apply below_alloc | apply pw_below_drewN | apply below_drew1 | refine below_set ?_ GE189.out | refine below_set ?_ GE190.out) | exact HB.out)⟩
                      · rw [if_neg c41] at H
                        have c41b0 : (t194 == 0) = false := beq_eq_false_iff_ne.mpr c41
                        have c41b1 : (t194 != 0) = true := bne_iff_ne.mpr c41
                        obtain rfl := Option.some.inj H
                        go_wp2
                        go_ret
                        exact ⟨by first | rfl | (simp [errW_none, errW_some] <;> rfl) | (simp [*, errW_none, errW_some] <;> rfl), by repeat (first | (with_reducible first | exact HB.out | apply below_alloc | apply pw_below_drewN | apply below_drew1 | refine below_set ?_ GE189.out | refine below_set ?_ GE190.out) | exact HB.out)⟩
                    · replace c40 := Bool.eq_false_iff.mpr c40
                      subst c40
                      have H1 : (some false) = some r := by rw [if_neg (show ¬ (false = true) by decide)] at H; exact H
                      clear H
                      have H := H1
                      clear H1
                      obtain rfl := Option.some.inj H
                      go_wp2
                      go_ret
                      exact ⟨by first | rfl | (simp [errW_none, errW_some] <;> rfl) | (simp [*, errW_none, errW_some] <;> rfl), by repeat (first | (with_reducible first | exact HB.out | apply below_alloc | apply pw_below_drewN | apply below_drew1 | refine below_set ?_ GE189.out | refine below_set ?_ GE190.out) | exact HB.out)⟩

/-- THE ONE PURE STATEMENT of phalaropelaw11_PieceKeeps: yours. -/
def phalaropelaw11_PieceKeeps.Pure : Prop := ∀ (a0 : Int) (a1 : ByteArray), (Lit.int .u8 a0).wf = true → a1.size ≤ 140737488351232 → ∃ k, phalaropelaw11_PieceKeeps.f k a0 a1 = some true
theorem phalaropelaw11_PieceKeeps.walk (P : phalaropelaw11_PieceKeeps.Pure) (a0 : Int) (a1 : ByteArray) (w : World) (w0 : (Lit.int .u8 a0).wf = true) (w1 : a1.size ≤ 140737488351232) :
    Calls Try.prog 6 #[.int .u8 a0, .string a1] w fun e w' => e = .returned (.bool true) ∧ Below w.heap.size w w' := by
  obtain ⟨k, h⟩ := P a0 a1 w0 w1
  refine (phalaropelaw11_PieceKeeps.calls k a0 a1 true w h).mono ?_
  rintro e w' ⟨rfl, hd⟩
  exact ⟨rfl, hd⟩

end Go.Proofs.Ytbjeegkmafbejaa.PK
