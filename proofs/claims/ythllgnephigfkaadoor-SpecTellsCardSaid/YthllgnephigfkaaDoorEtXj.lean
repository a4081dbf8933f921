/- spec.figures, spec.behind. -/
import Derived.Deep.RegionWith
import Derived.LaidLaws
import Derived.Lib.SmallJoins
import Derived.Lib.LaidTab
import Derived.Test.YthllgnephigfkaaDoorEtShelf
import Derived.Test.YthllgnephigfkaaDoorEtXm
import Derived.Test.YthllgnephigfkaaDoorEtWTab
import Derived.Test.YthllgnephigfkaaDoorEtWInv
import Derived.Test.YthllgnephigfkaaDoorEtWInvWords
import Derived.Test.YthllgnephigfkaaDoorEtYt
namespace Go.Proofs.YthllgnephigfkaaDoor.X
set_option linter.unusedSimpArgs false
set_option linter.unusedVariables false
open Go.RowKit Go.Proofs.YthllgnephigfkaaDoorW.PrintWords Go.Proofs.YthllgnephigfkaaDoorW.PrintLast Go.Proofs.YthllgnephigfkaaDoorW.PrintMore Go.Proofs.YthllgnephigfkaaDoor.Y Go.Joins
attribute [local go_sem] max2_int min2_int max_two min_two
def Gl (w : World) : Prop := (∃ tp p, w.var? Tryd.prog "strconv.ErrSyntax" = some #[.iface tp p]) ∧ Lib.TabIs Tryd.prog w "internal/strconv.uint64pow10" .u64 Lib.pow10Tab
theorem var_below {n : String} {g : Nat} {v : Array Value} {w w' : World} (hg : Tryd.prog.globalNamed n = some g) (h : w.var? Tryd.prog n = some v) (hb : Below w.heap.size w w') : w'.var? Tryd.prog n = some v := by
  unfold World.var? at h ⊢
  rw [hg] at h ⊢
  simp only [Option.bind_some] at h ⊢
  have hlt : g < w.heap.size := by
    rcases Nat.lt_or_ge g w.heap.size with h' | h'
    · exact h'
    · rw [Array.getElem?_eq_none h'] at h; cases h
  rw [hb.block g hlt]
  exact h
theorem gErr : Tryd.prog.globalNamed "strconv.ErrSyntax" = some (((Tryd.prog.globalNamed "strconv.ErrSyntax").getD 0)) := by kernel_rfl
theorem gTab : Tryd.prog.globalNamed "internal/strconv.uint64pow10" = some (((Tryd.prog.globalNamed "internal/strconv.uint64pow10").getD 0)) := by kernel_rfl
theorem Gl.below {w w' : World} (h : Gl w) (hb : Below w.heap.size w w') : Gl w' := by
  obtain ⟨⟨tp, p, h1⟩, h2⟩ := h
  exact ⟨⟨tp, p, var_below gErr h1 hb⟩, var_below gTab h2 hb⟩
theorem wanted_undef {ops : Array Oper} {o og : Oper} {g : Nat} {u : Bool} {t : Tmp} {a : Act} (hg : o.guard = some (g, u)) (ho : ops[g]? = some og) (hd : og.dst = some t) (hv : a.tmps[t]? = some undef) : Region.wanted o (yielded ops a.tmps) = false := by
  simp [Region.wanted, hg, yielded, ho, hd, hv, undef]
def figures.T6 : Bool × List (List Nat × List Nat) := (true, [([], []), ([], []), ([], []), ([1, 2], [1, 2]), ([0, 3], [0, 3]), ([4], [4]), ([5, 4], [5]), ([6], [6]), ([7, 6], [6, 7]), ([8, 6, 6], [6, 8]), ([9], [9]), ([9], [9]), ([10, 11, 9], [9, 10, 11]), ([12, 9], [9, 12]), ([9, 13, 6], [6, 9, 13]), ([6, 14], [6, 14])])
def figures.B6 : List Nat := [0, 0, 0, 6, 15, 31, 63, 127, 255, 511, 1023, 1023, 4095, 8191, 16383, 32767]
theorem figures.tab6 : rtab .any (opsOf Tryd.f29 6) = figures.T6 := by kernel_rfl
theorem figures.bits6 : waitsOk figures.T6.2 figures.B6 = true := by kernel_rfl
set_option maxHeartbeats 4000000 in
set_option maxRecDepth 100000 in
theorem figures_any (s : ByteArray) (w : World) (hs : s.size ≤ 1000000) : Calls Tryd.prog 29 #[.string s] w fun e w' => e = .returned (.int .i64 (figL 7 (bs s) : Int)) ∧ Below w.heap.size w w' := by
  obtain ⟨m, hm, hmd⟩ : ∃ m : Nat, (if (4 : Int) < (s.size : Int) then 4 else (s.size : Int)) = (m : Int) ∧ m ≤ 4 ∧ m ≤ s.size ∧ (m = 4 ∨ m = s.size) := by
    by_cases h : 4 < s.size
    · exact ⟨4, by rw [if_pos (by omega)]; rfl, by omega, by omega, .inl rfl⟩
    · exact ⟨s.size, by rw [if_neg (by omega)], by omega, by omega, .inr rfl⟩
  obtain ⟨hm4, hms, hme⟩ := hmd
  have HME := Aside0.mk hme
  clear hme
  go_enter Tryd.func29, Tryd.ntmps29
  go_wp2_with fail
  refine (digit_any _).mono ?_
  rintro e w1 ⟨rfl, hb1⟩
  have HB1 := Aside0.mk (below_alloc hb1 (.cells digitSet.cells 56 (0, 0)))
  have HD := Aside0.mk (blk_new w1 (.cells digitSet.cells 56 (0, 0)))
  clear hb1
  unfold Set4.val
  go_wp2_with fail
  go_loopw [11] (fun c wr => ∃ k : Nat, k ≤ m ∧ c = .int .i64 k ∧ wr.heap[w1.heap.size]? = some (.cells digitSet.cells 56 (0, 0)) ∧ Below w.heap.size w wr ∧ Aside0 ((figL 7 (bs s) : Int) = (k : Int) + (figL (7 + k) ((bs s).drop k) : Int))) (fun c _ => (m - intOf c).toNat)
  case atStart => exact ⟨0, by omega, by simp, HD.out, HB1.out, ⟨by simp⟩⟩
  case round =>
    obtain ⟨k, hk, rfl, hd, hb, HI⟩ := hrel
    clear HB1 HD
    have HD := Aside0.mk hd
    have HB := Aside0.mk hb
    have c0 := blk_cell hd 0
    have c1 := blk_cell hd 1
    have c2 := blk_cell hd 2
    have c3 := blk_cell hd 3
    clear hd hb
    simp only [Set4.cells, List.getElem?_toArray, List.getElem?_cons_zero, List.getElem?_cons_succ] at c0 c1 c2 c3
    by_cases hlt : k < m
    · have hks : k < s.size := by omega
      have hk3 : k ≤ 3 := by omega
      have r := bI_range s k
      have hbk := bI_at s k hks
      rw [hbk] at r
      have HX := Aside0.mk (digit_has (s[k].toNat : Int) r.1 r.2)
      have hgo : decide ((k : Int) < (m : Int)) = true := decide_eq_true (by omega)
      by_cases hst : isDigit (bI s k) = true ∧ ¬ (k = 0 ∧ bI s k = 48)
      · have HG := Aside0.mk (HI.out.trans (fig_go s k hk3 hks hst))
        clear HI
        rw [hbk] at hst
        rw [hst.1] at HX
        by_cases h0 : k = 0
        · have t0 : ((k : Int) == 0) = true := beq_iff_eq.2 (by omega)
          have t48 : ((s[k].toNat : Int) == 48) = false := beq_eq_false_iff_ne.2 (fun e => hst.2 ⟨h0, e⟩)
          clear hst hbk h0
          go_wp2_with fail
          refine start_ (n := 16) (S := fun w' => True) (ds := []) #[false, false, false, false, false, false, false, false, false, false, false, false, false, false, false, false] (by kernel_rfl) rfl rfl trivial (fun hHeld => ?_)
          refine with_tabW figures.tab6 figures.bits6 (fun HT_ HW_ => ?_)
          refine inv_at [0, 1, 2, 3, 4, 5, 6, 7, 8, 9, 10, 11, 12, 13, 14, 15] (fun a0_ b a w' => a = putSel a0_ b [(0, 14, .agg #[.int .u64 digitSet.a, .int .u64 digitSet.b, .int .u64 digitSet.c, .int .u64 digitSet.d]), (1, 15, .string s), (2, 16, .int .i64 (k : Int)), (3, 17, .int .u8 (s[k].toNat : Int)), (4, 18, .bool true), (5, 19, .bool false), (6, 20, .bool false), (7, 21, .int .i64 (k : Int)), (8, 22, .bool true), (9, 23, .bool true), (10, 24, .string s), (11, 25, .int .i64 (k : Int)), (12, 26, .int .u8 (s[k].toNat : Int)), (13, 27, .bool false), (14, 28, .bool false), (15, 29, .bool false)] ∧ Below wr.drew.heap.size wr.drew w') HT_.out HW_.out (by kernel_rfl) (by kernel_rfl) ?_ ?_ ?_
          · exact ⟨by simp only [putSel, Bool.false_eq_true, if_false], Below.refl _ _⟩
          · clear hHeld HT_ HW_
            refine steps_cons ?_ ?_
            · rintro b a w' ⟨ha, HBW⟩ hb_ hon hoff
              refine ⟨_, rfl, fun K hK => ?_⟩
              have e3 : a.tmps[3]? = some (.pointer (some ⟨w1.heap.size, 0, none⟩)) := by rw [ha]; exact (putSel_off rfl).trans rfl
              replace ha := Aside0.mk ha
              have HBW := Aside0.mk HBW
              have hc_ := blk_below (blk_drew HD.out) HBW.out
              have hc0_ : w'.cell? ⟨w1.heap.size, 0, none⟩ = some (.int .u64 digitSet.a) := (blk_cell hc_ 0).trans rfl
              have hc1_ : w'.cell? ⟨w1.heap.size, 1, none⟩ = some (.int .u64 digitSet.b) := (blk_cell hc_ 1).trans rfl
              have hc2_ : w'.cell? ⟨w1.heap.size, 2, none⟩ = some (.int .u64 digitSet.c) := (blk_cell hc_ 2).trans rfl
              have hc3_ : w'.cell? ⟨w1.heap.size, 3, none⟩ = some (.int .u64 digitSet.d) := (blk_cell hc_ 3).trans rfl
              clear hc_
              refine value_ (w1 := w') (v := .agg #[.int .u64 digitSet.a, .int .u64 digitSet.b, .int .u64 digitSet.c, .int .u64 digitSet.d]) (by rfl) rfl ?_ ?_
              · go_simp
                (try simp only [i64_w])
                try rfl
              refine hK.out _ _ ⟨(by rw [ha.out]; exact putSel_upk 0 hb_ rfl rfl rfl), HBW.out⟩
            refine steps_cons ?_ ?_
            · rintro b a w' ⟨ha, HBW⟩ hb_ hon hoff
              refine ⟨_, rfl, fun K hK => ?_⟩
              have e0 : a.tmps[0]? = some (.string s) := by rw [ha]; exact (putSel_off rfl).trans rfl
              replace ha := Aside0.mk ha
              have HBW := Aside0.mk HBW
              refine value_ (w1 := w') (v := .string s) (by rfl) rfl ?_ ?_
              · go_simp
                (try simp only [i64_w])
                try rfl
              refine hK.out _ _ ⟨(by rw [ha.out]; exact putSel_upk 1 hb_ rfl rfl rfl), HBW.out⟩
            refine steps_cons ?_ ?_
            · rintro b a w' ⟨ha, HBW⟩ hb_ hon hoff
              refine ⟨_, rfl, fun K hK => ?_⟩
              have e5 : a.tmps[5]? = some (.int .i64 (k : Int)) := by rw [ha]; exact (putSel_off rfl).trans rfl
              replace ha := Aside0.mk ha
              have HBW := Aside0.mk HBW
              refine value_ (w1 := w') (v := .int .i64 (k : Int)) (by rfl) rfl ?_ ?_
              · go_simp
                (try simp only [i64_w])
                try rfl
              refine hK.out _ _ ⟨(by rw [ha.out]; exact putSel_upk 2 hb_ rfl rfl rfl), HBW.out⟩
            refine steps_cons ?_ ?_
            · rintro b a w' ⟨ha, HBW⟩ hb_ hon hoff
              refine ⟨_, rfl, fun K hK => ?_⟩
              have e15 : a.tmps[15]? = some (.string s) := by rw [ha]; exact putSel_on (e := (1, 15, .string s)) 1 rfl rfl (hon 1 (by kernel_rfl)) rfl
              have e16 : a.tmps[16]? = some (.int .i64 (k : Int)) := by rw [ha]; exact putSel_on (e := (2, 16, .int .i64 (k : Int))) 2 rfl rfl (hon 2 (by kernel_rfl)) rfl
              replace ha := Aside0.mk ha
              have HBW := Aside0.mk HBW
              refine value_ (w1 := w') (v := .int .u8 (s[k].toNat : Int)) (by rfl) rfl ?_ ?_
              · go_simp
                (try simp only [i64_w])
                try rfl
              refine hK.out _ _ ⟨(by rw [ha.out]; exact putSel_upk 3 hb_ rfl rfl rfl), HBW.out⟩
            refine steps_cons ?_ ?_
            · rintro b a w' ⟨ha, HBW⟩ hb_ hon hoff
              refine ⟨_, rfl, fun K hK => ?_⟩
              have e14 : a.tmps[14]? = some (.agg #[.int .u64 digitSet.a, .int .u64 digitSet.b, .int .u64 digitSet.c, .int .u64 digitSet.d]) := by rw [ha]; exact putSel_on (e := (0, 14, .agg #[.int .u64 digitSet.a, .int .u64 digitSet.b, .int .u64 digitSet.c, .int .u64 digitSet.d])) 0 rfl rfl (hon 0 (by kernel_rfl)) rfl
              have e17 : a.tmps[17]? = some (.int .u8 (s[k].toNat : Int)) := by rw [ha]; exact putSel_on (e := (3, 17, .int .u8 (s[k].toNat : Int))) 3 rfl rfl (hon 3 (by kernel_rfl)) rfl
              replace ha := Aside0.mk ha
              have HBW := Aside0.mk HBW
              refine goes_ Tryd.func37 (by kernel_rfl) rfl #[.agg #[.int .u64 digitSet.a, .int .u64 digitSet.b, .int .u64 digitSet.c, .int .u64 digitSet.d], .int .u8 (s[k].toNat : Int)] (by rfl) rfl rfl (by first | (simp only [List.map_toArray, List.map_cons, List.map_nil, Act.eval, Array.getD_eq_getD_getElem?, Option.getD_some, e14, e17]; done) | (simp only [List.map_toArray, List.map_cons, List.map_nil, Act.eval, Array.getD_eq_getD_getElem?, Option.getD_some, e14, e17]; rfl)) ?_
              refine (has_any digitSet _ w' r.1 r.2).mono ?_
              rintro e w1 ⟨rfl, hb⟩
              rw [HX.out]
              refine ⟨_, rfl, ?_⟩
              refine hK.out _ _ ⟨(by rw [ha.out]; exact putSel_upk 4 hb_ rfl rfl rfl), below_step HBW.out hb⟩
            refine steps_cons ?_ ?_
            · rintro b a w' ⟨ha, HBW⟩ hb_ hon hoff
              refine ⟨_, rfl, fun K hK => ?_⟩
              have e18 : a.tmps[18]? = some (.bool true) := by rw [ha]; exact putSel_on (e := (4, 18, .bool true)) 4 rfl rfl (hon 4 (by kernel_rfl)) rfl
              replace ha := Aside0.mk ha
              have HBW := Aside0.mk HBW
              refine value_ (w1 := w') (v := .bool false) (by rfl) rfl ?_ ?_
              · go_simp
                (try simp only [i64_w])
                try rfl
              refine hK.out _ _ ⟨(by rw [ha.out]; exact putSel_upk 5 hb_ rfl rfl rfl), HBW.out⟩
            refine steps_cons ?_ ?_
            · rintro b a w' ⟨ha, HBW⟩ hb_ hon hoff
              refine ⟨_, rfl, fun K hK => ?_⟩
              have e19 : a.tmps[19]? = some (.bool false) := by rw [ha]; exact putSel_on (e := (5, 19, .bool false)) 5 rfl rfl (hon 5 (by kernel_rfl)) rfl
              replace ha := Aside0.mk ha
              have HBW := Aside0.mk HBW
              refine value_ (w1 := w') (v := .bool false) (by rfl) rfl ?_ ?_
              · go_simp
                (try simp only [i64_w])
                try rfl
              refine hK.out _ _ ⟨(by rw [ha.out]; exact putSel_upk 6 hb_ rfl rfl rfl), HBW.out⟩
            refine steps_cons ?_ ?_
            · rintro b a w' ⟨ha, HBW⟩ hb_ hon hoff
              refine ⟨_, rfl, fun K hK => ?_⟩
              have e5 : a.tmps[5]? = some (.int .i64 (k : Int)) := by rw [ha]; exact (putSel_off rfl).trans rfl
              have e20 : a.tmps[20]? = some (.bool false) := by rw [ha]; exact putSel_on (e := (6, 20, .bool false)) 6 rfl rfl (hon 6 (by kernel_rfl)) rfl
              replace ha := Aside0.mk ha
              have HBW := Aside0.mk HBW
              refine value_ (w1 := w') (v := .int .i64 (k : Int)) (wanted_on rfl rfl rfl (e20.trans (by first | rfl | (simp [*]; done)))) rfl ?_ ?_
              · go_simp
                (try simp only [i64_w])
                try rfl
              refine hK.out _ _ ⟨(by rw [ha.out]; exact putSel_upk 7 hb_ rfl rfl rfl), HBW.out⟩
            refine steps_cons ?_ ?_
            · rintro b a w' ⟨ha, HBW⟩ hb_ hon hoff
              refine ⟨_, rfl, fun K hK => ?_⟩
              have e21 : a.tmps[21]? = some (.int .i64 (k : Int)) := by rw [ha]; exact putSel_on (e := (7, 21, .int .i64 (k : Int))) 7 rfl rfl (hon 7 (by kernel_rfl)) rfl
              have e20 : a.tmps[20]? = some (.bool false) := by rw [ha]; exact putSel_on (e := (6, 20, .bool false)) 6 rfl rfl (hon 6 (by kernel_rfl)) rfl
              replace ha := Aside0.mk ha
              have HBW := Aside0.mk HBW
              refine value_ (w1 := w') (v := .bool true) (wanted_on rfl rfl rfl (e20.trans (by first | rfl | (simp [*]; done)))) rfl ?_ ?_
              · go_simp
                (try simp only [i64_w])
                try rfl
              refine hK.out _ _ ⟨(by rw [ha.out]; exact putSel_upk 8 hb_ rfl rfl rfl), HBW.out⟩
            refine steps_cons ?_ ?_
            · rintro b a w' ⟨ha, HBW⟩ hb_ hon hoff
              refine ⟨_, rfl, fun K hK => ?_⟩
              have e22 : a.tmps[22]? = some (.bool true) := by rw [ha]; exact putSel_on (e := (8, 22, .bool true)) 8 rfl rfl (hon 8 (by kernel_rfl)) rfl
              have e20 : a.tmps[20]? = some (.bool false) := by rw [ha]; exact putSel_on (e := (6, 20, .bool false)) 6 rfl rfl (hon 6 (by kernel_rfl)) rfl
              replace ha := Aside0.mk ha
              have HBW := Aside0.mk HBW
              refine value_ (w1 := w') (v := .bool true) (wanted_on rfl rfl rfl (e20.trans (by first | rfl | (simp [*]; done)))) rfl ?_ ?_
              · go_simp
                (try simp only [i64_w])
                try rfl
              refine hK.out _ _ ⟨(by rw [ha.out]; exact putSel_upk 9 hb_ rfl rfl rfl), HBW.out⟩
            refine steps_cons ?_ ?_
            · rintro b a w' ⟨ha, HBW⟩ hb_ hon hoff
              refine ⟨_, rfl, fun K hK => ?_⟩
              have e0 : a.tmps[0]? = some (.string s) := by rw [ha]; exact (putSel_off rfl).trans rfl
              have e23 : a.tmps[23]? = some (.bool true) := by rw [ha]; exact putSel_on (e := (9, 23, .bool true)) 9 rfl rfl (hon 9 (by kernel_rfl)) rfl
              replace ha := Aside0.mk ha
              have HBW := Aside0.mk HBW
              refine value_ (w1 := w') (v := .string s) (wanted_on rfl rfl rfl (e23.trans (by first | rfl | (simp [*]; done)))) rfl ?_ ?_
              · go_simp
                (try simp only [i64_w])
                try rfl
              refine hK.out _ _ ⟨(by rw [ha.out]; exact putSel_upk 10 hb_ rfl rfl rfl), HBW.out⟩
            refine steps_cons ?_ ?_
            · rintro b a w' ⟨ha, HBW⟩ hb_ hon hoff
              refine ⟨_, rfl, fun K hK => ?_⟩
              have e5 : a.tmps[5]? = some (.int .i64 (k : Int)) := by rw [ha]; exact (putSel_off rfl).trans rfl
              have e23 : a.tmps[23]? = some (.bool true) := by rw [ha]; exact putSel_on (e := (9, 23, .bool true)) 9 rfl rfl (hon 9 (by kernel_rfl)) rfl
              replace ha := Aside0.mk ha
              have HBW := Aside0.mk HBW
              refine value_ (w1 := w') (v := .int .i64 (k : Int)) (wanted_on rfl rfl rfl (e23.trans (by first | rfl | (simp [*]; done)))) rfl ?_ ?_
              · go_simp
                (try simp only [i64_w])
                try rfl
              refine hK.out _ _ ⟨(by rw [ha.out]; exact putSel_upk 11 hb_ rfl rfl rfl), HBW.out⟩
            refine steps_cons ?_ ?_
            · rintro b a w' ⟨ha, HBW⟩ hb_ hon hoff
              refine ⟨_, rfl, fun K hK => ?_⟩
              have e24 : a.tmps[24]? = some (.string s) := by rw [ha]; exact putSel_on (e := (10, 24, .string s)) 10 rfl rfl (hon 10 (by kernel_rfl)) rfl
              have e25 : a.tmps[25]? = some (.int .i64 (k : Int)) := by rw [ha]; exact putSel_on (e := (11, 25, .int .i64 (k : Int))) 11 rfl rfl (hon 11 (by kernel_rfl)) rfl
              have e23 : a.tmps[23]? = some (.bool true) := by rw [ha]; exact putSel_on (e := (9, 23, .bool true)) 9 rfl rfl (hon 9 (by kernel_rfl)) rfl
              replace ha := Aside0.mk ha
              have HBW := Aside0.mk HBW
              refine value_ (w1 := w') (v := .int .u8 (s[k].toNat : Int)) (wanted_on rfl rfl rfl (e23.trans (by first | rfl | (simp [*]; done)))) rfl ?_ ?_
              · go_simp
                (try simp only [i64_w])
                try rfl
              refine hK.out _ _ ⟨(by rw [ha.out]; exact putSel_upk 12 hb_ rfl rfl rfl), HBW.out⟩
            refine steps_cons ?_ ?_
            · rintro b a w' ⟨ha, HBW⟩ hb_ hon hoff
              refine ⟨_, rfl, fun K hK => ?_⟩
              have e26 : a.tmps[26]? = some (.int .u8 (s[k].toNat : Int)) := by rw [ha]; exact putSel_on (e := (12, 26, .int .u8 (s[k].toNat : Int))) 12 rfl rfl (hon 12 (by kernel_rfl)) rfl
              have e23 : a.tmps[23]? = some (.bool true) := by rw [ha]; exact putSel_on (e := (9, 23, .bool true)) 9 rfl rfl (hon 9 (by kernel_rfl)) rfl
              replace ha := Aside0.mk ha
              have HBW := Aside0.mk HBW
              refine value_ (w1 := w') (v := .bool false) (wanted_on rfl rfl rfl (e23.trans (by first | rfl | (simp [*]; done)))) rfl ?_ ?_
              · go_simp
                (try simp only [i64_w])
                try rfl
              refine hK.out _ _ ⟨(by rw [ha.out]; exact putSel_upk 13 hb_ rfl rfl rfl), HBW.out⟩
            refine steps_cons ?_ ?_
            · rintro b a w' ⟨ha, HBW⟩ hb_ hon hoff
              refine ⟨_, rfl, fun K hK => ?_⟩
              have e23 : a.tmps[23]? = some (.bool true) := by rw [ha]; exact putSel_on (e := (9, 23, .bool true)) 9 rfl rfl (hon 9 (by kernel_rfl)) rfl
              have e27 : a.tmps[27]? = some (.bool false) := by rw [ha]; exact putSel_on (e := (13, 27, .bool false)) 13 rfl rfl (hon 13 (by kernel_rfl)) rfl
              have e20 : a.tmps[20]? = some (.bool false) := by rw [ha]; exact putSel_on (e := (6, 20, .bool false)) 6 rfl rfl (hon 6 (by kernel_rfl)) rfl
              replace ha := Aside0.mk ha
              have HBW := Aside0.mk HBW
              refine value_ (w1 := w') (v := .bool false) (wanted_on rfl rfl rfl (e20.trans (by first | rfl | (simp [*]; done)))) rfl ?_ ?_
              · go_simp
                (try simp only [i64_w])
                try rfl
              refine hK.out _ _ ⟨(by rw [ha.out]; exact putSel_upk 14 hb_ rfl rfl rfl), HBW.out⟩
            refine steps_cons ?_ ?_
            · rintro b a w' ⟨ha, HBW⟩ hb_ hon hoff
              refine ⟨_, rfl, fun K hK => ?_⟩
              have e20 : a.tmps[20]? = some (.bool false) := by rw [ha]; exact putSel_on (e := (6, 20, .bool false)) 6 rfl rfl (hon 6 (by kernel_rfl)) rfl
              have e28 : a.tmps[28]? = some (.bool false) := by rw [ha]; exact putSel_on (e := (14, 28, .bool false)) 14 rfl rfl (hon 14 (by kernel_rfl)) rfl
              replace ha := Aside0.mk ha
              have HBW := Aside0.mk HBW
              refine value_ (w1 := w') (v := .bool false) (by rfl) rfl ?_ ?_
              · go_simp
                (try simp only [i64_w])
                try rfl
              refine hK.out _ _ ⟨(by rw [ha.out]; exact putSel_upk 15 hb_ rfl rfl rfl), HBW.out⟩
            exact steps_nil
          rintro b a w5 hall ⟨ha, HBW⟩
          have hb0_ := hall 0 (by kernel_rfl)
          have hb1_ := hall 1 (by kernel_rfl)
          have hb2_ := hall 2 (by kernel_rfl)
          have hb3_ := hall 3 (by kernel_rfl)
          have hb4_ := hall 4 (by kernel_rfl)
          have hb5_ := hall 5 (by kernel_rfl)
          have hb6_ := hall 6 (by kernel_rfl)
          have hb7_ := hall 7 (by kernel_rfl)
          have hb8_ := hall 8 (by kernel_rfl)
          have hb9_ := hall 9 (by kernel_rfl)
          have hb10_ := hall 10 (by kernel_rfl)
          have hb11_ := hall 11 (by kernel_rfl)
          have hb12_ := hall 12 (by kernel_rfl)
          have hb13_ := hall 13 (by kernel_rfl)
          have hb14_ := hall 14 (by kernel_rfl)
          have hb15_ := hall 15 (by kernel_rfl)
          subst ha
          simp only [putSel, hb0_, hb1_, hb2_, hb3_, hb4_, hb5_, hb6_, hb7_, hb8_, hb9_, hb10_, hb11_, hb12_, hb13_, hb14_, hb15_, if_true, Act.put, List.setIfInBounds_toArray, List.set_cons_zero, List.set_cons_succ]
          have HBW := Aside0.mk HBW
          clear hall hb0_ hb1_ hb2_ hb3_ hb4_ hb5_ hb6_ hb7_ hb8_ hb9_ hb10_ hb11_ hb12_ hb13_ hb14_ hb15_
          have HB2 := Aside0.mk (below_step (below_drew1 HB.out) HBW.out)
          have HD2 := Aside0.mk (blk_below (blk_drew HD.out) HBW.out)
          clear HBW
          go_wp2_with fail
          go_roundw
          case rel => exact ⟨k + 1, by omega, by go_num, HD2.out, HB2.out, HG⟩
          case measure => simp [intOf]; omega
        · have t0 : ((k : Int) == 0) = false := beq_eq_false_iff_ne.2 (by omega)
          clear hst hbk h0
          go_wp2_with fail
          refine start_ (n := 16) (S := fun w' => True) (ds := []) #[false, false, false, false, false, false, false, false, false, false, false, false, false, false, false, false] (by kernel_rfl) rfl rfl trivial (fun hHeld => ?_)
          refine with_tabW figures.tab6 figures.bits6 (fun HT_ HW_ => ?_)
          refine inv_at [0, 1, 2, 3, 4, 5, 6, 7, 8, 9, 10, 11, 12, 13, 14, 15] (fun a0_ b a w' => a = putSel a0_ b [(0, 14, .agg #[.int .u64 digitSet.a, .int .u64 digitSet.b, .int .u64 digitSet.c, .int .u64 digitSet.d]), (1, 15, .string s), (2, 16, .int .i64 (k : Int)), (3, 17, .int .u8 (s[k].toNat : Int)), (4, 18, .bool true), (5, 19, .bool false), (6, 20, .bool false), (7, 21, .int .i64 (k : Int)), (8, 22, .bool false), (9, 23, .bool false), (10, 24, undef), (11, 25, undef), (12, 26, undef), (13, 27, undef), (14, 28, .bool false), (15, 29, .bool false)] ∧ Below wr.drew.heap.size wr.drew w') HT_.out HW_.out (by kernel_rfl) (by kernel_rfl) ?_ ?_ ?_
          · exact ⟨by simp only [putSel, Bool.false_eq_true, if_false], Below.refl _ _⟩
          · clear hHeld HT_ HW_
            refine steps_cons ?_ ?_
            · rintro b a w' ⟨ha, HBW⟩ hb_ hon hoff
              refine ⟨_, rfl, fun K hK => ?_⟩
              have e3 : a.tmps[3]? = some (.pointer (some ⟨w1.heap.size, 0, none⟩)) := by rw [ha]; exact (putSel_off rfl).trans rfl
              replace ha := Aside0.mk ha
              have HBW := Aside0.mk HBW
              have hc_ := blk_below (blk_drew HD.out) HBW.out
              have hc0_ : w'.cell? ⟨w1.heap.size, 0, none⟩ = some (.int .u64 digitSet.a) := (blk_cell hc_ 0).trans rfl
              have hc1_ : w'.cell? ⟨w1.heap.size, 1, none⟩ = some (.int .u64 digitSet.b) := (blk_cell hc_ 1).trans rfl
              have hc2_ : w'.cell? ⟨w1.heap.size, 2, none⟩ = some (.int .u64 digitSet.c) := (blk_cell hc_ 2).trans rfl
              have hc3_ : w'.cell? ⟨w1.heap.size, 3, none⟩ = some (.int .u64 digitSet.d) := (blk_cell hc_ 3).trans rfl
              clear hc_
              refine value_ (w1 := w') (v := .agg #[.int .u64 digitSet.a, .int .u64 digitSet.b, .int .u64 digitSet.c, .int .u64 digitSet.d]) (by rfl) rfl ?_ ?_
              · go_simp
                (try simp only [i64_w])
                try rfl
              refine hK.out _ _ ⟨(by rw [ha.out]; exact putSel_upk 0 hb_ rfl rfl rfl), HBW.out⟩
            refine steps_cons ?_ ?_
            · rintro b a w' ⟨ha, HBW⟩ hb_ hon hoff
              refine ⟨_, rfl, fun K hK => ?_⟩
              have e0 : a.tmps[0]? = some (.string s) := by rw [ha]; exact (putSel_off rfl).trans rfl
              replace ha := Aside0.mk ha
              have HBW := Aside0.mk HBW
              refine value_ (w1 := w') (v := .string s) (by rfl) rfl ?_ ?_
              · go_simp
                (try simp only [i64_w])
                try rfl
              refine hK.out _ _ ⟨(by rw [ha.out]; exact putSel_upk 1 hb_ rfl rfl rfl), HBW.out⟩
            refine steps_cons ?_ ?_
            · rintro b a w' ⟨ha, HBW⟩ hb_ hon hoff
              refine ⟨_, rfl, fun K hK => ?_⟩
              have e5 : a.tmps[5]? = some (.int .i64 (k : Int)) := by rw [ha]; exact (putSel_off rfl).trans rfl
              replace ha := Aside0.mk ha
              have HBW := Aside0.mk HBW
              refine value_ (w1 := w') (v := .int .i64 (k : Int)) (by rfl) rfl ?_ ?_
              · go_simp
                (try simp only [i64_w])
                try rfl
              refine hK.out _ _ ⟨(by rw [ha.out]; exact putSel_upk 2 hb_ rfl rfl rfl), HBW.out⟩
            refine steps_cons ?_ ?_
            · rintro b a w' ⟨ha, HBW⟩ hb_ hon hoff
              refine ⟨_, rfl, fun K hK => ?_⟩
              have e15 : a.tmps[15]? = some (.string s) := by rw [ha]; exact putSel_on (e := (1, 15, .string s)) 1 rfl rfl (hon 1 (by kernel_rfl)) rfl
              have e16 : a.tmps[16]? = some (.int .i64 (k : Int)) := by rw [ha]; exact putSel_on (e := (2, 16, .int .i64 (k : Int))) 2 rfl rfl (hon 2 (by kernel_rfl)) rfl
              replace ha := Aside0.mk ha
              have HBW := Aside0.mk HBW
              refine value_ (w1 := w') (v := .int .u8 (s[k].toNat : Int)) (by rfl) rfl ?_ ?_
              · go_simp
                (try simp only [i64_w])
                try rfl
              refine hK.out _ _ ⟨(by rw [ha.out]; exact putSel_upk 3 hb_ rfl rfl rfl), HBW.out⟩
            refine steps_cons ?_ ?_
            · rintro b a w' ⟨ha, HBW⟩ hb_ hon hoff
              refine ⟨_, rfl, fun K hK => ?_⟩
              have e14 : a.tmps[14]? = some (.agg #[.int .u64 digitSet.a, .int .u64 digitSet.b, .int .u64 digitSet.c, .int .u64 digitSet.d]) := by rw [ha]; exact putSel_on (e := (0, 14, .agg #[.int .u64 digitSet.a, .int .u64 digitSet.b, .int .u64 digitSet.c, .int .u64 digitSet.d])) 0 rfl rfl (hon 0 (by kernel_rfl)) rfl
              have e17 : a.tmps[17]? = some (.int .u8 (s[k].toNat : Int)) := by rw [ha]; exact putSel_on (e := (3, 17, .int .u8 (s[k].toNat : Int))) 3 rfl rfl (hon 3 (by kernel_rfl)) rfl
              replace ha := Aside0.mk ha
              have HBW := Aside0.mk HBW
              refine goes_ Tryd.func37 (by kernel_rfl) rfl #[.agg #[.int .u64 digitSet.a, .int .u64 digitSet.b, .int .u64 digitSet.c, .int .u64 digitSet.d], .int .u8 (s[k].toNat : Int)] (by rfl) rfl rfl (by first | (simp only [List.map_toArray, List.map_cons, List.map_nil, Act.eval, Array.getD_eq_getD_getElem?, Option.getD_some, e14, e17]; done) | (simp only [List.map_toArray, List.map_cons, List.map_nil, Act.eval, Array.getD_eq_getD_getElem?, Option.getD_some, e14, e17]; rfl)) ?_
              refine (has_any digitSet _ w' r.1 r.2).mono ?_
              rintro e w1 ⟨rfl, hb⟩
              rw [HX.out]
              refine ⟨_, rfl, ?_⟩
              refine hK.out _ _ ⟨(by rw [ha.out]; exact putSel_upk 4 hb_ rfl rfl rfl), below_step HBW.out hb⟩
            refine steps_cons ?_ ?_
            · rintro b a w' ⟨ha, HBW⟩ hb_ hon hoff
              refine ⟨_, rfl, fun K hK => ?_⟩
              have e18 : a.tmps[18]? = some (.bool true) := by rw [ha]; exact putSel_on (e := (4, 18, .bool true)) 4 rfl rfl (hon 4 (by kernel_rfl)) rfl
              replace ha := Aside0.mk ha
              have HBW := Aside0.mk HBW
              refine value_ (w1 := w') (v := .bool false) (by rfl) rfl ?_ ?_
              · go_simp
                (try simp only [i64_w])
                try rfl
              refine hK.out _ _ ⟨(by rw [ha.out]; exact putSel_upk 5 hb_ rfl rfl rfl), HBW.out⟩
            refine steps_cons ?_ ?_
            · rintro b a w' ⟨ha, HBW⟩ hb_ hon hoff
              refine ⟨_, rfl, fun K hK => ?_⟩
              have e19 : a.tmps[19]? = some (.bool false) := by rw [ha]; exact putSel_on (e := (5, 19, .bool false)) 5 rfl rfl (hon 5 (by kernel_rfl)) rfl
              replace ha := Aside0.mk ha
              have HBW := Aside0.mk HBW
              refine value_ (w1 := w') (v := .bool false) (by rfl) rfl ?_ ?_
              · go_simp
                (try simp only [i64_w])
                try rfl
              refine hK.out _ _ ⟨(by rw [ha.out]; exact putSel_upk 6 hb_ rfl rfl rfl), HBW.out⟩
            refine steps_cons ?_ ?_
            · rintro b a w' ⟨ha, HBW⟩ hb_ hon hoff
              refine ⟨_, rfl, fun K hK => ?_⟩
              have e5 : a.tmps[5]? = some (.int .i64 (k : Int)) := by rw [ha]; exact (putSel_off rfl).trans rfl
              have e20 : a.tmps[20]? = some (.bool false) := by rw [ha]; exact putSel_on (e := (6, 20, .bool false)) 6 rfl rfl (hon 6 (by kernel_rfl)) rfl
              replace ha := Aside0.mk ha
              have HBW := Aside0.mk HBW
              refine value_ (w1 := w') (v := .int .i64 (k : Int)) (wanted_on rfl rfl rfl (e20.trans (by first | rfl | (simp [*]; done)))) rfl ?_ ?_
              · go_simp
                (try simp only [i64_w])
                try rfl
              refine hK.out _ _ ⟨(by rw [ha.out]; exact putSel_upk 7 hb_ rfl rfl rfl), HBW.out⟩
            refine steps_cons ?_ ?_
            · rintro b a w' ⟨ha, HBW⟩ hb_ hon hoff
              refine ⟨_, rfl, fun K hK => ?_⟩
              have e21 : a.tmps[21]? = some (.int .i64 (k : Int)) := by rw [ha]; exact putSel_on (e := (7, 21, .int .i64 (k : Int))) 7 rfl rfl (hon 7 (by kernel_rfl)) rfl
              have e20 : a.tmps[20]? = some (.bool false) := by rw [ha]; exact putSel_on (e := (6, 20, .bool false)) 6 rfl rfl (hon 6 (by kernel_rfl)) rfl
              replace ha := Aside0.mk ha
              have HBW := Aside0.mk HBW
              refine value_ (w1 := w') (v := .bool false) (wanted_on rfl rfl rfl (e20.trans (by first | rfl | (simp [*]; done)))) rfl ?_ ?_
              · go_simp
                (try simp only [i64_w])
                try rfl
              refine hK.out _ _ ⟨(by rw [ha.out]; exact putSel_upk 8 hb_ rfl rfl rfl), HBW.out⟩
            refine steps_cons ?_ ?_
            · rintro b a w' ⟨ha, HBW⟩ hb_ hon hoff
              refine ⟨_, rfl, fun K hK => ?_⟩
              have e22 : a.tmps[22]? = some (.bool false) := by rw [ha]; exact putSel_on (e := (8, 22, .bool false)) 8 rfl rfl (hon 8 (by kernel_rfl)) rfl
              have e20 : a.tmps[20]? = some (.bool false) := by rw [ha]; exact putSel_on (e := (6, 20, .bool false)) 6 rfl rfl (hon 6 (by kernel_rfl)) rfl
              replace ha := Aside0.mk ha
              have HBW := Aside0.mk HBW
              refine value_ (w1 := w') (v := .bool false) (wanted_on rfl rfl rfl (e20.trans (by first | rfl | (simp [*]; done)))) rfl ?_ ?_
              · go_simp
                (try simp only [i64_w])
                try rfl
              refine hK.out _ _ ⟨(by rw [ha.out]; exact putSel_upk 9 hb_ rfl rfl rfl), HBW.out⟩
            refine steps_cons ?_ ?_
            · rintro b a w' ⟨ha, HBW⟩ hb_ hon hoff
              refine ⟨_, rfl, fun K hK => ?_⟩
              have e23 : a.tmps[23]? = some (.bool false) := by rw [ha]; exact putSel_on (e := (9, 23, .bool false)) 9 rfl rfl (hon 9 (by kernel_rfl)) rfl
              replace ha := Aside0.mk ha
              have HBW := Aside0.mk HBW
              refine off_ (wanted_off rfl rfl rfl (e23.trans (by first | rfl | (simp [*]; done)))) ?_
              refine hK.out _ _ ⟨(by rw [ha.out]; exact putSel_upk 10 hb_ rfl rfl rfl), HBW.out⟩
            refine steps_cons ?_ ?_
            · rintro b a w' ⟨ha, HBW⟩ hb_ hon hoff
              refine ⟨_, rfl, fun K hK => ?_⟩
              have e23 : a.tmps[23]? = some (.bool false) := by rw [ha]; exact putSel_on (e := (9, 23, .bool false)) 9 rfl rfl (hon 9 (by kernel_rfl)) rfl
              replace ha := Aside0.mk ha
              have HBW := Aside0.mk HBW
              refine off_ (wanted_off rfl rfl rfl (e23.trans (by first | rfl | (simp [*]; done)))) ?_
              refine hK.out _ _ ⟨(by rw [ha.out]; exact putSel_upk 11 hb_ rfl rfl rfl), HBW.out⟩
            refine steps_cons ?_ ?_
            · rintro b a w' ⟨ha, HBW⟩ hb_ hon hoff
              refine ⟨_, rfl, fun K hK => ?_⟩
              have e23 : a.tmps[23]? = some (.bool false) := by rw [ha]; exact putSel_on (e := (9, 23, .bool false)) 9 rfl rfl (hon 9 (by kernel_rfl)) rfl
              replace ha := Aside0.mk ha
              have HBW := Aside0.mk HBW
              refine off_ (wanted_off rfl rfl rfl (e23.trans (by first | rfl | (simp [*]; done)))) ?_
              refine hK.out _ _ ⟨(by rw [ha.out]; exact putSel_upk 12 hb_ rfl rfl rfl), HBW.out⟩
            refine steps_cons ?_ ?_
            · rintro b a w' ⟨ha, HBW⟩ hb_ hon hoff
              refine ⟨_, rfl, fun K hK => ?_⟩
              have e23 : a.tmps[23]? = some (.bool false) := by rw [ha]; exact putSel_on (e := (9, 23, .bool false)) 9 rfl rfl (hon 9 (by kernel_rfl)) rfl
              replace ha := Aside0.mk ha
              have HBW := Aside0.mk HBW
              refine off_ (wanted_off rfl rfl rfl (e23.trans (by first | rfl | (simp [*]; done)))) ?_
              refine hK.out _ _ ⟨(by rw [ha.out]; exact putSel_upk 13 hb_ rfl rfl rfl), HBW.out⟩
            refine steps_cons ?_ ?_
            · rintro b a w' ⟨ha, HBW⟩ hb_ hon hoff
              refine ⟨_, rfl, fun K hK => ?_⟩
              have e23 : a.tmps[23]? = some (.bool false) := by rw [ha]; exact putSel_on (e := (9, 23, .bool false)) 9 rfl rfl (hon 9 (by kernel_rfl)) rfl
              have e20 : a.tmps[20]? = some (.bool false) := by rw [ha]; exact putSel_on (e := (6, 20, .bool false)) 6 rfl rfl (hon 6 (by kernel_rfl)) rfl
              replace ha := Aside0.mk ha
              have HBW := Aside0.mk HBW
              refine value_ (w1 := w') (v := .bool false) (wanted_on rfl rfl rfl (e20.trans (by first | rfl | (simp [*]; done)))) rfl ?_ ?_
              · go_simp
                (try simp only [i64_w])
                try rfl
              refine hK.out _ _ ⟨(by rw [ha.out]; exact putSel_upk 14 hb_ rfl rfl rfl), HBW.out⟩
            refine steps_cons ?_ ?_
            · rintro b a w' ⟨ha, HBW⟩ hb_ hon hoff
              refine ⟨_, rfl, fun K hK => ?_⟩
              have e20 : a.tmps[20]? = some (.bool false) := by rw [ha]; exact putSel_on (e := (6, 20, .bool false)) 6 rfl rfl (hon 6 (by kernel_rfl)) rfl
              have e28 : a.tmps[28]? = some (.bool false) := by rw [ha]; exact putSel_on (e := (14, 28, .bool false)) 14 rfl rfl (hon 14 (by kernel_rfl)) rfl
              replace ha := Aside0.mk ha
              have HBW := Aside0.mk HBW
              refine value_ (w1 := w') (v := .bool false) (by rfl) rfl ?_ ?_
              · go_simp
                (try simp only [i64_w])
                try rfl
              refine hK.out _ _ ⟨(by rw [ha.out]; exact putSel_upk 15 hb_ rfl rfl rfl), HBW.out⟩
            exact steps_nil
          rintro b a w5 hall ⟨ha, HBW⟩
          have hb0_ := hall 0 (by kernel_rfl)
          have hb1_ := hall 1 (by kernel_rfl)
          have hb2_ := hall 2 (by kernel_rfl)
          have hb3_ := hall 3 (by kernel_rfl)
          have hb4_ := hall 4 (by kernel_rfl)
          have hb5_ := hall 5 (by kernel_rfl)
          have hb6_ := hall 6 (by kernel_rfl)
          have hb7_ := hall 7 (by kernel_rfl)
          have hb8_ := hall 8 (by kernel_rfl)
          have hb9_ := hall 9 (by kernel_rfl)
          have hb10_ := hall 10 (by kernel_rfl)
          have hb11_ := hall 11 (by kernel_rfl)
          have hb12_ := hall 12 (by kernel_rfl)
          have hb13_ := hall 13 (by kernel_rfl)
          have hb14_ := hall 14 (by kernel_rfl)
          have hb15_ := hall 15 (by kernel_rfl)
          subst ha
          simp only [putSel, hb0_, hb1_, hb2_, hb3_, hb4_, hb5_, hb6_, hb7_, hb8_, hb9_, hb10_, hb11_, hb12_, hb13_, hb14_, hb15_, if_true, Act.put, List.setIfInBounds_toArray, List.set_cons_zero, List.set_cons_succ]
          have HBW := Aside0.mk HBW
          clear hall hb0_ hb1_ hb2_ hb3_ hb4_ hb5_ hb6_ hb7_ hb8_ hb9_ hb10_ hb11_ hb12_ hb13_ hb14_ hb15_
          have HB2 := Aside0.mk (below_step (below_drew1 HB.out) HBW.out)
          have HD2 := Aside0.mk (blk_below (blk_drew HD.out) HBW.out)
          clear HBW
          go_wp2_with fail
          go_roundw
          case rel => exact ⟨k + 1, by omega, by go_num, HD2.out, HB2.out, HG⟩
          case measure => simp [intOf]; omega
      · have HG := Aside0.mk (show (figL 7 (bs s) : Int) = (k : Int) by rw [HI.out, fig_stop s k hk3 hks hst]; simp)
        clear HI
        rw [hbk] at hst
        cases hdig : isDigit (s[k].toNat : Int) with
        | false =>
          rw [hdig] at HX
          clear hst hbk hdig
          go_wp2_with fail
          refine start_ (n := 16) (S := fun w' => True) (ds := []) #[false, false, false, false, false, false, false, false, false, false, false, false, false, false, false, false] (by kernel_rfl) rfl rfl trivial (fun hHeld => ?_)
          refine with_tabW figures.tab6 figures.bits6 (fun HT_ HW_ => ?_)
          refine inv_at [0, 1, 2, 3, 4, 5, 6, 7, 8, 9, 10, 11, 12, 13, 14, 15] (fun a0_ b a w' => a = putSel a0_ b [(0, 14, .agg #[.int .u64 digitSet.a, .int .u64 digitSet.b, .int .u64 digitSet.c, .int .u64 digitSet.d]), (1, 15, .string s), (2, 16, .int .i64 (k : Int)), (3, 17, .int .u8 (s[k].toNat : Int)), (4, 18, .bool false), (5, 19, .bool true), (6, 20, .bool true), (7, 21, undef), (8, 22, undef), (9, 23, undef), (10, 24, undef), (11, 25, undef), (12, 26, undef), (13, 27, undef), (14, 28, undef), (15, 29, .bool true)] ∧ Below wr.drew.heap.size wr.drew w') HT_.out HW_.out (by kernel_rfl) (by kernel_rfl) ?_ ?_ ?_
          · exact ⟨by simp only [putSel, Bool.false_eq_true, if_false], Below.refl _ _⟩
          · clear hHeld HT_ HW_
            refine steps_cons ?_ ?_
            · rintro b a w' ⟨ha, HBW⟩ hb_ hon hoff
              refine ⟨_, rfl, fun K hK => ?_⟩
              have e3 : a.tmps[3]? = some (.pointer (some ⟨w1.heap.size, 0, none⟩)) := by rw [ha]; exact (putSel_off rfl).trans rfl
              replace ha := Aside0.mk ha
              have HBW := Aside0.mk HBW
              have hc_ := blk_below (blk_drew HD.out) HBW.out
              have hc0_ : w'.cell? ⟨w1.heap.size, 0, none⟩ = some (.int .u64 digitSet.a) := (blk_cell hc_ 0).trans rfl
              have hc1_ : w'.cell? ⟨w1.heap.size, 1, none⟩ = some (.int .u64 digitSet.b) := (blk_cell hc_ 1).trans rfl
              have hc2_ : w'.cell? ⟨w1.heap.size, 2, none⟩ = some (.int .u64 digitSet.c) := (blk_cell hc_ 2).trans rfl
              have hc3_ : w'.cell? ⟨w1.heap.size, 3, none⟩ = some (.int .u64 digitSet.d) := (blk_cell hc_ 3).trans rfl
              clear hc_
              refine value_ (w1 := w') (v := .agg #[.int .u64 digitSet.a, .int .u64 digitSet.b, .int .u64 digitSet.c, .int .u64 digitSet.d]) (by rfl) rfl ?_ ?_
              · go_simp
                (try simp only [i64_w])
                try rfl
              refine hK.out _ _ ⟨(by rw [ha.out]; exact putSel_upk 0 hb_ rfl rfl rfl), HBW.out⟩
            refine steps_cons ?_ ?_
            · rintro b a w' ⟨ha, HBW⟩ hb_ hon hoff
              refine ⟨_, rfl, fun K hK => ?_⟩
              have e0 : a.tmps[0]? = some (.string s) := by rw [ha]; exact (putSel_off rfl).trans rfl
              replace ha := Aside0.mk ha
              have HBW := Aside0.mk HBW
              refine value_ (w1 := w') (v := .string s) (by rfl) rfl ?_ ?_
              · go_simp
                (try simp only [i64_w])
                try rfl
              refine hK.out _ _ ⟨(by rw [ha.out]; exact putSel_upk 1 hb_ rfl rfl rfl), HBW.out⟩
            refine steps_cons ?_ ?_
            · rintro b a w' ⟨ha, HBW⟩ hb_ hon hoff
              refine ⟨_, rfl, fun K hK => ?_⟩
              have e5 : a.tmps[5]? = some (.int .i64 (k : Int)) := by rw [ha]; exact (putSel_off rfl).trans rfl
              replace ha := Aside0.mk ha
              have HBW := Aside0.mk HBW
              refine value_ (w1 := w') (v := .int .i64 (k : Int)) (by rfl) rfl ?_ ?_
              · go_simp
                (try simp only [i64_w])
                try rfl
              refine hK.out _ _ ⟨(by rw [ha.out]; exact putSel_upk 2 hb_ rfl rfl rfl), HBW.out⟩
            refine steps_cons ?_ ?_
            · rintro b a w' ⟨ha, HBW⟩ hb_ hon hoff
              refine ⟨_, rfl, fun K hK => ?_⟩
              have e15 : a.tmps[15]? = some (.string s) := by rw [ha]; exact putSel_on (e := (1, 15, .string s)) 1 rfl rfl (hon 1 (by kernel_rfl)) rfl
              have e16 : a.tmps[16]? = some (.int .i64 (k : Int)) := by rw [ha]; exact putSel_on (e := (2, 16, .int .i64 (k : Int))) 2 rfl rfl (hon 2 (by kernel_rfl)) rfl
              replace ha := Aside0.mk ha
              have HBW := Aside0.mk HBW
              refine value_ (w1 := w') (v := .int .u8 (s[k].toNat : Int)) (by rfl) rfl ?_ ?_
              · go_simp
                (try simp only [i64_w])
                try rfl
              refine hK.out _ _ ⟨(by rw [ha.out]; exact putSel_upk 3 hb_ rfl rfl rfl), HBW.out⟩
            refine steps_cons ?_ ?_
            · rintro b a w' ⟨ha, HBW⟩ hb_ hon hoff
              refine ⟨_, rfl, fun K hK => ?_⟩
              have e14 : a.tmps[14]? = some (.agg #[.int .u64 digitSet.a, .int .u64 digitSet.b, .int .u64 digitSet.c, .int .u64 digitSet.d]) := by rw [ha]; exact putSel_on (e := (0, 14, .agg #[.int .u64 digitSet.a, .int .u64 digitSet.b, .int .u64 digitSet.c, .int .u64 digitSet.d])) 0 rfl rfl (hon 0 (by kernel_rfl)) rfl
              have e17 : a.tmps[17]? = some (.int .u8 (s[k].toNat : Int)) := by rw [ha]; exact putSel_on (e := (3, 17, .int .u8 (s[k].toNat : Int))) 3 rfl rfl (hon 3 (by kernel_rfl)) rfl
              replace ha := Aside0.mk ha
              have HBW := Aside0.mk HBW
              refine goes_ Tryd.func37 (by kernel_rfl) rfl #[.agg #[.int .u64 digitSet.a, .int .u64 digitSet.b, .int .u64 digitSet.c, .int .u64 digitSet.d], .int .u8 (s[k].toNat : Int)] (by rfl) rfl rfl (by first | (simp only [List.map_toArray, List.map_cons, List.map_nil, Act.eval, Array.getD_eq_getD_getElem?, Option.getD_some, e14, e17]; done) | (simp only [List.map_toArray, List.map_cons, List.map_nil, Act.eval, Array.getD_eq_getD_getElem?, Option.getD_some, e14, e17]; rfl)) ?_
              refine (has_any digitSet _ w' r.1 r.2).mono ?_
              rintro e w1 ⟨rfl, hb⟩
              rw [HX.out]
              refine ⟨_, rfl, ?_⟩
              refine hK.out _ _ ⟨(by rw [ha.out]; exact putSel_upk 4 hb_ rfl rfl rfl), below_step HBW.out hb⟩
            refine steps_cons ?_ ?_
            · rintro b a w' ⟨ha, HBW⟩ hb_ hon hoff
              refine ⟨_, rfl, fun K hK => ?_⟩
              have e18 : a.tmps[18]? = some (.bool false) := by rw [ha]; exact putSel_on (e := (4, 18, .bool false)) 4 rfl rfl (hon 4 (by kernel_rfl)) rfl
              replace ha := Aside0.mk ha
              have HBW := Aside0.mk HBW
              refine value_ (w1 := w') (v := .bool true) (by rfl) rfl ?_ ?_
              · go_simp
                (try simp only [i64_w])
                try rfl
              refine hK.out _ _ ⟨(by rw [ha.out]; exact putSel_upk 5 hb_ rfl rfl rfl), HBW.out⟩
            refine steps_cons ?_ ?_
            · rintro b a w' ⟨ha, HBW⟩ hb_ hon hoff
              refine ⟨_, rfl, fun K hK => ?_⟩
              have e19 : a.tmps[19]? = some (.bool true) := by rw [ha]; exact putSel_on (e := (5, 19, .bool true)) 5 rfl rfl (hon 5 (by kernel_rfl)) rfl
              replace ha := Aside0.mk ha
              have HBW := Aside0.mk HBW
              refine value_ (w1 := w') (v := .bool true) (by rfl) rfl ?_ ?_
              · go_simp
                (try simp only [i64_w])
                try rfl
              refine hK.out _ _ ⟨(by rw [ha.out]; exact putSel_upk 6 hb_ rfl rfl rfl), HBW.out⟩
            refine steps_cons ?_ ?_
            · rintro b a w' ⟨ha, HBW⟩ hb_ hon hoff
              refine ⟨_, rfl, fun K hK => ?_⟩
              have e20 : a.tmps[20]? = some (.bool true) := by rw [ha]; exact putSel_on (e := (6, 20, .bool true)) 6 rfl rfl (hon 6 (by kernel_rfl)) rfl
              replace ha := Aside0.mk ha
              have HBW := Aside0.mk HBW
              refine off_ (wanted_off rfl rfl rfl (e20.trans (by first | rfl | (simp [*]; done)))) ?_
              refine hK.out _ _ ⟨(by rw [ha.out]; exact putSel_upk 7 hb_ rfl rfl rfl), HBW.out⟩
            refine steps_cons ?_ ?_
            · rintro b a w' ⟨ha, HBW⟩ hb_ hon hoff
              refine ⟨_, rfl, fun K hK => ?_⟩
              have e20 : a.tmps[20]? = some (.bool true) := by rw [ha]; exact putSel_on (e := (6, 20, .bool true)) 6 rfl rfl (hon 6 (by kernel_rfl)) rfl
              replace ha := Aside0.mk ha
              have HBW := Aside0.mk HBW
              refine off_ (wanted_off rfl rfl rfl (e20.trans (by first | rfl | (simp [*]; done)))) ?_
              refine hK.out _ _ ⟨(by rw [ha.out]; exact putSel_upk 8 hb_ rfl rfl rfl), HBW.out⟩
            refine steps_cons ?_ ?_
            · rintro b a w' ⟨ha, HBW⟩ hb_ hon hoff
              refine ⟨_, rfl, fun K hK => ?_⟩
              have e20 : a.tmps[20]? = some (.bool true) := by rw [ha]; exact putSel_on (e := (6, 20, .bool true)) 6 rfl rfl (hon 6 (by kernel_rfl)) rfl
              replace ha := Aside0.mk ha
              have HBW := Aside0.mk HBW
              refine off_ (wanted_off rfl rfl rfl (e20.trans (by first | rfl | (simp [*]; done)))) ?_
              refine hK.out _ _ ⟨(by rw [ha.out]; exact putSel_upk 9 hb_ rfl rfl rfl), HBW.out⟩
            refine steps_cons ?_ ?_
            · rintro b a w' ⟨ha, HBW⟩ hb_ hon hoff
              refine ⟨_, rfl, fun K hK => ?_⟩
              have e23 : a.tmps[23]? = some (undef) := by rw [ha]; exact putSel_on (e := (9, 23, undef)) 9 rfl rfl (hon 9 (by kernel_rfl)) rfl
              replace ha := Aside0.mk ha
              have HBW := Aside0.mk HBW
              refine off_ (wanted_undef rfl rfl rfl e23) ?_
              refine hK.out _ _ ⟨(by rw [ha.out]; exact putSel_upk 10 hb_ rfl rfl rfl), HBW.out⟩
            refine steps_cons ?_ ?_
            · rintro b a w' ⟨ha, HBW⟩ hb_ hon hoff
              refine ⟨_, rfl, fun K hK => ?_⟩
              have e23 : a.tmps[23]? = some (undef) := by rw [ha]; exact putSel_on (e := (9, 23, undef)) 9 rfl rfl (hon 9 (by kernel_rfl)) rfl
              replace ha := Aside0.mk ha
              have HBW := Aside0.mk HBW
              refine off_ (wanted_undef rfl rfl rfl e23) ?_
              refine hK.out _ _ ⟨(by rw [ha.out]; exact putSel_upk 11 hb_ rfl rfl rfl), HBW.out⟩
            refine steps_cons ?_ ?_
            · rintro b a w' ⟨ha, HBW⟩ hb_ hon hoff
              refine ⟨_, rfl, fun K hK => ?_⟩
              have e23 : a.tmps[23]? = some (undef) := by rw [ha]; exact putSel_on (e := (9, 23, undef)) 9 rfl rfl (hon 9 (by kernel_rfl)) rfl
              replace ha := Aside0.mk ha
              have HBW := Aside0.mk HBW
              refine off_ (wanted_undef rfl rfl rfl e23) ?_
              refine hK.out _ _ ⟨(by rw [ha.out]; exact putSel_upk 12 hb_ rfl rfl rfl), HBW.out⟩
            refine steps_cons ?_ ?_
            · rintro b a w' ⟨ha, HBW⟩ hb_ hon hoff
              refine ⟨_, rfl, fun K hK => ?_⟩
              have e23 : a.tmps[23]? = some (undef) := by rw [ha]; exact putSel_on (e := (9, 23, undef)) 9 rfl rfl (hon 9 (by kernel_rfl)) rfl
              replace ha := Aside0.mk ha
              have HBW := Aside0.mk HBW
              refine off_ (wanted_undef rfl rfl rfl e23) ?_
              refine hK.out _ _ ⟨(by rw [ha.out]; exact putSel_upk 13 hb_ rfl rfl rfl), HBW.out⟩
            refine steps_cons ?_ ?_
            · rintro b a w' ⟨ha, HBW⟩ hb_ hon hoff
              refine ⟨_, rfl, fun K hK => ?_⟩
              have e20 : a.tmps[20]? = some (.bool true) := by rw [ha]; exact putSel_on (e := (6, 20, .bool true)) 6 rfl rfl (hon 6 (by kernel_rfl)) rfl
              replace ha := Aside0.mk ha
              have HBW := Aside0.mk HBW
              refine off_ (wanted_off rfl rfl rfl (e20.trans (by first | rfl | (simp [*]; done)))) ?_
              refine hK.out _ _ ⟨(by rw [ha.out]; exact putSel_upk 14 hb_ rfl rfl rfl), HBW.out⟩
            refine steps_cons ?_ ?_
            · rintro b a w' ⟨ha, HBW⟩ hb_ hon hoff
              refine ⟨_, rfl, fun K hK => ?_⟩
              have e20 : a.tmps[20]? = some (.bool true) := by rw [ha]; exact putSel_on (e := (6, 20, .bool true)) 6 rfl rfl (hon 6 (by kernel_rfl)) rfl
              replace ha := Aside0.mk ha
              have HBW := Aside0.mk HBW
              refine value_ (w1 := w') (v := .bool true) (by rfl) rfl ?_ ?_
              · go_simp
                (try simp only [i64_w])
                try rfl
              refine hK.out _ _ ⟨(by rw [ha.out]; exact putSel_upk 15 hb_ rfl rfl rfl), HBW.out⟩
            exact steps_nil
          rintro b a w5 hall ⟨ha, HBW⟩
          have hb0_ := hall 0 (by kernel_rfl)
          have hb1_ := hall 1 (by kernel_rfl)
          have hb2_ := hall 2 (by kernel_rfl)
          have hb3_ := hall 3 (by kernel_rfl)
          have hb4_ := hall 4 (by kernel_rfl)
          have hb5_ := hall 5 (by kernel_rfl)
          have hb6_ := hall 6 (by kernel_rfl)
          have hb7_ := hall 7 (by kernel_rfl)
          have hb8_ := hall 8 (by kernel_rfl)
          have hb9_ := hall 9 (by kernel_rfl)
          have hb10_ := hall 10 (by kernel_rfl)
          have hb11_ := hall 11 (by kernel_rfl)
          have hb12_ := hall 12 (by kernel_rfl)
          have hb13_ := hall 13 (by kernel_rfl)
          have hb14_ := hall 14 (by kernel_rfl)
          have hb15_ := hall 15 (by kernel_rfl)
          subst ha
          simp only [putSel, hb0_, hb1_, hb2_, hb3_, hb4_, hb5_, hb6_, hb7_, hb8_, hb9_, hb10_, hb11_, hb12_, hb13_, hb14_, hb15_, if_true, Act.put, List.setIfInBounds_toArray, List.set_cons_zero, List.set_cons_succ]
          have HBW := Aside0.mk HBW
          clear hall hb0_ hb1_ hb2_ hb3_ hb4_ hb5_ hb6_ hb7_ hb8_ hb9_ hb10_ hb11_ hb12_ hb13_ hb14_ hb15_
          have HB2 := Aside0.mk (below_step (below_drew1 HB.out) HBW.out)
          have HD2 := Aside0.mk (blk_below (blk_drew HD.out) HBW.out)
          clear HBW
          go_wp2_with fail
          go_ret
          exact ⟨by rw [HG.out]; rfl, HB2.out⟩
        | true =>
          rw [hdig] at HX hst
          have h0 : k = 0 ∧ (s[k].toNat : Int) = 48 := Classical.byContradiction fun h => hst ⟨rfl, h⟩
          have t0 : ((k : Int) == 0) = true := beq_iff_eq.2 (by omega)
          have t48 : ((s[k].toNat : Int) == 48) = true := beq_iff_eq.2 h0.2
          clear hst hbk hdig h0
          go_wp2_with fail
          refine start_ (n := 16) (S := fun w' => True) (ds := []) #[false, false, false, false, false, false, false, false, false, false, false, false, false, false, false, false] (by kernel_rfl) rfl rfl trivial (fun hHeld => ?_)
          refine with_tabW figures.tab6 figures.bits6 (fun HT_ HW_ => ?_)
          refine inv_at [0, 1, 2, 3, 4, 5, 6, 7, 8, 9, 10, 11, 12, 13, 14, 15] (fun a0_ b a w' => a = putSel a0_ b [(0, 14, .agg #[.int .u64 digitSet.a, .int .u64 digitSet.b, .int .u64 digitSet.c, .int .u64 digitSet.d]), (1, 15, .string s), (2, 16, .int .i64 (k : Int)), (3, 17, .int .u8 (s[k].toNat : Int)), (4, 18, .bool true), (5, 19, .bool false), (6, 20, .bool false), (7, 21, .int .i64 (k : Int)), (8, 22, .bool true), (9, 23, .bool true), (10, 24, .string s), (11, 25, .int .i64 (k : Int)), (12, 26, .int .u8 (s[k].toNat : Int)), (13, 27, .bool true), (14, 28, .bool true), (15, 29, .bool true)] ∧ Below wr.drew.heap.size wr.drew w') HT_.out HW_.out (by kernel_rfl) (by kernel_rfl) ?_ ?_ ?_
          · exact ⟨by simp only [putSel, Bool.false_eq_true, if_false], Below.refl _ _⟩
          · clear hHeld HT_ HW_
            refine steps_cons ?_ ?_
            · rintro b a w' ⟨ha, HBW⟩ hb_ hon hoff
              refine ⟨_, rfl, fun K hK => ?_⟩
              have e3 : a.tmps[3]? = some (.pointer (some ⟨w1.heap.size, 0, none⟩)) := by rw [ha]; exact (putSel_off rfl).trans rfl
              replace ha := Aside0.mk ha
              have HBW := Aside0.mk HBW
              have hc_ := blk_below (blk_drew HD.out) HBW.out
              have hc0_ : w'.cell? ⟨w1.heap.size, 0, none⟩ = some (.int .u64 digitSet.a) := (blk_cell hc_ 0).trans rfl
              have hc1_ : w'.cell? ⟨w1.heap.size, 1, none⟩ = some (.int .u64 digitSet.b) := (blk_cell hc_ 1).trans rfl
              have hc2_ : w'.cell? ⟨w1.heap.size, 2, none⟩ = some (.int .u64 digitSet.c) := (blk_cell hc_ 2).trans rfl
              have hc3_ : w'.cell? ⟨w1.heap.size, 3, none⟩ = some (.int .u64 digitSet.d) := (blk_cell hc_ 3).trans rfl
              clear hc_
              refine value_ (w1 := w') (v := .agg #[.int .u64 digitSet.a, .int .u64 digitSet.b, .int .u64 digitSet.c, .int .u64 digitSet.d]) (by rfl) rfl ?_ ?_
              · go_simp
                (try simp only [i64_w])
                try rfl
              refine hK.out _ _ ⟨(by rw [ha.out]; exact putSel_upk 0 hb_ rfl rfl rfl), HBW.out⟩
            refine steps_cons ?_ ?_
            · rintro b a w' ⟨ha, HBW⟩ hb_ hon hoff
              refine ⟨_, rfl, fun K hK => ?_⟩
              have e0 : a.tmps[0]? = some (.string s) := by rw [ha]; exact (putSel_off rfl).trans rfl
              replace ha := Aside0.mk ha
              have HBW := Aside0.mk HBW
              refine value_ (w1 := w') (v := .string s) (by rfl) rfl ?_ ?_
              · go_simp
                (try simp only [i64_w])
                try rfl
              refine hK.out _ _ ⟨(by rw [ha.out]; exact putSel_upk 1 hb_ rfl rfl rfl), HBW.out⟩
            refine steps_cons ?_ ?_
            · rintro b a w' ⟨ha, HBW⟩ hb_ hon hoff
              refine ⟨_, rfl, fun K hK => ?_⟩
              have e5 : a.tmps[5]? = some (.int .i64 (k : Int)) := by rw [ha]; exact (putSel_off rfl).trans rfl
              replace ha := Aside0.mk ha
              have HBW := Aside0.mk HBW
              refine value_ (w1 := w') (v := .int .i64 (k : Int)) (by rfl) rfl ?_ ?_
              · go_simp
                (try simp only [i64_w])
                try rfl
              refine hK.out _ _ ⟨(by rw [ha.out]; exact putSel_upk 2 hb_ rfl rfl rfl), HBW.out⟩
            refine steps_cons ?_ ?_
            · rintro b a w' ⟨ha, HBW⟩ hb_ hon hoff
              refine ⟨_, rfl, fun K hK => ?_⟩
              have e15 : a.tmps[15]? = some (.string s) := by rw [ha]; exact putSel_on (e := (1, 15, .string s)) 1 rfl rfl (hon 1 (by kernel_rfl)) rfl
              have e16 : a.tmps[16]? = some (.int .i64 (k : Int)) := by rw [ha]; exact putSel_on (e := (2, 16, .int .i64 (k : Int))) 2 rfl rfl (hon 2 (by kernel_rfl)) rfl
              replace ha := Aside0.mk ha
              have HBW := Aside0.mk HBW
              refine value_ (w1 := w') (v := .int .u8 (s[k].toNat : Int)) (by rfl) rfl ?_ ?_
              · go_simp
                (try simp only [i64_w])
                try rfl
              refine hK.out _ _ ⟨(by rw [ha.out]; exact putSel_upk 3 hb_ rfl rfl rfl), HBW.out⟩
            refine steps_cons ?_ ?_
            · rintro b a w' ⟨ha, HBW⟩ hb_ hon hoff
              refine ⟨_, rfl, fun K hK => ?_⟩
              have e14 : a.tmps[14]? = some (.agg #[.int .u64 digitSet.a, .int .u64 digitSet.b, .int .u64 digitSet.c, .int .u64 digitSet.d]) := by rw [ha]; exact putSel_on (e := (0, 14, .agg #[.int .u64 digitSet.a, .int .u64 digitSet.b, .int .u64 digitSet.c, .int .u64 digitSet.d])) 0 rfl rfl (hon 0 (by kernel_rfl)) rfl
              have e17 : a.tmps[17]? = some (.int .u8 (s[k].toNat : Int)) := by rw [ha]; exact putSel_on (e := (3, 17, .int .u8 (s[k].toNat : Int))) 3 rfl rfl (hon 3 (by kernel_rfl)) rfl
              replace ha := Aside0.mk ha
              have HBW := Aside0.mk HBW
              refine goes_ Tryd.func37 (by kernel_rfl) rfl #[.agg #[.int .u64 digitSet.a, .int .u64 digitSet.b, .int .u64 digitSet.c, .int .u64 digitSet.d], .int .u8 (s[k].toNat : Int)] (by rfl) rfl rfl (by first | (simp only [List.map_toArray, List.map_cons, List.map_nil, Act.eval, Array.getD_eq_getD_getElem?, Option.getD_some, e14, e17]; done) | (simp only [List.map_toArray, List.map_cons, List.map_nil, Act.eval, Array.getD_eq_getD_getElem?, Option.getD_some, e14, e17]; rfl)) ?_
              refine (has_any digitSet _ w' r.1 r.2).mono ?_
              rintro e w1 ⟨rfl, hb⟩
              rw [HX.out]
              refine ⟨_, rfl, ?_⟩
              refine hK.out _ _ ⟨(by rw [ha.out]; exact putSel_upk 4 hb_ rfl rfl rfl), below_step HBW.out hb⟩
            refine steps_cons ?_ ?_
            · rintro b a w' ⟨ha, HBW⟩ hb_ hon hoff
              refine ⟨_, rfl, fun K hK => ?_⟩
              have e18 : a.tmps[18]? = some (.bool true) := by rw [ha]; exact putSel_on (e := (4, 18, .bool true)) 4 rfl rfl (hon 4 (by kernel_rfl)) rfl
              replace ha := Aside0.mk ha
              have HBW := Aside0.mk HBW
              refine value_ (w1 := w') (v := .bool false) (by rfl) rfl ?_ ?_
              · go_simp
                (try simp only [i64_w])
                try rfl
              refine hK.out _ _ ⟨(by rw [ha.out]; exact putSel_upk 5 hb_ rfl rfl rfl), HBW.out⟩
            refine steps_cons ?_ ?_
            · rintro b a w' ⟨ha, HBW⟩ hb_ hon hoff
              refine ⟨_, rfl, fun K hK => ?_⟩
              have e19 : a.tmps[19]? = some (.bool false) := by rw [ha]; exact putSel_on (e := (5, 19, .bool false)) 5 rfl rfl (hon 5 (by kernel_rfl)) rfl
              replace ha := Aside0.mk ha
              have HBW := Aside0.mk HBW
              refine value_ (w1 := w') (v := .bool false) (by rfl) rfl ?_ ?_
              · go_simp
                (try simp only [i64_w])
                try rfl
              refine hK.out _ _ ⟨(by rw [ha.out]; exact putSel_upk 6 hb_ rfl rfl rfl), HBW.out⟩
            refine steps_cons ?_ ?_
            · rintro b a w' ⟨ha, HBW⟩ hb_ hon hoff
              refine ⟨_, rfl, fun K hK => ?_⟩
              have e5 : a.tmps[5]? = some (.int .i64 (k : Int)) := by rw [ha]; exact (putSel_off rfl).trans rfl
              have e20 : a.tmps[20]? = some (.bool false) := by rw [ha]; exact putSel_on (e := (6, 20, .bool false)) 6 rfl rfl (hon 6 (by kernel_rfl)) rfl
              replace ha := Aside0.mk ha
              have HBW := Aside0.mk HBW
              refine value_ (w1 := w') (v := .int .i64 (k : Int)) (wanted_on rfl rfl rfl (e20.trans (by first | rfl | (simp [*]; done)))) rfl ?_ ?_
              · go_simp
                (try simp only [i64_w])
                try rfl
              refine hK.out _ _ ⟨(by rw [ha.out]; exact putSel_upk 7 hb_ rfl rfl rfl), HBW.out⟩
            refine steps_cons ?_ ?_
            · rintro b a w' ⟨ha, HBW⟩ hb_ hon hoff
              refine ⟨_, rfl, fun K hK => ?_⟩
              have e21 : a.tmps[21]? = some (.int .i64 (k : Int)) := by rw [ha]; exact putSel_on (e := (7, 21, .int .i64 (k : Int))) 7 rfl rfl (hon 7 (by kernel_rfl)) rfl
              have e20 : a.tmps[20]? = some (.bool false) := by rw [ha]; exact putSel_on (e := (6, 20, .bool false)) 6 rfl rfl (hon 6 (by kernel_rfl)) rfl
              replace ha := Aside0.mk ha
              have HBW := Aside0.mk HBW
              refine value_ (w1 := w') (v := .bool true) (wanted_on rfl rfl rfl (e20.trans (by first | rfl | (simp [*]; done)))) rfl ?_ ?_
              · go_simp
                (try simp only [i64_w])
                try rfl
              refine hK.out _ _ ⟨(by rw [ha.out]; exact putSel_upk 8 hb_ rfl rfl rfl), HBW.out⟩
            refine steps_cons ?_ ?_
            · rintro b a w' ⟨ha, HBW⟩ hb_ hon hoff
              refine ⟨_, rfl, fun K hK => ?_⟩
              have e22 : a.tmps[22]? = some (.bool true) := by rw [ha]; exact putSel_on (e := (8, 22, .bool true)) 8 rfl rfl (hon 8 (by kernel_rfl)) rfl
              have e20 : a.tmps[20]? = some (.bool false) := by rw [ha]; exact putSel_on (e := (6, 20, .bool false)) 6 rfl rfl (hon 6 (by kernel_rfl)) rfl
              replace ha := Aside0.mk ha
              have HBW := Aside0.mk HBW
              refine value_ (w1 := w') (v := .bool true) (wanted_on rfl rfl rfl (e20.trans (by first | rfl | (simp [*]; done)))) rfl ?_ ?_
              · go_simp
                (try simp only [i64_w])
                try rfl
              refine hK.out _ _ ⟨(by rw [ha.out]; exact putSel_upk 9 hb_ rfl rfl rfl), HBW.out⟩
            refine steps_cons ?_ ?_
            · rintro b a w' ⟨ha, HBW⟩ hb_ hon hoff
              refine ⟨_, rfl, fun K hK => ?_⟩
              have e0 : a.tmps[0]? = some (.string s) := by rw [ha]; exact (putSel_off rfl).trans rfl
              have e23 : a.tmps[23]? = some (.bool true) := by rw [ha]; exact putSel_on (e := (9, 23, .bool true)) 9 rfl rfl (hon 9 (by kernel_rfl)) rfl
              replace ha := Aside0.mk ha
              have HBW := Aside0.mk HBW
              refine value_ (w1 := w') (v := .string s) (wanted_on rfl rfl rfl (e23.trans (by first | rfl | (simp [*]; done)))) rfl ?_ ?_
              · go_simp
                (try simp only [i64_w])
                try rfl
              refine hK.out _ _ ⟨(by rw [ha.out]; exact putSel_upk 10 hb_ rfl rfl rfl), HBW.out⟩
            refine steps_cons ?_ ?_
            · rintro b a w' ⟨ha, HBW⟩ hb_ hon hoff
              refine ⟨_, rfl, fun K hK => ?_⟩
              have e5 : a.tmps[5]? = some (.int .i64 (k : Int)) := by rw [ha]; exact (putSel_off rfl).trans rfl
              have e23 : a.tmps[23]? = some (.bool true) := by rw [ha]; exact putSel_on (e := (9, 23, .bool true)) 9 rfl rfl (hon 9 (by kernel_rfl)) rfl
              replace ha := Aside0.mk ha
              have HBW := Aside0.mk HBW
              refine value_ (w1 := w') (v := .int .i64 (k : Int)) (wanted_on rfl rfl rfl (e23.trans (by first | rfl | (simp [*]; done)))) rfl ?_ ?_
              · go_simp
                (try simp only [i64_w])
                try rfl
              refine hK.out _ _ ⟨(by rw [ha.out]; exact putSel_upk 11 hb_ rfl rfl rfl), HBW.out⟩
            refine steps_cons ?_ ?_
            · rintro b a w' ⟨ha, HBW⟩ hb_ hon hoff
              refine ⟨_, rfl, fun K hK => ?_⟩
              have e24 : a.tmps[24]? = some (.string s) := by rw [ha]; exact putSel_on (e := (10, 24, .string s)) 10 rfl rfl (hon 10 (by kernel_rfl)) rfl
              have e25 : a.tmps[25]? = some (.int .i64 (k : Int)) := by rw [ha]; exact putSel_on (e := (11, 25, .int .i64 (k : Int))) 11 rfl rfl (hon 11 (by kernel_rfl)) rfl
              have e23 : a.tmps[23]? = some (.bool true) := by rw [ha]; exact putSel_on (e := (9, 23, .bool true)) 9 rfl rfl (hon 9 (by kernel_rfl)) rfl
              replace ha := Aside0.mk ha
              have HBW := Aside0.mk HBW
              refine value_ (w1 := w') (v := .int .u8 (s[k].toNat : Int)) (wanted_on rfl rfl rfl (e23.trans (by first | rfl | (simp [*]; done)))) rfl ?_ ?_
              · go_simp
                (try simp only [i64_w])
                try rfl
              refine hK.out _ _ ⟨(by rw [ha.out]; exact putSel_upk 12 hb_ rfl rfl rfl), HBW.out⟩
            refine steps_cons ?_ ?_
            · rintro b a w' ⟨ha, HBW⟩ hb_ hon hoff
              refine ⟨_, rfl, fun K hK => ?_⟩
              have e26 : a.tmps[26]? = some (.int .u8 (s[k].toNat : Int)) := by rw [ha]; exact putSel_on (e := (12, 26, .int .u8 (s[k].toNat : Int))) 12 rfl rfl (hon 12 (by kernel_rfl)) rfl
              have e23 : a.tmps[23]? = some (.bool true) := by rw [ha]; exact putSel_on (e := (9, 23, .bool true)) 9 rfl rfl (hon 9 (by kernel_rfl)) rfl
              replace ha := Aside0.mk ha
              have HBW := Aside0.mk HBW
              refine value_ (w1 := w') (v := .bool true) (wanted_on rfl rfl rfl (e23.trans (by first | rfl | (simp [*]; done)))) rfl ?_ ?_
              · go_simp
                (try simp only [i64_w])
                try rfl
              refine hK.out _ _ ⟨(by rw [ha.out]; exact putSel_upk 13 hb_ rfl rfl rfl), HBW.out⟩
            refine steps_cons ?_ ?_
            · rintro b a w' ⟨ha, HBW⟩ hb_ hon hoff
              refine ⟨_, rfl, fun K hK => ?_⟩
              have e23 : a.tmps[23]? = some (.bool true) := by rw [ha]; exact putSel_on (e := (9, 23, .bool true)) 9 rfl rfl (hon 9 (by kernel_rfl)) rfl
              have e27 : a.tmps[27]? = some (.bool true) := by rw [ha]; exact putSel_on (e := (13, 27, .bool true)) 13 rfl rfl (hon 13 (by kernel_rfl)) rfl
              have e20 : a.tmps[20]? = some (.bool false) := by rw [ha]; exact putSel_on (e := (6, 20, .bool false)) 6 rfl rfl (hon 6 (by kernel_rfl)) rfl
              replace ha := Aside0.mk ha
              have HBW := Aside0.mk HBW
              refine value_ (w1 := w') (v := .bool true) (wanted_on rfl rfl rfl (e20.trans (by first | rfl | (simp [*]; done)))) rfl ?_ ?_
              · go_simp
                (try simp only [i64_w])
                try rfl
              refine hK.out _ _ ⟨(by rw [ha.out]; exact putSel_upk 14 hb_ rfl rfl rfl), HBW.out⟩
            refine steps_cons ?_ ?_
            · rintro b a w' ⟨ha, HBW⟩ hb_ hon hoff
              refine ⟨_, rfl, fun K hK => ?_⟩
              have e20 : a.tmps[20]? = some (.bool false) := by rw [ha]; exact putSel_on (e := (6, 20, .bool false)) 6 rfl rfl (hon 6 (by kernel_rfl)) rfl
              have e28 : a.tmps[28]? = some (.bool true) := by rw [ha]; exact putSel_on (e := (14, 28, .bool true)) 14 rfl rfl (hon 14 (by kernel_rfl)) rfl
              replace ha := Aside0.mk ha
              have HBW := Aside0.mk HBW
              refine value_ (w1 := w') (v := .bool true) (by rfl) rfl ?_ ?_
              · go_simp
                (try simp only [i64_w])
                try rfl
              refine hK.out _ _ ⟨(by rw [ha.out]; exact putSel_upk 15 hb_ rfl rfl rfl), HBW.out⟩
            exact steps_nil
          rintro b a w5 hall ⟨ha, HBW⟩
          have hb0_ := hall 0 (by kernel_rfl)
          have hb1_ := hall 1 (by kernel_rfl)
          have hb2_ := hall 2 (by kernel_rfl)
          have hb3_ := hall 3 (by kernel_rfl)
          have hb4_ := hall 4 (by kernel_rfl)
          have hb5_ := hall 5 (by kernel_rfl)
          have hb6_ := hall 6 (by kernel_rfl)
          have hb7_ := hall 7 (by kernel_rfl)
          have hb8_ := hall 8 (by kernel_rfl)
          have hb9_ := hall 9 (by kernel_rfl)
          have hb10_ := hall 10 (by kernel_rfl)
          have hb11_ := hall 11 (by kernel_rfl)
          have hb12_ := hall 12 (by kernel_rfl)
          have hb13_ := hall 13 (by kernel_rfl)
          have hb14_ := hall 14 (by kernel_rfl)
          have hb15_ := hall 15 (by kernel_rfl)
          subst ha
          simp only [putSel, hb0_, hb1_, hb2_, hb3_, hb4_, hb5_, hb6_, hb7_, hb8_, hb9_, hb10_, hb11_, hb12_, hb13_, hb14_, hb15_, if_true, Act.put, List.setIfInBounds_toArray, List.set_cons_zero, List.set_cons_succ]
          have HBW := Aside0.mk HBW
          clear hall hb0_ hb1_ hb2_ hb3_ hb4_ hb5_ hb6_ hb7_ hb8_ hb9_ hb10_ hb11_ hb12_ hb13_ hb14_ hb15_
          have HB2 := Aside0.mk (below_step (below_drew1 HB.out) HBW.out)
          have HD2 := Aside0.mk (blk_below (blk_drew HD.out) HBW.out)
          clear HBW
          go_wp2_with fail
          go_ret
          exact ⟨by rw [HG.out]; rfl, HB2.out⟩
    · have hkm : k = m := by omega
      have HG := Aside0.mk (show (figL 7 (bs s) : Int) = (m : Int) by rw [HI.out, hkm, fig_end s m (by rcases HME.out with h | h <;> omega)]; simp)
      have hgo : decide ((k : Int) < (m : Int)) = false := decide_eq_false (by omega)
      clear HI hkm
      go_wp2_with fail
      go_ret
      exact ⟨by rw [HG.out]; rfl, HB.out⟩
theorem atoi_any (u : ByteArray) (w : World) (hG : Gl w) (h4 : u.size ≤ 4) (hd : ∀ (n : Nat) (c : Int), (bs u)[n]? = some c → isDigit c = true) :
    Calls Tryd.prog 30 #[.string u] w fun e w' => (∃ v, e = .returned (.tuple #[.int .i64 (numL (bs u)), v])) ∧ Below w.heap.size w w' := by
  by_cases h0 : 0 < u.size
  · refine (Tryd.strconv_Atoi u _ (by omega) (atoi_text u h0 hd) w).mono ?_
    rintro e w' ⟨rfl, t, rfl⟩
    exact ⟨⟨_, rfl⟩, below_bytesWorld _ _ _ _ (Nat.le_refl _)⟩
  · obtain ⟨⟨tp, p, hv⟩, _⟩ := hG
    have hn : u.data.toList = [] := List.eq_nil_of_length_eq_zero (by have : u.data.toList.length = u.size := by simp
                                                                      omega)
    have hb : bs u = [] := by unfold bs; rw [hn]; rfl
    rw [hb]
    refine (Tryd.strconv_Atoi_err_var u (by omega) (by rw [hn]; rfl) tp p w hv).mono ?_
    rintro e w' ⟨N, rfl, _, _, hb⟩
    exact ⟨⟨_, rfl⟩, hb⟩
def bV (l : List Int) : Int × Bool :=
  match l with
  | [] => (0, false)
  | c :: l => if c = 42 then (0, true) else if c = 58 then (numL (l.take (figL 7 l)), false) else (0, false)
def BehEnd (r nm : ByteArray) (B : Nat) (w : World) (e : Ending) (w' : World) : Prop :=
  e = .returned (.tuple #[.int .i64 ((behN (bs r)).1 : Int), .bool (behN (bs r)).2]) ∧ w'.heap[B]? = some (.cells #[.string nm, .int .i64 (bV (bs r)).1, .bool (bV (bs r)).2] 23 (0, 0)) ∧
    ∀ (base : Nat) (w0 : World), base ≤ B → base ≤ w.heap.size → Below base w0 w → Below base w0 w'
theorem str_empty {s : ByteArray} (h : s.size = 0) : s.toList = [] := by rw [ByteArray.toList_eq]; exact List.eq_nil_of_length_eq_zero (by simpa using h)
theorem str_full {s : ByteArray} (h : 0 < s.size) : (s.toList == ([] : List UInt8)) = false ∧ (s.toList != ([] : List UInt8)) = true ∧ s.toList.isEmpty = false := by
  have hl : 0 < s.toList.length := by rw [ByteArray.toList_eq]; simpa using h
  cases e : s.toList with
  | nil => rw [e] at hl; simp at hl
  | cons a l => exact ⟨rfl, rfl, rfl⟩
theorem bs_cons (r : ByteArray) (h : 0 < r.size) : bs r = bI r 0 :: bs (r.extract 1 r.size) := by
  have := bs_drop r 0 h
  rw [List.drop_zero] at this
  rw [this, bs_extract]
set_option maxHeartbeats 4000000 in
theorem behind_any (r nm : ByteArray) (B : Nat) (w : World) (hr : r.size ≤ 1000000) (hG : Gl w) (hB : w.heap[B]? = some (.cells #[.string nm, .int .i64 0, .bool false] 23 (0, 0))) :
    Calls Tryd.prog 19 #[.string r, .pointer (some ⟨B, 0, none⟩)] w (BehEnd r nm B w) := by
  have HB := Aside0.mk hB
  have HG := Aside0.mk hG
  clear hB hG
  by_cases h0 : 0 < r.size
  · obtain ⟨f1, f2, f3⟩ := str_full h0
    have hgt : decide ((0 : Int) < (r.size : Int)) = true := decide_eq_true (by omega)
    have HC := Aside0.mk (bs_cons r h0)
    have hb0 := bI_at r 0 h0
    have hrl : (r.extract 1 r.size).size = r.size - 1 := ext_size r 1
    by_cases h42 : bI r 0 = 42
    · have t42 : ((r[0].toNat : Int) == 42) = true := beq_iff_eq.2 (by rw [← hb0]; exact h42)
      have HN := Aside0.mk (show behN (bs r) = (1, (r.size : Int) == 1) by
        rw [HC.out, h42, behN_42, bs_length, hrl]
        congr 1
        rw [Bool.eq_iff_iff, beq_iff_eq, beq_iff_eq]; omega)
      have HV := Aside0.mk (show bV (bs r) = (0, true) by rw [HC.out, h42]; rfl)
      have c2 := (blk_cell HB.out 2).trans rfl
      have z2 := blk_frozen HB.out 2
      clear hb0 h42 hrl
      go_enter Tryd.func19, Tryd.ntmps19
      go_wp2_with fail
      go_ret2
      refine ⟨by rw [HN.out]; rfl, by rw [HV.out]; exact blk_put HB.out 2 _ rfl, fun base w0 h1 h2 h3 => h3.setCell h1 _⟩
    · have t42 : ((r[0].toNat : Int) == 42) = false := beq_eq_false_iff_ne.2 (by rw [← hb0]; exact h42)
      by_cases h58 : bI r 0 = 58
      · have t58 : ((r[0].toNat : Int) == 58) = true := beq_iff_eq.2 (by rw [← hb0]; exact h58)
        have HN := Aside0.mk (show behN (bs r) = _ by rw [HC.out, h58, behN_58])
        have HV := Aside0.mk (show bV (bs r) = (numL ((bs (r.extract 1 r.size)).take (figL 7 (bs (r.extract 1 r.size)))), false) by rw [HC.out, h58]; rfl)
        have hf4 := fig_four (bs (r.extract 1 r.size))
        have hfl := fig_le (bs (r.extract 1 r.size))
        rw [bs_length, hrl] at hfl
        have HF := Aside0.mk (fun n c h => fig_digits (bs (r.extract 1 r.size)) 7 (by omega) n c h)
        have HFG := Aside0.mk (fun W => figures_any (r.extract 1 r.size) W (by omega))
        generalize figL 7 (bs (r.extract 1 r.size)) = f at *
        have HBS := Aside0.mk (show bs (r.extract 1 (1 + f)) = (bs (r.extract 1 r.size)).take f by
          have := bs_take (r.extract 1 r.size) f
          rw [← this]
          congr 1
          rw [ByteArray.extract_extract]
          congr 1
          omega)
        have hi1 : (1 : Int) ≤ (r.size : Int) := by omega
        have hi2 : (1 : Int) + (f : Int) ≤ (r.size : Int) := by omega
        have hi3 : (1 : Int) ≤ 1 + (f : Int) := by omega
        have hlb : (bs (r.extract 1 r.size)).length = r.size - 1 := by rw [bs_length, hrl]
        by_cases hf0 : 0 < f
        · have HN2 := Aside0.mk (show behN (bs r) = (1 + f, (1 + (f : Int)) == (r.size : Int)) by
            rw [HN.out, decide_eq_true hf0, Bool.true_and, hlb]
            congr 1
            rw [Bool.eq_iff_iff, beq_iff_eq, beq_iff_eq]; omega)
          have hgt1 : decide ((1 : Int) < 1 + (f : Int)) = true := decide_eq_true (by omega)
          clear hb0 h42 h58 HN hlb hf0
          go_enter Tryd.func19, Tryd.ntmps19
          go_wp2_with fail
          refine (HFG.out _).mono ?_
          rintro e w1 ⟨rfl, hb1⟩
          have HB1 := Aside0.mk (blk_below HB.out hb1)
          have HG1 := Aside0.mk (HG.out.below hb1)
          have HL1 := Aside0.mk hb1
          clear hb1
          go_wp2_with fail
          have hfi : (1 + (f : Int)).toNat = 1 + f := by omega
  
          refine (atoi_any (r.extract 1 (1 + f)) _ HG1.out (by rw [ByteArray.size_extract]; omega) (fun n c h => ?_)).mono ?_
          · rw [HBS.out] at h
            have hn : n < f := by
              have := (List.getElem?_eq_some_iff.1 h).1
              rw [List.length_take] at this; omega
            rw [List.getElem?_take, if_pos hn] at h
            exact HF.out n c hn h
          rintro e w2 ⟨⟨ev, rfl⟩, hb2⟩
          rw [HBS.out]
          have HB2 := Aside0.mk (blk_below HB1.out hb2)
          have HL2 := Aside0.mk (below_step HL1.out hb2)
          have c1 := (blk_cell HB2.out 1).trans rfl
          have z1 := blk_frozen HB2.out 1
          clear hb2 hfi
          go_wp2_with fail
          all_goals go_ret2
          all_goals refine ⟨by rw [HN2.out]; rfl, by rw [HV.out]; exact blk_put HB2.out 1 _ rfl, fun base w0 h1 h2 h3 => (h3.trans (HL2.out.mono h2)).setCell h1 _⟩
        · have HN2 := Aside0.mk (show behN (bs r) = (1 + f, false) by rw [HN.out, decide_eq_false hf0, Bool.false_and])
          have hgt1 : decide ((1 : Int) < 1 + (f : Int)) = false := decide_eq_false (by omega)
          clear hb0 h42 h58 HN hlb hf0
          go_enter Tryd.func19, Tryd.ntmps19
          go_wp2_with fail
          refine (HFG.out _).mono ?_
          rintro e w1 ⟨rfl, hb1⟩
          have HB1 := Aside0.mk (blk_below HB.out hb1)
          have HG1 := Aside0.mk (HG.out.below hb1)
          have HL1 := Aside0.mk hb1
          clear hb1
          go_wp2_with fail
          have hfi : (1 + (f : Int)).toNat = 1 + f := by omega
  
          refine (atoi_any (r.extract 1 (1 + f)) _ HG1.out (by rw [ByteArray.size_extract]; omega) (fun n c h => ?_)).mono ?_
          · rw [HBS.out] at h
            have hn : n < f := by
              have := (List.getElem?_eq_some_iff.1 h).1
              rw [List.length_take] at this; omega
            rw [List.getElem?_take, if_pos hn] at h
            exact HF.out n c hn h
          rintro e w2 ⟨⟨ev, rfl⟩, hb2⟩
          rw [HBS.out]
          have HB2 := Aside0.mk (blk_below HB1.out hb2)
          have HL2 := Aside0.mk (below_step HL1.out hb2)
          have c1 := (blk_cell HB2.out 1).trans rfl
          have z1 := blk_frozen HB2.out 1
          clear hb2 hfi
          go_wp2_with fail
          all_goals go_ret2
          all_goals refine ⟨by rw [HN2.out]; rfl, by rw [HV.out]; exact blk_put HB2.out 1 _ rfl, fun base w0 h1 h2 h3 => (h3.trans (HL2.out.mono h2)).setCell h1 _⟩
      · have t58 : ((r[0].toNat : Int) == 58) = false := beq_eq_false_iff_ne.2 (by rw [← hb0]; exact h58)
        have HN := Aside0.mk (show behN (bs r) = (0, false) by rw [HC.out, behN_no _ h42 h58])
        have HV := Aside0.mk (show bV (bs r) = (0, false) by rw [HC.out]; unfold bV; dsimp only; rw [if_neg h42, if_neg h58])
        clear hb0 h42 h58 hrl
        go_enter Tryd.func19, Tryd.ntmps19
        go_wp2_with fail
        go_ret2
        refine ⟨by rw [HN.out]; rfl, by rw [HV.out]; exact HB.out, fun base w0 h1 h2 h3 => h3⟩
  · have hn : bs r = [] := List.eq_nil_of_length_eq_zero (by rw [bs_length]; omega)
    have HN := Aside0.mk (show behN (bs r) = (0, true) by rw [hn]; rfl)
    have HV := Aside0.mk (show bV (bs r) = (0, false) by rw [hn]; rfl)
    have hz := str_empty (show r.size = 0 by omega)
    clear hn h0
    go_enter Tryd.func19, Tryd.ntmps19
    go_wp2_with fail
    go_ret2
    refine ⟨by rw [HN.out]; rfl, by rw [HV.out]; exact HB.out, fun base w0 h1 h2 h3 => h3⟩
end Go.Proofs.YthllgnephigfkaaDoor.X
