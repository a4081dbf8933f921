/- Bytes as triplets: pct.Encode. -/
import Derived.Deep.RegionWith
import Derived.LaidLaws
import Derived.Lib.SmallJoins
import Derived.Lib.LaidTab
import Derived.Test.YtbjeegkmafbejaaXm
import Derived.Test.YtbjeegkmafbejaaXbb
import Derived.Test.YtbjeegkmafbejaaXbc
import Derived.Test.YtbjeegkmafbejaaXbd
import Derived.Test.YtbjeegkmafbejaaXn
import Derived.Test.YtbjeegkmafbejaaShelf
import Derived.Test.YtbjeegkmafbejaaWTab
import Derived.Test.YtbjeegkmafbejaaWInv
import Derived.Test.YtbjeegkmafbejaaWInvWords
namespace Go.Proofs.Ytbjeegkmafbejaa.X
set_option linter.unusedSimpArgs false
set_option linter.unusedVariables false
open Go.RowKit Go.Proofs.YtbjeegkmafbejaaW.PrintWords Go.Proofs.YtbjeegkmafbejaaW.PrintLast Go.Proofs.YtbjeegkmafbejaaW.PrintMore Go.Proofs.Ytbjeegkmafbejaa.Y Go.Joins
/-- What stands for a byte. -/
def pieceE (keep : Bool) (s : ByteArray) (i : Nat) : List UInt8 := if ((staySet keep).has (bI s i) || (keep && tri s i)) = true then [UInt8.ofNat (bI s i).toNat] else (tripS (bI s i)).data.toList
def encTo (keep : Bool) (s : ByteArray) (k : Nat) : List UInt8 := (List.range k).flatMap (pieceE keep s)
theorem encTo_step (keep : Bool) (s : ByteArray) (k : Nat) : encTo keep s (k + 1) = encTo keep s k ++ pieceE keep s k := by unfold encTo; rw [List.range_succ, List.flatMap_append]; simp
theorem pieceE_len (keep : Bool) (s : ByteArray) (k : Nat) : (pieceE keep s k).length ≤ 3 := by
  unfold pieceE
  split
  · simp
  · simp [tripS, strOfNums]
theorem encTo_len (keep : Bool) (s : ByteArray) (k : Nat) : (encTo keep s k).length ≤ 3 * k := by
  induction k with
  | zero => simp [encTo]
  | succ k ih => have := pieceE_len keep s k; rw [encTo_step, List.length_append]; omega
theorem encCells_len (keep : Bool) (s : ByteArray) (k : Nat) : (Lib.byteCells (encTo keep s k)).length ≤ 3 * k := by rw [Lib.byteCells_length]; exact encTo_len keep s k
theorem encTo_byte {keep : Bool} {s : ByteArray} {k : Nat} (hk : k < s.size) (h : (staySet keep).has (s[k].toNat : Int) = true) : Lib.byteCells (encTo keep s (k + 1)) = Lib.byteCells (encTo keep s k) ++ [.int .u8 (s[k].toNat : Int)] := by
  rw [encTo_step]
  unfold pieceE Lib.byteCells
  rw [bI_at s k hk, h, Bool.true_or, if_pos rfl, List.map_append]
  simp
theorem encTo_trip {keep : Bool} {s : ByteArray} {k : Nat} (hk : k < s.size) (h : (staySet keep).has (s[k].toNat : Int) = false) (h2 : (keep && tri s k) = false) : Lib.byteCells (encTo keep s (k + 1)) = Lib.byteCells (encTo keep s k) ++ Lib.strCells (tripS (s[k].toNat : Int)) := by
  rw [encTo_step]
  unfold pieceE Lib.byteCells Lib.strCells
  rw [bI_at s k hk, h, h2, if_neg (by decide), List.map_append]
theorem wanted_undef {ops : Array Oper} {o og : Oper} {g : Nat} {u : Bool} {t : Tmp} {a : Act} (hg : o.guard = some (g, u)) (ho : ops[g]? = some og) (hd : og.dst = some t) (hv : a.tmps[t]? = some undef) : Region.wanted o (yielded ops a.tmps) = false := by
  simp [Region.wanted, hg, yielded, ho, hd, hv, undef]
def encode.T8 : Bool × List (List Nat × List Nat) := (true, [([], []), ([], []), ([], []), ([1, 2], [1, 2]), ([0, 3], [0, 3]), ([4, 4], [4]), ([5], [5]), ([6, 5, 5], [5, 6]), ([7], [7]), ([7], [7]), ([8, 9, 7], [7, 8, 9]), ([10, 7, 7], [7, 10]), ([7, 11, 5], [5, 7, 11]), ([5, 12], [5, 12])])
def encode.B8 : List Nat := [0, 0, 0, 6, 15, 31, 63, 127, 255, 255, 1023, 2047, 4095, 8191]
theorem encode.tab8 : rtab .any (opsOf Try.f45 8) = encode.T8 := by kernel_rfl
theorem encode.bits8 : waitsOk encode.T8.2 encode.B8 = true := by kernel_rfl

set_option maxHeartbeats 1600000 in
set_option maxRecDepth 100000 in
theorem encode_plain (s : ByteArray) (w : World) (hs : s.size ≤ 1000000) : Calls Try.prog 45 #[.string s, .bool false] w fun e w' => e = .returned (.string ⟨(encTo false s s.size).toArray⟩) ∧ Below w.heap.size w w' := by
  go_enter Try.func45, Try.ntmps45
  go_wp2_with fail
  refine (unreserved_any _).mono ?_
  rintro e w1 ⟨rfl, hb1⟩
  have HB1 := Aside0.mk hb1
  have hs1 := hb1.size
  clear hb1
  unfold Set4.val
  go_wp2_with fail
  go_loopw [16] (fun c wr => ∃ k : Nat, k ≤ s.size ∧ c = .int .i64 k ∧ wr.heap[w1.heap.size]? = some (.cells (staySet false).cells 85 (0, 0)) ∧ Lib.IsBuilder 90 5 (w1.heap.size + 1) (w1.heap.size + 1) (Lib.byteCells (encTo false s k)) wr ∧ Below w.heap.size w wr) (fun c _ => (s.size - intOf c).toNat)
  case atStart =>
    refine ⟨0, by omega, by simp, ?_, ?_, below_alloc (below_alloc HB1.out _) _⟩
    · exact blk_alloc (blk_new w1 _) _
    · exact .inl ⟨Nat.le_refl _, .slice none 0 0, blk_new2 _ _ _, ⟨rfl, .inl ⟨rfl, rfl⟩⟩, by simp [Value.ownBlock]⟩
  case round =>
    obtain ⟨k, hk, rfl, hset, hbl, hb⟩ := hrel
    have HSET := Aside0.mk hset
    have HBL := Aside0.mk hbl
    have HB := Aside0.mk hb
    clear hset hbl hb
    by_cases hlt : k < s.size
    · have hc := bI_range s k
      have hbx := bI_at s k hlt
      obtain ⟨c0, c1, c2, c3, _⟩ := cells4 HSET.out
      rw [hbx] at hc
      cases hst : (staySet false).has (s[k].toNat : Int) with
      | true =>
        have HX := Aside0.mk hst
        clear hst
        go_wp2_with fail
        refine start_ (n := 14) (S := fun w' => True) (ds := []) #[false, false, false, false, false, false, false, false, false, false, false, false, false, false] (by kernel_rfl) rfl rfl trivial (fun hHeld => ?_)
        refine with_tabW encode.tab8 encode.bits8 (fun HT_ HW_ => ?_)
        refine inv_at [0, 1, 2, 3, 4, 5, 6, 7, 8, 9, 10, 11, 12, 13] (fun a0_ b a w' => a = putSel a0_ b [(0, 19, .agg #[.int .u64 (staySet false).a, .int .u64 (staySet false).b, .int .u64 (staySet false).c, .int .u64 (staySet false).d]), (1, 20, .string s), (2, 21, .int .i64 (k : Int)), (3, 22, .int .u8 (s[k].toNat : Int)), (4, 23, .bool true), (5, 24, .bool true), (6, 25, undef), (7, 26, undef), (8, 27, undef), (9, 28, undef), (10, 29, undef), (11, 30, undef), (12, 31, undef), (13, 32, .bool true)] ∧ Below wr.drew.heap.size wr.drew w') HT_.out HW_.out (by kernel_rfl) (by kernel_rfl) ?_ ?_ ?_
        · exact ⟨by simp only [putSel, Bool.false_eq_true, if_false], Below.refl _ _⟩
        · clear hHeld HT_ HW_
          refine steps_cons ?_ ?_
          · rintro b a w' ⟨ha, HBW⟩ hb_ hon hoff
            refine ⟨_, rfl, fun K hK => ?_⟩
            have e5 : a.tmps[5]? = some (.pointer (some ⟨w1.heap.size, 0, none⟩)) := by rw [ha]; exact (putSel_off rfl).trans rfl
            replace ha := Aside0.mk ha
            have HBW := Aside0.mk HBW
            have hc_ := blk_below (blk_drew HSET.out) HBW.out
            have hc0_ : w'.cell? ⟨w1.heap.size, 0, none⟩ = some (.int .u64 (staySet false).a) := (blk_cell hc_ 0).trans rfl
            have hc1_ : w'.cell? ⟨w1.heap.size, 1, none⟩ = some (.int .u64 (staySet false).b) := (blk_cell hc_ 1).trans rfl
            have hc2_ : w'.cell? ⟨w1.heap.size, 2, none⟩ = some (.int .u64 (staySet false).c) := (blk_cell hc_ 2).trans rfl
            have hc3_ : w'.cell? ⟨w1.heap.size, 3, none⟩ = some (.int .u64 (staySet false).d) := (blk_cell hc_ 3).trans rfl
            refine value_ (w1 := w') (v := .agg #[.int .u64 (staySet false).a, .int .u64 (staySet false).b, .int .u64 (staySet false).c, .int .u64 (staySet false).d]) (by rfl) rfl ?_ ?_
            · go_simp
              (try simp only [i64_w])
              try rfl
            refine hK.out _ _ ⟨(by rw [ha.out]; exact putSel_upk 0 hb_ rfl rfl rfl), HBW.out⟩
          refine steps_cons ?_ ?_
          · rintro b a w' ⟨ha, HBW⟩ hb_ hon hoff
            refine ⟨_, rfl, fun K hK => ?_⟩
            have e0 : a.tmps[0]? = some (.string s) := by rw [ha]; exact (putSel_off rfl).trans rfl
            replace ha := Aside0.mk ha
            have HBW := Aside0.mk HBW
            refine value_ (w1 := w') (v := .string s) (by rfl) rfl ?_ ?_
            · go_simp
              (try simp only [i64_w])
              try rfl
            refine hK.out _ _ ⟨(by rw [ha.out]; exact putSel_upk 1 hb_ rfl rfl rfl), HBW.out⟩
          refine steps_cons ?_ ?_
          · rintro b a w' ⟨ha, HBW⟩ hb_ hon hoff
            refine ⟨_, rfl, fun K hK => ?_⟩
            have e7 : a.tmps[7]? = some (.int .i64 (k : Int)) := by rw [ha]; exact (putSel_off rfl).trans rfl
            replace ha := Aside0.mk ha
            have HBW := Aside0.mk HBW
            refine value_ (w1 := w') (v := .int .i64 (k : Int)) (by rfl) rfl ?_ ?_
            · go_simp
              (try simp only [i64_w])
              try rfl
            refine hK.out _ _ ⟨(by rw [ha.out]; exact putSel_upk 2 hb_ rfl rfl rfl), HBW.out⟩
          refine steps_cons ?_ ?_
          · rintro b a w' ⟨ha, HBW⟩ hb_ hon hoff
            refine ⟨_, rfl, fun K hK => ?_⟩
            have e20 : a.tmps[20]? = some (.string s) := by rw [ha]; exact putSel_on (e := (1, 20, .string s)) 1 rfl rfl (hon 1 (by kernel_rfl)) rfl
            have e21 : a.tmps[21]? = some (.int .i64 (k : Int)) := by rw [ha]; exact putSel_on (e := (2, 21, .int .i64 (k : Int))) 2 rfl rfl (hon 2 (by kernel_rfl)) rfl
            replace ha := Aside0.mk ha
            have HBW := Aside0.mk HBW
            refine value_ (w1 := w') (v := .int .u8 (s[k].toNat : Int)) (by rfl) rfl ?_ ?_
            · go_simp
              (try simp only [i64_w])
              try rfl
            refine hK.out _ _ ⟨(by rw [ha.out]; exact putSel_upk 3 hb_ rfl rfl rfl), HBW.out⟩
          refine steps_cons ?_ ?_
          · rintro b a w' ⟨ha, HBW⟩ hb_ hon hoff
            refine ⟨_, rfl, fun K hK => ?_⟩
            have e19 : a.tmps[19]? = some (.agg #[.int .u64 (staySet false).a, .int .u64 (staySet false).b, .int .u64 (staySet false).c, .int .u64 (staySet false).d]) := by rw [ha]; exact putSel_on (e := (0, 19, .agg #[.int .u64 (staySet false).a, .int .u64 (staySet false).b, .int .u64 (staySet false).c, .int .u64 (staySet false).d])) 0 rfl rfl (hon 0 (by kernel_rfl)) rfl
            have e22 : a.tmps[22]? = some (.int .u8 (s[k].toNat : Int)) := by rw [ha]; exact putSel_on (e := (3, 22, .int .u8 (s[k].toNat : Int))) 3 rfl rfl (hon 3 (by kernel_rfl)) rfl
            replace ha := Aside0.mk ha
            have HBW := Aside0.mk HBW
            refine goes_ Try.func64 (by kernel_rfl) rfl #[.agg #[.int .u64 (staySet false).a, .int .u64 (staySet false).b, .int .u64 (staySet false).c, .int .u64 (staySet false).d], .int .u8 (s[k].toNat : Int)] (by rfl) rfl rfl (by first | (simp only [List.map_toArray, List.map_cons, List.map_nil, Act.eval, Array.getD_eq_getD_getElem?, Option.getD_some, e19, e22]; done) | (simp only [List.map_toArray, List.map_cons, List.map_nil, Act.eval, Array.getD_eq_getD_getElem?, Option.getD_some, e19, e22]; rfl)) ?_
            refine (has_any (staySet false) _ w' hc.1 hc.2).mono ?_
            rintro e w1 ⟨rfl, hb⟩
            rw [HX.out]
            refine ⟨_, rfl, ?_⟩
            refine hK.out _ _ ⟨(by rw [ha.out]; exact putSel_upk 4 hb_ rfl rfl rfl), below_step HBW.out hb⟩
          refine steps_cons ?_ ?_
          · rintro b a w' ⟨ha, HBW⟩ hb_ hon hoff
            refine ⟨_, rfl, fun K hK => ?_⟩
            have e23 : a.tmps[23]? = some (.bool true) := by rw [ha]; exact putSel_on (e := (4, 23, .bool true)) 4 rfl rfl (hon 4 (by kernel_rfl)) rfl
            replace ha := Aside0.mk ha
            have HBW := Aside0.mk HBW
            refine value_ (w1 := w') (v := .bool true) (by rfl) rfl ?_ ?_
            · go_simp
              (try simp only [i64_w])
              try rfl
            refine hK.out _ _ ⟨(by rw [ha.out]; exact putSel_upk 5 hb_ rfl rfl rfl), HBW.out⟩
          refine steps_cons ?_ ?_
          · rintro b a w' ⟨ha, HBW⟩ hb_ hon hoff
            refine ⟨_, rfl, fun K hK => ?_⟩
            have e24 : a.tmps[24]? = some (.bool true) := by rw [ha]; exact putSel_on (e := (5, 24, .bool true)) 5 rfl rfl (hon 5 (by kernel_rfl)) rfl
            replace ha := Aside0.mk ha
            have HBW := Aside0.mk HBW
            refine off_ (wanted_off rfl rfl rfl (e24.trans (by first | rfl | (simp [*]; done)))) ?_
            refine hK.out _ _ ⟨(by rw [ha.out]; exact putSel_upk 6 hb_ rfl rfl rfl), HBW.out⟩
          refine steps_cons ?_ ?_
          · rintro b a w' ⟨ha, HBW⟩ hb_ hon hoff
            refine ⟨_, rfl, fun K hK => ?_⟩
            have e24 : a.tmps[24]? = some (.bool true) := by rw [ha]; exact putSel_on (e := (5, 24, .bool true)) 5 rfl rfl (hon 5 (by kernel_rfl)) rfl
            replace ha := Aside0.mk ha
            have HBW := Aside0.mk HBW
            refine off_ (wanted_off rfl rfl rfl (e24.trans (by first | rfl | (simp [*]; done)))) ?_
            refine hK.out _ _ ⟨(by rw [ha.out]; exact putSel_upk 7 hb_ rfl rfl rfl), HBW.out⟩
          refine steps_cons ?_ ?_
          · rintro b a w' ⟨ha, HBW⟩ hb_ hon hoff
            refine ⟨_, rfl, fun K hK => ?_⟩
            have e26 : a.tmps[26]? = some (undef) := by rw [ha]; exact putSel_on (e := (7, 26, undef)) 7 rfl rfl (hon 7 (by kernel_rfl)) rfl
            replace ha := Aside0.mk ha
            have HBW := Aside0.mk HBW
            refine off_ (wanted_undef rfl rfl rfl e26) ?_
            refine hK.out _ _ ⟨(by rw [ha.out]; exact putSel_upk 8 hb_ rfl rfl rfl), HBW.out⟩
          refine steps_cons ?_ ?_
          · rintro b a w' ⟨ha, HBW⟩ hb_ hon hoff
            refine ⟨_, rfl, fun K hK => ?_⟩
            have e26 : a.tmps[26]? = some (undef) := by rw [ha]; exact putSel_on (e := (7, 26, undef)) 7 rfl rfl (hon 7 (by kernel_rfl)) rfl
            replace ha := Aside0.mk ha
            have HBW := Aside0.mk HBW
            refine off_ (wanted_undef rfl rfl rfl e26) ?_
            refine hK.out _ _ ⟨(by rw [ha.out]; exact putSel_upk 9 hb_ rfl rfl rfl), HBW.out⟩
          refine steps_cons ?_ ?_
          · rintro b a w' ⟨ha, HBW⟩ hb_ hon hoff
            refine ⟨_, rfl, fun K hK => ?_⟩
            have e26 : a.tmps[26]? = some (undef) := by rw [ha]; exact putSel_on (e := (7, 26, undef)) 7 rfl rfl (hon 7 (by kernel_rfl)) rfl
            replace ha := Aside0.mk ha
            have HBW := Aside0.mk HBW
            refine off_ (wanted_undef rfl rfl rfl e26) ?_
            refine hK.out _ _ ⟨(by rw [ha.out]; exact putSel_upk 10 hb_ rfl rfl rfl), HBW.out⟩
          refine steps_cons ?_ ?_
          · rintro b a w' ⟨ha, HBW⟩ hb_ hon hoff
            refine ⟨_, rfl, fun K hK => ?_⟩
            have e26 : a.tmps[26]? = some (undef) := by rw [ha]; exact putSel_on (e := (7, 26, undef)) 7 rfl rfl (hon 7 (by kernel_rfl)) rfl
            replace ha := Aside0.mk ha
            have HBW := Aside0.mk HBW
            refine off_ (wanted_undef rfl rfl rfl e26) ?_
            refine hK.out _ _ ⟨(by rw [ha.out]; exact putSel_upk 11 hb_ rfl rfl rfl), HBW.out⟩
          refine steps_cons ?_ ?_
          · rintro b a w' ⟨ha, HBW⟩ hb_ hon hoff
            refine ⟨_, rfl, fun K hK => ?_⟩
            have e24 : a.tmps[24]? = some (.bool true) := by rw [ha]; exact putSel_on (e := (5, 24, .bool true)) 5 rfl rfl (hon 5 (by kernel_rfl)) rfl
            replace ha := Aside0.mk ha
            have HBW := Aside0.mk HBW
            refine off_ (wanted_off rfl rfl rfl (e24.trans (by first | rfl | (simp [*]; done)))) ?_
            refine hK.out _ _ ⟨(by rw [ha.out]; exact putSel_upk 12 hb_ rfl rfl rfl), HBW.out⟩
          refine steps_cons ?_ ?_
          · rintro b a w' ⟨ha, HBW⟩ hb_ hon hoff
            refine ⟨_, rfl, fun K hK => ?_⟩
            have e24 : a.tmps[24]? = some (.bool true) := by rw [ha]; exact putSel_on (e := (5, 24, .bool true)) 5 rfl rfl (hon 5 (by kernel_rfl)) rfl
            replace ha := Aside0.mk ha
            have HBW := Aside0.mk HBW
            refine value_ (w1 := w') (v := .bool true) (by rfl) rfl ?_ ?_
            · go_simp
              (try simp only [i64_w])
              try rfl
            refine hK.out _ _ ⟨(by rw [ha.out]; exact putSel_upk 13 hb_ rfl rfl rfl), HBW.out⟩
          exact steps_nil
        rintro b a w5 hall ⟨ha, HBW⟩
        have hb0_ := hall 0 (by kernel_rfl)
        have hb1_ := hall 1 (by kernel_rfl)
        have hb2_ := hall 2 (by kernel_rfl)
        have hb3_ := hall 3 (by kernel_rfl)
        have hb4_ := hall 4 (by kernel_rfl)
        have hb5_ := hall 5 (by kernel_rfl)
        have hb6_ := hall 6 (by kernel_rfl)
        have hb7_ := hall 7 (by kernel_rfl)
        have hb8_ := hall 8 (by kernel_rfl)
        have hb9_ := hall 9 (by kernel_rfl)
        have hb10_ := hall 10 (by kernel_rfl)
        have hb11_ := hall 11 (by kernel_rfl)
        have hb12_ := hall 12 (by kernel_rfl)
        have hb13_ := hall 13 (by kernel_rfl)
        subst ha
        simp only [putSel, hb0_, hb1_, hb2_, hb3_, hb4_, hb5_, hb6_, hb7_, hb8_, hb9_, hb10_, hb11_, hb12_, hb13_, if_true, Act.put, List.setIfInBounds_toArray, List.set_cons_zero, List.set_cons_succ]
        have HBW := Aside0.mk HBW
        clear hall hb0_ hb1_ hb2_ hb3_ hb4_ hb5_ hb6_ hb7_ hb8_ hb9_ hb10_ hb11_ hb12_ hb13_
        have HB2 := Aside0.mk (below_step (below_drew1 HB.out) HBW.out)
        have HSET2 := Aside0.mk (blk_below (blk_drew HSET.out) HBW.out)
        have HBL2 := Aside0.mk (builder_below (w := wr.drew) HBL.out HBW.out)
        have HLT := Aside0.mk (blk_lt HSET2.out)
        have hw5 := HBW.out.size
        clear HBW HSET HBL
        go_wp2_with fail
        refine (writeByte_any _ _ _ _ _ HBL2.out (by have := encCells_len false s k; omega) (by have := HLT.out; omega)).mono ?_
        rintro e w6 ⟨rfl, hat, hb6⟩
        have HE := Aside0.mk (encTo_byte hlt HX.out)
        have HAT := Aside0.mk hat
        have HSET3 := Aside0.mk ((hb6.block _ (Nat.lt_succ_self _)).trans HSET2.out)
        have HB3 := Aside0.mk (HB2.out.trans (hb6.mono (by omega)))
        clear hat hb6 HB HB2 HSET2 HBL2
        go_wp2_with fail
        go_roundw
        case rel => exact ⟨k + 1, by omega, by go_num, HSET3.out, .inr (by rw [HE.out]; exact HAT.out), HB3.out⟩
        case measure => simp [intOf]; omega
      | false =>
        have HX := Aside0.mk hst
        clear hst
        go_wp2_with fail
        refine start_ (n := 14) (S := fun w' => True) (ds := []) #[false, false, false, false, false, false, false, false, false, false, false, false, false, false] (by kernel_rfl) rfl rfl trivial (fun hHeld => ?_)
        refine with_tabW encode.tab8 encode.bits8 (fun HT_ HW_ => ?_)
        refine inv_at [0, 1, 2, 3, 4, 5, 6, 7, 8, 9, 10, 11, 12, 13] (fun a0_ b a w' => a = putSel a0_ b [(0, 19, .agg #[.int .u64 (staySet false).a, .int .u64 (staySet false).b, .int .u64 (staySet false).c, .int .u64 (staySet false).d]), (1, 20, .string s), (2, 21, .int .i64 (k : Int)), (3, 22, .int .u8 (s[k].toNat : Int)), (4, 23, .bool false), (5, 24, .bool false), (6, 25, .bool false), (7, 26, .bool false), (8, 27, undef), (9, 28, undef), (10, 29, undef), (11, 30, undef), (12, 31, .bool false), (13, 32, .bool false)] ∧ Below wr.drew.heap.size wr.drew w') HT_.out HW_.out (by kernel_rfl) (by kernel_rfl) ?_ ?_ ?_
        · exact ⟨by simp only [putSel, Bool.false_eq_true, if_false], Below.refl _ _⟩
        · clear hHeld HT_ HW_
          refine steps_cons ?_ ?_
          · rintro b a w' ⟨ha, HBW⟩ hb_ hon hoff
            refine ⟨_, rfl, fun K hK => ?_⟩
            have e5 : a.tmps[5]? = some (.pointer (some ⟨w1.heap.size, 0, none⟩)) := by rw [ha]; exact (putSel_off rfl).trans rfl
            replace ha := Aside0.mk ha
            have HBW := Aside0.mk HBW
            have hc_ := blk_below (blk_drew HSET.out) HBW.out
            have hc0_ : w'.cell? ⟨w1.heap.size, 0, none⟩ = some (.int .u64 (staySet false).a) := (blk_cell hc_ 0).trans rfl
            have hc1_ : w'.cell? ⟨w1.heap.size, 1, none⟩ = some (.int .u64 (staySet false).b) := (blk_cell hc_ 1).trans rfl
            have hc2_ : w'.cell? ⟨w1.heap.size, 2, none⟩ = some (.int .u64 (staySet false).c) := (blk_cell hc_ 2).trans rfl
            have hc3_ : w'.cell? ⟨w1.heap.size, 3, none⟩ = some (.int .u64 (staySet false).d) := (blk_cell hc_ 3).trans rfl
            refine value_ (w1 := w') (v := .agg #[.int .u64 (staySet false).a, .int .u64 (staySet false).b, .int .u64 (staySet false).c, .int .u64 (staySet false).d]) (by rfl) rfl ?_ ?_
            · go_simp
              (try simp only [i64_w])
              try rfl
            refine hK.out _ _ ⟨(by rw [ha.out]; exact putSel_upk 0 hb_ rfl rfl rfl), HBW.out⟩
          refine steps_cons ?_ ?_
          · rintro b a w' ⟨ha, HBW⟩ hb_ hon hoff
            refine ⟨_, rfl, fun K hK => ?_⟩
            have e0 : a.tmps[0]? = some (.string s) := by rw [ha]; exact (putSel_off rfl).trans rfl
            replace ha := Aside0.mk ha
            have HBW := Aside0.mk HBW
            refine value_ (w1 := w') (v := .string s) (by rfl) rfl ?_ ?_
            · go_simp
              (try simp only [i64_w])
              try rfl
            refine hK.out _ _ ⟨(by rw [ha.out]; exact putSel_upk 1 hb_ rfl rfl rfl), HBW.out⟩
          refine steps_cons ?_ ?_
          · rintro b a w' ⟨ha, HBW⟩ hb_ hon hoff
            refine ⟨_, rfl, fun K hK => ?_⟩
            have e7 : a.tmps[7]? = some (.int .i64 (k : Int)) := by rw [ha]; exact (putSel_off rfl).trans rfl
            replace ha := Aside0.mk ha
            have HBW := Aside0.mk HBW
            refine value_ (w1 := w') (v := .int .i64 (k : Int)) (by rfl) rfl ?_ ?_
            · go_simp
              (try simp only [i64_w])
              try rfl
            refine hK.out _ _ ⟨(by rw [ha.out]; exact putSel_upk 2 hb_ rfl rfl rfl), HBW.out⟩
          refine steps_cons ?_ ?_
          · rintro b a w' ⟨ha, HBW⟩ hb_ hon hoff
            refine ⟨_, rfl, fun K hK => ?_⟩
            have e20 : a.tmps[20]? = some (.string s) := by rw [ha]; exact putSel_on (e := (1, 20, .string s)) 1 rfl rfl (hon 1 (by kernel_rfl)) rfl
            have e21 : a.tmps[21]? = some (.int .i64 (k : Int)) := by rw [ha]; exact putSel_on (e := (2, 21, .int .i64 (k : Int))) 2 rfl rfl (hon 2 (by kernel_rfl)) rfl
            replace ha := Aside0.mk ha
            have HBW := Aside0.mk HBW
            refine value_ (w1 := w') (v := .int .u8 (s[k].toNat : Int)) (by rfl) rfl ?_ ?_
            · go_simp
              (try simp only [i64_w])
              try rfl
            refine hK.out _ _ ⟨(by rw [ha.out]; exact putSel_upk 3 hb_ rfl rfl rfl), HBW.out⟩
          refine steps_cons ?_ ?_
          · rintro b a w' ⟨ha, HBW⟩ hb_ hon hoff
            refine ⟨_, rfl, fun K hK => ?_⟩
            have e19 : a.tmps[19]? = some (.agg #[.int .u64 (staySet false).a, .int .u64 (staySet false).b, .int .u64 (staySet false).c, .int .u64 (staySet false).d]) := by rw [ha]; exact putSel_on (e := (0, 19, .agg #[.int .u64 (staySet false).a, .int .u64 (staySet false).b, .int .u64 (staySet false).c, .int .u64 (staySet false).d])) 0 rfl rfl (hon 0 (by kernel_rfl)) rfl
            have e22 : a.tmps[22]? = some (.int .u8 (s[k].toNat : Int)) := by rw [ha]; exact putSel_on (e := (3, 22, .int .u8 (s[k].toNat : Int))) 3 rfl rfl (hon 3 (by kernel_rfl)) rfl
            replace ha := Aside0.mk ha
            have HBW := Aside0.mk HBW
            refine goes_ Try.func64 (by kernel_rfl) rfl #[.agg #[.int .u64 (staySet false).a, .int .u64 (staySet false).b, .int .u64 (staySet false).c, .int .u64 (staySet false).d], .int .u8 (s[k].toNat : Int)] (by rfl) rfl rfl (by first | (simp only [List.map_toArray, List.map_cons, List.map_nil, Act.eval, Array.getD_eq_getD_getElem?, Option.getD_some, e19, e22]; done) | (simp only [List.map_toArray, List.map_cons, List.map_nil, Act.eval, Array.getD_eq_getD_getElem?, Option.getD_some, e19, e22]; rfl)) ?_
            refine (has_any (staySet false) _ w' hc.1 hc.2).mono ?_
            rintro e w1 ⟨rfl, hb⟩
            rw [HX.out]
            refine ⟨_, rfl, ?_⟩
            refine hK.out _ _ ⟨(by rw [ha.out]; exact putSel_upk 4 hb_ rfl rfl rfl), below_step HBW.out hb⟩
          refine steps_cons ?_ ?_
          · rintro b a w' ⟨ha, HBW⟩ hb_ hon hoff
            refine ⟨_, rfl, fun K hK => ?_⟩
            have e23 : a.tmps[23]? = some (.bool false) := by rw [ha]; exact putSel_on (e := (4, 23, .bool false)) 4 rfl rfl (hon 4 (by kernel_rfl)) rfl
            replace ha := Aside0.mk ha
            have HBW := Aside0.mk HBW
            refine value_ (w1 := w') (v := .bool false) (by rfl) rfl ?_ ?_
            · go_simp
              (try simp only [i64_w])
              try rfl
            refine hK.out _ _ ⟨(by rw [ha.out]; exact putSel_upk 5 hb_ rfl rfl rfl), HBW.out⟩
          refine steps_cons ?_ ?_
          · rintro b a w' ⟨ha, HBW⟩ hb_ hon hoff
            refine ⟨_, rfl, fun K hK => ?_⟩
            have e1 : a.tmps[1]? = some (.bool false) := by rw [ha]; exact (putSel_off rfl).trans rfl
            have e24 : a.tmps[24]? = some (.bool false) := by rw [ha]; exact putSel_on (e := (5, 24, .bool false)) 5 rfl rfl (hon 5 (by kernel_rfl)) rfl
            replace ha := Aside0.mk ha
            have HBW := Aside0.mk HBW
            refine value_ (w1 := w') (v := .bool false) (wanted_on rfl rfl rfl (e24.trans (by first | rfl | (simp [*]; done)))) rfl ?_ ?_
            · go_simp
              (try simp only [i64_w])
              try rfl
            refine hK.out _ _ ⟨(by rw [ha.out]; exact putSel_upk 6 hb_ rfl rfl rfl), HBW.out⟩
          refine steps_cons ?_ ?_
          · rintro b a w' ⟨ha, HBW⟩ hb_ hon hoff
            refine ⟨_, rfl, fun K hK => ?_⟩
            have e25 : a.tmps[25]? = some (.bool false) := by rw [ha]; exact putSel_on (e := (6, 25, .bool false)) 6 rfl rfl (hon 6 (by kernel_rfl)) rfl
            have e24 : a.tmps[24]? = some (.bool false) := by rw [ha]; exact putSel_on (e := (5, 24, .bool false)) 5 rfl rfl (hon 5 (by kernel_rfl)) rfl
            replace ha := Aside0.mk ha
            have HBW := Aside0.mk HBW
            refine value_ (w1 := w') (v := .bool false) (wanted_on rfl rfl rfl (e24.trans (by first | rfl | (simp [*]; done)))) rfl ?_ ?_
            · go_simp
              (try simp only [i64_w])
              try rfl
            refine hK.out _ _ ⟨(by rw [ha.out]; exact putSel_upk 7 hb_ rfl rfl rfl), HBW.out⟩
          refine steps_cons ?_ ?_
          · rintro b a w' ⟨ha, HBW⟩ hb_ hon hoff
            refine ⟨_, rfl, fun K hK => ?_⟩
            have e26 : a.tmps[26]? = some (.bool false) := by rw [ha]; exact putSel_on (e := (7, 26, .bool false)) 7 rfl rfl (hon 7 (by kernel_rfl)) rfl
            replace ha := Aside0.mk ha
            have HBW := Aside0.mk HBW
            refine off_ (wanted_off rfl rfl rfl (e26.trans (by first | rfl | (simp [*]; done)))) ?_
            refine hK.out _ _ ⟨(by rw [ha.out]; exact putSel_upk 8 hb_ rfl rfl rfl), HBW.out⟩
          refine steps_cons ?_ ?_
          · rintro b a w' ⟨ha, HBW⟩ hb_ hon hoff
            refine ⟨_, rfl, fun K hK => ?_⟩
            have e26 : a.tmps[26]? = some (.bool false) := by rw [ha]; exact putSel_on (e := (7, 26, .bool false)) 7 rfl rfl (hon 7 (by kernel_rfl)) rfl
            replace ha := Aside0.mk ha
            have HBW := Aside0.mk HBW
            refine off_ (wanted_off rfl rfl rfl (e26.trans (by first | rfl | (simp [*]; done)))) ?_
            refine hK.out _ _ ⟨(by rw [ha.out]; exact putSel_upk 9 hb_ rfl rfl rfl), HBW.out⟩
          refine steps_cons ?_ ?_
          · rintro b a w' ⟨ha, HBW⟩ hb_ hon hoff
            refine ⟨_, rfl, fun K hK => ?_⟩
            have e26 : a.tmps[26]? = some (.bool false) := by rw [ha]; exact putSel_on (e := (7, 26, .bool false)) 7 rfl rfl (hon 7 (by kernel_rfl)) rfl
            replace ha := Aside0.mk ha
            have HBW := Aside0.mk HBW
            refine off_ (wanted_off rfl rfl rfl (e26.trans (by first | rfl | (simp [*]; done)))) ?_
            refine hK.out _ _ ⟨(by rw [ha.out]; exact putSel_upk 10 hb_ rfl rfl rfl), HBW.out⟩
          refine steps_cons ?_ ?_
          · rintro b a w' ⟨ha, HBW⟩ hb_ hon hoff
            refine ⟨_, rfl, fun K hK => ?_⟩
            have e26 : a.tmps[26]? = some (.bool false) := by rw [ha]; exact putSel_on (e := (7, 26, .bool false)) 7 rfl rfl (hon 7 (by kernel_rfl)) rfl
            replace ha := Aside0.mk ha
            have HBW := Aside0.mk HBW
            refine off_ (wanted_off rfl rfl rfl (e26.trans (by first | rfl | (simp [*]; done)))) ?_
            refine hK.out _ _ ⟨(by rw [ha.out]; exact putSel_upk 11 hb_ rfl rfl rfl), HBW.out⟩
          refine steps_cons ?_ ?_
          · rintro b a w' ⟨ha, HBW⟩ hb_ hon hoff
            refine ⟨_, rfl, fun K hK => ?_⟩
            have e26 : a.tmps[26]? = some (.bool false) := by rw [ha]; exact putSel_on (e := (7, 26, .bool false)) 7 rfl rfl (hon 7 (by kernel_rfl)) rfl
            have e24 : a.tmps[24]? = some (.bool false) := by rw [ha]; exact putSel_on (e := (5, 24, .bool false)) 5 rfl rfl (hon 5 (by kernel_rfl)) rfl
            replace ha := Aside0.mk ha
            have HBW := Aside0.mk HBW
            refine value_ (w1 := w') (v := .bool false) (wanted_on rfl rfl rfl (e24.trans (by first | rfl | (simp [*]; done)))) rfl ?_ ?_
            · go_simp
              (try simp only [i64_w])
              try rfl
            refine hK.out _ _ ⟨(by rw [ha.out]; exact putSel_upk 12 hb_ rfl rfl rfl), HBW.out⟩
          refine steps_cons ?_ ?_
          · rintro b a w' ⟨ha, HBW⟩ hb_ hon hoff
            refine ⟨_, rfl, fun K hK => ?_⟩
            have e24 : a.tmps[24]? = some (.bool false) := by rw [ha]; exact putSel_on (e := (5, 24, .bool false)) 5 rfl rfl (hon 5 (by kernel_rfl)) rfl
            have e31 : a.tmps[31]? = some (.bool false) := by rw [ha]; exact putSel_on (e := (12, 31, .bool false)) 12 rfl rfl (hon 12 (by kernel_rfl)) rfl
            replace ha := Aside0.mk ha
            have HBW := Aside0.mk HBW
            refine value_ (w1 := w') (v := .bool false) (by rfl) rfl ?_ ?_
            · go_simp
              (try simp only [i64_w])
              try rfl
            refine hK.out _ _ ⟨(by rw [ha.out]; exact putSel_upk 13 hb_ rfl rfl rfl), HBW.out⟩
          exact steps_nil
        rintro b a w5 hall ⟨ha, HBW⟩
        have hb0_ := hall 0 (by kernel_rfl)
        have hb1_ := hall 1 (by kernel_rfl)
        have hb2_ := hall 2 (by kernel_rfl)
        have hb3_ := hall 3 (by kernel_rfl)
        have hb4_ := hall 4 (by kernel_rfl)
        have hb5_ := hall 5 (by kernel_rfl)
        have hb6_ := hall 6 (by kernel_rfl)
        have hb7_ := hall 7 (by kernel_rfl)
        have hb8_ := hall 8 (by kernel_rfl)
        have hb9_ := hall 9 (by kernel_rfl)
        have hb10_ := hall 10 (by kernel_rfl)
        have hb11_ := hall 11 (by kernel_rfl)
        have hb12_ := hall 12 (by kernel_rfl)
        have hb13_ := hall 13 (by kernel_rfl)
        subst ha
        simp only [putSel, hb0_, hb1_, hb2_, hb3_, hb4_, hb5_, hb6_, hb7_, hb8_, hb9_, hb10_, hb11_, hb12_, hb13_, if_true, Act.put, List.setIfInBounds_toArray, List.set_cons_zero, List.set_cons_succ]
        have HBW := Aside0.mk HBW
        clear hall hb0_ hb1_ hb2_ hb3_ hb4_ hb5_ hb6_ hb7_ hb8_ hb9_ hb10_ hb11_ hb12_ hb13_
        have HB2 := Aside0.mk (below_step (below_drew1 HB.out) HBW.out)
        have HSET2 := Aside0.mk (blk_below (blk_drew HSET.out) HBW.out)
        have HBL2 := Aside0.mk (builder_below (w := wr.drew) HBL.out HBW.out)
        have hw5 := HBW.out.size
        clear HBW HSET HBL
        go_wp2_with fail
        refine (pctOne_all _ _ hc.1 hc.2).mono ?_
        rintro e w6 ⟨rfl, hb6⟩
        have HB3 := Aside0.mk (below_step HB2.out hb6)
        have HSET3 := Aside0.mk (blk_below HSET2.out hb6)
        have HBL3 := Aside0.mk (builder_below HBL2.out hb6)
        have HLT := Aside0.mk (blk_lt HSET3.out)
        clear hb6 HB HB2 HSET2 HBL2
        go_wp2_with fail
        refine (writeString_any _ _ _ _ _ HBL3.out (by have := encCells_len false s k; have : (tripS (s[k].toNat : Int)).size = 3 := rfl; omega) (by have := HLT.out; omega)).mono ?_
        rintro e w7 ⟨rfl, hat, hb7⟩
        have HE := Aside0.mk (encTo_trip (keep := false) hlt HX.out rfl)
        have HAT := Aside0.mk hat
        have HSET4 := Aside0.mk ((hb7.block _ (Nat.lt_succ_self _)).trans HSET3.out)
        have HB4 := Aside0.mk (HB3.out.trans (hb7.mono (by omega)))
        clear hat hb7 HB3 HSET3 HBL3
        go_wp2_with fail
        go_roundw
        case rel => exact ⟨k + 1, by omega, by go_num, HSET4.out, .inr (by rw [HE.out]; exact HAT.out), HB4.out⟩
        case measure => simp [intOf]; omega
    · obtain rfl : k = s.size := by omega
      have HLT := Aside0.mk (blk_lt HSET.out)
      go_wp2_with fail
      refine (Try.Builder_String_any _ _ _ _ HBL.out (by have := HLT.out; omega)).mono ?_
      rintro e w6 ⟨rfl, hb6⟩
      have HB6 := Aside0.mk (HB.out.trans (hb6.mono (by omega)))
      clear hb6 HB
      go_wp2_with fail
      go_ret
      exact ⟨rfl, HB6.out⟩
end Go.Proofs.Ytbjeegkmafbejaa.X
