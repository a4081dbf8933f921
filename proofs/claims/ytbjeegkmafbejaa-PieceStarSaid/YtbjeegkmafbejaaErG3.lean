/- Texts of this claim, those that nothing needs left out: Shelf Xbe Xbf Xo. -/
import Derived.Shelf.Strings.Builder1
import Derived.Shelf.Strings.Builder2
import Derived.Shelf.Strings.OnBuilder
import Derived.Shelf.Small.Strs
import Derived.Shelf.Strings.Search1
import Derived.Ground.SlgnProg
import Derived.Shelf.SlicesE.Clone
import Derived.Test.YtbjeegkmafbejaaProg
import Derived.Deep.RegionWith
import Derived.LaidLaws
import Derived.Lib.SmallJoins
import Derived.Lib.LaidTab
import Derived.Test.YtbjeegkmafbejaaErG2
import Derived.Test.YtbjeegkmafbejaaErG1
import Derived.Maps.Own
import Derived.Maps.Views
section
namespace Go.Proofs
open Go.Shelf
def Try.lays169_ren : Go.Shelf.Ren := ⟨fun | 169 => 69 | n => n, fun | 70 => 88 | 9 => 9 | 0 => 0 | 72 => 90 | 37 => 59 | 127 => 108 | 3 => 3 | 5 => 5 | n => n, fun | n => n⟩
theorem Try.lays169 : Go.Proofs.Lays.n169 Try.prog Try.lays169_ren := {
  mixed := by kernel_rfl
  f169 := Try.func69.trans (congrArg some (by kernel_rfl))
  t0 := Try.underlying0
  a0 := Try.isAgg0
  z0 := Try.sizeOf0
  v0 := Try.zeroValue0
  t3 := Try.underlying3
  a3 := Try.isAgg3
  z3 := Try.sizeOf3
  v3 := Try.zeroValue3
  t9 := Try.underlying9
  a9 := Try.isAgg9
  z9 := Try.sizeOf9
  v9 := Try.zeroValue9
  t37 := Try.underlying59
  a37 := Try.isAgg59
  z37 := Try.sizeOf59
  v37 := Try.zeroValue59
  t70 := Try.underlying88
  a70 := Try.isAgg88
  z70 := Try.sizeOf88
  v70 := Try.zeroValue88
  t72 := Try.underlying90
  a72 := Try.isAgg90
  z72 := Try.sizeOf90
  v72 := Try.zeroValue90
  t127 := Try.underlying108
  a127 := Try.isAgg108
  z127 := Try.sizeOf108
  v127 := Try.zeroValue108 }
theorem Try.Builder_Extra_169 : Builder.Extra Try.prog Try.lays169_ren := {
  sizeBuilder := by kernel_rfl
  liesBuilder := by kernel_rfl
  t5 := Try.underlying5
  a5 := Try.isAgg5
  z5 := Try.sizeOf5
  v5 := Try.zeroValue5
  infoByte := by kernel_rfl
  cellsByte := by kernel_rfl
  sizeByte := by kernel_rfl
  neB5 := by decide }
open Go.RowKit in
/-- (*strings.Builder).String: "String returns the accumulated string.": WHATEVER THE BUILDER HOLDS. (LAID: no walk: one application.) -/
theorem Try.Builder_String_any (B b : Nat) (l : List UInt8) (w : World) (h : Lib.IsBuilder 90 5 B b (Lib.byteCells l) w) (hBw : B ≤ w.heap.size) :
    Calls Try.prog 69 #[.pointer (some ⟨b, 0, none⟩)] w fun e w' => e = .returned (.string ⟨l.toArray⟩) ∧ Below B w w' := Any.Builder_String_any Try.lays169 Try.Builder_Extra_169 B b l w h hBw
def Try.lays156_ren : Go.Shelf.Ren := ⟨fun | 156 => 56 | 165 => 74 | 166 => 67 | 169 => 69 | 240 => 82 | 241 => 86 | 276 => 92 | 277 => 95 | n => n, fun | 31 => 24 | 9 => 9 | 3 => 3 | 4 => 4 | 0 => 0 | 20 => 20 | 72 => 90 | 76 => 94 | 70 => 88 | 37 => 59 | 75 => 92 | 127 => 108 | 164 => 113 | 5 => 5 | 80 => 97 | n => n, fun | n => n⟩
theorem Try.lays156 : Go.Proofs.Lays.n156 Try.prog Try.lays156_ren := {
  mixed := by kernel_rfl
  f156 := Try.func56.trans (congrArg some (by kernel_rfl))
  f165 := Try.func74.trans (congrArg some (by kernel_rfl))
  f166 := Try.func67.trans (congrArg some (by kernel_rfl))
  f169 := Try.func69.trans (congrArg some (by kernel_rfl))
  f240 := Try.func82.trans (congrArg some (by kernel_rfl))
  f241 := Try.func86.trans (congrArg some (by kernel_rfl))
  f276 := Try.func92.trans (congrArg some (by kernel_rfl))
  f277 := Try.func95.trans (congrArg some (by kernel_rfl))
  t0 := Try.underlying0
  a0 := Try.isAgg0
  z0 := Try.sizeOf0
  v0 := Try.zeroValue0
  t3 := Try.underlying3
  a3 := Try.isAgg3
  z3 := Try.sizeOf3
  v3 := Try.zeroValue3
  t4 := Try.underlying4
  a4 := Try.isAgg4
  z4 := Try.sizeOf4
  v4 := Try.zeroValue4
  t9 := Try.underlying9
  a9 := Try.isAgg9
  z9 := Try.sizeOf9
  v9 := Try.zeroValue9
  t20 := Try.underlying20
  a20 := Try.isAgg20
  z20 := Try.sizeOf20
  v20 := Try.zeroValue20
  t31 := Try.underlying24
  a31 := Try.isAgg24
  z31 := Try.sizeOf24
  v31 := Try.zeroValue24
  t37 := Try.underlying59
  a37 := Try.isAgg59
  z37 := Try.sizeOf59
  v37 := Try.zeroValue59
  t70 := Try.underlying88
  a70 := Try.isAgg88
  z70 := Try.sizeOf88
  v70 := Try.zeroValue88
  t72 := Try.underlying90
  a72 := Try.isAgg90
  z72 := Try.sizeOf90
  v72 := Try.zeroValue90
  t75 := Try.underlying92
  a75 := Try.isAgg92
  z75 := Try.sizeOf92
  v75 := Try.zeroValue92
  t76 := Try.underlying94
  a76 := Try.isAgg94
  z76 := Try.sizeOf94
  v76 := Try.zeroValue94
  t127 := Try.underlying108
  a127 := Try.isAgg108
  z127 := Try.sizeOf108
  v127 := Try.zeroValue108
  t164 := Try.underlying113
  a164 := Try.isAgg113
  z164 := Try.sizeOf113
  v164 := Try.zeroValue113 }
theorem Try.Builder_Extra_156 : Builder.Extra Try.prog Try.lays156_ren := {
  sizeBuilder := by kernel_rfl
  liesBuilder := by kernel_rfl
  t5 := Try.underlying5
  a5 := Try.isAgg5
  z5 := Try.sizeOf5
  v5 := Try.zeroValue5
  infoByte := by kernel_rfl
  cellsByte := by kernel_rfl
  sizeByte := by kernel_rfl
  neB5 := by decide }
open Go.RowKit in
/-- No element: the empty string; the world is as it was. (Whatever the slice's address and capacity: a nil slice too.) (LAID: no walk: one application.) -/
theorem Try.strings_Join_none (a : Option Addr) (c : Nat) (sep : ByteArray) (w : World) :
    Calls Try.prog 56 #[.slice a 0 c, .string sep] w fun e w' => e = .returned (.string ⟨#[]⟩) ∧ w' = w := Any.strings_Join_none Try.lays156 Try.Builder_Extra_156 a c sep w
open Go.RowKit in
/-- strings.Join: "Join concatenates the elements of its first argument to create a single string. The separator string sep is placed between elements in the resulting string.": HOWEVER MANY ELEMENTS. Below the heap's end the world is as it was. (LAID: no walk: one application.) -/
theorem Try.strings_Join (bk o c : Nat) (xs : List ByteArray) (sep : ByteArray) (w : World) (hcells : ∀ (j : Nat) x, xs[j]? = some x → w.cell? ⟨bk, o + j, none⟩ = some (.string x)) (hbk : bk < w.heap.size) (hN : xs.length ≤ 140737488355328) (hcap : xs.length ≤ c) (hlen : (Lib.join (xs.map (·.data.toList)) sep.data.toList).length ≤ 140737488355328) :
    Calls Try.prog 56 #[.slice (some ⟨bk, o, none⟩) xs.length c, .string sep] w fun e w' => e = .returned (.string ⟨(Lib.join (xs.map (·.data.toList)) sep.data.toList).toArray⟩) ∧ Below w.heap.size w w' := Any.strings_Join Try.lays156 Try.Builder_Extra_156 bk o c xs sep w hcells hbk hN hcap hlen
def Try.lays137_ren : Go.Shelf.Ren := ⟨fun | 137 => 59 | 217 => 77 | 266 => 89 | n => n, fun | 9 => 9 | 5 => 5 | 3 => 3 | n => n, fun | n => n⟩
theorem Try.lays137 : Go.Proofs.Lays.n137 Try.prog Try.lays137_ren := {
  mixed := by kernel_rfl
  f137 := Try.func59.trans (congrArg some (by kernel_rfl))
  f217 := Try.func77.trans (congrArg some (by kernel_rfl))
  f266 := Try.func89.trans (congrArg some (by kernel_rfl))
  t3 := Try.underlying3
  a3 := Try.isAgg3
  z3 := Try.sizeOf3
  v3 := Try.zeroValue3
  t5 := Try.underlying5
  a5 := Try.isAgg5
  z5 := Try.sizeOf5
  v5 := Try.zeroValue5
  t9 := Try.underlying9
  a9 := Try.isAgg9
  z9 := Try.sizeOf9
  v9 := Try.zeroValue9 }
open Go.RowKit in
/-- strings.IndexByte: "IndexByte returns the index of the first instance of c in s, or -1 if c is not present in s.": IT RETURNS 'Lib.indexByte s c'; the world is as it was. (LAID: no walk: one application.) -/
theorem Try.strings_IndexByte (s : ByteArray) (c : Int) (w : World) :
    Calls Try.prog 59 #[.string s, .int .u8 c] w fun e w' => e = .returned (.int .i64 (Lib.indexByte s.data.toList c.toNat.toUInt8)) ∧ w' = w := Any.strings_IndexByte Try.lays137 s c w
end Go.Proofs
end
section
namespace Go.Proofs.Ytbjeegkmafbejaa.X
set_option linter.unusedSimpArgs false
set_option linter.unusedVariables false
open Go.RowKit Go.Proofs.YtbjeegkmafbejaaW.PrintWords Go.Proofs.YtbjeegkmafbejaaW.PrintLast Go.Proofs.YtbjeegkmafbejaaW.PrintMore Go.Proofs.Ytbjeegkmafbejaa.Y Go.Joins
def pieceE (keep : Bool) (s : ByteArray) (i : Nat) : List UInt8 := if ((staySet keep).has (bI s i) || (keep && tri s i)) = true then [UInt8.ofNat (bI s i).toNat] else (tripS (bI s i)).data.toList
def encTo (keep : Bool) (s : ByteArray) (k : Nat) : List UInt8 := (List.range k).flatMap (pieceE keep s)
theorem encTo_step (keep : Bool) (s : ByteArray) (k : Nat) : encTo keep s (k + 1) = encTo keep s k ++ pieceE keep s k := by unfold encTo; rw [List.range_succ, List.flatMap_append]; simp
theorem pieceE_len (keep : Bool) (s : ByteArray) (k : Nat) : (pieceE keep s k).length ≤ 3 := by
  unfold pieceE
  split
  · simp
  · simp [tripS, strOfNums]
theorem encTo_len (keep : Bool) (s : ByteArray) (k : Nat) : (encTo keep s k).length ≤ 3 * k := by
  induction k with
  | zero => simp [encTo]
  | succ k ih => have := pieceE_len keep s k; rw [encTo_step, List.length_append]; omega
theorem encCells_len (keep : Bool) (s : ByteArray) (k : Nat) : (Lib.byteCells (encTo keep s k)).length ≤ 3 * k := by rw [Lib.byteCells_length]; exact encTo_len keep s k
theorem encTo_byte {keep : Bool} {s : ByteArray} {k : Nat} (hk : k < s.size) (h : (staySet keep).has (s[k].toNat : Int) = true) : Lib.byteCells (encTo keep s (k + 1)) = Lib.byteCells (encTo keep s k) ++ [.int .u8 (s[k].toNat : Int)] := by
  rw [encTo_step]
  unfold pieceE Lib.byteCells
  rw [bI_at s k hk, h, Bool.true_or, if_pos rfl, List.map_append]
  simp
theorem encTo_trip {keep : Bool} {s : ByteArray} {k : Nat} (hk : k < s.size) (h : (staySet keep).has (s[k].toNat : Int) = false) (h2 : (keep && tri s k) = false) : Lib.byteCells (encTo keep s (k + 1)) = Lib.byteCells (encTo keep s k) ++ Lib.strCells (tripS (s[k].toNat : Int)) := by
  rw [encTo_step]
  unfold pieceE Lib.byteCells Lib.strCells
  rw [bI_at s k hk, h, h2, if_neg (by decide), List.map_append]
theorem wanted_undef {ops : Array Oper} {o og : Oper} {g : Nat} {u : Bool} {t : Tmp} {a : Act} (hg : o.guard = some (g, u)) (ho : ops[g]? = some og) (hd : og.dst = some t) (hv : a.tmps[t]? = some undef) : Region.wanted o (yielded ops a.tmps) = false := by
  simp [Region.wanted, hg, yielded, ho, hd, hv, undef]
def encode.T8 : Bool × List (List Nat × List Nat) := (true, [([], []), ([], []), ([], []), ([1, 2], [1, 2]), ([0, 3], [0, 3]), ([4, 4], [4]), ([5], [5]), ([6, 5, 5], [5, 6]), ([7], [7]), ([7], [7]), ([8, 9, 7], [7, 8, 9]), ([10, 7, 7], [7, 10]), ([7, 11, 5], [5, 7, 11]), ([5, 12], [5, 12])])
def encode.B8 : List Nat := [0, 0, 0, 6, 15, 31, 63, 127, 255, 255, 1023, 2047, 4095, 8191]
theorem encode.tab8 : rtab .any (opsOf Try.f45 8) = encode.T8 := by kernel_rfl
theorem encode.bits8 : waitsOk encode.T8.2 encode.B8 = true := by kernel_rfl
set_option maxHeartbeats 1600000 in
set_option maxRecDepth 100000 in
theorem encode_plain (s : ByteArray) (w : World) (hs : s.size ≤ 1000000) : Calls Try.prog 45 #[.string s, .bool false] w fun e w' => e = .returned (.string ⟨(encTo false s s.size).toArray⟩) ∧ Below w.heap.size w w' := by
  go_enter Try.func45, Try.ntmps45
  go_wp2_with fail
  refine (unreserved_any _).mono ?_
  rintro e w1 ⟨rfl, hb1⟩
  have HB1 := Aside0.mk hb1
  have hs1 := hb1.size
  clear hb1
  unfold Set4.val
  go_wp2_with fail
  go_loopw [16] (fun c wr => ∃ k : Nat, k ≤ s.size ∧ c = .int .i64 k ∧ wr.heap[w1.heap.size]? = some (.cells (staySet false).cells 85 (0, 0)) ∧ Lib.IsBuilder 90 5 (w1.heap.size + 1) (w1.heap.size + 1) (Lib.byteCells (encTo false s k)) wr ∧ Below w.heap.size w wr) (fun c _ => (s.size - intOf c).toNat)
  case atStart =>
    refine ⟨0, by omega, by simp, ?_, ?_, below_alloc (below_alloc HB1.out _) _⟩
    · exact blk_alloc (blk_new w1 _) _
    · exact .inl ⟨Nat.le_refl _, .slice none 0 0, blk_new2 _ _ _, ⟨rfl, .inl ⟨rfl, rfl⟩⟩, by simp [Value.ownBlock]⟩
  case round =>
    obtain ⟨k, hk, rfl, hset, hbl, hb⟩ := hrel
    have HSET := Aside0.mk hset
    have HBL := Aside0.mk hbl
    have HB := Aside0.mk hb
    clear hset hbl hb
    by_cases hlt : k < s.size
    · have hc := bI_range s k
      have hbx := bI_at s k hlt
      obtain ⟨c0, c1, c2, c3, _⟩ := cells4 HSET.out
      rw [hbx] at hc
      cases hst : (staySet false).has (s[k].toNat : Int) with
      | true =>
        have HX := Aside0.mk hst
        clear hst
        go_wp2_with fail
        refine start_ (n := 14) (S := fun w' => True) (ds := []) #[false, false, false, false, false, false, false, false, false, false, false, false, false, false] (by kernel_rfl) rfl rfl trivial (fun hHeld => ?_)
        refine with_tabW encode.tab8 encode.bits8 (fun HT_ HW_ => ?_)
        refine inv_at [0, 1, 2, 3, 4, 5, 6, 7, 8, 9, 10, 11, 12, 13] (fun a0_ b a w' => a = putSel a0_ b [(0, 19, .agg #[.int .u64 (staySet false).a, .int .u64 (staySet false).b, .int .u64 (staySet false).c, .int .u64 (staySet false).d]), (1, 20, .string s), (2, 21, .int .i64 (k : Int)), (3, 22, .int .u8 (s[k].toNat : Int)), (4, 23, .bool true), (5, 24, .bool true), (6, 25, undef), (7, 26, undef), (8, 27, undef), (9, 28, undef), (10, 29, undef), (11, 30, undef), (12, 31, undef), (13, 32, .bool true)] ∧ Below wr.drew.heap.size wr.drew w') HT_.out HW_.out (by kernel_rfl) (by kernel_rfl) ?_ ?_ ?_
        · exact ⟨by simp only [putSel, Bool.false_eq_true, if_false], Below.refl _ _⟩
        · clear hHeld HT_ HW_
          refine steps_cons ?_ ?_
          · rintro b a w' ⟨ha, HBW⟩ hb_ hon hoff
            refine ⟨_, rfl, fun K hK => ?_⟩
            have e5 : a.tmps[5]? = some (.pointer (some ⟨w1.heap.size, 0, none⟩)) := by rw [ha]; exact (putSel_off rfl).trans rfl
            replace ha := Aside0.mk ha
            have HBW := Aside0.mk HBW
            have hc_ := blk_below (blk_drew HSET.out) HBW.out
            have hc0_ : w'.cell? ⟨w1.heap.size, 0, none⟩ = some (.int .u64 (staySet false).a) := (blk_cell hc_ 0).trans rfl
            have hc1_ : w'.cell? ⟨w1.heap.size, 1, none⟩ = some (.int .u64 (staySet false).b) := (blk_cell hc_ 1).trans rfl
            have hc2_ : w'.cell? ⟨w1.heap.size, 2, none⟩ = some (.int .u64 (staySet false).c) := (blk_cell hc_ 2).trans rfl
            have hc3_ : w'.cell? ⟨w1.heap.size, 3, none⟩ = some (.int .u64 (staySet false).d) := (blk_cell hc_ 3).trans rfl
            refine value_ (w1 := w') (v := .agg #[.int .u64 (staySet false).a, .int .u64 (staySet false).b, .int .u64 (staySet false).c, .int .u64 (staySet false).d]) (by rfl) rfl ?_ ?_
            · go_simp
              (try simp only [i64_w])
              try rfl
            refine hK.out _ _ ⟨(by rw [ha.out]; exact putSel_upk 0 hb_ rfl rfl rfl), HBW.out⟩
          refine steps_cons ?_ ?_
          · rintro b a w' ⟨ha, HBW⟩ hb_ hon hoff
            refine ⟨_, rfl, fun K hK => ?_⟩
            have e0 : a.tmps[0]? = some (.string s) := by rw [ha]; exact (putSel_off rfl).trans rfl
            replace ha := Aside0.mk ha
            have HBW := Aside0.mk HBW
            refine value_ (w1 := w') (v := .string s) (by rfl) rfl ?_ ?_
            · go_simp
              (try simp only [i64_w])
              try rfl
            refine hK.out _ _ ⟨(by rw [ha.out]; exact putSel_upk 1 hb_ rfl rfl rfl), HBW.out⟩
          refine steps_cons ?_ ?_
          · rintro b a w' ⟨ha, HBW⟩ hb_ hon hoff
            refine ⟨_, rfl, fun K hK => ?_⟩
            have e7 : a.tmps[7]? = some (.int .i64 (k : Int)) := by rw [ha]; exact (putSel_off rfl).trans rfl
            replace ha := Aside0.mk ha
            have HBW := Aside0.mk HBW
            refine value_ (w1 := w') (v := .int .i64 (k : Int)) (by rfl) rfl ?_ ?_
            · go_simp
              (try simp only [i64_w])
              try rfl
            refine hK.out _ _ ⟨(by rw [ha.out]; exact putSel_upk 2 hb_ rfl rfl rfl), HBW.out⟩
          refine steps_cons ?_ ?_
          · rintro b a w' ⟨ha, HBW⟩ hb_ hon hoff
            refine ⟨_, rfl, fun K hK => ?_⟩
            have e20 : a.tmps[20]? = some (.string s) := by rw [ha]; exact putSel_on (e := (1, 20, .string s)) 1 rfl rfl (hon 1 (by kernel_rfl)) rfl
            have e21 : a.tmps[21]? = some (.int .i64 (k : Int)) := by rw [ha]; exact putSel_on (e := (2, 21, .int .i64 (k : Int))) 2 rfl rfl (hon 2 (by kernel_rfl)) rfl
            replace ha := Aside0.mk ha
            have HBW := Aside0.mk HBW
            refine value_ (w1 := w') (v := .int .u8 (s[k].toNat : Int)) (by rfl) rfl ?_ ?_
            · go_simp
              (try simp only [i64_w])
              try rfl
            refine hK.out _ _ ⟨(by rw [ha.out]; exact putSel_upk 3 hb_ rfl rfl rfl), HBW.out⟩
          refine steps_cons ?_ ?_
          · rintro b a w' ⟨ha, HBW⟩ hb_ hon hoff
            refine ⟨_, rfl, fun K hK => ?_⟩
            have e19 : a.tmps[19]? = some (.agg #[.int .u64 (staySet false).a, .int .u64 (staySet false).b, .int .u64 (staySet false).c, .int .u64 (staySet false).d]) := by rw [ha]; exact putSel_on (e := (0, 19, .agg #[.int .u64 (staySet false).a, .int .u64 (staySet false).b, .int .u64 (staySet false).c, .int .u64 (staySet false).d])) 0 rfl rfl (hon 0 (by kernel_rfl)) rfl
            have e22 : a.tmps[22]? = some (.int .u8 (s[k].toNat : Int)) := by rw [ha]; exact putSel_on (e := (3, 22, .int .u8 (s[k].toNat : Int))) 3 rfl rfl (hon 3 (by kernel_rfl)) rfl
            replace ha := Aside0.mk ha
            have HBW := Aside0.mk HBW
            refine goes_ Try.func64 (by kernel_rfl) rfl #[.agg #[.int .u64 (staySet false).a, .int .u64 (staySet false).b, .int .u64 (staySet false).c, .int .u64 (staySet false).d], .int .u8 (s[k].toNat : Int)] (by rfl) rfl rfl (by first | (simp only [List.map_toArray, List.map_cons, List.map_nil, Act.eval, Array.getD_eq_getD_getElem?, Option.getD_some, e19, e22]; done) | (simp only [List.map_toArray, List.map_cons, List.map_nil, Act.eval, Array.getD_eq_getD_getElem?, Option.getD_some, e19, e22]; rfl)) ?_
            refine (has_any (staySet false) _ w' hc.1 hc.2).mono ?_
            rintro e w1 ⟨rfl, hb⟩
            rw [HX.out]
            refine ⟨_, rfl, ?_⟩
            refine hK.out _ _ ⟨(by rw [ha.out]; exact putSel_upk 4 hb_ rfl rfl rfl), below_step HBW.out hb⟩
          refine steps_cons ?_ ?_
          · rintro b a w' ⟨ha, HBW⟩ hb_ hon hoff
            refine ⟨_, rfl, fun K hK => ?_⟩
            have e23 : a.tmps[23]? = some (.bool true) := by rw [ha]; exact putSel_on (e := (4, 23, .bool true)) 4 rfl rfl (hon 4 (by kernel_rfl)) rfl
            replace ha := Aside0.mk ha
            have HBW := Aside0.mk HBW
            refine value_ (w1 := w') (v := .bool true) (by rfl) rfl ?_ ?_
            · go_simp
              (try simp only [i64_w])
              try rfl
            refine hK.out _ _ ⟨(by rw [ha.out]; exact putSel_upk 5 hb_ rfl rfl rfl), HBW.out⟩
          refine steps_cons ?_ ?_
          · rintro b a w' ⟨ha, HBW⟩ hb_ hon hoff
            refine ⟨_, rfl, fun K hK => ?_⟩
            have e24 : a.tmps[24]? = some (.bool true) := by rw [ha]; exact putSel_on (e := (5, 24, .bool true)) 5 rfl rfl (hon 5 (by kernel_rfl)) rfl
            replace ha := Aside0.mk ha
            have HBW := Aside0.mk HBW
            refine off_ (wanted_off rfl rfl rfl (e24.trans (by first | rfl | (simp [*]; done)))) ?_
            refine hK.out _ _ ⟨(by rw [ha.out]; exact putSel_upk 6 hb_ rfl rfl rfl), HBW.out⟩
          refine steps_cons ?_ ?_
          · rintro b a w' ⟨ha, HBW⟩ hb_ hon hoff
            refine ⟨_, rfl, fun K hK => ?_⟩
            have e24 : a.tmps[24]? = some (.bool true) := by rw [ha]; exact putSel_on (e := (5, 24, .bool true)) 5 rfl rfl (hon 5 (by kernel_rfl)) rfl
            replace ha := Aside0.mk ha
            have HBW := Aside0.mk HBW
            refine off_ (wanted_off rfl rfl rfl (e24.trans (by first | rfl | (simp [*]; done)))) ?_
            refine hK.out _ _ ⟨(by rw [ha.out]; exact putSel_upk 7 hb_ rfl rfl rfl), HBW.out⟩
          refine steps_cons ?_ ?_
          · rintro b a w' ⟨ha, HBW⟩ hb_ hon hoff
            refine ⟨_, rfl, fun K hK => ?_⟩
            have e26 : a.tmps[26]? = some (undef) := by rw [ha]; exact putSel_on (e := (7, 26, undef)) 7 rfl rfl (hon 7 (by kernel_rfl)) rfl
            replace ha := Aside0.mk ha
            have HBW := Aside0.mk HBW
            refine off_ (wanted_undef rfl rfl rfl e26) ?_
            refine hK.out _ _ ⟨(by rw [ha.out]; exact putSel_upk 8 hb_ rfl rfl rfl), HBW.out⟩
          refine steps_cons ?_ ?_
          · rintro b a w' ⟨ha, HBW⟩ hb_ hon hoff
            refine ⟨_, rfl, fun K hK => ?_⟩
            have e26 : a.tmps[26]? = some (undef) := by rw [ha]; exact putSel_on (e := (7, 26, undef)) 7 rfl rfl (hon 7 (by kernel_rfl)) rfl
            replace ha := Aside0.mk ha
            have HBW := Aside0.mk HBW
            refine off_ (wanted_undef rfl rfl rfl e26) ?_
            refine hK.out _ _ ⟨(by rw [ha.out]; exact putSel_upk 9 hb_ rfl rfl rfl), HBW.out⟩
          refine steps_cons ?_ ?_
          · rintro b a w' ⟨ha, HBW⟩ hb_ hon hoff
            refine ⟨_, rfl, fun K hK => ?_⟩
            have e26 : a.tmps[26]? = some (undef) := by rw [ha]; exact putSel_on (e := (7, 26, undef)) 7 rfl rfl (hon 7 (by kernel_rfl)) rfl
            replace ha := Aside0.mk ha
            have HBW := Aside0.mk HBW
            refine off_ (wanted_undef rfl rfl rfl e26) ?_
            refine hK.out _ _ ⟨(by rw [ha.out]; exact putSel_upk 10 hb_ rfl rfl rfl), HBW.out⟩
          refine steps_cons ?_ ?_
          · rintro b a w' ⟨ha, HBW⟩ hb_ hon hoff
            refine ⟨_, rfl, fun K hK => ?_⟩
            have e26 : a.tmps[26]? = some (undef) := by rw [ha]; exact putSel_on (e := (7, 26, undef)) 7 rfl rfl (hon 7 (by kernel_rfl)) rfl
            replace ha := Aside0.mk ha
            have HBW := Aside0.mk HBW
            refine off_ (wanted_undef rfl rfl rfl e26) ?_
            refine hK.out _ _ ⟨(by rw [ha.out]; exact putSel_upk 11 hb_ rfl rfl rfl), HBW.out⟩
          refine steps_cons ?_ ?_
          · rintro b a w' ⟨ha, HBW⟩ hb_ hon hoff
            refine ⟨_, rfl, fun K hK => ?_⟩
            have e24 : a.tmps[24]? = some (.bool true) := by rw [ha]; exact putSel_on (e := (5, 24, .bool true)) 5 rfl rfl (hon 5 (by kernel_rfl)) rfl
            replace ha := Aside0.mk ha
            have HBW := Aside0.mk HBW
            refine off_ (wanted_off rfl rfl rfl (e24.trans (by first | rfl | (simp [*]; done)))) ?_
            refine hK.out _ _ ⟨(by rw [ha.out]; exact putSel_upk 12 hb_ rfl rfl rfl), HBW.out⟩
          refine steps_cons ?_ ?_
          · rintro b a w' ⟨ha, HBW⟩ hb_ hon hoff
            refine ⟨_, rfl, fun K hK => ?_⟩
            have e24 : a.tmps[24]? = some (.bool true) := by rw [ha]; exact putSel_on (e := (5, 24, .bool true)) 5 rfl rfl (hon 5 (by kernel_rfl)) rfl
            replace ha := Aside0.mk ha
            have HBW := Aside0.mk HBW
            refine value_ (w1 := w') (v := .bool true) (by rfl) rfl ?_ ?_
            · go_simp
              (try simp only [i64_w])
              try rfl
            refine hK.out _ _ ⟨(by rw [ha.out]; exact putSel_upk 13 hb_ rfl rfl rfl), HBW.out⟩
          exact steps_nil
        rintro b a w5 hall ⟨ha, HBW⟩
        have hb0_ := hall 0 (by kernel_rfl)
        have hb1_ := hall 1 (by kernel_rfl)
        have hb2_ := hall 2 (by kernel_rfl)
        have hb3_ := hall 3 (by kernel_rfl)
        have hb4_ := hall 4 (by kernel_rfl)
        have hb5_ := hall 5 (by kernel_rfl)
        have hb6_ := hall 6 (by kernel_rfl)
        have hb7_ := hall 7 (by kernel_rfl)
        have hb8_ := hall 8 (by kernel_rfl)
        have hb9_ := hall 9 (by kernel_rfl)
        have hb10_ := hall 10 (by kernel_rfl)
        have hb11_ := hall 11 (by kernel_rfl)
        have hb12_ := hall 12 (by kernel_rfl)
        have hb13_ := hall 13 (by kernel_rfl)
        subst ha
        simp only [putSel, hb0_, hb1_, hb2_, hb3_, hb4_, hb5_, hb6_, hb7_, hb8_, hb9_, hb10_, hb11_, hb12_, hb13_, if_true, Act.put, List.setIfInBounds_toArray, List.set_cons_zero, List.set_cons_succ]
        have HBW := Aside0.mk HBW
        clear hall hb0_ hb1_ hb2_ hb3_ hb4_ hb5_ hb6_ hb7_ hb8_ hb9_ hb10_ hb11_ hb12_ hb13_
        have HB2 := Aside0.mk (below_step (below_drew1 HB.out) HBW.out)
        have HSET2 := Aside0.mk (blk_below (blk_drew HSET.out) HBW.out)
        have HBL2 := Aside0.mk (builder_below (w := wr.drew) HBL.out HBW.out)
        have HLT := Aside0.mk (blk_lt HSET2.out)
        have hw5 := HBW.out.size
        clear HBW HSET HBL
        go_wp2_with fail
        refine (writeByte_any _ _ _ _ _ HBL2.out (by have := encCells_len false s k; omega) (by have := HLT.out; omega)).mono ?_
        rintro e w6 ⟨rfl, hat, hb6⟩
        have HE := Aside0.mk (encTo_byte hlt HX.out)
        have HAT := Aside0.mk hat
        have HSET3 := Aside0.mk ((hb6.block _ (Nat.lt_succ_self _)).trans HSET2.out)
        have HB3 := Aside0.mk (HB2.out.trans (hb6.mono (by omega)))
        clear hat hb6 HB HB2 HSET2 HBL2
        go_wp2_with fail
        go_roundw
        case rel => exact ⟨k + 1, by omega, by go_num, HSET3.out, .inr (by rw [HE.out]; exact HAT.out), HB3.out⟩
        case measure => simp [intOf]; omega
      | false =>
        have HX := Aside0.mk hst
        clear hst
        go_wp2_with fail
        refine start_ (n := 14) (S := fun w' => True) (ds := []) #[false, false, false, false, false, false, false, false, false, false, false, false, false, false] (by kernel_rfl) rfl rfl trivial (fun hHeld => ?_)
        refine with_tabW encode.tab8 encode.bits8 (fun HT_ HW_ => ?_)
        refine inv_at [0, 1, 2, 3, 4, 5, 6, 7, 8, 9, 10, 11, 12, 13] (fun a0_ b a w' => a = putSel a0_ b [(0, 19, .agg #[.int .u64 (staySet false).a, .int .u64 (staySet false).b, .int .u64 (staySet false).c, .int .u64 (staySet false).d]), (1, 20, .string s), (2, 21, .int .i64 (k : Int)), (3, 22, .int .u8 (s[k].toNat : Int)), (4, 23, .bool false), (5, 24, .bool false), (6, 25, .bool false), (7, 26, .bool false), (8, 27, undef), (9, 28, undef), (10, 29, undef), (11, 30, undef), (12, 31, .bool false), (13, 32, .bool false)] ∧ Below wr.drew.heap.size wr.drew w') HT_.out HW_.out (by kernel_rfl) (by kernel_rfl) ?_ ?_ ?_
        · exact ⟨by simp only [putSel, Bool.false_eq_true, if_false], Below.refl _ _⟩
        · clear hHeld HT_ HW_
          refine steps_cons ?_ ?_
          · rintro b a w' ⟨ha, HBW⟩ hb_ hon hoff
            refine ⟨_, rfl, fun K hK => ?_⟩
            have e5 : a.tmps[5]? = some (.pointer (some ⟨w1.heap.size, 0, none⟩)) := by rw [ha]; exact (putSel_off rfl).trans rfl
            replace ha := Aside0.mk ha
            have HBW := Aside0.mk HBW
            have hc_ := blk_below (blk_drew HSET.out) HBW.out
            have hc0_ : w'.cell? ⟨w1.heap.size, 0, none⟩ = some (.int .u64 (staySet false).a) := (blk_cell hc_ 0).trans rfl
            have hc1_ : w'.cell? ⟨w1.heap.size, 1, none⟩ = some (.int .u64 (staySet false).b) := (blk_cell hc_ 1).trans rfl
            have hc2_ : w'.cell? ⟨w1.heap.size, 2, none⟩ = some (.int .u64 (staySet false).c) := (blk_cell hc_ 2).trans rfl
            have hc3_ : w'.cell? ⟨w1.heap.size, 3, none⟩ = some (.int .u64 (staySet false).d) := (blk_cell hc_ 3).trans rfl
            refine value_ (w1 := w') (v := .agg #[.int .u64 (staySet false).a, .int .u64 (staySet false).b, .int .u64 (staySet false).c, .int .u64 (staySet false).d]) (by rfl) rfl ?_ ?_
            · go_simp
              (try simp only [i64_w])
              try rfl
            refine hK.out _ _ ⟨(by rw [ha.out]; exact putSel_upk 0 hb_ rfl rfl rfl), HBW.out⟩
          refine steps_cons ?_ ?_
          · rintro b a w' ⟨ha, HBW⟩ hb_ hon hoff
            refine ⟨_, rfl, fun K hK => ?_⟩
            have e0 : a.tmps[0]? = some (.string s) := by rw [ha]; exact (putSel_off rfl).trans rfl
            replace ha := Aside0.mk ha
            have HBW := Aside0.mk HBW
            refine value_ (w1 := w') (v := .string s) (by rfl) rfl ?_ ?_
            · go_simp
              (try simp only [i64_w])
              try rfl
            refine hK.out _ _ ⟨(by rw [ha.out]; exact putSel_upk 1 hb_ rfl rfl rfl), HBW.out⟩
          refine steps_cons ?_ ?_
          · rintro b a w' ⟨ha, HBW⟩ hb_ hon hoff
            refine ⟨_, rfl, fun K hK => ?_⟩
            have e7 : a.tmps[7]? = some (.int .i64 (k : Int)) := by rw [ha]; exact (putSel_off rfl).trans rfl
            replace ha := Aside0.mk ha
            have HBW := Aside0.mk HBW
            refine value_ (w1 := w') (v := .int .i64 (k : Int)) (by rfl) rfl ?_ ?_
            · go_simp
              (try simp only [i64_w])
              try rfl
            refine hK.out _ _ ⟨(by rw [ha.out]; exact putSel_upk 2 hb_ rfl rfl rfl), HBW.out⟩
          refine steps_cons ?_ ?_
          · rintro b a w' ⟨ha, HBW⟩ hb_ hon hoff
            refine ⟨_, rfl, fun K hK => ?_⟩
            have e20 : a.tmps[20]? = some (.string s) := by rw [ha]; exact putSel_on (e := (1, 20, .string s)) 1 rfl rfl (hon 1 (by kernel_rfl)) rfl
            have e21 : a.tmps[21]? = some (.int .i64 (k : Int)) := by rw [ha]; exact putSel_on (e := (2, 21, .int .i64 (k : Int))) 2 rfl rfl (hon 2 (by kernel_rfl)) rfl
            replace ha := Aside0.mk ha
            have HBW := Aside0.mk HBW
            refine value_ (w1 := w') (v := .int .u8 (s[k].toNat : Int)) (by rfl) rfl ?_ ?_
            · go_simp
              (try simp only [i64_w])
              try rfl
            refine hK.out _ _ ⟨(by rw [ha.out]; exact putSel_upk 3 hb_ rfl rfl rfl), HBW.out⟩
          refine steps_cons ?_ ?_
          · rintro b a w' ⟨ha, HBW⟩ hb_ hon hoff
            refine ⟨_, rfl, fun K hK => ?_⟩
            have e19 : a.tmps[19]? = some (.agg #[.int .u64 (staySet false).a, .int .u64 (staySet false).b, .int .u64 (staySet false).c, .int .u64 (staySet false).d]) := by rw [ha]; exact putSel_on (e := (0, 19, .agg #[.int .u64 (staySet false).a, .int .u64 (staySet false).b, .int .u64 (staySet false).c, .int .u64 (staySet false).d])) 0 rfl rfl (hon 0 (by kernel_rfl)) rfl
            have e22 : a.tmps[22]? = some (.int .u8 (s[k].toNat : Int)) := by rw [ha]; exact putSel_on (e := (3, 22, .int .u8 (s[k].toNat : Int))) 3 rfl rfl (hon 3 (by kernel_rfl)) rfl
            replace ha := Aside0.mk ha
            have HBW := Aside0.mk HBW
            refine goes_ Try.func64 (by kernel_rfl) rfl #[.agg #[.int .u64 (staySet false).a, .int .u64 (staySet false).b, .int .u64 (staySet false).c, .int .u64 (staySet false).d], .int .u8 (s[k].toNat : Int)] (by rfl) rfl rfl (by first | (simp only [List.map_toArray, List.map_cons, List.map_nil, Act.eval, Array.getD_eq_getD_getElem?, Option.getD_some, e19, e22]; done) | (simp only [List.map_toArray, List.map_cons, List.map_nil, Act.eval, Array.getD_eq_getD_getElem?, Option.getD_some, e19, e22]; rfl)) ?_
            refine (has_any (staySet false) _ w' hc.1 hc.2).mono ?_
            rintro e w1 ⟨rfl, hb⟩
            rw [HX.out]
            refine ⟨_, rfl, ?_⟩
            refine hK.out _ _ ⟨(by rw [ha.out]; exact putSel_upk 4 hb_ rfl rfl rfl), below_step HBW.out hb⟩
          refine steps_cons ?_ ?_
          · rintro b a w' ⟨ha, HBW⟩ hb_ hon hoff
            refine ⟨_, rfl, fun K hK => ?_⟩
            have e23 : a.tmps[23]? = some (.bool false) := by rw [ha]; exact putSel_on (e := (4, 23, .bool false)) 4 rfl rfl (hon 4 (by kernel_rfl)) rfl
            replace ha := Aside0.mk ha
            have HBW := Aside0.mk HBW
            refine value_ (w1 := w') (v := .bool false) (by rfl) rfl ?_ ?_
            · go_simp
              (try simp only [i64_w])
              try rfl
            refine hK.out _ _ ⟨(by rw [ha.out]; exact putSel_upk 5 hb_ rfl rfl rfl), HBW.out⟩
          refine steps_cons ?_ ?_
          · rintro b a w' ⟨ha, HBW⟩ hb_ hon hoff
            refine ⟨_, rfl, fun K hK => ?_⟩
            have e1 : a.tmps[1]? = some (.bool false) := by rw [ha]; exact (putSel_off rfl).trans rfl
            have e24 : a.tmps[24]? = some (.bool false) := by rw [ha]; exact putSel_on (e := (5, 24, .bool false)) 5 rfl rfl (hon 5 (by kernel_rfl)) rfl
            replace ha := Aside0.mk ha
            have HBW := Aside0.mk HBW
            refine value_ (w1 := w') (v := .bool false) (wanted_on rfl rfl rfl (e24.trans (by first | rfl | (simp [*]; done)))) rfl ?_ ?_
            · go_simp
              (try simp only [i64_w])
              try rfl
            refine hK.out _ _ ⟨(by rw [ha.out]; exact putSel_upk 6 hb_ rfl rfl rfl), HBW.out⟩
          refine steps_cons ?_ ?_
          · rintro b a w' ⟨ha, HBW⟩ hb_ hon hoff
            refine ⟨_, rfl, fun K hK => ?_⟩
            have e25 : a.tmps[25]? = some (.bool false) := by rw [ha]; exact putSel_on (e := (6, 25, .bool false)) 6 rfl rfl (hon 6 (by kernel_rfl)) rfl
            have e24 : a.tmps[24]? = some (.bool false) := by rw [ha]; exact putSel_on (e := (5, 24, .bool false)) 5 rfl rfl (hon 5 (by kernel_rfl)) rfl
            replace ha := Aside0.mk ha
            have HBW := Aside0.mk HBW
            refine value_ (w1 := w') (v := .bool false) (wanted_on rfl rfl rfl (e24.trans (by first | rfl | (simp [*]; done)))) rfl ?_ ?_
            · go_simp
              (try simp only [i64_w])
              try rfl
            refine hK.out _ _ ⟨(by rw [ha.out]; exact putSel_upk 7 hb_ rfl rfl rfl), HBW.out⟩
          refine steps_cons ?_ ?_
          · rintro b a w' ⟨ha, HBW⟩ hb_ hon hoff
            refine ⟨_, rfl, fun K hK => ?_⟩
            have e26 : a.tmps[26]? = some (.bool false) := by rw [ha]; exact putSel_on (e := (7, 26, .bool false)) 7 rfl rfl (hon 7 (by kernel_rfl)) rfl
            replace ha := Aside0.mk ha
            have HBW := Aside0.mk HBW
            refine off_ (wanted_off rfl rfl rfl (e26.trans (by first | rfl | (simp [*]; done)))) ?_
            refine hK.out _ _ ⟨(by rw [ha.out]; exact putSel_upk 8 hb_ rfl rfl rfl), HBW.out⟩
          refine steps_cons ?_ ?_
          · rintro b a w' ⟨ha, HBW⟩ hb_ hon hoff
            refine ⟨_, rfl, fun K hK => ?_⟩
            have e26 : a.tmps[26]? = some (.bool false) := by rw [ha]; exact putSel_on (e := (7, 26, .bool false)) 7 rfl rfl (hon 7 (by kernel_rfl)) rfl
            replace ha := Aside0.mk ha
            have HBW := Aside0.mk HBW
            refine off_ (wanted_off rfl rfl rfl (e26.trans (by first | rfl | (simp [*]; done)))) ?_
            refine hK.out _ _ ⟨(by rw [ha.out]; exact putSel_upk 9 hb_ rfl rfl rfl), HBW.out⟩
          refine steps_cons ?_ ?_
          · rintro b a w' ⟨ha, HBW⟩ hb_ hon hoff
            refine ⟨_, rfl, fun K hK => ?_⟩
            have e26 : a.tmps[26]? = some (.bool false) := by rw [ha]; exact putSel_on (e := (7, 26, .bool false)) 7 rfl rfl (hon 7 (by kernel_rfl)) rfl
            replace ha := Aside0.mk ha
            have HBW := Aside0.mk HBW
            refine off_ (wanted_off rfl rfl rfl (e26.trans (by first | rfl | (simp [*]; done)))) ?_
            refine hK.out _ _ ⟨(by rw [ha.out]; exact putSel_upk 10 hb_ rfl rfl rfl), HBW.out⟩
          refine steps_cons ?_ ?_
          · rintro b a w' ⟨ha, HBW⟩ hb_ hon hoff
            refine ⟨_, rfl, fun K hK => ?_⟩
            have e26 : a.tmps[26]? = some (.bool false) := by rw [ha]; exact putSel_on (e := (7, 26, .bool false)) 7 rfl rfl (hon 7 (by kernel_rfl)) rfl
            replace ha := Aside0.mk ha
            have HBW := Aside0.mk HBW
            refine off_ (wanted_off rfl rfl rfl (e26.trans (by first | rfl | (simp [*]; done)))) ?_
            refine hK.out _ _ ⟨(by rw [ha.out]; exact putSel_upk 11 hb_ rfl rfl rfl), HBW.out⟩
          refine steps_cons ?_ ?_
          · rintro b a w' ⟨ha, HBW⟩ hb_ hon hoff
            refine ⟨_, rfl, fun K hK => ?_⟩
            have e26 : a.tmps[26]? = some (.bool false) := by rw [ha]; exact putSel_on (e := (7, 26, .bool false)) 7 rfl rfl (hon 7 (by kernel_rfl)) rfl
            have e24 : a.tmps[24]? = some (.bool false) := by rw [ha]; exact putSel_on (e := (5, 24, .bool false)) 5 rfl rfl (hon 5 (by kernel_rfl)) rfl
            replace ha := Aside0.mk ha
            have HBW := Aside0.mk HBW
            refine value_ (w1 := w') (v := .bool false) (wanted_on rfl rfl rfl (e24.trans (by first | rfl | (simp [*]; done)))) rfl ?_ ?_
            · go_simp
              (try simp only [i64_w])
              try rfl
            refine hK.out _ _ ⟨(by rw [ha.out]; exact putSel_upk 12 hb_ rfl rfl rfl), HBW.out⟩
          refine steps_cons ?_ ?_
          · rintro b a w' ⟨ha, HBW⟩ hb_ hon hoff
            refine ⟨_, rfl, fun K hK => ?_⟩
            have e24 : a.tmps[24]? = some (.bool false) := by rw [ha]; exact putSel_on (e := (5, 24, .bool false)) 5 rfl rfl (hon 5 (by kernel_rfl)) rfl
            have e31 : a.tmps[31]? = some (.bool false) := by rw [ha]; exact putSel_on (e := (12, 31, .bool false)) 12 rfl rfl (hon 12 (by kernel_rfl)) rfl
            replace ha := Aside0.mk ha
            have HBW := Aside0.mk HBW
            refine value_ (w1 := w') (v := .bool false) (by rfl) rfl ?_ ?_
            · go_simp
              (try simp only [i64_w])
              try rfl
            refine hK.out _ _ ⟨(by rw [ha.out]; exact putSel_upk 13 hb_ rfl rfl rfl), HBW.out⟩
          exact steps_nil
        rintro b a w5 hall ⟨ha, HBW⟩
        have hb0_ := hall 0 (by kernel_rfl)
        have hb1_ := hall 1 (by kernel_rfl)
        have hb2_ := hall 2 (by kernel_rfl)
        have hb3_ := hall 3 (by kernel_rfl)
        have hb4_ := hall 4 (by kernel_rfl)
        have hb5_ := hall 5 (by kernel_rfl)
        have hb6_ := hall 6 (by kernel_rfl)
        have hb7_ := hall 7 (by kernel_rfl)
        have hb8_ := hall 8 (by kernel_rfl)
        have hb9_ := hall 9 (by kernel_rfl)
        have hb10_ := hall 10 (by kernel_rfl)
        have hb11_ := hall 11 (by kernel_rfl)
        have hb12_ := hall 12 (by kernel_rfl)
        have hb13_ := hall 13 (by kernel_rfl)
        subst ha
        simp only [putSel, hb0_, hb1_, hb2_, hb3_, hb4_, hb5_, hb6_, hb7_, hb8_, hb9_, hb10_, hb11_, hb12_, hb13_, if_true, Act.put, List.setIfInBounds_toArray, List.set_cons_zero, List.set_cons_succ]
        have HBW := Aside0.mk HBW
        clear hall hb0_ hb1_ hb2_ hb3_ hb4_ hb5_ hb6_ hb7_ hb8_ hb9_ hb10_ hb11_ hb12_ hb13_
        have HB2 := Aside0.mk (below_step (below_drew1 HB.out) HBW.out)
        have HSET2 := Aside0.mk (blk_below (blk_drew HSET.out) HBW.out)
        have HBL2 := Aside0.mk (builder_below (w := wr.drew) HBL.out HBW.out)
        have hw5 := HBW.out.size
        clear HBW HSET HBL
        go_wp2_with fail
        refine (pctOne_all _ _ hc.1 hc.2).mono ?_
        rintro e w6 ⟨rfl, hb6⟩
        have HB3 := Aside0.mk (below_step HB2.out hb6)
        have HSET3 := Aside0.mk (blk_below HSET2.out hb6)
        have HBL3 := Aside0.mk (builder_below HBL2.out hb6)
        have HLT := Aside0.mk (blk_lt HSET3.out)
        clear hb6 HB HB2 HSET2 HBL2
        go_wp2_with fail
        refine (writeString_any _ _ _ _ _ HBL3.out (by have := encCells_len false s k; have : (tripS (s[k].toNat : Int)).size = 3 := rfl; omega) (by have := HLT.out; omega)).mono ?_
        rintro e w7 ⟨rfl, hat, hb7⟩
        have HE := Aside0.mk (encTo_trip (keep := false) hlt HX.out rfl)
        have HAT := Aside0.mk hat
        have HSET4 := Aside0.mk ((hb7.block _ (Nat.lt_succ_self _)).trans HSET3.out)
        have HB4 := Aside0.mk (HB3.out.trans (hb7.mono (by omega)))
        clear hat hb7 HB3 HSET3 HBL3
        go_wp2_with fail
        go_roundw
        case rel => exact ⟨k + 1, by omega, by go_num, HSET4.out, .inr (by rw [HE.out]; exact HAT.out), HB4.out⟩
        case measure => simp [intOf]; omega
    · obtain rfl : k = s.size := by omega
      have HLT := Aside0.mk (blk_lt HSET.out)
      go_wp2_with fail
      refine (Try.Builder_String_any _ _ _ _ HBL.out (by have := HLT.out; omega)).mono ?_
      rintro e w6 ⟨rfl, hb6⟩
      have HB6 := Aside0.mk (HB.out.trans (hb6.mono (by omega)))
      clear hb6 HB
      go_wp2_with fail
      go_ret
      exact ⟨rfl, HB6.out⟩
end Go.Proofs.Ytbjeegkmafbejaa.X
end
section
namespace Go.Proofs.Ytbjeegkmafbejaa.X
set_option linter.unusedSimpArgs false
set_option linter.unusedVariables false
open Go.RowKit Go.Proofs.YtbjeegkmafbejaaW.PrintWords Go.Proofs.YtbjeegkmafbejaaW.PrintLast Go.Proofs.YtbjeegkmafbejaaW.PrintMore Go.Proofs.Ytbjeegkmafbejaa.Y Go.Joins
theorem encTo_stay {keep : Bool} {s : ByteArray} {k : Nat} (hk : k < s.size) (h : (keep && tri s k) = true) : Lib.byteCells (encTo keep s (k + 1)) = Lib.byteCells (encTo keep s k) ++ [.int .u8 (s[k].toNat : Int)] := by
  rw [encTo_step]
  unfold pieceE Lib.byteCells
  rw [bI_at s k hk, h, Bool.or_true, if_pos rfl, List.map_append]
  simp
theorem builder_lt {B b : Nat} {bs : List Value} {w : World} (h : Lib.IsBuilder 90 5 B b bs w) : b < w.heap.size := by
  rcases h with ⟨_, v, hbk, _⟩ | ⟨_, v, hbk, _⟩ <;> exact block_lt hbk
def encodeU.T3 : Bool × List (List Nat × List Nat) := (true, [([], []), ([], []), ([0, 1], [0, 1]), ([2, 1], [2]), ([3, 3, 0, 1, 2, 3], [3])])
def encodeU.B3 : List Nat := [0, 0, 3, 7, 15]
theorem encodeU.tab3 : rtab .any (opsOf Try.f45 3) = encodeU.T3 := by kernel_rfl
theorem encodeU.bits3 : waitsOk encodeU.T3.2 encodeU.B3 = true := by kernel_rfl
set_option maxHeartbeats 1600000 in
set_option maxRecDepth 100000 in
theorem encode_keep (s : ByteArray) (w : World) (hs : s.size ≤ 1000000) : Calls Try.prog 45 #[.string s, .bool true] w fun e w' => e = .returned (.string ⟨(encTo true s s.size).toArray⟩) ∧ Below w.heap.size w w' := by
  go_enter Try.func45, Try.ntmps45
  go_wp2_with fail
  refine (unreserved_any _).mono ?_
  rintro e w1 ⟨rfl, hb1⟩
  have HB1 := Aside0.mk (below_alloc hb1 (.cells unreservedSet.cells 85))
  have HS1 := Aside0.mk (blk_new w1 (.cells unreservedSet.cells 85))
  have hs1 := hb1.size
  clear hb1
  unfold Set4.val
  go_wp2_with fail
  refine start_ (n := 5) (S := fun w' => True) (ds := []) #[false, false, false, false, false] (by kernel_rfl) rfl rfl trivial (fun hHeld => ?_)
  refine with_tabW encodeU.tab3 encodeU.bits3 (fun HT_ HW_ => ?_)
  have HS1 := Aside0.mk hs1
  refine inv_at [0, 1, 2, 3, 4] (fun a0_ b a w' => ∃ A : Value, a = putSel a0_ b [(0, 10, unreservedSet.val), (1, 11, reservedSet.val), (2, 12, A), (3, 13, (staySet true).val)] ∧ Below w.heap.size w w' ∧ (b 4 = false → w'.heap[w1.heap.size]? = some (.cells unreservedSet.cells 85 (0, 0))) ∧ (b 4 = true → w'.heap[w1.heap.size]? = some (.cells (staySet true).cells 85 (0, 0))) ∧ (b 2 = true → b 4 = false → ∃ g, A = .slice (some ⟨g, 0, none⟩) 2 2 ∧ g < w'.heap.size ∧ Row4 w' g [unreservedSet, reservedSet])) HT_.out HW_.out (by kernel_rfl) (by kernel_rfl) ?_ ?_ ?_
  · exact ⟨.bool false, by simp only [putSel, Bool.false_eq_true, if_false], below_drew1 HB1.out, fun _ => blk_drew (blk_new w1 _), fun h_ => absurd h_ (by decide), fun h_ _ => absurd h_ (by decide)⟩
  · clear hHeld HT_ HW_
    refine steps_cons ?_ ?_
    · rintro b a w' ⟨A, ha, HBW, Q0, Q4, Q2⟩ hb_ hon hoff
      refine ⟨_, rfl, fun K hK => ?_⟩
      have e5 : a.tmps[5]? = some (.pointer (some ⟨w1.heap.size, 0, none⟩)) := by rw [ha]; exact (putSel_off rfl).trans rfl
      replace ha := Aside0.mk ha
      have hc_ := Q0 (hoff 4 (by kernel_rfl))
      obtain ⟨c0_, c1_, c2_, c3_, _⟩ := cells4 hc_
      refine value_ (w1 := w') (v := unreservedSet.val) (by rfl) rfl ?_ ?_
      · unfold Set4.val; go_simp
        try rfl
      refine hK.out _ _ ⟨A, (by rw [ha.out]; exact putSel_upk 0 hb_ rfl rfl rfl), HBW, Q0, Q4, Q2⟩
    refine steps_cons ?_ ?_
    · rintro b a w' ⟨A, ha, HBW, Q0, Q4, Q2⟩ hb_ hon hoff
      refine ⟨_, rfl, fun K hK => ?_⟩
      replace ha := Aside0.mk ha
      refine goes_ Try.func63 (by kernel_rfl) rfl #[] (by rfl) rfl rfl (by simp) ?_
      refine (reserved_any w').mono ?_
      rintro e w3 ⟨rfl, hb⟩
      refine ⟨_, rfl, ?_⟩
      refine hK.out _ _ ⟨A, (by rw [ha.out]; exact putSel_upk 1 hb_ rfl rfl rfl), below_step HBW hb, fun h_ => blk_below (Q0 h_) hb, fun h_ => blk_below (Q4 h_) hb, (fun h_ h4_ => by obtain ⟨g, e_, hg, hr⟩ := Q2 h_ h4_; exact ⟨g, e_, Nat.lt_of_lt_of_le hg hb.size, hr.below hb hg⟩)⟩
    refine steps_cons ?_ ?_
    · rintro b a w' ⟨A, ha, HBW, Q0, Q4, Q2⟩ hb_ hon hoff
      refine ⟨_, rfl, fun K hK => ?_⟩
      have e10 : a.tmps[10]? = some (unreservedSet.val) := by rw [ha]; exact putSel_on (e := (0, 10, unreservedSet.val)) 0 rfl rfl (hon 0 (by kernel_rfl)) rfl
      have e11 : a.tmps[11]? = some (reservedSet.val) := by rw [ha]; exact putSel_on (e := (1, 11, reservedSet.val)) 1 rfl rfl (hon 1 (by kernel_rfl)) rfl
      replace ha := Aside0.mk ha
      unfold Set4.val at e10 e11
      have hb := X.below_new1 w' (.cells #[.int .u64 unreservedSet.a, .int .u64 unreservedSet.b, .int .u64 unreservedSet.c, .int .u64 unreservedSet.d, .int .u64 reservedSet.a, .int .u64 reservedSet.b, .int .u64 reservedSet.c, .int .u64 reservedSet.d] 85)
      refine value_ (w1 := w'.alloc (.cells #[.int .u64 unreservedSet.a, .int .u64 unreservedSet.b, .int .u64 unreservedSet.c, .int .u64 unreservedSet.d, .int .u64 reservedSet.a, .int .u64 reservedSet.b, .int .u64 reservedSet.c, .int .u64 reservedSet.d] 85)) (v := .slice (some ⟨w'.heap.size, 0, none⟩) 2 2) (by rfl) rfl ?_ ?_
      · go_simp
        try rfl
      refine hK.out _ _ ⟨.slice (some ⟨w'.heap.size, 0, none⟩) 2 2, (by rw [ha.out]; exact putSel_upk 2 hb_ rfl rfl rfl), below_step HBW hb, fun h_ => blk_below (Q0 h_) hb, fun h_ => blk_below (Q4 h_) hb, (fun _ _ => ⟨_, rfl, by simp, row4_two _ _ _ _⟩)⟩
    refine steps_cons ?_ ?_
    · rintro b a w' ⟨A, ha, HBW, Q0, Q4, Q2⟩ hb_ hon hoff
      refine ⟨_, rfl, fun K hK => ?_⟩
      obtain ⟨g, rfl, hg, hr⟩ := Q2 (hon 2 (by kernel_rfl)) (hoff 4 (by kernel_rfl))
      have e12 : a.tmps[12]? = some (.slice (some ⟨g, 0, none⟩) 2 2) := by rw [ha]; exact putSel_on (e := (2, 12, .slice (some ⟨g, 0, none⟩) 2 2)) 2 rfl rfl (hon 2 (by kernel_rfl)) rfl
      replace ha := Aside0.mk ha
      refine goes_ Try.func62 (by kernel_rfl) rfl #[.slice (some ⟨g, 0, none⟩) 2 2] (by rfl) rfl rfl (by simp only [List.map_toArray, List.map_cons, List.map_nil, Act.eval, Array.getD_eq_getD_getElem?, Option.getD_some, e12]) ?_
      refine (union_any [unreservedSet, reservedSet] _ w' (by simp) (by simp) hg hr).mono ?_
      rintro e w3 ⟨rfl, hb⟩
      refine ⟨_, rfl, ?_⟩
      refine hK.out _ _ ⟨_, (by rw [ha.out]; exact putSel_upk 3 hb_ rfl rfl rfl), below_step HBW hb, fun h_ => blk_below (Q0 h_) hb, fun h_ => blk_below (Q4 h_) hb, (fun _ _ => ⟨g, rfl, Nat.lt_of_lt_of_le hg hb.size, hr.below hb hg⟩)⟩
    refine steps_cons ?_ ?_
    · rintro b a w' ⟨A, ha, HBW, Q0, Q4, Q2⟩ hb_ hon hoff
      refine ⟨_, rfl, fun K hK => ?_⟩
      have e5 : a.tmps[5]? = some (.pointer (some ⟨w1.heap.size, 0, none⟩)) := by rw [ha]; exact (putSel_off rfl).trans rfl
      have e13 : a.tmps[13]? = some ((staySet true).val) := by rw [ha]; exact putSel_on (e := (3, 13, (staySet true).val)) 3 rfl rfl (hon 3 (by kernel_rfl)) rfl
      replace ha := Aside0.mk ha
      have hc_ := Q0 hb_
      obtain ⟨c0_, c1_, c2_, c3_, f0_, f1_, f2_, f3_⟩ := cells4 hc_
      unfold Set4.val at e13
      refine skip_ (w1 := (((w'.setCell ⟨w1.heap.size, 0, none⟩ (.int .u64 (staySet true).a)).setCell ⟨w1.heap.size, 1, none⟩ (.int .u64 (staySet true).b)).setCell ⟨w1.heap.size, 2, none⟩ (.int .u64 (staySet true).c)).setCell ⟨w1.heap.size, 3, none⟩ (.int .u64 (staySet true).d)) (by rfl) rfl ?_ ?_
      · go_simp
        try rfl
      refine hK.out _ _ ⟨A, (by rw [ha.out]; exact putSel_none (v := undef) rfl), ?_, ?_, ?_, ?_⟩
      · exact below_set (below_set (below_set (below_set HBW HS1.out) HS1.out) HS1.out) HS1.out
      · intro h_; exact absurd h_ (by rw [up_self]; decide)
      · intro _; exact blk_put (blk_put (blk_put (blk_put hc_ 0 _ rfl) 1 _ rfl) 2 _ rfl) 3 _ rfl
      · intro _ h_; exact absurd h_ (by rw [up_self]; decide)
    exact steps_nil
  rintro b a w5 hall ⟨A, ha, HBW, Q0, Q4, Q2⟩
  have HB5 := Aside0.mk HBW
  have HS5 := Aside0.mk (Q4 (hall 4 (by kernel_rfl)))
  have HLT5 := Aside0.mk (blk_lt HS5.out)
  have hs5 := HB5.out.size
  have hb0_ := hall 0 (by kernel_rfl)
  have hb1_ := hall 1 (by kernel_rfl)
  have hb2_ := hall 2 (by kernel_rfl)
  have hb3_ := hall 3 (by kernel_rfl)
  subst ha
  simp only [putSel, hb0_, hb1_, hb2_, hb3_, if_true, Act.put, List.setIfInBounds_toArray, List.set_cons_zero, List.set_cons_succ]
  clear hall hb0_ hb1_ hb2_ hb3_ HBW Q0 Q4 Q2
  go_wp2_with fail
  go_loopw [16] (fun c wr => ∃ k : Nat, k ≤ s.size ∧ c = .int .i64 k ∧ wr.heap[w1.heap.size]? = some (.cells (staySet true).cells 85 (0, 0)) ∧ Lib.IsBuilder 90 5 w5.heap.size w5.heap.size (Lib.byteCells (encTo true s k)) wr ∧ Below w.heap.size w wr) (fun c _ => (s.size - intOf c).toNat)
  case atStart =>
    refine ⟨0, by omega, by simp, blk_alloc HS5.out _, ?_, below_alloc HB5.out _⟩
    exact .inl ⟨Nat.le_refl _, .slice none 0 0, blk_new _ _, ⟨rfl, .inl ⟨rfl, rfl⟩⟩, by simp [Value.ownBlock]⟩
  case round =>
    obtain ⟨k, hk, rfl, hset, hbl, hb⟩ := hrel
    have HSET := Aside0.mk hset
    have HBL := Aside0.mk hbl
    have HB := Aside0.mk hb
    clear hset hbl hb
    by_cases hlt : k < s.size
    · have hc := bI_range s k
      have hbx := bI_at s k hlt
      obtain ⟨c0, c1, c2, c3, _⟩ := cells4 HSET.out
      rw [hbx] at hc
      cases hst : (staySet true).has (s[k].toNat : Int) with
      | true =>
        have HX := Aside0.mk hst
        clear hst
        go_wp2_with fail
        refine start_ (n := 14) (S := fun w' => True) (ds := []) #[false, false, false, false, false, false, false, false, false, false, false, false, false, false] (by kernel_rfl) rfl rfl trivial (fun hHeld => ?_)
        refine with_tabW encode.tab8 encode.bits8 (fun HT_ HW_ => ?_)
        refine inv_at [0, 1, 2, 3, 4, 5, 6, 7, 8, 9, 10, 11, 12, 13] (fun a0_ b a w' => a = putSel a0_ b [(0, 19, .agg #[.int .u64 (staySet true).a, .int .u64 (staySet true).b, .int .u64 (staySet true).c, .int .u64 (staySet true).d]), (1, 20, .string s), (2, 21, .int .i64 (k : Int)), (3, 22, .int .u8 (s[k].toNat : Int)), (4, 23, .bool true), (5, 24, .bool true), (6, 25, undef), (7, 26, undef), (8, 27, undef), (9, 28, undef), (10, 29, undef), (11, 30, undef), (12, 31, undef), (13, 32, .bool true)] ∧ Below wr.drew.heap.size wr.drew w') HT_.out HW_.out (by kernel_rfl) (by kernel_rfl) ?_ ?_ ?_
        · exact ⟨by simp only [putSel, Bool.false_eq_true, if_false], Below.refl _ _⟩
        · clear hHeld HT_ HW_
          refine steps_cons ?_ ?_
          · rintro b a w' ⟨ha, HBW⟩ hb_ hon hoff
            refine ⟨_, rfl, fun K hK => ?_⟩
            have e5 : a.tmps[5]? = some (.pointer (some ⟨w1.heap.size, 0, none⟩)) := by rw [ha]; exact (putSel_off rfl).trans rfl
            replace ha := Aside0.mk ha
            have HBW := Aside0.mk HBW
            have hc_ := blk_below (blk_drew HSET.out) HBW.out
            have hc0_ : w'.cell? ⟨w1.heap.size, 0, none⟩ = some (.int .u64 (staySet true).a) := (blk_cell hc_ 0).trans rfl
            have hc1_ : w'.cell? ⟨w1.heap.size, 1, none⟩ = some (.int .u64 (staySet true).b) := (blk_cell hc_ 1).trans rfl
            have hc2_ : w'.cell? ⟨w1.heap.size, 2, none⟩ = some (.int .u64 (staySet true).c) := (blk_cell hc_ 2).trans rfl
            have hc3_ : w'.cell? ⟨w1.heap.size, 3, none⟩ = some (.int .u64 (staySet true).d) := (blk_cell hc_ 3).trans rfl
            refine value_ (w1 := w') (v := .agg #[.int .u64 (staySet true).a, .int .u64 (staySet true).b, .int .u64 (staySet true).c, .int .u64 (staySet true).d]) (by rfl) rfl ?_ ?_
            · go_simp
              (try simp only [i64_w])
              try rfl
            refine hK.out _ _ ⟨(by rw [ha.out]; exact putSel_upk 0 hb_ rfl rfl rfl), HBW.out⟩
          refine steps_cons ?_ ?_
          · rintro b a w' ⟨ha, HBW⟩ hb_ hon hoff
            refine ⟨_, rfl, fun K hK => ?_⟩
            have e0 : a.tmps[0]? = some (.string s) := by rw [ha]; exact (putSel_off rfl).trans rfl
            replace ha := Aside0.mk ha
            have HBW := Aside0.mk HBW
            refine value_ (w1 := w') (v := .string s) (by rfl) rfl ?_ ?_
            · go_simp
              (try simp only [i64_w])
              try rfl
            refine hK.out _ _ ⟨(by rw [ha.out]; exact putSel_upk 1 hb_ rfl rfl rfl), HBW.out⟩
          refine steps_cons ?_ ?_
          · rintro b a w' ⟨ha, HBW⟩ hb_ hon hoff
            refine ⟨_, rfl, fun K hK => ?_⟩
            have e7 : a.tmps[7]? = some (.int .i64 (k : Int)) := by rw [ha]; exact (putSel_off rfl).trans rfl
            replace ha := Aside0.mk ha
            have HBW := Aside0.mk HBW
            refine value_ (w1 := w') (v := .int .i64 (k : Int)) (by rfl) rfl ?_ ?_
            · go_simp
              (try simp only [i64_w])
              try rfl
            refine hK.out _ _ ⟨(by rw [ha.out]; exact putSel_upk 2 hb_ rfl rfl rfl), HBW.out⟩
          refine steps_cons ?_ ?_
          · rintro b a w' ⟨ha, HBW⟩ hb_ hon hoff
            refine ⟨_, rfl, fun K hK => ?_⟩
            have e20 : a.tmps[20]? = some (.string s) := by rw [ha]; exact putSel_on (e := (1, 20, .string s)) 1 rfl rfl (hon 1 (by kernel_rfl)) rfl
            have e21 : a.tmps[21]? = some (.int .i64 (k : Int)) := by rw [ha]; exact putSel_on (e := (2, 21, .int .i64 (k : Int))) 2 rfl rfl (hon 2 (by kernel_rfl)) rfl
            replace ha := Aside0.mk ha
            have HBW := Aside0.mk HBW
            refine value_ (w1 := w') (v := .int .u8 (s[k].toNat : Int)) (by rfl) rfl ?_ ?_
            · go_simp
              (try simp only [i64_w])
              try rfl
            refine hK.out _ _ ⟨(by rw [ha.out]; exact putSel_upk 3 hb_ rfl rfl rfl), HBW.out⟩
          refine steps_cons ?_ ?_
          · rintro b a w' ⟨ha, HBW⟩ hb_ hon hoff
            refine ⟨_, rfl, fun K hK => ?_⟩
            have e19 : a.tmps[19]? = some (.agg #[.int .u64 (staySet true).a, .int .u64 (staySet true).b, .int .u64 (staySet true).c, .int .u64 (staySet true).d]) := by rw [ha]; exact putSel_on (e := (0, 19, .agg #[.int .u64 (staySet true).a, .int .u64 (staySet true).b, .int .u64 (staySet true).c, .int .u64 (staySet true).d])) 0 rfl rfl (hon 0 (by kernel_rfl)) rfl
            have e22 : a.tmps[22]? = some (.int .u8 (s[k].toNat : Int)) := by rw [ha]; exact putSel_on (e := (3, 22, .int .u8 (s[k].toNat : Int))) 3 rfl rfl (hon 3 (by kernel_rfl)) rfl
            replace ha := Aside0.mk ha
            have HBW := Aside0.mk HBW
            refine goes_ Try.func64 (by kernel_rfl) rfl #[.agg #[.int .u64 (staySet true).a, .int .u64 (staySet true).b, .int .u64 (staySet true).c, .int .u64 (staySet true).d], .int .u8 (s[k].toNat : Int)] (by rfl) rfl rfl (by first | (simp only [List.map_toArray, List.map_cons, List.map_nil, Act.eval, Array.getD_eq_getD_getElem?, Option.getD_some, e19, e22]; done) | (simp only [List.map_toArray, List.map_cons, List.map_nil, Act.eval, Array.getD_eq_getD_getElem?, Option.getD_some, e19, e22]; rfl)) ?_
            refine (has_any (staySet true) _ w' hc.1 hc.2).mono ?_
            rintro e w1 ⟨rfl, hb⟩
            rw [HX.out]
            refine ⟨_, rfl, ?_⟩
            refine hK.out _ _ ⟨(by rw [ha.out]; exact putSel_upk 4 hb_ rfl rfl rfl), below_step HBW.out hb⟩
          refine steps_cons ?_ ?_
          · rintro b a w' ⟨ha, HBW⟩ hb_ hon hoff
            refine ⟨_, rfl, fun K hK => ?_⟩
            have e23 : a.tmps[23]? = some (.bool true) := by rw [ha]; exact putSel_on (e := (4, 23, .bool true)) 4 rfl rfl (hon 4 (by kernel_rfl)) rfl
            replace ha := Aside0.mk ha
            have HBW := Aside0.mk HBW
            refine value_ (w1 := w') (v := .bool true) (by rfl) rfl ?_ ?_
            · go_simp
              (try simp only [i64_w])
              try rfl
            refine hK.out _ _ ⟨(by rw [ha.out]; exact putSel_upk 5 hb_ rfl rfl rfl), HBW.out⟩
          refine steps_cons ?_ ?_
          · rintro b a w' ⟨ha, HBW⟩ hb_ hon hoff
            refine ⟨_, rfl, fun K hK => ?_⟩
            have e24 : a.tmps[24]? = some (.bool true) := by rw [ha]; exact putSel_on (e := (5, 24, .bool true)) 5 rfl rfl (hon 5 (by kernel_rfl)) rfl
            replace ha := Aside0.mk ha
            have HBW := Aside0.mk HBW
            refine off_ (wanted_off rfl rfl rfl (e24.trans (by first | rfl | (simp [*]; done)))) ?_
            refine hK.out _ _ ⟨(by rw [ha.out]; exact putSel_upk 6 hb_ rfl rfl rfl), HBW.out⟩
          refine steps_cons ?_ ?_
          · rintro b a w' ⟨ha, HBW⟩ hb_ hon hoff
            refine ⟨_, rfl, fun K hK => ?_⟩
            have e24 : a.tmps[24]? = some (.bool true) := by rw [ha]; exact putSel_on (e := (5, 24, .bool true)) 5 rfl rfl (hon 5 (by kernel_rfl)) rfl
            replace ha := Aside0.mk ha
            have HBW := Aside0.mk HBW
            refine off_ (wanted_off rfl rfl rfl (e24.trans (by first | rfl | (simp [*]; done)))) ?_
            refine hK.out _ _ ⟨(by rw [ha.out]; exact putSel_upk 7 hb_ rfl rfl rfl), HBW.out⟩
          refine steps_cons ?_ ?_
          · rintro b a w' ⟨ha, HBW⟩ hb_ hon hoff
            refine ⟨_, rfl, fun K hK => ?_⟩
            have e26 : a.tmps[26]? = some (undef) := by rw [ha]; exact putSel_on (e := (7, 26, undef)) 7 rfl rfl (hon 7 (by kernel_rfl)) rfl
            replace ha := Aside0.mk ha
            have HBW := Aside0.mk HBW
            refine off_ (wanted_undef rfl rfl rfl e26) ?_
            refine hK.out _ _ ⟨(by rw [ha.out]; exact putSel_upk 8 hb_ rfl rfl rfl), HBW.out⟩
          refine steps_cons ?_ ?_
          · rintro b a w' ⟨ha, HBW⟩ hb_ hon hoff
            refine ⟨_, rfl, fun K hK => ?_⟩
            have e26 : a.tmps[26]? = some (undef) := by rw [ha]; exact putSel_on (e := (7, 26, undef)) 7 rfl rfl (hon 7 (by kernel_rfl)) rfl
            replace ha := Aside0.mk ha
            have HBW := Aside0.mk HBW
            refine off_ (wanted_undef rfl rfl rfl e26) ?_
            refine hK.out _ _ ⟨(by rw [ha.out]; exact putSel_upk 9 hb_ rfl rfl rfl), HBW.out⟩
          refine steps_cons ?_ ?_
          · rintro b a w' ⟨ha, HBW⟩ hb_ hon hoff
            refine ⟨_, rfl, fun K hK => ?_⟩
            have e26 : a.tmps[26]? = some (undef) := by rw [ha]; exact putSel_on (e := (7, 26, undef)) 7 rfl rfl (hon 7 (by kernel_rfl)) rfl
            replace ha := Aside0.mk ha
            have HBW := Aside0.mk HBW
            refine off_ (wanted_undef rfl rfl rfl e26) ?_
            refine hK.out _ _ ⟨(by rw [ha.out]; exact putSel_upk 10 hb_ rfl rfl rfl), HBW.out⟩
          refine steps_cons ?_ ?_
          · rintro b a w' ⟨ha, HBW⟩ hb_ hon hoff
            refine ⟨_, rfl, fun K hK => ?_⟩
            have e26 : a.tmps[26]? = some (undef) := by rw [ha]; exact putSel_on (e := (7, 26, undef)) 7 rfl rfl (hon 7 (by kernel_rfl)) rfl
            replace ha := Aside0.mk ha
            have HBW := Aside0.mk HBW
            refine off_ (wanted_undef rfl rfl rfl e26) ?_
            refine hK.out _ _ ⟨(by rw [ha.out]; exact putSel_upk 11 hb_ rfl rfl rfl), HBW.out⟩
          refine steps_cons ?_ ?_
          · rintro b a w' ⟨ha, HBW⟩ hb_ hon hoff
            refine ⟨_, rfl, fun K hK => ?_⟩
            have e24 : a.tmps[24]? = some (.bool true) := by rw [ha]; exact putSel_on (e := (5, 24, .bool true)) 5 rfl rfl (hon 5 (by kernel_rfl)) rfl
            replace ha := Aside0.mk ha
            have HBW := Aside0.mk HBW
            refine off_ (wanted_off rfl rfl rfl (e24.trans (by first | rfl | (simp [*]; done)))) ?_
            refine hK.out _ _ ⟨(by rw [ha.out]; exact putSel_upk 12 hb_ rfl rfl rfl), HBW.out⟩
          refine steps_cons ?_ ?_
          · rintro b a w' ⟨ha, HBW⟩ hb_ hon hoff
            refine ⟨_, rfl, fun K hK => ?_⟩
            have e24 : a.tmps[24]? = some (.bool true) := by rw [ha]; exact putSel_on (e := (5, 24, .bool true)) 5 rfl rfl (hon 5 (by kernel_rfl)) rfl
            replace ha := Aside0.mk ha
            have HBW := Aside0.mk HBW
            refine value_ (w1 := w') (v := .bool true) (by rfl) rfl ?_ ?_
            · go_simp
              (try simp only [i64_w])
              try rfl
            refine hK.out _ _ ⟨(by rw [ha.out]; exact putSel_upk 13 hb_ rfl rfl rfl), HBW.out⟩
          exact steps_nil
        rintro b a w5 hall ⟨ha, HBW⟩
        have hb0_ := hall 0 (by kernel_rfl)
        have hb1_ := hall 1 (by kernel_rfl)
        have hb2_ := hall 2 (by kernel_rfl)
        have hb3_ := hall 3 (by kernel_rfl)
        have hb4_ := hall 4 (by kernel_rfl)
        have hb5_ := hall 5 (by kernel_rfl)
        have hb6_ := hall 6 (by kernel_rfl)
        have hb7_ := hall 7 (by kernel_rfl)
        have hb8_ := hall 8 (by kernel_rfl)
        have hb9_ := hall 9 (by kernel_rfl)
        have hb10_ := hall 10 (by kernel_rfl)
        have hb11_ := hall 11 (by kernel_rfl)
        have hb12_ := hall 12 (by kernel_rfl)
        have hb13_ := hall 13 (by kernel_rfl)
        subst ha
        simp only [putSel, hb0_, hb1_, hb2_, hb3_, hb4_, hb5_, hb6_, hb7_, hb8_, hb9_, hb10_, hb11_, hb12_, hb13_, if_true, Act.put, List.setIfInBounds_toArray, List.set_cons_zero, List.set_cons_succ]
        have HBW := Aside0.mk HBW
        clear hall hb0_ hb1_ hb2_ hb3_ hb4_ hb5_ hb6_ hb7_ hb8_ hb9_ hb10_ hb11_ hb12_ hb13_
        have HB2 := Aside0.mk (below_step (below_drew1 HB.out) HBW.out)
        have HSET2 := Aside0.mk (blk_below (blk_drew HSET.out) HBW.out)
        have HBL2 := Aside0.mk (builder_below (w := wr.drew) HBL.out HBW.out)
        have HLT := Aside0.mk (builder_lt HBL2.out)
        have hw5 := HBW.out.size
        clear HBW HSET HBL
        go_wp2_with fail
        refine (writeByte_any _ _ _ _ _ HBL2.out (by have := encCells_len true s k; omega) (by have := HLT.out; omega)).mono ?_
        rintro e w6 ⟨rfl, hat, hb6⟩
        have HE := Aside0.mk (encTo_byte hlt HX.out)
        have HAT := Aside0.mk hat
        have HSET3 := Aside0.mk ((hb6.block _ HLT5.out).trans HSET2.out)
        have HB3 := Aside0.mk (HB2.out.trans (hb6.mono (by omega)))
        clear hat hb6 HB HB2 HSET2 HBL2
        go_wp2_with fail
        go_roundw
        case rel => exact ⟨k + 1, by omega, by go_num, HSET3.out, .inr (by rw [HE.out]; exact HAT.out), HB3.out⟩
        case measure => simp [intOf]; omega
      | false =>
        have HX := Aside0.mk hst
        clear hst
        have hext := tri_ext s k (by omega)
        cases htr : tri s k with
        | true =>
          rw [htr] at hext
          have HE := Aside0.mk hext
          have HE2 := Aside0.mk (show (true && tri s k) = true by rw [htr]; rfl)
          clear hext htr
          go_wp2_with fail
          refine start_ (n := 14) (S := fun w' => True) (ds := []) #[false, false, false, false, false, false, false, false, false, false, false, false, false, false] (by kernel_rfl) rfl rfl trivial (fun hHeld => ?_)
          refine with_tabW encode.tab8 encode.bits8 (fun HT_ HW_ => ?_)
          refine inv_at [0, 1, 2, 3, 4, 5, 6, 7, 8, 9, 10, 11, 12, 13] (fun a0_ b a w' => a = putSel a0_ b [(0, 19, .agg #[.int .u64 (staySet true).a, .int .u64 (staySet true).b, .int .u64 (staySet true).c, .int .u64 (staySet true).d]), (1, 20, .string s), (2, 21, .int .i64 (k : Int)), (3, 22, .int .u8 (s[k].toNat : Int)), (4, 23, .bool false), (5, 24, .bool false), (6, 25, .bool true), (7, 26, .bool true), (8, 27, .string s), (9, 28, .int .i64 (k : Int)), (10, 29, .string (s.extract k s.size)), (11, 30, .bool true), (12, 31, .bool true), (13, 32, .bool true)] ∧ Below wr.drew.heap.size wr.drew w') HT_.out HW_.out (by kernel_rfl) (by kernel_rfl) ?_ ?_ ?_
          · exact ⟨by simp only [putSel, Bool.false_eq_true, if_false], Below.refl _ _⟩
          · clear hHeld HT_ HW_
            refine steps_cons ?_ ?_
            · rintro b a w' ⟨ha, HBW⟩ hb_ hon hoff
              refine ⟨_, rfl, fun K hK => ?_⟩
              have e5 : a.tmps[5]? = some (.pointer (some ⟨w1.heap.size, 0, none⟩)) := by rw [ha]; exact (putSel_off rfl).trans rfl
              replace ha := Aside0.mk ha
              have HBW := Aside0.mk HBW
              have hc_ := blk_below (blk_drew HSET.out) HBW.out
              have hc0_ : w'.cell? ⟨w1.heap.size, 0, none⟩ = some (.int .u64 (staySet true).a) := (blk_cell hc_ 0).trans rfl
              have hc1_ : w'.cell? ⟨w1.heap.size, 1, none⟩ = some (.int .u64 (staySet true).b) := (blk_cell hc_ 1).trans rfl
              have hc2_ : w'.cell? ⟨w1.heap.size, 2, none⟩ = some (.int .u64 (staySet true).c) := (blk_cell hc_ 2).trans rfl
              have hc3_ : w'.cell? ⟨w1.heap.size, 3, none⟩ = some (.int .u64 (staySet true).d) := (blk_cell hc_ 3).trans rfl
              refine value_ (w1 := w') (v := .agg #[.int .u64 (staySet true).a, .int .u64 (staySet true).b, .int .u64 (staySet true).c, .int .u64 (staySet true).d]) (by rfl) rfl ?_ ?_
              · go_simp
                (try simp only [i64_w])
                try rfl
              refine hK.out _ _ ⟨(by rw [ha.out]; exact putSel_upk 0 hb_ rfl rfl rfl), HBW.out⟩
            refine steps_cons ?_ ?_
            · rintro b a w' ⟨ha, HBW⟩ hb_ hon hoff
              refine ⟨_, rfl, fun K hK => ?_⟩
              have e0 : a.tmps[0]? = some (.string s) := by rw [ha]; exact (putSel_off rfl).trans rfl
              replace ha := Aside0.mk ha
              have HBW := Aside0.mk HBW
              refine value_ (w1 := w') (v := .string s) (by rfl) rfl ?_ ?_
              · go_simp
                (try simp only [i64_w])
                try rfl
              refine hK.out _ _ ⟨(by rw [ha.out]; exact putSel_upk 1 hb_ rfl rfl rfl), HBW.out⟩
            refine steps_cons ?_ ?_
            · rintro b a w' ⟨ha, HBW⟩ hb_ hon hoff
              refine ⟨_, rfl, fun K hK => ?_⟩
              have e7 : a.tmps[7]? = some (.int .i64 (k : Int)) := by rw [ha]; exact (putSel_off rfl).trans rfl
              replace ha := Aside0.mk ha
              have HBW := Aside0.mk HBW
              refine value_ (w1 := w') (v := .int .i64 (k : Int)) (by rfl) rfl ?_ ?_
              · go_simp
                (try simp only [i64_w])
                try rfl
              refine hK.out _ _ ⟨(by rw [ha.out]; exact putSel_upk 2 hb_ rfl rfl rfl), HBW.out⟩
            refine steps_cons ?_ ?_
            · rintro b a w' ⟨ha, HBW⟩ hb_ hon hoff
              refine ⟨_, rfl, fun K hK => ?_⟩
              have e20 : a.tmps[20]? = some (.string s) := by rw [ha]; exact putSel_on (e := (1, 20, .string s)) 1 rfl rfl (hon 1 (by kernel_rfl)) rfl
              have e21 : a.tmps[21]? = some (.int .i64 (k : Int)) := by rw [ha]; exact putSel_on (e := (2, 21, .int .i64 (k : Int))) 2 rfl rfl (hon 2 (by kernel_rfl)) rfl
              replace ha := Aside0.mk ha
              have HBW := Aside0.mk HBW
              refine value_ (w1 := w') (v := .int .u8 (s[k].toNat : Int)) (by rfl) rfl ?_ ?_
              · go_simp
                (try simp only [i64_w])
                try rfl
              refine hK.out _ _ ⟨(by rw [ha.out]; exact putSel_upk 3 hb_ rfl rfl rfl), HBW.out⟩
            refine steps_cons ?_ ?_
            · rintro b a w' ⟨ha, HBW⟩ hb_ hon hoff
              refine ⟨_, rfl, fun K hK => ?_⟩
              have e19 : a.tmps[19]? = some (.agg #[.int .u64 (staySet true).a, .int .u64 (staySet true).b, .int .u64 (staySet true).c, .int .u64 (staySet true).d]) := by rw [ha]; exact putSel_on (e := (0, 19, .agg #[.int .u64 (staySet true).a, .int .u64 (staySet true).b, .int .u64 (staySet true).c, .int .u64 (staySet true).d])) 0 rfl rfl (hon 0 (by kernel_rfl)) rfl
              have e22 : a.tmps[22]? = some (.int .u8 (s[k].toNat : Int)) := by rw [ha]; exact putSel_on (e := (3, 22, .int .u8 (s[k].toNat : Int))) 3 rfl rfl (hon 3 (by kernel_rfl)) rfl
              replace ha := Aside0.mk ha
              have HBW := Aside0.mk HBW
              refine goes_ Try.func64 (by kernel_rfl) rfl #[.agg #[.int .u64 (staySet true).a, .int .u64 (staySet true).b, .int .u64 (staySet true).c, .int .u64 (staySet true).d], .int .u8 (s[k].toNat : Int)] (by rfl) rfl rfl (by first | (simp only [List.map_toArray, List.map_cons, List.map_nil, Act.eval, Array.getD_eq_getD_getElem?, Option.getD_some, e19, e22]; done) | (simp only [List.map_toArray, List.map_cons, List.map_nil, Act.eval, Array.getD_eq_getD_getElem?, Option.getD_some, e19, e22]; rfl)) ?_
              refine (has_any (staySet true) _ w' hc.1 hc.2).mono ?_
              rintro e w1 ⟨rfl, hb⟩
              rw [HX.out]
              refine ⟨_, rfl, ?_⟩
              refine hK.out _ _ ⟨(by rw [ha.out]; exact putSel_upk 4 hb_ rfl rfl rfl), below_step HBW.out hb⟩
            refine steps_cons ?_ ?_
            · rintro b a w' ⟨ha, HBW⟩ hb_ hon hoff
              refine ⟨_, rfl, fun K hK => ?_⟩
              have e23 : a.tmps[23]? = some (.bool false) := by rw [ha]; exact putSel_on (e := (4, 23, .bool false)) 4 rfl rfl (hon 4 (by kernel_rfl)) rfl
              replace ha := Aside0.mk ha
              have HBW := Aside0.mk HBW
              refine value_ (w1 := w') (v := .bool false) (by rfl) rfl ?_ ?_
              · go_simp
                (try simp only [i64_w])
                try rfl
              refine hK.out _ _ ⟨(by rw [ha.out]; exact putSel_upk 5 hb_ rfl rfl rfl), HBW.out⟩
            refine steps_cons ?_ ?_
            · rintro b a w' ⟨ha, HBW⟩ hb_ hon hoff
              refine ⟨_, rfl, fun K hK => ?_⟩
              have e1 : a.tmps[1]? = some (.bool true) := by rw [ha]; exact (putSel_off rfl).trans rfl
              have e24 : a.tmps[24]? = some (.bool false) := by rw [ha]; exact putSel_on (e := (5, 24, .bool false)) 5 rfl rfl (hon 5 (by kernel_rfl)) rfl
              replace ha := Aside0.mk ha
              have HBW := Aside0.mk HBW
              refine value_ (w1 := w') (v := .bool true) (wanted_on rfl rfl rfl (e24.trans (by first | rfl | (simp [*]; done)))) rfl ?_ ?_
              · go_simp
                (try simp only [i64_w])
                try rfl
              refine hK.out _ _ ⟨(by rw [ha.out]; exact putSel_upk 6 hb_ rfl rfl rfl), HBW.out⟩
            refine steps_cons ?_ ?_
            · rintro b a w' ⟨ha, HBW⟩ hb_ hon hoff
              refine ⟨_, rfl, fun K hK => ?_⟩
              have e25 : a.tmps[25]? = some (.bool true) := by rw [ha]; exact putSel_on (e := (6, 25, .bool true)) 6 rfl rfl (hon 6 (by kernel_rfl)) rfl
              have e24 : a.tmps[24]? = some (.bool false) := by rw [ha]; exact putSel_on (e := (5, 24, .bool false)) 5 rfl rfl (hon 5 (by kernel_rfl)) rfl
              replace ha := Aside0.mk ha
              have HBW := Aside0.mk HBW
              refine value_ (w1 := w') (v := .bool true) (wanted_on rfl rfl rfl (e24.trans (by first | rfl | (simp [*]; done)))) rfl ?_ ?_
              · go_simp
                (try simp only [i64_w])
                try rfl
              refine hK.out _ _ ⟨(by rw [ha.out]; exact putSel_upk 7 hb_ rfl rfl rfl), HBW.out⟩
            refine steps_cons ?_ ?_
            · rintro b a w' ⟨ha, HBW⟩ hb_ hon hoff
              refine ⟨_, rfl, fun K hK => ?_⟩
              have e0 : a.tmps[0]? = some (.string s) := by rw [ha]; exact (putSel_off rfl).trans rfl
              have e26 : a.tmps[26]? = some (.bool true) := by rw [ha]; exact putSel_on (e := (7, 26, .bool true)) 7 rfl rfl (hon 7 (by kernel_rfl)) rfl
              replace ha := Aside0.mk ha
              have HBW := Aside0.mk HBW
              refine value_ (w1 := w') (v := .string s) (wanted_on rfl rfl rfl (e26.trans (by first | rfl | (simp [*]; done)))) rfl ?_ ?_
              · go_simp
                (try simp only [i64_w])
                try rfl
              refine hK.out _ _ ⟨(by rw [ha.out]; exact putSel_upk 8 hb_ rfl rfl rfl), HBW.out⟩
            refine steps_cons ?_ ?_
            · rintro b a w' ⟨ha, HBW⟩ hb_ hon hoff
              refine ⟨_, rfl, fun K hK => ?_⟩
              have e7 : a.tmps[7]? = some (.int .i64 (k : Int)) := by rw [ha]; exact (putSel_off rfl).trans rfl
              have e26 : a.tmps[26]? = some (.bool true) := by rw [ha]; exact putSel_on (e := (7, 26, .bool true)) 7 rfl rfl (hon 7 (by kernel_rfl)) rfl
              replace ha := Aside0.mk ha
              have HBW := Aside0.mk HBW
              refine value_ (w1 := w') (v := .int .i64 (k : Int)) (wanted_on rfl rfl rfl (e26.trans (by first | rfl | (simp [*]; done)))) rfl ?_ ?_
              · go_simp
                (try simp only [i64_w])
                try rfl
              refine hK.out _ _ ⟨(by rw [ha.out]; exact putSel_upk 9 hb_ rfl rfl rfl), HBW.out⟩
            refine steps_cons ?_ ?_
            · rintro b a w' ⟨ha, HBW⟩ hb_ hon hoff
              refine ⟨_, rfl, fun K hK => ?_⟩
              have e27 : a.tmps[27]? = some (.string s) := by rw [ha]; exact putSel_on (e := (8, 27, .string s)) 8 rfl rfl (hon 8 (by kernel_rfl)) rfl
              have e28 : a.tmps[28]? = some (.int .i64 (k : Int)) := by rw [ha]; exact putSel_on (e := (9, 28, .int .i64 (k : Int))) 9 rfl rfl (hon 9 (by kernel_rfl)) rfl
              have e26 : a.tmps[26]? = some (.bool true) := by rw [ha]; exact putSel_on (e := (7, 26, .bool true)) 7 rfl rfl (hon 7 (by kernel_rfl)) rfl
              replace ha := Aside0.mk ha
              have HBW := Aside0.mk HBW
              refine value_ (w1 := w') (v := .string (s.extract k s.size)) (wanted_on rfl rfl rfl (e26.trans (by first | rfl | (simp [*]; done)))) rfl ?_ ?_
              · go_simp
                (try simp only [i64_w])
                try rfl
              refine hK.out _ _ ⟨(by rw [ha.out]; exact putSel_upk 10 hb_ rfl rfl rfl), HBW.out⟩
            refine steps_cons ?_ ?_
            · rintro b a w' ⟨ha, HBW⟩ hb_ hon hoff
              refine ⟨_, rfl, fun K hK => ?_⟩
              have e29 : a.tmps[29]? = some (.string (s.extract k s.size)) := by rw [ha]; exact putSel_on (e := (10, 29, .string (s.extract k s.size))) 10 rfl rfl (hon 10 (by kernel_rfl)) rfl
              have e26 : a.tmps[26]? = some (.bool true) := by rw [ha]; exact putSel_on (e := (7, 26, .bool true)) 7 rfl rfl (hon 7 (by kernel_rfl)) rfl
              replace ha := Aside0.mk ha
              have HBW := Aside0.mk HBW
              refine goes_ Try.func65 (by kernel_rfl) rfl #[.string (s.extract k s.size)] (wanted_on rfl rfl rfl (e26.trans (by first | rfl | (simp [*]; done)))) rfl rfl (by first | (simp only [List.map_toArray, List.map_cons, List.map_nil, Act.eval, Array.getD_eq_getD_getElem?, Option.getD_some, e29, e26]; done) | (simp only [List.map_toArray, List.map_cons, List.map_nil, Act.eval, Array.getD_eq_getD_getElem?, Option.getD_some, e29, e26]; rfl)) ?_
              refine (pctTriplet_any _ w').mono ?_
              rintro e w1 ⟨rfl, rfl⟩
              have hb := Below.refl w'.heap.size w'
              rw [HE.out]
              refine ⟨_, rfl, ?_⟩
              refine hK.out _ _ ⟨(by rw [ha.out]; exact putSel_upk 11 hb_ rfl rfl rfl), below_step HBW.out hb⟩
            refine steps_cons ?_ ?_
            · rintro b a w' ⟨ha, HBW⟩ hb_ hon hoff
              refine ⟨_, rfl, fun K hK => ?_⟩
              have e26 : a.tmps[26]? = some (.bool true) := by rw [ha]; exact putSel_on (e := (7, 26, .bool true)) 7 rfl rfl (hon 7 (by kernel_rfl)) rfl
              have e30 : a.tmps[30]? = some (.bool true) := by rw [ha]; exact putSel_on (e := (11, 30, .bool true)) 11 rfl rfl (hon 11 (by kernel_rfl)) rfl
              have e24 : a.tmps[24]? = some (.bool false) := by rw [ha]; exact putSel_on (e := (5, 24, .bool false)) 5 rfl rfl (hon 5 (by kernel_rfl)) rfl
              replace ha := Aside0.mk ha
              have HBW := Aside0.mk HBW
              refine value_ (w1 := w') (v := .bool true) (wanted_on rfl rfl rfl (e24.trans (by first | rfl | (simp [*]; done)))) rfl ?_ ?_
              · go_simp
                (try simp only [i64_w])
                try rfl
              refine hK.out _ _ ⟨(by rw [ha.out]; exact putSel_upk 12 hb_ rfl rfl rfl), HBW.out⟩
            refine steps_cons ?_ ?_
            · rintro b a w' ⟨ha, HBW⟩ hb_ hon hoff
              refine ⟨_, rfl, fun K hK => ?_⟩
              have e24 : a.tmps[24]? = some (.bool false) := by rw [ha]; exact putSel_on (e := (5, 24, .bool false)) 5 rfl rfl (hon 5 (by kernel_rfl)) rfl
              have e31 : a.tmps[31]? = some (.bool true) := by rw [ha]; exact putSel_on (e := (12, 31, .bool true)) 12 rfl rfl (hon 12 (by kernel_rfl)) rfl
              replace ha := Aside0.mk ha
              have HBW := Aside0.mk HBW
              refine value_ (w1 := w') (v := .bool true) (by rfl) rfl ?_ ?_
              · go_simp
                (try simp only [i64_w])
                try rfl
              refine hK.out _ _ ⟨(by rw [ha.out]; exact putSel_upk 13 hb_ rfl rfl rfl), HBW.out⟩
            exact steps_nil
          rintro b a w5 hall ⟨ha, HBW⟩
          have hb0_ := hall 0 (by kernel_rfl)
          have hb1_ := hall 1 (by kernel_rfl)
          have hb2_ := hall 2 (by kernel_rfl)
          have hb3_ := hall 3 (by kernel_rfl)
          have hb4_ := hall 4 (by kernel_rfl)
          have hb5_ := hall 5 (by kernel_rfl)
          have hb6_ := hall 6 (by kernel_rfl)
          have hb7_ := hall 7 (by kernel_rfl)
          have hb8_ := hall 8 (by kernel_rfl)
          have hb9_ := hall 9 (by kernel_rfl)
          have hb10_ := hall 10 (by kernel_rfl)
          have hb11_ := hall 11 (by kernel_rfl)
          have hb12_ := hall 12 (by kernel_rfl)
          have hb13_ := hall 13 (by kernel_rfl)
          subst ha
          simp only [putSel, hb0_, hb1_, hb2_, hb3_, hb4_, hb5_, hb6_, hb7_, hb8_, hb9_, hb10_, hb11_, hb12_, hb13_, if_true, Act.put, List.setIfInBounds_toArray, List.set_cons_zero, List.set_cons_succ]
          have HBW := Aside0.mk HBW
          clear hall hb0_ hb1_ hb2_ hb3_ hb4_ hb5_ hb6_ hb7_ hb8_ hb9_ hb10_ hb11_ hb12_ hb13_
          have HB2 := Aside0.mk (below_step (below_drew1 HB.out) HBW.out)
          have HSET2 := Aside0.mk (blk_below (blk_drew HSET.out) HBW.out)
          have HBL2 := Aside0.mk (builder_below (w := wr.drew) HBL.out HBW.out)
          have HLT := Aside0.mk (builder_lt HBL2.out)
          have hw5 := HBW.out.size
          clear HBW HSET HBL
          go_wp2_with fail
          refine (writeByte_any _ _ _ _ _ HBL2.out (by have := encCells_len true s k; omega) (by have := HLT.out; omega)).mono ?_
          rintro e w6 ⟨rfl, hat, hb6⟩
          have HE := Aside0.mk (encTo_stay hlt HE2.out)
          have HAT := Aside0.mk hat
          have HSET3 := Aside0.mk ((hb6.block _ HLT5.out).trans HSET2.out)
          have HB3 := Aside0.mk (HB2.out.trans (hb6.mono (by omega)))
          clear hat hb6 HB HB2 HSET2 HBL2
          go_wp2_with fail
          go_roundw
          case rel => exact ⟨k + 1, by omega, by go_num, HSET3.out, .inr (by rw [HE.out]; exact HAT.out), HB3.out⟩
          case measure => simp [intOf]; omega
        | false =>
          rw [htr] at hext
          have HE := Aside0.mk hext
          have HE2 := Aside0.mk (show (true && tri s k) = false by rw [htr]; rfl)
          clear hext htr
          go_wp2_with fail
          refine start_ (n := 14) (S := fun w' => True) (ds := []) #[false, false, false, false, false, false, false, false, false, false, false, false, false, false] (by kernel_rfl) rfl rfl trivial (fun hHeld => ?_)
          refine with_tabW encode.tab8 encode.bits8 (fun HT_ HW_ => ?_)
          refine inv_at [0, 1, 2, 3, 4, 5, 6, 7, 8, 9, 10, 11, 12, 13] (fun a0_ b a w' => a = putSel a0_ b [(0, 19, .agg #[.int .u64 (staySet true).a, .int .u64 (staySet true).b, .int .u64 (staySet true).c, .int .u64 (staySet true).d]), (1, 20, .string s), (2, 21, .int .i64 (k : Int)), (3, 22, .int .u8 (s[k].toNat : Int)), (4, 23, .bool false), (5, 24, .bool false), (6, 25, .bool true), (7, 26, .bool true), (8, 27, .string s), (9, 28, .int .i64 (k : Int)), (10, 29, .string (s.extract k s.size)), (11, 30, .bool false), (12, 31, .bool false), (13, 32, .bool false)] ∧ Below wr.drew.heap.size wr.drew w') HT_.out HW_.out (by kernel_rfl) (by kernel_rfl) ?_ ?_ ?_
          · exact ⟨by simp only [putSel, Bool.false_eq_true, if_false], Below.refl _ _⟩
          · clear hHeld HT_ HW_
            refine steps_cons ?_ ?_
            · rintro b a w' ⟨ha, HBW⟩ hb_ hon hoff
              refine ⟨_, rfl, fun K hK => ?_⟩
              have e5 : a.tmps[5]? = some (.pointer (some ⟨w1.heap.size, 0, none⟩)) := by rw [ha]; exact (putSel_off rfl).trans rfl
              replace ha := Aside0.mk ha
              have HBW := Aside0.mk HBW
              have hc_ := blk_below (blk_drew HSET.out) HBW.out
              have hc0_ : w'.cell? ⟨w1.heap.size, 0, none⟩ = some (.int .u64 (staySet true).a) := (blk_cell hc_ 0).trans rfl
              have hc1_ : w'.cell? ⟨w1.heap.size, 1, none⟩ = some (.int .u64 (staySet true).b) := (blk_cell hc_ 1).trans rfl
              have hc2_ : w'.cell? ⟨w1.heap.size, 2, none⟩ = some (.int .u64 (staySet true).c) := (blk_cell hc_ 2).trans rfl
              have hc3_ : w'.cell? ⟨w1.heap.size, 3, none⟩ = some (.int .u64 (staySet true).d) := (blk_cell hc_ 3).trans rfl
              refine value_ (w1 := w') (v := .agg #[.int .u64 (staySet true).a, .int .u64 (staySet true).b, .int .u64 (staySet true).c, .int .u64 (staySet true).d]) (by rfl) rfl ?_ ?_
              · go_simp
                (try simp only [i64_w])
                try rfl
              refine hK.out _ _ ⟨(by rw [ha.out]; exact putSel_upk 0 hb_ rfl rfl rfl), HBW.out⟩
            refine steps_cons ?_ ?_
            · rintro b a w' ⟨ha, HBW⟩ hb_ hon hoff
              refine ⟨_, rfl, fun K hK => ?_⟩
              have e0 : a.tmps[0]? = some (.string s) := by rw [ha]; exact (putSel_off rfl).trans rfl
              replace ha := Aside0.mk ha
              have HBW := Aside0.mk HBW
              refine value_ (w1 := w') (v := .string s) (by rfl) rfl ?_ ?_
              · go_simp
                (try simp only [i64_w])
                try rfl
              refine hK.out _ _ ⟨(by rw [ha.out]; exact putSel_upk 1 hb_ rfl rfl rfl), HBW.out⟩
            refine steps_cons ?_ ?_
            · rintro b a w' ⟨ha, HBW⟩ hb_ hon hoff
              refine ⟨_, rfl, fun K hK => ?_⟩
              have e7 : a.tmps[7]? = some (.int .i64 (k : Int)) := by rw [ha]; exact (putSel_off rfl).trans rfl
              replace ha := Aside0.mk ha
              have HBW := Aside0.mk HBW
              refine value_ (w1 := w') (v := .int .i64 (k : Int)) (by rfl) rfl ?_ ?_
              · go_simp
                (try simp only [i64_w])
                try rfl
              refine hK.out _ _ ⟨(by rw [ha.out]; exact putSel_upk 2 hb_ rfl rfl rfl), HBW.out⟩
            refine steps_cons ?_ ?_
            · rintro b a w' ⟨ha, HBW⟩ hb_ hon hoff
              refine ⟨_, rfl, fun K hK => ?_⟩
              have e20 : a.tmps[20]? = some (.string s) := by rw [ha]; exact putSel_on (e := (1, 20, .string s)) 1 rfl rfl (hon 1 (by kernel_rfl)) rfl
              have e21 : a.tmps[21]? = some (.int .i64 (k : Int)) := by rw [ha]; exact putSel_on (e := (2, 21, .int .i64 (k : Int))) 2 rfl rfl (hon 2 (by kernel_rfl)) rfl
              replace ha := Aside0.mk ha
              have HBW := Aside0.mk HBW
              refine value_ (w1 := w') (v := .int .u8 (s[k].toNat : Int)) (by rfl) rfl ?_ ?_
              · go_simp
                (try simp only [i64_w])
                try rfl
              refine hK.out _ _ ⟨(by rw [ha.out]; exact putSel_upk 3 hb_ rfl rfl rfl), HBW.out⟩
            refine steps_cons ?_ ?_
            · rintro b a w' ⟨ha, HBW⟩ hb_ hon hoff
              refine ⟨_, rfl, fun K hK => ?_⟩
              have e19 : a.tmps[19]? = some (.agg #[.int .u64 (staySet true).a, .int .u64 (staySet true).b, .int .u64 (staySet true).c, .int .u64 (staySet true).d]) := by rw [ha]; exact putSel_on (e := (0, 19, .agg #[.int .u64 (staySet true).a, .int .u64 (staySet true).b, .int .u64 (staySet true).c, .int .u64 (staySet true).d])) 0 rfl rfl (hon 0 (by kernel_rfl)) rfl
              have e22 : a.tmps[22]? = some (.int .u8 (s[k].toNat : Int)) := by rw [ha]; exact putSel_on (e := (3, 22, .int .u8 (s[k].toNat : Int))) 3 rfl rfl (hon 3 (by kernel_rfl)) rfl
              replace ha := Aside0.mk ha
              have HBW := Aside0.mk HBW
              refine goes_ Try.func64 (by kernel_rfl) rfl #[.agg #[.int .u64 (staySet true).a, .int .u64 (staySet true).b, .int .u64 (staySet true).c, .int .u64 (staySet true).d], .int .u8 (s[k].toNat : Int)] (by rfl) rfl rfl (by first | (simp only [List.map_toArray, List.map_cons, List.map_nil, Act.eval, Array.getD_eq_getD_getElem?, Option.getD_some, e19, e22]; done) | (simp only [List.map_toArray, List.map_cons, List.map_nil, Act.eval, Array.getD_eq_getD_getElem?, Option.getD_some, e19, e22]; rfl)) ?_
              refine (has_any (staySet true) _ w' hc.1 hc.2).mono ?_
              rintro e w1 ⟨rfl, hb⟩
              rw [HX.out]
              refine ⟨_, rfl, ?_⟩
              refine hK.out _ _ ⟨(by rw [ha.out]; exact putSel_upk 4 hb_ rfl rfl rfl), below_step HBW.out hb⟩
            refine steps_cons ?_ ?_
            · rintro b a w' ⟨ha, HBW⟩ hb_ hon hoff
              refine ⟨_, rfl, fun K hK => ?_⟩
              have e23 : a.tmps[23]? = some (.bool false) := by rw [ha]; exact putSel_on (e := (4, 23, .bool false)) 4 rfl rfl (hon 4 (by kernel_rfl)) rfl
              replace ha := Aside0.mk ha
              have HBW := Aside0.mk HBW
              refine value_ (w1 := w') (v := .bool false) (by rfl) rfl ?_ ?_
              · go_simp
                (try simp only [i64_w])
                try rfl
              refine hK.out _ _ ⟨(by rw [ha.out]; exact putSel_upk 5 hb_ rfl rfl rfl), HBW.out⟩
            refine steps_cons ?_ ?_
            · rintro b a w' ⟨ha, HBW⟩ hb_ hon hoff
              refine ⟨_, rfl, fun K hK => ?_⟩
              have e1 : a.tmps[1]? = some (.bool true) := by rw [ha]; exact (putSel_off rfl).trans rfl
              have e24 : a.tmps[24]? = some (.bool false) := by rw [ha]; exact putSel_on (e := (5, 24, .bool false)) 5 rfl rfl (hon 5 (by kernel_rfl)) rfl
              replace ha := Aside0.mk ha
              have HBW := Aside0.mk HBW
              refine value_ (w1 := w') (v := .bool true) (wanted_on rfl rfl rfl (e24.trans (by first | rfl | (simp [*]; done)))) rfl ?_ ?_
              · go_simp
                (try simp only [i64_w])
                try rfl
              refine hK.out _ _ ⟨(by rw [ha.out]; exact putSel_upk 6 hb_ rfl rfl rfl), HBW.out⟩
            refine steps_cons ?_ ?_
            · rintro b a w' ⟨ha, HBW⟩ hb_ hon hoff
              refine ⟨_, rfl, fun K hK => ?_⟩
              have e25 : a.tmps[25]? = some (.bool true) := by rw [ha]; exact putSel_on (e := (6, 25, .bool true)) 6 rfl rfl (hon 6 (by kernel_rfl)) rfl
              have e24 : a.tmps[24]? = some (.bool false) := by rw [ha]; exact putSel_on (e := (5, 24, .bool false)) 5 rfl rfl (hon 5 (by kernel_rfl)) rfl
              replace ha := Aside0.mk ha
              have HBW := Aside0.mk HBW
              refine value_ (w1 := w') (v := .bool true) (wanted_on rfl rfl rfl (e24.trans (by first | rfl | (simp [*]; done)))) rfl ?_ ?_
              · go_simp
                (try simp only [i64_w])
                try rfl
              refine hK.out _ _ ⟨(by rw [ha.out]; exact putSel_upk 7 hb_ rfl rfl rfl), HBW.out⟩
            refine steps_cons ?_ ?_
            · rintro b a w' ⟨ha, HBW⟩ hb_ hon hoff
              refine ⟨_, rfl, fun K hK => ?_⟩
              have e0 : a.tmps[0]? = some (.string s) := by rw [ha]; exact (putSel_off rfl).trans rfl
              have e26 : a.tmps[26]? = some (.bool true) := by rw [ha]; exact putSel_on (e := (7, 26, .bool true)) 7 rfl rfl (hon 7 (by kernel_rfl)) rfl
              replace ha := Aside0.mk ha
              have HBW := Aside0.mk HBW
              refine value_ (w1 := w') (v := .string s) (wanted_on rfl rfl rfl (e26.trans (by first | rfl | (simp [*]; done)))) rfl ?_ ?_
              · go_simp
                (try simp only [i64_w])
                try rfl
              refine hK.out _ _ ⟨(by rw [ha.out]; exact putSel_upk 8 hb_ rfl rfl rfl), HBW.out⟩
            refine steps_cons ?_ ?_
            · rintro b a w' ⟨ha, HBW⟩ hb_ hon hoff
              refine ⟨_, rfl, fun K hK => ?_⟩
              have e7 : a.tmps[7]? = some (.int .i64 (k : Int)) := by rw [ha]; exact (putSel_off rfl).trans rfl
              have e26 : a.tmps[26]? = some (.bool true) := by rw [ha]; exact putSel_on (e := (7, 26, .bool true)) 7 rfl rfl (hon 7 (by kernel_rfl)) rfl
              replace ha := Aside0.mk ha
              have HBW := Aside0.mk HBW
              refine value_ (w1 := w') (v := .int .i64 (k : Int)) (wanted_on rfl rfl rfl (e26.trans (by first | rfl | (simp [*]; done)))) rfl ?_ ?_
              · go_simp
                (try simp only [i64_w])
                try rfl
              refine hK.out _ _ ⟨(by rw [ha.out]; exact putSel_upk 9 hb_ rfl rfl rfl), HBW.out⟩
            refine steps_cons ?_ ?_
            · rintro b a w' ⟨ha, HBW⟩ hb_ hon hoff
              refine ⟨_, rfl, fun K hK => ?_⟩
              have e27 : a.tmps[27]? = some (.string s) := by rw [ha]; exact putSel_on (e := (8, 27, .string s)) 8 rfl rfl (hon 8 (by kernel_rfl)) rfl
              have e28 : a.tmps[28]? = some (.int .i64 (k : Int)) := by rw [ha]; exact putSel_on (e := (9, 28, .int .i64 (k : Int))) 9 rfl rfl (hon 9 (by kernel_rfl)) rfl
              have e26 : a.tmps[26]? = some (.bool true) := by rw [ha]; exact putSel_on (e := (7, 26, .bool true)) 7 rfl rfl (hon 7 (by kernel_rfl)) rfl
              replace ha := Aside0.mk ha
              have HBW := Aside0.mk HBW
              refine value_ (w1 := w') (v := .string (s.extract k s.size)) (wanted_on rfl rfl rfl (e26.trans (by first | rfl | (simp [*]; done)))) rfl ?_ ?_
              · go_simp
                (try simp only [i64_w])
                try rfl
              refine hK.out _ _ ⟨(by rw [ha.out]; exact putSel_upk 10 hb_ rfl rfl rfl), HBW.out⟩
            refine steps_cons ?_ ?_
            · rintro b a w' ⟨ha, HBW⟩ hb_ hon hoff
              refine ⟨_, rfl, fun K hK => ?_⟩
              have e29 : a.tmps[29]? = some (.string (s.extract k s.size)) := by rw [ha]; exact putSel_on (e := (10, 29, .string (s.extract k s.size))) 10 rfl rfl (hon 10 (by kernel_rfl)) rfl
              have e26 : a.tmps[26]? = some (.bool true) := by rw [ha]; exact putSel_on (e := (7, 26, .bool true)) 7 rfl rfl (hon 7 (by kernel_rfl)) rfl
              replace ha := Aside0.mk ha
              have HBW := Aside0.mk HBW
              refine goes_ Try.func65 (by kernel_rfl) rfl #[.string (s.extract k s.size)] (wanted_on rfl rfl rfl (e26.trans (by first | rfl | (simp [*]; done)))) rfl rfl (by first | (simp only [List.map_toArray, List.map_cons, List.map_nil, Act.eval, Array.getD_eq_getD_getElem?, Option.getD_some, e29, e26]; done) | (simp only [List.map_toArray, List.map_cons, List.map_nil, Act.eval, Array.getD_eq_getD_getElem?, Option.getD_some, e29, e26]; rfl)) ?_
              refine (pctTriplet_any _ w').mono ?_
              rintro e w1 ⟨rfl, rfl⟩
              have hb := Below.refl w'.heap.size w'
              rw [HE.out]
              refine ⟨_, rfl, ?_⟩
              refine hK.out _ _ ⟨(by rw [ha.out]; exact putSel_upk 11 hb_ rfl rfl rfl), below_step HBW.out hb⟩
            refine steps_cons ?_ ?_
            · rintro b a w' ⟨ha, HBW⟩ hb_ hon hoff
              refine ⟨_, rfl, fun K hK => ?_⟩
              have e26 : a.tmps[26]? = some (.bool true) := by rw [ha]; exact putSel_on (e := (7, 26, .bool true)) 7 rfl rfl (hon 7 (by kernel_rfl)) rfl
              have e30 : a.tmps[30]? = some (.bool false) := by rw [ha]; exact putSel_on (e := (11, 30, .bool false)) 11 rfl rfl (hon 11 (by kernel_rfl)) rfl
              have e24 : a.tmps[24]? = some (.bool false) := by rw [ha]; exact putSel_on (e := (5, 24, .bool false)) 5 rfl rfl (hon 5 (by kernel_rfl)) rfl
              replace ha := Aside0.mk ha
              have HBW := Aside0.mk HBW
              refine value_ (w1 := w') (v := .bool false) (wanted_on rfl rfl rfl (e24.trans (by first | rfl | (simp [*]; done)))) rfl ?_ ?_
              · go_simp
                (try simp only [i64_w])
                try rfl
              refine hK.out _ _ ⟨(by rw [ha.out]; exact putSel_upk 12 hb_ rfl rfl rfl), HBW.out⟩
            refine steps_cons ?_ ?_
            · rintro b a w' ⟨ha, HBW⟩ hb_ hon hoff
              refine ⟨_, rfl, fun K hK => ?_⟩
              have e24 : a.tmps[24]? = some (.bool false) := by rw [ha]; exact putSel_on (e := (5, 24, .bool false)) 5 rfl rfl (hon 5 (by kernel_rfl)) rfl
              have e31 : a.tmps[31]? = some (.bool false) := by rw [ha]; exact putSel_on (e := (12, 31, .bool false)) 12 rfl rfl (hon 12 (by kernel_rfl)) rfl
              replace ha := Aside0.mk ha
              have HBW := Aside0.mk HBW
              refine value_ (w1 := w') (v := .bool false) (by rfl) rfl ?_ ?_
              · go_simp
                (try simp only [i64_w])
                try rfl
              refine hK.out _ _ ⟨(by rw [ha.out]; exact putSel_upk 13 hb_ rfl rfl rfl), HBW.out⟩
            exact steps_nil
          rintro b a w5 hall ⟨ha, HBW⟩
          have hb0_ := hall 0 (by kernel_rfl)
          have hb1_ := hall 1 (by kernel_rfl)
          have hb2_ := hall 2 (by kernel_rfl)
          have hb3_ := hall 3 (by kernel_rfl)
          have hb4_ := hall 4 (by kernel_rfl)
          have hb5_ := hall 5 (by kernel_rfl)
          have hb6_ := hall 6 (by kernel_rfl)
          have hb7_ := hall 7 (by kernel_rfl)
          have hb8_ := hall 8 (by kernel_rfl)
          have hb9_ := hall 9 (by kernel_rfl)
          have hb10_ := hall 10 (by kernel_rfl)
          have hb11_ := hall 11 (by kernel_rfl)
          have hb12_ := hall 12 (by kernel_rfl)
          have hb13_ := hall 13 (by kernel_rfl)
          subst ha
          simp only [putSel, hb0_, hb1_, hb2_, hb3_, hb4_, hb5_, hb6_, hb7_, hb8_, hb9_, hb10_, hb11_, hb12_, hb13_, if_true, Act.put, List.setIfInBounds_toArray, List.set_cons_zero, List.set_cons_succ]
          have HBW := Aside0.mk HBW
          clear hall hb0_ hb1_ hb2_ hb3_ hb4_ hb5_ hb6_ hb7_ hb8_ hb9_ hb10_ hb11_ hb12_ hb13_
          have HB2 := Aside0.mk (below_step (below_drew1 HB.out) HBW.out)
          have HSET2 := Aside0.mk (blk_below (blk_drew HSET.out) HBW.out)
          have HBL2 := Aside0.mk (builder_below (w := wr.drew) HBL.out HBW.out)
          have hw5 := HBW.out.size
          clear HBW HSET HBL
          go_wp2_with fail
          refine (pctOne_all _ _ hc.1 hc.2).mono ?_
          rintro e w6 ⟨rfl, hb6⟩
          have HB3 := Aside0.mk (below_step HB2.out hb6)
          have HSET3 := Aside0.mk (blk_below HSET2.out hb6)
          have HBL3 := Aside0.mk (builder_below HBL2.out hb6)
          have HLT := Aside0.mk (builder_lt HBL3.out)
          clear hb6 HB HB2 HSET2 HBL2
          go_wp2_with fail
          refine (writeString_any _ _ _ _ _ HBL3.out (by have := encCells_len true s k; have : (tripS (s[k].toNat : Int)).size = 3 := rfl; omega) (by have := HLT.out; omega)).mono ?_
          rintro e w7 ⟨rfl, hat, hb7⟩
          have HE := Aside0.mk (encTo_trip (keep := true) hlt HX.out HE2.out)
          have HAT := Aside0.mk hat
          have HSET4 := Aside0.mk ((hb7.block _ HLT5.out).trans HSET3.out)
          have HB4 := Aside0.mk (HB3.out.trans (hb7.mono (by omega)))
          clear hat hb7 HB3 HSET3 HBL3
          go_wp2_with fail
          go_roundw
          case rel => exact ⟨k + 1, by omega, by go_num, HSET4.out, .inr (by rw [HE.out]; exact HAT.out), HB4.out⟩
          case measure => simp [intOf]; omega
    · obtain rfl : k = s.size := by omega
      have HLT := Aside0.mk (builder_lt HBL.out)
      go_wp2_with fail
      refine (Try.Builder_String_any _ _ _ _ HBL.out (by have := HLT.out; omega)).mono ?_
      rintro e w6 ⟨rfl, hb6⟩
      have HB6 := Aside0.mk (HB.out.trans (hb6.mono (by omega)))
      clear hb6 HB
      go_wp2_with fail
      go_ret
      exact ⟨rfl, HB6.out⟩
end Go.Proofs.Ytbjeegkmafbejaa.X
end
section
namespace Go.Proofs.Ytbjeegkmafbejaa.X
set_option linter.unusedSimpArgs false
set_option linter.unusedVariables false
open Go.RowKit Go.Proofs.YtbjeegkmafbejaaW.PrintWords Go.ChangeMaps Go.Maps
def isOper (c : Int) : Bool := c == 0 || (c == 43 || c == 35 || c == 46 || c == 47 || c == 59 || c == 63 || c == 38)
def ruleFirst (c : Int) : ByteArray := if c = 35 then ⟨#[35]⟩ else if c = 46 then ⟨#[46]⟩ else if c = 47 then ⟨#[47]⟩ else if c = 59 then ⟨#[59]⟩ else if c = 63 then ⟨#[63]⟩ else if c = 38 then ⟨#[38]⟩ else ⟨#[]⟩
def ruleSep (c : Int) : ByteArray := if c = 0 then ⟨#[44]⟩ else if c = 43 then ⟨#[44]⟩ else if c = 35 then ⟨#[44]⟩ else if c = 46 then ⟨#[46]⟩ else if c = 47 then ⟨#[47]⟩ else if c = 59 then ⟨#[59]⟩ else if c = 63 then ⟨#[38]⟩ else if c = 38 then ⟨#[38]⟩ else ⟨#[]⟩
def ruleNamed (c : Int) : Bool := c == 59 || c == 63 || c == 38
def ruleEmpty (c : Int) : ByteArray := if c = 63 then ⟨#[61]⟩ else if c = 38 then ⟨#[61]⟩ else ⟨#[]⟩
def ruleKeep (c : Int) : Bool := c == 43 || c == 35
def ruleV (a b : ByteArray) (c : Bool) (d : ByteArray) (e : Bool) : Value := .agg #[.string a, .string b, .bool c, .string d, .bool e]
def ruleCells (c : Int) : Array Value := #[.string (ruleFirst c), .string (ruleSep c), .bool (ruleNamed c), .string (ruleEmpty c), .bool (ruleKeep c)]
def ruleRL : List Value → Option (DataW Unit × List MemPlace)
  | [.string a, .string b, .bool c, .string d, .bool e] => some (.agg [.lit (.string a.data.toList), .lit (.string b.data.toList), .lit (.bool c), .lit (.string d.data.toList), .lit (.bool e)], [])
  | _ => none
def ruleR : Value → Option (DataW Unit × List MemPlace)
  | .agg cs => ruleRL cs.toList
  | _ => none
def ruleD (a b : List UInt8) (c : Bool) (d : List UInt8) (e : Bool) : DataW Unit := .agg [.lit (.string a), .lit (.string b), .lit (.bool c), .lit (.string d), .lit (.bool e)]
theorem ruleR_mk (a b : ByteArray) (c : Bool) (d : ByteArray) (e : Bool) : ruleR (ruleV a b c d e) = some (ruleD a.data.toList b.data.toList c d.data.toList e, []) := rfl
theorem ruleR_inv {v : Value} {a b : ByteArray} {c : Bool} {d : ByteArray} {e : Bool} {ps : List MemPlace} (h : ruleR v = some (ruleD a.data.toList b.data.toList c d.data.toList e, ps)) : v = ruleV a b c d e := by
  cases v with
  | agg cs =>
    have h : ruleRL cs.toList = _ := h
    unfold ruleRL at h
    split at h
    · rename_i a' b' c' d' e' hl
      simp only [ruleD, Option.some.injEq, Prod.mk.injEq, DataW.agg.injEq, List.cons.injEq, DataW.lit.injEq, Lit.string.injEq, Lit.bool.injEq, and_true] at h
      obtain ⟨⟨h1, h2, h3, h4, h5⟩, _⟩ := h
      have e1 : a' = a := by cases a'; cases a; simp_all [Array.toList_inj]
      have e2 : b' = b := by cases b'; cases b; simp_all [Array.toList_inj]
      have e4 : d' = d := by cases d'; cases d; simp_all [Array.toList_inj]
      subst e1 e2 h3 e4 h5
      have : cs = #[.string a', .string b', .bool c', .string d', .bool e'] := by cases cs; simp at hl; rw [hl]
      rw [this]; rfl
    · cases h
  | _ => cases h
def rulesD0 : DataW Unit := ((((((((DataW.map []).put (.int .u8 0) (ruleD [] [44] false [] false)).put (.int .u8 43) (ruleD [] [44] false [] true)).put (.int .u8 35) (ruleD [35] [44] false [] true)).put (.int .u8 46) (ruleD [46] [46] false [] false)).put (.int .u8 47) (ruleD [47] [47] false [] false)).put (.int .u8 59) (ruleD [59] [59] true [] false)).put (.int .u8 63) (ruleD [63] [38] true [61] false)).put (.int .u8 38) (ruleD [38] [38] true [61] false)
def RulesMap (w : World) (b : Nat) : Prop := w.ownsMap Try.prog 5 ruleR b 8 rulesD0
theorem RulesMap.grown {w w' : World} {b : Nat} {row : Option Nat} (h : RulesMap w b) (hg : w.grownBy w' row) (hne : some b ≠ row) : RulesMap w' b := h.kept hg hne
theorem RulesMap.below {w w' : World} {b : Nat} (h : RulesMap w b) (hb : Below w.heap.size w w') : RulesMap w' b := h.grown (grown_of_below hb none) (by simp)
theorem u8_wf {op : Int} (h0 : 0 ≤ op) (h1 : op ≤ 255) : (Lit.int .u8 op).wf = true := by
  have e1 : IntKind.u8.min = 0 := by decide
  have e2 : IntKind.u8.max = 255 := by decide
  show (decide (IntKind.u8.min ≤ op) && decide (op ≤ IntKind.u8.max)) = true
  rw [e1, e2, Bool.and_eq_true]
  exact ⟨decide_eq_true h0, decide_eq_true h1⟩
set_option maxRecDepth 100000 in
theorem put_step {w : World} {b n : Nat} {D : DataW Unit} (h : w.ownsMap Try.prog 5 ruleR b n D) (hn : n < 100) (op : Int) (h0 : 0 ≤ op) (h1 : op ≤ 255) (a s : ByteArray) (c : Bool) (d : ByteArray) (e : Bool) :
    ∃ w', (Instr.mapUpdate 63 (.map (some b)) (.int .u8 op) (ruleV a s c d e)).run Try.prog w = .ok () w' ∧ w'.ownsMap Try.prog 5 ruleR b (n + 1) (D.put (.int .u8 op) (ruleD a.data.toList s.data.toList c d.data.toList e)) ∧ w.grownBy w' (some b) :=
  h.update (int_keyed Try.underlying5) Try.underlying63 (by unfold maxLen; omega) (keyOf_int_mk Try.underlying5 (u8_wf h0 h1)) (ruleR_mk a s c d e)
set_option maxHeartbeats 2000000 in
set_option maxRecDepth 100000 in
theorem rules_any (w : World) : Calls Try.prog 38 #[] w fun e w' => e = .returned (.map (some w.heap.size)) ∧ RulesMap w' w.heap.size ∧ Below w.heap.size w w' := by
  have hmm := @run_makeMap Try.prog
  have h0 := World.ownsMap_made (H := Unit) w Try.prog 5 ruleR
  obtain ⟨w1, r1, h1, g1⟩ := put_step h0 (by omega) 0 (by omega) (by omega) ⟨#[]⟩ ⟨#[44]⟩ false ⟨#[]⟩ false
  obtain ⟨w2, r2, h2, g2⟩ := put_step h1 (by omega) 43 (by omega) (by omega) ⟨#[]⟩ ⟨#[44]⟩ false ⟨#[]⟩ true
  obtain ⟨w3, r3, h3, g3⟩ := put_step h2 (by omega) 35 (by omega) (by omega) ⟨#[35]⟩ ⟨#[44]⟩ false ⟨#[]⟩ true
  obtain ⟨w4, r4, h4, g4⟩ := put_step h3 (by omega) 46 (by omega) (by omega) ⟨#[46]⟩ ⟨#[46]⟩ false ⟨#[]⟩ false
  obtain ⟨w5, r5, h5, g5⟩ := put_step h4 (by omega) 47 (by omega) (by omega) ⟨#[47]⟩ ⟨#[47]⟩ false ⟨#[]⟩ false
  obtain ⟨w6, r6, h6, g6⟩ := put_step h5 (by omega) 59 (by omega) (by omega) ⟨#[59]⟩ ⟨#[59]⟩ true ⟨#[]⟩ false
  obtain ⟨w7, r7, h7, g7⟩ := put_step h6 (by omega) 63 (by omega) (by omega) ⟨#[63]⟩ ⟨#[38]⟩ true ⟨#[61]⟩ false
  obtain ⟨w8, r8, h8, g8⟩ := put_step h7 (by omega) 38 (by omega) (by omega) ⟨#[38]⟩ ⟨#[38]⟩ true ⟨#[61]⟩ false
  have HR := Aside0.mk (show RulesMap w8 w.heap.size from h8)
  have hh : ∀ k, some w.heap.size = some k → w.heap.size ≤ k := fun k e => by cases e; exact Nat.le_refl _
  have b0 := X.below_new1 w (.map #[] 0)
  have b1 := b0.grown g1 b0.size hh
  have b2 := b1.grown g2 b1.size hh
  have b3 := b2.grown g3 b2.size hh
  have b4 := b3.grown g4 b3.size hh
  have b5 := b4.grown g5 b4.size hh
  have b6 := b5.grown g6 b5.size hh
  have b7 := b6.grown g7 b6.size hh
  have HB := Aside0.mk (b7.grown g8 b7.size hh)
  clear h0 h1 h2 h3 h4 h5 h6 h7 h8 g1 g2 g3 g4 g5 g6 g7 g8 hh b0 b1 b2 b3 b4 b5 b6 b7
  unfold ruleV at r1 r2 r3 r4 r5 r6 r7 r8
  go_enter Try.func38, Try.ntmps38
  go_wp2_with fail
  go_ret
  exact ⟨rfl, HR.out, HB.out⟩
theorem opIdx (c : Int) (h0 : 0 ≤ c) (h1 : c ≤ 255) (hz : (c == 0) = false) : decide (0 ≤ Lib.indexByte [43, 35, 46, 47, 59, 63, 38] c.toNat.toUInt8) = isOper c := by
  obtain ⟨n, rfl⟩ : ∃ n : Nat, c = n := ⟨c.toNat, by omega⟩
  have : ∀ n : Fin 256, ((n.1 : Int) == 0) = false → decide (0 ≤ Lib.indexByte [43, 35, 46, 47, 59, 63, 38] (n.1 : Int).toNat.toUInt8) = isOper (n.1 : Int) := by decide +kernel
  exact this ⟨n, by omega⟩ hz
set_option maxHeartbeats 800000 in
theorem operator_any (c : Int) (w : World) (h0 : 0 ≤ c) (h1 : c ≤ 255) : Calls Try.prog 39 #[.int .u8 c] w fun e w' => e = .returned (.bool (isOper c)) ∧ w = w' := by
  cases hz : c == 0 with
  | true =>
    obtain rfl : c = 0 := beq_iff_eq.1 hz
    clear hz
    go_enter Try.func39, Try.ntmps39
    go_wp2_with fail
    go_ret
    exact ⟨rfl, rfl⟩
  | false =>
    have HX := Aside0.mk (opIdx c h0 h1 hz)
    go_enter Try.func39, Try.ntmps39
    go_wp2_with (go_at_call 59; refine (Try.strings_IndexByte _ _ _).mono ?_; rintro e w' ⟨rfl, rfl⟩)
    go_ret
    exact ⟨by rw [← HX.out]; rfl, rfl⟩
theorem rules_atKey (c : Int) (z : DataW Unit) :
    rulesD0.atKey (.int .u8 c) z = if isOper c = true then ruleD (ruleFirst c).data.toList (ruleSep c).data.toList (ruleNamed c) (ruleEmpty c).data.toList (ruleKeep c) else z := by
  by_cases e0 : c = 0
  · subst e0; rfl
  by_cases e1 : c = 43
  · subst e1; rfl
  by_cases e2 : c = 35
  · subst e2; rfl
  by_cases e3 : c = 46
  · subst e3; rfl
  by_cases e4 : c = 47
  · subst e4; rfl
  by_cases e5 : c = 59
  · subst e5; rfl
  by_cases e6 : c = 63
  · subst e6; rfl
  by_cases e7 : c = 38
  · subst e7; rfl
  have hD : rulesD0 = .map [(.int .u8 0, ruleD [] [44] false [] false), (.int .u8 35, ruleD [35] [44] false [] true), (.int .u8 38, ruleD [38] [38] true [61] false), (.int .u8 43, ruleD [] [44] false [] true), (.int .u8 46, ruleD [46] [46] false [] false), (.int .u8 47, ruleD [47] [47] false [] false), (.int .u8 59, ruleD [59] [59] true [] false), (.int .u8 63, ruleD [63] [38] true [61] false)] := rfl
  rw [hD]
  have ne : ∀ k : Int, c ≠ k → (Lit.int .u8 k).sameKey (.int .u8 c) = false := fun k h => by simp [Lit.sameKey]; omega
  have hn : isOper c = false := by simp [isOper, e0, e1, e2, e3, e4, e5, e6, e7]
  rw [hn]
  simp [DataW.atKey, List.find?, ne _ e0, ne _ e1, ne _ e2, ne _ e3, ne _ e4, ne _ e5, ne _ e6, ne _ e7]
theorem no_rule {c : Int} (h : isOper c = false) : ruleV (ruleFirst c) (ruleSep c) (ruleNamed c) (ruleEmpty c) (ruleKeep c) = ruleV ⟨#[]⟩ ⟨#[]⟩ false ⟨#[]⟩ false := by
  simp [isOper, and_assoc] at h
  obtain ⟨h0, h1, h2, h3, h4, h5, h6, h7⟩ := h
  simp [ruleFirst, ruleSep, ruleNamed, ruleEmpty, ruleKeep, h0, h1, h2, h3, h4, h5, h6, h7, beq_eq_false_iff_ne.2 h1, beq_eq_false_iff_ne.2 h2, beq_eq_false_iff_ne.2 h5, beq_eq_false_iff_ne.2 h6, beq_eq_false_iff_ne.2 h7]
set_option maxRecDepth 100000 in
theorem zero_rule (w : World) : (zeroValue 43).run Try.prog w = .ok (ruleV ⟨#[]⟩ ⟨#[]⟩ false ⟨#[]⟩ false) w := by
  have h : (zeroValue 43).run Try.prog w = .ok (ruleV ⟨#[]⟩ ⟨#[]⟩ false ⟨#[]⟩ false) w := by
    first | kernel_rfl | rfl | (simp [zeroValue, typeInfo]; done) | go_simp
  exact h
set_option maxRecDepth 100000 in
theorem rules_look {w : World} {b : Nat} (h : RulesMap w b) (c : Int) (h0 : 0 ≤ c) (h1 : c ≤ 255) :
    (Instr.lookup 63 (.map (some b)) (.int .u8 c) true).run Try.prog w = .ok (.tuple #[ruleV (ruleFirst c) (ruleSep c) (ruleNamed c) (ruleEmpty c) (ruleKeep c), .bool (isOper c)]) w := by
  obtain ⟨es, clock, hb, F, _, hD⟩ := h
  have hk := keyOf_int_mk (P := Try.prog) Try.underlying5 (u8_wf h0 h1)
  rcases Maps.fit_look true (int_keyed Try.underlying5) Try.underlying63 (zero_rule w) hb F hk with ⟨hrun, hno, hz⟩ | ⟨e0, y, hm, hke, hrun, hR, hz, _⟩
  · have h1 := hz .nil
    rw [← hD, rules_atKey] at h1
    have hn : isOper c = false := by
      cases ho : isOper c with
      | false => rfl
      | true => rw [ho] at h1; cases h1
    rw [hrun, hn, no_rule hn]; rfl
  · have h1 := hz .nil
    rw [← hD, rules_atKey] at h1
    obtain ⟨y1, y2⟩ := y
    have hn : isOper c = true := by
      cases ho : isOper c with
      | true => rfl
      | false =>
        rw [ho] at h1
        have h1 : DataW.nil = y1 := h1
        subst h1
        revert hR
        cases e0.val with
        | agg cs => intro hR; have hR : ruleRL cs.toList = _ := hR; unfold ruleRL at hR; split at hR <;> simp at hR
        | _ => intro hR; cases hR
    rw [hn, if_pos rfl] at h1
    subst h1
    rw [hrun, ruleR_inv hR, hn]; rfl
theorem cells5 {w : World} {B : Nat} {a b c d e : Value} {t : TypeId} (h : w.heap[B]? = some (.cells #[a, b, c, d, e] t (0, 0))) :
    w.cell? ⟨B, 0, none⟩ = some a ∧ w.cell? ⟨B, 1, none⟩ = some b ∧ w.cell? ⟨B, 2, none⟩ = some c ∧ w.cell? ⟨B, 3, none⟩ = some d ∧ w.cell? ⟨B, 4, none⟩ = some e := by
  refine ⟨?_, ?_, ?_, ?_, ?_⟩ <;> simp [blk_cell h]
theorem frozen5 {w : World} {B : Nat} {a b c d e : Value} {t : TypeId} (h : w.heap[B]? = some (.cells #[a, b, c, d, e] t (0, 0))) :
    w.frozen? ⟨B, 0, none⟩ = false ∧ w.frozen? ⟨B, 1, none⟩ = false ∧ w.frozen? ⟨B, 2, none⟩ = false ∧ w.frozen? ⟨B, 3, none⟩ = false ∧ w.frozen? ⟨B, 4, none⟩ = false :=
  ⟨blk_frozen h 0, blk_frozen h 1, blk_frozen h 2, blk_frozen h 3, blk_frozen h 4⟩
set_option maxHeartbeats 4000000 in
set_option maxRecDepth 100000 in
theorem operOf_any (c : Int) (w : World) (h0 : 0 ≤ c) (h1 : c ≤ 255) : Calls Try.prog 18 #[.int .u8 c] w fun e w' => e = .returned (.tuple #[ruleV (ruleFirst c) (ruleSep c) (ruleNamed c) (ruleEmpty c) (ruleKeep c), .bool (isOper c)]) ∧ Below w.heap.size w w' := by
  cases ho : isOper c with
  | true =>
    have HO := Aside0.mk ho
    have HOP := Aside0.mk (fun W => operator_any c W h0 h1)
    clear ho
    go_enter Try.func18, Try.ntmps18
    go_wp2_with fail
    refine (rules_any _).mono ?_
    rintro e w1 ⟨rfl, hm, hb⟩
    have HL := rules_look hm c h0 h1
    rw [HO.out] at HL
    unfold ruleV at HL
    rw [X.size_alloc1] at HL
    have HX := Aside0.mk (blk_below (blk_new w _) hb)
    have HB := Aside0.mk (below_step (w := w) (X.below_new1 w _) hb)
    clear hm hb
    go_wp2_with fail
    have B2 := blk_new w1 (.cells #[.string (ruleFirst c), .string (ruleSep c), .bool (ruleNamed c), .string (ruleEmpty c), .bool (ruleKeep c)] 43 (0, 0))
    have B1 := blk_alloc HX.out (.cells #[.string (ruleFirst c), .string (ruleSep c), .bool (ruleNamed c), .string (ruleEmpty c), .bool (ruleKeep c)] 43 (0, 0))
    have HB2 := Aside0.mk (below_alloc HB.out (.cells #[.string (ruleFirst c), .string (ruleSep c), .bool (ruleNamed c), .string (ruleEmpty c), .bool (ruleKeep c)] 43 (0, 0)))
    generalize w1.alloc (.cells #[.string (ruleFirst c), .string (ruleSep c), .bool (ruleNamed c), .string (ruleEmpty c), .bool (ruleKeep c)] 43 (0, 0)) = W6 at *
    obtain ⟨x0, x1, x2, x3, x4⟩ := cells5 B2
    obtain ⟨y0, y1, y2, y3, y4⟩ := cells5 B1
    obtain ⟨f0, f1, f2, f3, f4⟩ := frozen5 B1
    have HX3 := Aside0.mk B1
    clear HL B1 B2
    (first | go_region_with (go_at_call 39; refine (HOP.out _).mono ?_; rintro e w' ⟨rfl, rfl⟩; rw [HO.out]) | fail)
    all_goals clear x0 x1 x2 x3 x4
    all_goals go_wp2
    all_goals have k0 := blk_put HX3.out 0 (.string (ruleFirst c)) rfl
    all_goals have k1 := blk_put k0 1 (.string (ruleSep c)) rfl
    all_goals have k2 := blk_put k1 2 (.bool (ruleNamed c)) rfl
    all_goals have k3 := blk_put k2 3 (.string (ruleEmpty c)) rfl
    all_goals have k4 := blk_put k3 4 (.bool (ruleKeep c)) rfl
    all_goals have r0 := (cells5 k0).1
    all_goals have r1 := (cells5 k1).2.1
    all_goals have r2 := (cells5 k2).2.2.1
    all_goals have r3 := (cells5 k3).2.2.2.1
    all_goals have r4 := (cells5 k4).2.2.2.2
    all_goals clear y0 y1 y2 y3 y4 f0 f1 f2 f3 f4 k0 k1 k2 k3 k4
    all_goals refine bodyPost_ret (v := .tuple #[.agg #[.string (ruleFirst c), .string (ruleSep c), .bool (ruleNamed c), .string (ruleEmpty c), .bool (ruleKeep c)], .bool true]) (by simp [results, Try.results18, go_sem, r0, r1, r2, r3, r4]) rfl ⟨rfl, ?_⟩
    all_goals repeat (first | exact HB2.out | refine Below.drew ?_ | refine below_set ?_ (Nat.le_refl _))
  | false =>
    have HO := Aside0.mk ho
    clear ho
    go_enter Try.func18, Try.ntmps18
    go_wp2_with fail
    refine (rules_any _).mono ?_
    rintro e w1 ⟨rfl, hm, hb⟩
    have HL := rules_look hm c h0 h1
    rw [HO.out] at HL
    unfold ruleV at HL
    rw [X.size_alloc1] at HL
    have HX := Aside0.mk (blk_below (blk_new w _) hb)
    have HB := Aside0.mk (below_step (w := w) (X.below_new1 w _) hb)
    clear hm hb
    go_wp2_with fail
    have B2 := blk_new w1 (.cells #[.string (ruleFirst c), .string (ruleSep c), .bool (ruleNamed c), .string (ruleEmpty c), .bool (ruleKeep c)] 43 (0, 0))
    have B1 := blk_alloc HX.out (.cells #[.string (ruleFirst c), .string (ruleSep c), .bool (ruleNamed c), .string (ruleEmpty c), .bool (ruleKeep c)] 43 (0, 0))
    have HB2 := Aside0.mk (below_alloc HB.out (.cells #[.string (ruleFirst c), .string (ruleSep c), .bool (ruleNamed c), .string (ruleEmpty c), .bool (ruleKeep c)] 43 (0, 0)))
    generalize w1.alloc (.cells #[.string (ruleFirst c), .string (ruleSep c), .bool (ruleNamed c), .string (ruleEmpty c), .bool (ruleKeep c)] 43 (0, 0)) = W6 at *
    obtain ⟨x0, x1, x2, x3, x4⟩ := cells5 B2
    obtain ⟨y0, y1, y2, y3, y4⟩ := cells5 B1
    obtain ⟨f0, f1, f2, f3, f4⟩ := frozen5 B1
    have HX3 := Aside0.mk B1
    clear HL B1 B2
    (first | go_region_with (fail) | fail)
    all_goals clear x0 x1 x2 x3 x4
    all_goals go_wp2
    all_goals have k0 := blk_put HX3.out 0 (.string (ruleFirst c)) rfl
    all_goals have k1 := blk_put k0 1 (.string (ruleSep c)) rfl
    all_goals have k2 := blk_put k1 2 (.bool (ruleNamed c)) rfl
    all_goals have k3 := blk_put k2 3 (.string (ruleEmpty c)) rfl
    all_goals have k4 := blk_put k3 4 (.bool (ruleKeep c)) rfl
    all_goals have r0 := (cells5 k0).1
    all_goals have r1 := (cells5 k1).2.1
    all_goals have r2 := (cells5 k2).2.2.1
    all_goals have r3 := (cells5 k3).2.2.2.1
    all_goals have r4 := (cells5 k4).2.2.2.2
    all_goals clear y0 y1 y2 y3 y4 f0 f1 f2 f3 f4 k0 k1 k2 k3 k4
    all_goals refine bodyPost_ret (v := .tuple #[.agg #[.string (ruleFirst c), .string (ruleSep c), .bool (ruleNamed c), .string (ruleEmpty c), .bool (ruleKeep c)], .bool false]) (by simp [results, Try.results18, go_sem, r0, r1, r2, r3, r4]) rfl ⟨rfl, ?_⟩
    all_goals repeat (first | exact HB2.out | refine Below.drew ?_ | refine below_set ?_ (Nat.le_refl _))
end Go.Proofs.Ytbjeegkmafbejaa.X
end
