/- Pieces of lists and pairs: joined, pair, star, whole. -/
import Derived.Lib.Join
import Derived.Test.YtbjeegkmafbejaaXbg
namespace Go.Proofs.Ytbjeegkmafbejaa.X
set_option linter.unusedSimpArgs false
set_option linter.unusedVariables false
open Go.RowKit Go.Proofs.YtbjeegkmafbejaaW.PrintWords Go.Proofs.YtbjeegkmafbejaaW.PrintLast Go.Proofs.YtbjeegkmafbejaaW.PrintMore Go.Proofs.Ytbjeegkmafbejaa.Y Go.Joins
theorem infoStr : (Try.prog.info? 9).map (fun i => (i.zero, i.size, i.bytes)) = some (some (.string ⟨#[]⟩), 1, 16) := by kernel_rfl
/-- Texts with something between. -/
def joinB (l : List ByteArray) (sep : ByteArray) : ByteArray := ⟨(Lib.join (l.map (·.data.toList)) sep.data.toList).toArray⟩
theorem joinTail_len (m : Nat) (sep : List UInt8) (l : List (List UInt8)) (h : ∀ x ∈ l, x.length ≤ m) : (Lib.joinTail sep l).length ≤ l.length * (m + sep.length) := by
  induction l with
  | nil => simp [Lib.joinTail]
  | cons x l ih =>
    have h1 := ih fun y hy => h y (List.mem_cons_of_mem _ hy)
    have h2 := h x (List.mem_cons_self ..)
    simp only [Lib.joinTail, List.map_cons, List.flatten_cons, List.length_append, List.length_cons] at h1 ⊢
    rw [Nat.add_mul, Nat.one_mul]
    omega
theorem join_len (m : Nat) (sep : List UInt8) (l : List (List UInt8)) (h : ∀ x ∈ l, x.length ≤ m) : (Lib.join l sep).length ≤ l.length * (m + sep.length) := by
  cases l with
  | nil => simp [Lib.join_nil]
  | cons x l =>
    have h1 := joinTail_len m sep l fun y hy => h y (List.mem_cons_of_mem _ hy)
    have h2 := h x (List.mem_cons_self ..)
    rw [Lib.join_cons, List.length_append, List.length_cons, Nat.add_mul, Nat.one_mul]
    omega
theorem joinB_size (m : Nat) (sep : ByteArray) (l : List ByteArray) (h : ∀ x ∈ l, x.size ≤ m) : (joinB l sep).size ≤ l.length * (m + sep.size) := by
  have := join_len m sep.data.toList (l.map (·.data.toList)) (fun x hx => by obtain ⟨y, hy, rfl⟩ := List.mem_map.1 hx; exact h y hy)
  rw [List.length_map] at this
  exact this
theorem join_own (v : Value) (l : List ByteArray) (sep : ByteArray) (base : Nat) (w : World) (h : Kd.R Kd.string 9 w base (fun _ => True) v l) (hN : l.length ≤ 1000000) (hx : ∀ x ∈ l, x.size ≤ 10000000) (hs : sep.size ≤ 10) :
    Calls Try.prog 56 #[v, .string sep] w fun e w' => e = .returned (.string (joinB l sep)) ∧ Below w.heap.size w w' := by
  have ho := Kd.own_of_R h
  rcases ho.2 with ⟨rfl, h0⟩ | ⟨g, cap, cur, rfl, hg, hb, hn, hcap, hsz, ht⟩
  · obtain rfl : l = [] := List.eq_nil_of_length_eq_zero h0
    exact (Try.strings_Join_none none 0 sep w).mono fun e w' he => ⟨by rw [he.1]; rfl, by rw [he.2]; exact Below.refl _ _⟩
  · have hlen := join_len 10000000 sep.data.toList (l.map (·.data.toList)) (fun x hx' => by obtain ⟨y, hy, rfl⟩ := List.mem_map.1 hx'; exact hx y hy)
    rw [List.length_map] at hlen
    have hs' : sep.data.toList.length ≤ 10 := hs
    have hmul : l.length * (10000000 + sep.data.toList.length) ≤ 1000000 * (10000000 + 10) := Nat.mul_le_mul hN (by omega)
    refine Try.strings_Join g 0 cap l sep w (fun j x hj => ?_) (blk_lt hb) (by omega) hn (by omega)
    have hjl : j < l.length := (List.getElem?_eq_some_iff.1 hj).1
    rw [Nat.zero_add, blk_cell hb j, ← Array.getElem?_toList, ← List.getElem?_take_of_lt (show j < l.length * 1 by omega), ht]
    unfold encs
    rw [List.getElem?_map, hj]; rfl
/-- What a function value must do: turn a text into another, turning nothing that was there. -/
def Turns (P : Program) (g : FuncId) (lb : Array Value) (w : World) (l : List ByteArray) (f : ByteArray → ByteArray) : Prop :=
  (∀ args w, (callFunc g args).run P w = .ok (.enter g args) w) ∧ ∀ x W, Below w.heap.size w W → x ∈ l → Calls P g (#[.string x] ++ lb) W fun e w' => e = .returned (.string (f x)) ∧ Below W.heap.size W w'
set_option maxHeartbeats 2000000 in
theorem joined_any (sep : ByteArray) (g : FuncId) (lb : Array Value) (f : ByteArray → ByteArray) (l : List ByteArray) (A : Option Addr) (n : Nat) (w : World) (hp : Turns Try.prog g lb w l f) (hl : l.length ≤ 1000000) (hr : Kd.C Kd.string w A l.length l) (hx : ∀ x ∈ l, (f x).size ≤ 10000000) (hs : sep.size ≤ 10) :
    Calls Try.prog 53 #[.string sep, .func (.func g) #[] lb, .slice A l.length n] w fun e w' => e = .returned (.string (joinB (l.map f) sep)) ∧ Below w.heap.size w w' := by
  have eg := hp.1
  have HP := Aside0.mk hp.2
  have HR := Aside0.mk hr
  have HX := Aside0.mk hx
  clear hp hr hx
  go_enter Try.func53, Try.ntmps53
  go_wp2_with fail
  go_loopw [7, 12] (fun v c wr => ∃ k : Nat, k ≤ l.length ∧ c = .int .i64 k ∧ Below w.heap.size w wr ∧ Kd.R Kd.string 9 wr w.heap.size (fun _ => True) v ((l.take k).map f)) (fun _ c _ => (l.length - intOf c).toNat)
  case atStart => exact ⟨0, by omega, by simp, Below.refl _ _, Kd.R_nil _ _ _ _ _⟩
  case round =>
    obtain ⟨k, hk, rfl, hb, hv⟩ := hrel
    have HB := Aside0.mk hb
    have HV := Aside0.mk hv
    clear hb hv
    by_cases hlt : k < l.length
    · obtain ⟨ad, rfl, hcell⟩ := C_cell1 (Kd.C_below HR.out HB.out) k hlt
      go_wp2_with fail
      refine (HP.out _ _ HB.out (List.getElem_mem hlt)).mono ?_
      rintro e w1 ⟨rfl, hb1⟩
      have HB1 := Aside0.mk (below_step HB.out hb1)
      have HV1 := Aside0.mk (Kd.R_below HV.out hb1)
      have hlen : ((l.take k).map f).length = k := by rw [List.length_map, List.length_take]; omega
      have hs1 := HB1.out.size
      have htk : (l.take k).map f ++ [f l[k]] = (l.take (k + 1)).map f := by rw [List.take_succ_eq_append_getElem hlt, List.map_append]; rfl
      clear hb1 hcell HB HV
      go_wp2_with (at_builtin; refine Kd.R_append Kd.string (w0 := w) w.heap.size rfl (.tmp 16) (.tmp 20) 24 9 (.string ⟨#[]⟩) 16 rfl Try.underlying24 infoStr rfl (by decide) (by omega) _ ((l.take k).map f) (f l[k]) [.string (f l[k])] (fun _ => True) (fun _ => False) rfl rfl rfl (fun _ hk => hk.elim) (fun _ _ => trivial) HV1.out HB1.out hs1 (by omega) ?_; intro v1 w2 ho hb1 hg hat; have HO := Aside0.mk (htk ▸ ho); have HB2 := Aside0.mk hb1; clear ho hb1 hg hat htk)
      go_roundw
      case rel => exact ⟨k + 1, by omega, by go_num, HB2.out, HO.out⟩
      case measure => simp [intOf]; omega
    · have hlen : ((l.take k).map f).length = k := by rw [List.length_map, List.length_take]; omega
      have htk : l.take k = l := List.take_of_length_le (by omega)
      have HV1 := Aside0.mk (htk ▸ HV.out)
      clear HV hlen htk
      go_wp2_with fail
      refine (join_own _ (l.map f) sep _ _ HV1.out (by rw [List.length_map]; exact hl) (fun x hx => by obtain ⟨y, hy, rfl⟩ := List.mem_map.1 hx; exact HX.out y hy) hs).mono ?_
      rintro e w2 ⟨rfl, hb2⟩
      have HB2 := Aside0.mk (below_step HB.out hb2)
      clear hb2 HB
      go_wp2_with fail
      go_ret
      exact ⟨rfl, HB2.out⟩
def star1.T1 : Bool × List (List Nat × List Nat) := (true, [([], []), ([], []), ([1], [1]), ([], []), ([3], [3]), ([], []), ([4, 5], [4, 5]), ([0, 2, 6, 6], [0, 2, 6]), ([7, 7, 0, 1, 2, 3, 4, 5, 6, 7], [7])])
def star1.B1 : List Nat := [0, 0, 2, 0, 8, 0, 56, 127, 255]
theorem star1.tab1 : rtab .any (opsOf Try.f54 1) = star1.T1 := by kernel_rfl
theorem star1.bits1 : waitsOk star1.T1.2 star1.B1 = true := by kernel_rfl
def pairT.T2 : Bool × List (List Nat × List Nat) := (true, [([], []), ([], []), ([1], [1]), ([2], [2]), ([], []), ([4], [4]), ([], []), ([6], [6]), ([5, 7, 3], [5, 7]), ([0, 3, 8, 8], [0, 3, 8]), ([9, 9, 0, 1, 2, 3, 4, 5, 6, 7, 8, 9], [9])])
def pairT.B2 : List Nat := [0, 0, 2, 6, 0, 16, 0, 64, 240, 511, 1023]
theorem pairT.tab2 : rtab .any (opsOf Try.f55 2) = pairT.T2 := by kernel_rfl
theorem pairT.bits2 : waitsOk pairT.T2.2 pairT.B2 = true := by kernel_rfl
def pairF.T3 : Bool × List (List Nat × List Nat) := (true, [([], []), ([0], [0]), ([], []), ([2], [2]), ([1, 3], [1, 3]), ([4], [4]), ([], []), ([6], [6]), ([], []), ([8], [8]), ([7, 9, 4], [7, 9]), ([5, 10], [5, 10]), ([11, 10, 0, 1, 2, 3, 4, 5, 6, 7, 8, 9, 10, 11], [11])])
def pairF.B3 : List Nat := [0, 1, 0, 4, 15, 31, 0, 64, 0, 256, 960, 2047, 4095]
theorem pairF.tab3 : rtab .any (opsOf Try.f55 3) = pairF.T3 := by kernel_rfl
theorem pairF.bits3 : waitsOk pairF.T3.2 pairF.B3 = true := by kernel_rfl

theorem enters_of1 (args : Array Value) (w : World) : (callFunc 44 args).run Try.prog w = .ok (.enter 44 args) w := enters_of Try.func44 (by kernel_rfl) rfl args w
theorem of1_turns (c : Int) (b : Nat) (w : World) (hb : w.heap[b]? = some (.cells (ruleCells c) 43 (0, 0))) (l : List ByteArray) (hl : ∀ x ∈ l, x.size ≤ 1000000) : Turns Try.prog 44 #[.pointer (some ⟨b, 0, none⟩)] w l (encS (ruleKeep c)) :=
  ⟨enters_of1, fun x W hW hx => ofEnc_any x b c W (hl x hx) (blk_below hb hW)⟩
theorem enters_star1 (args : Array Value) (w : World) : (callFunc 54 args).run Try.prog w = .ok (.enter 54 args) w := enters_of Try.func54 (by kernel_rfl) rfl args w
/-- A piece of a list's text. -/
def itemS (c : Int) (name s : ByteArray) : ByteArray := maybeS c name (encS (ruleKeep c) s)
set_option maxHeartbeats 4000000 in
set_option maxRecDepth 100000 in
theorem star1_any (c : Int) (rb wb sb : Nat) (name : ByteArray) (mx : Int) (st : Bool) (s : ByteArray) (w1 : World) (hn : name.size ≤ 1000000) (hs : s.size ≤ 1000000) (hru : w1.heap[rb]? = some (.cells (ruleCells c) 43 (0, 0))) (hwy : w1.heap[wb]? = some (.cells #[.string (ruleFirst c), .string (ruleSep c), .bool (ruleNamed c), .string (ruleEmpty c), .bool (ruleKeep c), .func (.func 44) #[] #[.pointer (some ⟨rb, 0, none⟩)]] 53 (0, 0))) (hsp : w1.heap[sb]? = some (.cells #[.string name, .int .i64 mx, .bool st] 23 (0, 0))) :
    Calls Try.prog 54 #[.string s, .pointer (some ⟨wb, 0, none⟩), .pointer (some ⟨sb, 0, none⟩)] w1 fun e w' => e = .returned (.string (itemS c name s)) ∧ Below w1.heap.size w1 w' := by
  have HM := Aside0.mk (fun s W hs => maybe_any c rb name s W hn hs)
  have HO := Aside0.mk (fun s W hs hb => ofEnc_any s rb c W hs hb)
  unfold wayV at HM
  have HRU := Aside0.mk hru
  have HWY := Aside0.mk hwy
  have HSP := Aside0.mk hsp
  have hsz2 : (encS (ruleKeep c) s).size ≤ 10000000 := by have := encS_size (ruleKeep c) s; omega
  clear hru hwy hsp
  go_enter Try.func54, Try.ntmps54
  go_wp2_with fail
  refine start_ (n := 9) (S := fun w' => True) (ds := []) #[false, false, false, false, false, false, false, false, false] (by kernel_rfl) rfl rfl trivial (fun hHeld => ?_)
  refine with_tabW star1.tab1 star1.bits1 (fun HT_ HW_ => ?_)
  refine inv_at [0, 1, 2, 3, 4, 5, 6, 7, 8] (fun a0_ b a w' => a = putSel a0_ b [(0, 5, .agg #[.string (ruleFirst c), .string (ruleSep c), .bool (ruleNamed c), .string (ruleEmpty c), .bool (ruleKeep c), .func (.func 44) #[] #[.pointer (some ⟨rb, 0, none⟩)]]), (1, 6, .pointer (some ⟨sb, 0, none⟩)), (2, 7, .string name), (3, 8, .pointer (some ⟨wb, 5, none⟩)), (4, 9, .func (.func 44) #[] #[.pointer (some ⟨rb, 0, none⟩)]), (5, 10, .string s), (6, 11, .string (encS (ruleKeep c) s)), (7, 12, .string (maybeS c name (encS (ruleKeep c) s))), (8, 4, .string (maybeS c name (encS (ruleKeep c) s)))] ∧ Below w1.drew.heap.size w1.drew w') HT_.out HW_.out (by kernel_rfl) (by kernel_rfl) ?_ ?_ ?_
  · exact ⟨by simp only [putSel, Bool.false_eq_true, if_false], Below.refl _ _⟩
  · clear hHeld HT_ HW_
    refine steps_cons ?_ ?_
    · rintro b a w' ⟨ha, HBW⟩ hb_ hon hoff
      refine ⟨_, rfl, fun K hK => ?_⟩
      have e1 : a.tmps[1]? = some (.pointer (some ⟨wb, 0, none⟩)) := by rw [ha]; exact (putSel_off rfl).trans rfl
      replace ha := Aside0.mk ha
      have HBW := Aside0.mk HBW
      obtain ⟨c0_, c1_, c2_, c3_, c4_, c5_⟩ := cells6 (blk_below (blk_drew HWY.out) HBW.out)
      refine value_ (w1 := w') (v := .agg #[.string (ruleFirst c), .string (ruleSep c), .bool (ruleNamed c), .string (ruleEmpty c), .bool (ruleKeep c), .func (.func 44) #[] #[.pointer (some ⟨rb, 0, none⟩)]]) (by rfl) rfl ?_ ?_
      · go_simp
        (try simp only [i64_w])
        try rfl
      refine hK.out _ _ ⟨(by rw [ha.out]; exact putSel_upk 0 hb_ rfl rfl rfl), HBW.out⟩
    refine steps_cons ?_ ?_
    · rintro b a w' ⟨ha, HBW⟩ hb_ hon hoff
      refine ⟨_, rfl, fun K hK => ?_⟩
      have e2 : a.tmps[2]? = some (.pointer (some ⟨sb, 0, none⟩)) := by rw [ha]; exact (putSel_off rfl).trans rfl
      replace ha := Aside0.mk ha
      have HBW := Aside0.mk HBW
      refine value_ (w1 := w') (v := .pointer (some ⟨sb, 0, none⟩)) (by rfl) rfl ?_ ?_
      · go_simp
        (try simp only [i64_w])
        try rfl
      refine hK.out _ _ ⟨(by rw [ha.out]; exact putSel_upk 1 hb_ rfl rfl rfl), HBW.out⟩
    refine steps_cons ?_ ?_
    · rintro b a w' ⟨ha, HBW⟩ hb_ hon hoff
      refine ⟨_, rfl, fun K hK => ?_⟩
      have e6 : a.tmps[6]? = some (.pointer (some ⟨sb, 0, none⟩)) := by rw [ha]; exact putSel_on (e := (1, 6, .pointer (some ⟨sb, 0, none⟩))) 1 rfl rfl (hon 1 (by kernel_rfl)) rfl
      replace ha := Aside0.mk ha
      have HBW := Aside0.mk HBW
      have c0_ := (blk_cell (blk_below (blk_drew HSP.out) HBW.out) 0).trans rfl
      refine value_ (w1 := w') (v := .string name) (by rfl) rfl ?_ ?_
      · go_simp
        (try simp only [i64_w])
        try rfl
      refine hK.out _ _ ⟨(by rw [ha.out]; exact putSel_upk 2 hb_ rfl rfl rfl), HBW.out⟩
    refine steps_cons ?_ ?_
    · rintro b a w' ⟨ha, HBW⟩ hb_ hon hoff
      refine ⟨_, rfl, fun K hK => ?_⟩
      have e1 : a.tmps[1]? = some (.pointer (some ⟨wb, 0, none⟩)) := by rw [ha]; exact (putSel_off rfl).trans rfl
      replace ha := Aside0.mk ha
      have HBW := Aside0.mk HBW
      refine value_ (w1 := w') (v := .pointer (some ⟨wb, 5, none⟩)) (by rfl) rfl ?_ ?_
      · go_simp
        (try simp only [i64_w])
        try rfl
      refine hK.out _ _ ⟨(by rw [ha.out]; exact putSel_upk 3 hb_ rfl rfl rfl), HBW.out⟩
    refine steps_cons ?_ ?_
    · rintro b a w' ⟨ha, HBW⟩ hb_ hon hoff
      refine ⟨_, rfl, fun K hK => ?_⟩
      have e8 : a.tmps[8]? = some (.pointer (some ⟨wb, 5, none⟩)) := by rw [ha]; exact putSel_on (e := (3, 8, .pointer (some ⟨wb, 5, none⟩))) 3 rfl rfl (hon 3 (by kernel_rfl)) rfl
      replace ha := Aside0.mk ha
      have HBW := Aside0.mk HBW
      have c0_ := (blk_cell (blk_below (blk_drew HWY.out) HBW.out) 5).trans rfl
      refine value_ (w1 := w') (v := .func (.func 44) #[] #[.pointer (some ⟨rb, 0, none⟩)]) (by rfl) rfl ?_ ?_
      · go_simp
        (try simp only [i64_w])
        try rfl
      refine hK.out _ _ ⟨(by rw [ha.out]; exact putSel_upk 4 hb_ rfl rfl rfl), HBW.out⟩
    refine steps_cons ?_ ?_
    · rintro b a w' ⟨ha, HBW⟩ hb_ hon hoff
      refine ⟨_, rfl, fun K hK => ?_⟩
      have e0 : a.tmps[0]? = some (.string s) := by rw [ha]; exact (putSel_off rfl).trans rfl
      replace ha := Aside0.mk ha
      have HBW := Aside0.mk HBW
      refine value_ (w1 := w') (v := .string s) (by rfl) rfl ?_ ?_
      · go_simp
        (try simp only [i64_w])
        try rfl
      refine hK.out _ _ ⟨(by rw [ha.out]; exact putSel_upk 5 hb_ rfl rfl rfl), HBW.out⟩
    refine steps_cons ?_ ?_
    · rintro b a w' ⟨ha, HBW⟩ hb_ hon hoff
      refine ⟨_, rfl, fun K hK => ?_⟩
      have e9 : a.tmps[9]? = some (.func (.func 44) #[] #[.pointer (some ⟨rb, 0, none⟩)]) := by rw [ha]; exact putSel_on (e := (4, 9, .func (.func 44) #[] #[.pointer (some ⟨rb, 0, none⟩)])) 4 rfl rfl (hon 4 (by kernel_rfl)) rfl
      have e10 : a.tmps[10]? = some (.string s) := by rw [ha]; exact putSel_on (e := (5, 10, .string s)) 5 rfl rfl (hon 5 (by kernel_rfl)) rfl
      replace ha := Aside0.mk ha
      have HBW := Aside0.mk HBW
      have eg_ := fun args W => enters_ (P := Try.prog) Try.func44 (by kernel_rfl) rfl args W
      refine call_ 44 #[.string s, .pointer (some ⟨rb, 0, none⟩)] (by rfl) rfl ?_ ?_
      · unfold execOp; simp only [resolve, Deferred.ofValue, invoke, Act.eval, Array.getD_eq_getD_getElem?, Option.getD_some, e9, e10]
        go_simp
        try rfl
      refine (HO.out s w' hs (blk_below (blk_drew HRU.out) HBW.out)).mono ?_
      rintro e w1 ⟨rfl, hb⟩
      refine ⟨_, rfl, ?_⟩
      refine hK.out _ _ ⟨(by rw [ha.out]; exact putSel_upk 6 hb_ rfl rfl rfl), below_step HBW.out hb⟩
    refine steps_cons ?_ ?_
    · rintro b a w' ⟨ha, HBW⟩ hb_ hon hoff
      refine ⟨_, rfl, fun K hK => ?_⟩
      have e5 : a.tmps[5]? = some (.agg #[.string (ruleFirst c), .string (ruleSep c), .bool (ruleNamed c), .string (ruleEmpty c), .bool (ruleKeep c), .func (.func 44) #[] #[.pointer (some ⟨rb, 0, none⟩)]]) := by rw [ha]; exact putSel_on (e := (0, 5, .agg #[.string (ruleFirst c), .string (ruleSep c), .bool (ruleNamed c), .string (ruleEmpty c), .bool (ruleKeep c), .func (.func 44) #[] #[.pointer (some ⟨rb, 0, none⟩)]])) 0 rfl rfl (hon 0 (by kernel_rfl)) rfl
      have e7 : a.tmps[7]? = some (.string name) := by rw [ha]; exact putSel_on (e := (2, 7, .string name)) 2 rfl rfl (hon 2 (by kernel_rfl)) rfl
      have e11 : a.tmps[11]? = some (.string (encS (ruleKeep c) s)) := by rw [ha]; exact putSel_on (e := (6, 11, .string (encS (ruleKeep c) s))) 6 rfl rfl (hon 6 (by kernel_rfl)) rfl
      replace ha := Aside0.mk ha
      have HBW := Aside0.mk HBW
      refine goes_ Try.func52 (by kernel_rfl) rfl #[.agg #[.string (ruleFirst c), .string (ruleSep c), .bool (ruleNamed c), .string (ruleEmpty c), .bool (ruleKeep c), .func (.func 44) #[] #[.pointer (some ⟨rb, 0, none⟩)]], .string name, .string (encS (ruleKeep c) s)] (by rfl) rfl rfl (by first | (simp only [List.map_toArray, List.map_cons, List.map_nil, Act.eval, Array.getD_eq_getD_getElem?, Option.getD_some, e5, e7, e11]; done) | (simp only [List.map_toArray, List.map_cons, List.map_nil, Act.eval, Array.getD_eq_getD_getElem?, Option.getD_some, e5, e7, e11]; rfl)) ?_
      refine (HM.out _ w' hsz2).mono ?_
      rintro e w1 ⟨rfl, hb⟩
      refine ⟨_, rfl, ?_⟩
      refine hK.out _ _ ⟨(by rw [ha.out]; exact putSel_upk 7 hb_ rfl rfl rfl), below_step HBW.out hb⟩
    refine steps_cons ?_ ?_
    · rintro b a w' ⟨ha, HBW⟩ hb_ hon hoff
      refine ⟨_, rfl, fun K hK => ?_⟩
      have e12 : a.tmps[12]? = some (.string (maybeS c name (encS (ruleKeep c) s))) := by rw [ha]; exact putSel_on (e := (7, 12, .string (maybeS c name (encS (ruleKeep c) s)))) 7 rfl rfl (hon 7 (by kernel_rfl)) rfl
      replace ha := Aside0.mk ha
      have HBW := Aside0.mk HBW
      refine value_ (w1 := w') (v := .string (maybeS c name (encS (ruleKeep c) s))) (by rfl) rfl ?_ ?_
      · go_simp
        (try simp only [i64_w])
        try rfl
      refine hK.out _ _ ⟨(by rw [ha.out]; exact putSel_upk 8 hb_ rfl rfl rfl), HBW.out⟩
    exact steps_nil
  rintro b a w5 hall ⟨ha, HBW⟩
  have hb0_ := hall 0 (by kernel_rfl)
  have hb1_ := hall 1 (by kernel_rfl)
  have hb2_ := hall 2 (by kernel_rfl)
  have hb3_ := hall 3 (by kernel_rfl)
  have hb4_ := hall 4 (by kernel_rfl)
  have hb5_ := hall 5 (by kernel_rfl)
  have hb6_ := hall 6 (by kernel_rfl)
  have hb7_ := hall 7 (by kernel_rfl)
  have hb8_ := hall 8 (by kernel_rfl)
  subst ha
  simp only [putSel, hb0_, hb1_, hb2_, hb3_, hb4_, hb5_, hb6_, hb7_, hb8_, if_true, Act.put, List.setIfInBounds_toArray, List.set_cons_zero, List.set_cons_succ]
  have HBW := Aside0.mk HBW
  clear hall hb0_ hb1_ hb2_ hb3_ hb4_ hb5_ hb6_ hb7_ hb8_
  go_wp2_with fail
  go_ret
  exact ⟨rfl, below_step (w := w1) (below_drew1 (Below.refl _ w1)) HBW.out⟩
theorem star1_turns (c : Int) (rb wb sb : Nat) (name : ByteArray) (mx : Int) (st : Bool) (w : World) (hn : name.size ≤ 1000000) (hru : w.heap[rb]? = some (.cells (ruleCells c) 43 (0, 0))) (hwy : w.heap[wb]? = some (.cells #[.string (ruleFirst c), .string (ruleSep c), .bool (ruleNamed c), .string (ruleEmpty c), .bool (ruleKeep c), .func (.func 44) #[] #[.pointer (some ⟨rb, 0, none⟩)]] 53 (0, 0))) (hsp : w.heap[sb]? = some (.cells #[.string name, .int .i64 mx, .bool st] 23 (0, 0))) (l : List ByteArray) (hl : ∀ x ∈ l, x.size ≤ 1000000) :
    Turns Try.prog 54 #[.pointer (some ⟨wb, 0, none⟩), .pointer (some ⟨sb, 0, none⟩)] w l (itemS c name) :=
  ⟨enters_star1, fun x W hW hx => star1_any c rb wb sb name mx st x W hn (hl x hx) (blk_below hru hW) (blk_below hwy hW) (blk_below hsp hW)⟩
/-- A pair's piece. -/
def pairS (c : Int) (k v : ByteArray) : ByteArray := if ruleNamed c = true then namedS c (encS true k) (encS (ruleKeep c) v) else encS (ruleKeep c) k ++ ⟨#[61]⟩ ++ encS (ruleKeep c) v
set_option maxHeartbeats 8000000 in
set_option maxRecDepth 100000 in
theorem pair_any (c : Int) (rb : Nat) (k v : ByteArray) (w : World) (hk : k.size ≤ 300000) (hv : v.size ≤ 300000) (hru : w.heap[rb]? = some (.cells (ruleCells c) 43 (0, 0))) :
    Calls Try.prog 55 #[wayV c rb, .agg #[.string k, .string v]] w fun e w' => e = .returned (.string (pairS c k v)) ∧ Below w.heap.size w w' := by
  have HO := Aside0.mk (fun s W hs hb => ofEnc_any s rb c W hs hb)
  have HEN := Aside0.mk (fun W => encode_any k true W (by omega))
  have hk1 := encS_size (ruleKeep c) k
  have hk2 := encS_size true k
  have hv1 := encS_size (ruleKeep c) v
  have HND := Aside0.mk (fun W => named_any c rb (encS true k) (encS (ruleKeep c) v) W (by omega) (by omega))
  unfold wayV at HND ⊢
  have HR := Aside0.mk hru
  clear hru
  cases h : ruleNamed c with
  | true =>
    have HN := Aside0.mk (show pairS c k v = namedS c (encS true k) (encS (ruleKeep c) v) from if_pos h)
    rw [h] at HND
    go_enter Try.func55, Try.ntmps55
    go_wp2_with fail
    refine forget (P := fun W => Code.wp _ _ _ _ W) _ (fun w1 => w1.heap[rb]? = some (.cells (ruleCells c) 43 (0, 0)) ∧ w1.heap[w.heap.size + 1]? = some (.cells #[.string k, .string v] 69 (0, 0)) ∧ w1.heap[w.heap.size]? = some (.cells #[.string (ruleFirst c), .string (ruleSep c), .bool true, .string (ruleEmpty c), .bool (ruleKeep c), .func (.func 44) #[] #[.pointer (some ⟨rb, 0, none⟩)]] 53 (0, 0)) ∧ Below w.heap.size w w1) ⟨blk_alloc (blk_alloc HR.out _) _, X.blk_new2 w _ _, blk_alloc (blk_new w _) _, X.below_new2 w _ _⟩ ?_
    rintro w1 ⟨hru, hpr, hwy, hbl⟩
    have HRU := Aside0.mk hru
    have HPR := Aside0.mk hpr
    have HWY := Aside0.mk hwy
    have HB := Aside0.mk hbl
    clear hru hpr hwy hbl
    refine start_ (n := 11) (S := fun w' => True) (ds := []) #[false, false, false, false, false, false, false, false, false, false, false] (by kernel_rfl) rfl rfl trivial (fun hHeld => ?_)
    refine with_tabW pairT.tab2 pairT.bits2 (fun HT_ HW_ => ?_)
    refine inv_at [0, 1, 2, 3, 4, 5, 6, 7, 8, 9, 10] (fun a0_ b a w' => a = putSel a0_ b [(0, 8, .agg #[.string (ruleFirst c), .string (ruleSep c), .bool true, .string (ruleEmpty c), .bool (ruleKeep c), .func (.func 44) #[] #[.pointer (some ⟨rb, 0, none⟩)]]), (1, 9, .pointer (some ⟨w.heap.size + 1, 0, none⟩)), (2, 10, .string k), (3, 11, .string (encS true k)), (4, 12, .pointer (some ⟨w.heap.size, 5, none⟩)), (5, 13, .func (.func 44) #[] #[.pointer (some ⟨rb, 0, none⟩)]), (6, 14, .pointer (some ⟨w.heap.size + 1, 1, none⟩)), (7, 15, .string v), (8, 16, .string (encS (ruleKeep c) v)), (9, 17, .string (namedS c (encS true k) (encS (ruleKeep c) v))), (10, 4, .string (namedS c (encS true k) (encS (ruleKeep c) v)))] ∧ Below w1.drew.heap.size w1.drew w') HT_.out HW_.out (by kernel_rfl) (by kernel_rfl) ?_ ?_ ?_
    · exact ⟨by simp only [putSel, Bool.false_eq_true, if_false], Below.refl _ _⟩
    · clear hHeld HT_ HW_
      refine steps_cons ?_ ?_
      · rintro b a w' ⟨ha, HBW⟩ hb_ hon hoff
        refine ⟨_, rfl, fun K hK => ?_⟩
        have e2 : a.tmps[2]? = some (.pointer (some ⟨w.heap.size, 0, none⟩)) := by rw [ha]; exact (putSel_off rfl).trans rfl
        replace ha := Aside0.mk ha
        have HBW := Aside0.mk HBW
        obtain ⟨c0_, c1_, c2_, c3_, c4_, c5_⟩ := cells6 (blk_below (blk_drew HWY.out) HBW.out)
        refine value_ (w1 := w') (v := .agg #[.string (ruleFirst c), .string (ruleSep c), .bool true, .string (ruleEmpty c), .bool (ruleKeep c), .func (.func 44) #[] #[.pointer (some ⟨rb, 0, none⟩)]]) (by rfl) rfl ?_ ?_
        · go_simp
          (try simp only [i64_w])
          try rfl
        refine hK.out _ _ ⟨(by rw [ha.out]; exact putSel_upk 0 hb_ rfl rfl rfl), HBW.out⟩
      refine steps_cons ?_ ?_
      · rintro b a w' ⟨ha, HBW⟩ hb_ hon hoff
        refine ⟨_, rfl, fun K hK => ?_⟩
        have e3 : a.tmps[3]? = some (.pointer (some ⟨w.heap.size + 1, 0, none⟩)) := by rw [ha]; exact (putSel_off rfl).trans rfl
        replace ha := Aside0.mk ha
        have HBW := Aside0.mk HBW
        refine value_ (w1 := w') (v := .pointer (some ⟨w.heap.size + 1, 0, none⟩)) (by rfl) rfl ?_ ?_
        · go_simp
          (try simp only [i64_w])
          try rfl
        refine hK.out _ _ ⟨(by rw [ha.out]; exact putSel_upk 1 hb_ rfl rfl rfl), HBW.out⟩
      refine steps_cons ?_ ?_
      · rintro b a w' ⟨ha, HBW⟩ hb_ hon hoff
        refine ⟨_, rfl, fun K hK => ?_⟩
        have e9 : a.tmps[9]? = some (.pointer (some ⟨w.heap.size + 1, 0, none⟩)) := by rw [ha]; exact putSel_on (e := (1, 9, .pointer (some ⟨w.heap.size + 1, 0, none⟩))) 1 rfl rfl (hon 1 (by kernel_rfl)) rfl
        replace ha := Aside0.mk ha
        have HBW := Aside0.mk HBW
        have c0_ := (blk_cell (blk_below (blk_drew HPR.out) HBW.out) 0).trans rfl
        refine value_ (w1 := w') (v := .string k) (by rfl) rfl ?_ ?_
        · go_simp
          (try simp only [i64_w])
          try rfl
        refine hK.out _ _ ⟨(by rw [ha.out]; exact putSel_upk 2 hb_ rfl rfl rfl), HBW.out⟩
      refine steps_cons ?_ ?_
      · rintro b a w' ⟨ha, HBW⟩ hb_ hon hoff
        refine ⟨_, rfl, fun K hK => ?_⟩
        have e10 : a.tmps[10]? = some (.string k) := by rw [ha]; exact putSel_on (e := (2, 10, .string k)) 2 rfl rfl (hon 2 (by kernel_rfl)) rfl
        replace ha := Aside0.mk ha
        have HBW := Aside0.mk HBW
        refine goes_ Try.func45 (by kernel_rfl) rfl #[.string k, .bool true] (by rfl) rfl rfl (by first | (simp only [List.map_toArray, List.map_cons, List.map_nil, Act.eval, Array.getD_eq_getD_getElem?, Option.getD_some, e10]; done) | (simp only [List.map_toArray, List.map_cons, List.map_nil, Act.eval, Array.getD_eq_getD_getElem?, Option.getD_some, e10]; rfl)) ?_
        refine (HEN.out w').mono ?_
        rintro e w1 ⟨rfl, hb⟩
        refine ⟨_, rfl, ?_⟩
        refine hK.out _ _ ⟨(by rw [ha.out]; exact putSel_upk 3 hb_ rfl rfl rfl), below_step HBW.out hb⟩
      refine steps_cons ?_ ?_
      · rintro b a w' ⟨ha, HBW⟩ hb_ hon hoff
        refine ⟨_, rfl, fun K hK => ?_⟩
        have e2 : a.tmps[2]? = some (.pointer (some ⟨w.heap.size, 0, none⟩)) := by rw [ha]; exact (putSel_off rfl).trans rfl
        replace ha := Aside0.mk ha
        have HBW := Aside0.mk HBW
        refine value_ (w1 := w') (v := .pointer (some ⟨w.heap.size, 5, none⟩)) (by rfl) rfl ?_ ?_
        · go_simp
          (try simp only [i64_w])
          try rfl
        refine hK.out _ _ ⟨(by rw [ha.out]; exact putSel_upk 4 hb_ rfl rfl rfl), HBW.out⟩
      refine steps_cons ?_ ?_
      · rintro b a w' ⟨ha, HBW⟩ hb_ hon hoff
        refine ⟨_, rfl, fun K hK => ?_⟩
        have e12 : a.tmps[12]? = some (.pointer (some ⟨w.heap.size, 5, none⟩)) := by rw [ha]; exact putSel_on (e := (4, 12, .pointer (some ⟨w.heap.size, 5, none⟩))) 4 rfl rfl (hon 4 (by kernel_rfl)) rfl
        replace ha := Aside0.mk ha
        have HBW := Aside0.mk HBW
        have c0_ := (blk_cell (blk_below (blk_drew HWY.out) HBW.out) 5).trans rfl
        refine value_ (w1 := w') (v := .func (.func 44) #[] #[.pointer (some ⟨rb, 0, none⟩)]) (by rfl) rfl ?_ ?_
        · go_simp
          (try simp only [i64_w])
          try rfl
        refine hK.out _ _ ⟨(by rw [ha.out]; exact putSel_upk 5 hb_ rfl rfl rfl), HBW.out⟩
      refine steps_cons ?_ ?_
      · rintro b a w' ⟨ha, HBW⟩ hb_ hon hoff
        refine ⟨_, rfl, fun K hK => ?_⟩
        have e3 : a.tmps[3]? = some (.pointer (some ⟨w.heap.size + 1, 0, none⟩)) := by rw [ha]; exact (putSel_off rfl).trans rfl
        replace ha := Aside0.mk ha
        have HBW := Aside0.mk HBW
        refine value_ (w1 := w') (v := .pointer (some ⟨w.heap.size + 1, 1, none⟩)) (by rfl) rfl ?_ ?_
        · go_simp
          (try simp only [i64_w])
          try rfl
        refine hK.out _ _ ⟨(by rw [ha.out]; exact putSel_upk 6 hb_ rfl rfl rfl), HBW.out⟩
      refine steps_cons ?_ ?_
      · rintro b a w' ⟨ha, HBW⟩ hb_ hon hoff
        refine ⟨_, rfl, fun K hK => ?_⟩
        have e14 : a.tmps[14]? = some (.pointer (some ⟨w.heap.size + 1, 1, none⟩)) := by rw [ha]; exact putSel_on (e := (6, 14, .pointer (some ⟨w.heap.size + 1, 1, none⟩))) 6 rfl rfl (hon 6 (by kernel_rfl)) rfl
        replace ha := Aside0.mk ha
        have HBW := Aside0.mk HBW
        have c0_ := (blk_cell (blk_below (blk_drew HPR.out) HBW.out) 1).trans rfl
        refine value_ (w1 := w') (v := .string v) (by rfl) rfl ?_ ?_
        · go_simp
          (try simp only [i64_w])
          try rfl
        refine hK.out _ _ ⟨(by rw [ha.out]; exact putSel_upk 7 hb_ rfl rfl rfl), HBW.out⟩
      refine steps_cons ?_ ?_
      · rintro b a w' ⟨ha, HBW⟩ hb_ hon hoff
        refine ⟨_, rfl, fun K hK => ?_⟩
        have e13 : a.tmps[13]? = some (.func (.func 44) #[] #[.pointer (some ⟨rb, 0, none⟩)]) := by rw [ha]; exact putSel_on (e := (5, 13, .func (.func 44) #[] #[.pointer (some ⟨rb, 0, none⟩)])) 5 rfl rfl (hon 5 (by kernel_rfl)) rfl
        have e15 : a.tmps[15]? = some (.string v) := by rw [ha]; exact putSel_on (e := (7, 15, .string v)) 7 rfl rfl (hon 7 (by kernel_rfl)) rfl
        replace ha := Aside0.mk ha
        have HBW := Aside0.mk HBW
        have eg_ := fun args W => enters_ (P := Try.prog) Try.func44 (by kernel_rfl) rfl args W
        refine call_ 44 #[.string v, .pointer (some ⟨rb, 0, none⟩)] (by rfl) rfl ?_ ?_
        · unfold execOp; simp only [resolve, Deferred.ofValue, invoke, Act.eval, Array.getD_eq_getD_getElem?, Option.getD_some, e13, e15]
          go_simp
          try rfl
        refine (HO.out v w' (by omega) (blk_below (blk_drew HRU.out) HBW.out)).mono ?_
        rintro e w1 ⟨rfl, hb⟩
        refine ⟨_, rfl, ?_⟩
        refine hK.out _ _ ⟨(by rw [ha.out]; exact putSel_upk 8 hb_ rfl rfl rfl), below_step HBW.out hb⟩
      refine steps_cons ?_ ?_
      · rintro b a w' ⟨ha, HBW⟩ hb_ hon hoff
        refine ⟨_, rfl, fun K hK => ?_⟩
        have e8 : a.tmps[8]? = some (.agg #[.string (ruleFirst c), .string (ruleSep c), .bool true, .string (ruleEmpty c), .bool (ruleKeep c), .func (.func 44) #[] #[.pointer (some ⟨rb, 0, none⟩)]]) := by rw [ha]; exact putSel_on (e := (0, 8, .agg #[.string (ruleFirst c), .string (ruleSep c), .bool true, .string (ruleEmpty c), .bool (ruleKeep c), .func (.func 44) #[] #[.pointer (some ⟨rb, 0, none⟩)]])) 0 rfl rfl (hon 0 (by kernel_rfl)) rfl
        have e11 : a.tmps[11]? = some (.string (encS true k)) := by rw [ha]; exact putSel_on (e := (3, 11, .string (encS true k))) 3 rfl rfl (hon 3 (by kernel_rfl)) rfl
        have e16 : a.tmps[16]? = some (.string (encS (ruleKeep c) v)) := by rw [ha]; exact putSel_on (e := (8, 16, .string (encS (ruleKeep c) v))) 8 rfl rfl (hon 8 (by kernel_rfl)) rfl
        replace ha := Aside0.mk ha
        have HBW := Aside0.mk HBW
        refine goes_ Try.func43 (by kernel_rfl) rfl #[.agg #[.string (ruleFirst c), .string (ruleSep c), .bool true, .string (ruleEmpty c), .bool (ruleKeep c), .func (.func 44) #[] #[.pointer (some ⟨rb, 0, none⟩)]], .string (encS true k), .string (encS (ruleKeep c) v)] (by rfl) rfl rfl (by first | (simp only [List.map_toArray, List.map_cons, List.map_nil, Act.eval, Array.getD_eq_getD_getElem?, Option.getD_some, e8, e11, e16]; done) | (simp only [List.map_toArray, List.map_cons, List.map_nil, Act.eval, Array.getD_eq_getD_getElem?, Option.getD_some, e8, e11, e16]; rfl)) ?_
        refine (HND.out w').mono ?_
        rintro e w1 ⟨rfl, hb⟩
        refine ⟨_, rfl, ?_⟩
        refine hK.out _ _ ⟨(by rw [ha.out]; exact putSel_upk 9 hb_ rfl rfl rfl), below_step HBW.out hb⟩
      refine steps_cons ?_ ?_
      · rintro b a w' ⟨ha, HBW⟩ hb_ hon hoff
        refine ⟨_, rfl, fun K hK => ?_⟩
        have e17 : a.tmps[17]? = some (.string (namedS c (encS true k) (encS (ruleKeep c) v))) := by rw [ha]; exact putSel_on (e := (9, 17, .string (namedS c (encS true k) (encS (ruleKeep c) v)))) 9 rfl rfl (hon 9 (by kernel_rfl)) rfl
        replace ha := Aside0.mk ha
        have HBW := Aside0.mk HBW
        refine value_ (w1 := w') (v := .string (namedS c (encS true k) (encS (ruleKeep c) v))) (by rfl) rfl ?_ ?_
        · go_simp
          (try simp only [i64_w])
          try rfl
        refine hK.out _ _ ⟨(by rw [ha.out]; exact putSel_upk 10 hb_ rfl rfl rfl), HBW.out⟩
      exact steps_nil
    rintro b a w5 hall ⟨ha, HBW⟩
    have hb0_ := hall 0 (by kernel_rfl)
    have hb1_ := hall 1 (by kernel_rfl)
    have hb2_ := hall 2 (by kernel_rfl)
    have hb3_ := hall 3 (by kernel_rfl)
    have hb4_ := hall 4 (by kernel_rfl)
    have hb5_ := hall 5 (by kernel_rfl)
    have hb6_ := hall 6 (by kernel_rfl)
    have hb7_ := hall 7 (by kernel_rfl)
    have hb8_ := hall 8 (by kernel_rfl)
    have hb9_ := hall 9 (by kernel_rfl)
    have hb10_ := hall 10 (by kernel_rfl)
    subst ha
    simp only [putSel, hb0_, hb1_, hb2_, hb3_, hb4_, hb5_, hb6_, hb7_, hb8_, hb9_, hb10_, if_true, Act.put, List.setIfInBounds_toArray, List.set_cons_zero, List.set_cons_succ]
    have HBW := Aside0.mk HBW
    clear hall hb0_ hb1_ hb2_ hb3_ hb4_ hb5_ hb6_ hb7_ hb8_ hb9_ hb10_
    go_wp2_with fail
    go_ret
    exact ⟨by rw [HN.out]; rfl, below_step (below_drew1 HB.out) HBW.out⟩
  | false =>
    have HN := Aside0.mk (show pairS c k v = encS (ruleKeep c) k ++ ⟨#[61]⟩ ++ encS (ruleKeep c) v from if_neg (by rw [h]; decide))
    have q1 : (9223372036854775807 < (encS (ruleKeep c) k).size + (⟨#[61]⟩ : ByteArray).size) = False := eq_false (by show ¬ (_ < (encS (ruleKeep c) k).size + 1); omega)
    have q2 : (9223372036854775807 < (encS (ruleKeep c) k).size + 1) = False := eq_false (by omega)
    have q3 : (9223372036854775807 < (encS (ruleKeep c) k ++ (⟨#[61]⟩ : ByteArray)).size + (encS (ruleKeep c) v).size) = False := eq_false (by rw [ByteArray.size_append]; show ¬ (_ < (encS (ruleKeep c) k).size + 1 + (encS (ruleKeep c) v).size); omega)
    have q4 : (9223372036854775807 < (encS (ruleKeep c) k).size + 1 + (encS (ruleKeep c) v).size) = False := eq_false (by omega)
    go_enter Try.func55, Try.ntmps55
    go_wp2_with fail
    refine forget (P := fun W => Code.wp _ _ _ _ W) _ (fun w1 => w1.heap[rb]? = some (.cells (ruleCells c) 43 (0, 0)) ∧ w1.heap[w.heap.size + 1]? = some (.cells #[.string k, .string v] 69 (0, 0)) ∧ w1.heap[w.heap.size]? = some (.cells #[.string (ruleFirst c), .string (ruleSep c), .bool false, .string (ruleEmpty c), .bool (ruleKeep c), .func (.func 44) #[] #[.pointer (some ⟨rb, 0, none⟩)]] 53 (0, 0)) ∧ Below w.heap.size w w1) ⟨blk_alloc (blk_alloc HR.out _) _, X.blk_new2 w _ _, blk_alloc (blk_new w _) _, X.below_new2 w _ _⟩ ?_
    rintro w1 ⟨hru, hpr, hwy, hbl⟩
    have HRU := Aside0.mk hru
    have HPR := Aside0.mk hpr
    have HWY := Aside0.mk hwy
    have HB := Aside0.mk hbl
    clear hru hpr hwy hbl
    refine start_ (n := 13) (S := fun w' => True) (ds := []) #[false, false, false, false, false, false, false, false, false, false, false, false, false] (by kernel_rfl) rfl rfl trivial (fun hHeld => ?_)
    refine with_tabW pairF.tab3 pairF.bits3 (fun HT_ HW_ => ?_)
    refine inv_at [0, 1, 2, 3, 4, 5, 6, 7, 8, 9, 10, 11, 12] (fun a0_ b a w' => a = putSel a0_ b [(0, 18, .pointer (some ⟨w.heap.size, 5, none⟩)), (1, 19, .func (.func 44) #[] #[.pointer (some ⟨rb, 0, none⟩)]), (2, 20, .pointer (some ⟨w.heap.size + 1, 0, none⟩)), (3, 21, .string k), (4, 22, .string (encS (ruleKeep c) k)), (5, 23, .string (encS (ruleKeep c) k ++ (⟨#[61]⟩ : ByteArray))), (6, 24, .pointer (some ⟨w.heap.size, 5, none⟩)), (7, 25, .func (.func 44) #[] #[.pointer (some ⟨rb, 0, none⟩)]), (8, 26, .pointer (some ⟨w.heap.size + 1, 1, none⟩)), (9, 27, .string v), (10, 28, .string (encS (ruleKeep c) v)), (11, 29, .string (encS (ruleKeep c) k ++ (⟨#[61]⟩ : ByteArray) ++ encS (ruleKeep c) v)), (12, 4, .string (encS (ruleKeep c) k ++ (⟨#[61]⟩ : ByteArray) ++ encS (ruleKeep c) v))] ∧ Below w1.drew.heap.size w1.drew w') HT_.out HW_.out (by kernel_rfl) (by kernel_rfl) ?_ ?_ ?_
    · exact ⟨by simp only [putSel, Bool.false_eq_true, if_false], Below.refl _ _⟩
    · clear hHeld HT_ HW_
      refine steps_cons ?_ ?_
      · rintro b a w' ⟨ha, HBW⟩ hb_ hon hoff
        refine ⟨_, rfl, fun K hK => ?_⟩
        have e2 : a.tmps[2]? = some (.pointer (some ⟨w.heap.size, 0, none⟩)) := by rw [ha]; exact (putSel_off rfl).trans rfl
        replace ha := Aside0.mk ha
        have HBW := Aside0.mk HBW
        refine value_ (w1 := w') (v := .pointer (some ⟨w.heap.size, 5, none⟩)) (by rfl) rfl ?_ ?_
        · go_simp
          (try simp only [i64_w])
          try rfl
        refine hK.out _ _ ⟨(by rw [ha.out]; exact putSel_upk 0 hb_ rfl rfl rfl), HBW.out⟩
      refine steps_cons ?_ ?_
      · rintro b a w' ⟨ha, HBW⟩ hb_ hon hoff
        refine ⟨_, rfl, fun K hK => ?_⟩
        have e18 : a.tmps[18]? = some (.pointer (some ⟨w.heap.size, 5, none⟩)) := by rw [ha]; exact putSel_on (e := (0, 18, .pointer (some ⟨w.heap.size, 5, none⟩))) 0 rfl rfl (hon 0 (by kernel_rfl)) rfl
        replace ha := Aside0.mk ha
        have HBW := Aside0.mk HBW
        have c0_ := (blk_cell (blk_below (blk_drew HWY.out) HBW.out) 5).trans rfl
        refine value_ (w1 := w') (v := .func (.func 44) #[] #[.pointer (some ⟨rb, 0, none⟩)]) (by rfl) rfl ?_ ?_
        · go_simp
          (try simp only [i64_w])
          try rfl
        refine hK.out _ _ ⟨(by rw [ha.out]; exact putSel_upk 1 hb_ rfl rfl rfl), HBW.out⟩
      refine steps_cons ?_ ?_
      · rintro b a w' ⟨ha, HBW⟩ hb_ hon hoff
        refine ⟨_, rfl, fun K hK => ?_⟩
        have e3 : a.tmps[3]? = some (.pointer (some ⟨w.heap.size + 1, 0, none⟩)) := by rw [ha]; exact (putSel_off rfl).trans rfl
        replace ha := Aside0.mk ha
        have HBW := Aside0.mk HBW
        refine value_ (w1 := w') (v := .pointer (some ⟨w.heap.size + 1, 0, none⟩)) (by rfl) rfl ?_ ?_
        · go_simp
          (try simp only [i64_w])
          try rfl
        refine hK.out _ _ ⟨(by rw [ha.out]; exact putSel_upk 2 hb_ rfl rfl rfl), HBW.out⟩
      refine steps_cons ?_ ?_
      · rintro b a w' ⟨ha, HBW⟩ hb_ hon hoff
        refine ⟨_, rfl, fun K hK => ?_⟩
        have e20 : a.tmps[20]? = some (.pointer (some ⟨w.heap.size + 1, 0, none⟩)) := by rw [ha]; exact putSel_on (e := (2, 20, .pointer (some ⟨w.heap.size + 1, 0, none⟩))) 2 rfl rfl (hon 2 (by kernel_rfl)) rfl
        replace ha := Aside0.mk ha
        have HBW := Aside0.mk HBW
        have c0_ := (blk_cell (blk_below (blk_drew HPR.out) HBW.out) 0).trans rfl
        refine value_ (w1 := w') (v := .string k) (by rfl) rfl ?_ ?_
        · go_simp
          (try simp only [i64_w])
          try rfl
        refine hK.out _ _ ⟨(by rw [ha.out]; exact putSel_upk 3 hb_ rfl rfl rfl), HBW.out⟩
      refine steps_cons ?_ ?_
      · rintro b a w' ⟨ha, HBW⟩ hb_ hon hoff
        refine ⟨_, rfl, fun K hK => ?_⟩
        have e19 : a.tmps[19]? = some (.func (.func 44) #[] #[.pointer (some ⟨rb, 0, none⟩)]) := by rw [ha]; exact putSel_on (e := (1, 19, .func (.func 44) #[] #[.pointer (some ⟨rb, 0, none⟩)])) 1 rfl rfl (hon 1 (by kernel_rfl)) rfl
        have e21 : a.tmps[21]? = some (.string k) := by rw [ha]; exact putSel_on (e := (3, 21, .string k)) 3 rfl rfl (hon 3 (by kernel_rfl)) rfl
        replace ha := Aside0.mk ha
        have HBW := Aside0.mk HBW
        have eg_ := fun args W => enters_ (P := Try.prog) Try.func44 (by kernel_rfl) rfl args W
        refine call_ 44 #[.string k, .pointer (some ⟨rb, 0, none⟩)] (by rfl) rfl ?_ ?_
        · unfold execOp; simp only [resolve, Deferred.ofValue, invoke, Act.eval, Array.getD_eq_getD_getElem?, Option.getD_some, e19, e21]
          go_simp
          try rfl
        refine (HO.out k w' (by omega) (blk_below (blk_drew HRU.out) HBW.out)).mono ?_
        rintro e w1 ⟨rfl, hb⟩
        refine ⟨_, rfl, ?_⟩
        refine hK.out _ _ ⟨(by rw [ha.out]; exact putSel_upk 4 hb_ rfl rfl rfl), below_step HBW.out hb⟩
      refine steps_cons ?_ ?_
      · rintro b a w' ⟨ha, HBW⟩ hb_ hon hoff
        refine ⟨_, rfl, fun K hK => ?_⟩
        have e22 : a.tmps[22]? = some (.string (encS (ruleKeep c) k)) := by rw [ha]; exact putSel_on (e := (4, 22, .string (encS (ruleKeep c) k))) 4 rfl rfl (hon 4 (by kernel_rfl)) rfl
        replace ha := Aside0.mk ha
        have HBW := Aside0.mk HBW
        refine value_ (w1 := w') (v := .string (encS (ruleKeep c) k ++ (⟨#[61]⟩ : ByteArray))) (by rfl) rfl ?_ ?_
        · go_simp
          (try simp only [i64_w])
          try rfl
        refine hK.out _ _ ⟨(by rw [ha.out]; exact putSel_upk 5 hb_ rfl rfl rfl), HBW.out⟩
      refine steps_cons ?_ ?_
      · rintro b a w' ⟨ha, HBW⟩ hb_ hon hoff
        refine ⟨_, rfl, fun K hK => ?_⟩
        have e2 : a.tmps[2]? = some (.pointer (some ⟨w.heap.size, 0, none⟩)) := by rw [ha]; exact (putSel_off rfl).trans rfl
        replace ha := Aside0.mk ha
        have HBW := Aside0.mk HBW
        refine value_ (w1 := w') (v := .pointer (some ⟨w.heap.size, 5, none⟩)) (by rfl) rfl ?_ ?_
        · go_simp
          (try simp only [i64_w])
          try rfl
        refine hK.out _ _ ⟨(by rw [ha.out]; exact putSel_upk 6 hb_ rfl rfl rfl), HBW.out⟩
      refine steps_cons ?_ ?_
      · rintro b a w' ⟨ha, HBW⟩ hb_ hon hoff
        refine ⟨_, rfl, fun K hK => ?_⟩
        have e24 : a.tmps[24]? = some (.pointer (some ⟨w.heap.size, 5, none⟩)) := by rw [ha]; exact putSel_on (e := (6, 24, .pointer (some ⟨w.heap.size, 5, none⟩))) 6 rfl rfl (hon 6 (by kernel_rfl)) rfl
        replace ha := Aside0.mk ha
        have HBW := Aside0.mk HBW
        have c0_ := (blk_cell (blk_below (blk_drew HWY.out) HBW.out) 5).trans rfl
        refine value_ (w1 := w') (v := .func (.func 44) #[] #[.pointer (some ⟨rb, 0, none⟩)]) (by rfl) rfl ?_ ?_
        · go_simp
          (try simp only [i64_w])
          try rfl
        refine hK.out _ _ ⟨(by rw [ha.out]; exact putSel_upk 7 hb_ rfl rfl rfl), HBW.out⟩
      refine steps_cons ?_ ?_
      · rintro b a w' ⟨ha, HBW⟩ hb_ hon hoff
        refine ⟨_, rfl, fun K hK => ?_⟩
        have e3 : a.tmps[3]? = some (.pointer (some ⟨w.heap.size + 1, 0, none⟩)) := by rw [ha]; exact (putSel_off rfl).trans rfl
        replace ha := Aside0.mk ha
        have HBW := Aside0.mk HBW
        refine value_ (w1 := w') (v := .pointer (some ⟨w.heap.size + 1, 1, none⟩)) (by rfl) rfl ?_ ?_
        · go_simp
          (try simp only [i64_w])
          try rfl
        refine hK.out _ _ ⟨(by rw [ha.out]; exact putSel_upk 8 hb_ rfl rfl rfl), HBW.out⟩
      refine steps_cons ?_ ?_
      · rintro b a w' ⟨ha, HBW⟩ hb_ hon hoff
        refine ⟨_, rfl, fun K hK => ?_⟩
        have e26 : a.tmps[26]? = some (.pointer (some ⟨w.heap.size + 1, 1, none⟩)) := by rw [ha]; exact putSel_on (e := (8, 26, .pointer (some ⟨w.heap.size + 1, 1, none⟩))) 8 rfl rfl (hon 8 (by kernel_rfl)) rfl
        replace ha := Aside0.mk ha
        have HBW := Aside0.mk HBW
        have c0_ := (blk_cell (blk_below (blk_drew HPR.out) HBW.out) 1).trans rfl
        refine value_ (w1 := w') (v := .string v) (by rfl) rfl ?_ ?_
        · go_simp
          (try simp only [i64_w])
          try rfl
        refine hK.out _ _ ⟨(by rw [ha.out]; exact putSel_upk 9 hb_ rfl rfl rfl), HBW.out⟩
      refine steps_cons ?_ ?_
      · rintro b a w' ⟨ha, HBW⟩ hb_ hon hoff
        refine ⟨_, rfl, fun K hK => ?_⟩
        have e25 : a.tmps[25]? = some (.func (.func 44) #[] #[.pointer (some ⟨rb, 0, none⟩)]) := by rw [ha]; exact putSel_on (e := (7, 25, .func (.func 44) #[] #[.pointer (some ⟨rb, 0, none⟩)])) 7 rfl rfl (hon 7 (by kernel_rfl)) rfl
        have e27 : a.tmps[27]? = some (.string v) := by rw [ha]; exact putSel_on (e := (9, 27, .string v)) 9 rfl rfl (hon 9 (by kernel_rfl)) rfl
        replace ha := Aside0.mk ha
        have HBW := Aside0.mk HBW
        have eg_ := fun args W => enters_ (P := Try.prog) Try.func44 (by kernel_rfl) rfl args W
        refine call_ 44 #[.string v, .pointer (some ⟨rb, 0, none⟩)] (by rfl) rfl ?_ ?_
        · unfold execOp; simp only [resolve, Deferred.ofValue, invoke, Act.eval, Array.getD_eq_getD_getElem?, Option.getD_some, e25, e27]
          go_simp
          try rfl
        refine (HO.out v w' (by omega) (blk_below (blk_drew HRU.out) HBW.out)).mono ?_
        rintro e w1 ⟨rfl, hb⟩
        refine ⟨_, rfl, ?_⟩
        refine hK.out _ _ ⟨(by rw [ha.out]; exact putSel_upk 10 hb_ rfl rfl rfl), below_step HBW.out hb⟩
      refine steps_cons ?_ ?_
      · rintro b a w' ⟨ha, HBW⟩ hb_ hon hoff
        refine ⟨_, rfl, fun K hK => ?_⟩
        have e23 : a.tmps[23]? = some (.string (encS (ruleKeep c) k ++ (⟨#[61]⟩ : ByteArray))) := by rw [ha]; exact putSel_on (e := (5, 23, .string (encS (ruleKeep c) k ++ (⟨#[61]⟩ : ByteArray)))) 5 rfl rfl (hon 5 (by kernel_rfl)) rfl
        have e28 : a.tmps[28]? = some (.string (encS (ruleKeep c) v)) := by rw [ha]; exact putSel_on (e := (10, 28, .string (encS (ruleKeep c) v))) 10 rfl rfl (hon 10 (by kernel_rfl)) rfl
        replace ha := Aside0.mk ha
        have HBW := Aside0.mk HBW
        refine value_ (w1 := w') (v := .string (encS (ruleKeep c) k ++ (⟨#[61]⟩ : ByteArray) ++ encS (ruleKeep c) v)) (by rfl) rfl ?_ ?_
        · go_simp
          (try simp only [i64_w])
          try rfl
        refine hK.out _ _ ⟨(by rw [ha.out]; exact putSel_upk 11 hb_ rfl rfl rfl), HBW.out⟩
      refine steps_cons ?_ ?_
      · rintro b a w' ⟨ha, HBW⟩ hb_ hon hoff
        refine ⟨_, rfl, fun K hK => ?_⟩
        have e29 : a.tmps[29]? = some (.string (encS (ruleKeep c) k ++ (⟨#[61]⟩ : ByteArray) ++ encS (ruleKeep c) v)) := by rw [ha]; exact putSel_on (e := (11, 29, .string (encS (ruleKeep c) k ++ (⟨#[61]⟩ : ByteArray) ++ encS (ruleKeep c) v))) 11 rfl rfl (hon 11 (by kernel_rfl)) rfl
        replace ha := Aside0.mk ha
        have HBW := Aside0.mk HBW
        refine value_ (w1 := w') (v := .string (encS (ruleKeep c) k ++ (⟨#[61]⟩ : ByteArray) ++ encS (ruleKeep c) v)) (by rfl) rfl ?_ ?_
        · go_simp
          (try simp only [i64_w])
          try rfl
        refine hK.out _ _ ⟨(by rw [ha.out]; exact putSel_upk 12 hb_ rfl rfl rfl), HBW.out⟩
      exact steps_nil
    rintro b a w5 hall ⟨ha, HBW⟩
    have hb0_ := hall 0 (by kernel_rfl)
    have hb1_ := hall 1 (by kernel_rfl)
    have hb2_ := hall 2 (by kernel_rfl)
    have hb3_ := hall 3 (by kernel_rfl)
    have hb4_ := hall 4 (by kernel_rfl)
    have hb5_ := hall 5 (by kernel_rfl)
    have hb6_ := hall 6 (by kernel_rfl)
    have hb7_ := hall 7 (by kernel_rfl)
    have hb8_ := hall 8 (by kernel_rfl)
    have hb9_ := hall 9 (by kernel_rfl)
    have hb10_ := hall 10 (by kernel_rfl)
    have hb11_ := hall 11 (by kernel_rfl)
    have hb12_ := hall 12 (by kernel_rfl)
    subst ha
    simp only [putSel, hb0_, hb1_, hb2_, hb3_, hb4_, hb5_, hb6_, hb7_, hb8_, hb9_, hb10_, hb11_, hb12_, if_true, Act.put, List.setIfInBounds_toArray, List.set_cons_zero, List.set_cons_succ]
    have HBW := Aside0.mk HBW
    clear hall hb0_ hb1_ hb2_ hb3_ hb4_ hb5_ hb6_ hb7_ hb8_ hb9_ hb10_ hb11_ hb12_
    go_wp2_with fail
    go_ret
    exact ⟨by rw [HN.out]; rfl, below_step (below_drew1 HB.out) HBW.out⟩
end Go.Proofs.Ytbjeegkmafbejaa.X
