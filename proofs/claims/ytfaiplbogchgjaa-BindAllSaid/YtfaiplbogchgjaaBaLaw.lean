/- Texts of this claim, those that nothing needs left out: Zbi Zbj Zbl Zbf Zbm Xvb LawBindAll. -/
import Derived.Test.YtfaiplbogchgjaaBaG25
import Derived.Test.YtfaiplbogchgjaaBaG27
import Derived.Test.YtfaiplbogchgjaaBaG21
import Derived.Test.YtfaiplbogchgjaaBaG17
import Derived.Test.YtfaiplbogchgjaaBaG5
import Derived.Test.YtfaiplbogchgjaaBaG16
import Derived.Test.YtfaiplbogchgjaaRows
import Derived.WalkKit
import Derived.ProofKit
import Derived.OpenShut
import Derived.ShutString
import Derived.ChangeOld
import Derived.Below
import Derived.SizedLaws
section
namespace Go.Proofs.Ytfaiplbogchgjaa.PA
set_option linter.unusedSimpArgs false
set_option linter.unusedVariables false
open Go.RowKit Go.Proofs.YtfaiplbogchgjaaW.PrintWords Go.Proofs.YtfaiplbogchgjaaW.PrintLast
set_option maxHeartbeats 8000000 in
set_option maxRecDepth 100000 in
theorem bclone_of (A : Option Addr) (c : Nat) (l : List S38) (w w0 : World) (hr : ReadsRow (k38.K w0) 5 w A l.length l) (hl : l.length ≤ 1000000) :
    Calls Try.prog 34 #[.slice A l.length c] w fun e W => ∃ v, e = .returned v ∧ Kd.R (seen k38 w0) 38 W w.heap.size (fun _ => True) v l ∧ Below w.heap.size w W := by
  have HR := Aside0.mk hr
  clear hr
  have q22 : ∀ (w : World) (a : Option Addr) (n c n' c' : Nat), (binOp .eql 22 (.slice a n c) (.slice none n' c')).run Try.prog w = .ok (.bool a.isNone) w := fun w a n c n' c' => Lib.run_eql_slice_nil w _ _ a n c n' c' Try.underlying22
  rcases A with _ | ad
  · have hl0 : l = [] := by
      cases l with
      | nil => rfl
      | cons x l => obtain ⟨ad, h, _⟩ := HR.out.2.2 (by simp); cases h
    subst hl0
    go_enter Try.func34, Try.ntmps34
    go_wp2_with fail
    go_ret
    exact ⟨_, rfl, ⟨fun _ _ => trivial, [], ⟨rfl, .inl ⟨rfl, rfl⟩⟩, Reps.none _ _⟩, Below.refl _ _⟩
  · go_enter Try.func34, Try.ntmps34
    have he := R_empty w0 w w.heap.size (Nat.le_refl _)
    have hbe : Below w.heap.size w (w.alloc (.cells #[] 38)) := below_alloc (Below.refl _ _) _
    have hrr : ReadsRow (k38.K w0) 5 (w.alloc (.cells #[] 38)) (some ad) l.length l := ReadsRow.imp_ HR.out hbe (fun _ _ h => h)
    go_wp2_with (at_builtin; refine Kd.R_append_rows (seen k38 w0) (w0 := w) (Rr := k38.K w0) w.heap.size rfl _ _ 22 38 (.agg #[(.string ⟨#[]⟩), (.int .i64 0), (.string ⟨#[]⟩), (.slice none 0 0), (.slice none 0 0)]) 88 rfl Try.underlying22 bind_info rfl (show 0 < 5 by decide) (by decide) _ [] l (some ad) l.length c (fun _ => True) (fun _ => False) rfl rfl he hrr (fun _ _ h => h) (fun _ h => h.elim) (fun _ _ => trivial) hbe hbe.size (by simp; omega) ?_; intro v1 w1 q1 q2 q3 q4)
    go_ret
    exact ⟨_, rfl, by simpa using q1, q2⟩
theorem reps_one {α : Type} {R : α → List Value → Prop} {size : Nat} {ps : List α} {cs : List Value} (h : Reps R size ps cs) (hs : 0 < size) (h1 : ∀ p c, R p c → ∀ u ∈ c, u.oneCell' = true) : ∀ u ∈ cs, u.oneCell' = true := by
  intro u hu
  obtain ⟨i, hi, rfl⟩ := List.getElem_of_mem hu
  have hj : i / size < ps.length := by rw [Nat.div_lt_iff_lt_mul hs, ← h.1]; exact hi
  have h2 := h.2 _ _ (List.getElem?_eq_getElem hj)
  refine h1 _ _ h2 _ ?_
  have e := Nat.div_add_mod i size
  have hm := Nat.mod_lt i hs
  refine List.mem_iff_getElem.2 ⟨i % size, ?_, ?_⟩
  · rw [List.length_take, List.length_drop, Nat.lt_min]
    refine ⟨hm, ?_⟩
    rw [Nat.mul_comm] at e
    omega
  · rw [List.getElem_take, List.getElem_drop]
    congr 1
    rw [Nat.mul_comm] at e
    exact e
theorem bins_of (v : Value) (l : List S38) (x : S38) (vs : List Value) (w w0 w1 : World) (base : Nat) (hR : Kd.R (seen k38 w0) 38 w base (fun _ => True) v l) (hl : l.length ≤ 1000000) (hK : k38.K w0 x vs)
    (vb : Nat) (hv : w.heap[vb]? = some (.cells vs.toArray 38 (0, 0))) (hvb : some vb ≠ v.ownBlock) (hb : Below base w1 w) (hbase : base ≤ w.heap.size) :
    Calls Try.prog 33 #[v, .int .i64 0, .slice (some ⟨vb, 0, none⟩) 1 1] w fun e w' => ∃ s', e = .returned s' ∧ Kd.R (seen k38 w0) 38 w' base (fun _ => True) s' (x :: l) ∧ Below base w1 w' := by
  obtain ⟨_, inner, ho, hr⟩ := hR
  have hvl : vs.length = 5 := k38.K_len hK
  have h1v := k38.K_one hK
  have h1c := reps_one hr (show 0 < 5 by decide) (fun _ _ h => k38.K_one h)
  have hr1 : Reps (k38.K w0) 5 [x] vs := by have := (Reps.none (k38.K w0) 5).snoc hK hvl; simpa using this
  have fin : ∀ (e : Ending) (w' : World), (∃ s', e = .returned s' ∧ World.ownsRow w' base 38 5 s' (l.length + 1) (vs ++ inner) ∧ Below base w1 w') → ∃ s', e = .returned s' ∧ Kd.R (seen k38 w0) 38 w' base (fun _ => True) s' (x :: l) ∧ Below base w1 w' := by
    rintro e w' ⟨s', he, ho', hb'⟩
    exact ⟨s', he, ⟨fun _ _ => trivial, vs ++ inner, ho', Kd.reps_append hr1 hr⟩, hb'⟩
  have ho2 := ho
  obtain ⟨hlen, h⟩ := ho2
  change inner.length = l.length * 5 at hlen
  rcases h with ⟨rfl, hn⟩ | ⟨g, cap, cur, rfl, hg1, hg2, hg3, hg4, hg5, hg6⟩
  · have hi : inner = [] := List.length_eq_zero_iff.1 (by rw [hlen, hn])
    subst hi
    rw [hn] at ho
    refine (X.insert_none base none 0 vs w ho hbase vb hv hvl h1v w1 hb).mono fun e w' h => fin e w' ?_
    simpa [hn] using h
  · change cur.size = cap * 5 at hg5
    change cur.toList.take (l.length * 5) = inner at hg6
    have hvg : vb ≠ g := fun h => hvb (by rw [h]; rfl)
    rcases Nat.eq_zero_or_pos l.length with hn | hn
    · have hi : inner = [] := List.length_eq_zero_iff.1 (by rw [hlen, hn])
      subst hi
      rw [hn] at ho ⊢
      refine (X.insert_none base _ cap vs w ho hbase vb hv hvl h1v w1 hb).mono fun e w' h => fin e w' ?_
      simpa [hn] using h
    · rcases Nat.lt_or_ge cap (l.length + 1) with hc | hc
      · exact (X.insert_grow base g l.length cap inner vs cur w hn hl hg3 hc hg2 hlen hg5 hg6 h1c hbase vb hv hvl h1v w1 hb).mono fin
      · exact (X.insert_shift base g l.length cap inner vs cur w hn hl hc hg4 hg2 hlen hg5 hg6 h1c hg1 vb hvg hv hvl h1v w1 hb).mono fin
def set.T : Bool × List (List Nat × List Nat) := (true, [([], []), ([0], [0]), ([], []), ([], []), ([2, 3], [2, 3]), ([4], [4]), ([1, 5, 1], [1, 5]), ([6, 6], [6]), ([7, 7, 0, 1, 2, 3, 4, 5, 6, 7], [7])])
def set.B : List Nat := [0, 1, 0, 0, 12, 28, 63, 127, 255]
theorem set.tab : rtab .any (opsOf Try.f24 1) = set.T := by kernel_rfl
theorem set.bits : waitsOk set.T.2 set.B = true := by kernel_rfl
def SetI (w wr : World) (l : List S38) (x : S38) (obj : Obj) (bb : Nat → Bool) (ww : World) (v1 v5 v6 v7 v8 : Value) : Prop :=
  Below wr.heap.size wr ww ∧
  (bb 1 = true → bb 6 = false → Kd.R (seen k38 w) 38 ww wr.heap.size (fun _ => True) v1 l) ∧
  (bb 5 = true → bb 6 = false → ∃ g, v5 = .slice (some ⟨g, 0, none⟩) 1 1 ∧ ww.heap[g]? = some obj ∧ (bb 1 = true → some g ≠ v1.ownBlock)) ∧
  (bb 6 = true → bb 7 = false → Kd.R (seen k38 w) 38 ww wr.heap.size (fun _ => True) v6 (x :: l)) ∧
  (bb 7 = true → Kd.R k38 38 ww wr.heap.size (fun _ => True) v7 (canonB (x :: l))) ∧ (bb 8 = true → v8 = v7)
set_option maxHeartbeats 8000000 in
set_option maxRecDepth 100000 in
theorem set_of (A : Option Addr) (c : Nat) (l : List S38) (nm : ByteArray) (s : S28) (A3 A4 : Option Addr) (c3 c4 : Nat) (w : World) (hr : Kd.C k38 w A l.length l) (hm : modestB (⟨nm, s⟩ :: l))
    (l3 : s.f2.length ≤ c3) (g3 : Kd.C Kd.string w A3 s.f2.length s.f2) (l4 : s.f3.length ≤ c4) (g4 : Kd.C k50 w A4 s.f3.length s.f3) :
    Calls Try.prog 24 #[.slice A l.length c, .string nm, .agg #[.int .i64 s.f0, .string s.f1, .slice A3 s.f2.length c3, .slice A4 s.f3.length c4]] w fun e W => ∃ v, e = .returned v ∧ Kd.R k38 38 W w.heap.size (fun _ => True) v (canonB (⟨nm, s⟩ :: l)) ∧ Below w.heap.size w W := by
  have hK := k38_mk w ⟨nm, s⟩ l3 g3 l4 g4
  have HR := Aside0.mk hr
  have HM := Aside0.mk hm
  have HK := Aside0.mk hK
  have hl1 := HM.out.1
  clear hr hm hK l3 g3 l4 g4
  have hl2 : l.length ≤ 1000 := by simp at hl1; omega
  go_enter Try.func24, Try.ntmps24
  go_wp2_with fail
  have hbw : Below w.heap.size w (w.alloc (.cells #[.int .i64 s.f0, .string s.f1, .slice A3 s.f2.length c3, .slice A4 s.f3.length c4] 28)) := X.below_new1 _ _
  have hbl := blk_new w (.cells #[.int .i64 s.f0, .string s.f1, .slice A3 s.f2.length c3, .slice A4 s.f3.length c4] 28)
  revert hbw hbl
  generalize (w.alloc (.cells #[.int .i64 s.f0, .string s.f1, .slice A3 s.f2.length c3, .slice A4 s.f3.length c4] 28)) = wr
  intro hbw hbl
  have HBW := Aside0.mk hbw
  have KB := Aside0.mk hbl
  clear hbw hbl
  refine start_ (n := 9) (S := fun _ => True) (ds := []) #[false, false, false, false, false, false, false, false, false] (by kernel_rfl) rfl rfl trivial (fun hHeld => ?_)
  refine with_tabW set.tab set.bits (fun HT_ HW_ => ?_)
  refine inv_at [0, 1, 2, 3, 4, 5, 6, 7, 8] (fun a0_ bb aa ww => ∃ v1 v5 v6 v7 v8, aa = putSel a0_ bb [(0, 7, .slice A l.length c), (1, 8, v1), (2, 9, .string nm), (3, 10, .agg #[.int .i64 s.f0, .string s.f1, .slice A3 s.f2.length c3, .slice A4 s.f3.length c4]), (4, 11, .agg #[.string nm, .int .i64 s.f0, .string s.f1, .slice A3 s.f2.length c3, .slice A4 s.f3.length c4]), (5, 12, v5), (6, 13, v6), (7, 14, v7), (8, 6, v8)] ∧ SetI w wr l ⟨nm, s⟩ (.cells #[.string nm, .int .i64 s.f0, .string s.f1, .slice A3 s.f2.length c3, .slice A4 s.f3.length c4] 38 (0, 0)) bb ww v1 v5 v6 v7 v8) HT_.out HW_.out (by kernel_rfl) (by kernel_rfl) ?_ ?_ ?_
  · exact ⟨.bool false, .bool false, .bool false, .bool false, .bool false, by simp only [putSel, Bool.false_eq_true, if_false], pw_below_drewN (Below.refl _ _) 1, fun h => absurd h (by decide), fun h => absurd h (by decide), fun h => absurd h (by decide), fun h => absurd h (by decide), fun h => absurd h (by decide)⟩
  · clear hHeld HT_ HW_
    refine steps_cons ?_ ?_
    · rintro bb aa ww ⟨v1, v5, v6, v7, v8, ha, hB, q1, q5, q6, q7, q8⟩ hb_ hon hoff
      refine ⟨_, rfl, fun KK hK => ?_⟩
      have e0 : aa.tmps[0]? = some (.slice A l.length c) := by rw [ha]; exact (putSel_off rfl).trans rfl
      replace ha := Aside0.mk ha
      refine value_ (w1 := ww) (v := .slice A l.length c) (by rfl) rfl ?_ ?_
      · go_simp
        try rfl
      refine hK.out _ _ ⟨v1, v5, v6, v7, v8, (by rw [ha.out]; exact putSel_upk 0 hb_ rfl rfl rfl), hB, ?_, ?_, ?_, ?_, ?_⟩
      · intro h h'; rw [up_ne (by decide)] at h h'; exact q1 h h'
      · intro h h'
        rw [up_ne (by decide)] at h h'
        obtain ⟨g, e5, hg, d5⟩ := q5 h h'
        exact ⟨g, e5, hg, fun h => by rw [up_ne (by decide)] at h; exact d5 h⟩
      · intro h h'; rw [up_ne (by decide)] at h h'; exact q6 h h'
      · intro h; rw [up_ne (by decide)] at h; exact q7 h
      · intro h; rw [up_ne (by decide)] at h; exact q8 h
    refine steps_cons ?_ ?_
    · rintro bb aa ww ⟨v1, v5, v6, v7, v8, ha, hB, q1, q5, q6, q7, q8⟩ hb_ hon hoff
      refine ⟨_, rfl, fun KK hK => ?_⟩
      have hb6 : bb 6 = false := hoff 6 (by kernel_rfl)
      have hb7 : bb 7 = false := hoff 7 (by kernel_rfl)
      have e7 : aa.tmps[7]? = some (.slice A l.length c) := by rw [ha]; exact putSel_on (e := (0, 7, .slice A l.length c)) 0 rfl rfl (hon 0 (by kernel_rfl)) rfl
      replace ha := Aside0.mk ha
      refine goes_ Try.func34 (by kernel_rfl) rfl #[.slice A l.length c] (by rfl) rfl rfl (by first | (simp only [List.map_toArray, List.map_cons, List.map_nil, Act.eval, Array.getD_eq_getD_getElem?, Option.getD_some, e7]; done) | (simp only [List.map_toArray, List.map_cons, List.map_nil, Act.eval, Array.getD_eq_getD_getElem?, Option.getD_some, e7]; rfl)) ?_
      have hww : Below w.heap.size w ww := HBW.out.trans (hB.mono HBW.out.size)
      refine (bclone_of A c l ww w (ReadsRow.imp_ HR.out hww (fun _ _ h => h)) (by omega)).mono ?_
      rintro e w1 ⟨v, rfl, hv, hb⟩
      refine ⟨_, rfl, ?_⟩
      refine hK.out _ _ ⟨v, v5, v6, v7, v8, (by rw [ha.out]; exact putSel_upk 1 hb_ rfl rfl rfl), below_step hB hb, ?_, ?_, ?_, ?_, ?_⟩
      · intro h h'; exact Kd.R_lower hv hB.size
      · intro h h'
        rw [up_ne (by decide)] at h h'
        obtain ⟨g, e5, hg, d5⟩ := q5 h h'
        refine ⟨g, e5, blk_below hg hb, fun _ e => ?_⟩
        have := Kd.R_base hv _ e.symm
        have := blk_lt hg
        omega
      · intro h; rw [up_ne (by decide), hb6] at h; cases h
      · intro h; rw [up_ne (by decide), hb7] at h; cases h
      · intro h; rw [up_ne (by decide)] at h; exact q8 h
    refine steps_cons ?_ ?_
    · rintro bb aa ww ⟨v1, v5, v6, v7, v8, ha, hB, q1, q5, q6, q7, q8⟩ hb_ hon hoff
      refine ⟨_, rfl, fun KK hK => ?_⟩
      have e1 : aa.tmps[1]? = some (.string nm) := by rw [ha]; exact (putSel_off rfl).trans rfl
      replace ha := Aside0.mk ha
      refine value_ (w1 := ww) (v := .string nm) (by rfl) rfl ?_ ?_
      · go_simp
        try rfl
      refine hK.out _ _ ⟨v1, v5, v6, v7, v8, (by rw [ha.out]; exact putSel_upk 2 hb_ rfl rfl rfl), hB, ?_, ?_, ?_, ?_, ?_⟩
      · intro h h'; rw [up_ne (by decide)] at h h'; exact q1 h h'
      · intro h h'
        rw [up_ne (by decide)] at h h'
        obtain ⟨g, e5, hg, d5⟩ := q5 h h'
        exact ⟨g, e5, hg, fun h => by rw [up_ne (by decide)] at h; exact d5 h⟩
      · intro h h'; rw [up_ne (by decide)] at h h'; exact q6 h h'
      · intro h; rw [up_ne (by decide)] at h; exact q7 h
      · intro h; rw [up_ne (by decide)] at h; exact q8 h
    refine steps_cons ?_ ?_
    · rintro bb aa ww ⟨v1, v5, v6, v7, v8, ha, hB, q1, q5, q6, q7, q8⟩ hb_ hon hoff
      refine ⟨_, rfl, fun KK hK => ?_⟩
      have e5 : aa.tmps[5]? = some (.pointer (some ⟨w.heap.size, 0, none⟩)) := by rw [ha]; exact (putSel_off rfl).trans rfl
      have hcw := X.cells4 (blk_below KB.out hB)
      replace ha := Aside0.mk ha
      refine value_ (w1 := ww) (v := .agg #[.int .i64 s.f0, .string s.f1, .slice A3 s.f2.length c3, .slice A4 s.f3.length c4]) (by rfl) rfl ?_ ?_
      · go_simp
        try rfl
      refine hK.out _ _ ⟨v1, v5, v6, v7, v8, (by rw [ha.out]; exact putSel_upk 3 hb_ rfl rfl rfl), hB, ?_, ?_, ?_, ?_, ?_⟩
      · intro h h'; rw [up_ne (by decide)] at h h'; exact q1 h h'
      · intro h h'
        rw [up_ne (by decide)] at h h'
        obtain ⟨g, e5, hg, d5⟩ := q5 h h'
        exact ⟨g, e5, hg, fun h => by rw [up_ne (by decide)] at h; exact d5 h⟩
      · intro h h'; rw [up_ne (by decide)] at h h'; exact q6 h h'
      · intro h; rw [up_ne (by decide)] at h; exact q7 h
      · intro h; rw [up_ne (by decide)] at h; exact q8 h
    refine steps_cons ?_ ?_
    · rintro bb aa ww ⟨v1, v5, v6, v7, v8, ha, hB, q1, q5, q6, q7, q8⟩ hb_ hon hoff
      refine ⟨_, rfl, fun KK hK => ?_⟩
      have e9 : aa.tmps[9]? = some (.string nm) := by rw [ha]; exact putSel_on (e := (2, 9, .string nm)) 2 rfl rfl (hon 2 (by kernel_rfl)) rfl
      have e10 : aa.tmps[10]? = some (.agg #[.int .i64 s.f0, .string s.f1, .slice A3 s.f2.length c3, .slice A4 s.f3.length c4]) := by rw [ha]; exact putSel_on (e := (3, 10, .agg #[.int .i64 s.f0, .string s.f1, .slice A3 s.f2.length c3, .slice A4 s.f3.length c4])) 3 rfl rfl (hon 3 (by kernel_rfl)) rfl
      replace ha := Aside0.mk ha
      refine value_ (w1 := ww) (v := .agg #[.string nm, .int .i64 s.f0, .string s.f1, .slice A3 s.f2.length c3, .slice A4 s.f3.length c4]) (by rfl) rfl ?_ ?_
      · go_simp
        try rfl
      refine hK.out _ _ ⟨v1, v5, v6, v7, v8, (by rw [ha.out]; exact putSel_upk 4 hb_ rfl rfl rfl), hB, ?_, ?_, ?_, ?_, ?_⟩
      · intro h h'; rw [up_ne (by decide)] at h h'; exact q1 h h'
      · intro h h'
        rw [up_ne (by decide)] at h h'
        obtain ⟨g, e5, hg, d5⟩ := q5 h h'
        exact ⟨g, e5, hg, fun h => by rw [up_ne (by decide)] at h; exact d5 h⟩
      · intro h h'; rw [up_ne (by decide)] at h h'; exact q6 h h'
      · intro h; rw [up_ne (by decide)] at h; exact q7 h
      · intro h; rw [up_ne (by decide)] at h; exact q8 h
    refine steps_cons ?_ ?_
    · rintro bb aa ww ⟨v1, v5, v6, v7, v8, ha, hB, q1, q5, q6, q7, q8⟩ hb_ hon hoff
      refine ⟨_, rfl, fun KK hK => ?_⟩
      have e11 : aa.tmps[11]? = some (.agg #[.string nm, .int .i64 s.f0, .string s.f1, .slice A3 s.f2.length c3, .slice A4 s.f3.length c4]) := by rw [ha]; exact putSel_on (e := (4, 11, .agg #[.string nm, .int .i64 s.f0, .string s.f1, .slice A3 s.f2.length c3, .slice A4 s.f3.length c4])) 4 rfl rfl (hon 4 (by kernel_rfl)) rfl
      replace ha := Aside0.mk ha
      refine value_ (w1 := ww.alloc (.cells #[.string nm, .int .i64 s.f0, .string s.f1, .slice A3 s.f2.length c3, .slice A4 s.f3.length c4] 38)) (v := .slice (some ⟨ww.heap.size, 0, none⟩) 1 1) (by rfl) rfl ?_ ?_
      · go_simp
        try rfl
      refine hK.out _ _ ⟨v1, .slice (some ⟨ww.heap.size, 0, none⟩) 1 1, v6, v7, v8, (by rw [ha.out]; exact putSel_upk 5 hb_ rfl rfl rfl), below_alloc hB _, ?_, ?_, ?_, ?_, ?_⟩
      · intro h h'; rw [up_ne (by decide)] at h h'; exact Kd.R_alloc (q1 h h') _
      · intro h h'
        refine ⟨ww.heap.size, rfl, blk_new ww _, fun h e => ?_⟩
        rw [up_ne (by decide)] at h h'
        exact absurd (Kd.R_lt (q1 h h') _ e.symm) (Nat.lt_irrefl _)
      · intro h h'; rw [up_ne (by decide)] at h h'; exact Kd.R_alloc (q6 h h') _
      · intro h; rw [up_ne (by decide)] at h; exact Kd.R_alloc (q7 h) _
      · intro h; rw [up_ne (by decide)] at h; exact q8 h
    refine steps_cons ?_ ?_
    · rintro bb aa ww ⟨v1, v5, v6, v7, v8, ha, hB, q1, q5, q6, q7, q8⟩ hb_ hon hoff
      refine ⟨_, rfl, fun KK hK => ?_⟩
      have hb7 : bb 7 = false := hoff 7 (by kernel_rfl)
      have b1 : bb 1 = true := hon 1 (by kernel_rfl)
      obtain ⟨g, rfl, hg, d5⟩ := q5 (hon 5 (by kernel_rfl)) hb_
      have r1 := q1 b1 hb_
      have e8 : aa.tmps[8]? = some (v1) := by rw [ha]; exact putSel_on (e := (1, 8, v1)) 1 rfl rfl b1 rfl
      have e12 : aa.tmps[12]? = some (.slice (some ⟨g, 0, none⟩) 1 1) := by rw [ha]; exact putSel_on (e := (5, 12, .slice (some ⟨g, 0, none⟩) 1 1)) 5 rfl rfl (hon 5 (by kernel_rfl)) rfl
      replace ha := Aside0.mk ha
      refine goes_ Try.func33 (by kernel_rfl) rfl #[v1, .int .i64 0, .slice (some ⟨g, 0, none⟩) 1 1] (by rfl) rfl rfl (by first | (simp only [List.map_toArray, List.map_cons, List.map_nil, Act.eval, Array.getD_eq_getD_getElem?, Option.getD_some, e8, e12]; done) | (simp only [List.map_toArray, List.map_cons, List.map_nil, Act.eval, Array.getD_eq_getD_getElem?, Option.getD_some, e8, e12]; rfl)) ?_
      refine (bins_of v1 l ⟨nm, s⟩ _ ww w wr wr.heap.size r1 (by omega) HK.out g hg (d5 b1) hB hB.size).mono ?_
      rintro e w1 ⟨v, rfl, hv, hb⟩
      refine ⟨_, rfl, ?_⟩
      refine hK.out _ _ ⟨v1, .slice (some ⟨g, 0, none⟩) 1 1, v, v7, v8, (by rw [ha.out]; exact putSel_upk 6 hb_ rfl rfl rfl), hb, ?_, ?_, ?_, ?_, ?_⟩
      · intro h h'; rw [up_self] at h'; cases h'
      · intro h h'; rw [up_self] at h'; cases h'
      · intro h h'; exact hv
      · intro h; rw [up_ne (by decide), hb7] at h; cases h
      · intro h; rw [up_ne (by decide)] at h; exact q8 h
    refine steps_cons ?_ ?_
    · rintro bb aa ww ⟨v1, v5, v6, v7, v8, ha, hB, q1, q5, q6, q7, q8⟩ hb_ hon hoff
      refine ⟨_, rfl, fun KK hK => ?_⟩
      have b6 : bb 6 = true := hon 6 (by kernel_rfl)
      have hb8 : bb 8 = false := hoff 8 (by kernel_rfl)
      have r6 := q6 b6 hb_
      obtain ⟨A6, c6, hv6, l6, g6⟩ := Kd.R_reads r6
      subst hv6
      have hww : Below w.heap.size w ww := HBW.out.trans (hB.mono HBW.out.size)
      have g6' := C_seen g6 hww
      have e13 : aa.tmps[13]? = some (.slice A6 (List.length ((⟨nm, s⟩ : S38) :: l)) c6) := by rw [ha]; exact putSel_on (e := (6, 13, .slice A6 (List.length ((⟨nm, s⟩ : S38) :: l)) c6)) 6 rfl rfl b6 rfl
      replace ha := Aside0.mk ha
      refine goes_ Try.func18 (by kernel_rfl) rfl #[.slice A6 (List.length ((⟨nm, s⟩ : S38) :: l)) c6] (by rfl) rfl rfl (by first | (simp only [List.map_toArray, List.map_cons, List.map_nil, Act.eval, Array.getD_eq_getD_getElem?, Option.getD_some, e13]; done) | (simp only [List.map_toArray, List.map_cons, List.map_nil, Act.eval, Array.getD_eq_getD_getElem?, Option.getD_some, e13]; rfl)) ?_
      refine (canon_of A6 c6 (⟨nm, s⟩ :: l) ww g6' HM.out).mono ?_
      rintro e w1 ⟨v, rfl, hv, hb⟩
      refine ⟨_, rfl, ?_⟩
      refine hK.out _ _ ⟨v1, v5, _, v, v8, (by rw [ha.out]; exact putSel_upk 7 hb_ rfl rfl rfl), below_step hB hb, ?_, ?_, ?_, ?_, ?_⟩
      · intro h h'; rw [up_ne (by decide), b6] at h'; cases h'
      · intro h h'; rw [up_ne (by decide), b6] at h'; cases h'
      · intro h h'; rw [up_self] at h'; cases h'
      · intro h; exact Kd.R_lower hv hB.size
      · intro h; rw [up_ne (by decide), hb8] at h; cases h
    refine steps_cons ?_ ?_
    · rintro bb aa ww ⟨v1, v5, v6, v7, v8, ha, hB, q1, q5, q6, q7, q8⟩ hb_ hon hoff
      refine ⟨_, rfl, fun KK hK => ?_⟩
      have b7 : bb 7 = true := hon 7 (by kernel_rfl)
      have e14 : aa.tmps[14]? = some (v7) := by rw [ha]; exact putSel_on (e := (7, 14, v7)) 7 rfl rfl b7 rfl
      replace ha := Aside0.mk ha
      refine value_ (w1 := ww) (v := v7) (by rfl) rfl ?_ ?_
      · go_simp
        try rfl
      refine hK.out _ _ ⟨v1, v5, v6, v7, v7, (by rw [ha.out]; exact putSel_upk 8 hb_ rfl rfl rfl), hB, ?_, ?_, ?_, ?_, ?_⟩
      · intro h h'; rw [up_ne (by decide)] at h h'; exact q1 h h'
      · intro h h'
        rw [up_ne (by decide)] at h h'
        obtain ⟨g, e5, hg, d5⟩ := q5 h h'
        exact ⟨g, e5, hg, fun h => by rw [up_ne (by decide)] at h; exact d5 h⟩
      · intro h h'; rw [up_ne (by decide)] at h h'; exact q6 h h'
      · intro h; rw [up_ne (by decide)] at h; exact q7 h
      · intro h; rfl
    exact steps_nil
  rintro bb aa ww hall ⟨v1, v5, v6, v7, v8, ha, hB, q1, q5, q6, q7, q8⟩
  have r7 := q7 (hall 7 (by kernel_rfl))
  obtain rfl := q8 (hall 8 (by kernel_rfl))
  have hb0_ := hall 0 (by kernel_rfl)
  have hb1_ := hall 1 (by kernel_rfl)
  have hb2_ := hall 2 (by kernel_rfl)
  have hb3_ := hall 3 (by kernel_rfl)
  have hb4_ := hall 4 (by kernel_rfl)
  have hb5_ := hall 5 (by kernel_rfl)
  have hb6_ := hall 6 (by kernel_rfl)
  have hb7_ := hall 7 (by kernel_rfl)
  have hb8_ := hall 8 (by kernel_rfl)
  subst ha
  simp only [putSel, hb0_, hb1_, hb2_, hb3_, hb4_, hb5_, hb6_, hb7_, hb8_, if_true, Act.put, List.setIfInBounds_toArray, List.set_cons_zero, List.set_cons_succ]
  have R7 := Aside0.mk r7
  have HB7 := Aside0.mk (HBW.out.trans (hB.mono HBW.out.size))
  clear q1 q5 q6 q7 q8 hB r7 hall
  go_wp2_with fail
  go_ret
  exact ⟨_, rfl, Kd.R_lower R7.out HBW.out.size, HB7.out⟩
end Go.Proofs.Ytfaiplbogchgjaa.PA
end
section
namespace Go.Proofs.Ytfaiplbogchgjaa.PA
set_option linter.unusedSimpArgs false
set_option linter.unusedVariables false
open Go.RowKit Go.Proofs.YtfaiplbogchgjaaW.PrintWords Go.Proofs.YtfaiplbogchgjaaW.PrintLast
theorem modest_cons {l : List S38} {nm : ByteArray} {s : S28} (h : modestB l) (hl : l.length ≤ 999) (hn : nm.size ≤ 1000000) (hs : modest s) : modestB (⟨nm, s⟩ :: l) := by
  refine ⟨by simp; omega, fun x hx => ?_⟩
  rcases List.mem_cons.1 hx with rfl | hx
  · exact ⟨hn, hs⟩
  · exact h.2 x hx
def CFB (W : World) (v : Value) (l : List S38) : Prop := ∃ A c, v = .slice A l.length c ∧ l.length ≤ c ∧ Kd.C k38 W A l.length l
theorem CFB.below {w w' : World} {v : Value} {l : List S38} (h : CFB w v l) (hb : Below w.heap.size w w') : CFB w' v l := by
  obtain ⟨A, c, h1, h2, h3⟩ := h
  exact ⟨A, c, h1, h2, Kd.C_below h3 hb⟩
theorem CFB.of {w : World} {base : Nat} {ok : Nat → Prop} {v : Value} {l : List S38} (h : Kd.R k38 38 w base ok v l) : CFB w v l := by
  obtain ⟨A, c, h1, h2, h3⟩ := Kd.R_reads h
  exact ⟨A, c, h1, h2, h3⟩
theorem OkC.zero (W : World) : OkC W (.agg #[.int .i64 0, .string ⟨#[]⟩, .slice none 0 0, .slice none 0 0]) z28 := ⟨none, 0, none, 0, rfl, Nat.le_refl _, Kd.C_nil _ _, Nat.le_refl _, Kd.C_nil _ _⟩
theorem set_cf {W : World} {u x : Value} {l : List S38} {s : S28} (nm : ByteArray) (h : CFB W u l) (hx : OkC W x s) (hm : modestB (⟨nm, s⟩ :: l)) :
    Calls Try.prog 24 #[u, .string nm, x] W fun e W' => ∃ v, e = .returned v ∧ CFB W' v (canonB (⟨nm, s⟩ :: l)) ∧ Below W.heap.size W W' := by
  obtain ⟨A, c, rfl, h2, h3⟩ := h
  obtain ⟨A3, c3, A4, c4, rfl, l3, g3, l4, g4⟩ := hx
  exact (set_of A c l nm s A3 A4 c3 c4 W h3 hm l3 g3 l4 g4).mono fun e W' ⟨v, h1, h2, h3⟩ => ⟨v, h1, CFB.of h2, h3⟩
theorem canon_cf {W : World} {u : Value} {l : List S38} (h : CFB W u l) (hm : modestB l) :
    Calls Try.prog 18 #[u] W fun e W' => ∃ v, e = .returned v ∧ CFB W' v (canonB l) ∧ Below W.heap.size W W' := by
  obtain ⟨A, c, rfl, h2, h3⟩ := h
  exact (canon_of A c l W h3 hm).mono fun e W' ⟨v, h1, h2, h3⟩ => ⟨v, h1, CFB.of h2, h3⟩
theorem rcanon_cf {W : World} {u : Value} {l : List S38} (h : CFB W u l) (hm : modestB l) :
    Calls Try.prog 19 #[u] W fun e W' => ∃ v, e = .returned v ∧ CFB W' v (canonB l) ∧ Below W.heap.size W W' := by
  obtain ⟨A, c, rfl, h2, h3⟩ := h
  exact (rcanon_any A c l W h3 h2 hm).mono fun e W' ⟨v, h1, h2, h3⟩ => ⟨v, h1, CFB.of h2, h3⟩
theorem rveryB_cf {W : World} {u v : Value} {l m : List S38} (h : CFB W u l) (h' : CFB W v m) (hm : modestB l) (e : l = m) :
    Calls Try.prog 17 #[u, v] W fun e W' => e = .returned (.bool true) ∧ Below W.heap.size W W' := by
  obtain ⟨A, c, rfl, h2, h3⟩ := h
  obtain ⟨B, d, rfl, h4, h5⟩ := h'
  have := rveryB_any A c l B d m W h3 h2 h5 h4 hm
  rwa [decide_eq_true e] at this
end Go.Proofs.Ytfaiplbogchgjaa.PA
end
section
namespace Go.Proofs.Ytfaiplbogchgjaa.PA
set_option linter.unusedSimpArgs false
set_option linter.unusedVariables false
open Go.RowKit Go.Proofs.YtfaiplbogchgjaaW.PrintWords Go.Proofs.YtfaiplbogchgjaaW.PrintLast
def told.T11 : Bool × List (List Nat × List Nat) := (true, [([], []), ([0], [0]), ([1], [1]), ([1], [1]), ([3, 1], [1, 3]), ([4, 1, 1], [1, 4]), ([2, 5, 5, 1], [1, 2, 5]), ([1, 6], [1, 6]), ([7, 6], [7]), ([8], [8]), ([8], [8]), ([10, 8], [8, 10]), ([11, 8, 8], [8, 11]), ([12, 8], [8, 12]), ([13, 8], [8, 13]), ([9, 14, 8], [8, 9, 14]), ([8, 15], [8, 15]), ([16, 12], [16]), ([17], [17]), ([18, 17], [17, 18]), ([17], [17]), ([20, 17], [17, 20]), ([19, 21, 17], [17, 19, 21]), ([22, 17, 17], [17, 22]), ([23], [23]), ([23], [23]), ([24, 25, 23], [23, 24, 25]), ([26, 23, 23], [23, 26]), ([27], [27]), ([27], [27]), ([28, 29, 27, 27], [27, 28, 29]), ([27, 30, 23], [23, 27, 30]), ([23, 31, 17], [17, 23, 31]), ([17, 32], [17, 32]), ([33, 30], [33]), ([34], [34]), ([34], [34]), ([34], [34]), ([37, 34], [34, 37]), ([34], [34]), ([39, 34], [34, 39]), ([36, 38, 40, 34, 34], [34, 36, 38, 40]), ([35, 41, 41, 34], [34, 35, 41]), ([34, 42], [34, 42]), ([43, 42], [43]), ([44], [44]), ([45, 44], [44, 45]), ([44, 46], [44, 46]), ([47, 44, 0, 1, 2, 3, 4, 5, 6, 7, 8, 9, 10, 11, 12, 13, 14, 15, 16, 17, 18, 19, 20, 21, 22, 23, 24, 25, 26, 27, 28, 29, 30, 31, 32, 33, 34, 35, 36, 37, 38, 39, 40, 41, 42, 43, 44, 45, 46, 47], [47])])
def told.B11 : List Nat := [0, 1, 3, 3, 11, 27, 63, 127, 255, 511, 511, 1535, 3583, 7679, 15871, 32767, 65535, 131071, 262143, 524287, 262143, 1310719, 4194303, 8388607, 16777215, 16777215, 67108863, 134217727, 268435455, 268435455, 1073741823, 2147483647, 4294967295, 8589934591, 17179869183, 34359738367, 34359738367, 34359738367, 171798691839, 34359738367, 584115552255, 2164663517183, 4398046511103, 8796093022207, 17592186044415, 35184372088831, 70368744177663, 140737488355327, 281474976710655]
theorem told.tab11 : rtab .any (opsOf Try.f7 11) = told.T11 := by kernel_rfl
theorem told.bits11 : waitsOk told.T11.2 told.B11 = true := by kernel_rfl
theorem getL_cons (l : List S38) (x : S38) (nm : List UInt8) : getL (x :: l) nm = if x.f0.data.toList == nm then (if defS x.f1 = true then some (canonS x.f1) else none) else getL l nm := by
  unfold getL
  rw [List.find?_cons]
  cases h : (x.f0.data.toList == nm) <;> rfl
end Go.Proofs.Ytfaiplbogchgjaa.PA
end
section
namespace Go.Proofs.Ytfaiplbogchgjaa.PA
set_option linter.unusedSimpArgs false
set_option linter.unusedVariables false
open Go.RowKit Go.Proofs.YtfaiplbogchgjaaW.PrintWords Go.Proofs.YtfaiplbogchgjaaW.PrintLast
theorem canon_rises (l : List S38) (i : Nat) (h : i + 1 < (canonB l).length) : Op.bytesLess (canonB l)[i].f0.toList (canonB l)[i + 1].f0.toList = true := by
  have hs := names_sorted l
  have hl : (canonB l).length = (sortedL l).length := by rw [canonB_eq, List.length_map]
  have e : ∀ j (hj : j < (canonB l).length), (canonB l)[j].f0 = nmOf ((sortedL l)[j]'(by omega)) := fun j hj => by simp [canonB_eq]
  rw [less_iff, e i (by omega), e (i + 1) h]
  exact List.pairwise_iff_getElem.1 hs i (i + 1) (by omega) (by omega) (by omega)
end Go.Proofs.Ytfaiplbogchgjaa.PA
end
section
namespace Go.Proofs.Ytfaiplbogchgjaa.PA
set_option linter.unusedSimpArgs false
set_option linter.unusedVariables false
open Go.RowKit Go.Proofs.YtfaiplbogchgjaaW.PrintWords Go.Proofs.YtfaiplbogchgjaaW.PrintLast
def alls.T9 : Bool × List (List Nat × List Nat) := (true, [([], []), ([], []), ([], []), ([1, 2], [1, 2]), ([3], [3]), ([4], [4]), ([], []), ([], []), ([6, 7], [6, 7]), ([8], [8]), ([9], [9]), ([0, 5, 10], [0, 5, 10]), ([11, 11, 0, 1, 2, 3, 4, 5, 6, 7, 8, 9, 10, 11], [0, 11])])
def alls.B9 : List Nat := [0, 0, 0, 6, 14, 30, 0, 0, 192, 448, 960, 2047, 4095]
theorem alls.tab9 : rtab .any (opsOf Try.f8 9) = alls.T9 := by kernel_rfl
theorem alls.bits9 : waitsOk alls.T9.2 alls.B9 = true := by kernel_rfl
theorem putSel_offb {b : Nat → Bool} {t : Tmp} {j : Nat} (hj : b j = false) : ∀ {L : List (Nat × Tmp × Value)} {a : Act}, (L.all fun e => !(e.2.1 == t) || e.1 == j) = true → (putSel a b L).tmps[t]? = a.tmps[t]?
  | [], _, _ => rfl
  | e :: r, a, h => by
    rw [List.all_cons, Bool.and_eq_true] at h
    unfold putSel
    by_cases hb : b e.1 = true
    · have he : e.2.1 ≠ t := by
        intro he
        have h1 := h.1
        rw [he] at h1
        have h2 : e.1 = j := by simpa using h1
        rw [h2, hj] at hb
        cases hb
      rw [if_pos hb, putSel_offb hj h.2]
      simp [Act.put, Array.getElem?_setIfInBounds_ne he]
    · rw [if_neg hb]
      exact putSel_offb hj h.2
theorem getL_app (p q r : List S38) (nm : List UInt8) (h : getL p nm = getL q nm) (h2 : (p.find? fun x => x.f0.data.toList == nm) = q.find? fun x => x.f0.data.toList == nm) : getL (p ++ r) nm = getL (q ++ r) nm := by
  unfold getL
  rw [List.find?_append, List.find?_append, h2]
theorem nodup_canonB (m : List S38) : (canonB m).Pairwise fun x y => x.f0 ≠ y.f0 := by
  rw [List.pairwise_iff_getElem]
  intro i j hi hj hij
  have key : ∀ d i (h : i + d + 1 < (canonB m).length), Op.bytesLess (canonB m)[i].f0.toList ((canonB m)[i + d + 1]'h).f0.toList = true := by
    intro d
    induction d with
    | zero => intro i h; exact canon_rises m i h
    | succ d ih =>
      intro i h
      have h1 := ih i (by omega)
      have h2 := canon_rises m (i + d + 1) (by omega)
      exact less_iff.2 (ltB_trans (less_iff.1 h1) (less_iff.1 h2))
  obtain ⟨d, rfl⟩ : ∃ d, j = i + d + 1 := ⟨j - i - 1, by omega⟩
  intro e
  have h := key d i hj
  rw [e] at h
  exact ltB_irrefl _ (less_iff.1 h)
theorem canonB_rev (m r : List S38) : canonB ((canonB m).reverse ++ r) = canonB (canonB m ++ r) := by
  refine canonB_ext fun nm => ?_
  have hp := nodup_canonB m
  have hf : ((canonB m).reverse.find? fun x => x.f0.data.toList == nm) = (canonB m).find? fun x => x.f0.data.toList == nm := by
    refine find_perm _ (List.reverse_perm _) fun x hx y hy px py => ?_
    rw [List.mem_reverse] at hx hy
    obtain ⟨i, hi, rfl⟩ := List.getElem_of_mem hx
    obtain ⟨j, hj, rfl⟩ := List.getElem_of_mem hy
    have e : (canonB m)[i].f0 = (canonB m)[j].f0 := by
      have a := beq_iff_eq.1 px
      have b := beq_iff_eq.1 py
      exact ByteArray.ext (Array.ext' (a.trans b.symm))
    rcases Nat.lt_trichotomy i j with hlt | rfl | hlt
    · exact absurd e (List.pairwise_iff_getElem.1 hp i j hi hj hlt)
    · rfl
    · exact absurd e.symm (List.pairwise_iff_getElem.1 hp j i hj hi hlt)
  exact getL_app _ _ r nm (by unfold getL; rw [hf]) hf
theorem canonB_put (x : S38) (l : List S38) : canonB (x :: canonB l) = canonB (x :: l) := by
  refine canonB_ext fun n => ?_
  rw [getL_cons, getL_cons, getL_canonB]
def allB (l m : List S38) (k : Nat) : List S38 := canonB (((canonB m).take k).reverse ++ canonB l)
theorem allB_zero (l m : List S38) : allB l m 0 = canonB l := canonB_canonB l
theorem allB_succ (l m : List S38) (k : Nat) (h : k < (canonB m).length) : canonB (⟨(canonB m)[k].f0, (canonB m)[k].f1⟩ :: allB l m k) = allB l m (k + 1) := by
  unfold allB
  rw [canonB_put, List.take_succ_eq_append_getElem h, List.reverse_append]
  rfl
theorem allB_end (l m : List S38) : allB l m (canonB m).length = canonB (canonB m ++ canonB l) := by
  unfold allB
  rw [List.take_length, canonB_rev]
theorem allB_modest {l m : List S38} (hl : modestB l) (hm : modestB m) (h1 : l.length ≤ 20) (h2 : m.length ≤ 20) (k : Nat) : modestB (allB l m k) ∧ (allB l m k).length ≤ 40 := by
  have c1 := names_short l
  have c2 := names_short m
  have hq : modestB (((canonB m).take k).reverse ++ canonB l) := by
    refine ⟨?_, fun x hx => ?_⟩
    · rw [List.length_append, List.length_reverse, List.length_take, canonB_len, canonB_len]; omega
    · rcases List.mem_append.1 hx with hx | hx
      · exact (canonB_modest hm).2 x (List.mem_of_mem_take (List.mem_reverse.1 hx))
      · exact (canonB_modest hl).2 x hx
  refine ⟨canonB_modest hq, ?_⟩
  unfold allB
  rw [canonB_len]
  have := names_short (((canonB m).take k).reverse ++ canonB l)
  rw [List.length_append, List.length_reverse, List.length_take, canonB_len, canonB_len] at this
  omega
theorem both_modest {l m : List S38} (hl : modestB l) (hm : modestB m) (h1 : l.length ≤ 20) (h2 : m.length ≤ 20) : modestB (canonB m ++ canonB l) := by
  have c1 := names_short l
  have c2 := names_short m
  refine ⟨?_, fun x hx => ?_⟩
  · rw [List.length_append, canonB_len, canonB_len]; omega
  · rcases List.mem_append.1 hx with hx | hx
    · exact (canonB_modest hm).2 x hx
    · exact (canonB_modest hl).2 x hx
theorem all_len (l m : List S38) : (canonB (canonB m ++ canonB l)).length ≤ (canonB m).length + (canonB l).length := by
  rw [canonB_len]
  have := names_short (canonB m ++ canonB l)
  rwa [List.length_append] at this
def orK {α : Type} (d : Kd α) (w0 w1 : World) (b : Nat) (ok : Nat → Prop) : Kd α where
  sz := d.sz
  E := []
  K := fun _ x cs => d.K w0 x cs ∨ d.M w1 b ok x cs
  M := fun _ _ _ x cs => d.K w0 x cs ∨ d.M w1 b ok x cs
  K_len := fun h => h.elim (fun h => d.K_len h) (fun h => d.K_len (d.K_of_M h))
  K_one := fun h => h.elim (fun h => d.K_one h) (fun h => d.K_one (d.K_of_M h))
  K_below := fun _ h => h
  K_of_M := fun h => h
  M_mono := fun _ h => h
  M_bound := fun h => h
  M_move := fun _ h => h
  M_lower := fun _ h => h
theorem R_orK {w0 w1 W : World} {b base : Nat} {ok' ok : Nat → Prop} {v : Value} {xs : List S38} (h : Kd.R (seen k38 w0) 38 W base ok v xs) : Kd.R (orK k38 w0 w1 b ok') 38 W base ok v xs := by
  obtain ⟨h0, inner, ho, hr⟩ := h
  exact ⟨h0, inner, ho, hr.imp_ fun _ _ hp => .inl hp⟩
theorem CFB_orK {w0 w1 W : World} {b : Nat} {ok' okv : Nat → Prop} {v u : Value} {base base' : Nat} {xs ys : List S38} (h : Kd.R (orK k38 w0 w1 b ok') 38 W base okv v xs) (h0 : Below w0.heap.size w0 W)
    (hu : Kd.R (orK k38 w0 w1 b ok') 38 w1 base' okv u ys) (hg : w1.grownBy W u.ownBlock) : CFB W v xs := by
  obtain ⟨A9, c9, hv9, l9, g9⟩ := Kd.R_reads h
  exact ⟨A9, c9, hv9, l9, ReadsRow.imp_ g9 (Below.refl _ _) fun x cs hp => hp.elim (fun h => k38.K_below h0 h) (fun h => k38.K_of_M (Kd.M_over h hu (by decide) hg))⟩
theorem rcanon_cfR {W : World} {u : Value} {l : List S38} (h : CFB W u l) (hm : modestB l) :
    Calls Try.prog 19 #[u] W fun e W' => ∃ v, e = .returned v ∧ Kd.R k38 38 W' W.heap.size (fun _ => True) v (canonB l) ∧ Below W.heap.size W W' := by
  obtain ⟨A, c, rfl, h2, h3⟩ := h
  exact rcanon_any A c l W h3 h2 hm
set_option maxHeartbeats 8000000 in
set_option maxRecDepth 100000 in
theorem BindAll_walk (w : World) {A0 : Option Addr} {c0 : Nat} {l : List S38} (hr0 : Kd.C k38 w A0 l.length l) (hc0 : l.length ≤ c0) {A1 : Option Addr} {c1 : Nat} {m : List S38} (hr1 : Kd.C k38 w A1 m.length m) (hc1 : m.length ≤ c1) :
    Calls Try.prog 8 #[.slice A0 l.length c0, .slice A1 m.length c1] w fun e W' => e = .returned (.bool true) ∧ Below w.heap.size w W' := by
  obtain ⟨b0, f0, h0⟩ := few_any l
  obtain ⟨b1, f1, h1⟩ := few_any m
  have hu0 : CFB w (.slice A0 l.length c0) l := ⟨A0, c0, rfl, hc0, hr0⟩
  have hu1 : CFB w (.slice A1 m.length c1) m := ⟨A1, c1, rfl, hc1, hr1⟩
  have U0 := Aside0.mk (hu0)
  have U1 := Aside0.mk (hu1)
  have H0 := Aside0.mk h0
  have H1 := Aside0.mk h1
  have F0 := Aside0.mk f0
  have F1 := Aside0.mk f1
  have HR0 := Aside0.mk hr0
  have HC0 := Aside0.mk hc0
  have HR1 := Aside0.mk hr1
  have HC1 := Aside0.mk hc1
  clear hu0 hu1 h0 h1 f0 f1 hr0 hc0 hr1 hc1
  go_enter Try.func8, Try.ntmps8
  have HB := Aside0.mk (Below.refl w.heap.size w)
  go_wp2_with fail
  refine (awake_walk _).mono ?_
  rintro e w1 ⟨rfl, hb⟩
  replace U0 := Aside0.mk (U0.out.below hb)
  replace U1 := Aside0.mk (U1.out.below hb)
  replace HB := Aside0.mk (below_step HB.out hb)
  clear hb
  go_wp2_with fail
  refine (H0.out w1 A0 c0 (Kd.C_below HR0.out HB.out) HC0.out).mono ?_
  rintro e w2 ⟨rfl, hb⟩
  replace U0 := Aside0.mk (U0.out.below hb)
  replace U1 := Aside0.mk (U1.out.below hb)
  replace HB := Aside0.mk (below_step HB.out hb)
  clear hb
  cases b0 with
  | false =>
    go_wp2_with fail
    go_ret
    exact ⟨rfl, HB.out⟩
  | true =>
    go_wp2_with fail
    refine (H1.out w2 A1 c1 (Kd.C_below HR1.out HB.out) HC1.out).mono ?_
    rintro e w3 ⟨rfl, hb⟩
    replace U0 := Aside0.mk (U0.out.below hb)
    replace U1 := Aside0.mk (U1.out.below hb)
    replace HB := Aside0.mk (below_step HB.out hb)
    clear hb
    cases b1 with
    | false =>
      go_wp2_with fail
      go_ret
      exact ⟨rfl, HB.out⟩
    | true =>
      have fl := F0.out (by first | trivial | rfl)
      have fm := F1.out (by first | trivial | rfl)
      have ML := Aside0.mk fl.modest
      have MM := Aside0.mk fm.modest
      have LL := Aside0.mk fl.1
      have LM := Aside0.mk fm.1
      clear fl fm F0 F1 H0 H1 HR0 HR1 HC0 HC1
      go_wp2_with fail
      refine (rcanon_cf U1.out MM.out).mono ?_
      rintro e w4 ⟨u6, rfl, hv, hb⟩
      replace U0 := Aside0.mk (U0.out.below hb)
      replace U1 := Aside0.mk (U1.out.below hb)
      replace HB := Aside0.mk (below_step HB.out hb)
      clear hb
      have UC := Aside0.mk (hv)
      clear hv
      go_wp2_with fail
      refine (rcanon_cf U0.out ML.out).mono ?_
      rintro e w5 ⟨vx, rfl, hv, hb⟩
      replace U0 := Aside0.mk (U0.out.below hb)
      replace U1 := Aside0.mk (U1.out.below hb)
      replace HB := Aside0.mk (below_step HB.out hb)
      replace UC := Aside0.mk (UC.out.below hb)
      clear hb
      rw [← allB_zero l m] at hv
      have UX := Aside0.mk (hv)
      clear hv
      obtain ⟨A6, c6, hu6, l6, g6⟩ := UC.out
      subst hu6
      have L6 := Aside0.mk l6
      have G6 := Aside0.mk g6
      clear g6
      obtain ⟨n, hn⟩ : ∃ n, n = (canonB m).length := ⟨_, rfl⟩
      have hn2 : n ≤ 1000 := by have := names_short m; have := LM.out; rw [hn, canonB_len]; omega
      have HN := Aside0.mk hn
      rw [← hn] at l6 ⊢
      clear hn
      go_wp2_with fail
      go_loopw [7, 8] (fun v7 v8 wr => ∃ k : Nat, k ≤ n ∧ v8 = .int .i64 k ∧ Below w5.heap.size w5 wr ∧ CFB wr v7 (allB l m k)) (fun _ v8 _ => (n - intOf v8).toNat)
      case atStart => exact ⟨0, Nat.zero_le _, rfl, Below.refl _ _, UX.out⟩
      case round =>
        obtain ⟨k, hk, rfl, hb, hx⟩ := hrel
        clear UX
        replace U0 := Aside0.mk (U0.out.below hb)
        replace U1 := Aside0.mk (U1.out.below hb)
        replace HB := Aside0.mk (below_step HB.out hb)
        replace UC := Aside0.mk (UC.out.below hb)
        have UX := Aside0.mk hx
        have HBR := Aside0.mk hb
        replace G6 := Aside0.mk (Kd.C_below G6.out hb)
        clear hx hb
        by_cases hlt : k < n
        · have hkl : k < (canonB m).length := by rw [← HN.out]; exact hlt
          obtain ⟨ad, E3, f3, E4, f4, ead, x0, x1, x2, x3, x4, m3, g3, m4, g4⟩ := at_T38 G6.out (k : Int) (by omega) (by rw [← HN.out]; omega)
          subst ead
          rw [Int.toNat_natCast] at x0 x1 x2 x3 x4
          rw [rdb_at (canonB m) k hkl] at x0 x1 x2 x3 x4 m3 g3 m4 g4
          have hsucc := allB_succ l m k hkl
          have hnm := ((canonB_modest MM.out).2 _ (List.getElem_mem hkl))
          obtain ⟨x, hx⟩ : ∃ x, x = (canonB m)[k] := ⟨_, rfl⟩
          rw [← hx] at x0 x1 x2 x3 x4 m3 g3 m4 g4 hsucc hnm
          have hok : OkC wr (.agg #[.int .i64 x.f1.f0, .string x.f1.f1, .slice E3 x.f1.f2.length f3, .slice E4 x.f1.f3.length f4]) x.f1 := ⟨E3, f3, E4, f4, rfl, m3, g3, m4, g4⟩
          have OX := Aside0.mk (hok)
          have HS := Aside0.mk hsucc
          have HM1 := Aside0.mk (show modestB (⟨x.f0, x.f1⟩ :: allB l m k) from modest_cons (allB_modest ML.out MM.out LL.out LM.out k).1 (by have := (allB_modest ML.out MM.out LL.out LM.out k).2; omega) hnm.1 hnm.2)
          obtain ⟨pa, hpa⟩ : ∃ pa : Addr, pa = ad.add (k * 5) := ⟨_, rfl⟩
          have X0_ := Aside0.mk x0
          have X1_ := Aside0.mk x1
          have X2_ := Aside0.mk x2
          have X3_ := Aside0.mk x3
          have X4_ := Aside0.mk x4
          clear x0 x1 x2 x3 x4 m3 g3 m4 g4 hsucc hnm hok hpa hx
          go_wp2_with fail
          refine start_ (n := 13) (S := fun w' => True) (ds := []) #[false, false, false, false, false, false, false, false, false, false, false, false, false] (by kernel_rfl) rfl rfl trivial (fun hHeld => ?_)
          refine with_tabW alls.tab9 alls.bits9 (fun HT_ HW_ => ?_)
          refine inv_at [0, 1, 2, 3, 4, 5, 6, 7, 8, 9, 10, 11, 12] (fun a0_ b a w' => ∃ (v11 : Value) (v12 : Value), a = putSel a0_ b [(0, 30, u7), (1, 31, .slice (some ad) n c6), (2, 32, .int .i64 k), (3, 33, .pointer (some (ad.add (k * 5)))), (4, 34, .pointer (some (ad.add (k * 5)))), (5, 35, .string x.f0), (6, 36, .slice (some ad) n c6), (7, 37, .int .i64 k), (8, 38, .pointer (some (ad.add (k * 5)))), (9, 39, .pointer (some ⟨(ad.add (k * 5)).block, (ad.add (k * 5)).off + 1, none⟩)), (10, 40, .agg #[.int .i64 x.f1.f0, .string x.f1.f1, .slice E3 x.f1.f2.length f3, .slice E4 x.f1.f3.length f4]), (11, 41, v11), (12, 7, v12)] ∧ Below wr.drew.heap.size wr.drew w' ∧ (b 11 = true → CFB w' v11 (allB l m (k + 1))) ∧ (b 12 = true → CFB w' v12 (allB l m (k + 1)))) HT_.out HW_.out (by kernel_rfl) (by kernel_rfl) ?_ ?_ ?_
          · exact ⟨.bool false, .bool false, by simp only [putSel, Bool.false_eq_true, if_false], Below.refl _ _, fun h_ => absurd h_ (by decide), fun h_ => absurd h_ (by decide)⟩
          · clear hHeld HT_ HW_
            refine steps_cons ?_ ?_
            · rintro b a w' ⟨v11, v12, ha, HBW, Q_V11, Q_V12⟩ hb_ hon hoff
              refine ⟨_, rfl, fun K hK => ?_⟩
              have e7 : a.tmps[7]? = some (u7) := by rw [ha]; exact (putSel_offb (hoff 12 (by kernel_rfl)) rfl).trans rfl
              replace ha := Aside0.mk ha
              have HBW := Aside0.mk HBW
              refine value_ (w1 := w') (v := u7) (by rfl) rfl ?_ ?_
              · go_simp
                (try simp only [i64_w])
                try rfl
              refine hK.out _ _ ⟨v11, v12, (by rw [ha.out]; exact putSel_upk 0 hb_ rfl rfl rfl), HBW.out, Q_V11, Q_V12⟩
            refine steps_cons ?_ ?_
            · rintro b a w' ⟨v11, v12, ha, HBW, Q_V11, Q_V12⟩ hb_ hon hoff
              refine ⟨_, rfl, fun K hK => ?_⟩
              have e6 : a.tmps[6]? = some (.slice (some ad) n c6) := by rw [ha]; exact (putSel_off rfl).trans rfl
              replace ha := Aside0.mk ha
              have HBW := Aside0.mk HBW
              refine value_ (w1 := w') (v := .slice (some ad) n c6) (by rfl) rfl ?_ ?_
              · go_simp
                (try simp only [i64_w])
                try rfl
              refine hK.out _ _ ⟨v11, v12, (by rw [ha.out]; exact putSel_upk 1 hb_ rfl rfl rfl), HBW.out, Q_V11, Q_V12⟩
            refine steps_cons ?_ ?_
            · rintro b a w' ⟨v11, v12, ha, HBW, Q_V11, Q_V12⟩ hb_ hon hoff
              refine ⟨_, rfl, fun K hK => ?_⟩
              have e8 : a.tmps[8]? = some (.int .i64 k) := by rw [ha]; exact (putSel_off rfl).trans rfl
              replace ha := Aside0.mk ha
              have HBW := Aside0.mk HBW
              refine value_ (w1 := w') (v := .int .i64 k) (by rfl) rfl ?_ ?_
              · go_simp
                (try simp only [i64_w])
                try rfl
              refine hK.out _ _ ⟨v11, v12, (by rw [ha.out]; exact putSel_upk 2 hb_ rfl rfl rfl), HBW.out, Q_V11, Q_V12⟩
            refine steps_cons ?_ ?_
            · rintro b a w' ⟨v11, v12, ha, HBW, Q_V11, Q_V12⟩ hb_ hon hoff
              refine ⟨_, rfl, fun K hK => ?_⟩
              have e31 : a.tmps[31]? = some (.slice (some ad) n c6) := by rw [ha]; exact putSel_on (e := (1, 31, .slice (some ad) n c6)) 1 rfl rfl (hon 1 (by kernel_rfl)) rfl
              have e32 : a.tmps[32]? = some (.int .i64 k) := by rw [ha]; exact putSel_on (e := (2, 32, .int .i64 k)) 2 rfl rfl (hon 2 (by kernel_rfl)) rfl
              replace ha := Aside0.mk ha
              have HBW := Aside0.mk HBW
              refine value_ (w1 := w') (v := .pointer (some (ad.add (k * 5)))) (by rfl) rfl ?_ ?_
              · go_simp
                (try simp only [i64_w])
                try rfl
              refine hK.out _ _ ⟨v11, v12, (by rw [ha.out]; exact putSel_upk 3 hb_ rfl rfl rfl), HBW.out, Q_V11, Q_V12⟩
            refine steps_cons ?_ ?_
            · rintro b a w' ⟨v11, v12, ha, HBW, Q_V11, Q_V12⟩ hb_ hon hoff
              refine ⟨_, rfl, fun K hK => ?_⟩
              have e33 : a.tmps[33]? = some (.pointer (some (ad.add (k * 5)))) := by rw [ha]; exact putSel_on (e := (3, 33, .pointer (some (ad.add (k * 5))))) 3 rfl rfl (hon 3 (by kernel_rfl)) rfl
              replace ha := Aside0.mk ha
              have HBW := Aside0.mk HBW
              refine value_ (w1 := w') (v := .pointer (some (ad.add (k * 5)))) (by rfl) rfl ?_ ?_
              · go_simp
                (try simp only [i64_w])
                try rfl
              refine hK.out _ _ ⟨v11, v12, (by rw [ha.out]; exact putSel_upk 4 hb_ rfl rfl rfl), HBW.out, Q_V11, Q_V12⟩
            refine steps_cons ?_ ?_
            · rintro b a w' ⟨v11, v12, ha, HBW, Q_V11, Q_V12⟩ hb_ hon hoff
              refine ⟨_, rfl, fun K hK => ?_⟩
              have e34 : a.tmps[34]? = some (.pointer (some (ad.add (k * 5)))) := by rw [ha]; exact putSel_on (e := (4, 34, .pointer (some (ad.add (k * 5))))) 4 rfl rfl (hon 4 (by kernel_rfl)) rfl
              replace ha := Aside0.mk ha
              have HBW := Aside0.mk HBW
              have x0_ := addr_keep HBW.out (show wr.drew.cell? _ = _ from X0_.out)
              refine value_ (w1 := w') (v := .string x.f0) (by rfl) rfl ?_ ?_
              · go_simp
                (try simp only [i64_w])
                try rfl
              refine hK.out _ _ ⟨v11, v12, (by rw [ha.out]; exact putSel_upk 5 hb_ rfl rfl rfl), HBW.out, Q_V11, Q_V12⟩
            refine steps_cons ?_ ?_
            · rintro b a w' ⟨v11, v12, ha, HBW, Q_V11, Q_V12⟩ hb_ hon hoff
              refine ⟨_, rfl, fun K hK => ?_⟩
              have e6 : a.tmps[6]? = some (.slice (some ad) n c6) := by rw [ha]; exact (putSel_off rfl).trans rfl
              replace ha := Aside0.mk ha
              have HBW := Aside0.mk HBW
              refine value_ (w1 := w') (v := .slice (some ad) n c6) (by rfl) rfl ?_ ?_
              · go_simp
                (try simp only [i64_w])
                try rfl
              refine hK.out _ _ ⟨v11, v12, (by rw [ha.out]; exact putSel_upk 6 hb_ rfl rfl rfl), HBW.out, Q_V11, Q_V12⟩
            refine steps_cons ?_ ?_
            · rintro b a w' ⟨v11, v12, ha, HBW, Q_V11, Q_V12⟩ hb_ hon hoff
              refine ⟨_, rfl, fun K hK => ?_⟩
              have e8 : a.tmps[8]? = some (.int .i64 k) := by rw [ha]; exact (putSel_off rfl).trans rfl
              replace ha := Aside0.mk ha
              have HBW := Aside0.mk HBW
              refine value_ (w1 := w') (v := .int .i64 k) (by rfl) rfl ?_ ?_
              · go_simp
                (try simp only [i64_w])
                try rfl
              refine hK.out _ _ ⟨v11, v12, (by rw [ha.out]; exact putSel_upk 7 hb_ rfl rfl rfl), HBW.out, Q_V11, Q_V12⟩
            refine steps_cons ?_ ?_
            · rintro b a w' ⟨v11, v12, ha, HBW, Q_V11, Q_V12⟩ hb_ hon hoff
              refine ⟨_, rfl, fun K hK => ?_⟩
              have e36 : a.tmps[36]? = some (.slice (some ad) n c6) := by rw [ha]; exact putSel_on (e := (6, 36, .slice (some ad) n c6)) 6 rfl rfl (hon 6 (by kernel_rfl)) rfl
              have e37 : a.tmps[37]? = some (.int .i64 k) := by rw [ha]; exact putSel_on (e := (7, 37, .int .i64 k)) 7 rfl rfl (hon 7 (by kernel_rfl)) rfl
              replace ha := Aside0.mk ha
              have HBW := Aside0.mk HBW
              refine value_ (w1 := w') (v := .pointer (some (ad.add (k * 5)))) (by rfl) rfl ?_ ?_
              · go_simp
                (try simp only [i64_w])
                try rfl
              refine hK.out _ _ ⟨v11, v12, (by rw [ha.out]; exact putSel_upk 8 hb_ rfl rfl rfl), HBW.out, Q_V11, Q_V12⟩
            refine steps_cons ?_ ?_
            · rintro b a w' ⟨v11, v12, ha, HBW, Q_V11, Q_V12⟩ hb_ hon hoff
              refine ⟨_, rfl, fun K hK => ?_⟩
              have e38 : a.tmps[38]? = some (.pointer (some (ad.add (k * 5)))) := by rw [ha]; exact putSel_on (e := (8, 38, .pointer (some (ad.add (k * 5))))) 8 rfl rfl (hon 8 (by kernel_rfl)) rfl
              replace ha := Aside0.mk ha
              have HBW := Aside0.mk HBW
              refine value_ (w1 := w') (v := .pointer (some ⟨(ad.add (k * 5)).block, (ad.add (k * 5)).off + 1, none⟩)) (by rfl) rfl ?_ ?_
              · go_simp
                (try simp only [i64_w])
                try rfl
              refine hK.out _ _ ⟨v11, v12, (by rw [ha.out]; exact putSel_upk 9 hb_ rfl rfl rfl), HBW.out, Q_V11, Q_V12⟩
            refine steps_cons ?_ ?_
            · rintro b a w' ⟨v11, v12, ha, HBW, Q_V11, Q_V12⟩ hb_ hon hoff
              refine ⟨_, rfl, fun K hK => ?_⟩
              have e39 : a.tmps[39]? = some (.pointer (some ⟨(ad.add (k * 5)).block, (ad.add (k * 5)).off + 1, none⟩)) := by rw [ha]; exact putSel_on (e := (9, 39, .pointer (some ⟨(ad.add (k * 5)).block, (ad.add (k * 5)).off + 1, none⟩))) 9 rfl rfl (hon 9 (by kernel_rfl)) rfl
              replace ha := Aside0.mk ha
              have HBW := Aside0.mk HBW
              have x1_ := addr_keep HBW.out (show wr.drew.cell? _ = _ from X1_.out)
              have x2_ := addr_keep HBW.out (show wr.drew.cell? _ = _ from X2_.out)
              have x3_ := addr_keep HBW.out (show wr.drew.cell? _ = _ from X3_.out)
              have x4_ := addr_keep HBW.out (show wr.drew.cell? _ = _ from X4_.out)
              refine value_ (w1 := w') (v := .agg #[.int .i64 x.f1.f0, .string x.f1.f1, .slice E3 x.f1.f2.length f3, .slice E4 x.f1.f3.length f4]) (by rfl) rfl ?_ ?_
              · go_simp
                (try simp only [i64_w])
                try rfl
              refine hK.out _ _ ⟨v11, v12, (by rw [ha.out]; exact putSel_upk 10 hb_ rfl rfl rfl), HBW.out, Q_V11, Q_V12⟩
            refine steps_cons ?_ ?_
            · rintro b a w' ⟨v11, v12, ha, HBW, Q_V11, Q_V12⟩ hb_ hon hoff
              refine ⟨_, rfl, fun K hK => ?_⟩
              have e30 : a.tmps[30]? = some (u7) := by rw [ha]; exact putSel_on (e := (0, 30, u7)) 0 rfl rfl (hon 0 (by kernel_rfl)) rfl
              have e35 : a.tmps[35]? = some (.string x.f0) := by rw [ha]; exact putSel_on (e := (5, 35, .string x.f0)) 5 rfl rfl (hon 5 (by kernel_rfl)) rfl
              have e40 : a.tmps[40]? = some (.agg #[.int .i64 x.f1.f0, .string x.f1.f1, .slice E3 x.f1.f2.length f3, .slice E4 x.f1.f3.length f4]) := by rw [ha]; exact putSel_on (e := (10, 40, .agg #[.int .i64 x.f1.f0, .string x.f1.f1, .slice E3 x.f1.f2.length f3, .slice E4 x.f1.f3.length f4])) 10 rfl rfl (hon 10 (by kernel_rfl)) rfl
              replace ha := Aside0.mk ha
              have HBW := Aside0.mk HBW
              refine goes_ Try.func24 (by kernel_rfl) rfl #[u7, .string x.f0, .agg #[.int .i64 x.f1.f0, .string x.f1.f1, .slice E3 x.f1.f2.length f3, .slice E4 x.f1.f3.length f4]] (by rfl) rfl rfl (by first | (simp only [List.map_toArray, List.map_cons, List.map_nil, Act.eval, Array.getD_eq_getD_getElem?, Option.getD_some, e30, e35, e40]; done) | (simp only [List.map_toArray, List.map_cons, List.map_nil, Act.eval, Array.getD_eq_getD_getElem?, Option.getD_some, e30, e35, e40]; rfl)) ?_
              refine (set_cf x.f0 ((CFB.below UX.out (below_drew (Below.refl _ _))).below HBW.out) ((OkC.below OX.out (below_drew (Below.refl _ _))).below HBW.out) HM1.out).mono ?_
              rintro e w1 ⟨v_, rfl, hv_, hb⟩
              refine ⟨_, rfl, ?_⟩
              refine hK.out _ _ ⟨v_, v12, (by rw [ha.out]; exact putSel_upk 11 hb_ rfl rfl rfl), below_step HBW.out hb, fun _ => by rw [← HS.out]; exact hv_, fun h_ => CFB.below (Q_V12 h_) hb⟩
            refine steps_cons ?_ ?_
            · rintro b a w' ⟨v11, v12, ha, HBW, Q_V11, Q_V12⟩ hb_ hon hoff
              refine ⟨_, rfl, fun K hK => ?_⟩
              have e41 : a.tmps[41]? = some (v11) := by rw [ha]; exact putSel_on (e := (11, 41, v11)) 11 rfl rfl (hon 11 (by kernel_rfl)) rfl
              replace ha := Aside0.mk ha
              have HBW := Aside0.mk HBW
              refine value_ (w1 := w') (v := v11) (by rfl) rfl ?_ ?_
              · go_simp
                (try simp only [i64_w])
                try rfl
              refine hK.out _ _ ⟨v11, v11, (by rw [ha.out]; exact putSel_upk 12 hb_ rfl rfl rfl), HBW.out, Q_V11, fun _ => Q_V11 (hon 11 (by kernel_rfl))⟩
            exact steps_nil
          rintro b a w5 hall ⟨v11, v12, ha, HBW, Q_V11, Q_V12⟩
          have hb0_ := hall 0 (by kernel_rfl)
          have hb1_ := hall 1 (by kernel_rfl)
          have hb2_ := hall 2 (by kernel_rfl)
          have hb3_ := hall 3 (by kernel_rfl)
          have hb4_ := hall 4 (by kernel_rfl)
          have hb5_ := hall 5 (by kernel_rfl)
          have hb6_ := hall 6 (by kernel_rfl)
          have hb7_ := hall 7 (by kernel_rfl)
          have hb8_ := hall 8 (by kernel_rfl)
          have hb9_ := hall 9 (by kernel_rfl)
          have hb10_ := hall 10 (by kernel_rfl)
          have hb11_ := hall 11 (by kernel_rfl)
          have hb12_ := hall 12 (by kernel_rfl)
          subst ha
          simp only [putSel, hb0_, hb1_, hb2_, hb3_, hb4_, hb5_, hb6_, hb7_, hb8_, hb9_, hb10_, hb11_, hb12_, if_true, Act.put, List.setIfInBounds_toArray, List.set_cons_zero, List.set_cons_succ]
          have HBW := Aside0.mk HBW
          have QV := Aside0.mk (Q_V12 hb12_)
          clear hall hb0_ hb1_ hb2_ hb3_ hb4_ hb5_ hb6_ hb7_ hb8_ hb9_ hb10_ hb11_ hb12_ Q_V11 Q_V12
          go_wp2_with fail
          go_roundw
          case rel => exact ⟨k + 1, by omega, by go_num, below_step (below_drew HBR.out) HBW.out, QV.out⟩
          case measure => simp [intOf]; omega
        · have hkn : n = k := by omega
          subst hkn
          have hx := UX.out
          rw [HN.out, allB_end] at hx
          obtain ⟨A7, c7, hu7, l7, g7⟩ := hx
          subst hu7
          have hu2 : CFB wr (.slice A7 (canonB (canonB m ++ canonB l)).length c7) (canonB (canonB m ++ canonB l)) := ⟨A7, c7, rfl, l7, g7⟩
          have hln := all_len l m
          have hl2 : (canonB l).length ≤ 1000 := by have := names_short l; have := LL.out; rw [canonB_len]; omega
          obtain ⟨n2, hN2⟩ : ∃ x, x = (canonB l).length := ⟨_, rfl⟩
          obtain ⟨n3, hN3⟩ : ∃ x, x = (canonB (canonB m ++ canonB l)).length := ⟨_, rfl⟩
          rw [← hN3] at hu2 hln ⊢
          rw [← hN2] at hln hl2
          rw [← HN.out] at hln
          have N2 := Aside0.mk hN2
          have LN := Aside0.mk hln
          have hn3 : n3 ≤ 2000 := by omega
          have UX2 := Aside0.mk (hu2)
          have hbe : Below wr.heap.size wr (wr.alloc (.cells #[] 38)) := below_alloc (Below.refl _ _) _
          have HE := Aside0.mk (R_empty wr wr wr.heap.size (Nat.le_refl _))
          have HRR := Aside0.mk (show ReadsRow (k38.K wr) 5 (wr.alloc (.cells #[] 38)) A6 n (canonB m) from by rw [HN.out]; exact ReadsRow.imp_ G6.out hbe (fun _ _ h => h))
          have HBE := Aside0.mk hbe
          clear UX l7 g7 hlt hk hbe G6 hu2 hln hN2 hN3 HBR
          have LA := Aside0.mk (show (([] : List S38).length + n) * 88 ≤ 140737488355328 from by simp; omega)
          go_wp2_with (at_builtin; refine Kd.R_append_rows (seen k38 wr) (w0 := wr) (Rr := k38.K wr) wr.heap.size rfl _ _ 22 38 (.agg #[(.string ⟨#[]⟩), (.int .i64 0), (.string ⟨#[]⟩), (.slice none 0 0), (.slice none 0 0)]) 88 rfl Try.underlying22 bind_info rfl (show 0 < 5 by decide) (by decide) (.slice (some ⟨wr.heap.size, 0, none⟩) 0 0) [] (canonB m) A6 n c6 (fun _ => True) (fun _ => False) rfl rfl HE.out HRR.out (fun _ _ h => h) (fun _ h => h.elim) (fun _ _ => trivial) HBE.out HBE.out.size (LA.out) ?_; intro v1 w6 q1 q2 q3 q4; have Q1 := Aside0.mk q1; have Q2 := Aside0.mk q2; clear q1 q2 q3 q4)
          refine (rcanon_cfR (CFB.below U0.out Q2.out) ML.out).mono ?_
          rintro e w7 ⟨v2, rfl, hv, hb⟩
          obtain ⟨A8, c8, hv2, l8, r8⟩ := OwnRow.reads hv.2
          subst hv2
          obtain ⟨OK, hOK⟩ : ∃ o : Nat → Prop, o = fun k => True ∧ some k ≠ (Value.slice A8 (canonB l).length c8).ownBlock := ⟨_, rfl⟩
          rw [← hOK] at r8
          clear hOK
          rw [← N2.out] at r8 ⊢
          have HO := Aside0.mk (R_orK (w1 := w7) (b := w6.heap.size) (ok' := OK) (Kd.R_below Q1.out hb))
          have R8 := Aside0.mk r8
          have Q3 := Aside0.mk (below_step Q2.out hb)
          have LA2 := Aside0.mk (show ((canonB m).length + n2) * 88 ≤ 140737488355328 from by rw [← HN.out]; omega)
          clear hv l8 r8 hb Q1 Q2 HE HRR HBE LA
          go_wp2_with (at_builtin; refine Kd.R_append_rows (orK k38 wr w7 w6.heap.size OK) (w0 := wr) (Rr := k38.M w7 w6.heap.size OK) wr.heap.size rfl _ _ 22 38 (.agg #[(.string ⟨#[]⟩), (.int .i64 0), (.string ⟨#[]⟩), (.slice none 0 0), (.slice none 0 0)]) 88 rfl Try.underlying22 bind_info rfl (show 0 < 5 by decide) (by decide) (v1) (canonB m) (canonB l) A8 n2 c8 (fun _ => True) (fun _ => False) rfl rfl HO.out R8.out (fun _ _ h => .inr h) (fun _ h => h.elim) (fun _ _ => trivial) Q3.out Q3.out.size (LA2.out) ?_; intro v3 w8 q1 q2 q3 q4; have CB := Aside0.mk (CFB_orK q1 q2 HO.out q3); have Q2 := Aside0.mk q2; clear q1 q2 q3 q4)
          clear HO R8 Q3 LA2
          have hb := Q2.out
          replace U0 := Aside0.mk (U0.out.below hb)
          replace U1 := Aside0.mk (U1.out.below hb)
          replace HB := Aside0.mk (below_step HB.out hb)
          replace UC := Aside0.mk (UC.out.below hb)
          replace UX2 := Aside0.mk (UX2.out.below hb)
          clear hb
          clear Q2
          go_wp2_with fail
          refine (canon_cf CB.out (both_modest ML.out MM.out LL.out LM.out)).mono ?_
          rintro e w9 ⟨v4, rfl, hv, hb⟩
          replace U0 := Aside0.mk (U0.out.below hb)
          replace U1 := Aside0.mk (U1.out.below hb)
          replace HB := Aside0.mk (below_step HB.out hb)
          replace UC := Aside0.mk (UC.out.below hb)
          replace UX2 := Aside0.mk (UX2.out.below hb)
          replace CB := Aside0.mk (CB.out.below hb)
          clear hb
          have C4 := Aside0.mk (hv)
          clear hv
          go_wp2_with fail
          refine (rveryB_cf UX2.out C4.out (canonB_modest (both_modest ML.out MM.out LL.out LM.out)) rfl).mono ?_
          rintro e w10 ⟨rfl, hb⟩
          replace U0 := Aside0.mk (U0.out.below hb)
          replace U1 := Aside0.mk (U1.out.below hb)
          replace HB := Aside0.mk (below_step HB.out hb)
          replace UC := Aside0.mk (UC.out.below hb)
          replace UX2 := Aside0.mk (UX2.out.below hb)
          replace CB := Aside0.mk (CB.out.below hb)
          replace C4 := Aside0.mk (C4.out.below hb)
          clear hb
          go_wp2_with fail
          refine (rcanon_cf U0.out ML.out).mono ?_
          rintro e w11 ⟨v6, rfl, hv, hb⟩
          obtain ⟨A10, c10, rfl, l10, g10⟩ := hv
          rw [← N2.out]
          clear l10 g10
          replace U0 := Aside0.mk (U0.out.below hb)
          replace U1 := Aside0.mk (U1.out.below hb)
          replace HB := Aside0.mk (below_step HB.out hb)
          replace UC := Aside0.mk (UC.out.below hb)
          replace UX2 := Aside0.mk (UX2.out.below hb)
          replace CB := Aside0.mk (CB.out.below hb)
          replace C4 := Aside0.mk (C4.out.below hb)
          clear hb
          have hln := LN.out
          go_wp2_with fail
          go_ret
          exact ⟨by simp; omega, HB.out⟩
end Go.Proofs.Ytfaiplbogchgjaa.PA
end
section
namespace Go.Proofs.Ytfaiplbogchgjaa.PA
set_option linter.unusedSimpArgs false
set_option linter.unusedVariables false
open Go.RowKit Go.Joins Go.WideShapes Go.ChangeShapes Go.Proofs.YtfaiplbogchgjaaW.PrintWords X
theorem down_pair : Down Try.prog k50 (fun x => x.f0.size ≤ maxLen ∧ x.f1.size ≤ maxLen) 50 :=
  down_iso (fun p => ⟨p.1, p.2⟩) (fun _ => rfl) (down_struct Try.underlying50 (fdown_cons (down_string Try.underlying9) rfl (by kernel_rfl) (fdown_one (down_string Try.underlying9) rfl (by kernel_rfl))) (by kernel_rfl))
def okV (x : S28) : Prop := (Lit.int .i64 x.f0).wf = true ∧ x.f1.size ≤ maxLen ∧ (∀ y ∈ x.f2, y.size ≤ maxLen) ∧ ∀ y ∈ x.f3, y.f0.size ≤ maxLen ∧ y.f1.size ≤ maxLen
set_option maxRecDepth 100000 in
theorem down_value : Down Try.prog k28 okV 28 :=
  down_iso (fun p => ⟨p.1, p.2.1, p.2.2.1, p.2.2.2⟩) (fun _ => rfl) (down_struct Try.underlying28 (fdown_cons (down_int Try.underlying3) rfl (by kernel_rfl) (fdown_cons (down_string Try.underlying9) rfl (by kernel_rfl) (fdown_cons (down_slice Try.underlying25 (down_string Try.underlying9) (by kernel_rfl)) rfl (by kernel_rfl) (fdown_one (down_slice Try.underlying26 down_pair (by kernel_rfl)) rfl (by kernel_rfl))))) (by kernel_rfl))
set_option maxRecDepth 100000 in
theorem down_bind : Down Try.prog k38 (fun x => x.f0.size ≤ maxLen ∧ okV x.f1) 38 :=
  down_iso (fun p => ⟨p.1, p.2⟩) (fun _ => rfl) (down_struct Try.underlying38 (fdown_cons (down_string Try.underlying9) rfl (by kernel_rfl) (fdown_one down_value rfl (by kernel_rfl))) (by kernel_rfl))
end Go.Proofs.Ytfaiplbogchgjaa.PA
end
section
namespace Go.Proofs.Ytfaiplbogchgjaa.bindAll
open Go.ChangeShapes Go.WideShapes Go.ChangeAt Go.RowKit
open Go.ChangeMaps (open_string shut_string)
set_option linter.unusedVariables false
theorem own : ownKnob Try.prog.godebug = none := by kernel_rfl
theorem laidOut : laidOutB Try.prog = true := by kernel_rfl
set_option maxRecDepth 100000 in
theorem lifted (os : Os) (started : os.Started) (H : Type) (enc : TypeId × Value → H) :
    ReturnsInHanded {} Try.checked os 8 .any (Rows.bindAllSpec.pre6 enc Try.prog Try.f8 Rows.bindAllRow.domain false) (Rows.bindAllSpec.post enc Try.prog Try.f8 false true false false) := by
  refine returnsInHanded_of_change_sized (C := Try.checked) own started (by kernel_rfl) Try.func8
    (ChangeSpec.witness6 (enc := enc) (C := Try.checked) false ⟨#[], #[.slice none 0 0, .slice none 0 0], []⟩ 8 (by kernel_rfl) (by kernel_rfl) (by kernel_rfl) (by kernel_rfl)) ?_
  intro W base args ds gs before hval0 hW hcnd _ _
  have hval : ∀ (j : Nat) t v, Try.f8.params[j]? = some t → args[j]? = some v → Value.okWide Try.prog W .any base t v := hval0
  have hW' := hW
  obtain ⟨p, q, hA0, hV, rfl, hfz, hnd⟩ := hW
  have hA : DataW.TrodAll enc Try.prog W 0 (fun _ => true) true Try.f8.params.toList args.toList ds p := hA0
  rw [Try.params8] at hA hval
  obtain ⟨v0, vs0, d0, ds0, p0, r0, hargs, rfl, rfl, h0, t0⟩ := trodAll_cons hA
  obtain ⟨v1, vs1, d1, ds1, p1, r1, rfl, rfl, rfl, h1, t1⟩ := trodAll_cons t0
  obtain ⟨rfl, rfl, rfl⟩ := trodAll_nil t1
  obtain rfl : args = #[v0, v1] := by cases args; simp_all
  obtain ⟨rfl, rfl⟩ := trodVars_none hV
  have k0 := h0
  have lt0 : ∀ x ∈ p0, x.block < W.heap.size := by obtain ⟨m, hm⟩ := k0; exact DataW.trod_lt m _ _ _ hm
  obtain ⟨A0, l0, c0, rfl, hc0, hl0, o0⟩ := X.arg_slice Try.underlying22 PA.down_bind (by kernel_rfl) (hval 0 22 v0 rfl rfl) h0
  have k1 := h1
  have lt1 : ∀ x ∈ p1, x.block < W.heap.size := by obtain ⟨m, hm⟩ := k1; exact DataW.trod_lt m _ _ _ hm
  obtain ⟨A1, l1, c1, rfl, hc1, hl1, o1⟩ := X.arg_slice Try.underlying22 PA.down_bind (by kernel_rfl) (hval 1 22 v1 rfl rfl) h1
  refine (PA.BindAll_walk W hl0 hc0 hl1 hc1).mono fun e W' ⟨he, bel⟩ => ?_
  subst he
  exact ⟨_, rfl, _, _, _, [], _, [], hW', trodAll_mk1 (shut_bool Try.underlying4 _), (trodAll_cons_mk (Below.trod laidOut (by kernel_rfl) (of_decide_eq_true (by kernel_rfl)) k0 bel lt0) (trodAll_cons_mk (Below.trod laidOut (by kernel_rfl) (of_decide_eq_true (by kernel_rfl)) k1 bel lt1) trodAll_mk0)), rfl, bel.frame _, fun h => by cases h⟩
theorem over : Rows.bindAllRow.holds Try.pinned (OpenSpec.ofChange Rows.bindAllSpec) :=
  OpenClaim.holds_of_wide 8 Try.f8 rfl rfl rfl rfl rfl rfl rfl ⟨rfl, rfl, rfl, rfl, rfl⟩ rfl rfl rfl rfl rfl (by kernel_rfl) Try.func8 (by kernel_rfl)
    (of_decide_eq_true (by kernel_rfl)) (by unfold Func.isWrapper; first | (rw [if_pos (by decide +kernel)]; kernel_rfl) | (rw [if_neg (by decide +kernel)]; exact ⟨rfl, rfl⟩))
    (fun os started H enc _ => lifted os started H enc)
end Go.Proofs.Ytfaiplbogchgjaa.bindAll
namespace Go.Proofs.Ytfaiplbogchgjaa
theorem bindAll_holds : Rows.BindAllSaid := bindAll.over
#print axioms bindAll_holds
end Go.Proofs.Ytfaiplbogchgjaa
end
