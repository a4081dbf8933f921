/- Texts of this claim, those that nothing needs left out: Zbi Zbj. -/
import Derived.Test.YtfaiplbogchgjaaBdG22
import Derived.Test.YtfaiplbogchgjaaBdG24
import Derived.Test.YtfaiplbogchgjaaBdG20
section
namespace Go.Proofs.Ytfaiplbogchgjaa.PA
set_option linter.unusedSimpArgs false
set_option linter.unusedVariables false
open Go.RowKit Go.Proofs.YtfaiplbogchgjaaW.PrintWords Go.Proofs.YtfaiplbogchgjaaW.PrintLast
set_option maxHeartbeats 8000000 in
set_option maxRecDepth 100000 in
theorem bclone_of (A : Option Addr) (c : Nat) (l : List S38) (w w0 : World) (hr : ReadsRow (k38.K w0) 5 w A l.length l) (hl : l.length ≤ 1000000) :
    Calls Try.prog 34 #[.slice A l.length c] w fun e W => ∃ v, e = .returned v ∧ Kd.R (seen k38 w0) 38 W w.heap.size (fun _ => True) v l ∧ Below w.heap.size w W := by
  have HR := Aside0.mk hr
  clear hr
  have q22 : ∀ (w : World) (a : Option Addr) (n c n' c' : Nat), (binOp .eql 22 (.slice a n c) (.slice none n' c')).run Try.prog w = .ok (.bool a.isNone) w := fun w a n c n' c' => Lib.run_eql_slice_nil w _ _ a n c n' c' Try.underlying22
  rcases A with _ | ad
  · have hl0 : l = [] := by
      cases l with
      | nil => rfl
      | cons x l => obtain ⟨ad, h, _⟩ := HR.out.2.2 (by simp); cases h
    subst hl0
    go_enter Try.func34, Try.ntmps34
    go_wp2_with fail
    go_ret
    exact ⟨_, rfl, ⟨fun _ _ => trivial, [], ⟨rfl, .inl ⟨rfl, rfl⟩⟩, Reps.none _ _⟩, Below.refl _ _⟩
  · go_enter Try.func34, Try.ntmps34
    have he := R_empty w0 w w.heap.size (Nat.le_refl _)
    have hbe : Below w.heap.size w (w.alloc (.cells #[] 38)) := below_alloc (Below.refl _ _) _
    have hrr : ReadsRow (k38.K w0) 5 (w.alloc (.cells #[] 38)) (some ad) l.length l := ReadsRow.imp_ HR.out hbe (fun _ _ h => h)
    go_wp2_with (at_builtin; refine Kd.R_append_rows (seen k38 w0) (w0 := w) (Rr := k38.K w0) w.heap.size rfl _ _ 22 38 (.agg #[(.string ⟨#[]⟩), (.int .i64 0), (.string ⟨#[]⟩), (.slice none 0 0), (.slice none 0 0)]) 88 rfl Try.underlying22 bind_info rfl (show 0 < 5 by decide) (by decide) _ [] l (some ad) l.length c (fun _ => True) (fun _ => False) rfl rfl he hrr (fun _ _ h => h) (fun _ h => h.elim) (fun _ _ => trivial) hbe hbe.size (by simp; omega) ?_; intro v1 w1 q1 q2 q3 q4)
    go_ret
    exact ⟨_, rfl, by simpa using q1, q2⟩
theorem reps_one {α : Type} {R : α → List Value → Prop} {size : Nat} {ps : List α} {cs : List Value} (h : Reps R size ps cs) (hs : 0 < size) (h1 : ∀ p c, R p c → ∀ u ∈ c, u.oneCell' = true) : ∀ u ∈ cs, u.oneCell' = true := by
  intro u hu
  obtain ⟨i, hi, rfl⟩ := List.getElem_of_mem hu
  have hj : i / size < ps.length := by rw [Nat.div_lt_iff_lt_mul hs, ← h.1]; exact hi
  have h2 := h.2 _ _ (List.getElem?_eq_getElem hj)
  refine h1 _ _ h2 _ ?_
  have e := Nat.div_add_mod i size
  have hm := Nat.mod_lt i hs
  refine List.mem_iff_getElem.2 ⟨i % size, ?_, ?_⟩
  · rw [List.length_take, List.length_drop, Nat.lt_min]
    refine ⟨hm, ?_⟩
    rw [Nat.mul_comm] at e
    omega
  · rw [List.getElem_take, List.getElem_drop]
    congr 1
    rw [Nat.mul_comm] at e
    exact e
theorem bins_of (v : Value) (l : List S38) (x : S38) (vs : List Value) (w w0 w1 : World) (base : Nat) (hR : Kd.R (seen k38 w0) 38 w base (fun _ => True) v l) (hl : l.length ≤ 1000000) (hK : k38.K w0 x vs)
    (vb : Nat) (hv : w.heap[vb]? = some (.cells vs.toArray 38 (0, 0))) (hvb : some vb ≠ v.ownBlock) (hb : Below base w1 w) (hbase : base ≤ w.heap.size) :
    Calls Try.prog 33 #[v, .int .i64 0, .slice (some ⟨vb, 0, none⟩) 1 1] w fun e w' => ∃ s', e = .returned s' ∧ Kd.R (seen k38 w0) 38 w' base (fun _ => True) s' (x :: l) ∧ Below base w1 w' := by
  obtain ⟨_, inner, ho, hr⟩ := hR
  have hvl : vs.length = 5 := k38.K_len hK
  have h1v := k38.K_one hK
  have h1c := reps_one hr (show 0 < 5 by decide) (fun _ _ h => k38.K_one h)
  have hr1 : Reps (k38.K w0) 5 [x] vs := by have := (Reps.none (k38.K w0) 5).snoc hK hvl; simpa using this
  have fin : ∀ (e : Ending) (w' : World), (∃ s', e = .returned s' ∧ World.ownsRow w' base 38 5 s' (l.length + 1) (vs ++ inner) ∧ Below base w1 w') → ∃ s', e = .returned s' ∧ Kd.R (seen k38 w0) 38 w' base (fun _ => True) s' (x :: l) ∧ Below base w1 w' := by
    rintro e w' ⟨s', he, ho', hb'⟩
    exact ⟨s', he, ⟨fun _ _ => trivial, vs ++ inner, ho', Kd.reps_append hr1 hr⟩, hb'⟩
  have ho2 := ho
  obtain ⟨hlen, h⟩ := ho2
  change inner.length = l.length * 5 at hlen
  rcases h with ⟨rfl, hn⟩ | ⟨g, cap, cur, rfl, hg1, hg2, hg3, hg4, hg5, hg6⟩
  · have hi : inner = [] := List.length_eq_zero_iff.1 (by rw [hlen, hn])
    subst hi
    rw [hn] at ho
    refine (X.insert_none base none 0 vs w ho hbase vb hv hvl h1v w1 hb).mono fun e w' h => fin e w' ?_
    simpa [hn] using h
  · change cur.size = cap * 5 at hg5
    change cur.toList.take (l.length * 5) = inner at hg6
    have hvg : vb ≠ g := fun h => hvb (by rw [h]; rfl)
    rcases Nat.eq_zero_or_pos l.length with hn | hn
    · have hi : inner = [] := List.length_eq_zero_iff.1 (by rw [hlen, hn])
      subst hi
      rw [hn] at ho ⊢
      refine (X.insert_none base _ cap vs w ho hbase vb hv hvl h1v w1 hb).mono fun e w' h => fin e w' ?_
      simpa [hn] using h
    · rcases Nat.lt_or_ge cap (l.length + 1) with hc | hc
      · exact (X.insert_grow base g l.length cap inner vs cur w hn hl hg3 hc hg2 hlen hg5 hg6 h1c hbase vb hv hvl h1v w1 hb).mono fin
      · exact (X.insert_shift base g l.length cap inner vs cur w hn hl hc hg4 hg2 hlen hg5 hg6 h1c hg1 vb hvg hv hvl h1v w1 hb).mono fin
def set.T : Bool × List (List Nat × List Nat) := (true, [([], []), ([0], [0]), ([], []), ([], []), ([2, 3], [2, 3]), ([4], [4]), ([1, 5, 1], [1, 5]), ([6, 6], [6]), ([7, 7, 0, 1, 2, 3, 4, 5, 6, 7], [7])])
def set.B : List Nat := [0, 1, 0, 0, 12, 28, 63, 127, 255]
theorem set.tab : rtab .any (opsOf Try.f24 1) = set.T := by kernel_rfl
theorem set.bits : waitsOk set.T.2 set.B = true := by kernel_rfl
def SetI (w wr : World) (l : List S38) (x : S38) (obj : Obj) (bb : Nat → Bool) (ww : World) (v1 v5 v6 v7 v8 : Value) : Prop :=
  Below wr.heap.size wr ww ∧
  (bb 1 = true → bb 6 = false → Kd.R (seen k38 w) 38 ww wr.heap.size (fun _ => True) v1 l) ∧
  (bb 5 = true → bb 6 = false → ∃ g, v5 = .slice (some ⟨g, 0, none⟩) 1 1 ∧ ww.heap[g]? = some obj ∧ (bb 1 = true → some g ≠ v1.ownBlock)) ∧
  (bb 6 = true → bb 7 = false → Kd.R (seen k38 w) 38 ww wr.heap.size (fun _ => True) v6 (x :: l)) ∧
  (bb 7 = true → Kd.R k38 38 ww wr.heap.size (fun _ => True) v7 (canonB (x :: l))) ∧ (bb 8 = true → v8 = v7)
set_option maxHeartbeats 8000000 in
set_option maxRecDepth 100000 in
theorem set_of (A : Option Addr) (c : Nat) (l : List S38) (nm : ByteArray) (s : S28) (A3 A4 : Option Addr) (c3 c4 : Nat) (w : World) (hr : Kd.C k38 w A l.length l) (hm : modestB (⟨nm, s⟩ :: l))
    (l3 : s.f2.length ≤ c3) (g3 : Kd.C Kd.string w A3 s.f2.length s.f2) (l4 : s.f3.length ≤ c4) (g4 : Kd.C k50 w A4 s.f3.length s.f3) :
    Calls Try.prog 24 #[.slice A l.length c, .string nm, .agg #[.int .i64 s.f0, .string s.f1, .slice A3 s.f2.length c3, .slice A4 s.f3.length c4]] w fun e W => ∃ v, e = .returned v ∧ Kd.R k38 38 W w.heap.size (fun _ => True) v (canonB (⟨nm, s⟩ :: l)) ∧ Below w.heap.size w W := by
  have hK := k38_mk w ⟨nm, s⟩ l3 g3 l4 g4
  have HR := Aside0.mk hr
  have HM := Aside0.mk hm
  have HK := Aside0.mk hK
  have hl1 := HM.out.1
  clear hr hm hK l3 g3 l4 g4
  have hl2 : l.length ≤ 1000 := by simp at hl1; omega
  go_enter Try.func24, Try.ntmps24
  go_wp2_with fail
  have hbw : Below w.heap.size w (w.alloc (.cells #[.int .i64 s.f0, .string s.f1, .slice A3 s.f2.length c3, .slice A4 s.f3.length c4] 28)) := X.below_new1 _ _
  have hbl := blk_new w (.cells #[.int .i64 s.f0, .string s.f1, .slice A3 s.f2.length c3, .slice A4 s.f3.length c4] 28)
  revert hbw hbl
  generalize (w.alloc (.cells #[.int .i64 s.f0, .string s.f1, .slice A3 s.f2.length c3, .slice A4 s.f3.length c4] 28)) = wr
  intro hbw hbl
  have HBW := Aside0.mk hbw
  have KB := Aside0.mk hbl
  clear hbw hbl
  refine start_ (n := 9) (S := fun _ => True) (ds := []) #[false, false, false, false, false, false, false, false, false] (by kernel_rfl) rfl rfl trivial (fun hHeld => ?_)
  refine with_tabW set.tab set.bits (fun HT_ HW_ => ?_)
  refine inv_at [0, 1, 2, 3, 4, 5, 6, 7, 8] (fun a0_ bb aa ww => ∃ v1 v5 v6 v7 v8, aa = putSel a0_ bb [(0, 7, .slice A l.length c), (1, 8, v1), (2, 9, .string nm), (3, 10, .agg #[.int .i64 s.f0, .string s.f1, .slice A3 s.f2.length c3, .slice A4 s.f3.length c4]), (4, 11, .agg #[.string nm, .int .i64 s.f0, .string s.f1, .slice A3 s.f2.length c3, .slice A4 s.f3.length c4]), (5, 12, v5), (6, 13, v6), (7, 14, v7), (8, 6, v8)] ∧ SetI w wr l ⟨nm, s⟩ (.cells #[.string nm, .int .i64 s.f0, .string s.f1, .slice A3 s.f2.length c3, .slice A4 s.f3.length c4] 38 (0, 0)) bb ww v1 v5 v6 v7 v8) HT_.out HW_.out (by kernel_rfl) (by kernel_rfl) ?_ ?_ ?_
  · exact ⟨.bool false, .bool false, .bool false, .bool false, .bool false, by simp only [putSel, Bool.false_eq_true, if_false], pw_below_drewN (Below.refl _ _) 1, fun h => absurd h (by decide), fun h => absurd h (by decide), fun h => absurd h (by decide), fun h => absurd h (by decide), fun h => absurd h (by decide)⟩
  · clear hHeld HT_ HW_
    refine steps_cons ?_ ?_
    · rintro bb aa ww ⟨v1, v5, v6, v7, v8, ha, hB, q1, q5, q6, q7, q8⟩ hb_ hon hoff
      refine ⟨_, rfl, fun KK hK => ?_⟩
      have e0 : aa.tmps[0]? = some (.slice A l.length c) := by rw [ha]; exact (putSel_off rfl).trans rfl
      replace ha := Aside0.mk ha
      refine value_ (w1 := ww) (v := .slice A l.length c) (by rfl) rfl ?_ ?_
      · go_simp
        try rfl
      refine hK.out _ _ ⟨v1, v5, v6, v7, v8, (by rw [ha.out]; exact putSel_upk 0 hb_ rfl rfl rfl), hB, ?_, ?_, ?_, ?_, ?_⟩
      · intro h h'; rw [up_ne (by decide)] at h h'; exact q1 h h'
      · intro h h'
        rw [up_ne (by decide)] at h h'
        obtain ⟨g, e5, hg, d5⟩ := q5 h h'
        exact ⟨g, e5, hg, fun h => by rw [up_ne (by decide)] at h; exact d5 h⟩
      · intro h h'; rw [up_ne (by decide)] at h h'; exact q6 h h'
      · intro h; rw [up_ne (by decide)] at h; exact q7 h
      · intro h; rw [up_ne (by decide)] at h; exact q8 h
    refine steps_cons ?_ ?_
    · rintro bb aa ww ⟨v1, v5, v6, v7, v8, ha, hB, q1, q5, q6, q7, q8⟩ hb_ hon hoff
      refine ⟨_, rfl, fun KK hK => ?_⟩
      have hb6 : bb 6 = false := hoff 6 (by kernel_rfl)
      have hb7 : bb 7 = false := hoff 7 (by kernel_rfl)
      have e7 : aa.tmps[7]? = some (.slice A l.length c) := by rw [ha]; exact putSel_on (e := (0, 7, .slice A l.length c)) 0 rfl rfl (hon 0 (by kernel_rfl)) rfl
      replace ha := Aside0.mk ha
      refine goes_ Try.func34 (by kernel_rfl) rfl #[.slice A l.length c] (by rfl) rfl rfl (by first | (simp only [List.map_toArray, List.map_cons, List.map_nil, Act.eval, Array.getD_eq_getD_getElem?, Option.getD_some, e7]; done) | (simp only [List.map_toArray, List.map_cons, List.map_nil, Act.eval, Array.getD_eq_getD_getElem?, Option.getD_some, e7]; rfl)) ?_
      have hww : Below w.heap.size w ww := HBW.out.trans (hB.mono HBW.out.size)
      refine (bclone_of A c l ww w (ReadsRow.imp_ HR.out hww (fun _ _ h => h)) (by omega)).mono ?_
      rintro e w1 ⟨v, rfl, hv, hb⟩
      refine ⟨_, rfl, ?_⟩
      refine hK.out _ _ ⟨v, v5, v6, v7, v8, (by rw [ha.out]; exact putSel_upk 1 hb_ rfl rfl rfl), below_step hB hb, ?_, ?_, ?_, ?_, ?_⟩
      · intro h h'; exact Kd.R_lower hv hB.size
      · intro h h'
        rw [up_ne (by decide)] at h h'
        obtain ⟨g, e5, hg, d5⟩ := q5 h h'
        refine ⟨g, e5, blk_below hg hb, fun _ e => ?_⟩
        have := Kd.R_base hv _ e.symm
        have := blk_lt hg
        omega
      · intro h; rw [up_ne (by decide), hb6] at h; cases h
      · intro h; rw [up_ne (by decide), hb7] at h; cases h
      · intro h; rw [up_ne (by decide)] at h; exact q8 h
    refine steps_cons ?_ ?_
    · rintro bb aa ww ⟨v1, v5, v6, v7, v8, ha, hB, q1, q5, q6, q7, q8⟩ hb_ hon hoff
      refine ⟨_, rfl, fun KK hK => ?_⟩
      have e1 : aa.tmps[1]? = some (.string nm) := by rw [ha]; exact (putSel_off rfl).trans rfl
      replace ha := Aside0.mk ha
      refine value_ (w1 := ww) (v := .string nm) (by rfl) rfl ?_ ?_
      · go_simp
        try rfl
      refine hK.out _ _ ⟨v1, v5, v6, v7, v8, (by rw [ha.out]; exact putSel_upk 2 hb_ rfl rfl rfl), hB, ?_, ?_, ?_, ?_, ?_⟩
      · intro h h'; rw [up_ne (by decide)] at h h'; exact q1 h h'
      · intro h h'
        rw [up_ne (by decide)] at h h'
        obtain ⟨g, e5, hg, d5⟩ := q5 h h'
        exact ⟨g, e5, hg, fun h => by rw [up_ne (by decide)] at h; exact d5 h⟩
      · intro h h'; rw [up_ne (by decide)] at h h'; exact q6 h h'
      · intro h; rw [up_ne (by decide)] at h; exact q7 h
      · intro h; rw [up_ne (by decide)] at h; exact q8 h
    refine steps_cons ?_ ?_
    · rintro bb aa ww ⟨v1, v5, v6, v7, v8, ha, hB, q1, q5, q6, q7, q8⟩ hb_ hon hoff
      refine ⟨_, rfl, fun KK hK => ?_⟩
      have e5 : aa.tmps[5]? = some (.pointer (some ⟨w.heap.size, 0, none⟩)) := by rw [ha]; exact (putSel_off rfl).trans rfl
      have hcw := X.cells4 (blk_below KB.out hB)
      replace ha := Aside0.mk ha
      refine value_ (w1 := ww) (v := .agg #[.int .i64 s.f0, .string s.f1, .slice A3 s.f2.length c3, .slice A4 s.f3.length c4]) (by rfl) rfl ?_ ?_
      · go_simp
        try rfl
      refine hK.out _ _ ⟨v1, v5, v6, v7, v8, (by rw [ha.out]; exact putSel_upk 3 hb_ rfl rfl rfl), hB, ?_, ?_, ?_, ?_, ?_⟩
      · intro h h'; rw [up_ne (by decide)] at h h'; exact q1 h h'
      · intro h h'
        rw [up_ne (by decide)] at h h'
        obtain ⟨g, e5, hg, d5⟩ := q5 h h'
        exact ⟨g, e5, hg, fun h => by rw [up_ne (by decide)] at h; exact d5 h⟩
      · intro h h'; rw [up_ne (by decide)] at h h'; exact q6 h h'
      · intro h; rw [up_ne (by decide)] at h; exact q7 h
      · intro h; rw [up_ne (by decide)] at h; exact q8 h
    refine steps_cons ?_ ?_
    · rintro bb aa ww ⟨v1, v5, v6, v7, v8, ha, hB, q1, q5, q6, q7, q8⟩ hb_ hon hoff
      refine ⟨_, rfl, fun KK hK => ?_⟩
      have e9 : aa.tmps[9]? = some (.string nm) := by rw [ha]; exact putSel_on (e := (2, 9, .string nm)) 2 rfl rfl (hon 2 (by kernel_rfl)) rfl
      have e10 : aa.tmps[10]? = some (.agg #[.int .i64 s.f0, .string s.f1, .slice A3 s.f2.length c3, .slice A4 s.f3.length c4]) := by rw [ha]; exact putSel_on (e := (3, 10, .agg #[.int .i64 s.f0, .string s.f1, .slice A3 s.f2.length c3, .slice A4 s.f3.length c4])) 3 rfl rfl (hon 3 (by kernel_rfl)) rfl
      replace ha := Aside0.mk ha
      refine value_ (w1 := ww) (v := .agg #[.string nm, .int .i64 s.f0, .string s.f1, .slice A3 s.f2.length c3, .slice A4 s.f3.length c4]) (by rfl) rfl ?_ ?_
      · go_simp
        try rfl
      refine hK.out _ _ ⟨v1, v5, v6, v7, v8, (by rw [ha.out]; exact putSel_upk 4 hb_ rfl rfl rfl), hB, ?_, ?_, ?_, ?_, ?_⟩
      · intro h h'; rw [up_ne (by decide)] at h h'; exact q1 h h'
      · intro h h'
        rw [up_ne (by decide)] at h h'
        obtain ⟨g, e5, hg, d5⟩ := q5 h h'
        exact ⟨g, e5, hg, fun h => by rw [up_ne (by decide)] at h; exact d5 h⟩
      · intro h h'; rw [up_ne (by decide)] at h h'; exact q6 h h'
      · intro h; rw [up_ne (by decide)] at h; exact q7 h
      · intro h; rw [up_ne (by decide)] at h; exact q8 h
    refine steps_cons ?_ ?_
    · rintro bb aa ww ⟨v1, v5, v6, v7, v8, ha, hB, q1, q5, q6, q7, q8⟩ hb_ hon hoff
      refine ⟨_, rfl, fun KK hK => ?_⟩
      have e11 : aa.tmps[11]? = some (.agg #[.string nm, .int .i64 s.f0, .string s.f1, .slice A3 s.f2.length c3, .slice A4 s.f3.length c4]) := by rw [ha]; exact putSel_on (e := (4, 11, .agg #[.string nm, .int .i64 s.f0, .string s.f1, .slice A3 s.f2.length c3, .slice A4 s.f3.length c4])) 4 rfl rfl (hon 4 (by kernel_rfl)) rfl
      replace ha := Aside0.mk ha
      refine value_ (w1 := ww.alloc (.cells #[.string nm, .int .i64 s.f0, .string s.f1, .slice A3 s.f2.length c3, .slice A4 s.f3.length c4] 38)) (v := .slice (some ⟨ww.heap.size, 0, none⟩) 1 1) (by rfl) rfl ?_ ?_
      · go_simp
        try rfl
      refine hK.out _ _ ⟨v1, .slice (some ⟨ww.heap.size, 0, none⟩) 1 1, v6, v7, v8, (by rw [ha.out]; exact putSel_upk 5 hb_ rfl rfl rfl), below_alloc hB _, ?_, ?_, ?_, ?_, ?_⟩
      · intro h h'; rw [up_ne (by decide)] at h h'; exact Kd.R_alloc (q1 h h') _
      · intro h h'
        refine ⟨ww.heap.size, rfl, blk_new ww _, fun h e => ?_⟩
        rw [up_ne (by decide)] at h h'
        exact absurd (Kd.R_lt (q1 h h') _ e.symm) (Nat.lt_irrefl _)
      · intro h h'; rw [up_ne (by decide)] at h h'; exact Kd.R_alloc (q6 h h') _
      · intro h; rw [up_ne (by decide)] at h; exact Kd.R_alloc (q7 h) _
      · intro h; rw [up_ne (by decide)] at h; exact q8 h
    refine steps_cons ?_ ?_
    · rintro bb aa ww ⟨v1, v5, v6, v7, v8, ha, hB, q1, q5, q6, q7, q8⟩ hb_ hon hoff
      refine ⟨_, rfl, fun KK hK => ?_⟩
      have hb7 : bb 7 = false := hoff 7 (by kernel_rfl)
      have b1 : bb 1 = true := hon 1 (by kernel_rfl)
      obtain ⟨g, rfl, hg, d5⟩ := q5 (hon 5 (by kernel_rfl)) hb_
      have r1 := q1 b1 hb_
      have e8 : aa.tmps[8]? = some (v1) := by rw [ha]; exact putSel_on (e := (1, 8, v1)) 1 rfl rfl b1 rfl
      have e12 : aa.tmps[12]? = some (.slice (some ⟨g, 0, none⟩) 1 1) := by rw [ha]; exact putSel_on (e := (5, 12, .slice (some ⟨g, 0, none⟩) 1 1)) 5 rfl rfl (hon 5 (by kernel_rfl)) rfl
      replace ha := Aside0.mk ha
      refine goes_ Try.func33 (by kernel_rfl) rfl #[v1, .int .i64 0, .slice (some ⟨g, 0, none⟩) 1 1] (by rfl) rfl rfl (by first | (simp only [List.map_toArray, List.map_cons, List.map_nil, Act.eval, Array.getD_eq_getD_getElem?, Option.getD_some, e8, e12]; done) | (simp only [List.map_toArray, List.map_cons, List.map_nil, Act.eval, Array.getD_eq_getD_getElem?, Option.getD_some, e8, e12]; rfl)) ?_
      refine (bins_of v1 l ⟨nm, s⟩ _ ww w wr wr.heap.size r1 (by omega) HK.out g hg (d5 b1) hB hB.size).mono ?_
      rintro e w1 ⟨v, rfl, hv, hb⟩
      refine ⟨_, rfl, ?_⟩
      refine hK.out _ _ ⟨v1, .slice (some ⟨g, 0, none⟩) 1 1, v, v7, v8, (by rw [ha.out]; exact putSel_upk 6 hb_ rfl rfl rfl), hb, ?_, ?_, ?_, ?_, ?_⟩
      · intro h h'; rw [up_self] at h'; cases h'
      · intro h h'; rw [up_self] at h'; cases h'
      · intro h h'; exact hv
      · intro h; rw [up_ne (by decide), hb7] at h; cases h
      · intro h; rw [up_ne (by decide)] at h; exact q8 h
    refine steps_cons ?_ ?_
    · rintro bb aa ww ⟨v1, v5, v6, v7, v8, ha, hB, q1, q5, q6, q7, q8⟩ hb_ hon hoff
      refine ⟨_, rfl, fun KK hK => ?_⟩
      have b6 : bb 6 = true := hon 6 (by kernel_rfl)
      have hb8 : bb 8 = false := hoff 8 (by kernel_rfl)
      have r6 := q6 b6 hb_
      obtain ⟨A6, c6, hv6, l6, g6⟩ := Kd.R_reads r6
      subst hv6
      have hww : Below w.heap.size w ww := HBW.out.trans (hB.mono HBW.out.size)
      have g6' := C_seen g6 hww
      have e13 : aa.tmps[13]? = some (.slice A6 (List.length ((⟨nm, s⟩ : S38) :: l)) c6) := by rw [ha]; exact putSel_on (e := (6, 13, .slice A6 (List.length ((⟨nm, s⟩ : S38) :: l)) c6)) 6 rfl rfl b6 rfl
      replace ha := Aside0.mk ha
      refine goes_ Try.func18 (by kernel_rfl) rfl #[.slice A6 (List.length ((⟨nm, s⟩ : S38) :: l)) c6] (by rfl) rfl rfl (by first | (simp only [List.map_toArray, List.map_cons, List.map_nil, Act.eval, Array.getD_eq_getD_getElem?, Option.getD_some, e13]; done) | (simp only [List.map_toArray, List.map_cons, List.map_nil, Act.eval, Array.getD_eq_getD_getElem?, Option.getD_some, e13]; rfl)) ?_
      refine (canon_of A6 c6 (⟨nm, s⟩ :: l) ww g6' HM.out).mono ?_
      rintro e w1 ⟨v, rfl, hv, hb⟩
      refine ⟨_, rfl, ?_⟩
      refine hK.out _ _ ⟨v1, v5, _, v, v8, (by rw [ha.out]; exact putSel_upk 7 hb_ rfl rfl rfl), below_step hB hb, ?_, ?_, ?_, ?_, ?_⟩
      · intro h h'; rw [up_ne (by decide), b6] at h'; cases h'
      · intro h h'; rw [up_ne (by decide), b6] at h'; cases h'
      · intro h h'; rw [up_self] at h'; cases h'
      · intro h; exact Kd.R_lower hv hB.size
      · intro h; rw [up_ne (by decide), hb8] at h; cases h
    refine steps_cons ?_ ?_
    · rintro bb aa ww ⟨v1, v5, v6, v7, v8, ha, hB, q1, q5, q6, q7, q8⟩ hb_ hon hoff
      refine ⟨_, rfl, fun KK hK => ?_⟩
      have b7 : bb 7 = true := hon 7 (by kernel_rfl)
      have e14 : aa.tmps[14]? = some (v7) := by rw [ha]; exact putSel_on (e := (7, 14, v7)) 7 rfl rfl b7 rfl
      replace ha := Aside0.mk ha
      refine value_ (w1 := ww) (v := v7) (by rfl) rfl ?_ ?_
      · go_simp
        try rfl
      refine hK.out _ _ ⟨v1, v5, v6, v7, v7, (by rw [ha.out]; exact putSel_upk 8 hb_ rfl rfl rfl), hB, ?_, ?_, ?_, ?_, ?_⟩
      · intro h h'; rw [up_ne (by decide)] at h h'; exact q1 h h'
      · intro h h'
        rw [up_ne (by decide)] at h h'
        obtain ⟨g, e5, hg, d5⟩ := q5 h h'
        exact ⟨g, e5, hg, fun h => by rw [up_ne (by decide)] at h; exact d5 h⟩
      · intro h h'; rw [up_ne (by decide)] at h h'; exact q6 h h'
      · intro h; rw [up_ne (by decide)] at h; exact q7 h
      · intro h; rfl
    exact steps_nil
  rintro bb aa ww hall ⟨v1, v5, v6, v7, v8, ha, hB, q1, q5, q6, q7, q8⟩
  have r7 := q7 (hall 7 (by kernel_rfl))
  obtain rfl := q8 (hall 8 (by kernel_rfl))
  have hb0_ := hall 0 (by kernel_rfl)
  have hb1_ := hall 1 (by kernel_rfl)
  have hb2_ := hall 2 (by kernel_rfl)
  have hb3_ := hall 3 (by kernel_rfl)
  have hb4_ := hall 4 (by kernel_rfl)
  have hb5_ := hall 5 (by kernel_rfl)
  have hb6_ := hall 6 (by kernel_rfl)
  have hb7_ := hall 7 (by kernel_rfl)
  have hb8_ := hall 8 (by kernel_rfl)
  subst ha
  simp only [putSel, hb0_, hb1_, hb2_, hb3_, hb4_, hb5_, hb6_, hb7_, hb8_, if_true, Act.put, List.setIfInBounds_toArray, List.set_cons_zero, List.set_cons_succ]
  have R7 := Aside0.mk r7
  have HB7 := Aside0.mk (HBW.out.trans (hB.mono HBW.out.size))
  clear q1 q5 q6 q7 q8 hB r7 hall
  go_wp2_with fail
  go_ret
  exact ⟨_, rfl, Kd.R_lower R7.out HBW.out.size, HB7.out⟩
end Go.Proofs.Ytfaiplbogchgjaa.PA
end
section
namespace Go.Proofs.Ytfaiplbogchgjaa.PA
set_option linter.unusedSimpArgs false
set_option linter.unusedVariables false
open Go.RowKit Go.Proofs.YtfaiplbogchgjaaW.PrintWords Go.Proofs.YtfaiplbogchgjaaW.PrintLast
theorem modest_cons {l : List S38} {nm : ByteArray} {s : S28} (h : modestB l) (hl : l.length ≤ 999) (hn : nm.size ≤ 1000000) (hs : modest s) : modestB (⟨nm, s⟩ :: l) := by
  refine ⟨by simp; omega, fun x hx => ?_⟩
  rcases List.mem_cons.1 hx with rfl | hx
  · exact ⟨hn, hs⟩
  · exact h.2 x hx
def CFB (W : World) (v : Value) (l : List S38) : Prop := ∃ A c, v = .slice A l.length c ∧ l.length ≤ c ∧ Kd.C k38 W A l.length l
theorem CFB.below {w w' : World} {v : Value} {l : List S38} (h : CFB w v l) (hb : Below w.heap.size w w') : CFB w' v l := by
  obtain ⟨A, c, h1, h2, h3⟩ := h
  exact ⟨A, c, h1, h2, Kd.C_below h3 hb⟩
theorem CFB.of {w : World} {base : Nat} {ok : Nat → Prop} {v : Value} {l : List S38} (h : Kd.R k38 38 w base ok v l) : CFB w v l := by
  obtain ⟨A, c, h1, h2, h3⟩ := Kd.R_reads h
  exact ⟨A, c, h1, h2, h3⟩
theorem OkC.zero (W : World) : OkC W (.agg #[.int .i64 0, .string ⟨#[]⟩, .slice none 0 0, .slice none 0 0]) z28 := ⟨none, 0, none, 0, rfl, Nat.le_refl _, Kd.C_nil _ _, Nat.le_refl _, Kd.C_nil _ _⟩
theorem set_cf {W : World} {u x : Value} {l : List S38} {s : S28} (nm : ByteArray) (h : CFB W u l) (hx : OkC W x s) (hm : modestB (⟨nm, s⟩ :: l)) :
    Calls Try.prog 24 #[u, .string nm, x] W fun e W' => ∃ v, e = .returned v ∧ CFB W' v (canonB (⟨nm, s⟩ :: l)) ∧ Below W.heap.size W W' := by
  obtain ⟨A, c, rfl, h2, h3⟩ := h
  obtain ⟨A3, c3, A4, c4, rfl, l3, g3, l4, g4⟩ := hx
  exact (set_of A c l nm s A3 A4 c3 c4 W h3 hm l3 g3 l4 g4).mono fun e W' ⟨v, h1, h2, h3⟩ => ⟨v, h1, CFB.of h2, h3⟩
theorem rveryB_cf {W : World} {u v : Value} {l m : List S38} (h : CFB W u l) (h' : CFB W v m) (hm : modestB l) (e : l = m) :
    Calls Try.prog 17 #[u, v] W fun e W' => e = .returned (.bool true) ∧ Below W.heap.size W W' := by
  obtain ⟨A, c, rfl, h2, h3⟩ := h
  obtain ⟨B, d, rfl, h4, h5⟩ := h'
  have := rveryB_any A c l B d m W h3 h2 h5 h4 hm
  rwa [decide_eq_true e] at this
theorem get_cf {W : World} {u : Value} {l : List S38} (nm : ByteArray) (h : CFB W u l) (hm : modestB l) (hn : nm.size ≤ 1000000) :
    Calls Try.prog 11 #[u, .string nm] W fun e W' => ∃ v, e = .returned (.tuple #[v, .bool (getL l nm.data.toList).isSome]) ∧ OkC W' v ((getL l nm.data.toList).getD z28) ∧ Below W.heap.size W W' := by
  obtain ⟨A, c, rfl, h2, h3⟩ := h
  refine (get_of A c l nm W h3 hm hn).mono ?_
  rintro e W' ⟨v2, v3, rfl, r2, r3, hb⟩
  obtain ⟨A2, c2, rfl, l2, g2⟩ := Kd.R_reads r2
  obtain ⟨A3, c3, rfl, l3, g3⟩ := Kd.R_reads r3
  exact ⟨_, rfl, ⟨A2, c2, A3, c3, rfl, l2, g2, l3, g3⟩, hb⟩
end Go.Proofs.Ytfaiplbogchgjaa.PA
end
