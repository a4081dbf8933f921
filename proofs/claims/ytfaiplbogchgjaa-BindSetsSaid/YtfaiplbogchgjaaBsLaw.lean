/- Texts of this claim, those that nothing needs left out: Zbi Zbj Zbk Xvb LawBindSets. -/
import Derived.Test.YtfaiplbogchgjaaBsG25
import Derived.Test.YtfaiplbogchgjaaBsG27
import Derived.Test.YtfaiplbogchgjaaBsG21
import Derived.Test.YtfaiplbogchgjaaBsG5
import Derived.Test.YtfaiplbogchgjaaBsG16
import Derived.Test.YtfaiplbogchgjaaRows
import Derived.WalkKit
import Derived.ProofKit
import Derived.OpenShut
import Derived.ShutString
import Derived.ChangeOld
import Derived.Below
import Derived.SizedLaws
section
namespace Go.Proofs.Ytfaiplbogchgjaa.PA
set_option linter.unusedSimpArgs false
set_option linter.unusedVariables false
open Go.RowKit Go.Proofs.YtfaiplbogchgjaaW.PrintWords Go.Proofs.YtfaiplbogchgjaaW.PrintLast
set_option maxHeartbeats 8000000 in
set_option maxRecDepth 100000 in
theorem bclone_of (A : Option Addr) (c : Nat) (l : List S38) (w w0 : World) (hr : ReadsRow (k38.K w0) 5 w A l.length l) (hl : l.length ≤ 1000000) :
    Calls Try.prog 34 #[.slice A l.length c] w fun e W => ∃ v, e = .returned v ∧ Kd.R (seen k38 w0) 38 W w.heap.size (fun _ => True) v l ∧ Below w.heap.size w W := by
  have HR := Aside0.mk hr
  clear hr
  have q22 : ∀ (w : World) (a : Option Addr) (n c n' c' : Nat), (binOp .eql 22 (.slice a n c) (.slice none n' c')).run Try.prog w = .ok (.bool a.isNone) w := fun w a n c n' c' => Lib.run_eql_slice_nil w _ _ a n c n' c' Try.underlying22
  rcases A with _ | ad
  · have hl0 : l = [] := by
      cases l with
      | nil => rfl
      | cons x l => obtain ⟨ad, h, _⟩ := HR.out.2.2 (by simp); cases h
    subst hl0
    go_enter Try.func34, Try.ntmps34
    go_wp2_with fail
    go_ret
    exact ⟨_, rfl, ⟨fun _ _ => trivial, [], ⟨rfl, .inl ⟨rfl, rfl⟩⟩, Reps.none _ _⟩, Below.refl _ _⟩
  · go_enter Try.func34, Try.ntmps34
    have he := R_empty w0 w w.heap.size (Nat.le_refl _)
    have hbe : Below w.heap.size w (w.alloc (.cells #[] 38)) := below_alloc (Below.refl _ _) _
    have hrr : ReadsRow (k38.K w0) 5 (w.alloc (.cells #[] 38)) (some ad) l.length l := ReadsRow.imp_ HR.out hbe (fun _ _ h => h)
    go_wp2_with (at_builtin; refine Kd.R_append_rows (seen k38 w0) (w0 := w) (Rr := k38.K w0) w.heap.size rfl _ _ 22 38 (.agg #[(.string ⟨#[]⟩), (.int .i64 0), (.string ⟨#[]⟩), (.slice none 0 0), (.slice none 0 0)]) 88 rfl Try.underlying22 bind_info rfl (show 0 < 5 by decide) (by decide) _ [] l (some ad) l.length c (fun _ => True) (fun _ => False) rfl rfl he hrr (fun _ _ h => h) (fun _ h => h.elim) (fun _ _ => trivial) hbe hbe.size (by simp; omega) ?_; intro v1 w1 q1 q2 q3 q4)
    go_ret
    exact ⟨_, rfl, by simpa using q1, q2⟩
theorem reps_one {α : Type} {R : α → List Value → Prop} {size : Nat} {ps : List α} {cs : List Value} (h : Reps R size ps cs) (hs : 0 < size) (h1 : ∀ p c, R p c → ∀ u ∈ c, u.oneCell' = true) : ∀ u ∈ cs, u.oneCell' = true := by
  intro u hu
  obtain ⟨i, hi, rfl⟩ := List.getElem_of_mem hu
  have hj : i / size < ps.length := by rw [Nat.div_lt_iff_lt_mul hs, ← h.1]; exact hi
  have h2 := h.2 _ _ (List.getElem?_eq_getElem hj)
  refine h1 _ _ h2 _ ?_
  have e := Nat.div_add_mod i size
  have hm := Nat.mod_lt i hs
  refine List.mem_iff_getElem.2 ⟨i % size, ?_, ?_⟩
  · rw [List.length_take, List.length_drop, Nat.lt_min]
    refine ⟨hm, ?_⟩
    rw [Nat.mul_comm] at e
    omega
  · rw [List.getElem_take, List.getElem_drop]
    congr 1
    rw [Nat.mul_comm] at e
    exact e
theorem bins_of (v : Value) (l : List S38) (x : S38) (vs : List Value) (w w0 w1 : World) (base : Nat) (hR : Kd.R (seen k38 w0) 38 w base (fun _ => True) v l) (hl : l.length ≤ 1000000) (hK : k38.K w0 x vs)
    (vb : Nat) (hv : w.heap[vb]? = some (.cells vs.toArray 38 (0, 0))) (hvb : some vb ≠ v.ownBlock) (hb : Below base w1 w) (hbase : base ≤ w.heap.size) :
    Calls Try.prog 33 #[v, .int .i64 0, .slice (some ⟨vb, 0, none⟩) 1 1] w fun e w' => ∃ s', e = .returned s' ∧ Kd.R (seen k38 w0) 38 w' base (fun _ => True) s' (x :: l) ∧ Below base w1 w' := by
  obtain ⟨_, inner, ho, hr⟩ := hR
  have hvl : vs.length = 5 := k38.K_len hK
  have h1v := k38.K_one hK
  have h1c := reps_one hr (show 0 < 5 by decide) (fun _ _ h => k38.K_one h)
  have hr1 : Reps (k38.K w0) 5 [x] vs := by have := (Reps.none (k38.K w0) 5).snoc hK hvl; simpa using this
  have fin : ∀ (e : Ending) (w' : World), (∃ s', e = .returned s' ∧ World.ownsRow w' base 38 5 s' (l.length + 1) (vs ++ inner) ∧ Below base w1 w') → ∃ s', e = .returned s' ∧ Kd.R (seen k38 w0) 38 w' base (fun _ => True) s' (x :: l) ∧ Below base w1 w' := by
    rintro e w' ⟨s', he, ho', hb'⟩
    exact ⟨s', he, ⟨fun _ _ => trivial, vs ++ inner, ho', Kd.reps_append hr1 hr⟩, hb'⟩
  have ho2 := ho
  obtain ⟨hlen, h⟩ := ho2
  change inner.length = l.length * 5 at hlen
  rcases h with ⟨rfl, hn⟩ | ⟨g, cap, cur, rfl, hg1, hg2, hg3, hg4, hg5, hg6⟩
  · have hi : inner = [] := List.length_eq_zero_iff.1 (by rw [hlen, hn])
    subst hi
    rw [hn] at ho
    refine (X.insert_none base none 0 vs w ho hbase vb hv hvl h1v w1 hb).mono fun e w' h => fin e w' ?_
    simpa [hn] using h
  · change cur.size = cap * 5 at hg5
    change cur.toList.take (l.length * 5) = inner at hg6
    have hvg : vb ≠ g := fun h => hvb (by rw [h]; rfl)
    rcases Nat.eq_zero_or_pos l.length with hn | hn
    · have hi : inner = [] := List.length_eq_zero_iff.1 (by rw [hlen, hn])
      subst hi
      rw [hn] at ho ⊢
      refine (X.insert_none base _ cap vs w ho hbase vb hv hvl h1v w1 hb).mono fun e w' h => fin e w' ?_
      simpa [hn] using h
    · rcases Nat.lt_or_ge cap (l.length + 1) with hc | hc
      · exact (X.insert_grow base g l.length cap inner vs cur w hn hl hg3 hc hg2 hlen hg5 hg6 h1c hbase vb hv hvl h1v w1 hb).mono fin
      · exact (X.insert_shift base g l.length cap inner vs cur w hn hl hc hg4 hg2 hlen hg5 hg6 h1c hg1 vb hvg hv hvl h1v w1 hb).mono fin
def set.T : Bool × List (List Nat × List Nat) := (true, [([], []), ([0], [0]), ([], []), ([], []), ([2, 3], [2, 3]), ([4], [4]), ([1, 5, 1], [1, 5]), ([6, 6], [6]), ([7, 7, 0, 1, 2, 3, 4, 5, 6, 7], [7])])
def set.B : List Nat := [0, 1, 0, 0, 12, 28, 63, 127, 255]
theorem set.tab : rtab .any (opsOf Try.f24 1) = set.T := by kernel_rfl
theorem set.bits : waitsOk set.T.2 set.B = true := by kernel_rfl
def SetI (w wr : World) (l : List S38) (x : S38) (obj : Obj) (bb : Nat → Bool) (ww : World) (v1 v5 v6 v7 v8 : Value) : Prop :=
  Below wr.heap.size wr ww ∧
  (bb 1 = true → bb 6 = false → Kd.R (seen k38 w) 38 ww wr.heap.size (fun _ => True) v1 l) ∧
  (bb 5 = true → bb 6 = false → ∃ g, v5 = .slice (some ⟨g, 0, none⟩) 1 1 ∧ ww.heap[g]? = some obj ∧ (bb 1 = true → some g ≠ v1.ownBlock)) ∧
  (bb 6 = true → bb 7 = false → Kd.R (seen k38 w) 38 ww wr.heap.size (fun _ => True) v6 (x :: l)) ∧
  (bb 7 = true → Kd.R k38 38 ww wr.heap.size (fun _ => True) v7 (canonB (x :: l))) ∧ (bb 8 = true → v8 = v7)
set_option maxHeartbeats 8000000 in
set_option maxRecDepth 100000 in
theorem set_of (A : Option Addr) (c : Nat) (l : List S38) (nm : ByteArray) (s : S28) (A3 A4 : Option Addr) (c3 c4 : Nat) (w : World) (hr : Kd.C k38 w A l.length l) (hm : modestB (⟨nm, s⟩ :: l))
    (l3 : s.f2.length ≤ c3) (g3 : Kd.C Kd.string w A3 s.f2.length s.f2) (l4 : s.f3.length ≤ c4) (g4 : Kd.C k50 w A4 s.f3.length s.f3) :
    Calls Try.prog 24 #[.slice A l.length c, .string nm, .agg #[.int .i64 s.f0, .string s.f1, .slice A3 s.f2.length c3, .slice A4 s.f3.length c4]] w fun e W => ∃ v, e = .returned v ∧ Kd.R k38 38 W w.heap.size (fun _ => True) v (canonB (⟨nm, s⟩ :: l)) ∧ Below w.heap.size w W := by
  have hK := k38_mk w ⟨nm, s⟩ l3 g3 l4 g4
  have HR := Aside0.mk hr
  have HM := Aside0.mk hm
  have HK := Aside0.mk hK
  have hl1 := HM.out.1
  clear hr hm hK l3 g3 l4 g4
  have hl2 : l.length ≤ 1000 := by simp at hl1; omega
  go_enter Try.func24, Try.ntmps24
  go_wp2_with fail
  have hbw : Below w.heap.size w (w.alloc (.cells #[.int .i64 s.f0, .string s.f1, .slice A3 s.f2.length c3, .slice A4 s.f3.length c4] 28)) := X.below_new1 _ _
  have hbl := blk_new w (.cells #[.int .i64 s.f0, .string s.f1, .slice A3 s.f2.length c3, .slice A4 s.f3.length c4] 28)
  revert hbw hbl
  generalize (w.alloc (.cells #[.int .i64 s.f0, .string s.f1, .slice A3 s.f2.length c3, .slice A4 s.f3.length c4] 28)) = wr
  intro hbw hbl
  have HBW := Aside0.mk hbw
  have KB := Aside0.mk hbl
  clear hbw hbl
  refine start_ (n := 9) (S := fun _ => True) (ds := []) #[false, false, false, false, false, false, false, false, false] (by kernel_rfl) rfl rfl trivial (fun hHeld => ?_)
  refine with_tabW set.tab set.bits (fun HT_ HW_ => ?_)
  refine inv_at [0, 1, 2, 3, 4, 5, 6, 7, 8] (fun a0_ bb aa ww => ∃ v1 v5 v6 v7 v8, aa = putSel a0_ bb [(0, 7, .slice A l.length c), (1, 8, v1), (2, 9, .string nm), (3, 10, .agg #[.int .i64 s.f0, .string s.f1, .slice A3 s.f2.length c3, .slice A4 s.f3.length c4]), (4, 11, .agg #[.string nm, .int .i64 s.f0, .string s.f1, .slice A3 s.f2.length c3, .slice A4 s.f3.length c4]), (5, 12, v5), (6, 13, v6), (7, 14, v7), (8, 6, v8)] ∧ SetI w wr l ⟨nm, s⟩ (.cells #[.string nm, .int .i64 s.f0, .string s.f1, .slice A3 s.f2.length c3, .slice A4 s.f3.length c4] 38 (0, 0)) bb ww v1 v5 v6 v7 v8) HT_.out HW_.out (by kernel_rfl) (by kernel_rfl) ?_ ?_ ?_
  · exact ⟨.bool false, .bool false, .bool false, .bool false, .bool false, by simp only [putSel, Bool.false_eq_true, if_false], pw_below_drewN (Below.refl _ _) 1, fun h => absurd h (by decide), fun h => absurd h (by decide), fun h => absurd h (by decide), fun h => absurd h (by decide), fun h => absurd h (by decide)⟩
  · clear hHeld HT_ HW_
    refine steps_cons ?_ ?_
    · rintro bb aa ww ⟨v1, v5, v6, v7, v8, ha, hB, q1, q5, q6, q7, q8⟩ hb_ hon hoff
      refine ⟨_, rfl, fun KK hK => ?_⟩
      have e0 : aa.tmps[0]? = some (.slice A l.length c) := by rw [ha]; exact (putSel_off rfl).trans rfl
      replace ha := Aside0.mk ha
      refine value_ (w1 := ww) (v := .slice A l.length c) (by rfl) rfl ?_ ?_
      · go_simp
        try rfl
      refine hK.out _ _ ⟨v1, v5, v6, v7, v8, (by rw [ha.out]; exact putSel_upk 0 hb_ rfl rfl rfl), hB, ?_, ?_, ?_, ?_, ?_⟩
      · intro h h'; rw [up_ne (by decide)] at h h'; exact q1 h h'
      · intro h h'
        rw [up_ne (by decide)] at h h'
        obtain ⟨g, e5, hg, d5⟩ := q5 h h'
        exact ⟨g, e5, hg, fun h => by rw [up_ne (by decide)] at h; exact d5 h⟩
      · intro h h'; rw [up_ne (by decide)] at h h'; exact q6 h h'
      · intro h; rw [up_ne (by decide)] at h; exact q7 h
      · intro h; rw [up_ne (by decide)] at h; exact q8 h
    refine steps_cons ?_ ?_
    · rintro bb aa ww ⟨v1, v5, v6, v7, v8, ha, hB, q1, q5, q6, q7, q8⟩ hb_ hon hoff
      refine ⟨_, rfl, fun KK hK => ?_⟩
      have hb6 : bb 6 = false := hoff 6 (by kernel_rfl)
      have hb7 : bb 7 = false := hoff 7 (by kernel_rfl)
      have e7 : aa.tmps[7]? = some (.slice A l.length c) := by rw [ha]; exact putSel_on (e := (0, 7, .slice A l.length c)) 0 rfl rfl (hon 0 (by kernel_rfl)) rfl
      replace ha := Aside0.mk ha
      refine goes_ Try.func34 (by kernel_rfl) rfl #[.slice A l.length c] (by rfl) rfl rfl (by first | (simp only [List.map_toArray, List.map_cons, List.map_nil, Act.eval, Array.getD_eq_getD_getElem?, Option.getD_some, e7]; done) | (simp only [List.map_toArray, List.map_cons, List.map_nil, Act.eval, Array.getD_eq_getD_getElem?, Option.getD_some, e7]; rfl)) ?_
      have hww : Below w.heap.size w ww := HBW.out.trans (hB.mono HBW.out.size)
      refine (bclone_of A c l ww w (ReadsRow.imp_ HR.out hww (fun _ _ h => h)) (by omega)).mono ?_
      rintro e w1 ⟨v, rfl, hv, hb⟩
      refine ⟨_, rfl, ?_⟩
      refine hK.out _ _ ⟨v, v5, v6, v7, v8, (by rw [ha.out]; exact putSel_upk 1 hb_ rfl rfl rfl), below_step hB hb, ?_, ?_, ?_, ?_, ?_⟩
      · intro h h'; exact Kd.R_lower hv hB.size
      · intro h h'
        rw [up_ne (by decide)] at h h'
        obtain ⟨g, e5, hg, d5⟩ := q5 h h'
        refine ⟨g, e5, blk_below hg hb, fun _ e => ?_⟩
        have := Kd.R_base hv _ e.symm
        have := blk_lt hg
        omega
      · intro h; rw [up_ne (by decide), hb6] at h; cases h
      · intro h; rw [up_ne (by decide), hb7] at h; cases h
      · intro h; rw [up_ne (by decide)] at h; exact q8 h
    refine steps_cons ?_ ?_
    · rintro bb aa ww ⟨v1, v5, v6, v7, v8, ha, hB, q1, q5, q6, q7, q8⟩ hb_ hon hoff
      refine ⟨_, rfl, fun KK hK => ?_⟩
      have e1 : aa.tmps[1]? = some (.string nm) := by rw [ha]; exact (putSel_off rfl).trans rfl
      replace ha := Aside0.mk ha
      refine value_ (w1 := ww) (v := .string nm) (by rfl) rfl ?_ ?_
      · go_simp
        try rfl
      refine hK.out _ _ ⟨v1, v5, v6, v7, v8, (by rw [ha.out]; exact putSel_upk 2 hb_ rfl rfl rfl), hB, ?_, ?_, ?_, ?_, ?_⟩
      · intro h h'; rw [up_ne (by decide)] at h h'; exact q1 h h'
      · intro h h'
        rw [up_ne (by decide)] at h h'
        obtain ⟨g, e5, hg, d5⟩ := q5 h h'
        exact ⟨g, e5, hg, fun h => by rw [up_ne (by decide)] at h; exact d5 h⟩
      · intro h h'; rw [up_ne (by decide)] at h h'; exact q6 h h'
      · intro h; rw [up_ne (by decide)] at h; exact q7 h
      · intro h; rw [up_ne (by decide)] at h; exact q8 h
    refine steps_cons ?_ ?_
    · rintro bb aa ww ⟨v1, v5, v6, v7, v8, ha, hB, q1, q5, q6, q7, q8⟩ hb_ hon hoff
      refine ⟨_, rfl, fun KK hK => ?_⟩
      have e5 : aa.tmps[5]? = some (.pointer (some ⟨w.heap.size, 0, none⟩)) := by rw [ha]; exact (putSel_off rfl).trans rfl
      have hcw := X.cells4 (blk_below KB.out hB)
      replace ha := Aside0.mk ha
      refine value_ (w1 := ww) (v := .agg #[.int .i64 s.f0, .string s.f1, .slice A3 s.f2.length c3, .slice A4 s.f3.length c4]) (by rfl) rfl ?_ ?_
      · go_simp
        try rfl
      refine hK.out _ _ ⟨v1, v5, v6, v7, v8, (by rw [ha.out]; exact putSel_upk 3 hb_ rfl rfl rfl), hB, ?_, ?_, ?_, ?_, ?_⟩
      · intro h h'; rw [up_ne (by decide)] at h h'; exact q1 h h'
      · intro h h'
        rw [up_ne (by decide)] at h h'
        obtain ⟨g, e5, hg, d5⟩ := q5 h h'
        exact ⟨g, e5, hg, fun h => by rw [up_ne (by decide)] at h; exact d5 h⟩
      · intro h h'; rw [up_ne (by decide)] at h h'; exact q6 h h'
      · intro h; rw [up_ne (by decide)] at h; exact q7 h
      · intro h; rw [up_ne (by decide)] at h; exact q8 h
    refine steps_cons ?_ ?_
    · rintro bb aa ww ⟨v1, v5, v6, v7, v8, ha, hB, q1, q5, q6, q7, q8⟩ hb_ hon hoff
      refine ⟨_, rfl, fun KK hK => ?_⟩
      have e9 : aa.tmps[9]? = some (.string nm) := by rw [ha]; exact putSel_on (e := (2, 9, .string nm)) 2 rfl rfl (hon 2 (by kernel_rfl)) rfl
      have e10 : aa.tmps[10]? = some (.agg #[.int .i64 s.f0, .string s.f1, .slice A3 s.f2.length c3, .slice A4 s.f3.length c4]) := by rw [ha]; exact putSel_on (e := (3, 10, .agg #[.int .i64 s.f0, .string s.f1, .slice A3 s.f2.length c3, .slice A4 s.f3.length c4])) 3 rfl rfl (hon 3 (by kernel_rfl)) rfl
      replace ha := Aside0.mk ha
      refine value_ (w1 := ww) (v := .agg #[.string nm, .int .i64 s.f0, .string s.f1, .slice A3 s.f2.length c3, .slice A4 s.f3.length c4]) (by rfl) rfl ?_ ?_
      · go_simp
        try rfl
      refine hK.out _ _ ⟨v1, v5, v6, v7, v8, (by rw [ha.out]; exact putSel_upk 4 hb_ rfl rfl rfl), hB, ?_, ?_, ?_, ?_, ?_⟩
      · intro h h'; rw [up_ne (by decide)] at h h'; exact q1 h h'
      · intro h h'
        rw [up_ne (by decide)] at h h'
        obtain ⟨g, e5, hg, d5⟩ := q5 h h'
        exact ⟨g, e5, hg, fun h => by rw [up_ne (by decide)] at h; exact d5 h⟩
      · intro h h'; rw [up_ne (by decide)] at h h'; exact q6 h h'
      · intro h; rw [up_ne (by decide)] at h; exact q7 h
      · intro h; rw [up_ne (by decide)] at h; exact q8 h
    refine steps_cons ?_ ?_
    · rintro bb aa ww ⟨v1, v5, v6, v7, v8, ha, hB, q1, q5, q6, q7, q8⟩ hb_ hon hoff
      refine ⟨_, rfl, fun KK hK => ?_⟩
      have e11 : aa.tmps[11]? = some (.agg #[.string nm, .int .i64 s.f0, .string s.f1, .slice A3 s.f2.length c3, .slice A4 s.f3.length c4]) := by rw [ha]; exact putSel_on (e := (4, 11, .agg #[.string nm, .int .i64 s.f0, .string s.f1, .slice A3 s.f2.length c3, .slice A4 s.f3.length c4])) 4 rfl rfl (hon 4 (by kernel_rfl)) rfl
      replace ha := Aside0.mk ha
      refine value_ (w1 := ww.alloc (.cells #[.string nm, .int .i64 s.f0, .string s.f1, .slice A3 s.f2.length c3, .slice A4 s.f3.length c4] 38)) (v := .slice (some ⟨ww.heap.size, 0, none⟩) 1 1) (by rfl) rfl ?_ ?_
      · go_simp
        try rfl
      refine hK.out _ _ ⟨v1, .slice (some ⟨ww.heap.size, 0, none⟩) 1 1, v6, v7, v8, (by rw [ha.out]; exact putSel_upk 5 hb_ rfl rfl rfl), below_alloc hB _, ?_, ?_, ?_, ?_, ?_⟩
      · intro h h'; rw [up_ne (by decide)] at h h'; exact Kd.R_alloc (q1 h h') _
      · intro h h'
        refine ⟨ww.heap.size, rfl, blk_new ww _, fun h e => ?_⟩
        rw [up_ne (by decide)] at h h'
        exact absurd (Kd.R_lt (q1 h h') _ e.symm) (Nat.lt_irrefl _)
      · intro h h'; rw [up_ne (by decide)] at h h'; exact Kd.R_alloc (q6 h h') _
      · intro h; rw [up_ne (by decide)] at h; exact Kd.R_alloc (q7 h) _
      · intro h; rw [up_ne (by decide)] at h; exact q8 h
    refine steps_cons ?_ ?_
    · rintro bb aa ww ⟨v1, v5, v6, v7, v8, ha, hB, q1, q5, q6, q7, q8⟩ hb_ hon hoff
      refine ⟨_, rfl, fun KK hK => ?_⟩
      have hb7 : bb 7 = false := hoff 7 (by kernel_rfl)
      have b1 : bb 1 = true := hon 1 (by kernel_rfl)
      obtain ⟨g, rfl, hg, d5⟩ := q5 (hon 5 (by kernel_rfl)) hb_
      have r1 := q1 b1 hb_
      have e8 : aa.tmps[8]? = some (v1) := by rw [ha]; exact putSel_on (e := (1, 8, v1)) 1 rfl rfl b1 rfl
      have e12 : aa.tmps[12]? = some (.slice (some ⟨g, 0, none⟩) 1 1) := by rw [ha]; exact putSel_on (e := (5, 12, .slice (some ⟨g, 0, none⟩) 1 1)) 5 rfl rfl (hon 5 (by kernel_rfl)) rfl
      replace ha := Aside0.mk ha
      refine goes_ Try.func33 (by kernel_rfl) rfl #[v1, .int .i64 0, .slice (some ⟨g, 0, none⟩) 1 1] (by rfl) rfl rfl (by first | (simp only [List.map_toArray, List.map_cons, List.map_nil, Act.eval, Array.getD_eq_getD_getElem?, Option.getD_some, e8, e12]; done) | (simp only [List.map_toArray, List.map_cons, List.map_nil, Act.eval, Array.getD_eq_getD_getElem?, Option.getD_some, e8, e12]; rfl)) ?_
      refine (bins_of v1 l ⟨nm, s⟩ _ ww w wr wr.heap.size r1 (by omega) HK.out g hg (d5 b1) hB hB.size).mono ?_
      rintro e w1 ⟨v, rfl, hv, hb⟩
      refine ⟨_, rfl, ?_⟩
      refine hK.out _ _ ⟨v1, .slice (some ⟨g, 0, none⟩) 1 1, v, v7, v8, (by rw [ha.out]; exact putSel_upk 6 hb_ rfl rfl rfl), hb, ?_, ?_, ?_, ?_, ?_⟩
      · intro h h'; rw [up_self] at h'; cases h'
      · intro h h'; rw [up_self] at h'; cases h'
      · intro h h'; exact hv
      · intro h; rw [up_ne (by decide), hb7] at h; cases h
      · intro h; rw [up_ne (by decide)] at h; exact q8 h
    refine steps_cons ?_ ?_
    · rintro bb aa ww ⟨v1, v5, v6, v7, v8, ha, hB, q1, q5, q6, q7, q8⟩ hb_ hon hoff
      refine ⟨_, rfl, fun KK hK => ?_⟩
      have b6 : bb 6 = true := hon 6 (by kernel_rfl)
      have hb8 : bb 8 = false := hoff 8 (by kernel_rfl)
      have r6 := q6 b6 hb_
      obtain ⟨A6, c6, hv6, l6, g6⟩ := Kd.R_reads r6
      subst hv6
      have hww : Below w.heap.size w ww := HBW.out.trans (hB.mono HBW.out.size)
      have g6' := C_seen g6 hww
      have e13 : aa.tmps[13]? = some (.slice A6 (List.length ((⟨nm, s⟩ : S38) :: l)) c6) := by rw [ha]; exact putSel_on (e := (6, 13, .slice A6 (List.length ((⟨nm, s⟩ : S38) :: l)) c6)) 6 rfl rfl b6 rfl
      replace ha := Aside0.mk ha
      refine goes_ Try.func18 (by kernel_rfl) rfl #[.slice A6 (List.length ((⟨nm, s⟩ : S38) :: l)) c6] (by rfl) rfl rfl (by first | (simp only [List.map_toArray, List.map_cons, List.map_nil, Act.eval, Array.getD_eq_getD_getElem?, Option.getD_some, e13]; done) | (simp only [List.map_toArray, List.map_cons, List.map_nil, Act.eval, Array.getD_eq_getD_getElem?, Option.getD_some, e13]; rfl)) ?_
      refine (canon_of A6 c6 (⟨nm, s⟩ :: l) ww g6' HM.out).mono ?_
      rintro e w1 ⟨v, rfl, hv, hb⟩
      refine ⟨_, rfl, ?_⟩
      refine hK.out _ _ ⟨v1, v5, _, v, v8, (by rw [ha.out]; exact putSel_upk 7 hb_ rfl rfl rfl), below_step hB hb, ?_, ?_, ?_, ?_, ?_⟩
      · intro h h'; rw [up_ne (by decide), b6] at h'; cases h'
      · intro h h'; rw [up_ne (by decide), b6] at h'; cases h'
      · intro h h'; rw [up_self] at h'; cases h'
      · intro h; exact Kd.R_lower hv hB.size
      · intro h; rw [up_ne (by decide), hb8] at h; cases h
    refine steps_cons ?_ ?_
    · rintro bb aa ww ⟨v1, v5, v6, v7, v8, ha, hB, q1, q5, q6, q7, q8⟩ hb_ hon hoff
      refine ⟨_, rfl, fun KK hK => ?_⟩
      have b7 : bb 7 = true := hon 7 (by kernel_rfl)
      have e14 : aa.tmps[14]? = some (v7) := by rw [ha]; exact putSel_on (e := (7, 14, v7)) 7 rfl rfl b7 rfl
      replace ha := Aside0.mk ha
      refine value_ (w1 := ww) (v := v7) (by rfl) rfl ?_ ?_
      · go_simp
        try rfl
      refine hK.out _ _ ⟨v1, v5, v6, v7, v7, (by rw [ha.out]; exact putSel_upk 8 hb_ rfl rfl rfl), hB, ?_, ?_, ?_, ?_, ?_⟩
      · intro h h'; rw [up_ne (by decide)] at h h'; exact q1 h h'
      · intro h h'
        rw [up_ne (by decide)] at h h'
        obtain ⟨g, e5, hg, d5⟩ := q5 h h'
        exact ⟨g, e5, hg, fun h => by rw [up_ne (by decide)] at h; exact d5 h⟩
      · intro h h'; rw [up_ne (by decide)] at h h'; exact q6 h h'
      · intro h; rw [up_ne (by decide)] at h; exact q7 h
      · intro h; rfl
    exact steps_nil
  rintro bb aa ww hall ⟨v1, v5, v6, v7, v8, ha, hB, q1, q5, q6, q7, q8⟩
  have r7 := q7 (hall 7 (by kernel_rfl))
  obtain rfl := q8 (hall 8 (by kernel_rfl))
  have hb0_ := hall 0 (by kernel_rfl)
  have hb1_ := hall 1 (by kernel_rfl)
  have hb2_ := hall 2 (by kernel_rfl)
  have hb3_ := hall 3 (by kernel_rfl)
  have hb4_ := hall 4 (by kernel_rfl)
  have hb5_ := hall 5 (by kernel_rfl)
  have hb6_ := hall 6 (by kernel_rfl)
  have hb7_ := hall 7 (by kernel_rfl)
  have hb8_ := hall 8 (by kernel_rfl)
  subst ha
  simp only [putSel, hb0_, hb1_, hb2_, hb3_, hb4_, hb5_, hb6_, hb7_, hb8_, if_true, Act.put, List.setIfInBounds_toArray, List.set_cons_zero, List.set_cons_succ]
  have R7 := Aside0.mk r7
  have HB7 := Aside0.mk (HBW.out.trans (hB.mono HBW.out.size))
  clear q1 q5 q6 q7 q8 hB r7 hall
  go_wp2_with fail
  go_ret
  exact ⟨_, rfl, Kd.R_lower R7.out HBW.out.size, HB7.out⟩
end Go.Proofs.Ytfaiplbogchgjaa.PA
end
section
namespace Go.Proofs.Ytfaiplbogchgjaa.PA
set_option linter.unusedSimpArgs false
set_option linter.unusedVariables false
open Go.RowKit Go.Proofs.YtfaiplbogchgjaaW.PrintWords Go.Proofs.YtfaiplbogchgjaaW.PrintLast
theorem few8_any (s : S28) : ∃ b : Bool, (b = true → FewV s.f1 s.f2 s.f3) ∧ ∀ (W : World) (A3 A4 : Option Addr) (c3 c4 : Nat), Kd.C Kd.string W A3 s.f2.length s.f2 → s.f2.length ≤ c3 → Kd.C k50 W A4 s.f3.length s.f3 → s.f3.length ≤ c4 →
    Calls Try.prog 23 #[.agg #[.int .i64 s.f0, .string s.f1, .slice A3 s.f2.length c3, .slice A4 s.f3.length c4]] W fun e W' => e = .returned (.bool b) ∧ Below W.heap.size W W' := by
  obtain ⟨b, hb, h⟩ := few_f s.f0 s.f1 s.f2 s.f3 201 (by omega)
  exact ⟨b, h, fun W A3 A4 c3 c4 g3 l3 g4 l4 => phalaroperef08_Few.calls 201 _ _ A3 c3 _ A4 c4 _ b W g3 l3 g4 l4 hb⟩
theorem modest_cons {l : List S38} {nm : ByteArray} {s : S28} (h : modestB l) (hl : l.length ≤ 999) (hn : nm.size ≤ 1000000) (hs : modest s) : modestB (⟨nm, s⟩ :: l) := by
  refine ⟨by simp; omega, fun x hx => ?_⟩
  rcases List.mem_cons.1 hx with rfl | hx
  · exact ⟨hn, hs⟩
  · exact h.2 x hx
theorem R_one (w W : World) (base : Nat) (x : S38) (vs : List Value) (hK : k38.K w x vs) (hb : base ≤ W.heap.size) : Kd.R (seen k38 w) 38 (W.alloc (.cells vs.toArray 38)) base (fun _ => True) (.slice (some ⟨W.heap.size, 0, none⟩) 1 1) [x] := by
  have hvl : vs.length = 5 := k38.K_len hK
  have h2 := World.ownsRow_lit (base := base) (e := 38) (size := 5) W vs.toArray 1 hb (by simp [maxLen]) (by simp [hvl])
  have hr1 : Reps (k38.K w) 5 [x] vs := by have := (Reps.none (k38.K w) 5).snoc hK hvl; simpa using this
  have h3 : (W.alloc (.cells vs.toArray 38)).ownsRow base 38 5 (.slice (some ⟨W.heap.size, 0, none⟩) 1 1) 1 vs := by simpa using h2
  exact ⟨fun _ _ => trivial, vs, h3, hr1⟩
set_option maxHeartbeats 8000000 in
set_option maxRecDepth 100000 in
theorem rset_of (A : Option Addr) (c : Nat) (l : List S38) (nm : ByteArray) (s : S28) (A3 A4 : Option Addr) (c3 c4 : Nat) (w : World) (hr : Kd.C k38 w A l.length l) (hc : l.length ≤ c) (hm : modestB (⟨nm, s⟩ :: l))
    (l3 : s.f2.length ≤ c3) (g3 : Kd.C Kd.string w A3 s.f2.length s.f2) (l4 : s.f3.length ≤ c4) (g4 : Kd.C k50 w A4 s.f3.length s.f3) :
    Calls Try.prog 25 #[.slice A l.length c, .string nm, .agg #[.int .i64 s.f0, .string s.f1, .slice A3 s.f2.length c3, .slice A4 s.f3.length c4]] w fun e W => ∃ v, e = .returned v ∧ Kd.R k38 38 W w.heap.size (fun _ => True) v (canonB (⟨nm, s⟩ :: l)) ∧ Below w.heap.size w W := by
  have hK := k38_mk w ⟨nm, s⟩ l3 g3 l4 g4
  have HR := Aside0.mk hr
  have HM := Aside0.mk hm
  have HK := Aside0.mk hK
  have hl1 := HM.out.1
  clear hr hm hK l3 g3 l4 g4
  have hl2 : l.length ≤ 1000 := by simp at hl1; omega
  go_enter Try.func25, Try.ntmps25
  have hbl := blk_new w (.cells #[.int .i64 s.f0, .string s.f1, .slice A3 s.f2.length c3, .slice A4 s.f3.length c4] 28)
  have hcc := X.cells4 hbl
  have he := R_one w (w.alloc (.cells #[.int .i64 s.f0, .string s.f1, .slice A3 s.f2.length c3, .slice A4 s.f3.length c4] 28)) w.heap.size ⟨nm, s⟩ _ HK.out (by simp)
  have hbe : Below w.heap.size w ((w.alloc (.cells #[.int .i64 s.f0, .string s.f1, .slice A3 s.f2.length c3, .slice A4 s.f3.length c4] 28)).alloc (.cells #[.string nm, .int .i64 s.f0, .string s.f1, .slice A3 s.f2.length c3, .slice A4 s.f3.length c4] 38)) := X.below_new2 _ _ _
  have hrr : ReadsRow (k38.K w) 5 _ A l.length l := ReadsRow.imp_ HR.out hbe (fun _ _ h => h)
  have HE := Aside0.mk he
  have HBE := Aside0.mk hbe
  have HRR := Aside0.mk hrr
  clear he hbe hrr hbl
  go_wp2_with (at_builtin; refine Kd.R_append_rows (seen k38 w) (w0 := w) (Rr := k38.K w) w.heap.size rfl _ _ 22 38 (.agg #[(.string ⟨#[]⟩), (.int .i64 0), (.string ⟨#[]⟩), (.slice none 0 0), (.slice none 0 0)]) 88 rfl Try.underlying22 bind_info rfl (show 0 < 5 by decide) (by decide) (.slice (some ⟨w.heap.size + 1, 0, none⟩) 1 1) [⟨nm, s⟩] l A l.length c (fun _ => True) (fun _ => False) rfl rfl (by simpa using HE.out) HRR.out (fun _ _ h => h) (fun _ h => h.elim) (fun _ _ => trivial) HBE.out HBE.out.size (by simp; omega) ?_; intro v1 w1 q1 q2 q3 q4; have Q1 := Aside0.mk q1; have Q2 := Aside0.mk q2; clear q1 q2 q3 q4)
  obtain ⟨A6, c6, hv6, l6, g6⟩ := Kd.R_reads Q1.out
  subst hv6
  have G6 := Aside0.mk (show Kd.C k38 w1 A6 (List.length ((⟨nm, s⟩ : S38) :: l)) (⟨nm, s⟩ :: l) from C_seen g6 Q2.out)
  have L6 := Aside0.mk (show (List.length ((⟨nm, s⟩ : S38) :: l)) ≤ c6 from l6)
  clear l6 g6
  go_wp2_with fail
  refine (rcanon_any A6 c6 (⟨nm, s⟩ :: l) w1 G6.out L6.out HM.out).mono ?_
  rintro e w2 ⟨v, rfl, hv, hb⟩
  have HV := Aside0.mk (Kd.R_lower hv Q2.out.size)
  have HB := Aside0.mk (below_step Q2.out hb)
  clear hv hb
  go_wp2_with fail
  go_ret
  exact ⟨_, rfl, HV.out, HB.out⟩
def CFB (W : World) (v : Value) (l : List S38) : Prop := ∃ A c, v = .slice A l.length c ∧ l.length ≤ c ∧ Kd.C k38 W A l.length l
theorem CFB.below {w w' : World} {v : Value} {l : List S38} (h : CFB w v l) (hb : Below w.heap.size w w') : CFB w' v l := by
  obtain ⟨A, c, h1, h2, h3⟩ := h
  exact ⟨A, c, h1, h2, Kd.C_below h3 hb⟩
theorem CFB.of {w : World} {base : Nat} {ok : Nat → Prop} {v : Value} {l : List S38} (h : Kd.R k38 38 w base ok v l) : CFB w v l := by
  obtain ⟨A, c, h1, h2, h3⟩ := Kd.R_reads h
  exact ⟨A, c, h1, h2, h3⟩
theorem OkC.zero (W : World) : OkC W (.agg #[.int .i64 0, .string ⟨#[]⟩, .slice none 0 0, .slice none 0 0]) z28 := ⟨none, 0, none, 0, rfl, Nat.le_refl _, Kd.C_nil _ _, Nat.le_refl _, Kd.C_nil _ _⟩
theorem set_cf {W : World} {u x : Value} {l : List S38} {s : S28} (nm : ByteArray) (h : CFB W u l) (hx : OkC W x s) (hm : modestB (⟨nm, s⟩ :: l)) :
    Calls Try.prog 24 #[u, .string nm, x] W fun e W' => ∃ v, e = .returned v ∧ CFB W' v (canonB (⟨nm, s⟩ :: l)) ∧ Below W.heap.size W W' := by
  obtain ⟨A, c, rfl, h2, h3⟩ := h
  obtain ⟨A3, c3, A4, c4, rfl, l3, g3, l4, g4⟩ := hx
  exact (set_of A c l nm s A3 A4 c3 c4 W h3 hm l3 g3 l4 g4).mono fun e W' ⟨v, h1, h2, h3⟩ => ⟨v, h1, CFB.of h2, h3⟩
theorem rset_cf {W : World} {u x : Value} {l : List S38} {s : S28} (nm : ByteArray) (h : CFB W u l) (hx : OkC W x s) (hm : modestB (⟨nm, s⟩ :: l)) :
    Calls Try.prog 25 #[u, .string nm, x] W fun e W' => ∃ v, e = .returned v ∧ CFB W' v (canonB (⟨nm, s⟩ :: l)) ∧ Below W.heap.size W W' := by
  obtain ⟨A, c, rfl, h2, h3⟩ := h
  obtain ⟨A3, c3, A4, c4, rfl, l3, g3, l4, g4⟩ := hx
  exact (rset_of A c l nm s A3 A4 c3 c4 W h3 h2 hm l3 g3 l4 g4).mono fun e W' ⟨v, h1, h2, h3⟩ => ⟨v, h1, CFB.of h2, h3⟩
theorem rveryB_cf {W : World} {u v : Value} {l m : List S38} (h : CFB W u l) (h' : CFB W v m) (hm : modestB l) (e : l = m) :
    Calls Try.prog 17 #[u, v] W fun e W' => e = .returned (.bool true) ∧ Below W.heap.size W W' := by
  obtain ⟨A, c, rfl, h2, h3⟩ := h
  obtain ⟨B, d, rfl, h4, h5⟩ := h'
  have := rveryB_any A c l B d m W h3 h2 h5 h4 hm
  rwa [decide_eq_true e] at this
end Go.Proofs.Ytfaiplbogchgjaa.PA
end
section
namespace Go.Proofs.Ytfaiplbogchgjaa.PA
set_option linter.unusedSimpArgs false
set_option linter.unusedVariables false
open Go.RowKit Go.Proofs.YtfaiplbogchgjaaW.PrintWords Go.Proofs.YtfaiplbogchgjaaW.PrintLast
def sets.T4 : Bool × List (List Nat × List Nat) := (true, [([], []), ([0], [0]), ([1], [1]), ([1], [1]), ([1], [1]), ([2, 3, 4, 1, 1], [1, 2, 3, 4]), ([1], [1]), ([1], [1]), ([1], [1]), ([6, 7, 8, 5, 1], [1, 6, 7, 8]), ([5, 9, 9, 1], [1, 5, 9]), ([1, 10], [1, 10]), ([11, 10, 0, 1, 2, 3, 4, 5, 6, 7, 8, 9, 10, 11], [11])])
def sets.B4 : List Nat := [0, 1, 3, 3, 3, 31, 3, 3, 3, 451, 1023, 2047, 4095]
theorem sets.tab4 : rtab .any (opsOf Try.f6 4) = sets.T4 := by kernel_rfl
theorem sets.bits4 : waitsOk sets.T4.2 sets.B4 = true := by kernel_rfl
set_option maxHeartbeats 8000000 in
set_option maxRecDepth 100000 in
theorem BindSets_walk (w : World) {A0 : Option Addr} {c0 : Nat} {l : List S38} (hr0 : Kd.C k38 w A0 l.length l) (hc0 : l.length ≤ c0) (nm : ByteArray) (s : S28) {A3 A4 : Option Addr} {c3 c4 : Nat}
    (g3 : Kd.C Kd.string w A3 s.f2.length s.f2) (l3 : s.f2.length ≤ c3) (g4 : Kd.C k50 w A4 s.f3.length s.f3) (l4 : s.f3.length ≤ c4) :
    Calls Try.prog 6 #[.slice A0 l.length c0, .string nm, .agg #[.int .i64 s.f0, .string s.f1, .slice A3 s.f2.length c3, .slice A4 s.f3.length c4]] w fun e W' => e = .returned (.bool true) ∧ Below w.heap.size w W' := by
  obtain ⟨b0, f0, h0⟩ := few_any l
  obtain ⟨b1, f1, h1⟩ := few8_any s
  have HR0 := Aside0.mk hr0
  have HC0 := Aside0.mk hc0
  have H0 := Aside0.mk h0
  have H1 := Aside0.mk h1
  have F0 := Aside0.mk f0
  have F1 := Aside0.mk f1
  have L3 := Aside0.mk l3
  have L4 := Aside0.mk l4
  have G3 := Aside0.mk g3
  have G4 := Aside0.mk g4
  clear hr0 hc0 h0 h1 f0 f1 l3 l4 g3 g4
  go_enter Try.func6, Try.ntmps6
  have hbl := blk_new w (.cells #[.int .i64 s.f0, .string s.f1, .slice A3 s.f2.length c3, .slice A4 s.f3.length c4] 28)
  have KB := Aside0.mk hbl
  clear hbl
  go_wp2_with fail
  refine (awake_walk _).mono ?_
  rintro e w1 ⟨rfl, hb⟩
  have HB := Aside0.mk (below_step (X.below_new1 _ _) hb)
  have KB1 := Aside0.mk (blk_below KB.out hb)
  clear hb KB
  go_wp2_with fail
  refine (H0.out w1 A0 c0 (Kd.C_below HR0.out HB.out) HC0.out).mono ?_
  rintro e w2 ⟨rfl, hb⟩
  have HB2 := Aside0.mk (below_step HB.out hb)
  have KB2 := Aside0.mk (blk_below KB1.out hb)
  clear hb HB KB1
  cases b0 with
  | false =>
    go_wp2_with fail
    go_ret
    exact ⟨rfl, HB2.out⟩
  | true =>
    cases hs : decide ((nm.size : Int) > 200) with
    | true =>
      go_wp2_with fail
      go_ret
      exact ⟨rfl, HB2.out⟩
    | false =>
      have hnm : nm.size ≤ 200 := by have := of_decide_eq_false hs; omega
      have HNM := Aside0.mk hnm
      clear hnm
      have hcc := X.cells4 KB2.out
      go_wp2_with fail
      refine (H1.out _ A3 A4 c3 c4 (Kd.C_below G3.out HB2.out) L3.out (Kd.C_below G4.out HB2.out) L4.out).mono ?_
      rintro e w3 ⟨rfl, hb⟩
      have HB3 := Aside0.mk (below_step HB2.out hb)
      have KB3 := Aside0.mk (blk_below KB2.out hb)
      clear hb HB2 KB2 hcc
      cases b1 with
      | false =>
        go_wp2_with fail
        go_ret
        exact ⟨rfl, HB3.out⟩
      | true =>
        have ml := modest_cons (F0.out trivial).modest (by have := (F0.out trivial).1; omega) (show nm.size ≤ 1000000 by have := HNM.out; omega) ((F1.out (by first | trivial | rfl)).modest (k := s.f0))
        have ML := Aside0.mk ml
        have U0 := Aside0.mk (show CFB w (.slice A0 l.length c0) l from ⟨A0, c0, rfl, HC0.out, HR0.out⟩)
        have X0 := Aside0.mk (show OkC w (.agg #[.int .i64 s.f0, .string s.f1, .slice A3 s.f2.length c3, .slice A4 s.f3.length c4]) s from ⟨A3, c3, A4, c4, rfl, L3.out, G3.out, L4.out, G4.out⟩)
        clear ml
        go_wp2_with fail
        refine start_ (n := 13) (S := fun w' => True) (ds := []) #[false, false, false, false, false, false, false, false, false, false, false, false, false] (by kernel_rfl) rfl rfl trivial (fun hHeld => ?_)
        refine with_tabW sets.tab4 sets.bits4 (fun HT_ HW_ => ?_)
        refine inv_at [0, 1, 2, 3, 4, 5, 6, 7, 8, 9, 10, 11, 12] (fun a0_ b a w' => ∃ (v5 : Value) (v9 : Value), a = putSel a0_ b [(0, 23, .bool true), (1, 24, .bool true), (2, 25, .slice A0 l.length c0), (3, 26, .string nm), (4, 27, .agg #[.int .i64 s.f0, .string s.f1, .slice A3 s.f2.length c3, .slice A4 s.f3.length c4]), (5, 28, v5), (6, 29, .slice A0 l.length c0), (7, 30, .string nm), (8, 31, .agg #[.int .i64 s.f0, .string s.f1, .slice A3 s.f2.length c3, .slice A4 s.f3.length c4]), (9, 32, v9), (10, 33, .bool true), (11, 34, .bool true), (12, 6, .bool true)] ∧ Below w3.drew.heap.size w3.drew w' ∧ (b 5 = true → CFB w' v5 (canonB (⟨nm, s⟩ :: l))) ∧ (b 9 = true → CFB w' v9 (canonB (⟨nm, s⟩ :: l)))) HT_.out HW_.out (by kernel_rfl) (by kernel_rfl) ?_ ?_ ?_
        · exact ⟨.bool false, .bool false, by simp only [putSel, Bool.false_eq_true, if_false], Below.refl _ _, fun h_ => absurd h_ (by decide), fun h_ => absurd h_ (by decide)⟩
        · clear hHeld HT_ HW_
          refine steps_cons ?_ ?_
          · rintro b a w' ⟨v5, v9, ha, HBW, Q_V5, Q_V9⟩ hb_ hon hoff
            refine ⟨_, rfl, fun K hK => ?_⟩
            have e7 : a.tmps[7]? = some (.bool true) := by rw [ha]; exact (putSel_off rfl).trans rfl
            replace ha := Aside0.mk ha
            have HBW := Aside0.mk HBW
            refine value_ (w1 := w') (v := .bool true) (by rfl) rfl ?_ ?_
            · go_simp
              (try simp only [i64_w])
              try rfl
            refine hK.out _ _ ⟨v5, v9, (by rw [ha.out]; exact putSel_upk 0 hb_ rfl rfl rfl), HBW.out, Q_V5, Q_V9⟩
          refine steps_cons ?_ ?_
          · rintro b a w' ⟨v5, v9, ha, HBW, Q_V5, Q_V9⟩ hb_ hon hoff
            refine ⟨_, rfl, fun K hK => ?_⟩
            have e23 : a.tmps[23]? = some (.bool true) := by rw [ha]; exact putSel_on (e := (0, 23, .bool true)) 0 rfl rfl (hon 0 (by kernel_rfl)) rfl
            replace ha := Aside0.mk ha
            have HBW := Aside0.mk HBW
            refine value_ (w1 := w') (v := .bool true) (by rfl) rfl ?_ ?_
            · go_simp
              (try simp only [i64_w])
              try rfl
            refine hK.out _ _ ⟨v5, v9, (by rw [ha.out]; exact putSel_upk 1 hb_ rfl rfl rfl), HBW.out, Q_V5, Q_V9⟩
          refine steps_cons ?_ ?_
          · rintro b a w' ⟨v5, v9, ha, HBW, Q_V5, Q_V9⟩ hb_ hon hoff
            refine ⟨_, rfl, fun K hK => ?_⟩
            have e0 : a.tmps[0]? = some (.slice A0 l.length c0) := by rw [ha]; exact (putSel_off rfl).trans rfl
            have e24 : a.tmps[24]? = some (.bool true) := by rw [ha]; exact putSel_on (e := (1, 24, .bool true)) 1 rfl rfl (hon 1 (by kernel_rfl)) rfl
            replace ha := Aside0.mk ha
            have HBW := Aside0.mk HBW
            refine value_ (w1 := w') (v := .slice A0 l.length c0) (wanted_on rfl rfl rfl (e24.trans (by first | rfl | (simp [*]; done)))) rfl ?_ ?_
            · go_simp
              (try simp only [i64_w])
              try rfl
            refine hK.out _ _ ⟨v5, v9, (by rw [ha.out]; exact putSel_upk 2 hb_ rfl rfl rfl), HBW.out, Q_V5, Q_V9⟩
          refine steps_cons ?_ ?_
          · rintro b a w' ⟨v5, v9, ha, HBW, Q_V5, Q_V9⟩ hb_ hon hoff
            refine ⟨_, rfl, fun K hK => ?_⟩
            have e1 : a.tmps[1]? = some (.string nm) := by rw [ha]; exact (putSel_off rfl).trans rfl
            have e24 : a.tmps[24]? = some (.bool true) := by rw [ha]; exact putSel_on (e := (1, 24, .bool true)) 1 rfl rfl (hon 1 (by kernel_rfl)) rfl
            replace ha := Aside0.mk ha
            have HBW := Aside0.mk HBW
            refine value_ (w1 := w') (v := .string nm) (wanted_on rfl rfl rfl (e24.trans (by first | rfl | (simp [*]; done)))) rfl ?_ ?_
            · go_simp
              (try simp only [i64_w])
              try rfl
            refine hK.out _ _ ⟨v5, v9, (by rw [ha.out]; exact putSel_upk 3 hb_ rfl rfl rfl), HBW.out, Q_V5, Q_V9⟩
          refine steps_cons ?_ ?_
          · rintro b a w' ⟨v5, v9, ha, HBW, Q_V5, Q_V9⟩ hb_ hon hoff
            refine ⟨_, rfl, fun K hK => ?_⟩
            have e5 : a.tmps[5]? = some (.pointer (some ⟨w.heap.size, 0, none⟩)) := by rw [ha]; exact (putSel_off rfl).trans rfl
            have e24 : a.tmps[24]? = some (.bool true) := by rw [ha]; exact putSel_on (e := (1, 24, .bool true)) 1 rfl rfl (hon 1 (by kernel_rfl)) rfl
            replace ha := Aside0.mk ha
            have HBW := Aside0.mk HBW
            have hcc_ := X.cells4 (blk_below (blk_drew KB3.out) HBW.out)
            refine value_ (w1 := w') (v := .agg #[.int .i64 s.f0, .string s.f1, .slice A3 s.f2.length c3, .slice A4 s.f3.length c4]) (wanted_on rfl rfl rfl (e24.trans (by first | rfl | (simp [*]; done)))) rfl ?_ ?_
            · go_simp
              (try simp only [i64_w])
              try rfl
            refine hK.out _ _ ⟨v5, v9, (by rw [ha.out]; exact putSel_upk 4 hb_ rfl rfl rfl), HBW.out, Q_V5, Q_V9⟩
          refine steps_cons ?_ ?_
          · rintro b a w' ⟨v5, v9, ha, HBW, Q_V5, Q_V9⟩ hb_ hon hoff
            refine ⟨_, rfl, fun K hK => ?_⟩
            have e25 : a.tmps[25]? = some (.slice A0 l.length c0) := by rw [ha]; exact putSel_on (e := (2, 25, .slice A0 l.length c0)) 2 rfl rfl (hon 2 (by kernel_rfl)) rfl
            have e26 : a.tmps[26]? = some (.string nm) := by rw [ha]; exact putSel_on (e := (3, 26, .string nm)) 3 rfl rfl (hon 3 (by kernel_rfl)) rfl
            have e27 : a.tmps[27]? = some (.agg #[.int .i64 s.f0, .string s.f1, .slice A3 s.f2.length c3, .slice A4 s.f3.length c4]) := by rw [ha]; exact putSel_on (e := (4, 27, .agg #[.int .i64 s.f0, .string s.f1, .slice A3 s.f2.length c3, .slice A4 s.f3.length c4])) 4 rfl rfl (hon 4 (by kernel_rfl)) rfl
            have e24 : a.tmps[24]? = some (.bool true) := by rw [ha]; exact putSel_on (e := (1, 24, .bool true)) 1 rfl rfl (hon 1 (by kernel_rfl)) rfl
            replace ha := Aside0.mk ha
            have HBW := Aside0.mk HBW
            refine goes_ Try.func24 (by kernel_rfl) rfl #[.slice A0 l.length c0, .string nm, .agg #[.int .i64 s.f0, .string s.f1, .slice A3 s.f2.length c3, .slice A4 s.f3.length c4]] (wanted_on rfl rfl rfl (e24.trans (by first | rfl | (simp [*]; done)))) rfl rfl (by first | (simp only [List.map_toArray, List.map_cons, List.map_nil, Act.eval, Array.getD_eq_getD_getElem?, Option.getD_some, e25, e26, e27, e24]; done) | (simp only [List.map_toArray, List.map_cons, List.map_nil, Act.eval, Array.getD_eq_getD_getElem?, Option.getD_some, e25, e26, e27, e24]; rfl)) ?_
            have hww : Below w.heap.size w w' := below_step (below_drew HB3.out) HBW.out
            refine (set_cf nm (U0.out.below hww) (X0.out.below hww) ML.out).mono ?_
            rintro e w1 ⟨v_, rfl, hv_, hb⟩
            refine ⟨_, rfl, ?_⟩
            refine hK.out _ _ ⟨v_, v9, (by rw [ha.out]; exact putSel_upk 5 hb_ rfl rfl rfl), below_step HBW.out hb, fun _ => hv_, fun h_ => CFB.below (Q_V9 h_) hb⟩
          refine steps_cons ?_ ?_
          · rintro b a w' ⟨v5, v9, ha, HBW, Q_V5, Q_V9⟩ hb_ hon hoff
            refine ⟨_, rfl, fun K hK => ?_⟩
            have e0 : a.tmps[0]? = some (.slice A0 l.length c0) := by rw [ha]; exact (putSel_off rfl).trans rfl
            have e24 : a.tmps[24]? = some (.bool true) := by rw [ha]; exact putSel_on (e := (1, 24, .bool true)) 1 rfl rfl (hon 1 (by kernel_rfl)) rfl
            replace ha := Aside0.mk ha
            have HBW := Aside0.mk HBW
            refine value_ (w1 := w') (v := .slice A0 l.length c0) (wanted_on rfl rfl rfl (e24.trans (by first | rfl | (simp [*]; done)))) rfl ?_ ?_
            · go_simp
              (try simp only [i64_w])
              try rfl
            refine hK.out _ _ ⟨v5, v9, (by rw [ha.out]; exact putSel_upk 6 hb_ rfl rfl rfl), HBW.out, Q_V5, Q_V9⟩
          refine steps_cons ?_ ?_
          · rintro b a w' ⟨v5, v9, ha, HBW, Q_V5, Q_V9⟩ hb_ hon hoff
            refine ⟨_, rfl, fun K hK => ?_⟩
            have e1 : a.tmps[1]? = some (.string nm) := by rw [ha]; exact (putSel_off rfl).trans rfl
            have e24 : a.tmps[24]? = some (.bool true) := by rw [ha]; exact putSel_on (e := (1, 24, .bool true)) 1 rfl rfl (hon 1 (by kernel_rfl)) rfl
            replace ha := Aside0.mk ha
            have HBW := Aside0.mk HBW
            refine value_ (w1 := w') (v := .string nm) (wanted_on rfl rfl rfl (e24.trans (by first | rfl | (simp [*]; done)))) rfl ?_ ?_
            · go_simp
              (try simp only [i64_w])
              try rfl
            refine hK.out _ _ ⟨v5, v9, (by rw [ha.out]; exact putSel_upk 7 hb_ rfl rfl rfl), HBW.out, Q_V5, Q_V9⟩
          refine steps_cons ?_ ?_
          · rintro b a w' ⟨v5, v9, ha, HBW, Q_V5, Q_V9⟩ hb_ hon hoff
            refine ⟨_, rfl, fun K hK => ?_⟩
            have e5 : a.tmps[5]? = some (.pointer (some ⟨w.heap.size, 0, none⟩)) := by rw [ha]; exact (putSel_off rfl).trans rfl
            have e24 : a.tmps[24]? = some (.bool true) := by rw [ha]; exact putSel_on (e := (1, 24, .bool true)) 1 rfl rfl (hon 1 (by kernel_rfl)) rfl
            replace ha := Aside0.mk ha
            have HBW := Aside0.mk HBW
            have hcc_ := X.cells4 (blk_below (blk_drew KB3.out) HBW.out)
            refine value_ (w1 := w') (v := .agg #[.int .i64 s.f0, .string s.f1, .slice A3 s.f2.length c3, .slice A4 s.f3.length c4]) (wanted_on rfl rfl rfl (e24.trans (by first | rfl | (simp [*]; done)))) rfl ?_ ?_
            · go_simp
              (try simp only [i64_w])
              try rfl
            refine hK.out _ _ ⟨v5, v9, (by rw [ha.out]; exact putSel_upk 8 hb_ rfl rfl rfl), HBW.out, Q_V5, Q_V9⟩
          refine steps_cons ?_ ?_
          · rintro b a w' ⟨v5, v9, ha, HBW, Q_V5, Q_V9⟩ hb_ hon hoff
            refine ⟨_, rfl, fun K hK => ?_⟩
            have e29 : a.tmps[29]? = some (.slice A0 l.length c0) := by rw [ha]; exact putSel_on (e := (6, 29, .slice A0 l.length c0)) 6 rfl rfl (hon 6 (by kernel_rfl)) rfl
            have e30 : a.tmps[30]? = some (.string nm) := by rw [ha]; exact putSel_on (e := (7, 30, .string nm)) 7 rfl rfl (hon 7 (by kernel_rfl)) rfl
            have e31 : a.tmps[31]? = some (.agg #[.int .i64 s.f0, .string s.f1, .slice A3 s.f2.length c3, .slice A4 s.f3.length c4]) := by rw [ha]; exact putSel_on (e := (8, 31, .agg #[.int .i64 s.f0, .string s.f1, .slice A3 s.f2.length c3, .slice A4 s.f3.length c4])) 8 rfl rfl (hon 8 (by kernel_rfl)) rfl
            have e24 : a.tmps[24]? = some (.bool true) := by rw [ha]; exact putSel_on (e := (1, 24, .bool true)) 1 rfl rfl (hon 1 (by kernel_rfl)) rfl
            replace ha := Aside0.mk ha
            have HBW := Aside0.mk HBW
            refine goes_ Try.func25 (by kernel_rfl) rfl #[.slice A0 l.length c0, .string nm, .agg #[.int .i64 s.f0, .string s.f1, .slice A3 s.f2.length c3, .slice A4 s.f3.length c4]] (wanted_on rfl rfl rfl (e24.trans (by first | rfl | (simp [*]; done)))) rfl rfl (by first | (simp only [List.map_toArray, List.map_cons, List.map_nil, Act.eval, Array.getD_eq_getD_getElem?, Option.getD_some, e29, e30, e31, e24]; done) | (simp only [List.map_toArray, List.map_cons, List.map_nil, Act.eval, Array.getD_eq_getD_getElem?, Option.getD_some, e29, e30, e31, e24]; rfl)) ?_
            have hww : Below w.heap.size w w' := below_step (below_drew HB3.out) HBW.out
            refine (rset_cf nm (U0.out.below hww) (X0.out.below hww) ML.out).mono ?_
            rintro e w1 ⟨v_, rfl, hv_, hb⟩
            refine ⟨_, rfl, ?_⟩
            refine hK.out _ _ ⟨v5, v_, (by rw [ha.out]; exact putSel_upk 9 hb_ rfl rfl rfl), below_step HBW.out hb, fun h_ => CFB.below (Q_V5 h_) hb, fun _ => hv_⟩
          refine steps_cons ?_ ?_
          · rintro b a w' ⟨v5, v9, ha, HBW, Q_V5, Q_V9⟩ hb_ hon hoff
            refine ⟨_, rfl, fun K hK => ?_⟩
            have e28 : a.tmps[28]? = some (v5) := by rw [ha]; exact putSel_on (e := (5, 28, v5)) 5 rfl rfl (hon 5 (by kernel_rfl)) rfl
            have e32 : a.tmps[32]? = some (v9) := by rw [ha]; exact putSel_on (e := (9, 32, v9)) 9 rfl rfl (hon 9 (by kernel_rfl)) rfl
            have e24 : a.tmps[24]? = some (.bool true) := by rw [ha]; exact putSel_on (e := (1, 24, .bool true)) 1 rfl rfl (hon 1 (by kernel_rfl)) rfl
            replace ha := Aside0.mk ha
            have HBW := Aside0.mk HBW
            refine goes_ Try.func17 (by kernel_rfl) rfl #[v5, v9] (wanted_on rfl rfl rfl (e24.trans (by first | rfl | (simp [*]; done)))) rfl rfl (by first | (simp only [List.map_toArray, List.map_cons, List.map_nil, Act.eval, Array.getD_eq_getD_getElem?, Option.getD_some, e28, e32, e24]; done) | (simp only [List.map_toArray, List.map_cons, List.map_nil, Act.eval, Array.getD_eq_getD_getElem?, Option.getD_some, e28, e32, e24]; rfl)) ?_
            refine (rveryB_cf (Q_V5 (hon 5 (by kernel_rfl))) (Q_V9 (hon 9 (by kernel_rfl))) (canonB_modest ML.out) rfl).mono ?_
            rintro e w1 ⟨rfl, hb⟩
            refine ⟨_, rfl, ?_⟩
            refine hK.out _ _ ⟨v5, v9, (by rw [ha.out]; exact putSel_upk 10 hb_ rfl rfl rfl), below_step HBW.out hb, fun h_ => CFB.below (Q_V5 h_) hb, fun h_ => CFB.below (Q_V9 h_) hb⟩
          refine steps_cons ?_ ?_
          · rintro b a w' ⟨v5, v9, ha, HBW, Q_V5, Q_V9⟩ hb_ hon hoff
            refine ⟨_, rfl, fun K hK => ?_⟩
            have e24 : a.tmps[24]? = some (.bool true) := by rw [ha]; exact putSel_on (e := (1, 24, .bool true)) 1 rfl rfl (hon 1 (by kernel_rfl)) rfl
            have e33 : a.tmps[33]? = some (.bool true) := by rw [ha]; exact putSel_on (e := (10, 33, .bool true)) 10 rfl rfl (hon 10 (by kernel_rfl)) rfl
            replace ha := Aside0.mk ha
            have HBW := Aside0.mk HBW
            refine value_ (w1 := w') (v := .bool true) (by rfl) rfl ?_ ?_
            · go_simp
              (try simp only [i64_w])
              try rfl
            refine hK.out _ _ ⟨v5, v9, (by rw [ha.out]; exact putSel_upk 11 hb_ rfl rfl rfl), HBW.out, Q_V5, Q_V9⟩
          refine steps_cons ?_ ?_
          · rintro b a w' ⟨v5, v9, ha, HBW, Q_V5, Q_V9⟩ hb_ hon hoff
            refine ⟨_, rfl, fun K hK => ?_⟩
            have e34 : a.tmps[34]? = some (.bool true) := by rw [ha]; exact putSel_on (e := (11, 34, .bool true)) 11 rfl rfl (hon 11 (by kernel_rfl)) rfl
            replace ha := Aside0.mk ha
            have HBW := Aside0.mk HBW
            refine value_ (w1 := w') (v := .bool true) (by rfl) rfl ?_ ?_
            · go_simp
              (try simp only [i64_w])
              try rfl
            refine hK.out _ _ ⟨v5, v9, (by rw [ha.out]; exact putSel_upk 12 hb_ rfl rfl rfl), HBW.out, Q_V5, Q_V9⟩
          exact steps_nil
        rintro b a w5 hall ⟨v5, v9, ha, HBW, Q_V5, Q_V9⟩
        have hb0_ := hall 0 (by kernel_rfl)
        have hb1_ := hall 1 (by kernel_rfl)
        have hb2_ := hall 2 (by kernel_rfl)
        have hb3_ := hall 3 (by kernel_rfl)
        have hb4_ := hall 4 (by kernel_rfl)
        have hb5_ := hall 5 (by kernel_rfl)
        have hb6_ := hall 6 (by kernel_rfl)
        have hb7_ := hall 7 (by kernel_rfl)
        have hb8_ := hall 8 (by kernel_rfl)
        have hb9_ := hall 9 (by kernel_rfl)
        have hb10_ := hall 10 (by kernel_rfl)
        have hb11_ := hall 11 (by kernel_rfl)
        have hb12_ := hall 12 (by kernel_rfl)
        subst ha
        simp only [putSel, hb0_, hb1_, hb2_, hb3_, hb4_, hb5_, hb6_, hb7_, hb8_, hb9_, hb10_, hb11_, hb12_, if_true, Act.put, List.setIfInBounds_toArray, List.set_cons_zero, List.set_cons_succ]
        have HBW := Aside0.mk HBW
        clear hall hb0_ hb1_ hb2_ hb3_ hb4_ hb5_ hb6_ hb7_ hb8_ hb9_ hb10_ hb11_ hb12_ Q_V5 Q_V9
        go_wp2_with fail
        go_ret
        exact ⟨rfl, HB3.out.drew.trans (HBW.out.mono (show _ from HB3.out.size))⟩
end Go.Proofs.Ytfaiplbogchgjaa.PA
end
section
namespace Go.Proofs.Ytfaiplbogchgjaa.PA
set_option linter.unusedSimpArgs false
set_option linter.unusedVariables false
open Go.RowKit Go.Joins Go.WideShapes Go.ChangeShapes Go.Proofs.YtfaiplbogchgjaaW.PrintWords X
theorem down_pair : Down Try.prog k50 (fun x => x.f0.size ≤ maxLen ∧ x.f1.size ≤ maxLen) 50 :=
  down_iso (fun p => ⟨p.1, p.2⟩) (fun _ => rfl) (down_struct Try.underlying50 (fdown_cons (down_string Try.underlying9) rfl (by kernel_rfl) (fdown_one (down_string Try.underlying9) rfl (by kernel_rfl))) (by kernel_rfl))
def okV (x : S28) : Prop := (Lit.int .i64 x.f0).wf = true ∧ x.f1.size ≤ maxLen ∧ (∀ y ∈ x.f2, y.size ≤ maxLen) ∧ ∀ y ∈ x.f3, y.f0.size ≤ maxLen ∧ y.f1.size ≤ maxLen
set_option maxRecDepth 100000 in
theorem down_value : Down Try.prog k28 okV 28 :=
  down_iso (fun p => ⟨p.1, p.2.1, p.2.2.1, p.2.2.2⟩) (fun _ => rfl) (down_struct Try.underlying28 (fdown_cons (down_int Try.underlying3) rfl (by kernel_rfl) (fdown_cons (down_string Try.underlying9) rfl (by kernel_rfl) (fdown_cons (down_slice Try.underlying25 (down_string Try.underlying9) (by kernel_rfl)) rfl (by kernel_rfl) (fdown_one (down_slice Try.underlying26 down_pair (by kernel_rfl)) rfl (by kernel_rfl))))) (by kernel_rfl))
set_option maxRecDepth 100000 in
theorem down_bind : Down Try.prog k38 (fun x => x.f0.size ≤ maxLen ∧ okV x.f1) 38 :=
  down_iso (fun p => ⟨p.1, p.2⟩) (fun _ => rfl) (down_struct Try.underlying38 (fdown_cons (down_string Try.underlying9) rfl (by kernel_rfl) (fdown_one down_value rfl (by kernel_rfl))) (by kernel_rfl))
set_option maxRecDepth 100000 in
theorem arg_value {H : Type} {enc : TypeId × Value → H} {w : World} {r : Reach} {b0 base : Nat} {spare : Nat → Bool} {held : Bool} {v : Value} {x : DataW H} {p : List MemPlace} (hv : Value.okWide Try.prog w r b0 28 v) (h : DataW.Trod enc Try.prog w base spare held 28 v x p) :
    ∃ (k : Int) (s : ByteArray) (A0 : Option Addr) (l : List ByteArray) (c0 : Nat) (A1 : Option Addr) (q : List S50) (c1 : Nat), v = .agg #[.int .i64 k, .string s, .slice A0 l.length c0, .slice A1 q.length c1] ∧ (Lit.int .i64 k).wf = true ∧
      Kd.C Kd.string w A0 l.length l ∧ l.length ≤ c0 ∧ Kd.C k50 w A1 q.length q ∧ q.length ≤ c1 := by
  obtain ⟨y, cs, rfl, hk, h1, _⟩ := arg_struct Try.underlying28 down_value hv h
  obtain ⟨A2, c2, A3, c3, e, l2, g2, l3, g3⟩ := k28_open hk
  refine ⟨y.f0, y.f1, A2, y.f2, c2, A3, y.f3, c3, ?_, h1, g2, l2, g3, l3⟩
  rw [show cs = #[.int .i64 y.f0, .string y.f1, .slice A2 y.f2.length c2, .slice A3 y.f3.length c3] from by rw [← Array.toArray_toList (xs := cs), e]]
end Go.Proofs.Ytfaiplbogchgjaa.PA
end
section
namespace Go.Proofs.Ytfaiplbogchgjaa.bindSets
open Go.ChangeShapes Go.WideShapes Go.ChangeAt Go.RowKit
open Go.ChangeMaps (open_string shut_string)
set_option linter.unusedVariables false
theorem own : ownKnob Try.prog.godebug = none := by kernel_rfl
theorem laidOut : laidOutB Try.prog = true := by kernel_rfl
set_option maxRecDepth 100000 in
theorem lifted (os : Os) (started : os.Started) (H : Type) (enc : TypeId × Value → H) :
    ReturnsInHanded {} Try.checked os 6 .any (Rows.bindSetsSpec.pre6 enc Try.prog Try.f6 Rows.bindSetsRow.domain false) (Rows.bindSetsSpec.post enc Try.prog Try.f6 false true false false) := by
  refine returnsInHanded_of_change_sized (C := Try.checked) own started (by kernel_rfl) Try.func6
    (ChangeSpec.witness6 (enc := enc) (C := Try.checked) false ⟨#[], #[.slice none 0 0, .string ByteArray.empty, .agg #[.int .i64 0, .string ByteArray.empty, .slice none 0 0, .slice none 0 0]], []⟩ 8 (by kernel_rfl) (by kernel_rfl) (by kernel_rfl) (by kernel_rfl)) ?_
  intro W base args ds gs before hval0 hW hcnd _ _
  have hval : ∀ (j : Nat) t v, Try.f6.params[j]? = some t → args[j]? = some v → Value.okWide Try.prog W .any base t v := hval0
  have hW' := hW
  obtain ⟨p, q, hA0, hV, rfl, hfz, hnd⟩ := hW
  have hA : DataW.TrodAll enc Try.prog W 0 (fun _ => true) true Try.f6.params.toList args.toList ds p := hA0
  rw [Try.params6] at hA hval
  obtain ⟨v0, vs0, d0, ds0, p0, r0, hargs, rfl, rfl, h0, t0⟩ := trodAll_cons hA
  obtain ⟨v1, vs1, d1, ds1, p1, r1, rfl, rfl, rfl, h1, t1⟩ := trodAll_cons t0
  obtain ⟨v2, vs2, d2, ds2, p2, r2, rfl, rfl, rfl, h2, t2⟩ := trodAll_cons t1
  obtain ⟨rfl, rfl, rfl⟩ := trodAll_nil t2
  obtain rfl : args = #[v0, v1, v2] := by cases args; simp_all
  obtain ⟨rfl, rfl⟩ := trodVars_none hV
  have k0 := h0
  have lt0 : ∀ x ∈ p0, x.block < W.heap.size := by obtain ⟨m, hm⟩ := k0; exact DataW.trod_lt m _ _ _ hm
  obtain ⟨A0, l0, c0, rfl, hc0, hl0, o0⟩ := X.arg_slice Try.underlying22 PA.down_bind (by kernel_rfl) (hval 0 22 v0 rfl rfl) h0
  have k1 := h1
  have lt1 : ∀ x ∈ p1, x.block < W.heap.size := by obtain ⟨m, hm⟩ := k1; exact DataW.trod_lt m _ _ _ hm
  obtain ⟨a1, rfl, rfl, rfl, y1⟩ := open_string Try.underlying9 (hval 1 9 v1 rfl rfl) h1
  have k2 := h2
  have lt2 : ∀ x ∈ p2, x.block < W.heap.size := by obtain ⟨m, hm⟩ := k2; exact DataW.trod_lt m _ _ _ hm
  obtain ⟨k2_, s2, A2, l2, c2, B2, q2, e2, rfl, wk2, hl2, hc2, hq2, he2⟩ := PA.arg_value (hval 2 28 v2 rfl rfl) h2
  refine (PA.BindSets_walk W hl0 hc0 a1 ⟨k2_, s2, l2, q2⟩ hl2 hc2 hq2 he2).mono fun e W' ⟨he, bel⟩ => ?_
  subst he
  exact ⟨_, rfl, _, _, _, [], _, [], hW', trodAll_mk1 (shut_bool Try.underlying4 _), (trodAll_cons_mk (Below.trod laidOut (by kernel_rfl) (of_decide_eq_true (by kernel_rfl)) k0 bel lt0) (trodAll_cons_mk (Below.trod laidOut (by kernel_rfl) (of_decide_eq_true (by kernel_rfl)) k1 bel lt1) (trodAll_cons_mk (Below.trod laidOut (by kernel_rfl) (of_decide_eq_true (by kernel_rfl)) k2 bel lt2) trodAll_mk0))), rfl, bel.frame _, fun h => by cases h⟩
theorem over : Rows.bindSetsRow.holds Try.pinned (OpenSpec.ofChange Rows.bindSetsSpec) :=
  OpenClaim.holds_of_wide 6 Try.f6 rfl rfl rfl rfl rfl rfl rfl ⟨rfl, rfl, rfl, rfl, rfl⟩ rfl rfl rfl rfl rfl (by kernel_rfl) Try.func6 (by kernel_rfl)
    (of_decide_eq_true (by kernel_rfl)) (by unfold Func.isWrapper; first | (rw [if_pos (by decide +kernel)]; kernel_rfl) | (rw [if_neg (by decide +kernel)]; exact ⟨rfl, rfl⟩))
    (fun os started H enc _ => lifted os started H enc)
end Go.Proofs.Ytfaiplbogchgjaa.bindSets
namespace Go.Proofs.Ytfaiplbogchgjaa
theorem bindSets_holds : Rows.BindSetsSaid := bindSets.over
#print axioms bindSets_holds
end Go.Proofs.Ytfaiplbogchgjaa
end
