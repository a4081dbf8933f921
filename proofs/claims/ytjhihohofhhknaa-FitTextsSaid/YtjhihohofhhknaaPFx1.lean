-- Printed by wip/xprint.py of this claim's authors, over the kit's print; not trusted: Lean checks it.
import Derived.Test.YtjhihohofhhknaaPFx0
namespace Go.Proofs.Ytjhihohofhhknaa.PF
open Go.RowKit Go.Proofs.YtjhihohofhhknaaW.PrintWords Go.Proofs.YtjhihohofhhknaaW.PrintLast Go.Proofs.YtjhihohofhhknaaW.PrintMore
attribute [local go_sem] max2_int min2_int max_two min_two max_three min_three max_four min_four   -- for this text's walks alone
set_option linter.unusedVariables false
set_option linter.unusedSimpArgs false

/-! ### schema_Find: function 19 (ours) -/
/-- What a schema says of a variable. -/
def findV : List S30 → ByteArray → S30 × Bool
  | [], _ => (z30, false)
  | x :: l, nm => if (x.f0.toList == nm.toList) = true then (x, true) else findV l nm
theorem rdv_at (xs : List S30) (k : Nat) (h : k < xs.length) : rd_T30 xs (k : Int) = xs[k] := by
  unfold rd_T30; rw [Int.toNat_natCast, List.getD_eq_getElem?_getD, List.getElem?_eq_getElem h]; rfl
theorem findV_idx (nm : ByteArray) (l : List S30) : ∀ i : Nat, (X.idxOf (fun x : S30 => x.f0.toList == nm.toList) l i = -1 ∧ findV l nm = (z30, false)) ∨
    ∃ (j : Nat) (h : j < l.length), X.idxOf (fun x : S30 => x.f0.toList == nm.toList) l i = ((i + j : Nat) : Int) ∧ findV l nm = (l[j], true) := by
  induction l with
  | nil => intro i; exact .inl ⟨rfl, rfl⟩
  | cons x l ih =>
    intro i
    unfold X.idxOf findV
    by_cases h : (x.f0.toList == nm.toList) = true
    · exact .inr ⟨0, by simp, by rw [if_pos h]; rfl, by rw [if_pos h]; rfl⟩
    · rw [if_neg h, if_neg h]
      rcases ih (i + 1) with ⟨e1, e2⟩ | ⟨j, hj, e1, e2⟩
      · exact .inl ⟨e1, e2⟩
      · exact .inr ⟨j + 1, by simp; omega, by rw [show ((i : Int) + 1) = ((i + 1 : Nat) : Int) from by omega, e1]; congr 1; omega, e2⟩
theorem cells5 {w : World} {B : Nat} {a b c d e : Value} {t : TypeId} (h : w.heap[B]? = some (.cells #[a, b, c, d, e] t (0, 0))) :
    w.cell? ⟨B, 0, none⟩ = some a ∧ w.cell? ⟨B, 1, none⟩ = some b ∧ w.cell? ⟨B, 2, none⟩ = some c ∧ w.cell? ⟨B, 3, none⟩ = some d ∧ w.cell? ⟨B, 4, none⟩ = some e := by
  refine ⟨?_, ?_, ?_, ?_, ?_⟩ <;> simp [blk_cell h]
theorem frozen5 {w : World} {B : Nat} {a b c d e : Value} {t : TypeId} (h : w.heap[B]? = some (.cells #[a, b, c, d, e] t (0, 0))) :
    w.frozen? ⟨B, 0, none⟩ = false ∧ w.frozen? ⟨B, 1, none⟩ = false ∧ w.frozen? ⟨B, 2, none⟩ = false ∧ w.frozen? ⟨B, 3, none⟩ = false ∧ w.frozen? ⟨B, 4, none⟩ = false :=
  ⟨blk_frozen h 0, blk_frozen h 1, blk_frozen h 2, blk_frozen h 3, blk_frozen h 4⟩
def encVar (x : S30) : Value := .agg #[.string x.f0, .int .i64 x.f1, .bool x.f2, .int .i64 x.f3, .int .i64 x.f4]
set_option maxHeartbeats 800000 in
theorem indexFunc_var (g : FuncId) (lb : Array Value) (p : S30 → Bool) (l : List S30) (A : Option Addr) (n : Nat) (w : World) (hl : l.length ≤ 1000000) (hr : Kd.C k30 w A l.length l) (hp : X.Tells Try.prog g lb w encVar l p) :
    Calls Try.prog 32 #[.slice A l.length n, .func (.func g) #[] lb] w fun e w' => e = .returned (.int .i64 (X.idxOf p l 0)) ∧ Below w.heap.size w w' := by
  have HP := Aside0.mk hp.2
  have eg := hp.1
  have HR := Aside0.mk hr
  clear hp hr
  go_enter Try.func32, Try.ntmps32
  go_wp2_with fail
  go_loopw [8] (fun c wr => ∃ k : Nat, k ≤ l.length ∧ c = .int .i64 k ∧ Below w.heap.size w wr ∧ Aside0 (X.idxOf p l 0 = X.idxOf p (l.drop k) k)) (fun c _ => (l.length - intOf c).toNat)
  case atStart => exact ⟨0, by omega, by simp, Below.refl _ _, ⟨rfl⟩⟩
  case round =>
    obtain ⟨k, hk, rfl, hb, HI⟩ := hrel
    have HB := Aside0.mk hb
    clear hb
    by_cases hlt : k < l.length
    · obtain ⟨ad, rfl, h0, h1, h2, h3, h4⟩ := at_T30 (Kd.C_below HR.out HB.out) (k : Int) (by omega) (by omega)
      rw [rdv_at l k hlt] at h0 h1 h2 h3 h4
      simp only [Int.toNat_natCast] at h0 h1 h2 h3 h4
      have HI1 := Aside0.mk (HI.out.trans (X.idxOf_drop p l k hlt))
      clear HI
      cases hpk : p l[k] with
      | true =>
        have HK := Aside0.mk hpk
        clear hpk
        go_wp2_with fail
        refine (HP.out l[k] _ HB.out (List.getElem_mem hlt)).mono ?_
        rintro e w1 ⟨rfl, hb1⟩
        have HB1 := Aside0.mk (below_step HB.out hb1)
        rw [HK.out]
        clear hb1
        go_wp2_with fail
        go_ret
        exact ⟨by rw [HI1.out, if_pos HK.out]; rfl, HB1.out⟩
      | false =>
        have HK := Aside0.mk hpk
        clear hpk
        go_wp2_with fail
        refine (HP.out l[k] _ HB.out (List.getElem_mem hlt)).mono ?_
        rintro e w1 ⟨rfl, hb1⟩
        have HB1 := Aside0.mk (below_step HB.out hb1)
        rw [HK.out]
        clear hb1 HB
        go_wp2_with fail
        go_roundw
        case rel => exact ⟨k + 1, by omega, by go_num, HB1.out, ⟨by rw [HI1.out, if_neg (by rw [HK.out]; decide)]⟩⟩
        case measure => simp [intOf]; omega
    · have HI1 := Aside0.mk (HI.out.trans (X.idxOf_end p l k hlt))
      clear HI
      go_wp2_with fail
      go_ret
      exact ⟨by rw [HI1.out]; rfl, HB.out⟩
theorem enters_Find1 : Enters Try.prog 33 := enters_of Try.func33 (by kernel_rfl) rfl
set_option maxHeartbeats 800000 in
theorem find1_tells (B : Nat) (w : World) (nm : ByteArray) (hB : w.heap[B]? = some (.cells #[.string nm] 9 (0, 0))) (l : List S30) :
    X.Tells Try.prog 33 #[.pointer (some ⟨B, 0, none⟩)] w encVar l (fun x => x.f0.toList == nm.toList) := by
  refine ⟨enters_Find1, fun x W hb _ => ?_⟩
  obtain ⟨x0, x1, x2, x3, x4⟩ := x
  have hc : (W.alloc (.cells #[.string x0, .int .i64 x1, .bool x2, .int .i64 x3, .int .i64 x4] 30 (0, 0))).cell? ⟨B, 0, none⟩ = some (.string nm) := (blk_cell (blk_alloc (blk_below hB hb) _) 0).trans rfl
  clear hB hb
  show Calls Try.prog 33 #[.agg #[.string x0, .int .i64 x1, .bool x2, .int .i64 x3, .int .i64 x4], .pointer (some ⟨B, 0, none⟩)] W _
  go_enter Try.func33, Try.ntmps33
  go_wp2_with fail
  go_ret
  exact ⟨rfl, X.below_new1 _ _⟩
def schema_Find.f (l0 : List (S30)) (a1 : ByteArray) : Option (ByteArray × Int × Bool × Int × Int × Bool) := if l0.length ≤ 1000000 then some ((findV l0 a1).1.f0, (findV l0 a1).1.f1, (findV l0 a1).1.f2, (findV l0 a1).1.f3, (findV l0 a1).1.f4, (findV l0 a1).2) else none
set_option maxHeartbeats 8000000 in
set_option maxRecDepth 100000 in
theorem schema_Find.calls (A0 : Option Addr) (c0 : Nat) (l0 : List (S30)) (a1 : ByteArray) (r1 : ByteArray) (r2 : Int) (r3 : Bool) (r4 : Int) (r5 : Int) (r6 : Bool) (w : World) (hr0 : Kd.C k30 w A0 l0.length l0) (hc0 : l0.length ≤ c0) (h : schema_Find.f l0 a1 = some (r1, r2, r3, r4, r5, r6)) :
    Calls Try.prog 19 #[.slice A0 l0.length c0, .string a1] w fun e w' => e = .returned (.tuple #[.agg #[.string r1, .int .i64 r2, .bool r3, .int .i64 r4, .int .i64 r5], .bool r6]) ∧ Below w.heap.size w w' := by
  simp only [schema_Find.f] at h
  split at h
  · rename_i hl
    have hR := Option.some.inj h
    clear h
    simp only [Prod.mk.injEq] at hR
    obtain ⟨rfl, rfl, rfl, rfl, rfl, rfl⟩ := hR
    have HR := Aside0.mk hr0
    have HI := Aside0.mk (findV_idx a1 l0 0)
    clear hr0
    rcases HI.out with ⟨e1, e2⟩ | ⟨j, hj, e1, e2⟩
    · have HE := Aside0.mk (show X.idxOf (fun x : S30 => x.f0.toList == a1.toList) l0 0 = -1 from e1)
      have HV := Aside0.mk e2
      clear HI e1 e2
      go_enter Try.func19, Try.ntmps19
      go_wp2_with fail
      refine (indexFunc_var 33 #[.pointer (some ⟨w.heap.size, 0, none⟩)] (fun x => x.f0.toList == a1.toList) l0 A0 c0 _ hl (Kd.C_below HR.out (X.below_new2 _ _ _)) (find1_tells w.heap.size _ a1 (blk_alloc (blk_new w _) _) l0)).mono ?_
      rintro e w1 ⟨rfl, hb⟩
      have HB := Aside0.mk (below_step (X.below_new2 w _ _) hb)
      have HX := blk_below (X.blk_new2 w _ _) hb
      obtain ⟨c1, c2, c3, c4, c5⟩ := cells5 HX
      obtain ⟨f0, f1, f2, f3, f4⟩ := frozen5 HX
      rw [HE.out]
      clear hb
      go_wp2_with fail
      obtain ⟨r0, r1, r2, r3, r4⟩ := cells5 (blk_put (blk_put (blk_put (blk_put (blk_put HX 0 (.string ⟨#[]⟩) rfl) 1 (.int .i64 0) rfl) 2 (.bool false) rfl) 3 (.int .i64 0) rfl) 4 (.int .i64 0) rfl)
      refine bodyPost_ret (v := .tuple #[.agg #[.string ⟨#[]⟩, .int .i64 0, .bool false, .int .i64 0, .int .i64 0], .bool false]) (by simp [results, Try.results19, go_sem, r0, r1, r2, r3, r4]) rfl ⟨by first | (rw [HV.out]; done) | (rw [HV.out]; rfl), ?_⟩
      repeat (first | exact HB.out | refine below_set ?_ (Nat.le_succ _))
    · have HE := Aside0.mk (show X.idxOf (fun x : S30 => x.f0.toList == a1.toList) l0 0 = (j : Int) from e1.trans (by simp))
      have HV := Aside0.mk e2
      clear HI e1 e2
      go_enter Try.func19, Try.ntmps19
      go_wp2_with fail
      refine (indexFunc_var 33 #[.pointer (some ⟨w.heap.size, 0, none⟩)] (fun x => x.f0.toList == a1.toList) l0 A0 c0 _ hl (Kd.C_below HR.out (X.below_new2 _ _ _)) (find1_tells w.heap.size _ a1 (blk_alloc (blk_new w _) _) l0)).mono ?_
      rintro e w1 ⟨rfl, hb⟩
      have HB := Aside0.mk (below_step (X.below_new2 w _ _) hb)
      have HX := blk_below (X.blk_new2 w _ _) hb
      obtain ⟨c1, c2, c3, c4, c5⟩ := cells5 HX
      obtain ⟨f0, f1, f2, f3, f4⟩ := frozen5 HX
      rw [HE.out]
      clear hb
      obtain ⟨ad, rfl, h0, h1, h2, h3, h4⟩ := at_T30 (Kd.C_below HR.out HB.out) (j : Int) (by omega) (by omega)
      rw [rdv_at l0 j hj] at h0 h1 h2 h3 h4
      simp only [Int.toNat_natCast] at h0 h1 h2 h3 h4
      go_wp2_with fail
      obtain ⟨r0, r1, r2, r3, r4⟩ := cells5 (blk_put (blk_put (blk_put (blk_put (blk_put HX 0 (.string l0[j].f0) rfl) 1 (.int .i64 l0[j].f1) rfl) 2 (.bool l0[j].f2) rfl) 3 (.int .i64 l0[j].f3) rfl) 4 (.int .i64 l0[j].f4) rfl)
      refine bodyPost_ret (v := .tuple #[.agg #[.string l0[j].f0, .int .i64 l0[j].f1, .bool l0[j].f2, .int .i64 l0[j].f3, .int .i64 l0[j].f4], .bool true]) (by simp [results, Try.results19, go_sem, r0, r1, r2, r3, r4]) rfl ⟨by first | (rw [HV.out]; done) | (rw [HV.out]; rfl), ?_⟩
      repeat (first | exact HB.out | refine below_set ?_ (Nat.le_succ _))
  · cases h
/-! ### schema_May: function 17 (ours) -/
/-- Is a variable of a schema one, but for those ahead of it? -/
def varOk (x : S30) : Bool := Y.nameMay x.f0 && (decide (1 ≤ x.f1) && decide (x.f1 ≤ 3)) && (decide (1 ≤ x.f3) && decide (x.f3 ≤ 4)) && (decide (0 ≤ x.f4) && decide (x.f4 ≤ 8))
def mayFrom (seen : List ByteArray) : List S30 → Bool
  | [] => true
  | x :: l => if (seen.any fun y => y.toList == x.f0.toList) = true then false else if varOk x = true then mayFrom (x.f0 :: seen) l else false
def seenAt (l : List S30) (k : Nat) : List ByteArray := ((l.take k).map fun x => x.f0).reverse
theorem seenAt_succ (l : List S30) (k : Nat) (h : k < l.length) : seenAt l (k + 1) = l[k].f0 :: seenAt l k := by
  unfold seenAt; rw [List.take_succ_eq_append_getElem h, List.map_append, List.reverse_append]; rfl
theorem seenAt_len (l : List S30) (k : Nat) (h : k ≤ l.length) : (seenAt l k).length = k := by unfold seenAt; simp; omega
theorem mayFrom_drop (l : List S30) (k : Nat) (h : k < l.length) : mayFrom (seenAt l k) (l.drop k) = if ((seenAt l k).any fun y => y.toList == l[k].f0.toList) = true then false else if varOk l[k] = true then mayFrom (seenAt l (k + 1)) (l.drop (k + 1)) else false := by
  rw [List.drop_eq_getElem_cons h, mayFrom, seenAt_succ l k h]
theorem mayFrom_end (l : List S30) (k : Nat) (h : ¬ k < l.length) : mayFrom (seenAt l k) (l.drop k) = true := by
  rw [List.drop_eq_nil_of_le (by omega)]; rfl
def smallV (l : List S30) : Prop := l.length ≤ 100000 ∧ ∀ x ∈ l, x.f0.size ≤ 1000000
instance (l : List S30) : Decidable (smallV l) := by unfold smallV; infer_instance
def schema_May.f (l0 : List (S30)) : Option (Bool) := if smallV l0 then some (mayFrom [] l0 && decide (l0.length ≤ 8)) else none
set_option maxHeartbeats 8000000 in
set_option maxRecDepth 100000 in
theorem schema_May.calls (A0 : Option Addr) (c0 : Nat) (l0 : List (S30)) (r : Bool) (w : World) (hr0 : Kd.C k30 w A0 l0.length l0) (hc0 : l0.length ≤ c0) (h : schema_May.f l0 = some r) :
    Calls Try.prog 17 #[.slice A0 l0.length c0] w fun e w' => e = .returned (.bool r) ∧ Below w.heap.size w w' := by
  simp only [schema_May.f] at h
  split at h
  · rename_i hsm
    obtain ⟨hl, hx⟩ := hsm
    obtain rfl := Option.some.inj h
    clear h
    have HR := Aside0.mk hr0
    have HX := Aside0.mk hx
    clear hr0 hx
    have hmm := @run_makeMap Try.prog
    go_enter Try.func17, Try.ntmps17
    go_wp2_with fail
    clear hmm
    go_loopw [9] (fun c wr => ∃ k : Nat, k ≤ l0.length ∧ c = .int .i64 k ∧ Below w.heap.size w wr ∧ X.SeenMap wr w.heap.size (seenAt l0 k) ∧ Aside0 (mayFrom [] l0 = mayFrom (seenAt l0 k) (l0.drop k))) (fun c _ => (l0.length - intOf c).toNat)
    case atStart => exact ⟨0, by omega, by simp, X.below_new1 _ _, X.seen_made w, ⟨rfl⟩⟩
    case round =>
      obtain ⟨k, hk, rfl, hb, hs, HI⟩ := hrel
      have HB := Aside0.mk hb
      have HS := Aside0.mk hs
      clear hb hs
      by_cases hlt : k < l0.length
      · obtain ⟨ad, rfl, h0, h1, h2, h3, h4⟩ := at_T30 (Kd.C_below HR.out HB.out) (k : Int) (by omega) (by omega)
        rw [rdv_at l0 k hlt] at h0 h1 h2 h3 h4
        simp only [Int.toNat_natCast] at h0 h1 h2 h3 h4
        have HI1 := Aside0.mk (HI.out.trans (mayFrom_drop l0 k hlt))
        have hsz := HX.out _ (List.getElem_mem hlt)
        clear HI
        have hlook := X.seen_look (HS.out.alloc (.cells #[.string l0[k].f0, .int .i64 l0[k].f1, .bool l0[k].f2, .int .i64 l0[k].f3, .int .i64 l0[k].f4] 30 (0, 0))) l0[k].f0 (by unfold maxLen; omega)
        cases hseen : (seenAt l0 k).any fun y => y.toList == l0[k].f0.toList with
        | true =>
          rw [hseen] at hlook
          have HN := Aside0.mk (show mayFrom [] l0 = false by rw [HI1.out, if_pos hseen])
          clear HI1 hseen
          go_wp2_with fail
          go_ret
          exact ⟨by rw [HN.out]; rfl, below_alloc HB.out _⟩
        | false =>
          rw [hseen] at hlook
          have HI2 := Aside0.mk (HI1.out.trans (if_neg (by rw [hseen]; decide)))
          clear HI1 hseen
          go_wp2_with fail
          refine (X.vnameMay_any l0[k].f0 _ (by omega)).mono ?_
          rintro e w1 ⟨rfl, hb1⟩
          have HB1 := Aside0.mk (below_step (below_alloc HB.out _) hb1)
          have HS1 := Aside0.mk ((HS.out.alloc _).below hb1)
          have hx := blk_below (blk_new wr _) hb1
          obtain ⟨c1, c2, c3, c4, c5⟩ := cells5 hx
          have HLT := Aside0.mk (blk_lt hx)
          clear hlook HB HS hb1 hx h0 h1 h2 h3 h4
          cases hnm : Y.nameMay l0[k].f0 with
          | false =>
            have HN := Aside0.mk (show mayFrom [] l0 = false by rw [HI2.out, if_neg (by unfold varOk; rw [hnm]; simp)])
            clear HI2 hnm
            go_wp2_with fail
            go_ret
            exact ⟨by rw [HN.out]; rfl, HB1.out⟩
          | true =>
            by_cases hk1 : 1 ≤ l0[k].f1 ∧ l0[k].f1 ≤ 3
            · by_cases hk3 : 1 ≤ l0[k].f3 ∧ l0[k].f3 ≤ 4
              · by_cases hk4 : 0 ≤ l0[k].f4 ∧ l0[k].f4 ≤ 8
                · have HN := Aside0.mk (show mayFrom [] l0 = mayFrom (seenAt l0 (k + 1)) (l0.drop (k + 1)) by rw [HI2.out, if_pos (by unfold varOk; simp [hnm, hk1, hk3, hk4])])
                  clear HI2 hnm
                  go_wp2_with fail
                  refine (X.within_yes _ _ _ _ hk1.1 hk1.2).mono ?_
                  rintro e w2 ⟨rfl, rfl⟩
                  go_wp2_with fail
                  refine (X.within_yes _ _ _ _ hk3.1 hk3.2).mono ?_
                  rintro e w2 ⟨rfl, rfl⟩
                  go_wp2_with fail
                  refine (X.within_yes _ _ _ _ hk4.1 hk4.2).mono ?_
                  rintro e w2 ⟨rfl, rfl⟩
                  obtain ⟨w2, hput, hs2, hg⟩ := X.seen_put HS1.out l0[k].f0 (by unfold maxLen; omega) (by rw [seenAt_len l0 k hk]; unfold maxLen; omega)
                  rw [← seenAt_succ l0 k hlt] at hs2
                  have HB2 := Aside0.mk (show Below w.heap.size w w2 from pw_below_grown HB1.out _ HB1.out.size hg (fun j hj => by injection hj with hj; omega))
                  have HS2 := Aside0.mk hs2
                  clear hs2 hg
                  go_wp2_with fail
                  go_roundw
                  case rel => exact ⟨k + 1, by omega, by go_num, HB2.out, HS2.out, HN⟩
                  case measure => simp [intOf]; omega
                · have HN := Aside0.mk (show mayFrom [] l0 = false by rw [HI2.out, if_neg (by unfold varOk; simp [hnm]; omega)])
                  clear HI2 hnm
                  go_wp2_with fail
                  refine (X.within_yes _ _ _ _ hk1.1 hk1.2).mono ?_
                  rintro e w2 ⟨rfl, rfl⟩
                  go_wp2_with fail
                  refine (X.within_yes _ _ _ _ hk3.1 hk3.2).mono ?_
                  rintro e w2 ⟨rfl, rfl⟩
                  go_wp2_with fail
                  refine (X.within_no _ _ _ _ hk4).mono ?_
                  rintro e w2 ⟨rfl, rfl⟩
                  go_wp2_with fail
                  go_ret
                  exact ⟨by rw [HN.out]; rfl, HB1.out⟩
              · have HN := Aside0.mk (show mayFrom [] l0 = false by rw [HI2.out, if_neg (by unfold varOk; simp [hnm]; omega)])
                clear HI2 hnm
                go_wp2_with fail
                refine (X.within_yes _ _ _ _ hk1.1 hk1.2).mono ?_
                rintro e w2 ⟨rfl, rfl⟩
                go_wp2_with fail
                refine (X.within_no _ _ _ _ hk3).mono ?_
                rintro e w2 ⟨rfl, rfl⟩
                go_wp2_with fail
                go_ret
                exact ⟨by rw [HN.out]; rfl, HB1.out⟩
            · have HN := Aside0.mk (show mayFrom [] l0 = false by rw [HI2.out, if_neg (by unfold varOk; simp [hnm]; omega)])
              clear HI2 hnm
              go_wp2_with fail
              refine (X.within_no _ _ _ _ hk1).mono ?_
              rintro e w2 ⟨rfl, rfl⟩
              go_wp2_with fail
              go_ret
              exact ⟨by rw [HN.out]; rfl, HB1.out⟩
      · have HN := Aside0.mk (show mayFrom [] l0 = true by rw [HI.out, mayFrom_end l0 k hlt])
        have e8 : decide ((l0.length : Int) ≤ 8) = decide (l0.length ≤ 8) := decide_eq_decide.2 (by omega)
        have HE := Aside0.mk e8
        clear HI e8
        go_wp2_with fail
        go_ret
        exact ⟨by rw [HN.out, Bool.true_and, ← HE.out]; rfl, HB.out⟩
  · cases h
/-! ### oper_Of: function 20 (ours) -/
def oper_Of.f (a0 : Int) : Option (ByteArray × ByteArray × Bool × ByteArray × Bool × Bool) := if 0 ≤ a0 ∧ a0 ≤ 255 then some (X.ruleFirst a0, X.ruleSep a0, X.ruleNamed a0, X.ruleEmpty a0, X.ruleKeep a0, X.isOper a0) else none
set_option maxHeartbeats 8000000 in
set_option maxRecDepth 100000 in
theorem oper_Of.calls (a0 : Int) (r1 : ByteArray) (r2 : ByteArray) (r3 : Bool) (r4 : ByteArray) (r5 : Bool) (r6 : Bool) (w : World) (h : oper_Of.f a0 = some (r1, r2, r3, r4, r5, r6)) :
    Calls Try.prog 20 #[.int .u8 a0] w fun e w' => e = .returned (.tuple #[.agg #[.string r1, .string r2, .bool r3, .string r4, .bool r5], .bool r6]) ∧ Below w.heap.size w w' := by
  simp only [oper_Of.f] at h
  split at h
  · rename_i hb
    have hR := Option.some.inj h
    simp only [Prod.mk.injEq] at hR
    obtain ⟨rfl, rfl, rfl, rfl, rfl, rfl⟩ := hR
    exact X.operOf_any a0 w hb.1 hb.2
  · cases h
/-! ### tmpl_piece: function 57 (ours) -/
def tmpl_piece.f (a0 : ByteArray) : Option (Int) := if a0.size ≤ 1000000 then some (X.pieceN a0) else none
set_option maxHeartbeats 8000000 in
set_option maxRecDepth 100000 in
theorem tmpl_piece.calls (a0 : ByteArray) (r : Int) (w : World) (h : tmpl_piece.f a0 = some r) :
    Calls Try.prog 57 #[.string a0] w fun e w' => e = .returned (.int .i64 r) ∧ Below w.heap.size w w' := by
  simp only [tmpl_piece.f] at h
  split at h
  · rename_i hs
    obtain rfl := Option.some.inj h
    exact X.piece_any a0 w hs
  · cases h
/-! ### tmpl_pieces: function 45 -/
def tmpl_pieces.l0 : Nat → ByteArray → Int → Int → Option (Int)
  | 0, _, _, _ => none
  | k + 1, x0, x3, x4 => if x4 > 0 then (if 0 ≤ (wrap64 (x3 + x4)) then (if (wrap64 (x3 + x4)) ≤ (x0.size : Int) then ((tmpl_piece.f (x0.extract ((wrap64 (x3 + x4)) : Int).toNat x0.size)).bind fun t102 => (tmpl_pieces.l0 k x0 (wrap64 (x3 + x4)) t102)) else (none)) else (none)) else (some x3)
def tmpl_pieces.f (k : Nat) (a0 : ByteArray) : Option (Int) := (tmpl_piece.f a0).bind fun t101 => (tmpl_pieces.l0 k a0 0 t101)
theorem tmpl_pieces.mono_l : ∀ k, (∀ y0 y1 y2, LeO (tmpl_pieces.l0 k y0 y1 y2) (tmpl_pieces.l0 (k + 1) y0 y1 y2))
  | 0 => fun _ _ _ r h => by simp [tmpl_pieces.l0] at h
  | k + 1 => by
    have ih0 := tmpl_pieces.mono_l k
    · intro y0 y1 y2
      unfold tmpl_pieces.l0
      repeat' first
      | (with_reducible exact ih0 _ _ _)
      | (with_reducible exact LeO.refl _)
      | (with_reducible exact LeO.none _)
      | (with_reducible refine LeO.ite ?_ ?_)
      | (with_reducible refine LeO.bind ?_ (fun _ => ?_))
      | exact ih0 _ _ _
      | exact LeO.none _
      | refine LeO.ite ?_ ?_
      | refine LeO.bind ?_ (fun _ => ?_)
theorem tmpl_pieces.mono : ∀ a0 k, LeO (tmpl_pieces.f k a0) (tmpl_pieces.f (k + 1) a0) := by
  intro a0 k
  have ih0 := tmpl_pieces.mono_l k
  unfold tmpl_pieces.f
  repeat' first
      | (with_reducible exact ih0 _ _ _)
      | (with_reducible exact LeO.refl _)
      | (with_reducible exact LeO.none _)
      | (with_reducible refine LeO.ite ?_ ?_)
      | (with_reducible refine LeO.bind ?_ (fun _ => ?_))
      | exact ih0 _ _ _
      | exact LeO.none _
      | refine LeO.ite ?_ ?_
      | refine LeO.bind ?_ (fun _ => ?_)
set_option maxHeartbeats 8000000 in
set_option maxRecDepth 100000 in
theorem tmpl_pieces.calls (k : Nat) (a0 : ByteArray) (r : Int) (w : World) (h : tmpl_pieces.f k a0 = some r) :
    Calls Try.prog 45 #[.string a0] w fun e w' => e = .returned (.int .i64 r) ∧ Below w.heap.size w w' := by
  have HB := Aside0.mk (Below.refl w.heap.size w)
  have H : ((tmpl_piece.f a0).bind fun t101 => (tmpl_pieces.l0 k a0 0 t101)) = some r := h
  clear h
  replace H := Option.bind_eq_some_iff.mp H
  obtain ⟨t101, A20, H⟩ := H
  replace H : (tmpl_pieces.l0 k a0 0 t101) = some r := H
  have A2 := Aside0.mk A20
  clear A20
  have H' := Aside0.mk H
  clear H
  go_enter Try.func45, Try.ntmps45
  go_wp2_with (first | ((with_reducible refine gate_callee (f := 57) rfl ?_); refine goesL_ (some 6) rfl rfl Try.func57 (by kernel_rfl) rfl #[.string a0] rfl (by (try simp only [List.map_toArray, List.map_cons, List.map_nil]); first | done | rfl | (simp only [List.length_drop, List.length_take]; rfl)) ?_; (with_reducible refine (tmpl_piece.calls a0 t101 _ A2.out).mono ?_); rintro e w3 ⟨rfl, hb⟩; refine ⟨_, rfl, ?_⟩; have n0_ := Aside0.mk (below_step (by repeat (first | (with_reducible first | exact HB.out | apply below_alloc | apply pw_below_drewN | apply below_drew1) | exact HB.out)) hb); clear HB; have HB := n0_; clear n0_; (try clear hb); (try clear hb2); (try clear hk); (try clear hi)))
  go_loopg [3, 4] k (fun kq v3 v4 w' => ∃ (x3_1 : Int) (x4_1 : Int), v3 = .int .i64 x3_1 ∧ v4 = .int .i64 x4_1 ∧ Aside0 (tmpl_pieces.l0 kq a0 x3_1 x4_1 = some r) ∧ Aside0 (kq ≤ k) ∧ Aside0 (Below w.heap.size w w'))
  case atStart => exact ⟨(0), (t101), (by first | rfl | (simp; done) | (simp [*]; done)), (by first | rfl | (simp; done) | (simp [*]; done)), H', ⟨Nat.le_refl _⟩, ⟨by repeat (first | (with_reducible first | exact HB.out | apply below_alloc | apply pw_below_drewN | apply below_drew1) | exact HB.out)⟩⟩
  case round =>
    clear H'
    try clear p2
    obtain ⟨x3_1, x4_1, rfl, rfl, HA, HK1, HB⟩ := hrel
    cases gk with
    | zero => exact absurd HA.out (by simp [tmpl_pieces.l0])
    | succ k1 =>
      have H := HA.out
      clear HA
      simp only [tmpl_pieces.l0] at H
      by_cases c4 : x4_1 > 0
      · rw [if_pos c4] at H
        have c4b0 : decide (0 < x4_1) = true := decide_eq_true c4
        clear c4
        obtain ⟨ji5, hji5⟩ : ∃ j_ : Int, (wrap64 (x3_1 + x4_1)) = j_ := ⟨_, rfl⟩
        replace H : (if 0 ≤ (ji5) then (if (ji5) ≤ (a0.size : Int) then ((tmpl_piece.f (a0.extract ((ji5) : Int).toNat a0.size)).bind fun t102 => (tmpl_pieces.l0 k1 a0 ji5 t102)) else (none)) else (none)) = some r := by first | (rw [hji5] at H; exact H) | (simp only [hji5] at H ⊢; exact H)
        have hji5w : (IntKind.i64.wrap (x3_1 + x4_1)) = ji5 := (i64_w _).trans hji5
        by_cases c6 : 0 ≤ (ji5)
        · rw [if_pos c6] at H
          have c6b0 := eq_true c6
          have c6b1 : decide (0 ≤ (ji5)) = true := decide_eq_true c6
          clear c6
          by_cases c7 : (ji5) ≤ (a0.size : Int)
          · rw [if_pos c7] at H
            have c7b0 := eq_true c7
            have c7b1 : decide ((ji5) ≤ (a0.size : Int)) = true := decide_eq_true c7
            clear c7
            replace H := Option.bind_eq_some_iff.mp H
            obtain ⟨t102, A80, H⟩ := H
            replace H : (tmpl_pieces.l0 k1 a0 ji5 t102) = some r := H
            have A8 := Aside0.mk A80
            clear A80
            have H' := Aside0.mk H
            clear H
            go_wp2_with (first | ((with_reducible refine gate_callee (f := 57) rfl ?_); refine goesL_ (some 12) rfl rfl Try.func57 (by kernel_rfl) rfl #[.string (a0.extract ((ji5) : Int).toNat a0.size)] rfl (by (try simp only [List.map_toArray, List.map_cons, List.map_nil]); first | done | (simp only [hji5]; rfl) | rfl | (simp only [List.length_drop, List.length_take]; rfl)) ?_; (with_reducible refine (tmpl_piece.calls (a0.extract ((ji5) : Int).toNat a0.size) t102 _ A8.out).mono ?_); rintro e w9 ⟨rfl, hb⟩; refine ⟨_, rfl, ?_⟩; have n0_ := Aside0.mk (below_step (by repeat (first | (with_reducible first | exact HB.out | apply below_alloc | apply pw_below_drewN | apply below_drew1) | exact HB.out)) hb); clear HB; have HB := n0_; clear n0_; (try clear hb); (try clear hb2); (try clear hk); (try clear hi)))
            go_roundg k1
            case measure => have := HK1.out; omega
            case rel => exact ⟨(ji5), (t102), (by first | rfl | (simp; done) | (simp only [← hji5] <;> (first | rfl | simp)) | (simp [*]; done)), (by first | rfl | (simp; done) | (simp [*]; done)), H', ⟨by have := HK1.out; omega⟩, ⟨by repeat (first | (with_reducible first | exact HB.out | apply below_alloc | apply pw_below_drewN | apply below_drew1) | exact HB.out)⟩⟩
          · rw [if_neg c7] at H
            exact absurd H (by simp)
        · rw [if_neg c6] at H
          exact absurd H (by simp)
      · rw [if_neg c4] at H
        have c4b0 : decide (0 < x4_1) = false := decide_eq_false c4
        clear c4
        obtain rfl := Option.some.inj H
        go_wp2
        go_ret
        exact ⟨by first | rfl | (simp [errW_none, errW_some] <;> rfl) | (simp [*, errW_none, errW_some] <;> rfl), by repeat (first | (with_reducible first | exact HB.out | apply below_alloc | apply pw_below_drewN | apply below_drew1) | exact HB.out)⟩

/-! ### vname_May: function 30 (ours) -/
def vname_May.f (a0 : ByteArray) : Option (Bool) := if a0.size ≤ 1000000 then some (Y.nameMay a0) else none
set_option maxHeartbeats 8000000 in
set_option maxRecDepth 100000 in
theorem vname_May.calls (a0 : ByteArray) (r : Bool) (w : World) (h : vname_May.f a0 = some r) :
    Calls Try.prog 30 #[.string a0] w fun e w' => e = .returned (.bool r) ∧ Below w.heap.size w w' := by
  simp only [vname_May.f] at h
  split at h
  · rename_i hs
    obtain rfl := Option.some.inj h
    exact X.vnameMay_any a0 w (by omega)
  · cases h
/-! ### spec_May: function 47 -/
def spec_May.f (a0_0 : ByteArray) (a0_1 : Int) (a0_2 : Bool) : Option (Bool) := (vname_May.f a0_0).bind fun t104 => (if t104 = true then (if a0_1 ≥ 0 then (if a0_1 ≤ 9999 then (if a0_2 = true then (some (!(decide (a0_1 > 0)))) else (some (!false))) else (some false)) else (some false)) else (some false))
set_option maxHeartbeats 8000000 in
set_option maxRecDepth 100000 in
theorem spec_May.calls (a0_0 : ByteArray) (a0_1 : Int) (a0_2 : Bool) (r : Bool) (w : World) (h : spec_May.f a0_0 a0_1 a0_2 = some r) :
    Calls Try.prog 47 #[.agg #[.string a0_0, .int .i64 a0_1, .bool a0_2]] w fun e w' => e = .returned (.bool r) ∧ Below w.heap.size w w' := by
  have hu37 := Try.underlying37
  have HB := Aside0.mk (Below.refl w.heap.size w)
  have H : ((vname_May.f a0_0).bind fun t104 => (if t104 = true then (if a0_1 ≥ 0 then (if a0_1 ≤ 9999 then (if a0_2 = true then (some (!(decide (a0_1 > 0)))) else (some (!false))) else (some false)) else (some false)) else (some false))) = some r := h
  clear h
  replace H := Option.bind_eq_some_iff.mp H
  obtain ⟨t104, A20, H⟩ := H
  replace H : (if t104 = true then (if a0_1 ≥ 0 then (if a0_1 ≤ 9999 then (if a0_2 = true then (some (!(decide (a0_1 > 0)))) else (some (!false))) else (some false)) else (some false)) else (some false)) = some r := H
  have A2 := Aside0.mk A20
  clear A20
  by_cases c3 : t104 = true
  · subst c3
    have H1 : (if a0_1 ≥ 0 then (if a0_1 ≤ 9999 then (if a0_2 = true then (some (!(decide (a0_1 > 0)))) else (some (!false))) else (some false)) else (some false)) = some r := by rw [if_pos rfl] at H; exact H
    clear H
    have H := H1
    clear H1
    by_cases c4 : a0_1 ≥ 0
    · rw [if_pos c4] at H
      have c4b0 : decide (0 ≤ a0_1) = true := decide_eq_true c4
      clear c4
      by_cases c5 : a0_1 ≤ 9999
      · rw [if_pos c5] at H
        have c5b0 : decide (a0_1 ≤ 9999) = true := decide_eq_true c5
        clear c5
        by_cases c6 : a0_2 = true
        · subst c6
          have H1 : (some (!(decide (a0_1 > 0)))) = some r := by rw [if_pos rfl] at H; exact H
          clear H
          have H := H1
          clear H1
          obtain rfl := Option.some.inj H
          go_enter Try.func47, Try.ntmps47
          go_wp2_with (first | ((with_reducible refine gate_dst (N := 1) rfl ?_); refine box_event ?hg (N := 1) ?hd (cs := #[.string a0_0, .int .i64 a0_1, .bool true]) (t := 37) ?hr ?_; (case hd => rfl); (case hg => rfl); (case hr => first | (go_simp; done) | (go_simp; rfl)); intro gb103 hg w7 hbox hb; have n0_ := Aside0.mk (below_step (by repeat (first | (with_reducible first | exact HB.out | apply below_alloc | apply pw_below_drewN | apply below_drew1) | exact HB.out)) hb); have n1_ := Aside0.mk (hbox); have n2_ := Aside0.mk ((by rw [hg]; exact (below_size (by repeat (first | (with_reducible first | exact HB.out | apply below_alloc | apply pw_below_drewN | apply below_drew1) | exact HB.out))) : w.heap.size ≤ gb103)); have n3_ := Aside0.mk ((by rw [hg]; exact (below_size (by repeat (first | (with_reducible first | exact HB.out | apply below_alloc | apply pw_below_drewN | apply below_drew1) | exact HB.out))) : w.heap.size ≤ gb103)); clear HB; have HB := n0_; have BK103 := n1_; have GW103 := n2_; have GE103 := n3_; clear n0_ n1_ n2_ n3_; clear hb hbox hg; have hcz8_0 : w7.cell? ⟨gb103, 0, none⟩ = some (.string a0_0) := (blk_cell BK103.out 0).trans rfl; have hcz8_1 : w7.cell? ⟨gb103, 1, none⟩ = some (.int .i64 a0_1) := (blk_cell BK103.out 1).trans rfl; have hcz8_2 : w7.cell? ⟨gb103, 2, none⟩ = some (.bool true) := (blk_cell BK103.out 2).trans rfl; have hfz8_0 := blk_frozen BK103.out 0; have hfz8_1 := blk_frozen BK103.out 1; have hfz8_2 := blk_frozen BK103.out 2) | ((with_reducible refine gate_callee (f := 30) rfl ?_); refine goesL_ (some 5) rfl rfl Try.func30 (by kernel_rfl) rfl #[.string a0_0] rfl (by (try simp only [List.map_toArray, List.map_cons, List.map_nil]); first | done | rfl | (simp only [List.length_drop, List.length_take]; rfl)) ?_; (with_reducible refine (vname_May.calls a0_0 true _ A2.out).mono ?_); rintro e w9 ⟨rfl, hb⟩; refine ⟨_, rfl, ?_⟩; have n0_ := Aside0.mk (blk_below (g := gb103) (o := .cells #[.string a0_0, .int .i64 a0_1, .bool true] 37 (0, 0)) (by (with_reducible repeat (first | refine blk_drewN ?_ _ | refine blk_drew ?_ | refine blk_alloc ?_ _)); exact BK103.out) hb); have n1_ := Aside0.mk (below_step (by repeat (first | (with_reducible first | exact HB.out | apply below_alloc | apply pw_below_drewN | apply below_drew1 | refine below_set ?_ GE103.out) | exact HB.out)) hb); clear BK103; clear HB; have BK103 := n0_; have HB := n1_; clear n0_ n1_; (try clear hb); (try clear hb2); (try clear hk); (try clear hi); have hcz10_0 : w9.cell? ⟨gb103, 0, none⟩ = some (.string a0_0) := (blk_cell BK103.out 0).trans rfl; have hcz10_1 : w9.cell? ⟨gb103, 1, none⟩ = some (.int .i64 a0_1) := (blk_cell BK103.out 1).trans rfl; have hcz10_2 : w9.cell? ⟨gb103, 2, none⟩ = some (.bool true) := (blk_cell BK103.out 2).trans rfl; have hfz10_0 := blk_frozen BK103.out 0; have hfz10_1 := blk_frozen BK103.out 1; have hfz10_2 := blk_frozen BK103.out 2))
          go_ret
          exact ⟨by first | rfl | (simp [errW_none, errW_some] <;> rfl) | (simp [*, errW_none, errW_some] <;> rfl), by repeat (first | (with_reducible first | exact HB.out | apply below_alloc | apply pw_below_drewN | apply below_drew1 | refine below_set ?_ GE103.out) | exact HB.out)⟩
        · replace c6 := Bool.eq_false_iff.mpr c6
          subst c6
          have H1 : (some (!false)) = some r := by rw [if_neg (show ¬ (false = true) by decide)] at H; exact H
          clear H
          have H := H1
          clear H1
          obtain rfl := Option.some.inj H
          go_enter Try.func47, Try.ntmps47
          go_wp2_with (first | ((with_reducible refine gate_dst (N := 1) rfl ?_); refine box_event ?hg (N := 1) ?hd (cs := #[.string a0_0, .int .i64 a0_1, .bool false]) (t := 37) ?hr ?_; (case hd => rfl); (case hg => rfl); (case hr => first | (go_simp; done) | (go_simp; rfl)); intro gb103 hg w11 hbox hb; have n0_ := Aside0.mk (below_step (by repeat (first | (with_reducible first | exact HB.out | apply below_alloc | apply pw_below_drewN | apply below_drew1) | exact HB.out)) hb); have n1_ := Aside0.mk (hbox); have n2_ := Aside0.mk ((by rw [hg]; exact (below_size (by repeat (first | (with_reducible first | exact HB.out | apply below_alloc | apply pw_below_drewN | apply below_drew1) | exact HB.out))) : w.heap.size ≤ gb103)); have n3_ := Aside0.mk ((by rw [hg]; exact (below_size (by repeat (first | (with_reducible first | exact HB.out | apply below_alloc | apply pw_below_drewN | apply below_drew1) | exact HB.out))) : w.heap.size ≤ gb103)); clear HB; have HB := n0_; have BK103 := n1_; have GW103 := n2_; have GE103 := n3_; clear n0_ n1_ n2_ n3_; clear hb hbox hg; have hcz12_0 : w11.cell? ⟨gb103, 0, none⟩ = some (.string a0_0) := (blk_cell BK103.out 0).trans rfl; have hcz12_1 : w11.cell? ⟨gb103, 1, none⟩ = some (.int .i64 a0_1) := (blk_cell BK103.out 1).trans rfl; have hcz12_2 : w11.cell? ⟨gb103, 2, none⟩ = some (.bool false) := (blk_cell BK103.out 2).trans rfl; have hfz12_0 := blk_frozen BK103.out 0; have hfz12_1 := blk_frozen BK103.out 1; have hfz12_2 := blk_frozen BK103.out 2) | ((with_reducible refine gate_callee (f := 30) rfl ?_); refine goesL_ (some 5) rfl rfl Try.func30 (by kernel_rfl) rfl #[.string a0_0] rfl (by (try simp only [List.map_toArray, List.map_cons, List.map_nil]); first | done | rfl | (simp only [List.length_drop, List.length_take]; rfl)) ?_; (with_reducible refine (vname_May.calls a0_0 true _ A2.out).mono ?_); rintro e w13 ⟨rfl, hb⟩; refine ⟨_, rfl, ?_⟩; have n0_ := Aside0.mk (blk_below (g := gb103) (o := .cells #[.string a0_0, .int .i64 a0_1, .bool false] 37 (0, 0)) (by (with_reducible repeat (first | refine blk_drewN ?_ _ | refine blk_drew ?_ | refine blk_alloc ?_ _)); exact BK103.out) hb); have n1_ := Aside0.mk (below_step (by repeat (first | (with_reducible first | exact HB.out | apply below_alloc | apply pw_below_drewN | apply below_drew1 | refine below_set ?_ GE103.out) | exact HB.out)) hb); clear BK103; clear HB; have BK103 := n0_; have HB := n1_; clear n0_ n1_; (try clear hb); (try clear hb2); (try clear hk); (try clear hi); have hcz14_0 : w13.cell? ⟨gb103, 0, none⟩ = some (.string a0_0) := (blk_cell BK103.out 0).trans rfl; have hcz14_1 : w13.cell? ⟨gb103, 1, none⟩ = some (.int .i64 a0_1) := (blk_cell BK103.out 1).trans rfl; have hcz14_2 : w13.cell? ⟨gb103, 2, none⟩ = some (.bool false) := (blk_cell BK103.out 2).trans rfl; have hfz14_0 := blk_frozen BK103.out 0; have hfz14_1 := blk_frozen BK103.out 1; have hfz14_2 := blk_frozen BK103.out 2))
          go_ret
          exact ⟨by first | rfl | (simp [errW_none, errW_some] <;> rfl) | (simp [*, errW_none, errW_some] <;> rfl), by repeat (first | (with_reducible first | exact HB.out | apply below_alloc | apply pw_below_drewN | apply below_drew1 | refine below_set ?_ GE103.out) | exact HB.out)⟩
      · rw [if_neg c5] at H
        have c5b0 : decide (a0_1 ≤ 9999) = false := decide_eq_false c5
        clear c5
        obtain rfl := Option.some.inj H
        go_enter Try.func47, Try.ntmps47
        go_wp2_with (first | ((with_reducible refine gate_dst (N := 1) rfl ?_); refine box_event ?hg (N := 1) ?hd (cs := #[.string a0_0, .int .i64 a0_1, .bool a0_2]) (t := 37) ?hr ?_; (case hd => rfl); (case hg => rfl); (case hr => first | (go_simp; done) | (go_simp; rfl)); intro gb103 hg w15 hbox hb; have n0_ := Aside0.mk (below_step (by repeat (first | (with_reducible first | exact HB.out | apply below_alloc | apply pw_below_drewN | apply below_drew1) | exact HB.out)) hb); have n1_ := Aside0.mk (hbox); have n2_ := Aside0.mk ((by rw [hg]; exact (below_size (by repeat (first | (with_reducible first | exact HB.out | apply below_alloc | apply pw_below_drewN | apply below_drew1) | exact HB.out))) : w.heap.size ≤ gb103)); have n3_ := Aside0.mk ((by rw [hg]; exact (below_size (by repeat (first | (with_reducible first | exact HB.out | apply below_alloc | apply pw_below_drewN | apply below_drew1) | exact HB.out))) : w.heap.size ≤ gb103)); clear HB; have HB := n0_; have BK103 := n1_; have GW103 := n2_; have GE103 := n3_; clear n0_ n1_ n2_ n3_; clear hb hbox hg; have hcz16_0 : w15.cell? ⟨gb103, 0, none⟩ = some (.string a0_0) := (blk_cell BK103.out 0).trans rfl; have hcz16_1 : w15.cell? ⟨gb103, 1, none⟩ = some (.int .i64 a0_1) := (blk_cell BK103.out 1).trans rfl; have hcz16_2 : w15.cell? ⟨gb103, 2, none⟩ = some (.bool a0_2) := (blk_cell BK103.out 2).trans rfl; have hfz16_0 := blk_frozen BK103.out 0; have hfz16_1 := blk_frozen BK103.out 1; have hfz16_2 := blk_frozen BK103.out 2) | ((with_reducible refine gate_callee (f := 30) rfl ?_); refine goesL_ (some 5) rfl rfl Try.func30 (by kernel_rfl) rfl #[.string a0_0] rfl (by (try simp only [List.map_toArray, List.map_cons, List.map_nil]); first | done | rfl | (simp only [List.length_drop, List.length_take]; rfl)) ?_; (with_reducible refine (vname_May.calls a0_0 true _ A2.out).mono ?_); rintro e w17 ⟨rfl, hb⟩; refine ⟨_, rfl, ?_⟩; have n0_ := Aside0.mk (blk_below (g := gb103) (o := .cells #[.string a0_0, .int .i64 a0_1, .bool a0_2] 37 (0, 0)) (by (with_reducible repeat (first | refine blk_drewN ?_ _ | refine blk_drew ?_ | refine blk_alloc ?_ _)); exact BK103.out) hb); have n1_ := Aside0.mk (below_step (by repeat (first | (with_reducible first | exact HB.out | apply below_alloc | apply pw_below_drewN | apply below_drew1 | refine below_set ?_ GE103.out) | exact HB.out)) hb); clear BK103; clear HB; have BK103 := n0_; have HB := n1_; clear n0_ n1_; (try clear hb); (try clear hb2); (try clear hk); (try clear hi); have hcz18_0 : w17.cell? ⟨gb103, 0, none⟩ = some (.string a0_0) := (blk_cell BK103.out 0).trans rfl; have hcz18_1 : w17.cell? ⟨gb103, 1, none⟩ = some (.int .i64 a0_1) := (blk_cell BK103.out 1).trans rfl; have hcz18_2 : w17.cell? ⟨gb103, 2, none⟩ = some (.bool a0_2) := (blk_cell BK103.out 2).trans rfl; have hfz18_0 := blk_frozen BK103.out 0; have hfz18_1 := blk_frozen BK103.out 1; have hfz18_2 := blk_frozen BK103.out 2))
        go_ret
        exact ⟨by first | rfl | (simp [errW_none, errW_some] <;> rfl) | (simp [*, errW_none, errW_some] <;> rfl), by repeat (first | (with_reducible first | exact HB.out | apply below_alloc | apply pw_below_drewN | apply below_drew1 | refine below_set ?_ GE103.out) | exact HB.out)⟩
    · rw [if_neg c4] at H
      have c4b0 : decide (0 ≤ a0_1) = false := decide_eq_false c4
      clear c4
      obtain rfl := Option.some.inj H
      go_enter Try.func47, Try.ntmps47
      go_wp2_with (first | ((with_reducible refine gate_dst (N := 1) rfl ?_); refine box_event ?hg (N := 1) ?hd (cs := #[.string a0_0, .int .i64 a0_1, .bool a0_2]) (t := 37) ?hr ?_; (case hd => rfl); (case hg => rfl); (case hr => first | (go_simp; done) | (go_simp; rfl)); intro gb103 hg w19 hbox hb; have n0_ := Aside0.mk (below_step (by repeat (first | (with_reducible first | exact HB.out | apply below_alloc | apply pw_below_drewN | apply below_drew1) | exact HB.out)) hb); have n1_ := Aside0.mk (hbox); have n2_ := Aside0.mk ((by rw [hg]; exact (below_size (by repeat (first | (with_reducible first | exact HB.out | apply below_alloc | apply pw_below_drewN | apply below_drew1) | exact HB.out))) : w.heap.size ≤ gb103)); have n3_ := Aside0.mk ((by rw [hg]; exact (below_size (by repeat (first | (with_reducible first | exact HB.out | apply below_alloc | apply pw_below_drewN | apply below_drew1) | exact HB.out))) : w.heap.size ≤ gb103)); clear HB; have HB := n0_; have BK103 := n1_; have GW103 := n2_; have GE103 := n3_; clear n0_ n1_ n2_ n3_; clear hb hbox hg; have hcz20_0 : w19.cell? ⟨gb103, 0, none⟩ = some (.string a0_0) := (blk_cell BK103.out 0).trans rfl; have hcz20_1 : w19.cell? ⟨gb103, 1, none⟩ = some (.int .i64 a0_1) := (blk_cell BK103.out 1).trans rfl; have hcz20_2 : w19.cell? ⟨gb103, 2, none⟩ = some (.bool a0_2) := (blk_cell BK103.out 2).trans rfl; have hfz20_0 := blk_frozen BK103.out 0; have hfz20_1 := blk_frozen BK103.out 1; have hfz20_2 := blk_frozen BK103.out 2) | ((with_reducible refine gate_callee (f := 30) rfl ?_); refine goesL_ (some 5) rfl rfl Try.func30 (by kernel_rfl) rfl #[.string a0_0] rfl (by (try simp only [List.map_toArray, List.map_cons, List.map_nil]); first | done | rfl | (simp only [List.length_drop, List.length_take]; rfl)) ?_; (with_reducible refine (vname_May.calls a0_0 true _ A2.out).mono ?_); rintro e w21 ⟨rfl, hb⟩; refine ⟨_, rfl, ?_⟩; have n0_ := Aside0.mk (blk_below (g := gb103) (o := .cells #[.string a0_0, .int .i64 a0_1, .bool a0_2] 37 (0, 0)) (by (with_reducible repeat (first | refine blk_drewN ?_ _ | refine blk_drew ?_ | refine blk_alloc ?_ _)); exact BK103.out) hb); have n1_ := Aside0.mk (below_step (by repeat (first | (with_reducible first | exact HB.out | apply below_alloc | apply pw_below_drewN | apply below_drew1 | refine below_set ?_ GE103.out) | exact HB.out)) hb); clear BK103; clear HB; have BK103 := n0_; have HB := n1_; clear n0_ n1_; (try clear hb); (try clear hb2); (try clear hk); (try clear hi); have hcz22_0 : w21.cell? ⟨gb103, 0, none⟩ = some (.string a0_0) := (blk_cell BK103.out 0).trans rfl; have hcz22_1 : w21.cell? ⟨gb103, 1, none⟩ = some (.int .i64 a0_1) := (blk_cell BK103.out 1).trans rfl; have hcz22_2 : w21.cell? ⟨gb103, 2, none⟩ = some (.bool a0_2) := (blk_cell BK103.out 2).trans rfl; have hfz22_0 := blk_frozen BK103.out 0; have hfz22_1 := blk_frozen BK103.out 1; have hfz22_2 := blk_frozen BK103.out 2))
      go_ret
      exact ⟨by first | rfl | (simp [errW_none, errW_some] <;> rfl) | (simp [*, errW_none, errW_some] <;> rfl), by repeat (first | (with_reducible first | exact HB.out | apply below_alloc | apply pw_below_drewN | apply below_drew1 | refine below_set ?_ GE103.out) | exact HB.out)⟩
  · replace c3 := Bool.eq_false_iff.mpr c3
    subst c3
    have H1 : (some false) = some r := by rw [if_neg (show ¬ (false = true) by decide)] at H; exact H
    clear H
    have H := H1
    clear H1
    obtain rfl := Option.some.inj H
    go_enter Try.func47, Try.ntmps47
    go_wp2_with (first | ((with_reducible refine gate_dst (N := 1) rfl ?_); refine box_event ?hg (N := 1) ?hd (cs := #[.string a0_0, .int .i64 a0_1, .bool a0_2]) (t := 37) ?hr ?_; (case hd => rfl); (case hg => rfl); (case hr => first | (go_simp; done) | (go_simp; rfl)); intro gb103 hg w23 hbox hb; have n0_ := Aside0.mk (below_step (by repeat (first | (with_reducible first | exact HB.out | apply below_alloc | apply pw_below_drewN | apply below_drew1) | exact HB.out)) hb); have n1_ := Aside0.mk (hbox); have n2_ := Aside0.mk ((by rw [hg]; exact (below_size (by repeat (first | (with_reducible first | exact HB.out | apply below_alloc | apply pw_below_drewN | apply below_drew1) | exact HB.out))) : w.heap.size ≤ gb103)); have n3_ := Aside0.mk ((by rw [hg]; exact (below_size (by repeat (first | (with_reducible first | exact HB.out | apply below_alloc | apply pw_below_drewN | apply below_drew1) | exact HB.out))) : w.heap.size ≤ gb103)); clear HB; have HB := n0_; have BK103 := n1_; have GW103 := n2_; have GE103 := n3_; clear n0_ n1_ n2_ n3_; clear hb hbox hg; have hcz24_0 : w23.cell? ⟨gb103, 0, none⟩ = some (.string a0_0) := (blk_cell BK103.out 0).trans rfl; have hcz24_1 : w23.cell? ⟨gb103, 1, none⟩ = some (.int .i64 a0_1) := (blk_cell BK103.out 1).trans rfl; have hcz24_2 : w23.cell? ⟨gb103, 2, none⟩ = some (.bool a0_2) := (blk_cell BK103.out 2).trans rfl; have hfz24_0 := blk_frozen BK103.out 0; have hfz24_1 := blk_frozen BK103.out 1; have hfz24_2 := blk_frozen BK103.out 2) | ((with_reducible refine gate_callee (f := 30) rfl ?_); refine goesL_ (some 5) rfl rfl Try.func30 (by kernel_rfl) rfl #[.string a0_0] rfl (by (try simp only [List.map_toArray, List.map_cons, List.map_nil]); first | done | rfl | (simp only [List.length_drop, List.length_take]; rfl)) ?_; (with_reducible refine (vname_May.calls a0_0 false _ A2.out).mono ?_); rintro e w25 ⟨rfl, hb⟩; refine ⟨_, rfl, ?_⟩; have n0_ := Aside0.mk (blk_below (g := gb103) (o := .cells #[.string a0_0, .int .i64 a0_1, .bool a0_2] 37 (0, 0)) (by (with_reducible repeat (first | refine blk_drewN ?_ _ | refine blk_drew ?_ | refine blk_alloc ?_ _)); exact BK103.out) hb); have n1_ := Aside0.mk (below_step (by repeat (first | (with_reducible first | exact HB.out | apply below_alloc | apply pw_below_drewN | apply below_drew1 | refine below_set ?_ GE103.out) | exact HB.out)) hb); clear BK103; clear HB; have BK103 := n0_; have HB := n1_; clear n0_ n1_; (try clear hb); (try clear hb2); (try clear hk); (try clear hi)))
    go_ret
    exact ⟨by first | rfl | (simp [errW_none, errW_some] <;> rfl) | (simp [*, errW_none, errW_some] <;> rfl), by repeat (first | (with_reducible first | exact HB.out | apply below_alloc | apply pw_below_drewN | apply below_drew1 | refine below_set ?_ GE103.out) | exact HB.out)⟩

/-! ### tmpl_Operator: function 35 (ours) -/
def tmpl_Operator.f (a0 : Int) : Option (Bool) := if 0 ≤ a0 ∧ a0 ≤ 255 then some (X.isOper a0) else none
set_option maxHeartbeats 8000000 in
set_option maxRecDepth 100000 in
theorem tmpl_Operator.calls (a0 : Int) (r : Bool) (w : World) (h : tmpl_Operator.f a0 = some r) :
    Calls Try.prog 35 #[.int .u8 a0] w fun e w' => e = .returned (.bool r) ∧ Below w.heap.size w w' := by
  simp only [tmpl_Operator.f] at h
  split at h
  · rename_i hb
    obtain rfl := Option.some.inj h
    exact (X.operator_any a0 w hb.1 hb.2).mono fun e w' he => ⟨he.1, he.2 ▸ Below.refl _ _⟩
  · cases h
/-! ### tmpl_fine: function 29 (ours) -/
def encSpec (x : S37) : Value := .agg #[.string x.f0, .int .i64 x.f1, .bool x.f2]
theorem rds_at (xs : List S37) (k : Nat) (h : k < xs.length) : rd_T37 xs (k : Int) = xs[k] := by
  unfold rd_T37; rw [Int.toNat_natCast, List.getD_eq_getElem?_getD, List.getElem?_eq_getElem h]; rfl
set_option maxHeartbeats 800000 in
theorem indexFunc_spec (g : FuncId) (lb : Array Value) (p : S37 → Bool) (l : List S37) (A : Option Addr) (n : Nat) (w : World) (hl : l.length ≤ 1000000) (hr : Kd.C k37 w A l.length l) (hp : X.Tells Try.prog g lb w encSpec l p) :
    Calls Try.prog 51 #[.slice A l.length n, .func (.func g) #[] lb] w fun e w' => e = .returned (.int .i64 (X.idxOf p l 0)) ∧ Below w.heap.size w w' := by
  have HP := Aside0.mk hp.2
  have eg := hp.1
  have HR := Aside0.mk hr
  clear hp hr
  go_enter Try.func51, Try.ntmps51
  go_wp2_with fail
  go_loopw [8] (fun c wr => ∃ k : Nat, k ≤ l.length ∧ c = .int .i64 k ∧ Below w.heap.size w wr ∧ Aside0 (X.idxOf p l 0 = X.idxOf p (l.drop k) k)) (fun c _ => (l.length - intOf c).toNat)
  case atStart => exact ⟨0, by omega, by simp, Below.refl _ _, ⟨rfl⟩⟩
  case round =>
    obtain ⟨k, hk, rfl, hb, HI⟩ := hrel
    have HB := Aside0.mk hb
    clear hb
    by_cases hlt : k < l.length
    · obtain ⟨ad, rfl, h0, h1, h2⟩ := at_T37 (Kd.C_below HR.out HB.out) (k : Int) (by omega) (by omega)
      rw [rds_at l k hlt] at h0 h1 h2
      simp only [Int.toNat_natCast] at h0 h1 h2
      have HI1 := Aside0.mk (HI.out.trans (X.idxOf_drop p l k hlt))
      clear HI
      cases hpk : p l[k] with
      | true =>
        have HK := Aside0.mk hpk
        clear hpk
        go_wp2_with fail
        refine (HP.out l[k] _ HB.out (List.getElem_mem hlt)).mono ?_
        rintro e w1 ⟨rfl, hb1⟩
        have HB1 := Aside0.mk (below_step HB.out hb1)
        rw [HK.out]
        clear hb1
        go_wp2_with fail
        go_ret
        exact ⟨by rw [HI1.out, if_pos HK.out]; rfl, HB1.out⟩
      | false =>
        have HK := Aside0.mk hpk
        clear hpk
        go_wp2_with fail
        refine (HP.out l[k] _ HB.out (List.getElem_mem hlt)).mono ?_
        rintro e w1 ⟨rfl, hb1⟩
        have HB1 := Aside0.mk (below_step HB.out hb1)
        rw [HK.out]
        clear hb1 HB
        go_wp2_with fail
        go_roundw
        case rel => exact ⟨k + 1, by omega, by go_num, HB1.out, ⟨by rw [HI1.out, if_neg (by rw [HK.out]; decide)]⟩⟩
        case measure => simp [intOf]; omega
    · have HI1 := Aside0.mk (HI.out.trans (X.idxOf_end p l k hlt))
      clear HI
      go_wp2_with fail
      go_ret
      exact ⟨by rw [HI1.out]; rfl, HB.out⟩
theorem containsFunc_spec (g : FuncId) (lb : Array Value) (p : S37 → Bool) (l : List S37) (A : Option Addr) (n : Nat) (w : World) (hl : l.length ≤ 1000000) (hr : Kd.C k37 w A l.length l) (hp : X.Tells Try.prog g lb w encSpec l p) :
    Calls Try.prog 38 #[.slice A l.length n, .func (.func g) #[] lb] w fun e w' => e = .returned (.bool (l.any p)) ∧ Below w.heap.size w w' := by
  have HC := Aside0.mk (indexFunc_spec g lb p l A n w hl hr hp)
  have HA := Aside0.mk (X.idxOf_any p l 0 (Int.le_refl 0))
  clear hr hp
  go_enter Try.func38, Try.ntmps38
  go_wp2_with fail
  refine HC.out.mono ?_
  rintro e w1 ⟨rfl, hb⟩
  have HB := Aside0.mk hb
  clear hb
  go_wp2_with fail
  go_ret
  exact ⟨by rw [← HA.out]; rfl, HB.out⟩
/-- May a variable stand in an expression so? -/
def specOk (x : S37) : Bool := Y.nameMay x.f0 && decide (0 ≤ x.f1) && decide (x.f1 ≤ 9999) && !(x.f2 && decide (0 < x.f1))
theorem spec_f (x : S37) (h : x.f0.size ≤ 1000000) : spec_May.f x.f0 x.f1 x.f2 = some (specOk x) := by
  unfold spec_May.f specOk vname_May.f
  rw [if_pos h]
  cases Y.nameMay x.f0 <;> by_cases h0 : 0 ≤ x.f1 <;> by_cases h1 : x.f1 ≤ 9999 <;> cases x.f2 <;> by_cases h2 : 0 < x.f1 <;> simp [h0, h1, h2] <;> omega
theorem enters_fine1 : Enters Try.prog 46 := enters_of Try.func46 (by kernel_rfl) rfl
set_option maxHeartbeats 800000 in
theorem fine1_tells (w : World) (l : List S37) (hl : ∀ x ∈ l, x.f0.size ≤ 1000000) :
    X.Tells Try.prog 46 #[] w encSpec l (fun x => !specOk x) := by
  refine ⟨enters_fine1, fun x W hb hx => ?_⟩
  have HF := Aside0.mk (spec_f x (hl x hx))
  have HN := Aside0.mk (show (fun x => !specOk x) x = !specOk x from rfl)
  generalize hso : specOk x = so at *
  clear hso hx hl hb
  obtain ⟨x0, x1, x2⟩ := x
  show Calls Try.prog 46 #[.agg #[.string x0, .int .i64 x1, .bool x2]] W _
  go_enter Try.func46, Try.ntmps46
  go_wp2_with fail
  refine (spec_May.calls x0 x1 x2 so _ HF.out).mono ?_
  rintro e w1 ⟨rfl, hb⟩
  have HB := Aside0.mk (below_step (w := W) (X.below_new1 W _) hb)
  clear hb
  go_wp2_with fail
  go_ret
  exact ⟨by rw [HN.out]; rfl, HB.out⟩
theorem list_empty {s : ByteArray} (h : s.size = 0) : s.toList = [] := by rw [ByteArray.toList_eq]; exact List.eq_nil_of_length_eq_zero (by simpa using h)
theorem list_full {s : ByteArray} (h : 0 < s.size) : (s.toList == ([] : List UInt8)) = false ∧ (s.toList != ([] : List UInt8)) = true ∧ s.toList.isEmpty = false := by
  have hl : 0 < s.toList.length := by rw [ByteArray.toList_eq]; simpa using h
  cases e : s.toList with
  | nil => rw [e] at hl; simp at hl
  | cons a l => exact ⟨rfl, rfl, rfl⟩
def fineB (lit : ByteArray) (op : Int) (l : List S37) (pn : Int) : Bool :=
  if l.length = 0 then (op == 0 && decide (0 < lit.size)) && (pn == (lit.size : Int)) else (lit.size == 0 && X.isOper op) && !(l.any fun x => !specOk x)
def fineSmall (lit : ByteArray) (op : Int) (l : List S37) : Prop := (lit.size ≤ 1000000 ∧ 0 ≤ op ∧ op ≤ 255) ∧ (l.length ≤ 100000 ∧ ∀ x ∈ l, x.f0.size ≤ 1000000)
instance (lit : ByteArray) (op : Int) (l : List S37) : Decidable (fineSmall lit op l) := by unfold fineSmall; infer_instance
def tmpl_fine.f (a0_0 : ByteArray) (a0_1 : Int) (l0_2 : List (S37)) : Option (Bool) := if fineSmall a0_0 a0_1 l0_2 then (tmpl_pieces.f Y.bigK a0_0).map (fineB a0_0 a0_1 l0_2) else none
set_option maxHeartbeats 8000000 in
set_option maxRecDepth 100000 in
theorem tmpl_fine.calls (a0_0 : ByteArray) (a0_1 : Int) (A0_2 : Option Addr) (c0_2 : Nat) (l0_2 : List (S37)) (r : Bool) (w : World) (hr0_2 : Kd.C k37 w A0_2 l0_2.length l0_2) (hc0_2 : l0_2.length ≤ c0_2) (h : tmpl_fine.f a0_0 a0_1 l0_2 = some r) :
    Calls Try.prog 29 #[.agg #[.string a0_0, .int .u8 a0_1, .slice A0_2 l0_2.length c0_2]] w fun e w' => e = .returned (.bool r) ∧ Below w.heap.size w w' := by
  simp only [tmpl_fine.f] at h
  split at h
  · rename_i hsm
    obtain ⟨pn, hpn, hr⟩ := Option.map_eq_some_iff.1 h
    obtain ⟨⟨hls, ho0, ho1⟩, hll, hnames⟩ := hsm
    have HPN := Aside0.mk hpn
    have HR := Aside0.mk hr0_2
    have HNM := Aside0.mk hnames
    have HOP := Aside0.mk (fun W => X.operator_any a0_1 W ho0 ho1)
    clear h hpn hr0_2 hnames
    by_cases hz : l0_2.length = 0
    · have hz' : l0_2 = [] := List.eq_nil_of_length_eq_zero hz
      have HV := Aside0.mk (show r = ((a0_1 == 0 && decide (0 < a0_0.size)) && (pn == (a0_0.size : Int))) by rw [← hr]; exact if_pos hz)
      clear hr
      subst hz'
      cases ho : a0_1 == 0 with
      | false =>
        have HV2 := Aside0.mk (show r = false by rw [HV.out, ho]; rfl)
        go_enter Try.func29, Try.ntmps29
        go_wp2_with fail
        go_quiet (fail)
        all_goals go_wp2
        all_goals go_ret
        all_goals exact ⟨by rw [HV2.out]; rfl, by repeat (with_reducible first | exact X.below_new1 _ _ | apply Below.drew | apply pw_below_drewN)⟩
      | true =>
        obtain rfl : a0_1 = 0 := beq_iff_eq.1 ho
        by_cases hlz : 0 < a0_0.size
        · obtain ⟨f1, f2, f3⟩ := list_full hlz
          have HV2 := Aside0.mk (show r = (pn == (a0_0.size : Int)) by rw [HV.out, decide_eq_true hlz]; rfl)
          clear ho hlz
          go_enter Try.func29, Try.ntmps29
          go_wp2_with fail
          have B1 := blk_new w (.cells #[.string a0_0, .int .u8 0, .slice A0_2 0 c0_2] 42 (0, 0))
          have HB1 : Aside0 (Below w.heap.size w (w.alloc (.cells #[.string a0_0, .int .u8 0, .slice A0_2 0 c0_2] 42 (0, 0)))) := ⟨X.below_new1 w _⟩
          generalize w.alloc (.cells #[.string a0_0, .int .u8 0, .slice A0_2 0 c0_2] 42 (0, 0)) = W1 at *
          have c0 : W1.cell? ⟨w.heap.size, 0, none⟩ = some (.string a0_0) := (blk_cell B1 0).trans rfl
          have c1 : W1.cell? ⟨w.heap.size, 1, none⟩ = some (.int .u8 0) := (blk_cell B1 1).trans rfl
          have c2 : W1.cell? ⟨w.heap.size, 2, none⟩ = some (.slice A0_2 0 c0_2) := (blk_cell B1 2).trans rfl
          clear B1
          go_region_held3 (fun w' => Aside0 (Below w.heap.size w w') ∧ w'.cell? ⟨w.heap.size, 0, none⟩ = some (.string a0_0) ∧ w'.cell? ⟨w.heap.size, 1, none⟩ = some (.int .u8 0) ∧ w'.cell? ⟨w.heap.size, 2, none⟩ = some (.slice A0_2 0 c0_2)) (((try dsimp only); (try go_split_ands); (repeat' apply And.intro) <;> first | assumption | exact X.cell_keep hb (by assumption) | exact ⟨below_step (Aside0.out (by assumption)) hb⟩ | exact ⟨below_step (Below.drew (Aside0.out (by assumption))) hb⟩ | exact ⟨Below.drew (Aside0.out (by assumption))⟩)) (first | (go_at_call 45; refine (tmpl_pieces.calls Y.bigK a0_0 pn _ HPN.out).mono ?_; rintro e w' ⟨rfl, hb⟩))
          all_goals go_wp2
          all_goals go_ret
          all_goals exact ⟨by rw [HV2.out]; rfl, Aside0.out (And.left (by assumption))⟩
        · have hz0 : a0_0.size = 0 := by omega
          have f1 := list_empty hz0
          have HV2 := Aside0.mk (show r = false by rw [HV.out, decide_eq_false hlz]; rfl)
          clear ho hlz
          go_enter Try.func29, Try.ntmps29
          go_wp2_with fail
          go_quiet (fail)
          all_goals go_wp2
          all_goals go_ret
          all_goals exact ⟨by rw [HV2.out]; rfl, by repeat (with_reducible first | exact X.below_new1 _ _ | apply Below.drew | apply pw_below_drewN)⟩
    · have hzb : decide ((l0_2.length : Int) = 0) = false := decide_eq_false (by omega)
      have hzb2 : ((l0_2.length : Int) == 0) = false := beq_eq_false_iff_ne.2 (by omega)
      have HV := Aside0.mk (show r = ((a0_0.size == 0 && X.isOper a0_1) && !(l0_2.any fun x => !specOk x)) by rw [← hr]; exact if_neg hz)
      clear hr
      by_cases hlz : 0 < a0_0.size
      · obtain ⟨f1, f2, f3⟩ := list_full hlz
        have HV2 := Aside0.mk (show r = false by rw [HV.out, show (a0_0.size == 0) = false from beq_eq_false_iff_ne.2 (by omega)]; rfl)
        go_enter Try.func29, Try.ntmps29
        go_wp2_with fail
        go_ret
        exact ⟨by rw [HV2.out]; rfl, X.below_new1 w _⟩
      · have hz0 : a0_0.size = 0 := by omega
        have f1 := list_empty hz0
        cases ho : X.isOper a0_1 with
        | false =>
          have HV2 := Aside0.mk (show r = false by rw [HV.out, ho, Bool.and_false, Bool.false_and])
          have HO := Aside0.mk ho
          clear ho hlz
          go_enter Try.func29, Try.ntmps29
          go_wp2_with fail
          refine (HOP.out _).mono ?_
          rintro e w1 ⟨rfl, rfl⟩
          rw [HO.out]
          go_wp2_with fail
          go_ret
          exact ⟨by rw [HV2.out]; rfl, X.below_new1 w _⟩
        | true =>
          have HV2 := Aside0.mk (show r = !(l0_2.any fun x => !specOk x) by rw [HV.out, ho, hz0]; rfl)
          have HO := Aside0.mk ho
          clear ho hlz
          go_enter Try.func29, Try.ntmps29
          go_wp2_with fail
          refine (HOP.out _).mono ?_
          rintro e w1 ⟨rfl, rfl⟩
          rw [HO.out]
          go_wp2_with fail
          refine (containsFunc_spec _ _ (fun x => !specOk x) l0_2 A0_2 c0_2 _ (by omega) (Kd.C_below HR.out (X.below_new1 w _)) (fine1_tells _ l0_2 HNM.out)).mono ?_
          rintro e w2 ⟨rfl, hb⟩
          have HB2 := Aside0.mk (below_step (w := w) (X.below_new1 w _) hb)
          clear hb
          go_wp2_with fail
          go_ret
          exact ⟨by rw [HV2.out]; rfl, HB2.out⟩
  · cases h
end Go.Proofs.Ytjhihohofhhknaa.PF
