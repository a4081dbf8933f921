-- Printed by wip/xprint.py of this claim's authors, over the kit's print; not trusted: Lean checks it.
import Derived.Test.YtjhihohofhhknaaPFx0
import Derived.Test.YtjhihohofhhknaaPFx1
namespace Go.Proofs.Ytjhihohofhhknaa.PF
open Go.RowKit Go.Proofs.YtjhihohofhhknaaW.PrintWords Go.Proofs.YtjhihohofhhknaaW.PrintLast Go.Proofs.YtjhihohofhhknaaW.PrintMore
attribute [local go_sem] max2_int min2_int max_two min_two max_three min_three max_four min_four   -- for this text's walks alone
set_option linter.unusedVariables false
set_option linter.unusedSimpArgs false

/-! ### fit_some: function 21 (ours) -/
theorem enters_some11 : Enters Try.prog 39 := enters_of Try.func39 (by kernel_rfl) rfl
theorem enters_some1 : Enters Try.prog 37 := enters_of Try.func37 (by kernel_rfl) rfl
theorem enters_Fit1 : Enters Try.prog 18 := enters_of Try.func18 (by kernel_rfl) rfl
/-- What a function value of an operator and a variable must do. -/
def Asks (g : FuncId) (lb : Array Value) (w : World) (t : List S42) (p : Int → S37 → Bool) : Prop :=
  (∀ args w, (callFunc g args).run Try.prog w = .ok (.enter g args) w) ∧ ∀ q ∈ t, ∀ x ∈ q.f2, ∀ W, Below w.heap.size w W → Calls Try.prog g (#[.int .u8 q.f1, encSpec x] ++ lb) W fun e w' => e = .returned (.bool (p q.f1 x)) ∧ Below W.heap.size W w'
set_option maxHeartbeats 800000 in
theorem some11_tells (g : FuncId) (lb : Array Value) (p : Int → S37 → Bool) (t : List S42) (w0 w : World) (hp : Asks g lb w0 t p) (hb0 : Below w0.heap.size w0 w) (q : S42) (hq : q ∈ t) (Bi Bp : Nat) (v2 : Value)
    (hi : w.heap[Bi]? = some (.cells #[.func (.func g) #[] lb] 49 (0, 0))) (hpp : w.heap[Bp]? = some (.cells #[.string q.f0, .int .u8 q.f1, v2] 42 (0, 0))) :
    X.Tells Try.prog 39 #[.pointer (some ⟨Bi, 0, none⟩), .pointer (some ⟨Bp, 0, none⟩)] w encSpec q.f2 (p q.f1) := by
  refine ⟨enters_some11, fun x W hb hx => ?_⟩
  have eg := hp.1
  have HA := Aside0.mk (fun W' h => hp.2 q hq x hx W' h)
  have hbx := below_step hb0 hb
  have HBX := Aside0.mk hbx
  have ci := (blk_cell (blk_alloc (blk_below hi hb) (.cells #[.string x.f0, .int .i64 x.f1, .bool x.f2] 37 (0, 0))) 0).trans rfl
  have cp := (blk_cell (blk_alloc (blk_below hpp hb) (.cells #[.string x.f0, .int .i64 x.f1, .bool x.f2] 37 (0, 0))) 1).trans rfl
  have HN := Aside0.mk (show p q.f1 x = (fun y => p q.f1 y) x from rfl)
  unfold encSpec at HA
  clear hb hi hpp hp hbx hb0
  generalize p q.f1 x = pb at *
  show Calls Try.prog 39 #[.agg #[.string x.f0, .int .i64 x.f1, .bool x.f2], .pointer (some ⟨Bi, 0, none⟩), .pointer (some ⟨Bp, 0, none⟩)] W _
  go_enter Try.func39, Try.ntmps39
  go_wp2_with fail
  refine (HA.out _ (below_alloc HBX.out _)).mono ?_
  rintro e w1 ⟨rfl, hb⟩
  have HB := Aside0.mk (below_step (w := W) (X.below_new1 W _) hb)
  clear hb
  go_wp2_with fail
  go_ret
  exact ⟨by rw [HN.out]; rfl, HB.out⟩
def encPart (x : S42) (A : Option Addr) (c : Nat) : Value := .agg #[.string x.f0, .int .u8 x.f1, .slice A x.f2.length c]
theorem rdp_at (xs : List S42) (k : Nat) (h : k < xs.length) : rd_T42 xs (k : Int) = xs[k] := by
  unfold rd_T42; rw [Int.toNat_natCast, List.getD_eq_getElem?_getD, List.getElem?_eq_getElem h]; rfl
/-- What a function value of a part must do. -/
def TellsP (g : FuncId) (lb : Array Value) (w : World) (l : List S42) (p : S42 → Bool) : Prop :=
  (∀ args w, (callFunc g args).run Try.prog w = .ok (.enter g args) w) ∧ ∀ x A c W, Below w.heap.size w W → x ∈ l → x.f2.length ≤ c → Kd.C k37 W A x.f2.length x.f2 → Calls Try.prog g (#[encPart x A c] ++ lb) W fun e w' => e = .returned (.bool (p x)) ∧ Below W.heap.size W w'
set_option maxHeartbeats 800000 in
theorem some1_tells (g : FuncId) (lb : Array Value) (p : Int → S37 → Bool) (t : List S42) (w0 w : World) (hp : Asks g lb w0 t p) (hb0 : Below w0.heap.size w0 w) (hlen : ∀ q ∈ t, q.f2.length ≤ 100000) (Bi : Nat)
    (hi : w.heap[Bi]? = some (.cells #[.func (.func g) #[] lb] 49 (0, 0))) :
    TellsP 37 #[.pointer (some ⟨Bi, 0, none⟩)] w t (fun q => q.f2.any (p q.f1)) := by
  refine ⟨enters_some1, fun q A c W hb hq hc hr => ?_⟩
  have HI := Aside0.mk (blk_alloc (blk_below hi hb) (.cells #[.string q.f0, .int .u8 q.f1, .slice A q.f2.length c] 42 (0, 0)))
  have HB0 := Aside0.mk (below_alloc (below_step hb0 hb) (.cells #[.string q.f0, .int .u8 q.f1, .slice A q.f2.length c] 42 (0, 0)))
  have HP := Aside0.mk hp
  have HR := Aside0.mk hr
  have hl := hlen q hq
  have HT := Aside0.mk (some11_tells g lb p t w0 _ hp HB0.out q hq Bi W.heap.size (.slice A q.f2.length c) HI.out (blk_new W _))
  have HN := Aside0.mk (show q.f2.any (p q.f1) = (fun q : S42 => q.f2.any (p q.f1)) q from rfl)
  clear hb0 hb hi hp hr hlen
  show Calls Try.prog 37 #[.agg #[.string q.f0, .int .u8 q.f1, .slice A q.f2.length c], .pointer (some ⟨Bi, 0, none⟩)] W _
  go_enter Try.func37, Try.ntmps37
  go_wp2_with fail
  refine (containsFunc_spec _ _ (p q.f1) q.f2 A c _ (by omega) (Kd.C_below HR.out (X.below_new1 W _)) HT.out).mono ?_
  rintro e w1 ⟨rfl, hb⟩
  have HB := Aside0.mk (below_step (w := W) (X.below_new1 W _) hb)
  clear hb
  go_wp2_with fail
  go_ret
  exact ⟨rfl, HB.out⟩
set_option maxHeartbeats 800000 in
theorem indexFunc_part (g : FuncId) (lb : Array Value) (p : S42 → Bool) (l : List S42) (A : Option Addr) (n : Nat) (w : World) (hl : l.length ≤ 1000000) (hr : Kd.C k42 w A l.length l) (hp : TellsP g lb w l p) :
    Calls Try.prog 50 #[.slice A l.length n, .func (.func g) #[] lb] w fun e w' => e = .returned (.int .i64 (X.idxOf p l 0)) ∧ Below w.heap.size w w' := by
  have HP := Aside0.mk hp.2
  have eg := hp.1
  have HR := Aside0.mk hr
  clear hp hr
  go_enter Try.func50, Try.ntmps50
  go_wp2_with fail
  go_loopw [8] (fun c wr => ∃ k : Nat, k ≤ l.length ∧ c = .int .i64 k ∧ Below w.heap.size w wr ∧ Aside0 (X.idxOf p l 0 = X.idxOf p (l.drop k) k)) (fun c _ => (l.length - intOf c).toNat)
  case atStart => exact ⟨0, by omega, by simp, Below.refl _ _, ⟨rfl⟩⟩
  case round =>
    obtain ⟨k, hk, rfl, hb, HI⟩ := hrel
    have HB := Aside0.mk hb
    clear hb
    by_cases hlt : k < l.length
    · obtain ⟨ad, A2, c2, rfl, h0, h1, h2, hc2, hr2⟩ := at_T42 (Kd.C_below HR.out HB.out) (k : Int) (by omega) (by omega)
      rw [rdp_at l k hlt] at h0 h1 h2 hc2 hr2
      simp only [Int.toNat_natCast] at h0 h1 h2
      have HC2 := Aside0.mk hc2
      have HR2 := Aside0.mk hr2
      have HI1 := Aside0.mk (HI.out.trans (X.idxOf_drop p l k hlt))
      clear HI hc2 hr2
      cases hpk : p l[k] with
      | true =>
        have HK := Aside0.mk hpk
        clear hpk
        go_wp2_with fail
        refine (HP.out l[k] A2 c2 _ HB.out (List.getElem_mem hlt) HC2.out HR2.out).mono ?_
        rintro e w1 ⟨rfl, hb1⟩
        have HB1 := Aside0.mk (below_step HB.out hb1)
        rw [HK.out]
        clear hb1
        go_wp2_with fail
        go_ret
        exact ⟨by rw [HI1.out, if_pos HK.out]; rfl, HB1.out⟩
      | false =>
        have HK := Aside0.mk hpk
        clear hpk
        go_wp2_with fail
        refine (HP.out l[k] A2 c2 _ HB.out (List.getElem_mem hlt) HC2.out HR2.out).mono ?_
        rintro e w1 ⟨rfl, hb1⟩
        have HB1 := Aside0.mk (below_step HB.out hb1)
        rw [HK.out]
        clear hb1 HB
        go_wp2_with fail
        go_roundw
        case rel => exact ⟨k + 1, by omega, by go_num, HB1.out, ⟨by rw [HI1.out, if_neg (by rw [HK.out]; decide)]⟩⟩
        case measure => simp [intOf]; omega
    · have HI1 := Aside0.mk (HI.out.trans (X.idxOf_end p l k hlt))
      clear HI
      go_wp2_with fail
      go_ret
      exact ⟨by rw [HI1.out]; rfl, HB.out⟩
theorem containsFunc_part (g : FuncId) (lb : Array Value) (p : S42 → Bool) (l : List S42) (A : Option Addr) (n : Nat) (w : World) (hl : l.length ≤ 1000000) (hr : Kd.C k42 w A l.length l) (hp : TellsP g lb w l p) :
    Calls Try.prog 36 #[.slice A l.length n, .func (.func g) #[] lb] w fun e w' => e = .returned (.bool (l.any p)) ∧ Below w.heap.size w w' := by
  have HC := Aside0.mk (indexFunc_part g lb p l A n w hl hr hp)
  have HA := Aside0.mk (X.idxOf_any p l 0 (Int.le_refl 0))
  clear hr hp
  go_enter Try.func36, Try.ntmps36
  go_wp2_with fail
  refine HC.out.mono ?_
  rintro e w1 ⟨rfl, hb⟩
  have HB := Aside0.mk hb
  clear hb
  go_wp2_with fail
  go_ret
  exact ⟨by rw [← HA.out]; rfl, HB.out⟩
set_option maxHeartbeats 800000 in
theorem some_any (g : FuncId) (lb : Array Value) (p : Int → S37 → Bool) (t : List S42) (A : Option Addr) (n : Nat) (w : World) (hl : t.length ≤ 1000000) (hlen : ∀ q ∈ t, q.f2.length ≤ 100000) (hr : Kd.C k42 w A t.length t) (hp : Asks g lb w t p) :
    Calls Try.prog 21 #[.slice A t.length n, .func (.func g) #[] lb] w fun e w' => e = .returned (.bool (t.any fun q => q.f2.any (p q.f1))) ∧ Below w.heap.size w w' := by
  have HR := Aside0.mk hr
  have HT := Aside0.mk (some1_tells g lb p t w _ hp (X.below_new1 w (.cells #[.func (.func g) #[] lb] 49 (0, 0))) hlen w.heap.size (blk_new w _))
  clear hr hp hlen
  go_enter Try.func21, Try.ntmps21
  go_wp2_with fail
  refine (containsFunc_part _ _ (fun q => q.f2.any (p q.f1)) t A n _ hl (Kd.C_below HR.out (X.below_new1 w _)) HT.out).mono ?_
  rintro e w1 ⟨rfl, hb⟩
  have HB := Aside0.mk (below_step (w := w) (X.below_new1 w _) hb)
  clear hb
  go_wp2_with fail
  go_ret
  exact ⟨rfl, HB.out⟩
/-- Does a variable, with an operator, not fit? -/
def badB (s : List S30) (op : Int) (x : S37) : Bool :=
  (!(findV s x.f0).2 || (decide (0 < x.f1) && !((findV s x.f0).1.f1 == 1))) || ((findV s x.f0).1.f3 == 4 && (X.ruleKeep op || (((findV s x.f0).1.f1 == 3 && x.f2) && X.ruleNamed op)))
set_option maxHeartbeats 1600000 in
theorem Fit1_any (s : List S30) (A : Option Addr) (n : Nat) (B : Nat) (op : Int) (x : S37) (w : World) (hop : 0 ≤ op ∧ op ≤ 255) (hl : s.length ≤ 100000) (hn : s.length ≤ n) (hr : Kd.C k30 w A s.length s)
    (hB : w.heap[B]? = some (.cells #[.slice A s.length n] 23 (0, 0))) :
    Calls Try.prog 18 #[.int .u8 op, .agg #[.string x.f0, .int .i64 x.f1, .bool x.f2], .pointer (some ⟨B, 0, none⟩)] w fun e w' => e = .returned (.bool (badB s op x)) ∧ Below w.heap.size w w' := by
  have cb := (blk_cell (blk_alloc hB (.cells #[.string x.f0, .int .i64 x.f1, .bool x.f2] 37 (0, 0))) 0).trans rfl
  have HR := Aside0.mk hr
  obtain ⟨⟨⟨v0, v1, v2, v3, v4⟩, is⟩, hv⟩ : ∃ v, findV s x.f0 = v := ⟨_, rfl⟩
  have HV1 := Aside0.mk (show schema_Find.f s x.f0 = some (v0, v1, v2, v3, v4, is) by unfold schema_Find.f; rw [if_pos (by omega), hv])
  have HO := Aside0.mk (show oper_Of.f op = some (X.ruleFirst op, X.ruleSep op, X.ruleNamed op, X.ruleEmpty op, X.ruleKeep op, X.isOper op) by unfold oper_Of.f; rw [if_pos hop])
  have HX := Aside0.mk (show badB s op x = ((!is || (decide (0 < x.f1) && !(v1 == 1))) || (v3 == 4 && (X.ruleKeep op || ((v1 == 3 && x.f2) && X.ruleNamed op)))) by unfold badB; rw [hv])
  clear hr hB hv
  obtain ⟨x0, x1, x2⟩ := x
  simp only at HV1 HX
  generalize X.ruleFirst op = r0 at *
  generalize X.ruleSep op = r1 at *
  generalize X.ruleNamed op = r2 at *
  generalize X.ruleEmpty op = r3 at *
  generalize X.ruleKeep op = r4 at *
  generalize X.isOper op = r5 at *
  generalize badB s op ⟨x0, x1, x2⟩ = r at *
  go_enter Try.func18, Try.ntmps18
  go_wp2_with fail
  refine (schema_Find.calls A n s x0 v0 v1 v2 v3 v4 is _ (Kd.C_below HR.out (X.below_new1 w _)) hn HV1.out).mono ?_
  rintro e w1 ⟨rfl, hb⟩
  have HX1 := Aside0.mk (blk_below (blk_new w (.cells #[.string x0, .int .i64 x1, .bool x2] 37 (0, 0))) hb)
  have HB := Aside0.mk (below_step (w := w) (X.below_new1 w _) hb)
  clear hb cb
  go_wp2_with fail
  refine (oper_Of.calls op r0 r1 r2 r3 r4 r5 _ HO.out).mono ?_
  rintro e w2 ⟨rfl, hb⟩
  have HX2 := blk_alloc (blk_below (blk_alloc HX1.out (.cells #[.string v0, .int .i64 v1, .bool v2, .int .i64 v3, .int .i64 v4] 30 (0, 0))) hb) (.cells #[.string r0, .string r1, .bool r2, .string r3, .bool r4] 46 (0, 0))
  have HY2 := blk_alloc (blk_below (blk_new w1 (.cells #[.string v0, .int .i64 v1, .bool v2, .int .i64 v3, .int .i64 v4] 30 (0, 0))) hb) (.cells #[.string r0, .string r1, .bool r2, .string r3, .bool r4] 46 (0, 0))
  have HZ2 := blk_new w2 (.cells #[.string r0, .string r1, .bool r2, .string r3, .bool r4] 46 (0, 0))
  have HB2 := Aside0.mk (below_alloc (below_step (below_alloc HB.out (.cells #[.string v0, .int .i64 v1, .bool v2, .int .i64 v3, .int .i64 v4] 30 (0, 0))) hb) (.cells #[.string r0, .string r1, .bool r2, .string r3, .bool r4] 46 (0, 0)))
  obtain ⟨y0, y1, y2, y3, y4⟩ := cells5 HY2
  obtain ⟨z0, z1, z2, z3, z4⟩ := cells5 HZ2
  have q1 := (blk_cell HX2 1).trans rfl
  have q2 := (blk_cell HX2 2).trans rfl
  clear hb HX1 HB HX2 HY2 HZ2
  cases is <;> cases x2 <;> cases r2 <;> cases r4 <;> (
    go_wp2_with fail
    all_goals go_ret
    all_goals refine ⟨?_, by repeat (with_reducible first | exact HB2.out | apply Below.drew | apply pw_below_drewN)⟩
    all_goals rw [HX.out]
    all_goals first | rfl | (simp [*]; done) | (simp [*]; omega) | (simp [*]; intros; omega) | (simp_all; done) | (simp_all; omega) | (simp_all; intros; omega))
def mayS (s : List S30) : Bool := mayFrom [] s && decide (s.length ≤ 8)
def fitSmall (t : List S42) (s : List S30) : Prop := (smallV s ∧ t.length ≤ 100000) ∧ ∀ q ∈ t, (0 ≤ q.f1 ∧ q.f1 ≤ 255) ∧ q.f2.length ≤ 100000
instance (t : List S42) (s : List S30) : Decidable (fitSmall t s) := by unfold fitSmall; infer_instance
def fitV (tm : Bool) (t : List S42) (s : List S30) : Int := if (tm && mayS s) = true then (if (t.any fun q => q.f2.any (badB s q.f1)) = true then 6 else 0) else 1
theorem fit_asks (t : List S42) (s : List S30) (hsm : fitSmall t s) (A : Option Addr) (n B : Nat) (w : World) (hn : s.length ≤ n) (hr : Kd.C k30 w A s.length s) (hB : w.heap[B]? = some (.cells #[.slice A s.length n] 23 (0, 0))) :
    Asks 18 #[.pointer (some ⟨B, 0, none⟩)] w t (badB s) :=
  ⟨enters_Fit1, fun q hq x _ W hb => Fit1_any s A n B q.f1 x W (hsm.2 q hq).1 hsm.1.1.1 hn (Kd.C_below hr hb) (blk_below hB hb)⟩
/-! ### tmpl_May: function 16 -/
def tmpl_May.l0 : Nat → List (S42) → List (S42) → Int → Int → Option (Bool)
  | 0, _, _, _, _ => none
  | k + 1, x0, x5, x6, x7 => if x7 < x6 then (if 0 ≤ x7 then (if x7 < (x5.length : Int) then ((tmpl_fine.f ((rd_T42 x5 x7).f0) ((rd_T42 x5 x7).f1) ((rd_T42 x5 x7).f2)).bind fun t107 => (if t107 = true then (if x7 > 0 then (if (((rd_T42 x5 x7).f2).length : Int) = 0 then (if 0 ≤ (wrap64 (x7 - 1)) then (if (wrap64 (x7 - 1)) < (x0.length : Int) then (if (((rd_T42 x0 (wrap64 (x7 - 1))).f2).length : Int) = 0 then (some false) else (tmpl_May.l0 k x0 x5 x6 (wrap64 (x7 + 1)))) else (none)) else (none)) else (tmpl_May.l0 k x0 x5 x6 (wrap64 (x7 + 1)))) else (tmpl_May.l0 k x0 x5 x6 (wrap64 (x7 + 1)))) else (some false))) else (none)) else (none)) else (some true)
def tmpl_May.f (k : Nat) (l0 : List (S42)) : Option (Bool) := tmpl_May.l0 k l0 l0 (l0.length : Int) 0
theorem tmpl_May.mono_l : ∀ k, (∀ y0 y1 y2 y3, LeO (tmpl_May.l0 k y0 y1 y2 y3) (tmpl_May.l0 (k + 1) y0 y1 y2 y3))
  | 0 => fun _ _ _ _ r h => by simp [tmpl_May.l0] at h
  | k + 1 => by
    have ih0 := tmpl_May.mono_l k
    · intro y0 y1 y2 y3
      unfold tmpl_May.l0
      repeat' first
      | (with_reducible exact ih0 _ _ _ _)
      | (with_reducible exact LeO.refl _)
      | (with_reducible exact LeO.none _)
      | (with_reducible refine LeO.ite ?_ ?_)
      | (with_reducible refine LeO.bind ?_ (fun _ => ?_))
      | exact ih0 _ _ _ _
      | exact LeO.none _
      | refine LeO.ite ?_ ?_
      | refine LeO.bind ?_ (fun _ => ?_)
theorem tmpl_May.mono : ∀ a0 k, LeO (tmpl_May.f k a0) (tmpl_May.f (k + 1) a0) := by
  intro a0 k
  have ih0 := tmpl_May.mono_l k
  unfold tmpl_May.f
  repeat' first
      | (with_reducible exact ih0 _ _ _ _)
      | (with_reducible exact LeO.refl _)
      | (with_reducible exact LeO.none _)
      | (with_reducible refine LeO.ite ?_ ?_)
      | (with_reducible refine LeO.bind ?_ (fun _ => ?_))
      | exact ih0 _ _ _ _
      | exact LeO.none _
      | refine LeO.ite ?_ ?_
      | refine LeO.bind ?_ (fun _ => ?_)
set_option maxHeartbeats 8000000 in
set_option maxRecDepth 100000 in
theorem tmpl_May.calls (k : Nat) (A0 : Option Addr) (c0 : Nat) (l0 : List (S42)) (r : Bool) (w : World) (hr0 : Kd.C k42 w A0 l0.length l0) (hc0 : l0.length ≤ c0) (h : tmpl_May.f k l0 = some r) :
    Calls Try.prog 16 #[.slice A0 l0.length c0] w fun e w' => e = .returned (.bool r) ∧ Below w.heap.size w w' := by
  have hu42 := Try.underlying42
  have HR0 := Aside0.mk hr0
  have HC0 := Aside0.mk hc0
  clear hr0 hc0
  have HB := Aside0.mk (Below.refl w.heap.size w)
  have H : (tmpl_May.l0 k l0 l0 (l0.length : Int) 0) = some r := h
  clear h
  have H' := Aside0.mk H
  clear H
  go_enter Try.func16, Try.ntmps16
  go_wp2
  go_loopg [7] k (fun kq v7 w' => ∃ (x7_1 : Int), v7 = .int .i64 x7_1 ∧ Aside0 (tmpl_May.l0 kq l0 l0 (l0.length : Int) x7_1 = some r) ∧ Aside0 (kq ≤ k) ∧ Aside0 (Below w.heap.size w w'))
  case atStart => exact ⟨(0), (by first | rfl | (simp; done) | (simp [*]; done)), H', ⟨Nat.le_refl _⟩, ⟨by repeat (first | (with_reducible first | exact HB.out | apply below_alloc | apply pw_below_drewN | apply below_drew1) | exact HB.out)⟩⟩
  case round =>
    clear H'
    try clear c1
    obtain ⟨x7_1, rfl, HA, HK1, HB⟩ := hrel
    cases gk with
    | zero => exact absurd HA.out (by simp [tmpl_May.l0])
    | succ k1 =>
      have H := HA.out
      clear HA
      simp only [tmpl_May.l0] at H
      by_cases c2 : x7_1 < (l0.length : Int)
      · rw [if_pos c2] at H
        have c2b0 : decide (x7_1 < (l0.length : Int)) = true := decide_eq_true c2
        clear c2
        by_cases c3 : 0 ≤ x7_1
        · rw [if_pos c3] at H
          have c3b0 : decide (0 ≤ x7_1) = true := decide_eq_true c3
          clear c3
          by_cases c4 : x7_1 < (l0.length : Int)
          · rw [if_pos c4] at H
            have c4b0 : decide (x7_1 < (l0.length : Int)) = true := decide_eq_true c4
            clear c4
            replace H := Option.bind_eq_some_iff.mp H
            obtain ⟨t107, A50, H⟩ := H
            replace H : (if t107 = true then (if x7_1 > 0 then (if (((rd_T42 l0 x7_1).f2).length : Int) = 0 then (if 0 ≤ (wrap64 (x7_1 - 1)) then (if (wrap64 (x7_1 - 1)) < (l0.length : Int) then (if (((rd_T42 l0 (wrap64 (x7_1 - 1))).f2).length : Int) = 0 then (some false) else (tmpl_May.l0 k1 l0 l0 (l0.length : Int) (wrap64 (x7_1 + 1)))) else (none)) else (none)) else (tmpl_May.l0 k1 l0 l0 (l0.length : Int) (wrap64 (x7_1 + 1)))) else (tmpl_May.l0 k1 l0 l0 (l0.length : Int) (wrap64 (x7_1 + 1)))) else (some false)) = some r := H
            have A5 := Aside0.mk A50
            clear A50
            by_cases c6 : t107 = true
            · subst c6
              have H1 : (if x7_1 > 0 then (if (((rd_T42 l0 x7_1).f2).length : Int) = 0 then (if 0 ≤ (wrap64 (x7_1 - 1)) then (if (wrap64 (x7_1 - 1)) < (l0.length : Int) then (if (((rd_T42 l0 (wrap64 (x7_1 - 1))).f2).length : Int) = 0 then (some false) else (tmpl_May.l0 k1 l0 l0 (l0.length : Int) (wrap64 (x7_1 + 1)))) else (none)) else (none)) else (tmpl_May.l0 k1 l0 l0 (l0.length : Int) (wrap64 (x7_1 + 1)))) else (tmpl_May.l0 k1 l0 l0 (l0.length : Int) (wrap64 (x7_1 + 1)))) = some r := by rw [if_pos rfl] at H; exact H
              clear H
              have H := H1
              clear H1
              by_cases c7 : x7_1 > 0
              · rw [if_pos c7] at H
                have c7b0 : decide (0 < x7_1) = true := decide_eq_true c7
                clear c7
                by_cases c8 : (((rd_T42 l0 x7_1).f2).length : Int) = 0
                · rw [if_pos c8] at H
                  have c8b0 : ((((rd_T42 l0 x7_1).f2).length : Int) == 0) = true := beq_iff_eq.mpr c8
                  have c8b1 : ((((rd_T42 l0 x7_1).f2).length : Int) != 0) = false := bne_eq_false_iff_eq.mpr c8
                  clear c8
                  obtain ⟨ji9, hji9⟩ : ∃ j_ : Int, (wrap64 (x7_1 - 1)) = j_ := ⟨_, rfl⟩
                  replace H : (if 0 ≤ (ji9) then (if (ji9) < (l0.length : Int) then (if (((rd_T42 l0 (ji9)).f2).length : Int) = 0 then (some false) else (tmpl_May.l0 k1 l0 l0 (l0.length : Int) (wrap64 (x7_1 + 1)))) else (none)) else (none)) = some r := by first | (rw [hji9] at H; exact H) | (simp only [hji9] at H ⊢; exact H)
                  (try rw [hji9] at A5)
                  have hji9w : (IntKind.i64.wrap (x7_1 - 1)) = ji9 := (i64_w _).trans hji9
                  by_cases c10 : 0 ≤ (ji9)
                  · rw [if_pos c10] at H
                    have c10b0 : decide (0 ≤ (ji9)) = true := decide_eq_true c10
                    clear c10
                    by_cases c11 : (ji9) < (l0.length : Int)
                    · rw [if_pos c11] at H
                      have c11b0 : decide ((ji9) < (l0.length : Int)) = true := decide_eq_true c11
                      clear c11
                      by_cases c12 : (((rd_T42 l0 (ji9)).f2).length : Int) = 0
                      · rw [if_pos c12] at H
                        have c12b0 : ((((rd_T42 l0 (ji9)).f2).length : Int) == 0) = true := beq_iff_eq.mpr c12
                        have c12b1 : ((((rd_T42 l0 (ji9)).f2).length : Int) != 0) = false := bne_eq_false_iff_eq.mpr c12
                        clear c12
                        obtain rfl := Option.some.inj H
                        have p105 : 0 ≤ (x7_1 : Int) := of_decide_eq_true (by first | (with_reducible assumption) | assumption)
                        have q105 : x7_1 < (l0.length : Int) := of_decide_eq_true (by first | (with_reducible assumption) | assumption)
                        obtain ⟨ad105, A105_2, c105_2, e105, hx105_0, hx105_1, hx105_2, hl105_2, hi105_2⟩ := at_T42 HR0.out x7_1 p105 q105
                        cases e105
                        replace hx105_0 := (HB.out.cell (World.block_lt_of_cell? w _ hx105_0)).trans hx105_0
                        replace hx105_1 := (HB.out.cell (World.block_lt_of_cell? w _ hx105_1)).trans hx105_1
                        replace hx105_2 := (HB.out.cell (World.block_lt_of_cell? w _ hx105_2)).trans hx105_2
                        have HR105_2 := Aside0.mk hi105_2
                        have HC105_2 := Aside0.mk hl105_2
                        clear hi105_2 hl105_2
                        replace p105 := eq_true p105
                        replace q105 := eq_true q105
                        go_wp2_with (first | ((with_reducible refine gate_dst (N := 4) rfl ?_); (try (refine gate_guard (by rfl) ?_; dsimp only)); refine box_event ?hg (N := 4) ?hd (cs := #[.string (⟨#[]⟩ : ByteArray), .int .u8 0, .slice none 0 0]) (t := 42) ?hr ?_; (case hd => rfl); (case hg => rfl); (case hr => first | (go_simp; done) | (go_simp; rfl)); intro gb106 hg w13 hbox hb; have n0_ := Aside0.mk (below_step (by repeat (first | (with_reducible first | exact HB.out | apply below_alloc | apply pw_below_drewN | apply below_drew1) | exact HB.out)) hb); have n1_ := Aside0.mk (hbox); have n2_ := Aside0.mk ((by rw [hg]; exact (below_size (by repeat (first | (with_reducible first | exact HB.out | apply below_alloc | apply pw_below_drewN | apply below_drew1) | exact HB.out))) : w.heap.size ≤ gb106)); have n3_ := Aside0.mk ((by rw [hg]; exact (below_size (by repeat (first | (with_reducible first | exact HB.out | apply below_alloc | apply pw_below_drewN | apply below_drew1) | exact HB.out))) : w.heap.size ≤ gb106)); clear HB; have HB := n0_; have BK106 := n1_; have GW106 := n2_; have GE106 := n3_; clear n0_ n1_ n2_ n3_; clear hb hbox hg; have hcz14_0 : w13.cell? ⟨gb106, 0, none⟩ = some (.string (⟨#[]⟩ : ByteArray)) := (blk_cell BK106.out 0).trans rfl; have hcz14_1 : w13.cell? ⟨gb106, 1, none⟩ = some (.int .u8 0) := (blk_cell BK106.out 1).trans rfl; have hcz14_2 : w13.cell? ⟨gb106, 2, none⟩ = some (.slice none 0 0) := (blk_cell BK106.out 2).trans rfl; have hfz14_0 := blk_frozen BK106.out 0; have hfz14_1 := blk_frozen BK106.out 1; have hfz14_2 := blk_frozen BK106.out 2) | ((with_reducible refine gate_callee (f := 29) rfl ?_); refine goesL_ (some 13) rfl rfl Try.func29 (by kernel_rfl) rfl #[.agg #[.string ((rd_T42 l0 x7_1).f0), .int .u8 ((rd_T42 l0 x7_1).f1), .slice A105_2 ((rd_T42 l0 x7_1).f2).length c105_2]] rfl (by (try simp only [List.map_toArray, List.map_cons, List.map_nil]); first | done | rfl | (simp only [List.length_drop, List.length_take]; rfl)) ?_; (with_reducible refine (tmpl_fine.calls ((rd_T42 l0 x7_1).f0) ((rd_T42 l0 x7_1).f1) _ _ ((rd_T42 l0 x7_1).f2) true _ ?side1 ?side2 A5.out).mono ?_); (case side1 => exact Kd.C_below HR105_2.out (by repeat (first | (with_reducible first | exact HB.out | apply below_alloc | apply pw_below_drewN | apply below_drew1 | refine below_set ?_ GE106.out) | exact HB.out))); (case side2 => exact HC105_2.out); rintro e w15 ⟨rfl, hb⟩; refine ⟨_, rfl, ?_⟩; have n0_ := Aside0.mk (blk_below (g := gb106) (o := .cells #[.string ((rd_T42 l0 x7_1).f0), .int .u8 ((rd_T42 l0 x7_1).f1), .slice A105_2 ((rd_T42 l0 x7_1).f2).length c105_2] 42 (0, 0)) (by (with_reducible repeat (first | refine blk_drewN ?_ _ | refine blk_drew ?_ | refine blk_alloc ?_ _)); refine blk_put (cs := #[.string ((rd_T42 l0 x7_1).f0), .int .u8 ((rd_T42 l0 x7_1).f1), .slice none 0 0]) ?_ 2 _ rfl; (with_reducible repeat (first | refine blk_drewN ?_ _ | refine blk_drew ?_ | refine blk_alloc ?_ _)); refine blk_put (cs := #[.string ((rd_T42 l0 x7_1).f0), .int .u8 0, .slice none 0 0]) ?_ 1 _ rfl; (with_reducible repeat (first | refine blk_drewN ?_ _ | refine blk_drew ?_ | refine blk_alloc ?_ _)); refine blk_put (cs := #[.string (⟨#[]⟩ : ByteArray), .int .u8 0, .slice none 0 0]) ?_ 0 _ rfl; (with_reducible repeat (first | refine blk_drewN ?_ _ | refine blk_drew ?_ | refine blk_alloc ?_ _)); exact BK106.out) hb); have n1_ := Aside0.mk (below_step (by repeat (first | (with_reducible first | exact HB.out | apply below_alloc | apply pw_below_drewN | apply below_drew1 | refine below_set ?_ GE106.out) | exact HB.out)) hb); clear BK106; clear HB; have BK106 := n0_; have HB := n1_; clear n0_ n1_; (try clear hb); (try clear hb2); (try clear hk); (try clear hi); have hcz16_0 : w15.cell? ⟨gb106, 0, none⟩ = some (.string ((rd_T42 l0 x7_1).f0)) := (blk_cell BK106.out 0).trans rfl; have hcz16_1 : w15.cell? ⟨gb106, 1, none⟩ = some (.int .u8 ((rd_T42 l0 x7_1).f1)) := (blk_cell BK106.out 1).trans rfl; have hcz16_2 : w15.cell? ⟨gb106, 2, none⟩ = some (.slice A105_2 ((rd_T42 l0 x7_1).f2).length c105_2) := (blk_cell BK106.out 2).trans rfl; have hfz16_0 := blk_frozen BK106.out 0; have hfz16_1 := blk_frozen BK106.out 1; have hfz16_2 := blk_frozen BK106.out 2; have p108 : 0 ≤ ((ji9) : Int) := of_decide_eq_true (by first | (with_reducible assumption) | assumption); have q108 : (ji9) < (l0.length : Int) := of_decide_eq_true (by first | (with_reducible assumption) | assumption); obtain ⟨ad108, A108_2, c108_2, e108, hx108_0, hx108_1, hx108_2, hl108_2, hi108_2⟩ := at_T42 HR0.out (ji9) p108 q108; obtain rfl : ad105 = ad108 := (by injection e108); replace hx108_0 := (HB.out.cell (World.block_lt_of_cell? w _ hx108_0)).trans hx108_0; replace hx108_1 := (HB.out.cell (World.block_lt_of_cell? w _ hx108_1)).trans hx108_1; replace hx108_2 := (HB.out.cell (World.block_lt_of_cell? w _ hx108_2)).trans hx108_2; have HR108_2 := Aside0.mk hi108_2; have HC108_2 := Aside0.mk hl108_2; clear hi108_2 hl108_2; replace p108 := eq_true p108; replace q108 := eq_true q108))
                        go_ret
                        exact ⟨by first | rfl | (simp [errW_none, errW_some] <;> rfl) | (simp only [← hji9]; first | rfl | (simp [errW_none, errW_some] <;> rfl)) | (simp [*, errW_none, errW_some] <;> rfl), by repeat (first | (with_reducible first | exact HB.out | apply below_alloc | apply pw_below_drewN | apply below_drew1 | refine below_set ?_ GE106.out) | exact HB.out)⟩
                      · rw [if_neg c12] at H
                        have c12b0 : ((((rd_T42 l0 (ji9)).f2).length : Int) == 0) = false := beq_eq_false_iff_ne.mpr c12
                        have c12b1 : ((((rd_T42 l0 (ji9)).f2).length : Int) != 0) = true := bne_iff_ne.mpr c12
                        have c12b2 : ¬ (((rd_T42 l0 (ji9)).f2) = []) := fun h_ => c12 (by rw [h_]; rfl)
                        have H' := Aside0.mk H
                        clear H
                        have p105 : 0 ≤ (x7_1 : Int) := of_decide_eq_true (by first | (with_reducible assumption) | assumption)
                        have q105 : x7_1 < (l0.length : Int) := of_decide_eq_true (by first | (with_reducible assumption) | assumption)
                        obtain ⟨ad105, A105_2, c105_2, e105, hx105_0, hx105_1, hx105_2, hl105_2, hi105_2⟩ := at_T42 HR0.out x7_1 p105 q105
                        cases e105
                        replace hx105_0 := (HB.out.cell (World.block_lt_of_cell? w _ hx105_0)).trans hx105_0
                        replace hx105_1 := (HB.out.cell (World.block_lt_of_cell? w _ hx105_1)).trans hx105_1
                        replace hx105_2 := (HB.out.cell (World.block_lt_of_cell? w _ hx105_2)).trans hx105_2
                        have HR105_2 := Aside0.mk hi105_2
                        have HC105_2 := Aside0.mk hl105_2
                        clear hi105_2 hl105_2
                        replace p105 := eq_true p105
                        replace q105 := eq_true q105
                        go_wp2_with (first | ((with_reducible refine gate_dst (N := 4) rfl ?_); (try (refine gate_guard (by rfl) ?_; dsimp only)); refine box_event ?hg (N := 4) ?hd (cs := #[.string (⟨#[]⟩ : ByteArray), .int .u8 0, .slice none 0 0]) (t := 42) ?hr ?_; (case hd => rfl); (case hg => rfl); (case hr => first | (go_simp; done) | (go_simp; rfl)); intro gb106 hg w17 hbox hb; have n0_ := Aside0.mk (below_step (by repeat (first | (with_reducible first | exact HB.out | apply below_alloc | apply pw_below_drewN | apply below_drew1) | exact HB.out)) hb); have n1_ := Aside0.mk (hbox); have n2_ := Aside0.mk ((by rw [hg]; exact (below_size (by repeat (first | (with_reducible first | exact HB.out | apply below_alloc | apply pw_below_drewN | apply below_drew1) | exact HB.out))) : w.heap.size ≤ gb106)); have n3_ := Aside0.mk ((by rw [hg]; exact (below_size (by repeat (first | (with_reducible first | exact HB.out | apply below_alloc | apply pw_below_drewN | apply below_drew1) | exact HB.out))) : w.heap.size ≤ gb106)); clear HB; have HB := n0_; have BK106 := n1_; have GW106 := n2_; have GE106 := n3_; clear n0_ n1_ n2_ n3_; clear hb hbox hg; have hcz18_0 : w17.cell? ⟨gb106, 0, none⟩ = some (.string (⟨#[]⟩ : ByteArray)) := (blk_cell BK106.out 0).trans rfl; have hcz18_1 : w17.cell? ⟨gb106, 1, none⟩ = some (.int .u8 0) := (blk_cell BK106.out 1).trans rfl; have hcz18_2 : w17.cell? ⟨gb106, 2, none⟩ = some (.slice none 0 0) := (blk_cell BK106.out 2).trans rfl; have hfz18_0 := blk_frozen BK106.out 0; have hfz18_1 := blk_frozen BK106.out 1; have hfz18_2 := blk_frozen BK106.out 2) | ((with_reducible refine gate_callee (f := 29) rfl ?_); refine goesL_ (some 13) rfl rfl Try.func29 (by kernel_rfl) rfl #[.agg #[.string ((rd_T42 l0 x7_1).f0), .int .u8 ((rd_T42 l0 x7_1).f1), .slice A105_2 ((rd_T42 l0 x7_1).f2).length c105_2]] rfl (by (try simp only [List.map_toArray, List.map_cons, List.map_nil]); first | done | rfl | (simp only [List.length_drop, List.length_take]; rfl)) ?_; (with_reducible refine (tmpl_fine.calls ((rd_T42 l0 x7_1).f0) ((rd_T42 l0 x7_1).f1) _ _ ((rd_T42 l0 x7_1).f2) true _ ?side1 ?side2 A5.out).mono ?_); (case side1 => exact Kd.C_below HR105_2.out (by repeat (first | (with_reducible first | exact HB.out | apply below_alloc | apply pw_below_drewN | apply below_drew1 | refine below_set ?_ GE106.out) | exact HB.out))); (case side2 => exact HC105_2.out); rintro e w19 ⟨rfl, hb⟩; refine ⟨_, rfl, ?_⟩; have n0_ := Aside0.mk (blk_below (g := gb106) (o := .cells #[.string ((rd_T42 l0 x7_1).f0), .int .u8 ((rd_T42 l0 x7_1).f1), .slice A105_2 ((rd_T42 l0 x7_1).f2).length c105_2] 42 (0, 0)) (by (with_reducible repeat (first | refine blk_drewN ?_ _ | refine blk_drew ?_ | refine blk_alloc ?_ _)); refine blk_put (cs := #[.string ((rd_T42 l0 x7_1).f0), .int .u8 ((rd_T42 l0 x7_1).f1), .slice none 0 0]) ?_ 2 _ rfl; (with_reducible repeat (first | refine blk_drewN ?_ _ | refine blk_drew ?_ | refine blk_alloc ?_ _)); refine blk_put (cs := #[.string ((rd_T42 l0 x7_1).f0), .int .u8 0, .slice none 0 0]) ?_ 1 _ rfl; (with_reducible repeat (first | refine blk_drewN ?_ _ | refine blk_drew ?_ | refine blk_alloc ?_ _)); refine blk_put (cs := #[.string (⟨#[]⟩ : ByteArray), .int .u8 0, .slice none 0 0]) ?_ 0 _ rfl; (with_reducible repeat (first | refine blk_drewN ?_ _ | refine blk_drew ?_ | refine blk_alloc ?_ _)); exact BK106.out) hb); have n1_ := Aside0.mk (below_step (by repeat (first | (with_reducible first | exact HB.out | apply below_alloc | apply pw_below_drewN | apply below_drew1 | refine below_set ?_ GE106.out) | exact HB.out)) hb); clear BK106; clear HB; have BK106 := n0_; have HB := n1_; clear n0_ n1_; (try clear hb); (try clear hb2); (try clear hk); (try clear hi); have hcz20_0 : w19.cell? ⟨gb106, 0, none⟩ = some (.string ((rd_T42 l0 x7_1).f0)) := (blk_cell BK106.out 0).trans rfl; have hcz20_1 : w19.cell? ⟨gb106, 1, none⟩ = some (.int .u8 ((rd_T42 l0 x7_1).f1)) := (blk_cell BK106.out 1).trans rfl; have hcz20_2 : w19.cell? ⟨gb106, 2, none⟩ = some (.slice A105_2 ((rd_T42 l0 x7_1).f2).length c105_2) := (blk_cell BK106.out 2).trans rfl; have hfz20_0 := blk_frozen BK106.out 0; have hfz20_1 := blk_frozen BK106.out 1; have hfz20_2 := blk_frozen BK106.out 2; have p108 : 0 ≤ ((ji9) : Int) := of_decide_eq_true (by first | (with_reducible assumption) | assumption); have q108 : (ji9) < (l0.length : Int) := of_decide_eq_true (by first | (with_reducible assumption) | assumption); obtain ⟨ad108, A108_2, c108_2, e108, hx108_0, hx108_1, hx108_2, hl108_2, hi108_2⟩ := at_T42 HR0.out (ji9) p108 q108; obtain rfl : ad105 = ad108 := (by injection e108); replace hx108_0 := (HB.out.cell (World.block_lt_of_cell? w _ hx108_0)).trans hx108_0; replace hx108_1 := (HB.out.cell (World.block_lt_of_cell? w _ hx108_1)).trans hx108_1; replace hx108_2 := (HB.out.cell (World.block_lt_of_cell? w _ hx108_2)).trans hx108_2; have HR108_2 := Aside0.mk hi108_2; have HC108_2 := Aside0.mk hl108_2; clear hi108_2 hl108_2; replace p108 := eq_true p108; replace q108 := eq_true q108))
                        go_roundg k1
                        case measure => have := HK1.out; omega
                        case rel => exact ⟨(wrap64 (x7_1 + 1)), (by first | rfl | (simp; done) | (simp [*]; done)), H', ⟨by have := HK1.out; omega⟩, ⟨by repeat (first | (with_reducible first | exact HB.out | apply below_alloc | apply pw_below_drewN | apply below_drew1 | refine below_set ?_ GE106.out) | exact HB.out)⟩⟩
                    · rw [if_neg c11] at H
                      exact absurd H (by simp)
                  · rw [if_neg c10] at H
                    exact absurd H (by simp)
                · rw [if_neg c8] at H
                  have c8b0 : ((((rd_T42 l0 x7_1).f2).length : Int) == 0) = false := beq_eq_false_iff_ne.mpr c8
                  have c8b1 : ((((rd_T42 l0 x7_1).f2).length : Int) != 0) = true := bne_iff_ne.mpr c8
                  have c8b2 : ¬ (((rd_T42 l0 x7_1).f2) = []) := fun h_ => c8 (by rw [h_]; rfl)
                  have H' := Aside0.mk H
                  clear H
                  have p105 : 0 ≤ (x7_1 : Int) := of_decide_eq_true (by first | (with_reducible assumption) | assumption)
                  have q105 : x7_1 < (l0.length : Int) := of_decide_eq_true (by first | (with_reducible assumption) | assumption)
                  obtain ⟨ad105, A105_2, c105_2, e105, hx105_0, hx105_1, hx105_2, hl105_2, hi105_2⟩ := at_T42 HR0.out x7_1 p105 q105
                  cases e105
                  replace hx105_0 := (HB.out.cell (World.block_lt_of_cell? w _ hx105_0)).trans hx105_0
                  replace hx105_1 := (HB.out.cell (World.block_lt_of_cell? w _ hx105_1)).trans hx105_1
                  replace hx105_2 := (HB.out.cell (World.block_lt_of_cell? w _ hx105_2)).trans hx105_2
                  have HR105_2 := Aside0.mk hi105_2
                  have HC105_2 := Aside0.mk hl105_2
                  clear hi105_2 hl105_2
                  replace p105 := eq_true p105
                  replace q105 := eq_true q105
                  go_wp2_with (first | ((with_reducible refine gate_dst (N := 4) rfl ?_); (try (refine gate_guard (by rfl) ?_; dsimp only)); refine box_event ?hg (N := 4) ?hd (cs := #[.string (⟨#[]⟩ : ByteArray), .int .u8 0, .slice none 0 0]) (t := 42) ?hr ?_; (case hd => rfl); (case hg => rfl); (case hr => first | (go_simp; done) | (go_simp; rfl)); intro gb106 hg w21 hbox hb; have n0_ := Aside0.mk (below_step (by repeat (first | (with_reducible first | exact HB.out | apply below_alloc | apply pw_below_drewN | apply below_drew1) | exact HB.out)) hb); have n1_ := Aside0.mk (hbox); have n2_ := Aside0.mk ((by rw [hg]; exact (below_size (by repeat (first | (with_reducible first | exact HB.out | apply below_alloc | apply pw_below_drewN | apply below_drew1) | exact HB.out))) : w.heap.size ≤ gb106)); have n3_ := Aside0.mk ((by rw [hg]; exact (below_size (by repeat (first | (with_reducible first | exact HB.out | apply below_alloc | apply pw_below_drewN | apply below_drew1) | exact HB.out))) : w.heap.size ≤ gb106)); clear HB; have HB := n0_; have BK106 := n1_; have GW106 := n2_; have GE106 := n3_; clear n0_ n1_ n2_ n3_; clear hb hbox hg; have hcz22_0 : w21.cell? ⟨gb106, 0, none⟩ = some (.string (⟨#[]⟩ : ByteArray)) := (blk_cell BK106.out 0).trans rfl; have hcz22_1 : w21.cell? ⟨gb106, 1, none⟩ = some (.int .u8 0) := (blk_cell BK106.out 1).trans rfl; have hcz22_2 : w21.cell? ⟨gb106, 2, none⟩ = some (.slice none 0 0) := (blk_cell BK106.out 2).trans rfl; have hfz22_0 := blk_frozen BK106.out 0; have hfz22_1 := blk_frozen BK106.out 1; have hfz22_2 := blk_frozen BK106.out 2) | ((with_reducible refine gate_callee (f := 29) rfl ?_); refine goesL_ (some 13) rfl rfl Try.func29 (by kernel_rfl) rfl #[.agg #[.string ((rd_T42 l0 x7_1).f0), .int .u8 ((rd_T42 l0 x7_1).f1), .slice A105_2 ((rd_T42 l0 x7_1).f2).length c105_2]] rfl (by (try simp only [List.map_toArray, List.map_cons, List.map_nil]); first | done | rfl | (simp only [List.length_drop, List.length_take]; rfl)) ?_; (with_reducible refine (tmpl_fine.calls ((rd_T42 l0 x7_1).f0) ((rd_T42 l0 x7_1).f1) _ _ ((rd_T42 l0 x7_1).f2) true _ ?side1 ?side2 A5.out).mono ?_); (case side1 => exact Kd.C_below HR105_2.out (by repeat (first | (with_reducible first | exact HB.out | apply below_alloc | apply pw_below_drewN | apply below_drew1 | refine below_set ?_ GE106.out) | exact HB.out))); (case side2 => exact HC105_2.out); rintro e w23 ⟨rfl, hb⟩; refine ⟨_, rfl, ?_⟩; have n0_ := Aside0.mk (blk_below (g := gb106) (o := .cells #[.string ((rd_T42 l0 x7_1).f0), .int .u8 ((rd_T42 l0 x7_1).f1), .slice A105_2 ((rd_T42 l0 x7_1).f2).length c105_2] 42 (0, 0)) (by (with_reducible repeat (first | refine blk_drewN ?_ _ | refine blk_drew ?_ | refine blk_alloc ?_ _)); refine blk_put (cs := #[.string ((rd_T42 l0 x7_1).f0), .int .u8 ((rd_T42 l0 x7_1).f1), .slice none 0 0]) ?_ 2 _ rfl; (with_reducible repeat (first | refine blk_drewN ?_ _ | refine blk_drew ?_ | refine blk_alloc ?_ _)); refine blk_put (cs := #[.string ((rd_T42 l0 x7_1).f0), .int .u8 0, .slice none 0 0]) ?_ 1 _ rfl; (with_reducible repeat (first | refine blk_drewN ?_ _ | refine blk_drew ?_ | refine blk_alloc ?_ _)); refine blk_put (cs := #[.string (⟨#[]⟩ : ByteArray), .int .u8 0, .slice none 0 0]) ?_ 0 _ rfl; (with_reducible repeat (first | refine blk_drewN ?_ _ | refine blk_drew ?_ | refine blk_alloc ?_ _)); exact BK106.out) hb); have n1_ := Aside0.mk (below_step (by repeat (first | (with_reducible first | exact HB.out | apply below_alloc | apply pw_below_drewN | apply below_drew1 | refine below_set ?_ GE106.out) | exact HB.out)) hb); clear BK106; clear HB; have BK106 := n0_; have HB := n1_; clear n0_ n1_; (try clear hb); (try clear hb2); (try clear hk); (try clear hi); have hcz24_0 : w23.cell? ⟨gb106, 0, none⟩ = some (.string ((rd_T42 l0 x7_1).f0)) := (blk_cell BK106.out 0).trans rfl; have hcz24_1 : w23.cell? ⟨gb106, 1, none⟩ = some (.int .u8 ((rd_T42 l0 x7_1).f1)) := (blk_cell BK106.out 1).trans rfl; have hcz24_2 : w23.cell? ⟨gb106, 2, none⟩ = some (.slice A105_2 ((rd_T42 l0 x7_1).f2).length c105_2) := (blk_cell BK106.out 2).trans rfl; have hfz24_0 := blk_frozen BK106.out 0; have hfz24_1 := blk_frozen BK106.out 1; have hfz24_2 := blk_frozen BK106.out 2))
                  go_roundg k1
                  case measure => have := HK1.out; omega
                  case rel => exact ⟨(wrap64 (x7_1 + 1)), (by first | rfl | (simp; done) | (simp [*]; done)), H', ⟨by have := HK1.out; omega⟩, ⟨by repeat (first | (with_reducible first | exact HB.out | apply below_alloc | apply pw_below_drewN | apply below_drew1 | refine below_set ?_ GE106.out) | exact HB.out)⟩⟩
              · rw [if_neg c7] at H
                have c7b0 : decide (0 < x7_1) = false := decide_eq_false c7
                clear c7
                have H' := Aside0.mk H
                clear H
                have p105 : 0 ≤ (x7_1 : Int) := of_decide_eq_true (by first | (with_reducible assumption) | assumption)
                have q105 : x7_1 < (l0.length : Int) := of_decide_eq_true (by first | (with_reducible assumption) | assumption)
                obtain ⟨ad105, A105_2, c105_2, e105, hx105_0, hx105_1, hx105_2, hl105_2, hi105_2⟩ := at_T42 HR0.out x7_1 p105 q105
                cases e105
                replace hx105_0 := (HB.out.cell (World.block_lt_of_cell? w _ hx105_0)).trans hx105_0
                replace hx105_1 := (HB.out.cell (World.block_lt_of_cell? w _ hx105_1)).trans hx105_1
                replace hx105_2 := (HB.out.cell (World.block_lt_of_cell? w _ hx105_2)).trans hx105_2
                have HR105_2 := Aside0.mk hi105_2
                have HC105_2 := Aside0.mk hl105_2
                clear hi105_2 hl105_2
                replace p105 := eq_true p105
                replace q105 := eq_true q105
                go_wp2_with (first | ((with_reducible refine gate_dst (N := 4) rfl ?_); (try (refine gate_guard (by rfl) ?_; dsimp only)); refine box_event ?hg (N := 4) ?hd (cs := #[.string (⟨#[]⟩ : ByteArray), .int .u8 0, .slice none 0 0]) (t := 42) ?hr ?_; (case hd => rfl); (case hg => rfl); (case hr => first | (go_simp; done) | (go_simp; rfl)); intro gb106 hg w25 hbox hb; have n0_ := Aside0.mk (below_step (by repeat (first | (with_reducible first | exact HB.out | apply below_alloc | apply pw_below_drewN | apply below_drew1) | exact HB.out)) hb); have n1_ := Aside0.mk (hbox); have n2_ := Aside0.mk ((by rw [hg]; exact (below_size (by repeat (first | (with_reducible first | exact HB.out | apply below_alloc | apply pw_below_drewN | apply below_drew1) | exact HB.out))) : w.heap.size ≤ gb106)); have n3_ := Aside0.mk ((by rw [hg]; exact (below_size (by repeat (first | (with_reducible first | exact HB.out | apply below_alloc | apply pw_below_drewN | apply below_drew1) | exact HB.out))) : w.heap.size ≤ gb106)); clear HB; have HB := n0_; have BK106 := n1_; have GW106 := n2_; have GE106 := n3_; clear n0_ n1_ n2_ n3_; clear hb hbox hg; have hcz26_0 : w25.cell? ⟨gb106, 0, none⟩ = some (.string (⟨#[]⟩ : ByteArray)) := (blk_cell BK106.out 0).trans rfl; have hcz26_1 : w25.cell? ⟨gb106, 1, none⟩ = some (.int .u8 0) := (blk_cell BK106.out 1).trans rfl; have hcz26_2 : w25.cell? ⟨gb106, 2, none⟩ = some (.slice none 0 0) := (blk_cell BK106.out 2).trans rfl; have hfz26_0 := blk_frozen BK106.out 0; have hfz26_1 := blk_frozen BK106.out 1; have hfz26_2 := blk_frozen BK106.out 2) | ((with_reducible refine gate_callee (f := 29) rfl ?_); refine goesL_ (some 13) rfl rfl Try.func29 (by kernel_rfl) rfl #[.agg #[.string ((rd_T42 l0 x7_1).f0), .int .u8 ((rd_T42 l0 x7_1).f1), .slice A105_2 ((rd_T42 l0 x7_1).f2).length c105_2]] rfl (by (try simp only [List.map_toArray, List.map_cons, List.map_nil]); first | done | rfl | (simp only [List.length_drop, List.length_take]; rfl)) ?_; (with_reducible refine (tmpl_fine.calls ((rd_T42 l0 x7_1).f0) ((rd_T42 l0 x7_1).f1) _ _ ((rd_T42 l0 x7_1).f2) true _ ?side1 ?side2 A5.out).mono ?_); (case side1 => exact Kd.C_below HR105_2.out (by repeat (first | (with_reducible first | exact HB.out | apply below_alloc | apply pw_below_drewN | apply below_drew1 | refine below_set ?_ GE106.out) | exact HB.out))); (case side2 => exact HC105_2.out); rintro e w27 ⟨rfl, hb⟩; refine ⟨_, rfl, ?_⟩; have n0_ := Aside0.mk (blk_below (g := gb106) (o := .cells #[.string ((rd_T42 l0 x7_1).f0), .int .u8 ((rd_T42 l0 x7_1).f1), .slice A105_2 ((rd_T42 l0 x7_1).f2).length c105_2] 42 (0, 0)) (by (with_reducible repeat (first | refine blk_drewN ?_ _ | refine blk_drew ?_ | refine blk_alloc ?_ _)); refine blk_put (cs := #[.string ((rd_T42 l0 x7_1).f0), .int .u8 ((rd_T42 l0 x7_1).f1), .slice none 0 0]) ?_ 2 _ rfl; (with_reducible repeat (first | refine blk_drewN ?_ _ | refine blk_drew ?_ | refine blk_alloc ?_ _)); refine blk_put (cs := #[.string ((rd_T42 l0 x7_1).f0), .int .u8 0, .slice none 0 0]) ?_ 1 _ rfl; (with_reducible repeat (first | refine blk_drewN ?_ _ | refine blk_drew ?_ | refine blk_alloc ?_ _)); refine blk_put (cs := #[.string (⟨#[]⟩ : ByteArray), .int .u8 0, .slice none 0 0]) ?_ 0 _ rfl; (with_reducible repeat (first | refine blk_drewN ?_ _ | refine blk_drew ?_ | refine blk_alloc ?_ _)); exact BK106.out) hb); have n1_ := Aside0.mk (below_step (by repeat (first | (with_reducible first | exact HB.out | apply below_alloc | apply pw_below_drewN | apply below_drew1 | refine below_set ?_ GE106.out) | exact HB.out)) hb); clear BK106; clear HB; have BK106 := n0_; have HB := n1_; clear n0_ n1_; (try clear hb); (try clear hb2); (try clear hk); (try clear hi)))
                go_roundg k1
                case measure => have := HK1.out; omega
                case rel => exact ⟨(wrap64 (x7_1 + 1)), (by first | rfl | (simp; done) | (simp [*]; done)), H', ⟨by have := HK1.out; omega⟩, ⟨by repeat (first | (with_reducible first | exact HB.out | apply below_alloc | apply pw_below_drewN | apply below_drew1 | refine below_set ?_ GE106.out) | exact HB.out)⟩⟩
            · replace c6 := Bool.eq_false_iff.mpr c6
              subst c6
              have H1 : (some false) = some r := by rw [if_neg (show ¬ (false = true) by decide)] at H; exact H
              clear H
              have H := H1
              clear H1
              obtain rfl := Option.some.inj H
              have p105 : 0 ≤ (x7_1 : Int) := of_decide_eq_true (by first | (with_reducible assumption) | assumption)
              have q105 : x7_1 < (l0.length : Int) := of_decide_eq_true (by first | (with_reducible assumption) | assumption)
              obtain ⟨ad105, A105_2, c105_2, e105, hx105_0, hx105_1, hx105_2, hl105_2, hi105_2⟩ := at_T42 HR0.out x7_1 p105 q105
              cases e105
              replace hx105_0 := (HB.out.cell (World.block_lt_of_cell? w _ hx105_0)).trans hx105_0
              replace hx105_1 := (HB.out.cell (World.block_lt_of_cell? w _ hx105_1)).trans hx105_1
              replace hx105_2 := (HB.out.cell (World.block_lt_of_cell? w _ hx105_2)).trans hx105_2
              have HR105_2 := Aside0.mk hi105_2
              have HC105_2 := Aside0.mk hl105_2
              clear hi105_2 hl105_2
              replace p105 := eq_true p105
              replace q105 := eq_true q105
              go_wp2_with (first | ((with_reducible refine gate_dst (N := 4) rfl ?_); (try (refine gate_guard (by rfl) ?_; dsimp only)); refine box_event ?hg (N := 4) ?hd (cs := #[.string (⟨#[]⟩ : ByteArray), .int .u8 0, .slice none 0 0]) (t := 42) ?hr ?_; (case hd => rfl); (case hg => rfl); (case hr => first | (go_simp; done) | (go_simp; rfl)); intro gb106 hg w28 hbox hb; have n0_ := Aside0.mk (below_step (by repeat (first | (with_reducible first | exact HB.out | apply below_alloc | apply pw_below_drewN | apply below_drew1) | exact HB.out)) hb); have n1_ := Aside0.mk (hbox); have n2_ := Aside0.mk ((by rw [hg]; exact (below_size (by repeat (first | (with_reducible first | exact HB.out | apply below_alloc | apply pw_below_drewN | apply below_drew1) | exact HB.out))) : w.heap.size ≤ gb106)); have n3_ := Aside0.mk ((by rw [hg]; exact (below_size (by repeat (first | (with_reducible first | exact HB.out | apply below_alloc | apply pw_below_drewN | apply below_drew1) | exact HB.out))) : w.heap.size ≤ gb106)); clear HB; have HB := n0_; have BK106 := n1_; have GW106 := n2_; have GE106 := n3_; clear n0_ n1_ n2_ n3_; clear hb hbox hg; have hcz29_0 : w28.cell? ⟨gb106, 0, none⟩ = some (.string (⟨#[]⟩ : ByteArray)) := (blk_cell BK106.out 0).trans rfl; have hcz29_1 : w28.cell? ⟨gb106, 1, none⟩ = some (.int .u8 0) := (blk_cell BK106.out 1).trans rfl; have hcz29_2 : w28.cell? ⟨gb106, 2, none⟩ = some (.slice none 0 0) := (blk_cell BK106.out 2).trans rfl; have hfz29_0 := blk_frozen BK106.out 0; have hfz29_1 := blk_frozen BK106.out 1; have hfz29_2 := blk_frozen BK106.out 2) | ((with_reducible refine gate_callee (f := 29) rfl ?_); refine goesL_ (some 13) rfl rfl Try.func29 (by kernel_rfl) rfl #[.agg #[.string ((rd_T42 l0 x7_1).f0), .int .u8 ((rd_T42 l0 x7_1).f1), .slice A105_2 ((rd_T42 l0 x7_1).f2).length c105_2]] rfl (by (try simp only [List.map_toArray, List.map_cons, List.map_nil]); first | done | rfl | (simp only [List.length_drop, List.length_take]; rfl)) ?_; (with_reducible refine (tmpl_fine.calls ((rd_T42 l0 x7_1).f0) ((rd_T42 l0 x7_1).f1) _ _ ((rd_T42 l0 x7_1).f2) false _ ?side1 ?side2 A5.out).mono ?_); (case side1 => exact Kd.C_below HR105_2.out (by repeat (first | (with_reducible first | exact HB.out | apply below_alloc | apply pw_below_drewN | apply below_drew1 | refine below_set ?_ GE106.out) | exact HB.out))); (case side2 => exact HC105_2.out); rintro e w30 ⟨rfl, hb⟩; refine ⟨_, rfl, ?_⟩; have n0_ := Aside0.mk (blk_below (g := gb106) (o := .cells #[.string ((rd_T42 l0 x7_1).f0), .int .u8 ((rd_T42 l0 x7_1).f1), .slice A105_2 ((rd_T42 l0 x7_1).f2).length c105_2] 42 (0, 0)) (by (with_reducible repeat (first | refine blk_drewN ?_ _ | refine blk_drew ?_ | refine blk_alloc ?_ _)); refine blk_put (cs := #[.string ((rd_T42 l0 x7_1).f0), .int .u8 ((rd_T42 l0 x7_1).f1), .slice none 0 0]) ?_ 2 _ rfl; (with_reducible repeat (first | refine blk_drewN ?_ _ | refine blk_drew ?_ | refine blk_alloc ?_ _)); refine blk_put (cs := #[.string ((rd_T42 l0 x7_1).f0), .int .u8 0, .slice none 0 0]) ?_ 1 _ rfl; (with_reducible repeat (first | refine blk_drewN ?_ _ | refine blk_drew ?_ | refine blk_alloc ?_ _)); refine blk_put (cs := #[.string (⟨#[]⟩ : ByteArray), .int .u8 0, .slice none 0 0]) ?_ 0 _ rfl; (with_reducible repeat (first | refine blk_drewN ?_ _ | refine blk_drew ?_ | refine blk_alloc ?_ _)); exact BK106.out) hb); have n1_ := Aside0.mk (below_step (by repeat (first | (with_reducible first | exact HB.out | apply below_alloc | apply pw_below_drewN | apply below_drew1 | refine below_set ?_ GE106.out) | exact HB.out)) hb); clear BK106; clear HB; have BK106 := n0_; have HB := n1_; clear n0_ n1_; (try clear hb); (try clear hb2); (try clear hk); (try clear hi)))
              go_ret
              exact ⟨by first | rfl | (simp [errW_none, errW_some] <;> rfl) | (simp [*, errW_none, errW_some] <;> rfl), by repeat (first | (with_reducible first | exact HB.out | apply below_alloc | apply pw_below_drewN | apply below_drew1 | refine below_set ?_ GE106.out) | exact HB.out)⟩
          · rw [if_neg c4] at H
            exact absurd H (by simp)
        · rw [if_neg c3] at H
          exact absurd H (by simp)
      · rw [if_neg c2] at H
        have c2b0 : decide (x7_1 < (l0.length : Int)) = false := decide_eq_false c2
        clear c2
        obtain rfl := Option.some.inj H
        go_wp2
        go_ret
        exact ⟨by first | rfl | (simp [errW_none, errW_some] <;> rfl) | (simp [*, errW_none, errW_some] <;> rfl), by repeat (first | (with_reducible first | exact HB.out | apply below_alloc | apply pw_below_drewN | apply below_drew1) | exact HB.out)⟩

/-! ### fit_Fit: function 9 (ours) -/
def fit_Fit.f (l0 : List (S42)) (l1 : List (S30)) : Option (Int) := if fitSmall l0 l1 then (tmpl_May.f Y.bigK l0).map (fun tm => fitV tm l0 l1) else none
set_option maxHeartbeats 8000000 in
set_option maxRecDepth 100000 in
theorem fit_Fit.calls (A0 : Option Addr) (c0 : Nat) (l0 : List (S42)) (A1 : Option Addr) (c1 : Nat) (l1 : List (S30)) (r : Int) (w : World) (hr0 : Kd.C k42 w A0 l0.length l0) (hc0 : l0.length ≤ c0) (hr1 : Kd.C k30 w A1 l1.length l1) (hc1 : l1.length ≤ c1) (h : fit_Fit.f l0 l1 = some r) :
    Calls Try.prog 9 #[.slice A0 l0.length c0, .slice A1 l1.length c1] w fun e w' => e = .returned (.int .i64 r) ∧ Below w.heap.size w w' := by
  simp only [fit_Fit.f] at h
  split at h
  · rename_i hsm
    obtain ⟨tm, htm, hr⟩ := Option.map_eq_some_iff.1 h
    have HSM := Aside0.mk hsm
    have HTM := Aside0.mk htm
    have HS := Aside0.mk (show schema_May.f l1 = some (mayS l1) by unfold schema_May.f; rw [if_pos hsm.1.1]; rfl)
    have HV := Aside0.mk hr
    have HR0 := Aside0.mk hr0
    have HR1 := Aside0.mk hr1
    have hl0 := hsm.1.2
    clear h hsm htm hr hr0 hr1
    go_enter Try.func9, Try.ntmps9
    go_wp2_with fail
    have HB0 := Aside0.mk (X.below_new1 w (.cells #[.slice A1 l1.length c1] 23 (0, 0)))
    have HX0 := Aside0.mk (blk_new w (.cells #[.slice A1 l1.length c1] 23 (0, 0)))
    refine (tmpl_May.calls Y.bigK A0 c0 l0 tm _ (Kd.C_below HR0.out HB0.out) hc0 HTM.out).mono ?_
    rintro e w1 ⟨rfl, hb⟩
    have HB1 := Aside0.mk (below_step HB0.out hb)
    have HX1 := Aside0.mk (blk_below HX0.out hb)
    clear hb HB0 HX0
    cases tm with
    | false =>
      have HV2 := Aside0.mk (show r = 1 by rw [← HV.out]; rfl)
      go_wp2_with fail
      go_ret
      exact ⟨by rw [HV2.out]; rfl, HB1.out⟩
    | true =>
      have cx := (blk_cell HX1.out 0).trans rfl
      cases hms : mayS l1 with
      | false =>
        have HV2 := Aside0.mk (show r = 1 by rw [← HV.out]; unfold fitV; rw [hms]; rfl)
        have HMS := Aside0.mk hms
        clear hms
        go_wp2_with fail
        refine (schema_May.calls A1 c1 l1 _ _ (Kd.C_below HR1.out HB1.out) hc1 HS.out).mono ?_
        rintro e w2 ⟨rfl, hb⟩
        rw [HMS.out]
        have HB2 := Aside0.mk (below_step HB1.out hb)
        clear hb
        go_wp2_with fail
        go_ret
        exact ⟨by rw [HV2.out]; rfl, HB2.out⟩
      | true =>
        have HV2 := Aside0.mk (show r = if (l0.any fun q => q.f2.any (badB l1 q.f1)) = true then 6 else 0 by rw [← HV.out]; unfold fitV; rw [hms]; rfl)
        have HMS := Aside0.mk hms
        clear hms
        go_wp2_with fail
        refine (schema_May.calls A1 c1 l1 _ _ (Kd.C_below HR1.out HB1.out) hc1 HS.out).mono ?_
        rintro e w2 ⟨rfl, hb⟩
        rw [HMS.out]
        have HB2 := Aside0.mk (below_step HB1.out hb)
        have HX2 := Aside0.mk (blk_below HX1.out hb)
        clear hb cx HB1 HX1
        go_wp2_with fail
        refine (some_any 18 _ (badB l1) l0 A0 c0 _ (by omega) (fun q hq => (HSM.out.2 q hq).2) (Kd.C_below HR0.out HB2.out) (fit_asks l0 l1 HSM.out A1 c1 w.heap.size _ hc1 (Kd.C_below HR1.out HB2.out) HX2.out)).mono ?_
        rintro e w3 ⟨rfl, hb⟩
        have HB3 := Aside0.mk (below_step HB2.out hb)
        clear hb
        cases hbad : (l0.any fun q => q.f2.any (badB l1 q.f1)) with
        | true =>
          have HV3 := Aside0.mk (show r = 6 by rw [HV2.out, hbad]; rfl)
          clear hbad
          go_wp2_with fail
          go_ret
          exact ⟨by rw [HV3.out]; rfl, HB3.out⟩
        | false =>
          have HV3 := Aside0.mk (show r = 0 by rw [HV2.out, hbad]; rfl)
          clear hbad
          go_wp2_with fail
          go_ret
          exact ⟨by rw [HV3.out]; rfl, HB3.out⟩
  · cases h
/-! ### fit_Cut: function 15 -/
def fit_Cut.f (a0_0 : ByteArray) (a0_1 : Int) (a0_2 : Bool) (a1_0 : ByteArray) (a1_1 : Int) (a1_2 : Bool) (a1_3 : Int) (a1_4 : Int) : Option (Bool) := if a0_1 > 0 then (if a1_4 = 0 then (some true) else (some (decide (a1_4 > a0_1)))) else (some false)
set_option maxHeartbeats 8000000 in
set_option maxRecDepth 100000 in
theorem fit_Cut.calls (a0_0 : ByteArray) (a0_1 : Int) (a0_2 : Bool) (a1_0 : ByteArray) (a1_1 : Int) (a1_2 : Bool) (a1_3 : Int) (a1_4 : Int) (r : Bool) (w : World) (h : fit_Cut.f a0_0 a0_1 a0_2 a1_0 a1_1 a1_2 a1_3 a1_4 = some r) :
    Calls Try.prog 15 #[.agg #[.string a0_0, .int .i64 a0_1, .bool a0_2], .agg #[.string a1_0, .int .i64 a1_1, .bool a1_2, .int .i64 a1_3, .int .i64 a1_4]] w fun e w' => e = .returned (.bool r) ∧ Below w.heap.size w w' := by
  have hu37 := Try.underlying37
  have hu30 := Try.underlying30
  have HB := Aside0.mk (Below.refl w.heap.size w)
  have H : (if a0_1 > 0 then (if a1_4 = 0 then (some true) else (some (decide (a1_4 > a0_1)))) else (some false)) = some r := h
  clear h
  by_cases c3 : a0_1 > 0
  · rw [if_pos c3] at H
    have c3b0 : decide (0 < a0_1) = true := decide_eq_true c3
    clear c3
    by_cases c4 : a1_4 = 0
    · rw [if_pos c4] at H
      have c4b0 : (a1_4 == 0) = true := beq_iff_eq.mpr c4
      have c4b1 : (a1_4 != 0) = false := bne_eq_false_iff_eq.mpr c4
      clear c4
      obtain rfl := Option.some.inj H
      go_enter Try.func15, Try.ntmps15
      go_wp2_with (first | ((with_reducible refine gate_dst (N := 2) rfl ?_); refine box_event ?hg (N := 2) ?hd (cs := #[.string a0_0, .int .i64 a0_1, .bool a0_2]) (t := 37) ?hr ?_; (case hd => rfl); (case hg => rfl); (case hr => first | (go_simp; done) | (go_simp; rfl)); intro gb109 hg w5 hbox hb; have n0_ := Aside0.mk (below_step (by repeat (first | (with_reducible first | exact HB.out | apply below_alloc | apply pw_below_drewN | apply below_drew1) | exact HB.out)) hb); have n1_ := Aside0.mk (hbox); have n2_ := Aside0.mk ((by rw [hg]; exact (below_size (by repeat (first | (with_reducible first | exact HB.out | apply below_alloc | apply pw_below_drewN | apply below_drew1) | exact HB.out))) : w.heap.size ≤ gb109)); have n3_ := Aside0.mk ((by rw [hg]; exact (below_size (by repeat (first | (with_reducible first | exact HB.out | apply below_alloc | apply pw_below_drewN | apply below_drew1) | exact HB.out))) : w.heap.size ≤ gb109)); clear HB; have HB := n0_; have BK109 := n1_; have GW109 := n2_; have GE109 := n3_; clear n0_ n1_ n2_ n3_; clear hb hbox hg) | ((with_reducible refine gate_dst (N := 3) rfl ?_); refine box_event ?hg (N := 3) ?hd (cs := #[.string a1_0, .int .i64 a1_1, .bool a1_2, .int .i64 a1_3, .int .i64 a1_4]) (t := 30) ?hr ?_; (case hd => rfl); (case hg => rfl); (case hr => first | (go_simp; done) | (go_simp; rfl)); intro gb110 hg w6 hbox hb; have n0_ := Aside0.mk (blk_below (g := gb109) (o := .cells #[.string a0_0, .int .i64 a0_1, .bool a0_2] 37 (0, 0)) (by (with_reducible repeat (first | refine blk_drewN ?_ _ | refine blk_drew ?_ | refine blk_alloc ?_ _)); exact BK109.out) hb); have n1_ := Aside0.mk (below_step (by repeat (first | (with_reducible first | exact HB.out | apply below_alloc | apply pw_below_drewN | apply below_drew1 | refine below_set ?_ GE109.out) | exact HB.out)) hb); have n2_ := Aside0.mk (hbox); have n3_ := Aside0.mk ((by rw [hg]; exact (below_size (by repeat (first | (with_reducible first | exact HB.out | apply below_alloc | apply pw_below_drewN | apply below_drew1 | refine below_set ?_ GE109.out) | exact HB.out))) : w.heap.size ≤ gb110)); have n4_ := Aside0.mk ((by rw [hg]; exact (below_size (by repeat (first | (with_reducible first | exact HB.out | apply below_alloc | apply pw_below_drewN | apply below_drew1 | refine below_set ?_ GE109.out) | exact HB.out))) : w.heap.size ≤ gb110)); have n5_ := Aside0.mk ((by rw [hg]; exact Nat.ne_of_lt (blk_lt (g := gb109) (o := .cells #[.string a0_0, .int .i64 a0_1, .bool a0_2] 37 (0, 0)) (by (with_reducible repeat (first | refine blk_drewN ?_ _ | refine blk_drew ?_ | refine blk_alloc ?_ _)); exact BK109.out)) : gb109 ≠ gb110)); have n6_ := Aside0.mk ((by rw [hg]; exact Nat.ne_of_gt (blk_lt (g := gb109) (o := .cells #[.string a0_0, .int .i64 a0_1, .bool a0_2] 37 (0, 0)) (by (with_reducible repeat (first | refine blk_drewN ?_ _ | refine blk_drew ?_ | refine blk_alloc ?_ _)); exact BK109.out)) : gb110 ≠ gb109)); clear BK109; clear HB; have BK109 := n0_; have HB := n1_; have BK110 := n2_; have GW110 := n3_; have GE110 := n4_; have NB109_110 := n5_; have NB110_109 := n6_; clear n0_ n1_ n2_ n3_ n4_ n5_ n6_; clear hb hbox hg; have hnb7 := NB109_110.out; have hnc7 := NB110_109.out; have hcz8_0 : w6.cell? ⟨gb109, 0, none⟩ = some (.string a0_0) := (blk_cell BK109.out 0).trans rfl; have hcz8_1 : w6.cell? ⟨gb109, 1, none⟩ = some (.int .i64 a0_1) := (blk_cell BK109.out 1).trans rfl; have hcz8_2 : w6.cell? ⟨gb109, 2, none⟩ = some (.bool a0_2) := (blk_cell BK109.out 2).trans rfl; have hfz8_0 := blk_frozen BK109.out 0; have hfz8_1 := blk_frozen BK109.out 1; have hfz8_2 := blk_frozen BK109.out 2; have hcz9_0 : w6.cell? ⟨gb110, 0, none⟩ = some (.string a1_0) := (blk_cell BK110.out 0).trans rfl; have hcz9_1 : w6.cell? ⟨gb110, 1, none⟩ = some (.int .i64 a1_1) := (blk_cell BK110.out 1).trans rfl; have hcz9_2 : w6.cell? ⟨gb110, 2, none⟩ = some (.bool a1_2) := (blk_cell BK110.out 2).trans rfl; have hcz9_3 : w6.cell? ⟨gb110, 3, none⟩ = some (.int .i64 a1_3) := (blk_cell BK110.out 3).trans rfl; have hcz9_4 : w6.cell? ⟨gb110, 4, none⟩ = some (.int .i64 a1_4) := (blk_cell BK110.out 4).trans rfl; have hfz9_0 := blk_frozen BK110.out 0; have hfz9_1 := blk_frozen BK110.out 1; have hfz9_2 := blk_frozen BK110.out 2; have hfz9_3 := blk_frozen BK110.out 3; have hfz9_4 := blk_frozen BK110.out 4))
      go_ret
      exact ⟨by first | rfl | (simp [errW_none, errW_some] <;> rfl) | (simp [*, errW_none, errW_some] <;> rfl), by repeat (first | (with_reducible first | exact HB.out | apply below_alloc | apply pw_below_drewN | apply below_drew1 | refine below_set ?_ GE109.out | refine below_set ?_ GE110.out) | exact HB.out)⟩
    · rw [if_neg c4] at H
      have c4b0 : (a1_4 == 0) = false := beq_eq_false_iff_ne.mpr c4
      have c4b1 : (a1_4 != 0) = true := bne_iff_ne.mpr c4
      obtain rfl := Option.some.inj H
      go_enter Try.func15, Try.ntmps15
      go_wp2_with (first | ((with_reducible refine gate_dst (N := 2) rfl ?_); refine box_event ?hg (N := 2) ?hd (cs := #[.string a0_0, .int .i64 a0_1, .bool a0_2]) (t := 37) ?hr ?_; (case hd => rfl); (case hg => rfl); (case hr => first | (go_simp; done) | (go_simp; rfl)); intro gb109 hg w10 hbox hb; have n0_ := Aside0.mk (below_step (by repeat (first | (with_reducible first | exact HB.out | apply below_alloc | apply pw_below_drewN | apply below_drew1) | exact HB.out)) hb); have n1_ := Aside0.mk (hbox); have n2_ := Aside0.mk ((by rw [hg]; exact (below_size (by repeat (first | (with_reducible first | exact HB.out | apply below_alloc | apply pw_below_drewN | apply below_drew1) | exact HB.out))) : w.heap.size ≤ gb109)); have n3_ := Aside0.mk ((by rw [hg]; exact (below_size (by repeat (first | (with_reducible first | exact HB.out | apply below_alloc | apply pw_below_drewN | apply below_drew1) | exact HB.out))) : w.heap.size ≤ gb109)); clear HB; have HB := n0_; have BK109 := n1_; have GW109 := n2_; have GE109 := n3_; clear n0_ n1_ n2_ n3_; clear hb hbox hg) | ((with_reducible refine gate_dst (N := 3) rfl ?_); refine box_event ?hg (N := 3) ?hd (cs := #[.string a1_0, .int .i64 a1_1, .bool a1_2, .int .i64 a1_3, .int .i64 a1_4]) (t := 30) ?hr ?_; (case hd => rfl); (case hg => rfl); (case hr => first | (go_simp; done) | (go_simp; rfl)); intro gb110 hg w11 hbox hb; have n0_ := Aside0.mk (blk_below (g := gb109) (o := .cells #[.string a0_0, .int .i64 a0_1, .bool a0_2] 37 (0, 0)) (by (with_reducible repeat (first | refine blk_drewN ?_ _ | refine blk_drew ?_ | refine blk_alloc ?_ _)); exact BK109.out) hb); have n1_ := Aside0.mk (below_step (by repeat (first | (with_reducible first | exact HB.out | apply below_alloc | apply pw_below_drewN | apply below_drew1 | refine below_set ?_ GE109.out) | exact HB.out)) hb); have n2_ := Aside0.mk (hbox); have n3_ := Aside0.mk ((by rw [hg]; exact (below_size (by repeat (first | (with_reducible first | exact HB.out | apply below_alloc | apply pw_below_drewN | apply below_drew1 | refine below_set ?_ GE109.out) | exact HB.out))) : w.heap.size ≤ gb110)); have n4_ := Aside0.mk ((by rw [hg]; exact (below_size (by repeat (first | (with_reducible first | exact HB.out | apply below_alloc | apply pw_below_drewN | apply below_drew1 | refine below_set ?_ GE109.out) | exact HB.out))) : w.heap.size ≤ gb110)); have n5_ := Aside0.mk ((by rw [hg]; exact Nat.ne_of_lt (blk_lt (g := gb109) (o := .cells #[.string a0_0, .int .i64 a0_1, .bool a0_2] 37 (0, 0)) (by (with_reducible repeat (first | refine blk_drewN ?_ _ | refine blk_drew ?_ | refine blk_alloc ?_ _)); exact BK109.out)) : gb109 ≠ gb110)); have n6_ := Aside0.mk ((by rw [hg]; exact Nat.ne_of_gt (blk_lt (g := gb109) (o := .cells #[.string a0_0, .int .i64 a0_1, .bool a0_2] 37 (0, 0)) (by (with_reducible repeat (first | refine blk_drewN ?_ _ | refine blk_drew ?_ | refine blk_alloc ?_ _)); exact BK109.out)) : gb110 ≠ gb109)); clear BK109; clear HB; have BK109 := n0_; have HB := n1_; have BK110 := n2_; have GW110 := n3_; have GE110 := n4_; have NB109_110 := n5_; have NB110_109 := n6_; clear n0_ n1_ n2_ n3_ n4_ n5_ n6_; clear hb hbox hg; have hnb12 := NB109_110.out; have hnc12 := NB110_109.out; have hcz13_0 : w11.cell? ⟨gb109, 0, none⟩ = some (.string a0_0) := (blk_cell BK109.out 0).trans rfl; have hcz13_1 : w11.cell? ⟨gb109, 1, none⟩ = some (.int .i64 a0_1) := (blk_cell BK109.out 1).trans rfl; have hcz13_2 : w11.cell? ⟨gb109, 2, none⟩ = some (.bool a0_2) := (blk_cell BK109.out 2).trans rfl; have hfz13_0 := blk_frozen BK109.out 0; have hfz13_1 := blk_frozen BK109.out 1; have hfz13_2 := blk_frozen BK109.out 2; have hcz14_0 : w11.cell? ⟨gb110, 0, none⟩ = some (.string a1_0) := (blk_cell BK110.out 0).trans rfl; have hcz14_1 : w11.cell? ⟨gb110, 1, none⟩ = some (.int .i64 a1_1) := (blk_cell BK110.out 1).trans rfl; have hcz14_2 : w11.cell? ⟨gb110, 2, none⟩ = some (.bool a1_2) := (blk_cell BK110.out 2).trans rfl; have hcz14_3 : w11.cell? ⟨gb110, 3, none⟩ = some (.int .i64 a1_3) := (blk_cell BK110.out 3).trans rfl; have hcz14_4 : w11.cell? ⟨gb110, 4, none⟩ = some (.int .i64 a1_4) := (blk_cell BK110.out 4).trans rfl; have hfz14_0 := blk_frozen BK110.out 0; have hfz14_1 := blk_frozen BK110.out 1; have hfz14_2 := blk_frozen BK110.out 2; have hfz14_3 := blk_frozen BK110.out 3; have hfz14_4 := blk_frozen BK110.out 4))
      go_ret
      exact ⟨by first | rfl | (simp [errW_none, errW_some] <;> rfl) | (simp [*, errW_none, errW_some] <;> rfl), by repeat (first | (with_reducible first | exact HB.out | apply below_alloc | apply pw_below_drewN | apply below_drew1 | refine below_set ?_ GE109.out | refine below_set ?_ GE110.out) | exact HB.out)⟩
  · rw [if_neg c3] at H
    have c3b0 : decide (0 < a0_1) = false := decide_eq_false c3
    clear c3
    obtain rfl := Option.some.inj H
    go_enter Try.func15, Try.ntmps15
    go_wp2_with (first | ((with_reducible refine gate_dst (N := 2) rfl ?_); refine box_event ?hg (N := 2) ?hd (cs := #[.string a0_0, .int .i64 a0_1, .bool a0_2]) (t := 37) ?hr ?_; (case hd => rfl); (case hg => rfl); (case hr => first | (go_simp; done) | (go_simp; rfl)); intro gb109 hg w15 hbox hb; have n0_ := Aside0.mk (below_step (by repeat (first | (with_reducible first | exact HB.out | apply below_alloc | apply pw_below_drewN | apply below_drew1) | exact HB.out)) hb); have n1_ := Aside0.mk (hbox); have n2_ := Aside0.mk ((by rw [hg]; exact (below_size (by repeat (first | (with_reducible first | exact HB.out | apply below_alloc | apply pw_below_drewN | apply below_drew1) | exact HB.out))) : w.heap.size ≤ gb109)); have n3_ := Aside0.mk ((by rw [hg]; exact (below_size (by repeat (first | (with_reducible first | exact HB.out | apply below_alloc | apply pw_below_drewN | apply below_drew1) | exact HB.out))) : w.heap.size ≤ gb109)); clear HB; have HB := n0_; have BK109 := n1_; have GW109 := n2_; have GE109 := n3_; clear n0_ n1_ n2_ n3_; clear hb hbox hg) | ((with_reducible refine gate_dst (N := 3) rfl ?_); refine box_event ?hg (N := 3) ?hd (cs := #[.string a1_0, .int .i64 a1_1, .bool a1_2, .int .i64 a1_3, .int .i64 a1_4]) (t := 30) ?hr ?_; (case hd => rfl); (case hg => rfl); (case hr => first | (go_simp; done) | (go_simp; rfl)); intro gb110 hg w16 hbox hb; have n0_ := Aside0.mk (blk_below (g := gb109) (o := .cells #[.string a0_0, .int .i64 a0_1, .bool a0_2] 37 (0, 0)) (by (with_reducible repeat (first | refine blk_drewN ?_ _ | refine blk_drew ?_ | refine blk_alloc ?_ _)); exact BK109.out) hb); have n1_ := Aside0.mk (below_step (by repeat (first | (with_reducible first | exact HB.out | apply below_alloc | apply pw_below_drewN | apply below_drew1 | refine below_set ?_ GE109.out) | exact HB.out)) hb); have n2_ := Aside0.mk (hbox); have n3_ := Aside0.mk ((by rw [hg]; exact (below_size (by repeat (first | (with_reducible first | exact HB.out | apply below_alloc | apply pw_below_drewN | apply below_drew1 | refine below_set ?_ GE109.out) | exact HB.out))) : w.heap.size ≤ gb110)); have n4_ := Aside0.mk ((by rw [hg]; exact (below_size (by repeat (first | (with_reducible first | exact HB.out | apply below_alloc | apply pw_below_drewN | apply below_drew1 | refine below_set ?_ GE109.out) | exact HB.out))) : w.heap.size ≤ gb110)); have n5_ := Aside0.mk ((by rw [hg]; exact Nat.ne_of_lt (blk_lt (g := gb109) (o := .cells #[.string a0_0, .int .i64 a0_1, .bool a0_2] 37 (0, 0)) (by (with_reducible repeat (first | refine blk_drewN ?_ _ | refine blk_drew ?_ | refine blk_alloc ?_ _)); exact BK109.out)) : gb109 ≠ gb110)); have n6_ := Aside0.mk ((by rw [hg]; exact Nat.ne_of_gt (blk_lt (g := gb109) (o := .cells #[.string a0_0, .int .i64 a0_1, .bool a0_2] 37 (0, 0)) (by (with_reducible repeat (first | refine blk_drewN ?_ _ | refine blk_drew ?_ | refine blk_alloc ?_ _)); exact BK109.out)) : gb110 ≠ gb109)); clear BK109; clear HB; have BK109 := n0_; have HB := n1_; have BK110 := n2_; have GW110 := n3_; have GE110 := n4_; have NB109_110 := n5_; have NB110_109 := n6_; clear n0_ n1_ n2_ n3_ n4_ n5_ n6_; clear hb hbox hg; have hnb17 := NB109_110.out; have hnc17 := NB110_109.out; have hcz18_0 : w16.cell? ⟨gb109, 0, none⟩ = some (.string a0_0) := (blk_cell BK109.out 0).trans rfl; have hcz18_1 : w16.cell? ⟨gb109, 1, none⟩ = some (.int .i64 a0_1) := (blk_cell BK109.out 1).trans rfl; have hcz18_2 : w16.cell? ⟨gb109, 2, none⟩ = some (.bool a0_2) := (blk_cell BK109.out 2).trans rfl; have hfz18_0 := blk_frozen BK109.out 0; have hfz18_1 := blk_frozen BK109.out 1; have hfz18_2 := blk_frozen BK109.out 2))
    go_ret
    exact ⟨by first | rfl | (simp [errW_none, errW_some] <;> rfl) | (simp [*, errW_none, errW_some] <;> rfl), by repeat (first | (with_reducible first | exact HB.out | apply below_alloc | apply pw_below_drewN | apply below_drew1 | refine below_set ?_ GE109.out | refine below_set ?_ GE110.out) | exact HB.out)⟩

/-! ### slices_Index_string_string: function 64 -/
def slices_Index_string_string.l0 : Nat → List ByteArray → ByteArray → Int → Int → Option (Int)
  | 0, _, _, _, _ => none
  | k + 1, x0, x1, x7, x8 => if x8 < x7 then (if 0 ≤ x8 then (if x8 < (x0.length : Int) then (if x1.toList = (rdOf ByteArray.empty x0 x8).toList then (some x8) else (slices_Index_string_string.l0 k x0 x1 x7 (wrap64 (x8 + 1)))) else (none)) else (none)) else (some (-1))
def slices_Index_string_string.f (k : Nat) (l0 : List ByteArray) (a1 : ByteArray) : Option (Int) := slices_Index_string_string.l0 k l0 a1 (l0.length : Int) 0
theorem slices_Index_string_string.mono_l : ∀ k, (∀ y0 y1 y2 y3, LeO (slices_Index_string_string.l0 k y0 y1 y2 y3) (slices_Index_string_string.l0 (k + 1) y0 y1 y2 y3))
  | 0 => fun _ _ _ _ r h => by simp [slices_Index_string_string.l0] at h
  | k + 1 => by
    have ih0 := slices_Index_string_string.mono_l k
    · intro y0 y1 y2 y3
      unfold slices_Index_string_string.l0
      repeat' first
      | (with_reducible exact ih0 _ _ _ _)
      | (with_reducible exact LeO.refl _)
      | (with_reducible exact LeO.none _)
      | (with_reducible refine LeO.ite ?_ ?_)
      | (with_reducible refine LeO.bind ?_ (fun _ => ?_))
      | exact ih0 _ _ _ _
      | exact LeO.none _
      | refine LeO.ite ?_ ?_
      | refine LeO.bind ?_ (fun _ => ?_)
theorem slices_Index_string_string.mono : ∀ a0 a1 k, LeO (slices_Index_string_string.f k a0 a1) (slices_Index_string_string.f (k + 1) a0 a1) := by
  intro a0 a1 k
  have ih0 := slices_Index_string_string.mono_l k
  unfold slices_Index_string_string.f
  repeat' first
      | (with_reducible exact ih0 _ _ _ _)
      | (with_reducible exact LeO.refl _)
      | (with_reducible exact LeO.none _)
      | (with_reducible refine LeO.ite ?_ ?_)
      | (with_reducible refine LeO.bind ?_ (fun _ => ?_))
      | exact ih0 _ _ _ _
      | exact LeO.none _
      | refine LeO.ite ?_ ?_
      | refine LeO.bind ?_ (fun _ => ?_)
set_option maxHeartbeats 8000000 in
set_option maxRecDepth 100000 in
theorem slices_Index_string_string.calls (k : Nat) (A0 : Option Addr) (c0 : Nat) (l0 : List ByteArray) (a1 : ByteArray) (r : Int) (w : World) (hr0 : Kd.C Kd.string w A0 l0.length l0) (hc0 : l0.length ≤ c0) (h : slices_Index_string_string.f k l0 a1 = some r) :
    Calls Try.prog 64 #[.slice A0 l0.length c0, .string a1] w fun e w' => e = .returned (.int .i64 r) ∧ Drawn0 w w' := by
  have HR0 := Aside0.mk hr0
  have HC0 := Aside0.mk hc0
  clear hr0 hc0
  have H : (slices_Index_string_string.l0 k l0 a1 (l0.length : Int) 0) = some r := h
  clear h
  have H' := Aside0.mk H
  clear H
  go_enter Try.func64, Try.ntmps64
  go_wp2
  go_loopg [8] k (fun kq v8 w' => ∃ (x8_1 : Int), v8 = .int .i64 x8_1 ∧ Aside0 (slices_Index_string_string.l0 kq l0 a1 (l0.length : Int) x8_1 = some r) ∧ Aside0 (kq ≤ k) ∧ Drawn0 w w')
  case atStart => exact ⟨(0), (by first | rfl | (simp; done) | (simp [*]; done)), H', ⟨Nat.le_refl _⟩, by repeat (first | exact Drawn0.refl _ | apply Drawn0.step)⟩
  case round =>
    clear H'
    try clear p2
    obtain ⟨x8_1, rfl, HA, HK1, ⟨m1, rfl⟩⟩ := hrel
    cases gk with
    | zero => exact absurd HA.out (by simp [slices_Index_string_string.l0])
    | succ k1 =>
      have H := HA.out
      clear HA
      simp only [slices_Index_string_string.l0] at H
      by_cases c3 : x8_1 < (l0.length : Int)
      · rw [if_pos c3] at H
        have c3b0 : decide (x8_1 < (l0.length : Int)) = true := decide_eq_true c3
        clear c3
        by_cases c4 : 0 ≤ x8_1
        · rw [if_pos c4] at H
          have c4b0 : decide (0 ≤ x8_1) = true := decide_eq_true c4
          clear c4
          by_cases c5 : x8_1 < (l0.length : Int)
          · rw [if_pos c5] at H
            have c5b0 : decide (x8_1 < (l0.length : Int)) = true := decide_eq_true c5
            clear c5
            by_cases c6 : a1.toList = (rdOf ByteArray.empty l0 x8_1).toList
            · rw [if_pos c6] at H
              have c6b0 : (a1.toList == (rdOf ByteArray.empty l0 x8_1).toList) = true := beq_iff_eq.mpr c6
              have c6b1 : (a1.toList != (rdOf ByteArray.empty l0 x8_1).toList) = false := bne_eq_false_iff_eq.mpr c6
              clear c6
              obtain rfl := Option.some.inj H
              have p111 : 0 ≤ (x8_1 : Int) := of_decide_eq_true (by first | (with_reducible assumption) | assumption)
              have q111 : x8_1 < (l0.length : Int) := of_decide_eq_true (by first | (with_reducible assumption) | assumption)
              obtain ⟨ad111, e111, hx111_0⟩ := Kd.at_string HR0.out x8_1 p111 q111
              cases e111
              replace p111 := eq_true p111
              replace q111 := eq_true q111
              go_wp2
              go_ret
              exact ⟨by first | rfl | (simp; done) | (simp [*]; done), by repeat (first | exact Drawn0.refl _ | apply Drawn0.step)⟩
            · rw [if_neg c6] at H
              have c6b0 : (a1.toList == (rdOf ByteArray.empty l0 x8_1).toList) = false := beq_eq_false_iff_ne.mpr c6
              have c6b1 : (a1.toList != (rdOf ByteArray.empty l0 x8_1).toList) = true := bne_iff_ne.mpr c6
              have H' := Aside0.mk H
              clear H
              have p111 : 0 ≤ (x8_1 : Int) := of_decide_eq_true (by first | (with_reducible assumption) | assumption)
              have q111 : x8_1 < (l0.length : Int) := of_decide_eq_true (by first | (with_reducible assumption) | assumption)
              obtain ⟨ad111, e111, hx111_0⟩ := Kd.at_string HR0.out x8_1 p111 q111
              cases e111
              replace p111 := eq_true p111
              replace q111 := eq_true q111
              go_wp2
              go_roundg k1
              case measure => have := HK1.out; omega
              case rel => exact ⟨(wrap64 (x8_1 + 1)), (by first | rfl | (simp; done) | (simp [*]; done)), H', ⟨by have := HK1.out; omega⟩, by repeat (first | exact Drawn0.refl _ | apply Drawn0.step)⟩
          · rw [if_neg c5] at H
            exact absurd H (by simp)
        · rw [if_neg c4] at H
          exact absurd H (by simp)
      · rw [if_neg c3] at H
        have c3b0 : decide (x8_1 < (l0.length : Int)) = false := decide_eq_false c3
        clear c3
        obtain rfl := Option.some.inj H
        go_wp2
        go_ret
        exact ⟨by first | rfl | (simp; done) | (simp [*]; done), by repeat (first | exact Drawn0.refl _ | apply Drawn0.step)⟩

/-! ### slices_Contains_string_string: function 56 -/
def slices_Contains_string_string.f (k : Nat) (l0 : List ByteArray) (a1 : ByteArray) : Option (Bool) := (slices_Index_string_string.f k l0 a1).bind fun t112 => (some (decide (t112 ≥ 0)))
theorem slices_Contains_string_string.mono : ∀ a0 a1 k, LeO (slices_Contains_string_string.f k a0 a1) (slices_Contains_string_string.f (k + 1) a0 a1) := by
  intro a0 a1 k
  unfold slices_Contains_string_string.f
  repeat' first
      | (with_reducible exact slices_Index_string_string.mono _ _ _)
      | (with_reducible exact LeO.refl _)
      | (with_reducible exact LeO.none _)
      | (with_reducible refine LeO.ite ?_ ?_)
      | (with_reducible refine LeO.bind ?_ (fun _ => ?_))
      | exact slices_Index_string_string.mono _ _ _
      | exact LeO.none _
      | refine LeO.ite ?_ ?_
      | refine LeO.bind ?_ (fun _ => ?_)
set_option maxHeartbeats 8000000 in
set_option maxRecDepth 100000 in
theorem slices_Contains_string_string.calls (k : Nat) (A0 : Option Addr) (c0 : Nat) (l0 : List ByteArray) (a1 : ByteArray) (r : Bool) (w : World) (hr0 : Kd.C Kd.string w A0 l0.length l0) (hc0 : l0.length ≤ c0) (h : slices_Contains_string_string.f k l0 a1 = some r) :
    Calls Try.prog 56 #[.slice A0 l0.length c0, .string a1] w fun e w' => e = .returned (.bool r) ∧ Drawn0 w w' := by
  have HR0 := Aside0.mk hr0
  have HC0 := Aside0.mk hc0
  clear hr0 hc0
  have H : ((slices_Index_string_string.f k l0 a1).bind fun t112 => (some (decide (t112 ≥ 0)))) = some r := h
  clear h
  replace H := Option.bind_eq_some_iff.mp H
  obtain ⟨t112, A30, H⟩ := H
  replace H : (some (decide (t112 ≥ 0))) = some r := H
  have A3 := Aside0.mk A30
  clear A30
  obtain rfl := Option.some.inj H
  go_enter Try.func56, Try.ntmps56
  go_wp2_with (first | ((with_reducible refine gate_callee (f := 64) rfl ?_); refine goesL_ (some 7) rfl rfl Try.func64 (by kernel_rfl) rfl #[.slice A0 l0.length c0, .string a1] rfl (by (try simp only [List.map_toArray, List.map_cons, List.map_nil]); first | done | rfl | (simp only [List.length_drop, List.length_take]; rfl)) ?_; (with_reducible refine (slices_Index_string_string.calls k _ _ l0 a1 t112 _ ?side1 ?side2 A3.out).mono ?_); (case side1 => repeat (first | exact HR0.out | (with_reducible refine Kd.C_alloc ?_ _) | (with_reducible refine Kd.C_drewN ?_ _) | (with_reducible refine Kd.C_drew ?_))); (case side2 => exact HC0.out); rintro e w' ⟨rfl, ⟨nd, rfl⟩⟩; refine ⟨_, rfl, ?_⟩))
  go_ret
  exact ⟨by first | rfl | (simp; done) | (simp [*]; done), by repeat (first | exact Drawn0.refl _ | apply Drawn0.step)⟩

end Go.Proofs.Ytjhihohofhhknaa.PF
