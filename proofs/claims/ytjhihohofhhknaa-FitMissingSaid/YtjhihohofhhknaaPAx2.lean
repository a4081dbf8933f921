-- Printed by wip/xprint.py of this claim's authors, over the kit's print; not trusted: Lean checks it.
import Derived.Test.YtjhihohofhhknaaPAx0
import Derived.Test.YtjhihohofhhknaaPAx1
namespace Go.Proofs.Ytjhihohofhhknaa.PA
open Go.RowKit Go.Proofs.YtjhihohofhhknaaW.PrintWords Go.Proofs.YtjhihohofhhknaaW.PrintLast Go.Proofs.YtjhihohofhhknaaW.PrintMore
attribute [local go_sem] max2_int min2_int max_two min_two max_three min_three max_four min_four   -- for this text's walks alone
set_option linter.unusedVariables false
set_option linter.unusedSimpArgs false

/-! ### tmpl_fine: function 29 (ours) -/
def encSpec (x : S37) : Value := .agg #[.string x.f0, .int .i64 x.f1, .bool x.f2]
theorem rds_at (xs : List S37) (k : Nat) (h : k < xs.length) : rd_T37 xs (k : Int) = xs[k] := by
  unfold rd_T37; rw [Int.toNat_natCast, List.getD_eq_getElem?_getD, List.getElem?_eq_getElem h]; rfl
set_option maxHeartbeats 800000 in
theorem indexFunc_spec (g : FuncId) (lb : Array Value) (p : S37 → Bool) (l : List S37) (A : Option Addr) (n : Nat) (w : World) (hl : l.length ≤ 1000000) (hr : Kd.C k37 w A l.length l) (hp : X.Tells Try.prog g lb w encSpec l p) :
    Calls Try.prog 51 #[.slice A l.length n, .func (.func g) #[] lb] w fun e w' => e = .returned (.int .i64 (X.idxOf p l 0)) ∧ Below w.heap.size w w' := by
  have HP := Aside0.mk hp.2
  have eg := hp.1
  have HR := Aside0.mk hr
  clear hp hr
  go_enter Try.func51, Try.ntmps51
  go_wp2_with fail
  go_loopw [8] (fun c wr => ∃ k : Nat, k ≤ l.length ∧ c = .int .i64 k ∧ Below w.heap.size w wr ∧ Aside0 (X.idxOf p l 0 = X.idxOf p (l.drop k) k)) (fun c _ => (l.length - intOf c).toNat)
  case atStart => exact ⟨0, by omega, by simp, Below.refl _ _, ⟨rfl⟩⟩
  case round =>
    obtain ⟨k, hk, rfl, hb, HI⟩ := hrel
    have HB := Aside0.mk hb
    clear hb
    by_cases hlt : k < l.length
    · obtain ⟨ad, rfl, h0, h1, h2⟩ := at_T37 (Kd.C_below HR.out HB.out) (k : Int) (by omega) (by omega)
      rw [rds_at l k hlt] at h0 h1 h2
      simp only [Int.toNat_natCast] at h0 h1 h2
      have HI1 := Aside0.mk (HI.out.trans (X.idxOf_drop p l k hlt))
      clear HI
      cases hpk : p l[k] with
      | true =>
        have HK := Aside0.mk hpk
        clear hpk
        go_wp2_with fail
        refine (HP.out l[k] _ HB.out (List.getElem_mem hlt)).mono ?_
        rintro e w1 ⟨rfl, hb1⟩
        have HB1 := Aside0.mk (below_step HB.out hb1)
        rw [HK.out]
        clear hb1
        go_wp2_with fail
        go_ret
        exact ⟨by rw [HI1.out, if_pos HK.out]; rfl, HB1.out⟩
      | false =>
        have HK := Aside0.mk hpk
        clear hpk
        go_wp2_with fail
        refine (HP.out l[k] _ HB.out (List.getElem_mem hlt)).mono ?_
        rintro e w1 ⟨rfl, hb1⟩
        have HB1 := Aside0.mk (below_step HB.out hb1)
        rw [HK.out]
        clear hb1 HB
        go_wp2_with fail
        go_roundw
        case rel => exact ⟨k + 1, by omega, by go_num, HB1.out, ⟨by rw [HI1.out, if_neg (by rw [HK.out]; decide)]⟩⟩
        case measure => simp [intOf]; omega
    · have HI1 := Aside0.mk (HI.out.trans (X.idxOf_end p l k hlt))
      clear HI
      go_wp2_with fail
      go_ret
      exact ⟨by rw [HI1.out]; rfl, HB.out⟩
theorem containsFunc_spec (g : FuncId) (lb : Array Value) (p : S37 → Bool) (l : List S37) (A : Option Addr) (n : Nat) (w : World) (hl : l.length ≤ 1000000) (hr : Kd.C k37 w A l.length l) (hp : X.Tells Try.prog g lb w encSpec l p) :
    Calls Try.prog 38 #[.slice A l.length n, .func (.func g) #[] lb] w fun e w' => e = .returned (.bool (l.any p)) ∧ Below w.heap.size w w' := by
  have HC := Aside0.mk (indexFunc_spec g lb p l A n w hl hr hp)
  have HA := Aside0.mk (X.idxOf_any p l 0 (Int.le_refl 0))
  clear hr hp
  go_enter Try.func38, Try.ntmps38
  go_wp2_with fail
  refine HC.out.mono ?_
  rintro e w1 ⟨rfl, hb⟩
  have HB := Aside0.mk hb
  clear hb
  go_wp2_with fail
  go_ret
  exact ⟨by rw [← HA.out]; rfl, HB.out⟩
/-- May a variable stand in an expression so? -/
def specOk (x : S37) : Bool := Y.nameMay x.f0 && decide (0 ≤ x.f1) && decide (x.f1 ≤ 9999) && !(x.f2 && decide (0 < x.f1))
theorem spec_f (x : S37) (h : x.f0.size ≤ 1000000) : spec_May.f x.f0 x.f1 x.f2 = some (specOk x) := by
  unfold spec_May.f specOk vname_May.f
  rw [if_pos h]
  cases Y.nameMay x.f0 <;> by_cases h0 : 0 ≤ x.f1 <;> by_cases h1 : x.f1 ≤ 9999 <;> cases x.f2 <;> by_cases h2 : 0 < x.f1 <;> simp [h0, h1, h2] <;> omega
theorem enters_fine1 : Enters Try.prog 46 := enters_of Try.func46 (by kernel_rfl) rfl
set_option maxHeartbeats 800000 in
theorem fine1_tells (w : World) (l : List S37) (hl : ∀ x ∈ l, x.f0.size ≤ 1000000) :
    X.Tells Try.prog 46 #[] w encSpec l (fun x => !specOk x) := by
  refine ⟨enters_fine1, fun x W hb hx => ?_⟩
  have HF := Aside0.mk (spec_f x (hl x hx))
  have HN := Aside0.mk (show (fun x => !specOk x) x = !specOk x from rfl)
  generalize hso : specOk x = so at *
  clear hso hx hl hb
  obtain ⟨x0, x1, x2⟩ := x
  show Calls Try.prog 46 #[.agg #[.string x0, .int .i64 x1, .bool x2]] W _
  go_enter Try.func46, Try.ntmps46
  go_wp2_with fail
  refine (spec_May.calls x0 x1 x2 so _ HF.out).mono ?_
  rintro e w1 ⟨rfl, hb⟩
  have HB := Aside0.mk (below_step (w := W) (X.below_new1 W _) hb)
  clear hb
  go_wp2_with fail
  go_ret
  exact ⟨by rw [HN.out]; rfl, HB.out⟩
theorem list_empty {s : ByteArray} (h : s.size = 0) : s.toList = [] := by rw [ByteArray.toList_eq]; exact List.eq_nil_of_length_eq_zero (by simpa using h)
theorem list_full {s : ByteArray} (h : 0 < s.size) : (s.toList == ([] : List UInt8)) = false ∧ (s.toList != ([] : List UInt8)) = true ∧ s.toList.isEmpty = false := by
  have hl : 0 < s.toList.length := by rw [ByteArray.toList_eq]; simpa using h
  cases e : s.toList with
  | nil => rw [e] at hl; simp at hl
  | cons a l => exact ⟨rfl, rfl, rfl⟩
def fineB (lit : ByteArray) (op : Int) (l : List S37) (pn : Int) : Bool :=
  if l.length = 0 then (op == 0 && decide (0 < lit.size)) && (pn == (lit.size : Int)) else (lit.size == 0 && X.isOper op) && !(l.any fun x => !specOk x)
def fineSmall (lit : ByteArray) (op : Int) (l : List S37) : Prop := (lit.size ≤ 1000000 ∧ 0 ≤ op ∧ op ≤ 255) ∧ (l.length ≤ 100000 ∧ ∀ x ∈ l, x.f0.size ≤ 1000000)
instance (lit : ByteArray) (op : Int) (l : List S37) : Decidable (fineSmall lit op l) := by unfold fineSmall; infer_instance
def tmpl_fine.f (a0_0 : ByteArray) (a0_1 : Int) (l0_2 : List (S37)) : Option (Bool) := if fineSmall a0_0 a0_1 l0_2 then (tmpl_pieces.f Y.bigK a0_0).map (fineB a0_0 a0_1 l0_2) else none
set_option maxHeartbeats 8000000 in
set_option maxRecDepth 100000 in
theorem tmpl_fine.calls (a0_0 : ByteArray) (a0_1 : Int) (A0_2 : Option Addr) (c0_2 : Nat) (l0_2 : List (S37)) (r : Bool) (w : World) (hr0_2 : Kd.C k37 w A0_2 l0_2.length l0_2) (hc0_2 : l0_2.length ≤ c0_2) (h : tmpl_fine.f a0_0 a0_1 l0_2 = some r) :
    Calls Try.prog 29 #[.agg #[.string a0_0, .int .u8 a0_1, .slice A0_2 l0_2.length c0_2]] w fun e w' => e = .returned (.bool r) ∧ Below w.heap.size w w' := by
  simp only [tmpl_fine.f] at h
  split at h
  · rename_i hsm
    obtain ⟨pn, hpn, hr⟩ := Option.map_eq_some_iff.1 h
    obtain ⟨⟨hls, ho0, ho1⟩, hll, hnames⟩ := hsm
    have HPN := Aside0.mk hpn
    have HR := Aside0.mk hr0_2
    have HNM := Aside0.mk hnames
    have HOP := Aside0.mk (fun W => X.operator_any a0_1 W ho0 ho1)
    clear h hpn hr0_2 hnames
    by_cases hz : l0_2.length = 0
    · have hz' : l0_2 = [] := List.eq_nil_of_length_eq_zero hz
      have HV := Aside0.mk (show r = ((a0_1 == 0 && decide (0 < a0_0.size)) && (pn == (a0_0.size : Int))) by rw [← hr]; exact if_pos hz)
      clear hr
      subst hz'
      cases ho : a0_1 == 0 with
      | false =>
        have HV2 := Aside0.mk (show r = false by rw [HV.out, ho]; rfl)
        go_enter Try.func29, Try.ntmps29
        go_wp2_with fail
        go_quiet (fail)
        all_goals go_wp2
        all_goals go_ret
        all_goals exact ⟨by rw [HV2.out]; rfl, by repeat (with_reducible first | exact X.below_new1 _ _ | apply Below.drew | apply pw_below_drewN)⟩
      | true =>
        obtain rfl : a0_1 = 0 := beq_iff_eq.1 ho
        by_cases hlz : 0 < a0_0.size
        · obtain ⟨f1, f2, f3⟩ := list_full hlz
          have HV2 := Aside0.mk (show r = (pn == (a0_0.size : Int)) by rw [HV.out, decide_eq_true hlz]; rfl)
          clear ho hlz
          go_enter Try.func29, Try.ntmps29
          go_wp2_with fail
          have B1 := blk_new w (.cells #[.string a0_0, .int .u8 0, .slice A0_2 0 c0_2] 42 (0, 0))
          have HB1 : Aside0 (Below w.heap.size w (w.alloc (.cells #[.string a0_0, .int .u8 0, .slice A0_2 0 c0_2] 42 (0, 0)))) := ⟨X.below_new1 w _⟩
          generalize w.alloc (.cells #[.string a0_0, .int .u8 0, .slice A0_2 0 c0_2] 42 (0, 0)) = W1 at *
          have c0 : W1.cell? ⟨w.heap.size, 0, none⟩ = some (.string a0_0) := (blk_cell B1 0).trans rfl
          have c1 : W1.cell? ⟨w.heap.size, 1, none⟩ = some (.int .u8 0) := (blk_cell B1 1).trans rfl
          have c2 : W1.cell? ⟨w.heap.size, 2, none⟩ = some (.slice A0_2 0 c0_2) := (blk_cell B1 2).trans rfl
          clear B1
          go_region_held3 (fun w' => Aside0 (Below w.heap.size w w') ∧ w'.cell? ⟨w.heap.size, 0, none⟩ = some (.string a0_0) ∧ w'.cell? ⟨w.heap.size, 1, none⟩ = some (.int .u8 0) ∧ w'.cell? ⟨w.heap.size, 2, none⟩ = some (.slice A0_2 0 c0_2)) (((try dsimp only); (try go_split_ands); (repeat' apply And.intro) <;> first | assumption | exact X.cell_keep hb (by assumption) | exact ⟨below_step (Aside0.out (by assumption)) hb⟩ | exact ⟨below_step (Below.drew (Aside0.out (by assumption))) hb⟩ | exact ⟨Below.drew (Aside0.out (by assumption))⟩)) (first | (go_at_call 45; refine (tmpl_pieces.calls Y.bigK a0_0 pn _ HPN.out).mono ?_; rintro e w' ⟨rfl, hb⟩))
          all_goals go_wp2
          all_goals go_ret
          all_goals exact ⟨by rw [HV2.out]; rfl, Aside0.out (And.left (by assumption))⟩
        · have hz0 : a0_0.size = 0 := by omega
          have f1 := list_empty hz0
          have HV2 := Aside0.mk (show r = false by rw [HV.out, decide_eq_false hlz]; rfl)
          clear ho hlz
          go_enter Try.func29, Try.ntmps29
          go_wp2_with fail
          go_quiet (fail)
          all_goals go_wp2
          all_goals go_ret
          all_goals exact ⟨by rw [HV2.out]; rfl, by repeat (with_reducible first | exact X.below_new1 _ _ | apply Below.drew | apply pw_below_drewN)⟩
    · have hzb : decide ((l0_2.length : Int) = 0) = false := decide_eq_false (by omega)
      have hzb2 : ((l0_2.length : Int) == 0) = false := beq_eq_false_iff_ne.2 (by omega)
      have HV := Aside0.mk (show r = ((a0_0.size == 0 && X.isOper a0_1) && !(l0_2.any fun x => !specOk x)) by rw [← hr]; exact if_neg hz)
      clear hr
      by_cases hlz : 0 < a0_0.size
      · obtain ⟨f1, f2, f3⟩ := list_full hlz
        have HV2 := Aside0.mk (show r = false by rw [HV.out, show (a0_0.size == 0) = false from beq_eq_false_iff_ne.2 (by omega)]; rfl)
        go_enter Try.func29, Try.ntmps29
        go_wp2_with fail
        go_ret
        exact ⟨by rw [HV2.out]; rfl, X.below_new1 w _⟩
      · have hz0 : a0_0.size = 0 := by omega
        have f1 := list_empty hz0
        cases ho : X.isOper a0_1 with
        | false =>
          have HV2 := Aside0.mk (show r = false by rw [HV.out, ho, Bool.and_false, Bool.false_and])
          have HO := Aside0.mk ho
          clear ho hlz
          go_enter Try.func29, Try.ntmps29
          go_wp2_with fail
          refine (HOP.out _).mono ?_
          rintro e w1 ⟨rfl, rfl⟩
          rw [HO.out]
          go_wp2_with fail
          go_ret
          exact ⟨by rw [HV2.out]; rfl, X.below_new1 w _⟩
        | true =>
          have HV2 := Aside0.mk (show r = !(l0_2.any fun x => !specOk x) by rw [HV.out, ho, hz0]; rfl)
          have HO := Aside0.mk ho
          clear ho hlz
          go_enter Try.func29, Try.ntmps29
          go_wp2_with fail
          refine (HOP.out _).mono ?_
          rintro e w1 ⟨rfl, rfl⟩
          rw [HO.out]
          go_wp2_with fail
          refine (containsFunc_spec _ _ (fun x => !specOk x) l0_2 A0_2 c0_2 _ (by omega) (Kd.C_below HR.out (X.below_new1 w _)) (fine1_tells _ l0_2 HNM.out)).mono ?_
          rintro e w2 ⟨rfl, hb⟩
          have HB2 := Aside0.mk (below_step (w := w) (X.below_new1 w _) hb)
          clear hb
          go_wp2_with fail
          go_ret
          exact ⟨by rw [HV2.out]; rfl, HB2.out⟩
  · cases h
/-! ### fit_some: function 21 (ours) -/
theorem enters_some11 : Enters Try.prog 39 := enters_of Try.func39 (by kernel_rfl) rfl
theorem enters_some1 : Enters Try.prog 37 := enters_of Try.func37 (by kernel_rfl) rfl
theorem enters_Fit1 : Enters Try.prog 18 := enters_of Try.func18 (by kernel_rfl) rfl
/-- What a function value of an operator and a variable must do. -/
def Asks (g : FuncId) (lb : Array Value) (w : World) (t : List S42) (p : Int → S37 → Bool) : Prop :=
  (∀ args w, (callFunc g args).run Try.prog w = .ok (.enter g args) w) ∧ ∀ q ∈ t, ∀ x ∈ q.f2, ∀ W, Below w.heap.size w W → Calls Try.prog g (#[.int .u8 q.f1, encSpec x] ++ lb) W fun e w' => e = .returned (.bool (p q.f1 x)) ∧ Below W.heap.size W w'
set_option maxHeartbeats 800000 in
theorem some11_tells (g : FuncId) (lb : Array Value) (p : Int → S37 → Bool) (t : List S42) (w0 w : World) (hp : Asks g lb w0 t p) (hb0 : Below w0.heap.size w0 w) (q : S42) (hq : q ∈ t) (Bi Bp : Nat) (v2 : Value)
    (hi : w.heap[Bi]? = some (.cells #[.func (.func g) #[] lb] 49 (0, 0))) (hpp : w.heap[Bp]? = some (.cells #[.string q.f0, .int .u8 q.f1, v2] 42 (0, 0))) :
    X.Tells Try.prog 39 #[.pointer (some ⟨Bi, 0, none⟩), .pointer (some ⟨Bp, 0, none⟩)] w encSpec q.f2 (p q.f1) := by
  refine ⟨enters_some11, fun x W hb hx => ?_⟩
  have eg := hp.1
  have HA := Aside0.mk (fun W' h => hp.2 q hq x hx W' h)
  have hbx := below_step hb0 hb
  have HBX := Aside0.mk hbx
  have ci := (blk_cell (blk_alloc (blk_below hi hb) (.cells #[.string x.f0, .int .i64 x.f1, .bool x.f2] 37 (0, 0))) 0).trans rfl
  have cp := (blk_cell (blk_alloc (blk_below hpp hb) (.cells #[.string x.f0, .int .i64 x.f1, .bool x.f2] 37 (0, 0))) 1).trans rfl
  have HN := Aside0.mk (show p q.f1 x = (fun y => p q.f1 y) x from rfl)
  unfold encSpec at HA
  clear hb hi hpp hp hbx hb0
  generalize p q.f1 x = pb at *
  show Calls Try.prog 39 #[.agg #[.string x.f0, .int .i64 x.f1, .bool x.f2], .pointer (some ⟨Bi, 0, none⟩), .pointer (some ⟨Bp, 0, none⟩)] W _
  go_enter Try.func39, Try.ntmps39
  go_wp2_with fail
  refine (HA.out _ (below_alloc HBX.out _)).mono ?_
  rintro e w1 ⟨rfl, hb⟩
  have HB := Aside0.mk (below_step (w := W) (X.below_new1 W _) hb)
  clear hb
  go_wp2_with fail
  go_ret
  exact ⟨by rw [HN.out]; rfl, HB.out⟩
def encPart (x : S42) (A : Option Addr) (c : Nat) : Value := .agg #[.string x.f0, .int .u8 x.f1, .slice A x.f2.length c]
theorem rdp_at (xs : List S42) (k : Nat) (h : k < xs.length) : rd_T42 xs (k : Int) = xs[k] := by
  unfold rd_T42; rw [Int.toNat_natCast, List.getD_eq_getElem?_getD, List.getElem?_eq_getElem h]; rfl
/-- What a function value of a part must do. -/
def TellsP (g : FuncId) (lb : Array Value) (w : World) (l : List S42) (p : S42 → Bool) : Prop :=
  (∀ args w, (callFunc g args).run Try.prog w = .ok (.enter g args) w) ∧ ∀ x A c W, Below w.heap.size w W → x ∈ l → x.f2.length ≤ c → Kd.C k37 W A x.f2.length x.f2 → Calls Try.prog g (#[encPart x A c] ++ lb) W fun e w' => e = .returned (.bool (p x)) ∧ Below W.heap.size W w'
set_option maxHeartbeats 800000 in
theorem some1_tells (g : FuncId) (lb : Array Value) (p : Int → S37 → Bool) (t : List S42) (w0 w : World) (hp : Asks g lb w0 t p) (hb0 : Below w0.heap.size w0 w) (hlen : ∀ q ∈ t, q.f2.length ≤ 100000) (Bi : Nat)
    (hi : w.heap[Bi]? = some (.cells #[.func (.func g) #[] lb] 49 (0, 0))) :
    TellsP 37 #[.pointer (some ⟨Bi, 0, none⟩)] w t (fun q => q.f2.any (p q.f1)) := by
  refine ⟨enters_some1, fun q A c W hb hq hc hr => ?_⟩
  have HI := Aside0.mk (blk_alloc (blk_below hi hb) (.cells #[.string q.f0, .int .u8 q.f1, .slice A q.f2.length c] 42 (0, 0)))
  have HB0 := Aside0.mk (below_alloc (below_step hb0 hb) (.cells #[.string q.f0, .int .u8 q.f1, .slice A q.f2.length c] 42 (0, 0)))
  have HP := Aside0.mk hp
  have HR := Aside0.mk hr
  have hl := hlen q hq
  have HT := Aside0.mk (some11_tells g lb p t w0 _ hp HB0.out q hq Bi W.heap.size (.slice A q.f2.length c) HI.out (blk_new W _))
  have HN := Aside0.mk (show q.f2.any (p q.f1) = (fun q : S42 => q.f2.any (p q.f1)) q from rfl)
  clear hb0 hb hi hp hr hlen
  show Calls Try.prog 37 #[.agg #[.string q.f0, .int .u8 q.f1, .slice A q.f2.length c], .pointer (some ⟨Bi, 0, none⟩)] W _
  go_enter Try.func37, Try.ntmps37
  go_wp2_with fail
  refine (containsFunc_spec _ _ (p q.f1) q.f2 A c _ (by omega) (Kd.C_below HR.out (X.below_new1 W _)) HT.out).mono ?_
  rintro e w1 ⟨rfl, hb⟩
  have HB := Aside0.mk (below_step (w := W) (X.below_new1 W _) hb)
  clear hb
  go_wp2_with fail
  go_ret
  exact ⟨rfl, HB.out⟩
set_option maxHeartbeats 800000 in
theorem indexFunc_part (g : FuncId) (lb : Array Value) (p : S42 → Bool) (l : List S42) (A : Option Addr) (n : Nat) (w : World) (hl : l.length ≤ 1000000) (hr : Kd.C k42 w A l.length l) (hp : TellsP g lb w l p) :
    Calls Try.prog 50 #[.slice A l.length n, .func (.func g) #[] lb] w fun e w' => e = .returned (.int .i64 (X.idxOf p l 0)) ∧ Below w.heap.size w w' := by
  have HP := Aside0.mk hp.2
  have eg := hp.1
  have HR := Aside0.mk hr
  clear hp hr
  go_enter Try.func50, Try.ntmps50
  go_wp2_with fail
  go_loopw [8] (fun c wr => ∃ k : Nat, k ≤ l.length ∧ c = .int .i64 k ∧ Below w.heap.size w wr ∧ Aside0 (X.idxOf p l 0 = X.idxOf p (l.drop k) k)) (fun c _ => (l.length - intOf c).toNat)
  case atStart => exact ⟨0, by omega, by simp, Below.refl _ _, ⟨rfl⟩⟩
  case round =>
    obtain ⟨k, hk, rfl, hb, HI⟩ := hrel
    have HB := Aside0.mk hb
    clear hb
    by_cases hlt : k < l.length
    · obtain ⟨ad, A2, c2, rfl, h0, h1, h2, hc2, hr2⟩ := at_T42 (Kd.C_below HR.out HB.out) (k : Int) (by omega) (by omega)
      rw [rdp_at l k hlt] at h0 h1 h2 hc2 hr2
      simp only [Int.toNat_natCast] at h0 h1 h2
      have HC2 := Aside0.mk hc2
      have HR2 := Aside0.mk hr2
      have HI1 := Aside0.mk (HI.out.trans (X.idxOf_drop p l k hlt))
      clear HI hc2 hr2
      cases hpk : p l[k] with
      | true =>
        have HK := Aside0.mk hpk
        clear hpk
        go_wp2_with fail
        refine (HP.out l[k] A2 c2 _ HB.out (List.getElem_mem hlt) HC2.out HR2.out).mono ?_
        rintro e w1 ⟨rfl, hb1⟩
        have HB1 := Aside0.mk (below_step HB.out hb1)
        rw [HK.out]
        clear hb1
        go_wp2_with fail
        go_ret
        exact ⟨by rw [HI1.out, if_pos HK.out]; rfl, HB1.out⟩
      | false =>
        have HK := Aside0.mk hpk
        clear hpk
        go_wp2_with fail
        refine (HP.out l[k] A2 c2 _ HB.out (List.getElem_mem hlt) HC2.out HR2.out).mono ?_
        rintro e w1 ⟨rfl, hb1⟩
        have HB1 := Aside0.mk (below_step HB.out hb1)
        rw [HK.out]
        clear hb1 HB
        go_wp2_with fail
        go_roundw
        case rel => exact ⟨k + 1, by omega, by go_num, HB1.out, ⟨by rw [HI1.out, if_neg (by rw [HK.out]; decide)]⟩⟩
        case measure => simp [intOf]; omega
    · have HI1 := Aside0.mk (HI.out.trans (X.idxOf_end p l k hlt))
      clear HI
      go_wp2_with fail
      go_ret
      exact ⟨by rw [HI1.out]; rfl, HB.out⟩
theorem containsFunc_part (g : FuncId) (lb : Array Value) (p : S42 → Bool) (l : List S42) (A : Option Addr) (n : Nat) (w : World) (hl : l.length ≤ 1000000) (hr : Kd.C k42 w A l.length l) (hp : TellsP g lb w l p) :
    Calls Try.prog 36 #[.slice A l.length n, .func (.func g) #[] lb] w fun e w' => e = .returned (.bool (l.any p)) ∧ Below w.heap.size w w' := by
  have HC := Aside0.mk (indexFunc_part g lb p l A n w hl hr hp)
  have HA := Aside0.mk (X.idxOf_any p l 0 (Int.le_refl 0))
  clear hr hp
  go_enter Try.func36, Try.ntmps36
  go_wp2_with fail
  refine HC.out.mono ?_
  rintro e w1 ⟨rfl, hb⟩
  have HB := Aside0.mk hb
  clear hb
  go_wp2_with fail
  go_ret
  exact ⟨by rw [← HA.out]; rfl, HB.out⟩
set_option maxHeartbeats 800000 in
theorem some_any (g : FuncId) (lb : Array Value) (p : Int → S37 → Bool) (t : List S42) (A : Option Addr) (n : Nat) (w : World) (hl : t.length ≤ 1000000) (hlen : ∀ q ∈ t, q.f2.length ≤ 100000) (hr : Kd.C k42 w A t.length t) (hp : Asks g lb w t p) :
    Calls Try.prog 21 #[.slice A t.length n, .func (.func g) #[] lb] w fun e w' => e = .returned (.bool (t.any fun q => q.f2.any (p q.f1))) ∧ Below w.heap.size w w' := by
  have HR := Aside0.mk hr
  have HT := Aside0.mk (some1_tells g lb p t w _ hp (X.below_new1 w (.cells #[.func (.func g) #[] lb] 49 (0, 0))) hlen w.heap.size (blk_new w _))
  clear hr hp hlen
  go_enter Try.func21, Try.ntmps21
  go_wp2_with fail
  refine (containsFunc_part _ _ (fun q => q.f2.any (p q.f1)) t A n _ hl (Kd.C_below HR.out (X.below_new1 w _)) HT.out).mono ?_
  rintro e w1 ⟨rfl, hb⟩
  have HB := Aside0.mk (below_step (w := w) (X.below_new1 w _) hb)
  clear hb
  go_wp2_with fail
  go_ret
  exact ⟨rfl, HB.out⟩
/-- Does a variable, with an operator, not fit? -/
def badB (s : List S30) (op : Int) (x : S37) : Bool :=
  (!(findV s x.f0).2 || (decide (0 < x.f1) && !((findV s x.f0).1.f1 == 1))) || ((findV s x.f0).1.f3 == 4 && (X.ruleKeep op || (((findV s x.f0).1.f1 == 3 && x.f2) && X.ruleNamed op)))
set_option maxHeartbeats 1600000 in
theorem Fit1_any (s : List S30) (A : Option Addr) (n : Nat) (B : Nat) (op : Int) (x : S37) (w : World) (hop : 0 ≤ op ∧ op ≤ 255) (hl : s.length ≤ 100000) (hn : s.length ≤ n) (hr : Kd.C k30 w A s.length s)
    (hB : w.heap[B]? = some (.cells #[.slice A s.length n] 23 (0, 0))) :
    Calls Try.prog 18 #[.int .u8 op, .agg #[.string x.f0, .int .i64 x.f1, .bool x.f2], .pointer (some ⟨B, 0, none⟩)] w fun e w' => e = .returned (.bool (badB s op x)) ∧ Below w.heap.size w w' := by
  have cb := (blk_cell (blk_alloc hB (.cells #[.string x.f0, .int .i64 x.f1, .bool x.f2] 37 (0, 0))) 0).trans rfl
  have HR := Aside0.mk hr
  obtain ⟨⟨⟨v0, v1, v2, v3, v4⟩, is⟩, hv⟩ : ∃ v, findV s x.f0 = v := ⟨_, rfl⟩
  have HV1 := Aside0.mk (show schema_Find.f s x.f0 = some (v0, v1, v2, v3, v4, is) by unfold schema_Find.f; rw [if_pos (by omega), hv])
  have HO := Aside0.mk (show oper_Of.f op = some (X.ruleFirst op, X.ruleSep op, X.ruleNamed op, X.ruleEmpty op, X.ruleKeep op, X.isOper op) by unfold oper_Of.f; rw [if_pos hop])
  have HX := Aside0.mk (show badB s op x = ((!is || (decide (0 < x.f1) && !(v1 == 1))) || (v3 == 4 && (X.ruleKeep op || ((v1 == 3 && x.f2) && X.ruleNamed op)))) by unfold badB; rw [hv])
  clear hr hB hv
  obtain ⟨x0, x1, x2⟩ := x
  simp only at HV1 HX
  generalize X.ruleFirst op = r0 at *
  generalize X.ruleSep op = r1 at *
  generalize X.ruleNamed op = r2 at *
  generalize X.ruleEmpty op = r3 at *
  generalize X.ruleKeep op = r4 at *
  generalize X.isOper op = r5 at *
  generalize badB s op ⟨x0, x1, x2⟩ = r at *
  go_enter Try.func18, Try.ntmps18
  go_wp2_with fail
  refine (schema_Find.calls A n s x0 v0 v1 v2 v3 v4 is _ (Kd.C_below HR.out (X.below_new1 w _)) hn HV1.out).mono ?_
  rintro e w1 ⟨rfl, hb⟩
  have HX1 := Aside0.mk (blk_below (blk_new w (.cells #[.string x0, .int .i64 x1, .bool x2] 37 (0, 0))) hb)
  have HB := Aside0.mk (below_step (w := w) (X.below_new1 w _) hb)
  clear hb cb
  go_wp2_with fail
  refine (oper_Of.calls op r0 r1 r2 r3 r4 r5 _ HO.out).mono ?_
  rintro e w2 ⟨rfl, hb⟩
  have HX2 := blk_alloc (blk_below (blk_alloc HX1.out (.cells #[.string v0, .int .i64 v1, .bool v2, .int .i64 v3, .int .i64 v4] 30 (0, 0))) hb) (.cells #[.string r0, .string r1, .bool r2, .string r3, .bool r4] 46 (0, 0))
  have HY2 := blk_alloc (blk_below (blk_new w1 (.cells #[.string v0, .int .i64 v1, .bool v2, .int .i64 v3, .int .i64 v4] 30 (0, 0))) hb) (.cells #[.string r0, .string r1, .bool r2, .string r3, .bool r4] 46 (0, 0))
  have HZ2 := blk_new w2 (.cells #[.string r0, .string r1, .bool r2, .string r3, .bool r4] 46 (0, 0))
  have HB2 := Aside0.mk (below_alloc (below_step (below_alloc HB.out (.cells #[.string v0, .int .i64 v1, .bool v2, .int .i64 v3, .int .i64 v4] 30 (0, 0))) hb) (.cells #[.string r0, .string r1, .bool r2, .string r3, .bool r4] 46 (0, 0)))
  obtain ⟨y0, y1, y2, y3, y4⟩ := cells5 HY2
  obtain ⟨z0, z1, z2, z3, z4⟩ := cells5 HZ2
  have q1 := (blk_cell HX2 1).trans rfl
  have q2 := (blk_cell HX2 2).trans rfl
  clear hb HX1 HB HX2 HY2 HZ2
  cases is <;> cases x2 <;> cases r2 <;> cases r4 <;> (
    go_wp2_with fail
    all_goals go_ret
    all_goals refine ⟨?_, by repeat (with_reducible first | exact HB2.out | apply Below.drew | apply pw_below_drewN)⟩
    all_goals rw [HX.out]
    all_goals first | rfl | (simp [*]; done) | (simp [*]; omega) | (simp [*]; intros; omega) | (simp_all; done) | (simp_all; omega) | (simp_all; intros; omega))
def mayS (s : List S30) : Bool := mayFrom [] s && decide (s.length ≤ 8)
def fitSmall (t : List S42) (s : List S30) : Prop := (smallV s ∧ t.length ≤ 100000) ∧ ∀ q ∈ t, (0 ≤ q.f1 ∧ q.f1 ≤ 255) ∧ q.f2.length ≤ 100000
instance (t : List S42) (s : List S30) : Decidable (fitSmall t s) := by unfold fitSmall; infer_instance
def fitV (tm : Bool) (t : List S42) (s : List S30) : Int := if (tm && mayS s) = true then (if (t.any fun q => q.f2.any (badB s q.f1)) = true then 6 else 0) else 1
theorem fit_asks (t : List S42) (s : List S30) (hsm : fitSmall t s) (A : Option Addr) (n B : Nat) (w : World) (hn : s.length ≤ n) (hr : Kd.C k30 w A s.length s) (hB : w.heap[B]? = some (.cells #[.slice A s.length n] 23 (0, 0))) :
    Asks 18 #[.pointer (some ⟨B, 0, none⟩)] w t (badB s) :=
  ⟨enters_Fit1, fun q hq x _ W hb => Fit1_any s A n B q.f1 x W (hsm.2 q hq).1 hsm.1.1.1 hn (Kd.C_below hr hb) (blk_below hB hb)⟩
/-! ### tmpl_May: function 16 -/
def tmpl_May.l0 : Nat → List (S42) → List (S42) → Int → Int → Option (Bool)
  | 0, _, _, _, _ => none
  | k + 1, x0, x5, x6, x7 => if x7 < x6 then (if 0 ≤ x7 then (if x7 < (x5.length : Int) then ((tmpl_fine.f ((rd_T42 x5 x7).f0) ((rd_T42 x5 x7).f1) ((rd_T42 x5 x7).f2)).bind fun t107 => (if t107 = true then (if x7 > 0 then (if (((rd_T42 x5 x7).f2).length : Int) = 0 then (if 0 ≤ (wrap64 (x7 - 1)) then (if (wrap64 (x7 - 1)) < (x0.length : Int) then (if (((rd_T42 x0 (wrap64 (x7 - 1))).f2).length : Int) = 0 then (some false) else (tmpl_May.l0 k x0 x5 x6 (wrap64 (x7 + 1)))) else (none)) else (none)) else (tmpl_May.l0 k x0 x5 x6 (wrap64 (x7 + 1)))) else (tmpl_May.l0 k x0 x5 x6 (wrap64 (x7 + 1)))) else (some false))) else (none)) else (none)) else (some true)
def tmpl_May.f (k : Nat) (l0 : List (S42)) : Option (Bool) := tmpl_May.l0 k l0 l0 (l0.length : Int) 0
theorem tmpl_May.mono_l : ∀ k, (∀ y0 y1 y2 y3, LeO (tmpl_May.l0 k y0 y1 y2 y3) (tmpl_May.l0 (k + 1) y0 y1 y2 y3))
  | 0 => fun _ _ _ _ r h => by simp [tmpl_May.l0] at h
  | k + 1 => by
    have ih0 := tmpl_May.mono_l k
    · intro y0 y1 y2 y3
      unfold tmpl_May.l0
      repeat' first
      | (with_reducible exact ih0 _ _ _ _)
      | (with_reducible exact LeO.refl _)
      | (with_reducible exact LeO.none _)
      | (with_reducible refine LeO.ite ?_ ?_)
      | (with_reducible refine LeO.bind ?_ (fun _ => ?_))
      | exact ih0 _ _ _ _
      | exact LeO.none _
      | refine LeO.ite ?_ ?_
      | refine LeO.bind ?_ (fun _ => ?_)
theorem tmpl_May.mono : ∀ a0 k, LeO (tmpl_May.f k a0) (tmpl_May.f (k + 1) a0) := by
  intro a0 k
  have ih0 := tmpl_May.mono_l k
  unfold tmpl_May.f
  repeat' first
      | (with_reducible exact ih0 _ _ _ _)
      | (with_reducible exact LeO.refl _)
      | (with_reducible exact LeO.none _)
      | (with_reducible refine LeO.ite ?_ ?_)
      | (with_reducible refine LeO.bind ?_ (fun _ => ?_))
      | exact ih0 _ _ _ _
      | exact LeO.none _
      | refine LeO.ite ?_ ?_
      | refine LeO.bind ?_ (fun _ => ?_)
set_option maxHeartbeats 8000000 in
set_option maxRecDepth 100000 in
theorem tmpl_May.calls (k : Nat) (A0 : Option Addr) (c0 : Nat) (l0 : List (S42)) (r : Bool) (w : World) (hr0 : Kd.C k42 w A0 l0.length l0) (hc0 : l0.length ≤ c0) (h : tmpl_May.f k l0 = some r) :
    Calls Try.prog 16 #[.slice A0 l0.length c0] w fun e w' => e = .returned (.bool r) ∧ Below w.heap.size w w' := by
  have hu42 := Try.underlying42
  have HR0 := Aside0.mk hr0
  have HC0 := Aside0.mk hc0
  clear hr0 hc0
  have HB := Aside0.mk (Below.refl w.heap.size w)
  have H : (tmpl_May.l0 k l0 l0 (l0.length : Int) 0) = some r := h
  clear h
  have H' := Aside0.mk H
  clear H
  go_enter Try.func16, Try.ntmps16
  go_wp2
  go_loopg [7] k (fun kq v7 w' => ∃ (x7_1 : Int), v7 = .int .i64 x7_1 ∧ Aside0 (tmpl_May.l0 kq l0 l0 (l0.length : Int) x7_1 = some r) ∧ Aside0 (kq ≤ k) ∧ Aside0 (Below w.heap.size w w'))
  case atStart => exact ⟨(0), (by first | rfl | (simp; done) | (simp [*]; done)), H', ⟨Nat.le_refl _⟩, ⟨by repeat (first | (with_reducible first | exact HB.out | apply below_alloc | apply pw_below_drewN | apply below_drew1) | exact HB.out)⟩⟩
  case round =>
    clear H'
    try clear c1
    obtain ⟨x7_1, rfl, HA, HK1, HB⟩ := hrel
    cases gk with
    | zero => exact absurd HA.out (by simp [tmpl_May.l0])
    | succ k1 =>
      have H := HA.out
      clear HA
      simp only [tmpl_May.l0] at H
      by_cases c2 : x7_1 < (l0.length : Int)
      · rw [if_pos c2] at H
        have c2b0 : decide (x7_1 < (l0.length : Int)) = true := decide_eq_true c2
        clear c2
        by_cases c3 : 0 ≤ x7_1
        · rw [if_pos c3] at H
          have c3b0 : decide (0 ≤ x7_1) = true := decide_eq_true c3
          clear c3
          by_cases c4 : x7_1 < (l0.length : Int)
          · rw [if_pos c4] at H
            have c4b0 : decide (x7_1 < (l0.length : Int)) = true := decide_eq_true c4
            clear c4
            replace H := Option.bind_eq_some_iff.mp H
            obtain ⟨t107, A50, H⟩ := H
            replace H : (if t107 = true then (if x7_1 > 0 then (if (((rd_T42 l0 x7_1).f2).length : Int) = 0 then (if 0 ≤ (wrap64 (x7_1 - 1)) then (if (wrap64 (x7_1 - 1)) < (l0.length : Int) then (if (((rd_T42 l0 (wrap64 (x7_1 - 1))).f2).length : Int) = 0 then (some false) else (tmpl_May.l0 k1 l0 l0 (l0.length : Int) (wrap64 (x7_1 + 1)))) else (none)) else (none)) else (tmpl_May.l0 k1 l0 l0 (l0.length : Int) (wrap64 (x7_1 + 1)))) else (tmpl_May.l0 k1 l0 l0 (l0.length : Int) (wrap64 (x7_1 + 1)))) else (some false)) = some r := H
            have A5 := Aside0.mk A50
            clear A50
            by_cases c6 : t107 = true
            · subst c6
              have H1 : (if x7_1 > 0 then (if (((rd_T42 l0 x7_1).f2).length : Int) = 0 then (if 0 ≤ (wrap64 (x7_1 - 1)) then (if (wrap64 (x7_1 - 1)) < (l0.length : Int) then (if (((rd_T42 l0 (wrap64 (x7_1 - 1))).f2).length : Int) = 0 then (some false) else (tmpl_May.l0 k1 l0 l0 (l0.length : Int) (wrap64 (x7_1 + 1)))) else (none)) else (none)) else (tmpl_May.l0 k1 l0 l0 (l0.length : Int) (wrap64 (x7_1 + 1)))) else (tmpl_May.l0 k1 l0 l0 (l0.length : Int) (wrap64 (x7_1 + 1)))) = some r := by rw [if_pos rfl] at H; exact H
              clear H
              have H := H1
              clear H1
              by_cases c7 : x7_1 > 0
              · rw [if_pos c7] at H
                have c7b0 : decide (0 < x7_1) = true := decide_eq_true c7
                clear c7
                by_cases c8 : (((rd_T42 l0 x7_1).f2).length : Int) = 0
                · rw [if_pos c8] at H
                  have c8b0 : ((((rd_T42 l0 x7_1).f2).length : Int) == 0) = true := beq_iff_eq.mpr c8
                  have c8b1 : ((((rd_T42 l0 x7_1).f2).length : Int) != 0) = false := bne_eq_false_iff_eq.mpr c8
                  clear c8
                  obtain ⟨ji9, hji9⟩ : ∃ j_ : Int, (wrap64 (x7_1 - 1)) = j_ := ⟨_, rfl⟩
                  replace H : (if 0 ≤ (ji9) then (if (ji9) < (l0.length : Int) then (if (((rd_T42 l0 (ji9)).f2).length : Int) = 0 then (some false) else (tmpl_May.l0 k1 l0 l0 (l0.length : Int) (wrap64 (x7_1 + 1)))) else (none)) else (none)) = some r := by first | (rw [hji9] at H; exact H) | (simp only [hji9] at H ⊢; exact H)
                  (try rw [hji9] at A5)
                  have hji9w : (IntKind.i64.wrap (x7_1 - 1)) = ji9 := (i64_w _).trans hji9
                  by_cases c10 : 0 ≤ (ji9)
                  · rw [if_pos c10] at H
                    have c10b0 : decide (0 ≤ (ji9)) = true := decide_eq_true c10
                    clear c10
                    by_cases c11 : (ji9) < (l0.length : Int)
                    · rw [if_pos c11] at H
                      have c11b0 : decide ((ji9) < (l0.length : Int)) = true := decide_eq_true c11
                      clear c11
                      by_cases c12 : (((rd_T42 l0 (ji9)).f2).length : Int) = 0
                      · rw [if_pos c12] at H
                        have c12b0 : ((((rd_T42 l0 (ji9)).f2).length : Int) == 0) = true := beq_iff_eq.mpr c12
                        have c12b1 : ((((rd_T42 l0 (ji9)).f2).length : Int) != 0) = false := bne_eq_false_iff_eq.mpr c12
                        clear c12
                        obtain rfl := Option.some.inj H
                        have p105 : 0 ≤ (x7_1 : Int) := of_decide_eq_true (by first | (with_reducible assumption) | assumption)
                        have q105 : x7_1 < (l0.length : Int) := of_decide_eq_true (by first | (with_reducible assumption) | assumption)
                        obtain ⟨ad105, A105_2, c105_2, e105, hx105_0, hx105_1, hx105_2, hl105_2, hi105_2⟩ := at_T42 HR0.out x7_1 p105 q105
                        cases e105
                        replace hx105_0 := (HB.out.cell (World.block_lt_of_cell? w _ hx105_0)).trans hx105_0
                        replace hx105_1 := (HB.out.cell (World.block_lt_of_cell? w _ hx105_1)).trans hx105_1
                        replace hx105_2 := (HB.out.cell (World.block_lt_of_cell? w _ hx105_2)).trans hx105_2
                        have HR105_2 := Aside0.mk hi105_2
                        have HC105_2 := Aside0.mk hl105_2
                        clear hi105_2 hl105_2
                        replace p105 := eq_true p105
                        replace q105 := eq_true q105
                        go_wp2_with (first | ((with_reducible refine gate_dst (N := 4) rfl ?_); (try (refine gate_guard (by rfl) ?_; dsimp only)); refine box_event ?hg (N := 4) ?hd (cs := #[.string (⟨#[]⟩ : ByteArray), .int .u8 0, .slice none 0 0]) (t := 42) ?hr ?_; (case hd => rfl); (case hg => rfl); (case hr => first | (go_simp; done) | (go_simp; rfl)); intro gb106 hg w13 hbox hb; have n0_ := Aside0.mk (below_step (by repeat (first | (with_reducible first | exact HB.out | apply below_alloc | apply pw_below_drewN | apply below_drew1) | exact HB.out)) hb); have n1_ := Aside0.mk (hbox); have n2_ := Aside0.mk ((by rw [hg]; exact (below_size (by repeat (first | (with_reducible first | exact HB.out | apply below_alloc | apply pw_below_drewN | apply below_drew1) | exact HB.out))) : w.heap.size ≤ gb106)); have n3_ := Aside0.mk ((by rw [hg]; exact (below_size (by repeat (first | (with_reducible first | exact HB.out | apply below_alloc | apply pw_below_drewN | apply below_drew1) | exact HB.out))) : w.heap.size ≤ gb106)); clear HB; have HB := n0_; have BK106 := n1_; have GW106 := n2_; have GE106 := n3_; clear n0_ n1_ n2_ n3_; clear hb hbox hg; have hcz14_0 : w13.cell? ⟨gb106, 0, none⟩ = some (.string (⟨#[]⟩ : ByteArray)) := (blk_cell BK106.out 0).trans rfl; have hcz14_1 : w13.cell? ⟨gb106, 1, none⟩ = some (.int .u8 0) := (blk_cell BK106.out 1).trans rfl; have hcz14_2 : w13.cell? ⟨gb106, 2, none⟩ = some (.slice none 0 0) := (blk_cell BK106.out 2).trans rfl; have hfz14_0 := blk_frozen BK106.out 0; have hfz14_1 := blk_frozen BK106.out 1; have hfz14_2 := blk_frozen BK106.out 2) | ((with_reducible refine gate_callee (f := 29) rfl ?_); refine goesL_ (some 13) rfl rfl Try.func29 (by kernel_rfl) rfl #[.agg #[.string ((rd_T42 l0 x7_1).f0), .int .u8 ((rd_T42 l0 x7_1).f1), .slice A105_2 ((rd_T42 l0 x7_1).f2).length c105_2]] rfl (by (try simp only [List.map_toArray, List.map_cons, List.map_nil]); first | done | rfl | (simp only [List.length_drop, List.length_take]; rfl)) ?_; (with_reducible refine (tmpl_fine.calls ((rd_T42 l0 x7_1).f0) ((rd_T42 l0 x7_1).f1) _ _ ((rd_T42 l0 x7_1).f2) true _ ?side1 ?side2 A5.out).mono ?_); (case side1 => exact Kd.C_below HR105_2.out (by repeat (first | (with_reducible first | exact HB.out | apply below_alloc | apply pw_below_drewN | apply below_drew1 | refine below_set ?_ GE106.out) | exact HB.out))); (case side2 => exact HC105_2.out); rintro e w15 ⟨rfl, hb⟩; refine ⟨_, rfl, ?_⟩; have n0_ := Aside0.mk (blk_below (g := gb106) (o := .cells #[.string ((rd_T42 l0 x7_1).f0), .int .u8 ((rd_T42 l0 x7_1).f1), .slice A105_2 ((rd_T42 l0 x7_1).f2).length c105_2] 42 (0, 0)) (by (with_reducible repeat (first | refine blk_drewN ?_ _ | refine blk_drew ?_ | refine blk_alloc ?_ _)); refine blk_put (cs := #[.string ((rd_T42 l0 x7_1).f0), .int .u8 ((rd_T42 l0 x7_1).f1), .slice none 0 0]) ?_ 2 _ rfl; (with_reducible repeat (first | refine blk_drewN ?_ _ | refine blk_drew ?_ | refine blk_alloc ?_ _)); refine blk_put (cs := #[.string ((rd_T42 l0 x7_1).f0), .int .u8 0, .slice none 0 0]) ?_ 1 _ rfl; (with_reducible repeat (first | refine blk_drewN ?_ _ | refine blk_drew ?_ | refine blk_alloc ?_ _)); refine blk_put (cs := #[.string (⟨#[]⟩ : ByteArray), .int .u8 0, .slice none 0 0]) ?_ 0 _ rfl; (with_reducible repeat (first | refine blk_drewN ?_ _ | refine blk_drew ?_ | refine blk_alloc ?_ _)); exact BK106.out) hb); have n1_ := Aside0.mk (below_step (by repeat (first | (with_reducible first | exact HB.out | apply below_alloc | apply pw_below_drewN | apply below_drew1 | refine below_set ?_ GE106.out) | exact HB.out)) hb); clear BK106; clear HB; have BK106 := n0_; have HB := n1_; clear n0_ n1_; (try clear hb); (try clear hb2); (try clear hk); (try clear hi); have hcz16_0 : w15.cell? ⟨gb106, 0, none⟩ = some (.string ((rd_T42 l0 x7_1).f0)) := (blk_cell BK106.out 0).trans rfl; have hcz16_1 : w15.cell? ⟨gb106, 1, none⟩ = some (.int .u8 ((rd_T42 l0 x7_1).f1)) := (blk_cell BK106.out 1).trans rfl; have hcz16_2 : w15.cell? ⟨gb106, 2, none⟩ = some (.slice A105_2 ((rd_T42 l0 x7_1).f2).length c105_2) := (blk_cell BK106.out 2).trans rfl; have hfz16_0 := blk_frozen BK106.out 0; have hfz16_1 := blk_frozen BK106.out 1; have hfz16_2 := blk_frozen BK106.out 2; have p108 : 0 ≤ ((ji9) : Int) := of_decide_eq_true (by first | (with_reducible assumption) | assumption); have q108 : (ji9) < (l0.length : Int) := of_decide_eq_true (by first | (with_reducible assumption) | assumption); obtain ⟨ad108, A108_2, c108_2, e108, hx108_0, hx108_1, hx108_2, hl108_2, hi108_2⟩ := at_T42 HR0.out (ji9) p108 q108; obtain rfl : ad105 = ad108 := (by injection e108); replace hx108_0 := (HB.out.cell (World.block_lt_of_cell? w _ hx108_0)).trans hx108_0; replace hx108_1 := (HB.out.cell (World.block_lt_of_cell? w _ hx108_1)).trans hx108_1; replace hx108_2 := (HB.out.cell (World.block_lt_of_cell? w _ hx108_2)).trans hx108_2; have HR108_2 := Aside0.mk hi108_2; have HC108_2 := Aside0.mk hl108_2; clear hi108_2 hl108_2; replace p108 := eq_true p108; replace q108 := eq_true q108))
                        go_ret
                        exact ⟨by first | rfl | (simp [errW_none, errW_some] <;> rfl) | (simp only [← hji9]; first | rfl | (simp [errW_none, errW_some] <;> rfl)) | (simp [*, errW_none, errW_some] <;> rfl), by repeat (first | (with_reducible first | exact HB.out | apply below_alloc | apply pw_below_drewN | apply below_drew1 | refine below_set ?_ GE106.out) | exact HB.out)⟩
                      · rw [if_neg c12] at H
                        have c12b0 : ((((rd_T42 l0 (ji9)).f2).length : Int) == 0) = false := beq_eq_false_iff_ne.mpr c12
                        have c12b1 : ((((rd_T42 l0 (ji9)).f2).length : Int) != 0) = true := bne_iff_ne.mpr c12
                        have c12b2 : ¬ (((rd_T42 l0 (ji9)).f2) = []) := fun h_ => c12 (by rw [h_]; rfl)
                        have H' := Aside0.mk H
                        clear H
                        have p105 : 0 ≤ (x7_1 : Int) := of_decide_eq_true (by first | (with_reducible assumption) | assumption)
                        have q105 : x7_1 < (l0.length : Int) := of_decide_eq_true (by first | (with_reducible assumption) | assumption)
                        obtain ⟨ad105, A105_2, c105_2, e105, hx105_0, hx105_1, hx105_2, hl105_2, hi105_2⟩ := at_T42 HR0.out x7_1 p105 q105
                        cases e105
                        replace hx105_0 := (HB.out.cell (World.block_lt_of_cell? w _ hx105_0)).trans hx105_0
                        replace hx105_1 := (HB.out.cell (World.block_lt_of_cell? w _ hx105_1)).trans hx105_1
                        replace hx105_2 := (HB.out.cell (World.block_lt_of_cell? w _ hx105_2)).trans hx105_2
                        have HR105_2 := Aside0.mk hi105_2
                        have HC105_2 := Aside0.mk hl105_2
                        clear hi105_2 hl105_2
                        replace p105 := eq_true p105
                        replace q105 := eq_true q105
                        go_wp2_with (first | ((with_reducible refine gate_dst (N := 4) rfl ?_); (try (refine gate_guard (by rfl) ?_; dsimp only)); refine box_event ?hg (N := 4) ?hd (cs := #[.string (⟨#[]⟩ : ByteArray), .int .u8 0, .slice none 0 0]) (t := 42) ?hr ?_; (case hd => rfl); (case hg => rfl); (case hr => first | (go_simp; done) | (go_simp; rfl)); intro gb106 hg w17 hbox hb; have n0_ := Aside0.mk (below_step (by repeat (first | (with_reducible first | exact HB.out | apply below_alloc | apply pw_below_drewN | apply below_drew1) | exact HB.out)) hb); have n1_ := Aside0.mk (hbox); have n2_ := Aside0.mk ((by rw [hg]; exact (below_size (by repeat (first | (with_reducible first | exact HB.out | apply below_alloc | apply pw_below_drewN | apply below_drew1) | exact HB.out))) : w.heap.size ≤ gb106)); have n3_ := Aside0.mk ((by rw [hg]; exact (below_size (by repeat (first | (with_reducible first | exact HB.out | apply below_alloc | apply pw_below_drewN | apply below_drew1) | exact HB.out))) : w.heap.size ≤ gb106)); clear HB; have HB := n0_; have BK106 := n1_; have GW106 := n2_; have GE106 := n3_; clear n0_ n1_ n2_ n3_; clear hb hbox hg; have hcz18_0 : w17.cell? ⟨gb106, 0, none⟩ = some (.string (⟨#[]⟩ : ByteArray)) := (blk_cell BK106.out 0).trans rfl; have hcz18_1 : w17.cell? ⟨gb106, 1, none⟩ = some (.int .u8 0) := (blk_cell BK106.out 1).trans rfl; have hcz18_2 : w17.cell? ⟨gb106, 2, none⟩ = some (.slice none 0 0) := (blk_cell BK106.out 2).trans rfl; have hfz18_0 := blk_frozen BK106.out 0; have hfz18_1 := blk_frozen BK106.out 1; have hfz18_2 := blk_frozen BK106.out 2) | ((with_reducible refine gate_callee (f := 29) rfl ?_); refine goesL_ (some 13) rfl rfl Try.func29 (by kernel_rfl) rfl #[.agg #[.string ((rd_T42 l0 x7_1).f0), .int .u8 ((rd_T42 l0 x7_1).f1), .slice A105_2 ((rd_T42 l0 x7_1).f2).length c105_2]] rfl (by (try simp only [List.map_toArray, List.map_cons, List.map_nil]); first | done | rfl | (simp only [List.length_drop, List.length_take]; rfl)) ?_; (with_reducible refine (tmpl_fine.calls ((rd_T42 l0 x7_1).f0) ((rd_T42 l0 x7_1).f1) _ _ ((rd_T42 l0 x7_1).f2) true _ ?side1 ?side2 A5.out).mono ?_); (case side1 => exact Kd.C_below HR105_2.out (by repeat (first | (with_reducible first | exact HB.out | apply below_alloc | apply pw_below_drewN | apply below_drew1 | refine below_set ?_ GE106.out) | exact HB.out))); (case side2 => exact HC105_2.out); rintro e w19 ⟨rfl, hb⟩; refine ⟨_, rfl, ?_⟩; have n0_ := Aside0.mk (blk_below (g := gb106) (o := .cells #[.string ((rd_T42 l0 x7_1).f0), .int .u8 ((rd_T42 l0 x7_1).f1), .slice A105_2 ((rd_T42 l0 x7_1).f2).length c105_2] 42 (0, 0)) (by (with_reducible repeat (first | refine blk_drewN ?_ _ | refine blk_drew ?_ | refine blk_alloc ?_ _)); refine blk_put (cs := #[.string ((rd_T42 l0 x7_1).f0), .int .u8 ((rd_T42 l0 x7_1).f1), .slice none 0 0]) ?_ 2 _ rfl; (with_reducible repeat (first | refine blk_drewN ?_ _ | refine blk_drew ?_ | refine blk_alloc ?_ _)); refine blk_put (cs := #[.string ((rd_T42 l0 x7_1).f0), .int .u8 0, .slice none 0 0]) ?_ 1 _ rfl; (with_reducible repeat (first | refine blk_drewN ?_ _ | refine blk_drew ?_ | refine blk_alloc ?_ _)); refine blk_put (cs := #[.string (⟨#[]⟩ : ByteArray), .int .u8 0, .slice none 0 0]) ?_ 0 _ rfl; (with_reducible repeat (first | refine blk_drewN ?_ _ | refine blk_drew ?_ | refine blk_alloc ?_ _)); exact BK106.out) hb); have n1_ := Aside0.mk (below_step (by repeat (first | (with_reducible first | exact HB.out | apply below_alloc | apply pw_below_drewN | apply below_drew1 | refine below_set ?_ GE106.out) | exact HB.out)) hb); clear BK106; clear HB; have BK106 := n0_; have HB := n1_; clear n0_ n1_; (try clear hb); (try clear hb2); (try clear hk); (try clear hi); have hcz20_0 : w19.cell? ⟨gb106, 0, none⟩ = some (.string ((rd_T42 l0 x7_1).f0)) := (blk_cell BK106.out 0).trans rfl; have hcz20_1 : w19.cell? ⟨gb106, 1, none⟩ = some (.int .u8 ((rd_T42 l0 x7_1).f1)) := (blk_cell BK106.out 1).trans rfl; have hcz20_2 : w19.cell? ⟨gb106, 2, none⟩ = some (.slice A105_2 ((rd_T42 l0 x7_1).f2).length c105_2) := (blk_cell BK106.out 2).trans rfl; have hfz20_0 := blk_frozen BK106.out 0; have hfz20_1 := blk_frozen BK106.out 1; have hfz20_2 := blk_frozen BK106.out 2; have p108 : 0 ≤ ((ji9) : Int) := of_decide_eq_true (by first | (with_reducible assumption) | assumption); have q108 : (ji9) < (l0.length : Int) := of_decide_eq_true (by first | (with_reducible assumption) | assumption); obtain ⟨ad108, A108_2, c108_2, e108, hx108_0, hx108_1, hx108_2, hl108_2, hi108_2⟩ := at_T42 HR0.out (ji9) p108 q108; obtain rfl : ad105 = ad108 := (by injection e108); replace hx108_0 := (HB.out.cell (World.block_lt_of_cell? w _ hx108_0)).trans hx108_0; replace hx108_1 := (HB.out.cell (World.block_lt_of_cell? w _ hx108_1)).trans hx108_1; replace hx108_2 := (HB.out.cell (World.block_lt_of_cell? w _ hx108_2)).trans hx108_2; have HR108_2 := Aside0.mk hi108_2; have HC108_2 := Aside0.mk hl108_2; clear hi108_2 hl108_2; replace p108 := eq_true p108; replace q108 := eq_true q108))
                        go_roundg k1
                        case measure => have := HK1.out; omega
                        case rel => exact ⟨(wrap64 (x7_1 + 1)), (by first | rfl | (simp; done) | (simp [*]; done)), H', ⟨by have := HK1.out; omega⟩, ⟨by repeat (first | (with_reducible first | exact HB.out | apply below_alloc | apply pw_below_drewN | apply below_drew1 | refine below_set ?_ GE106.out) | exact HB.out)⟩⟩
                    · rw [if_neg c11] at H
                      exact absurd H (by simp)
                  · rw [if_neg c10] at H
                    exact absurd H (by simp)
                · rw [if_neg c8] at H
                  have c8b0 : ((((rd_T42 l0 x7_1).f2).length : Int) == 0) = false := beq_eq_false_iff_ne.mpr c8
                  have c8b1 : ((((rd_T42 l0 x7_1).f2).length : Int) != 0) = true := bne_iff_ne.mpr c8
                  have c8b2 : ¬ (((rd_T42 l0 x7_1).f2) = []) := fun h_ => c8 (by rw [h_]; rfl)
                  have H' := Aside0.mk H
                  clear H
                  have p105 : 0 ≤ (x7_1 : Int) := of_decide_eq_true (by first | (with_reducible assumption) | assumption)
                  have q105 : x7_1 < (l0.length : Int) := of_decide_eq_true (by first | (with_reducible assumption) | assumption)
                  obtain ⟨ad105, A105_2, c105_2, e105, hx105_0, hx105_1, hx105_2, hl105_2, hi105_2⟩ := at_T42 HR0.out x7_1 p105 q105
                  cases e105
                  replace hx105_0 := (HB.out.cell (World.block_lt_of_cell? w _ hx105_0)).trans hx105_0
                  replace hx105_1 := (HB.out.cell (World.block_lt_of_cell? w _ hx105_1)).trans hx105_1
                  replace hx105_2 := (HB.out.cell (World.block_lt_of_cell? w _ hx105_2)).trans hx105_2
                  have HR105_2 := Aside0.mk hi105_2
                  have HC105_2 := Aside0.mk hl105_2
                  clear hi105_2 hl105_2
                  replace p105 := eq_true p105
                  replace q105 := eq_true q105
                  go_wp2_with (first | ((with_reducible refine gate_dst (N := 4) rfl ?_); (try (refine gate_guard (by rfl) ?_; dsimp only)); refine box_event ?hg (N := 4) ?hd (cs := #[.string (⟨#[]⟩ : ByteArray), .int .u8 0, .slice none 0 0]) (t := 42) ?hr ?_; (case hd => rfl); (case hg => rfl); (case hr => first | (go_simp; done) | (go_simp; rfl)); intro gb106 hg w21 hbox hb; have n0_ := Aside0.mk (below_step (by repeat (first | (with_reducible first | exact HB.out | apply below_alloc | apply pw_below_drewN | apply below_drew1) | exact HB.out)) hb); have n1_ := Aside0.mk (hbox); have n2_ := Aside0.mk ((by rw [hg]; exact (below_size (by repeat (first | (with_reducible first | exact HB.out | apply below_alloc | apply pw_below_drewN | apply below_drew1) | exact HB.out))) : w.heap.size ≤ gb106)); have n3_ := Aside0.mk ((by rw [hg]; exact (below_size (by repeat (first | (with_reducible first | exact HB.out | apply below_alloc | apply pw_below_drewN | apply below_drew1) | exact HB.out))) : w.heap.size ≤ gb106)); clear HB; have HB := n0_; have BK106 := n1_; have GW106 := n2_; have GE106 := n3_; clear n0_ n1_ n2_ n3_; clear hb hbox hg; have hcz22_0 : w21.cell? ⟨gb106, 0, none⟩ = some (.string (⟨#[]⟩ : ByteArray)) := (blk_cell BK106.out 0).trans rfl; have hcz22_1 : w21.cell? ⟨gb106, 1, none⟩ = some (.int .u8 0) := (blk_cell BK106.out 1).trans rfl; have hcz22_2 : w21.cell? ⟨gb106, 2, none⟩ = some (.slice none 0 0) := (blk_cell BK106.out 2).trans rfl; have hfz22_0 := blk_frozen BK106.out 0; have hfz22_1 := blk_frozen BK106.out 1; have hfz22_2 := blk_frozen BK106.out 2) | ((with_reducible refine gate_callee (f := 29) rfl ?_); refine goesL_ (some 13) rfl rfl Try.func29 (by kernel_rfl) rfl #[.agg #[.string ((rd_T42 l0 x7_1).f0), .int .u8 ((rd_T42 l0 x7_1).f1), .slice A105_2 ((rd_T42 l0 x7_1).f2).length c105_2]] rfl (by (try simp only [List.map_toArray, List.map_cons, List.map_nil]); first | done | rfl | (simp only [List.length_drop, List.length_take]; rfl)) ?_; (with_reducible refine (tmpl_fine.calls ((rd_T42 l0 x7_1).f0) ((rd_T42 l0 x7_1).f1) _ _ ((rd_T42 l0 x7_1).f2) true _ ?side1 ?side2 A5.out).mono ?_); (case side1 => exact Kd.C_below HR105_2.out (by repeat (first | (with_reducible first | exact HB.out | apply below_alloc | apply pw_below_drewN | apply below_drew1 | refine below_set ?_ GE106.out) | exact HB.out))); (case side2 => exact HC105_2.out); rintro e w23 ⟨rfl, hb⟩; refine ⟨_, rfl, ?_⟩; have n0_ := Aside0.mk (blk_below (g := gb106) (o := .cells #[.string ((rd_T42 l0 x7_1).f0), .int .u8 ((rd_T42 l0 x7_1).f1), .slice A105_2 ((rd_T42 l0 x7_1).f2).length c105_2] 42 (0, 0)) (by (with_reducible repeat (first | refine blk_drewN ?_ _ | refine blk_drew ?_ | refine blk_alloc ?_ _)); refine blk_put (cs := #[.string ((rd_T42 l0 x7_1).f0), .int .u8 ((rd_T42 l0 x7_1).f1), .slice none 0 0]) ?_ 2 _ rfl; (with_reducible repeat (first | refine blk_drewN ?_ _ | refine blk_drew ?_ | refine blk_alloc ?_ _)); refine blk_put (cs := #[.string ((rd_T42 l0 x7_1).f0), .int .u8 0, .slice none 0 0]) ?_ 1 _ rfl; (with_reducible repeat (first | refine blk_drewN ?_ _ | refine blk_drew ?_ | refine blk_alloc ?_ _)); refine blk_put (cs := #[.string (⟨#[]⟩ : ByteArray), .int .u8 0, .slice none 0 0]) ?_ 0 _ rfl; (with_reducible repeat (first | refine blk_drewN ?_ _ | refine blk_drew ?_ | refine blk_alloc ?_ _)); exact BK106.out) hb); have n1_ := Aside0.mk (below_step (by repeat (first | (with_reducible first | exact HB.out | apply below_alloc | apply pw_below_drewN | apply below_drew1 | refine below_set ?_ GE106.out) | exact HB.out)) hb); clear BK106; clear HB; have BK106 := n0_; have HB := n1_; clear n0_ n1_; (try clear hb); (try clear hb2); (try clear hk); (try clear hi); have hcz24_0 : w23.cell? ⟨gb106, 0, none⟩ = some (.string ((rd_T42 l0 x7_1).f0)) := (blk_cell BK106.out 0).trans rfl; have hcz24_1 : w23.cell? ⟨gb106, 1, none⟩ = some (.int .u8 ((rd_T42 l0 x7_1).f1)) := (blk_cell BK106.out 1).trans rfl; have hcz24_2 : w23.cell? ⟨gb106, 2, none⟩ = some (.slice A105_2 ((rd_T42 l0 x7_1).f2).length c105_2) := (blk_cell BK106.out 2).trans rfl; have hfz24_0 := blk_frozen BK106.out 0; have hfz24_1 := blk_frozen BK106.out 1; have hfz24_2 := blk_frozen BK106.out 2))
                  go_roundg k1
                  case measure => have := HK1.out; omega
                  case rel => exact ⟨(wrap64 (x7_1 + 1)), (by first | rfl | (simp; done) | (simp [*]; done)), H', ⟨by have := HK1.out; omega⟩, ⟨by repeat (first | (with_reducible first | exact HB.out | apply below_alloc | apply pw_below_drewN | apply below_drew1 | refine below_set ?_ GE106.out) | exact HB.out)⟩⟩
              · rw [if_neg c7] at H
                have c7b0 : decide (0 < x7_1) = false := decide_eq_false c7
                clear c7
                have H' := Aside0.mk H
                clear H
                have p105 : 0 ≤ (x7_1 : Int) := of_decide_eq_true (by first | (with_reducible assumption) | assumption)
                have q105 : x7_1 < (l0.length : Int) := of_decide_eq_true (by first | (with_reducible assumption) | assumption)
                obtain ⟨ad105, A105_2, c105_2, e105, hx105_0, hx105_1, hx105_2, hl105_2, hi105_2⟩ := at_T42 HR0.out x7_1 p105 q105
                cases e105
                replace hx105_0 := (HB.out.cell (World.block_lt_of_cell? w _ hx105_0)).trans hx105_0
                replace hx105_1 := (HB.out.cell (World.block_lt_of_cell? w _ hx105_1)).trans hx105_1
                replace hx105_2 := (HB.out.cell (World.block_lt_of_cell? w _ hx105_2)).trans hx105_2
                have HR105_2 := Aside0.mk hi105_2
                have HC105_2 := Aside0.mk hl105_2
                clear hi105_2 hl105_2
                replace p105 := eq_true p105
                replace q105 := eq_true q105
                go_wp2_with (first | ((with_reducible refine gate_dst (N := 4) rfl ?_); (try (refine gate_guard (by rfl) ?_; dsimp only)); refine box_event ?hg (N := 4) ?hd (cs := #[.string (⟨#[]⟩ : ByteArray), .int .u8 0, .slice none 0 0]) (t := 42) ?hr ?_; (case hd => rfl); (case hg => rfl); (case hr => first | (go_simp; done) | (go_simp; rfl)); intro gb106 hg w25 hbox hb; have n0_ := Aside0.mk (below_step (by repeat (first | (with_reducible first | exact HB.out | apply below_alloc | apply pw_below_drewN | apply below_drew1) | exact HB.out)) hb); have n1_ := Aside0.mk (hbox); have n2_ := Aside0.mk ((by rw [hg]; exact (below_size (by repeat (first | (with_reducible first | exact HB.out | apply below_alloc | apply pw_below_drewN | apply below_drew1) | exact HB.out))) : w.heap.size ≤ gb106)); have n3_ := Aside0.mk ((by rw [hg]; exact (below_size (by repeat (first | (with_reducible first | exact HB.out | apply below_alloc | apply pw_below_drewN | apply below_drew1) | exact HB.out))) : w.heap.size ≤ gb106)); clear HB; have HB := n0_; have BK106 := n1_; have GW106 := n2_; have GE106 := n3_; clear n0_ n1_ n2_ n3_; clear hb hbox hg; have hcz26_0 : w25.cell? ⟨gb106, 0, none⟩ = some (.string (⟨#[]⟩ : ByteArray)) := (blk_cell BK106.out 0).trans rfl; have hcz26_1 : w25.cell? ⟨gb106, 1, none⟩ = some (.int .u8 0) := (blk_cell BK106.out 1).trans rfl; have hcz26_2 : w25.cell? ⟨gb106, 2, none⟩ = some (.slice none 0 0) := (blk_cell BK106.out 2).trans rfl; have hfz26_0 := blk_frozen BK106.out 0; have hfz26_1 := blk_frozen BK106.out 1; have hfz26_2 := blk_frozen BK106.out 2) | ((with_reducible refine gate_callee (f := 29) rfl ?_); refine goesL_ (some 13) rfl rfl Try.func29 (by kernel_rfl) rfl #[.agg #[.string ((rd_T42 l0 x7_1).f0), .int .u8 ((rd_T42 l0 x7_1).f1), .slice A105_2 ((rd_T42 l0 x7_1).f2).length c105_2]] rfl (by (try simp only [List.map_toArray, List.map_cons, List.map_nil]); first | done | rfl | (simp only [List.length_drop, List.length_take]; rfl)) ?_; (with_reducible refine (tmpl_fine.calls ((rd_T42 l0 x7_1).f0) ((rd_T42 l0 x7_1).f1) _ _ ((rd_T42 l0 x7_1).f2) true _ ?side1 ?side2 A5.out).mono ?_); (case side1 => exact Kd.C_below HR105_2.out (by repeat (first | (with_reducible first | exact HB.out | apply below_alloc | apply pw_below_drewN | apply below_drew1 | refine below_set ?_ GE106.out) | exact HB.out))); (case side2 => exact HC105_2.out); rintro e w27 ⟨rfl, hb⟩; refine ⟨_, rfl, ?_⟩; have n0_ := Aside0.mk (blk_below (g := gb106) (o := .cells #[.string ((rd_T42 l0 x7_1).f0), .int .u8 ((rd_T42 l0 x7_1).f1), .slice A105_2 ((rd_T42 l0 x7_1).f2).length c105_2] 42 (0, 0)) (by (with_reducible repeat (first | refine blk_drewN ?_ _ | refine blk_drew ?_ | refine blk_alloc ?_ _)); refine blk_put (cs := #[.string ((rd_T42 l0 x7_1).f0), .int .u8 ((rd_T42 l0 x7_1).f1), .slice none 0 0]) ?_ 2 _ rfl; (with_reducible repeat (first | refine blk_drewN ?_ _ | refine blk_drew ?_ | refine blk_alloc ?_ _)); refine blk_put (cs := #[.string ((rd_T42 l0 x7_1).f0), .int .u8 0, .slice none 0 0]) ?_ 1 _ rfl; (with_reducible repeat (first | refine blk_drewN ?_ _ | refine blk_drew ?_ | refine blk_alloc ?_ _)); refine blk_put (cs := #[.string (⟨#[]⟩ : ByteArray), .int .u8 0, .slice none 0 0]) ?_ 0 _ rfl; (with_reducible repeat (first | refine blk_drewN ?_ _ | refine blk_drew ?_ | refine blk_alloc ?_ _)); exact BK106.out) hb); have n1_ := Aside0.mk (below_step (by repeat (first | (with_reducible first | exact HB.out | apply below_alloc | apply pw_below_drewN | apply below_drew1 | refine below_set ?_ GE106.out) | exact HB.out)) hb); clear BK106; clear HB; have BK106 := n0_; have HB := n1_; clear n0_ n1_; (try clear hb); (try clear hb2); (try clear hk); (try clear hi)))
                go_roundg k1
                case measure => have := HK1.out; omega
                case rel => exact ⟨(wrap64 (x7_1 + 1)), (by first | rfl | (simp; done) | (simp [*]; done)), H', ⟨by have := HK1.out; omega⟩, ⟨by repeat (first | (with_reducible first | exact HB.out | apply below_alloc | apply pw_below_drewN | apply below_drew1 | refine below_set ?_ GE106.out) | exact HB.out)⟩⟩
            · replace c6 := Bool.eq_false_iff.mpr c6
              subst c6
              have H1 : (some false) = some r := by rw [if_neg (show ¬ (false = true) by decide)] at H; exact H
              clear H
              have H := H1
              clear H1
              obtain rfl := Option.some.inj H
              have p105 : 0 ≤ (x7_1 : Int) := of_decide_eq_true (by first | (with_reducible assumption) | assumption)
              have q105 : x7_1 < (l0.length : Int) := of_decide_eq_true (by first | (with_reducible assumption) | assumption)
              obtain ⟨ad105, A105_2, c105_2, e105, hx105_0, hx105_1, hx105_2, hl105_2, hi105_2⟩ := at_T42 HR0.out x7_1 p105 q105
              cases e105
              replace hx105_0 := (HB.out.cell (World.block_lt_of_cell? w _ hx105_0)).trans hx105_0
              replace hx105_1 := (HB.out.cell (World.block_lt_of_cell? w _ hx105_1)).trans hx105_1
              replace hx105_2 := (HB.out.cell (World.block_lt_of_cell? w _ hx105_2)).trans hx105_2
              have HR105_2 := Aside0.mk hi105_2
              have HC105_2 := Aside0.mk hl105_2
              clear hi105_2 hl105_2
              replace p105 := eq_true p105
              replace q105 := eq_true q105
              go_wp2_with (first | ((with_reducible refine gate_dst (N := 4) rfl ?_); (try (refine gate_guard (by rfl) ?_; dsimp only)); refine box_event ?hg (N := 4) ?hd (cs := #[.string (⟨#[]⟩ : ByteArray), .int .u8 0, .slice none 0 0]) (t := 42) ?hr ?_; (case hd => rfl); (case hg => rfl); (case hr => first | (go_simp; done) | (go_simp; rfl)); intro gb106 hg w28 hbox hb; have n0_ := Aside0.mk (below_step (by repeat (first | (with_reducible first | exact HB.out | apply below_alloc | apply pw_below_drewN | apply below_drew1) | exact HB.out)) hb); have n1_ := Aside0.mk (hbox); have n2_ := Aside0.mk ((by rw [hg]; exact (below_size (by repeat (first | (with_reducible first | exact HB.out | apply below_alloc | apply pw_below_drewN | apply below_drew1) | exact HB.out))) : w.heap.size ≤ gb106)); have n3_ := Aside0.mk ((by rw [hg]; exact (below_size (by repeat (first | (with_reducible first | exact HB.out | apply below_alloc | apply pw_below_drewN | apply below_drew1) | exact HB.out))) : w.heap.size ≤ gb106)); clear HB; have HB := n0_; have BK106 := n1_; have GW106 := n2_; have GE106 := n3_; clear n0_ n1_ n2_ n3_; clear hb hbox hg; have hcz29_0 : w28.cell? ⟨gb106, 0, none⟩ = some (.string (⟨#[]⟩ : ByteArray)) := (blk_cell BK106.out 0).trans rfl; have hcz29_1 : w28.cell? ⟨gb106, 1, none⟩ = some (.int .u8 0) := (blk_cell BK106.out 1).trans rfl; have hcz29_2 : w28.cell? ⟨gb106, 2, none⟩ = some (.slice none 0 0) := (blk_cell BK106.out 2).trans rfl; have hfz29_0 := blk_frozen BK106.out 0; have hfz29_1 := blk_frozen BK106.out 1; have hfz29_2 := blk_frozen BK106.out 2) | ((with_reducible refine gate_callee (f := 29) rfl ?_); refine goesL_ (some 13) rfl rfl Try.func29 (by kernel_rfl) rfl #[.agg #[.string ((rd_T42 l0 x7_1).f0), .int .u8 ((rd_T42 l0 x7_1).f1), .slice A105_2 ((rd_T42 l0 x7_1).f2).length c105_2]] rfl (by (try simp only [List.map_toArray, List.map_cons, List.map_nil]); first | done | rfl | (simp only [List.length_drop, List.length_take]; rfl)) ?_; (with_reducible refine (tmpl_fine.calls ((rd_T42 l0 x7_1).f0) ((rd_T42 l0 x7_1).f1) _ _ ((rd_T42 l0 x7_1).f2) false _ ?side1 ?side2 A5.out).mono ?_); (case side1 => exact Kd.C_below HR105_2.out (by repeat (first | (with_reducible first | exact HB.out | apply below_alloc | apply pw_below_drewN | apply below_drew1 | refine below_set ?_ GE106.out) | exact HB.out))); (case side2 => exact HC105_2.out); rintro e w30 ⟨rfl, hb⟩; refine ⟨_, rfl, ?_⟩; have n0_ := Aside0.mk (blk_below (g := gb106) (o := .cells #[.string ((rd_T42 l0 x7_1).f0), .int .u8 ((rd_T42 l0 x7_1).f1), .slice A105_2 ((rd_T42 l0 x7_1).f2).length c105_2] 42 (0, 0)) (by (with_reducible repeat (first | refine blk_drewN ?_ _ | refine blk_drew ?_ | refine blk_alloc ?_ _)); refine blk_put (cs := #[.string ((rd_T42 l0 x7_1).f0), .int .u8 ((rd_T42 l0 x7_1).f1), .slice none 0 0]) ?_ 2 _ rfl; (with_reducible repeat (first | refine blk_drewN ?_ _ | refine blk_drew ?_ | refine blk_alloc ?_ _)); refine blk_put (cs := #[.string ((rd_T42 l0 x7_1).f0), .int .u8 0, .slice none 0 0]) ?_ 1 _ rfl; (with_reducible repeat (first | refine blk_drewN ?_ _ | refine blk_drew ?_ | refine blk_alloc ?_ _)); refine blk_put (cs := #[.string (⟨#[]⟩ : ByteArray), .int .u8 0, .slice none 0 0]) ?_ 0 _ rfl; (with_reducible repeat (first | refine blk_drewN ?_ _ | refine blk_drew ?_ | refine blk_alloc ?_ _)); exact BK106.out) hb); have n1_ := Aside0.mk (below_step (by repeat (first | (with_reducible first | exact HB.out | apply below_alloc | apply pw_below_drewN | apply below_drew1 | refine below_set ?_ GE106.out) | exact HB.out)) hb); clear BK106; clear HB; have BK106 := n0_; have HB := n1_; clear n0_ n1_; (try clear hb); (try clear hb2); (try clear hk); (try clear hi)))
              go_ret
              exact ⟨by first | rfl | (simp [errW_none, errW_some] <;> rfl) | (simp [*, errW_none, errW_some] <;> rfl), by repeat (first | (with_reducible first | exact HB.out | apply below_alloc | apply pw_below_drewN | apply below_drew1 | refine below_set ?_ GE106.out) | exact HB.out)⟩
          · rw [if_neg c4] at H
            exact absurd H (by simp)
        · rw [if_neg c3] at H
          exact absurd H (by simp)
      · rw [if_neg c2] at H
        have c2b0 : decide (x7_1 < (l0.length : Int)) = false := decide_eq_false c2
        clear c2
        obtain rfl := Option.some.inj H
        go_wp2
        go_ret
        exact ⟨by first | rfl | (simp [errW_none, errW_some] <;> rfl) | (simp [*, errW_none, errW_some] <;> rfl), by repeat (first | (with_reducible first | exact HB.out | apply below_alloc | apply pw_below_drewN | apply below_drew1) | exact HB.out)⟩

end Go.Proofs.Ytjhihohofhhknaa.PA
