/- Texts of this claim, those that nothing needs left out: Zmd Zme Zmf. -/
import Derived.Shelf.SlSortCmp.NoneTotal
import Derived.Test.YtacnflelkpkbhaaMtG8
import Derived.Test.YtacnflelkpkbhaaMtG10
import Derived.Test.YtacnflelkpkbhaaMtG3
import Derived.Test.YtacnflelkpkbhaaMtG1
section
namespace Go.Proofs.Ytacnflelkpkbhaa.PA
set_option linter.unusedSimpArgs false
set_option linter.unusedVariables false
open Go.RowKit Go.Shelf Go.Lib Go.Sort Go.Proofs.YtacnflelkpkbhaaW.PrintWords Go.Proofs.YtacnflelkpkbhaaW.PrintLast
structure E8 where
  lo : UInt8
  hi : Int
  dst : Int
deriving Inhabited
def E8.ed (x : E8) : S48 := ⟨x.lo.toNat, x.hi, x.dst⟩
def encE (x : E8) : List Value := [.int .u8 x.lo.toNat, .int .u8 x.hi, .int .i64 x.dst]
def cfE (x y : E8) : Int := (x.lo.toNat : Int) - y.lo.toNat
theorem ltE (x y : E8) : ltOf cfE x y = decide (x.lo.toNat < y.lo.toNat) := by
  unfold ltOf cfE
  congr 1
  exact propext ⟨fun h => by omega, fun h => by omega⟩
theorem swoE : SWO (ltOf cfE) where
  irrefl x := by rw [ltE]; simp
  trans x y z h1 h2 := by rw [ltE] at *; simp at *; omega
  ntrans x y z h1 h2 := by rw [ltE] at *; simp at *; omega
theorem cmp_closure (x y : E8) (W : World) : Calls Try.prog 40 #[.agg #[.int .u8 x.lo.toNat, .int .u8 x.hi, .int .i64 x.dst], .agg #[.int .u8 y.lo.toNat, .int .u8 y.hi, .int .i64 y.dst]] W fun e w' => e = .returned (.int .i64 (cfE x y)) ∧ ∃ q os', w' = grow (W.drewN q) os' := by
  have hx := x.lo.toNat_lt
  have hy := y.lo.toNat_lt
  obtain ⟨a, ha⟩ : ∃ a : Nat, a = x.lo.toNat := ⟨_, rfl⟩
  obtain ⟨b, hb⟩ : ∃ b : Nat, b = y.lo.toNat := ⟨_, rfl⟩
  unfold cfE
  rw [← ha, ← hb]
  rw [← ha] at hx
  rw [← hb] at hy
  clear ha hb
  have w1 : IntKind.i64.wrap (a : Int) = a := by rw [i64_w]; unfold wrap64; omega
  have w2 : IntKind.i64.wrap (b : Int) = b := by rw [i64_w]; unfold wrap64; omega
  have w3 : IntKind.i64.wrap ((a : Int) - b) = (a : Int) - b := by rw [i64_w]; unfold wrap64; omega
  go_enter Try.func40, Try.ntmps40
  go_wp2_with fail
  go_ret
  exact ⟨rfl, 0, _, by rw [alloc_eq_grow, alloc_eq_grow, grow_grow]; rfl⟩
theorem grownBy_sortK (w : World) (g off n : Nat) (d : Array E8) (os : Array Obj) : w.grownBy (sortWorldK encE 3 w g off n d os) (some g) := by
  refine ⟨rfl, rfl, rfl, ?_, fun i hi hne => ?_⟩
  · show w.heap.size ≤ (w.heap.modify g _ ++ os).size
    rw [Array.size_append, Array.size_modify]
    omega
  · show (w.heap.modify g _ ++ os)[i]? = w.heap[i]?
    rw [Array.getElem?_append_left (by rw [Array.size_modify]; exact hi), Array.getElem?_modify, if_neg (fun e => hne (by rw [e]))]
theorem flat_at (d : Array E8) (j : Nat) (h : j < d.size * 3) : (flatK encE 3 d)[j]! = (eflat (d.toList.map E8.ed))[j]'(by rw [eflat_len]; simp; omega) := by
  rw [get_flatK _ _ _ _ h]
  have key : ∀ (l : List E8) (i : Nat) (h : i < (eflat (l.map E8.ed)).length), (eflat (l.map E8.ed))[i] = (encE l[i / 3]!)[i % 3]! := by
    intro l
    induction l with
    | nil => intro i h; simp [eflat] at h
    | cons x r ih =>
      intro i h
      have e : eflat ((x :: r).map E8.ed) = encE x ++ eflat (r.map E8.ed) := by simp [eflat, ecs, encE, E8.ed]
      by_cases h3 : i < 3
      · have e1 : i / 3 = 0 := by omega
        have e2 : i % 3 = i := by omega
        rw [e1, e2]
        simp only [e]
        rw [List.getElem_append_left (by simpa [encE] using h3)]
        rw [getElem!_pos _ i (by simpa [encE] using h3)]
        rfl
      · simp only [e]
        rw [List.getElem_append_right (by simp [encE]; omega)]
        rw [ih]
        have e1 : i / 3 = (i - 3) / 3 + 1 := by omega
        have e2 : i % 3 = (i - 3) % 3 := by omega
        simp only [encE, List.length_cons, List.length_nil]
        rw [e1, e2]
        rfl
  rw [key]
  have hq : j / 3 < d.size := by omega
  rw [getElem!_pos d _ hq, getElem!_pos d.toList _ (by simpa using hq), Array.getElem_toList]
theorem holds_row {w : World} {g : Nat} {cur : Array Value} {t : TypeId} (hb : w.heap[g]? = some (.cells cur t (0, 0))) (d : Array E8) (h : cur.toList.take (d.size * 3) = eflat (d.toList.map E8.ed)) : HoldsK encE 3 w g 0 d := by
  intro j hj
  rw [size_flatK] at hj
  refine ⟨?_, blk_frozen hb _⟩
  rw [Nat.zero_add, blk_cell hb, flat_at d j hj]
  have h1 : (eflat (d.toList.map E8.ed))[j]? = cur[j]? := by
    rw [← h, List.getElem?_take_of_lt hj, Array.getElem?_toList]
  rw [← h1, List.getElem?_eq_getElem (by rw [eflat_len]; simp; omega)]
  rfl
theorem reads_holds {w : World} {g : Nat} {d : Array E8} (h : HoldsK encE 3 w g 0 d) (hsz : d.size ≤ 1000000) : Kd.C k48 w (some ⟨g, 0, none⟩) d.size (d.toList.map E8.ed) := by
  refine ⟨by simp, by omega, fun _ => ⟨_, rfl, fun j p hj => ?_⟩⟩
  have hlt : j < d.size := by have := (List.getElem?_eq_some_iff.1 hj).1; simpa using this
  have hp : p = (d[j]).ed := by
    rw [List.getElem?_map, Array.getElem?_toList, Array.getElem?_eq_getElem hlt] at hj
    exact (Option.some.inj hj).symm
  subst hp
  refine ⟨ecs (d[j]).ed, rfl, k48_mk w _, fun i u hu => ?_⟩
  have hi : i < 3 := by have := (List.getElem?_eq_some_iff.1 hu).1; simpa [ecs] using this
  have h1 := (h (j * 3 + i) (by rw [size_flatK]; omega)).1
  rw [get_flatK _ _ _ _ (by omega)] at h1
  rw [show (j * 3 + i) / 3 = j by omega, show (j * 3 + i) % 3 = i by omega, getElem!_pos d j hlt] at h1
  have e : ecs (d[j]).ed = encE d[j] := rfl
  rw [e] at hu
  rw [getElem!_pos _ i (by simpa [encE] using hi)] at h1
  rw [List.getElem?_eq_getElem (by simpa [encE] using hi)] at hu
  obtain rfl := Option.some.inj hu
  show w.cell? ((⟨g, 0, none⟩ : Addr).add (j * 3 + i)) = _
  rw [add_zero_off]
  exact h1
theorem bytes_E8 (xs : List S48) (h : ∀ e ∈ xs, 0 ≤ e.f0 ∧ e.f0 ≤ 255) : ∃ d : Array E8, d.toList.map E8.ed = xs := by
  refine ⟨(xs.map fun e => (⟨UInt8.ofNat e.f0.toNat, e.f1, e.f2⟩ : E8)).toArray, ?_⟩
  rw [List.toList_toArray, List.map_map]
  have key : ∀ e ∈ xs, (E8.ed ∘ fun e : S48 => (⟨UInt8.ofNat e.f0.toNat, e.f1, e.f2⟩ : E8)) e = id e := by
    intro e he
    have := h e he
    show (⟨((UInt8.ofNat e.f0.toNat).toNat : Int), e.f1, e.f2⟩ : S48) = e
    have h2 : ((UInt8.ofNat e.f0.toNat).toNat : Int) = e.f0 := by
      rw [UInt8.toNat_ofNat']
      omega
    rw [h2]
  rw [List.map_congr_left key, List.map_id]
theorem sorted_list {d : Array E8} (h : SortedIn (ltOf cfE) 0 d.size d) : ∀ i j (hi : i < (d.toList.map E8.ed).length) (hj : j < (d.toList.map E8.ed).length), i < j → (d.toList.map E8.ed)[i].f0 ≤ (d.toList.map E8.ed)[j].f0 := by
  intro i j hi hj hij
  have hi' : i < d.size := by simpa using hi
  have hj' : j < d.size := by simpa using hj
  have h1 := h i j (Nat.zero_le _) hij hj'
  rw [ltE, getElem!_pos d i hi', getElem!_pos d j hj'] at h1
  rw [List.getElem_map, List.getElem_map, Array.getElem_toList, Array.getElem_toList]
  simp only [decide_eq_false_iff_not] at h1
  show ((d[i]).lo.toNat : Int) ≤ ((d[j]).lo.toNat : Int)
  omega
theorem perm_list {d d' : Array E8} (h : PermIn 0 d.size d d') : (d.toList.map E8.ed).Perm (d'.toList.map E8.ed) := by
  obtain ⟨h1, _, h3⟩ := h
  rw [Array.extract_eq_self_of_le (Nat.le_refl _), Array.extract_eq_self_of_le (by rw [h1]; exact Nat.le_refl _)] at h3
  exact (h3.map _).symm
end Go.Proofs.Ytacnflelkpkbhaa.PA
end
section
namespace Go.Proofs.Ytacnflelkpkbhaa.PA
set_option linter.unusedSimpArgs false
set_option linter.unusedVariables false
open Go.RowKit Go.Shelf Go.Lib Go.Sort Go.Proofs.YtacnflelkpkbhaaW.PrintWords Go.Proofs.YtacnflelkpkbhaaW.PrintLast
set_option maxHeartbeats 4000000 in
theorem sorted_any (A : Option Addr) (c : Nat) (xs : List S48) (hx : xs.length ≤ 1000000) (hby : ∀ e ∈ xs, 0 ≤ e.f0 ∧ e.f0 ≤ 255) (Bs : Nat) (w : World) (hBs : Bs < w.heap.size)
    (hbs : w.heap[Bs]? = some (.cells #[.slice A xs.length c] 31 (0, 0))) (hr : Kd.C k48 w A xs.length xs) :
    Calls Try.prog 38 #[.func (.func 46) #[] #[.pointer (some ⟨Bs, 0, none⟩)], .func (.func 40) #[] #[]] w fun e w' =>
      ∃ A' c' ys, e = .returned (.slice A' ys.length c') ∧ xs.Perm ys ∧ (∀ i j (hi : i < ys.length) (hj : j < ys.length), i < j → ys[i].f0 ≤ ys[j].f0) ∧ Kd.C k48 w' A' ys.length ys ∧ Below w.heap.size w w' := by
  have HC := Aside0.mk (collectE Bs A c xs hx w hBs hbs (fun W' hb => Kd.C_below hr hb))
  obtain ⟨d, hd⟩ := bytes_E8 xs hby
  have hds : d.size = xs.length := by rw [← hd]; simp
  have HD := Aside0.mk hd
  have HS := Aside0.mk hds
  clear hbs hr hd hds
  go_enter Try.func38, Try.ntmps38
  go_wp2_with fail
  refine HC.out.mono ?_
  rintro e w1 ⟨v, rfl, ho, hb⟩
  rcases ho.2 with ⟨rfl, h0⟩ | ⟨g, cap, cur, rfl, hg, hgb, hcap, _, _, htk⟩
  · have HX := Aside0.mk (List.length_eq_zero_iff.1 h0)
    have HB := Aside0.mk hb
    clear ho hb h0
    have hs := AnyF.slices_SortFunc_none Try.sortE none 0 (.func (.func 40) #[] #[]) w1
    change Calls Try.prog 45 _ _ _ at hs
    have HSF := Aside0.mk hs
    clear hs
    go_wp2_with fail
    refine HSF.out.mono ?_
    rintro e w2 ⟨rfl, rfl⟩
    go_wp2_with fail
    go_ret
    exact ⟨none, 0, [], rfl, by rw [HX.out], fun i j hi => absurd hi (by simp), ⟨rfl, by simp, fun h => absurd h (by simp)⟩, HB.out⟩
  · have hH : HoldsK encE 3 w1 g 0 d := holds_row hgb d (by rw [HS.out, HD.out]; exact htk)
    have hblk := blk_lt hgb
    have eg : ∀ args w, (callFunc 40 args).run Try.prog w = .ok (.enter 40 args) w := enters_of Try.func40 (by kernel_rfl) rfl
    have hs := AnyQ.slices_SortFunc Try.sortE 3 Try.isAgg48 Try.sizeOf48 encE (fun _ => rfl) (fun x v hv => by simp [encE] at hv; rcases hv with rfl | rfl | rfl <;> rfl) cfE swoE 40 #[] g 0 cap d w1 eg (fun _ _ _ _ x y => cmp_closure x y _) hH hblk (by rw [HS.out]; omega)
    change Calls Try.prog 45 _ _ _ at hs
    rw [HS.out] at hs
    have HSF := Aside0.mk hs
    have HH := Aside0.mk hH
    have HB := Aside0.mk hb
    have HG := Aside0.mk hg
    have HL := Aside0.mk hblk
    clear hs hH hb ho hgb htk hcap hg hblk
    go_wp2_with fail
    refine HSF.out.mono ?_
    rintro e w2 ⟨rfl, d', m, os, hp, hso, rfl⟩
    rw [← HS.out] at hp hso
    have hsz : d'.size = d.size := hp.1
    have hHd := holdsK_sortWorldK encE 3 w1 g 0 m d d' os HL.out HH.out hsz
    have hgr := grownBy_sortK w1 g 0 m d' os
    have P1 := Aside0.mk (perm_list hp)
    have P2 := Aside0.mk (sorted_list (d := d') (by rw [hsz]; exact hso))
    have P3 := Aside0.mk (reads_holds hHd (by rw [hsz, HS.out]; exact hx))
    have P4 := Aside0.mk (HB.out.grown hgr (Nat.le_trans (Nat.le_refl _) HB.out.size) (fun k e => by cases e; exact HG.out))
    have P5 := Aside0.mk (show xs.length = (d'.toList.map E8.ed).length by have h1 := HS.out; simp only [List.length_map, Array.length_toList]; omega)
    clear hp hso hsz hHd hgr
    generalize sortWorldK encE 3 w1 g 0 m d' os = w2 at P3 P4 ⊢
    go_wp2_with fail
    go_ret
    exact ⟨some ⟨g, 0, none⟩, cap, d'.toList.map E8.ed, by rw [← P5.out]; rfl, by rw [← HD.out]; exact P1.out, P2.out, by have h := P3.out; rw [show d'.size = (d'.toList.map E8.ed).length by simp] at h; exact h, P4.out⟩
theorem fine_bad {many : Int} {ys : List S48} {k : Nat} (hk : k < ys.length) {x : S48} (hx : x = ys[k]) (h : okE many x = false) : fineAt many ys k hk = false := by
  unfold fineAt
  rw [← hx, h]
  rfl
theorem fine_bad2 {many : Int} {ys : List S48} {k j : Nat} (hk : k < ys.length) {x y : S48} (hx : x = ys[k]) (hj : k = j + 1) (hj2 : j < ys.length) (hy : y = ys[j]) (h : x.f0 ≤ y.f1) : fineAt many ys k hk = false := by
  subst hj
  unfold fineAt
  simp only [Nat.add_sub_cancel]
  rw [← hx, ← hy]
  simp
  intro _
  omega
theorem fine_good {many : Int} {ys : List S48} {k : Nat} (hk : k < ys.length) {x : S48} (hx : x = ys[k]) (h : okE many x = true) (h2 : k = 0 ∨ ∃ j, k = j + 1 ∧ ∃ hj : j < ys.length, ∃ y, y = ys[j] ∧ y.f1 < x.f0) : fineAt many ys k hk = true := by
  unfold fineAt
  rw [← hx, h]
  rcases h2 with rfl | ⟨j, rfl, hj, y, hy, hlt⟩
  · rfl
  · simp only [Nat.add_sub_cancel]
    rw [← hy]
    simp [hlt]
theorem fine_upto {many : Int} {ys : List S48} {k : Nat} (hf : ∀ i (h : i < ys.length), i < k → fineAt many ys i h = true) (hk : k < ys.length) (h : fineAt many ys k hk = true) : ∀ i (h : i < ys.length), i < k + 1 → fineAt many ys i h = true := by
  intro i hi hik
  rcases Nat.lt_or_ge i k with h1 | h1
  · exact hf i hi h1
  · obtain rfl : i = k := by omega
    exact h
set_option maxHeartbeats 8000000 in
set_option maxRecDepth 100000 in
theorem eats_any (A : Option Addr) (c : Nat) (xs : List S48) (many : Int) (hx : xs.length ≤ 1000000) (hby : ∀ e ∈ xs, 0 ≤ e.f0 ∧ e.f0 ≤ 255) (w : World) (hr : Kd.C k48 w A xs.length xs) :
    Calls Try.prog 33 #[.slice A xs.length c, .int .i64 many] w fun e w' => e = .returned (.bool (eatsB many xs)) ∧ Below w.heap.size w w' := by
  have hb0 := X.below_new1 w (.cells #[.slice A xs.length c] 31)
  have HS := Aside0.mk (sorted_any A c xs hx hby w.heap.size (w.alloc (.cells #[.slice A xs.length c] 31)) (by simp) (blk_new w _) (Kd.C_below hr hb0))
  have HB0 := Aside0.mk hb0
  clear hr hb0
  go_enter Try.func33, Try.ntmps33
  go_wp2_with fail
  refine (values_any A xs.length c w).mono ?_
  rintro e w1 ⟨rfl, rfl⟩
  go_wp2_with fail
  refine HS.out.mono ?_
  rintro e w2 ⟨A', c', ys, rfl, hp, hso, hr, hb⟩
  have hyl : ys.length ≤ 1000000 := by rw [← hp.length_eq]; exact hx
  have HP := Aside0.mk (eatsB_perm (many := many) hp)
  have HSO := Aside0.mk hso
  have HR := Aside0.mk hr
  have HB := Aside0.mk (below_step HB0.out hb)
  clear hp hso hr hb HS HB0
  obtain ⟨n, hn⟩ : ∃ n, n = ys.length := ⟨_, rfl⟩
  have HN := Aside0.mk hn
  rw [← hn] at hyl ⊢
  clear hn
  go_wp2_with fail
  go_loopw [12] (fun v wr => ∃ k : Nat, k ≤ n ∧ v = .int .i64 k ∧ Below w2.heap.size w2 wr ∧ ∀ i (h : i < ys.length), i < k → fineAt many ys i h = true) (fun v _ => (n - intOf v).toNat)
  case atStart => exact ⟨0, Nat.zero_le _, rfl, Below.refl _ _, fun i h h0 => absurd h0 (Nat.not_lt_zero _)⟩
  case round =>
    obtain ⟨k, hk, rfl, hbr, hf⟩ := hrel
    have HBR := Aside0.mk hbr
    have HF := Aside0.mk hf
    clear hbr hf
    by_cases hlt : k < n
    · have hk2 : k < ys.length := by rw [← HN.out]; exact hlt
      have HK2 := Aside0.mk hk2
      have hC := Kd.C_below HR.out HBR.out
      obtain ⟨ad, hA, r0, r1, r2⟩ := at_T48 hC (k : Int) (by omega) (by omega)
      rw [Int.toNat_natCast, rde_at ys k hk2] at r0 r1 r2
      obtain ⟨x, hx⟩ : ∃ x, x = ys[k] := ⟨_, rfl⟩
      rw [← hx] at r0 r1 r2
      have HX := Aside0.mk hx
      clear hx
      subst hA
      have hall := HSO.out
      have done_ : ∀ b : Bool, fineAt many ys k hk2 = b → b = false → eatsB many ys = false := by
        intro b h1 h2
        cases he : eatsB many ys with
        | false => rfl
        | true => have := eats_fine HSO.out he k hk2; rw [h1, h2] at this; cases this
      have DONE := Aside0.mk done_
      clear done_ hall hC
      have hb3 := blk_new wr (.cells #[.int .u8 x.f0, .int .u8 x.f1, .int .i64 x.f2] 48)
      have hcc := cells3 hb3
      have HBW := Aside0.mk (fun q => pw_below_drewN (below_alloc (below_step HB.out HBR.out) (.cells #[.int .u8 x.f0, .int .u8 x.f1, .int .i64 x.f2] 48)) q)
      cases c1 : decide (x.f0 > x.f1) with
      | true =>
        go_wp2_with fail
        go_quiet (fail)
        go_wp2_with fail
        go_ret
        refine ⟨?_, HBW.out _⟩
        show _ = Ending.returned (.bool (eatsB many xs))
        rw [HP.out, DONE.out _ (fine_bad _ HX.out (by simp [okE] at c1 ⊢; omega)) rfl]
        rfl
      | false =>
        cases c2 : decide (x.f2 < 0) with
        | true =>
          go_wp2_with fail
          go_quiet (fail)
          go_wp2_with fail
          go_ret
          refine ⟨?_, HBW.out _⟩
          show _ = Ending.returned (.bool (eatsB many xs))
          rw [HP.out, DONE.out _ (fine_bad _ HX.out (by simp [okE] at c1 c2 ⊢; omega)) rfl]
          rfl
        | false =>
          cases c3 : decide (x.f2 ≥ many) with
          | true =>
            go_wp2_with fail
            go_quiet (fail)
            go_wp2_with fail
            go_ret
            refine ⟨?_, HBW.out _⟩
            show _ = Ending.returned (.bool (eatsB many xs))
            rw [HP.out, DONE.out _ (fine_bad _ HX.out (by simp [okE] at c1 c2 c3 ⊢; omega)) rfl]
            rfl
          | false =>
            have OK := Aside0.mk (show okE many x = true from by simp [okE] at c1 c2 c3 ⊢; omega)
            cases c4 : decide ((k : Int) > 0) with
            | false =>
              have K0 := Aside0.mk (show k = 0 from by simp at c4; omega)
              have c4a : (0 < k) = False := by simp at c4; simp; omega
              have c4b : ((0 : Int) < (k : Int)) = False := by simp at c4; simp; omega
              go_wp2_with fail
              go_quiet (fail)
              go_wp2_with fail
              go_roundw
              case rel => exact ⟨k + 1, by omega, by go_num, pw_below_drewN (below_alloc HBR.out _) _, fine_upto HF.out HK2.out (fine_good _ HX.out OK.out (.inl K0.out))⟩
              case measure => simp [intOf]; omega
            | true =>
              obtain ⟨j, hj⟩ : ∃ j, k = j + 1 := ⟨k - 1, by simp at c4; omega⟩
              have HJ := Aside0.mk hj
              have c4a : (0 < k) = True := by simp; omega
              have c4b : ((0 : Int) < (k : Int)) = True := by simp; omega
              have hw : IntKind.i64.wrap ((k : Int) - 1) = j := by rw [i64_w]; unfold wrap64; omega
              have hw2 : wrap64 ((k : Int) - 1) = j := by unfold wrap64; omega
              have hjn : j < n := by omega
              have hj2 : j < ys.length := by have := HK2.out; omega
              obtain ⟨ad', hA', p0, p1, p2⟩ := at_T48 (Kd.C_alloc (Kd.C_below HR.out HBR.out) (.cells #[.int .u8 x.f0, .int .u8 x.f1, .int .i64 x.f2] 48)) (j : Int) (by omega) (by omega)
              cases hA'
              rw [Int.toNat_natCast, rde_at ys j hj2] at p0 p1 p2
              obtain ⟨y, hy⟩ : ∃ y, y = ys[j] := ⟨_, rfl⟩
              rw [← hy] at p0 p1 p2
              have HY := Aside0.mk hy
              clear hy hj
              cases c5 : decide (x.f0 ≤ y.f1) with
              | true =>
                go_wp2_with fail
                go_quiet (fail)
                go_wp2_with fail
                go_ret
                refine ⟨?_, HBW.out _⟩
                show _ = Ending.returned (.bool (eatsB many xs))
                rw [HP.out, DONE.out _ (fine_bad2 _ HX.out HJ.out hj2 HY.out (by simp at c5; omega)) rfl]
                rfl
              | false =>
                go_wp2_with fail
                go_quiet (fail)
                go_wp2_with fail
                go_roundw
                case rel => exact ⟨k + 1, by omega, by go_num, pw_below_drewN (below_alloc HBR.out _) _, fine_upto HF.out HK2.out (fine_good _ HX.out OK.out (.inr ⟨j, HJ.out, hj2, y, HY.out, by simp at c5; omega⟩))⟩
                case measure => simp [intOf]; omega
    · have HE := Aside0.mk (fine_eats HSO.out (fun i h => HF.out i h (by have := HN.out; omega)))
      go_wp2_with fail
      go_ret
      refine ⟨?_, below_step HB.out HBR.out⟩
      show _ = Ending.returned (.bool (eatsB many xs))
      rw [HP.out, HE.out]
      rfl
end Go.Proofs.Ytacnflelkpkbhaa.PA
end
section
namespace Go.Proofs.Ytacnflelkpkbhaa.PA
set_option linter.unusedSimpArgs false
set_option linter.unusedVariables false
open Go.RowKit Go.Proofs.YtacnflelkpkbhaaW.PrintWords Go.Proofs.YtacnflelkpkbhaaW.PrintLast
def upB (many at_ to_ : Int) : Bool := decide (at_ < to_) && decide (to_ < many)
theorem cell1 {w : World} {B : Nat} {a : Value} {t : TypeId} (h : w.heap[B]? = some (.cells #[a] t (0, 0))) : w.cell? ⟨B, 0, none⟩ = some a := by simp [blk_cell h]
theorem up_any (t at_ many : Int) (ba bm : Nat) (W : World) (ha : W.heap[ba]? = some (.cells #[.int .i64 at_] 3 (0, 0))) (hm : W.heap[bm]? = some (.cells #[.int .i64 many] 3 (0, 0))) :
    Calls Try.prog 32 #[.int .i64 t, .pointer (some ⟨ba, 0, none⟩), .pointer (some ⟨bm, 0, none⟩)] W fun e w' => e = .returned (.bool (upB many at_ t)) ∧ w' = W := by
  have h1 := cell1 ha
  have h2 := cell1 hm
  clear ha hm
  go_enter Try.func32, Try.ntmps32
  cases c1 : decide (t > at_) with
  | false =>
    have HU := Aside0.mk (show upB many at_ t = false by simp [upB] at c1 ⊢; omega)
    go_wp2_with fail
    go_ret
    exact ⟨by rw [HU.out]; rfl, rfl⟩
  | true =>
    have HU := Aside0.mk (show upB many at_ t = decide (t < many) by simp [upB] at c1 ⊢; intro _; omega)
    go_wp2_with fail
    go_ret
    exact ⟨by rw [HU.out]; rfl, rfl⟩
theorem notup_any (t at_ many : Int) (ba bm bu : Nat) (W : World) (ha : W.heap[ba]? = some (.cells #[.int .i64 at_] 3 (0, 0))) (hm : W.heap[bm]? = some (.cells #[.int .i64 many] 3 (0, 0)))
    (hu : W.heap[bu]? = some (.cells #[.func (.func 32) #[] #[.pointer (some ⟨ba, 0, none⟩), .pointer (some ⟨bm, 0, none⟩)]] 53 (0, 0))) :
    Calls Try.prog 34 #[.int .i64 t, .pointer (some ⟨bu, 0, none⟩)] W fun e w' => e = .returned (.bool (!upB many at_ t)) ∧ w' = W := by
  have HC := Aside0.mk (up_any t at_ many ba bm W ha hm)
  have h1 := cell1 hu
  clear ha hm hu
  generalize upB many at_ t = b at HC ⊢
  have eg : ∀ args w, (callFunc 32 args).run Try.prog w = .ok (.enter 32 args) w := enters_of Try.func32 (by kernel_rfl) rfl
  go_enter Try.func34, Try.ntmps34
  go_wp2_with fail
  refine HC.out.mono ?_
  rintro e w1 ⟨rfl, rfl⟩
  cases b <;> (go_wp2_with fail; go_ret; exact ⟨rfl, rfl⟩)
theorem run_store_func {P : Program} {w : World} {a : Addr} {m : Mode} (f : Fn) (x y : Array Value) : (store a (.func f x y) m).run P w = stored P w a (.func f x y) m := run_store P w a _ m rfl
attribute [local go_sem] run_store_func
theorem four_blk (w : World) (o1 o2 o3 o4 : Obj) : ((((w.alloc o1).alloc o2).alloc o3).alloc o4).heap[w.heap.size]? = some o1 ∧ ((((w.alloc o1).alloc o2).alloc o3).alloc o4).heap[w.heap.size + 1]? = some o2 ∧
    ((((w.alloc o1).alloc o2).alloc o3).alloc o4).heap[w.heap.size + 1 + 1]? = some o3 ∧ ((((w.alloc o1).alloc o2).alloc o3).alloc o4).heap[w.heap.size + 1 + 1 + 1]? = some o4 ∧ Below w.heap.size w ((((w.alloc o1).alloc o2).alloc o3).alloc o4) := by
  refine ⟨blk_alloc (blk_alloc (blk_alloc (blk_new w o1) _) _) _, blk_alloc (blk_alloc (X.blk_new2 w o1 o2) _) _, ?_, ?_, below_alloc (below_alloc (X.below_new2 w o1 o2) _) _⟩
  · have h := X.blk_new2 (w.alloc o1) o2 o3
    rw [X.size_alloc1] at h
    exact blk_alloc h _
  · have h := X.blk_new2 ((w.alloc o1).alloc o2) o3 o4
    rwa [X.size_alloc1, X.size_alloc1] at h
theorem any_not {p : Int → Bool} {l : List Int} {b : Bool} (h : (l.any fun t => !p t) = b) : l.all p = !b := by
  rw [← h, List.any_eq_not_all_not]
  simp
theorem empty_len {α : Type} (l : List α) : l.isEmpty = decide (l.length = 0) := by cases l <;> simp
set_option maxHeartbeats 8000000 in
set_option maxRecDepth 100000 in
theorem right_any (x : S33) {A1 A2 : Option Addr} {c1 c2 : Nat} (at_ many : Int) (w : World) (g1 : Kd.C k48 w A1 x.f1.length x.f1) (g2 : Kd.C (Kd.int .i64) w A2 x.f2.length x.f2)
    (hx1 : x.f1.length ≤ 1000000) (hx2 : x.f2.length ≤ 1000000) (hby : ∀ e ∈ x.f1, 0 ≤ e.f0 ∧ e.f0 ≤ 255) :
    Calls Try.prog 24 #[.agg #[.int .i64 x.f0, .slice A1 x.f1.length c1, .slice A2 x.f2.length c2, .int .i64 x.f3, .int .i64 x.f4], .int .i64 at_, .int .i64 many] w fun e w' => e = .returned (.bool (rightB many at_ x)) ∧ Below w.heap.size w w' := by
  obtain ⟨hN, ha, hm, hu, hb⟩ := four_blk w (.cells #[.int .i64 x.f0, .slice A1 x.f1.length c1, .slice A2 x.f2.length c2, .int .i64 x.f3, .int .i64 x.f4] 33) (.cells #[.int .i64 at_] 3) (.cells #[.int .i64 many] 3) (.cells #[.func (.func 32) #[] #[.pointer (some ⟨w.heap.size + 1, 0, none⟩), .pointer (some ⟨w.heap.size + 1 + 1, 0, none⟩)]] 53)
  have e1 := empty_len x.f1
  have e2 := empty_len x.f2
  obtain ⟨n1, hn1⟩ : ∃ n, n = x.f1.length := ⟨_, rfl⟩
  obtain ⟨n2, hn2⟩ : ∃ n, n = x.f2.length := ⟨_, rfl⟩
  rw [← hn1, ← hn2] at hN ha hm hu hb
  rw [← hn1] at e1 g1 hx1
  rw [← hn2] at e2 g2 hx2
  rw [← hn1, ← hn2]
  have HE := Aside0.mk (fun (W : World) (h : Below w.heap.size w W) => eats_any A1 c1 x.f1 many (by rw [← hn1]; exact hx1) hby W (by rw [← hn1]; exact Kd.C_below g1 h))
  have HC := Aside0.mk (fun (W : World) (h : Below w.heap.size w W) (p : Int → Bool) (hp : X.Tells Try.prog 34 #[.pointer (some ⟨w.heap.size + 1 + 1 + 1, 0, none⟩)] W (Value.int .i64) x.f2 p) => X.containsFunc_int 34 #[.pointer (some ⟨w.heap.size + 1 + 1 + 1, 0, none⟩)] p x.f2 A2 c2 W (by rw [← hn2]; exact hx2) (by rw [← hn2]; exact Kd.C_below g2 h) hp)
  rw [← hn1] at HE
  rw [← hn2] at HC
  have HN := Aside0.mk hN
  have HA := Aside0.mk ha
  have HM := Aside0.mk hm
  have HU := Aside0.mk hu
  have HB := Aside0.mk hb
  have E1 := Aside0.mk e1
  have E2 := Aside0.mk e2
  clear hN ha hm hu hb e1 e2 g1 g2 hby hn1 hn2
  have eg : ∀ args w, (callFunc 32 args).run Try.prog w = .ok (.enter 32 args) w := enters_of Try.func32 (by kernel_rfl) rfl
  have hr : rightB many at_ x = (if x.f0 = 1 then x.f2.isEmpty && decide (x.f4 = 0) && eatsB many x.f1
    else if x.f0 = 2 then x.f1.isEmpty && decide (x.f4 = 0) && x.f2.all fun t => decide (at_ < t) && decide (t < many)
    else if x.f0 = 3 then x.f1.isEmpty && x.f2.isEmpty && (decide (at_ < x.f4) && decide (x.f4 < many))
    else if x.f0 = 4 then x.f1.isEmpty && x.f2.isEmpty && decide (x.f4 = 0) else false) := rfl
  rw [E1.out, E2.out] at hr
  have HR := Aside0.mk hr
  clear hr
  have HCS := Aside0.mk (cells5m HN.out)
  have HCM := Aside0.mk (cell1 HM.out)
  have HCU := Aside0.mk (cell1 HU.out)
  by_cases k1 : x.f0 = 1
  · have k1t : (x.f0 == 1) = true := beq_iff_eq.2 k1
    have K1 := Aside0.mk k1
    clear k1
    rcases Nat.eq_zero_or_pos n2 with h2 | h2
    · subst h2
      by_cases t0 : x.f4 = 0
      · have t0t : (x.f4 == 0) = true := beq_iff_eq.2 t0
        have T0 := Aside0.mk t0
        clear t0
        have hcs := HCS.out
        have hcm := HCM.out
        have hcu := HCU.out
        go_enter Try.func24, Try.ntmps24
        go_wp2_with fail
        refine (HE.out _ HB.out).mono ?_
        rintro e w1 ⟨rfl, hb⟩
        have HB1 := Aside0.mk (below_step HB.out hb)
        clear hb
        generalize heb : eatsB many x.f1 = eb
        have EB := Aside0.mk heb
        clear heb
        cases eb <;> (go_wp2_with fail; go_ret; refine ⟨?_, HB1.out⟩; show _ = Ending.returned (.bool (rightB many at_ x)); rw [HR.out, if_pos K1.out, EB.out, T0.out]; rfl)
      · have t0t : (x.f4 == 0) = false := beq_eq_false_iff_ne.2 t0
        have T0 := Aside0.mk t0
        clear t0
        have hcs := HCS.out
        have hcm := HCM.out
        have hcu := HCU.out
        go_enter Try.func24, Try.ntmps24
        go_wp2_with fail
        go_ret
        refine ⟨?_, HB.out⟩
        show _ = Ending.returned (.bool (rightB many at_ x))
        rw [HR.out]
        rw [if_pos K1.out, decide_eq_false T0.out]
        rfl
    · have h2f : (n2 == 0) = false := beq_eq_false_iff_ne.2 (by omega)
      have h2g : ((n2 : Int) == 0) = false := beq_eq_false_iff_ne.2 (by omega)
      have H2 := Aside0.mk h2
      have hcs := HCS.out
      have hcm := HCM.out
      have hcu := HCU.out
      go_enter Try.func24, Try.ntmps24
      go_wp2_with fail
      go_ret
      refine ⟨?_, HB.out⟩
      show _ = Ending.returned (.bool (rightB many at_ x))
      rw [HR.out]
      rw [if_pos K1.out, decide_eq_false (Nat.ne_of_gt H2.out)]
      rfl
  have k1f : (x.f0 == 1) = false := beq_eq_false_iff_ne.2 k1
  have K1 := Aside0.mk k1
  clear k1
  by_cases k2 : x.f0 = 2
  · have k2t : (x.f0 == 2) = true := beq_iff_eq.2 k2
    have K2 := Aside0.mk k2
    clear k2
    rcases Nat.eq_zero_or_pos n1 with h1 | h1
    · subst h1
      by_cases t0 : x.f4 = 0
      · have t0t : (x.f4 == 0) = true := beq_iff_eq.2 t0
        have T0 := Aside0.mk t0
        clear t0
        have hcs := HCS.out
        have hcm := HCM.out
        have hcu := HCU.out
        go_enter Try.func24, Try.ntmps24
        go_wp2_with fail
        refine (HC.out _ HB.out (fun t => !upB many at_ t) ⟨enters_of Try.func34 (by kernel_rfl) rfl, fun t W hW _ => (notup_any t at_ many _ _ _ W (blk_below HA.out hW) (blk_below HM.out hW) (blk_below HU.out hW)).mono fun e w' ⟨h1, h2⟩ => ⟨h1, by rw [h2]; exact Below.refl _ _⟩⟩).mono ?_
        rintro e w1 ⟨rfl, hb⟩
        have HB1 := Aside0.mk (below_step HB.out hb)
        clear hb
        generalize heb : (x.f2.any fun t => !upB many at_ t) = eb
        have EB := Aside0.mk (show (x.f2.all fun t => decide (at_ < t) && decide (t < many)) = !eb from any_not heb)
        clear heb
        cases eb <;> (go_wp2_with fail; go_ret; refine ⟨?_, HB1.out⟩; show _ = Ending.returned (.bool (rightB many at_ x)); rw [HR.out, if_neg K1.out, if_pos K2.out, T0.out, EB.out]; rfl)
      · have t0t : (x.f4 == 0) = false := beq_eq_false_iff_ne.2 t0
        have T0 := Aside0.mk t0
        clear t0
        have hcs := HCS.out
        have hcm := HCM.out
        have hcu := HCU.out
        go_enter Try.func24, Try.ntmps24
        go_wp2_with fail
        go_ret
        refine ⟨?_, HB.out⟩
        show _ = Ending.returned (.bool (rightB many at_ x))
        rw [HR.out]
        rw [if_neg K1.out, if_pos K2.out, decide_eq_false T0.out]
        rfl
    · have h1f : (n1 == 0) = false := beq_eq_false_iff_ne.2 (by omega)
      have h1g : ((n1 : Int) == 0) = false := beq_eq_false_iff_ne.2 (by omega)
      have H1 := Aside0.mk h1
      have hcs := HCS.out
      have hcm := HCM.out
      have hcu := HCU.out
      go_enter Try.func24, Try.ntmps24
      go_wp2_with fail
      go_ret
      refine ⟨?_, HB.out⟩
      show _ = Ending.returned (.bool (rightB many at_ x))
      rw [HR.out]
      rw [if_neg K1.out, if_pos K2.out, decide_eq_false (Nat.ne_of_gt H1.out)]
      rfl
  have k2f : (x.f0 == 2) = false := beq_eq_false_iff_ne.2 k2
  have K2 := Aside0.mk k2
  clear k2
  have hs : IntKind.i64.wrap ((n1 : Int) + n2) = (n1 : Int) + n2 := by rw [i64_w]; unfold wrap64; omega
  have hs2 : wrap64 ((n1 : Int) + n2) = (n1 : Int) + n2 := by unfold wrap64; omega
  by_cases k3 : x.f0 = 3
  · have k3t : (x.f0 == 3) = true := beq_iff_eq.2 k3
    have K3 := Aside0.mk k3
    clear k3
    by_cases hz : n1 + n2 = 0
    · obtain ⟨rfl, rfl⟩ : n1 = 0 ∧ n2 = 0 := by omega
      have hcs := HCS.out
      have hcm := HCM.out
      have hcu := HCU.out
      go_enter Try.func24, Try.ntmps24
      go_wp2_with fail
      refine (up_any x.f4 at_ many _ _ _ HA.out HM.out).mono ?_
      rintro e w1 ⟨rfl, rfl⟩
      generalize heb : upB many at_ x.f4 = eb
      have EB := Aside0.mk (show (decide (at_ < x.f4) && decide (x.f4 < many)) = eb from heb)
      clear heb
      cases eb <;> (go_wp2_with fail; go_ret; refine ⟨?_, HB.out⟩; show _ = Ending.returned (.bool (rightB many at_ x)); rw [HR.out, if_neg K1.out, if_neg K2.out, if_pos K3.out, EB.out]; rfl)
    · have hzf : ((n1 : Int) + n2 == 0) = false := beq_eq_false_iff_ne.2 (by omega)
      have HZ := Aside0.mk (show (decide (n1 = 0) && decide (n2 = 0)) = false from by simp; omega)
      clear hz
      have hcs := HCS.out
      have hcm := HCM.out
      have hcu := HCU.out
      go_enter Try.func24, Try.ntmps24
      go_wp2_with fail
      go_ret
      refine ⟨?_, HB.out⟩
      show _ = Ending.returned (.bool (rightB many at_ x))
      rw [HR.out]
      rw [if_neg K1.out, if_neg K2.out, if_pos K3.out, HZ.out]
      rfl
  have k3f : (x.f0 == 3) = false := beq_eq_false_iff_ne.2 k3
  have K3 := Aside0.mk k3
  clear k3
  by_cases k4 : x.f0 = 4
  · have k4t : (x.f0 == 4) = true := beq_iff_eq.2 k4
    have K4 := Aside0.mk k4
    clear k4
    by_cases hz : n1 + n2 = 0
    · obtain ⟨rfl, rfl⟩ : n1 = 0 ∧ n2 = 0 := by omega
      by_cases t0 : x.f4 = 0
      · have t0t : (x.f4 == 0) = true := beq_iff_eq.2 t0
        have T0 := Aside0.mk t0
        clear t0
        have hcs := HCS.out
        have hcm := HCM.out
        have hcu := HCU.out
        go_enter Try.func24, Try.ntmps24
        go_wp2_with fail
        go_ret
        refine ⟨?_, HB.out⟩
        show _ = Ending.returned (.bool (rightB many at_ x))
        rw [HR.out]
        rw [if_neg K1.out, if_neg K2.out, if_neg K3.out, if_pos K4.out, T0.out]
        rfl
      · have t0t : (x.f4 == 0) = false := beq_eq_false_iff_ne.2 t0
        have T0 := Aside0.mk t0
        clear t0
        have hcs := HCS.out
        have hcm := HCM.out
        have hcu := HCU.out
        go_enter Try.func24, Try.ntmps24
        go_wp2_with fail
        go_ret
        refine ⟨?_, HB.out⟩
        show _ = Ending.returned (.bool (rightB many at_ x))
        rw [HR.out]
        rw [if_neg K1.out, if_neg K2.out, if_neg K3.out, if_pos K4.out, decide_eq_false T0.out]
        rfl
    · have hzf : ((n1 : Int) + n2 == 0) = false := beq_eq_false_iff_ne.2 (by omega)
      have HZ := Aside0.mk (show (decide (n1 = 0) && decide (n2 = 0)) = false from by simp; omega)
      clear hz
      have hcs := HCS.out
      have hcm := HCM.out
      have hcu := HCU.out
      go_enter Try.func24, Try.ntmps24
      go_wp2_with fail
      go_ret
      refine ⟨?_, HB.out⟩
      show _ = Ending.returned (.bool (rightB many at_ x))
      rw [HR.out]
      rw [if_neg K1.out, if_neg K2.out, if_neg K3.out, if_pos K4.out, HZ.out]
      rfl
  have k4f : (x.f0 == 4) = false := beq_eq_false_iff_ne.2 k4
  have K4 := Aside0.mk k4
  clear k4
  have hcs := HCS.out
  have hcm := HCM.out
  have hcu := HCU.out
  go_enter Try.func24, Try.ntmps24
  go_wp2_with fail
  go_ret
  refine ⟨?_, HB.out⟩
  show _ = Ending.returned (.bool (rightB many at_ x))
  rw [HR.out]
  rw [if_neg K1.out, if_neg K2.out, if_neg K3.out, if_neg K4.out]
  rfl
def okM (m : List S33) : Prop := ∀ n ∈ m, n.f1.length ≤ 1000000 ∧ n.f2.length ≤ 1000000 ∧ ∀ e ∈ n.f1, 0 ≤ e.f0 ∧ e.f0 ≤ 255
theorem rdn_at (xs : List S33) (j : Nat) (h : j < xs.length) : rd_T33 xs (j : Int) = xs[j] := by
  unfold rd_T33
  rw [Int.toNat_natCast, List.getD_eq_getElem?_getD, List.getElem?_eq_getElem h]
  rfl
set_option maxHeartbeats 8000000 in
set_option maxRecDepth 100000 in
theorem may_any (A : Option Addr) (c : Nat) (m : List S33) (w : World) (hr : Kd.C k33 w A m.length m) (hok : okM m) :
    Calls Try.prog 15 #[.slice A m.length c] w fun e w' => e = .returned (.bool (mayB m)) ∧ Below w.heap.size w w' := by
  have HR := Aside0.mk hr
  have hnot : ¬ (1 ≤ m.length ∧ m.length ≤ 100000) → mayB m = false := by
    intro h
    cases hm : mayB m with
    | false => rfl
    | true => exact absurd (mayB_iff.1 hm).1 h
  obtain ⟨n, hn⟩ : ∃ n, n = m.length := ⟨_, rfl⟩
  have HN := Aside0.mk hn
  rw [← hn] at hnot ⊢
  have HNOT := Aside0.mk hnot
  clear hn hr hnot
  by_cases h0 : n = 0
  · have HM := Aside0.mk (HNOT.out (by omega))
    subst h0
    go_enter Try.func15, Try.ntmps15
    go_wp2_with fail
    go_ret
    refine ⟨?_, Below.refl _ _⟩
    show _ = Ending.returned (.bool (mayB m))
    rw [HM.out]
    rfl
  · have h1 : decide ((n : Int) < 1) = false := by simp; omega
    have h1b : ((n : Int) < 1) = False := eq_false (by omega)
    by_cases h2 : n ≤ 100000
    · have h3 : ((n : Int) > 100000) = False := eq_false (by omega)
      have h3b : ((100000 : Int) < (n : Int)) = False := eq_false (by omega)
      have H0 := Aside0.mk h0
      clear h0
      go_enter Try.func15, Try.ntmps15
      go_wp2_with fail
      go_loopw [15] (fun v wr => ∃ k : Nat, k ≤ n ∧ v = .int .i64 k ∧ Below w.heap.size w wr ∧ ∀ i (h : i < m.length), i < k → rightB m.length (i : Int) m[i] = true) (fun v _ => (n - intOf v).toNat)
      case atStart => exact ⟨0, Nat.zero_le _, rfl, Below.refl _ _, fun i h h0 => absurd h0 (Nat.not_lt_zero _)⟩
      case round =>
        obtain ⟨k, hk, rfl, hbr, hf⟩ := hrel
        have HBR := Aside0.mk hbr
        have HF := Aside0.mk hf
        clear hbr hf
        by_cases hlt : k < n
        · have hk2 : k < m.length := by rw [← HN.out]; exact hlt
          have HK2 := Aside0.mk hk2
          have hC := Kd.C_below HR.out HBR.out
          obtain ⟨ad, A1, c1, A2, c2, hA, r0, r1, r2, r3, r4, l1, g1, l2, g2⟩ := at_T33 hC (k : Int) (by omega) (by omega)
          rw [Int.toNat_natCast, rdn_at m k hk2] at r0 r1 r2 r3 r4
          rw [rdn_at m k hk2] at g1 g2
          obtain ⟨hx1, hx2, hby⟩ := hok _ (List.getElem_mem hk2)
          obtain ⟨x, hx⟩ : ∃ x, x = m[k] := ⟨_, rfl⟩
          rw [← hx] at r0 r1 r2 r3 r4 g1 g2 hx1 hx2 hby
          have HX := Aside0.mk hx
          subst hA
          have hb1 := X.below_new1 wr (.cells #[.int .i64 x.f0, .slice A1 x.f1.length c1, .slice A2 x.f2.length c2, .int .i64 x.f3, .int .i64 x.f4] 33)
          have hcs := cells5m (blk_new wr (.cells #[.int .i64 x.f0, .slice A1 x.f1.length c1, .slice A2 x.f2.length c2, .int .i64 x.f3, .int .i64 x.f4] 33))
          have HRC := Aside0.mk (right_any x (c1 := c1) (c2 := c2) (k : Int) (n : Int) _ (Kd.C_below g1 hb1) (Kd.C_below g2 hb1) hx1 hx2 hby)
          have HB1 := Aside0.mk hb1
          clear hx hC g1 g2 l1 l2 hx1 hx2 hby hb1
          go_wp2_with fail
          refine HRC.out.mono ?_
          rintro e w1 ⟨rfl, hb⟩
          have HB2 := Aside0.mk (below_step HBR.out (below_step HB1.out hb))
          clear hb
          generalize heb : rightB (n : Int) (k : Int) x = eb
          cases eb with
          | true =>
            have HE := Aside0.mk heb
            clear heb
            go_wp2_with fail
            go_roundw
            case rel => exact ⟨k + 1, by omega, by go_num, HB2.out, fun i hi hik => by
              rcases Nat.lt_or_ge i k with h | h
              · exact HF.out i hi h
              · obtain rfl : i = k := by omega
                rw [← HN.out, ← HX.out]; exact HE.out⟩
            case measure => simp [intOf]; omega
          | false =>
            have HE := Aside0.mk (may_not HK2.out HX.out (by rw [← HN.out]; exact heb))
            clear heb
            go_wp2_with fail
            go_ret
            refine ⟨?_, HB2.out⟩
            show _ = Ending.returned (.bool (mayB m))
            rw [HE.out]
            rfl
        · have HE := Aside0.mk (mayB_iff.2 ⟨by rw [← HN.out]; have := H0.out; omega, fun i hi => HF.out i hi (by have := HN.out; omega)⟩)
          go_wp2_with fail
          go_ret
          refine ⟨?_, HBR.out⟩
          show _ = Ending.returned (.bool (mayB m))
          rw [HE.out]
          rfl
    · have h3 : ((n : Int) > 100000) = True := eq_true (by omega)
      have h3b : ((100000 : Int) < (n : Int)) = True := eq_true (by omega)
      have HM := Aside0.mk (HNOT.out (by omega))
      go_enter Try.func15, Try.ntmps15
      go_wp2_with fail
      go_ret
      refine ⟨?_, Below.refl _ _⟩
      show _ = Ending.returned (.bool (mayB m))
      rw [HM.out]
      rfl
end Go.Proofs.Ytacnflelkpkbhaa.PA
end
