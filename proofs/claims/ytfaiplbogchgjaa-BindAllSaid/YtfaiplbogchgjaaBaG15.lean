/- Texts of this claim, those that nothing needs left out: Xyl. -/
import Derived.Shelf.SlMaps.Equal
import Derived.Sort.KeysCollected
import Derived.Test.YtfaiplbogchgjaaBaG12
section
namespace Go.Proofs.Ytfaiplbogchgjaa.X
set_option linter.unusedSimpArgs false
set_option linter.unusedVariables false
open Go.RowKit Go.Maps Go.Shelf Go.Proofs.YtfaiplbogchgjaaW.PrintWords
def valRS (S : Value → Bool) (v : Value) : Option (DataW Unit × List MemPlace) := if S v = true then valR v else none
theorem valRS_inv {S : Value → Bool} {v : Value} {z : DataW Unit × List MemPlace} (h : valRS S v = some z) : S v = true ∧ valR v = some z := by
  unfold valRS at h
  split at h
  · rename_i hs; exact ⟨hs, h⟩
  · cases h
theorem valRS_of {S : Value → Bool} {v : Value} (hs : S v = true) : valRS S v = valR v := by unfold valRS; rw [if_pos hs]
theorem VM.entries {w : World} {b n : Nat} {C : List UInt8 → Option Value} (h : VM w b n C) : ∃ es : List (Lit × DataW Unit), w.ownsMap Try.prog 9 valR b n (.map es) ∧ es.Pairwise (fun p q => p.1 ≠ q.1) ∧
    (∀ p ∈ es, ∃ (s : List UInt8) (v : Value), s.length ≤ maxLen ∧ p.1 = .string s ∧ C s = some v ∧ ∃ q, valR v = some (p.2, q)) ∧
    (∀ nm : ByteArray, nm.size ≤ maxLen → Maps.has (.map es : DataW Unit) (.string nm.data.toList) = (C nm.data.toList).isSome ∧ ∀ v, C nm.data.toList = some v → ∃ z, valR v = some z ∧ ∀ zd, (DataW.map es).atKey (.string nm.data.toList) zd = z.1) ∧
    ∀ S : Value → Bool, (∀ (s : List UInt8) (v : Value), s.length ≤ maxLen → C s = some v → S v = true) → w.ownsMap Try.prog 9 (valRS S) b n (.map es) := by
  obtain ⟨D, hown, hk⟩ := h
  obtain ⟨es, rfl, hap, hkey⟩ := hown.entries strKeyed
  have hown' := hown
  obtain ⟨me, clock, hb, F, hn, hD⟩ := hown
  have hes : es = (me.toList.map (Go.WideElems.rg Try.prog 9 valR)).foldr DataW.insert [] := by injection hD
  have key : ∀ x ∈ me.toList, ∃ (s : List UInt8), s.length ≤ maxLen ∧ (Go.WideElems.rg Try.prog 9 valR x).1 = .string s ∧ C s = some x.val ∧ ∃ q, valR x.val = some ((Go.WideElems.rg Try.prog 9 valR x).2, q) := fun x hx => by
    obtain ⟨y, hy⟩ := F.reads x hx
    rw [Go.WideElems.rg_of hy]
    obtain ⟨s, _, hs, hl⟩ := Maps.keyOf_str Try.underlying9 (Go.WideElems.rd_key hy)
    obtain ⟨z, hz, hz2⟩ := Go.WideElems.rd_val hy
    have hmem : y ∈ es := by
      rw [hes, mem_sorted, ← Go.WideElems.rg_of hy]
      exact List.mem_map.2 ⟨x, hx, rfl⟩
    have hnm := hk ⟨s.toArray⟩ (by show s.toArray.size ≤ maxLen; rw [List.size_toArray]; exact hl)
    have e : (ByteArray.mk s.toArray).data.toList = s := rfl
    rw [e] at hnm
    obtain ⟨h1, h2⟩ := hnm
    have hhas : Maps.has (.map es : DataW Unit) (.string s) = true := by
      rw [Maps.has_eq, List.any_eq_true]
      exact ⟨y, hmem, by rw [hs]; exact WideAt.sameKey_self (by simp [WideAt.IsKeyLit])⟩
    rw [hhas] at h1
    obtain ⟨u, hu⟩ := Option.isSome_iff_exists.1 h1.symm
    obtain ⟨zu, hzu, hat⟩ := h2 u hu
    have hat2 := WideAt.atKey_mem (k := .string s) (d := y.2) .nil (by simp [WideAt.IsKeyLit]) hap (by rw [← hs]; exact hmem)
    have e2 : zu.1 = z.1 := (hat .nil).symm.trans (hat2.trans hz2)
    have : u = x.val := valR_inj (x := z.1) (p := zu.2) (q := z.2) (by rw [hzu, ← e2]) hz
    exact ⟨s, hl, hs, by rw [hu, this], z.2, by rw [hz, hz2]⟩
  refine ⟨es, hown', hap, fun p hp => ?_, hk, fun S hS => ?_⟩
  · rw [hes, mem_sorted] at hp
    obtain ⟨x, hx, rfl⟩ := List.mem_map.1 hp
    obtain ⟨s, h1, h2, h3, h4⟩ := key x hx
    exact ⟨s, x.val, h1, h2, h3, h4⟩
  · obtain ⟨F', hmap, _⟩ := F.stay (R' := valRS S) (fun x hx z hz => by
      obtain ⟨s, h1, _, h3, _⟩ := key x hx
      rw [valRS_of (hS s x.val h1 h3)]; exact hz)
    exact ⟨me, clock, hb, F', hn, by rw [hmap, hes]⟩
set_option maxHeartbeats 8000000 in
set_option maxRecDepth 100000 in
theorem equalFunc_any (R1 R2 : Value → Option (DataW Unit × List MemPlace)) (eqd : DataW Unit → DataW Unit → Bool) (b1 b2 n1 n2 : Nat) (D1 D2 : DataW Unit) (w : World)
    (hR1 : ∀ v z, R1 v = some z → valR v = some z) (hR2 : ∀ v z, R2 v = some z → valR v = some z)
    (h1 : w.ownsMap Try.prog 9 R1 b1 n1 D1) (h2 : w.ownsMap Try.prog 9 R2 b2 n2 D2) (zd : DataW Unit) (zp : List MemPlace) (hzd : R2 zeroV = some (zd, zp))
    (heq : ∀ (W : World) (x y : Value) (xd yd : DataW Unit) (xp yp : List MemPlace), w.grownBy W none → R1 x = some (xd, xp) → R2 y = some (yd, yp) →
      Calls Try.prog 32 #[x, y] W fun e w' => e = .returned (.bool (eqd xd yd)) ∧ W.grownBy w' none) :
    Calls Try.prog 31 #[.map (some b1), .map (some b2), .func (.func 32) #[] #[]] w fun e w' => e = .returned (.bool (Lib.equalFuncD eqd D1 D2)) ∧ w.grownBy w' none := by
  have eg := enters_of Try.func32 (by kernel_rfl) rfl
  have l1 := fun ty => h1.len (t := 47) Try.underlying47 ty
  have l2 := fun ty => h2.len (t := 47) Try.underlying47 ty
  obtain ⟨es1, rfl, hap, hkeys⟩ := h1.entries strKeyed
  have hb2 := h2.lt
  have HQ : Aside _ := heq
  have HR1 : Aside _ := hR1
  have HR2 : Aside _ := hR2
  clear heq hR1 hR2
  generalize hres : Lib.equalFuncD eqd (.map es1) D2 = res
  have RES : Aside (Lib.equalFuncD eqd (.map es1) D2 = res) := hres
  clear hres
  by_cases hsz : Maps.size (.map es1 : DataW Unit) = Maps.size D2
  · go_enter Try.func31, Try.ntmps31
    go_wp2_with (first
      | (at_range; refine wpList_range_own _ rfl _ 47 rfl 9 28 strKeyed Try.underlying47 R1 b1 n1 _ rfl h1 ?_; intro w0 hrg0 hg0 hs0)
      | go_in)
    go_frame
    go_loopw [18] (fun _ wr => ∃ (left : Lit → Bool) (cnt : Nat), wr.ranges Try.prog 9 R1 b1 w.heap.size n1 (.map es1) left cnt ∧ wr.ownsMap Try.prog 9 R2 b2 n2 D2 ∧ w.grownBy wr none ∧ Aside (GoodAt eqd es1 D2 left))
      (fun _ wr => wr.rangeLeft b1 w.heap.size)
    case atStart => exact ⟨_, _, hrg0, h2.kept hg0 (by simp), hg0, good_start hkeys D2⟩
    case round =>
      obtain ⟨left, cnt, hrg, h2r, hgw, G⟩ := hrel
      go_wp2_with (first
        | (at_next; refine wpList_next_ranges _ rfl _ rfl 9 strKeyed R1 id id (fun key _ _ => ⟨key, rfl⟩) (fun v _ _ => ⟨v, rfl⟩) b1 w.heap.size n1 _ _ _ rfl hrg ?_ ?_)
        | go_in)
      · intro _ hl0
        go_wp2
        go_ret
        exact ⟨by rw [← RES.out, all_good G.out hl0 hsz]; rfl, hgw⟩
      · intro x c kl yd yp w1 cnt1 hkey hlx hv hat hrg1 hlt hg1 hs1 hen
        have hgw1 : w.grownBy w1 none := hgw.andThen hg1 (fun j hj => by cases hj; exact Or.inl (Nat.le_refl _))
        have h2w1 := h2r.kept hg1 (fun e => by have := Option.some.inj e; omega)
        have HAT : Aside (∀ zd, (DataW.map es1).atKey kl zd = yd) := hat
        clear hat
        obtain ⟨k1, s1, A1, m1, c1, B1, q1, e1, x1, y1, rfl, _, _, _⟩ := valR_inv (HR1.out _ _ hv)
        have hga := World.grownBy_alloc w1 (.cells #[.int .i64 k1, .string s1, .slice A1 m1 c1, .slice B1 q1 e1] 28) none
        have h2a := h2w1.kept hga (by simp)
        have hgw2 := hgw1.andThen hga (fun j hj => by cases hj)
        cases hh : Maps.has D2 kl
        · have hbad : Lib.goodD eqd D2 (kl, yd) = false := by unfold Lib.goodD; rw [hh]; rfl
          go_wp2_with (first
            | (at_lookup; refine wpList_lookup_own_ok _ rfl _ _ 47 rfl 9 28 strKeyed Try.underlying47 R2 (zero_val _) zd zp hzd b2 n2 D2 rfl h2a _ kl rfl hkey ?_; intro v2 ps2 hv2; rw [hh]; obtain ⟨k2, s2, A2, m2, c2, B2, q2, e2, x2, y2, rfl, _, _, _⟩ := valR_inv (HR2.out _ _ hv2); go_frame)
            | go_in)
          go_ret
          exact ⟨by rw [← RES.out, bad_false hap hkeys HAT.out hbad]; rfl, by first | exact hgw2 | exact hgw2.andThen (World.grownBy_alloc _ _ none) (fun j hj => by cases hj)⟩
        · cases he : eqd yd (D2.atKey kl zd)
          · have hbad : Lib.goodD eqd D2 (kl, yd) = false := by unfold Lib.goodD; rw [hh, atKey_indep hh .nil zd, he]; rfl
            go_wp2_with (first
              | (at_lookup; refine wpList_lookup_own_ok _ rfl _ _ 47 rfl 9 28 strKeyed Try.underlying47 R2 (zero_val _) zd zp hzd b2 n2 D2 rfl h2a _ kl rfl hkey ?_; intro v2 ps2 hv2; rw [hh]; obtain ⟨k2, s2, A2, m2, c2, B2, q2, e2, x2, y2, rfl, _, _, _⟩ := valR_inv (HR2.out _ _ hv2); go_frame; have hgw3 := hgw2.andThen (World.grownBy_alloc (w1.alloc (.cells #[.int .i64 k1, .string s1, .slice A1 m1 c1, .slice B1 q1 e1] 28)) (.cells #[.int .i64 k2, .string s2, .slice A2 m2 c2, .slice B2 q2 e2] 28) none) (fun j hj => by cases hj); have hc := HQ.out _ _ _ yd _ yp ps2 hgw3 hv hv2; rw [he] at hc)
              | fail)
            refine hc.mono ?_
            rintro e w2 ⟨rfl, hg2⟩
            go_wp2
            go_ret
            exact ⟨by rw [← RES.out, bad_false hap hkeys HAT.out hbad]; rfl, hgw3.andThen hg2 (fun j hj => by cases hj)⟩
          · have hgood : Lib.goodD eqd D2 (kl, yd) = true := by unfold Lib.goodD; rw [hh, atKey_indep hh .nil zd, he]; rfl
            go_wp2_with (first
              | (at_lookup; refine wpList_lookup_own_ok _ rfl _ _ 47 rfl 9 28 strKeyed Try.underlying47 R2 (zero_val _) zd zp hzd b2 n2 D2 rfl h2a _ kl rfl hkey ?_; intro v2 ps2 hv2; rw [hh]; obtain ⟨k2, s2, A2, m2, c2, B2, q2, e2, x2, y2, rfl, _, _, _⟩ := valR_inv (HR2.out _ _ hv2); go_frame; have hgw3 := hgw2.andThen (World.grownBy_alloc (w1.alloc (.cells #[.int .i64 k1, .string s1, .slice A1 m1 c1, .slice B1 q1 e1] 28)) (.cells #[.int .i64 k2, .string s2, .slice A2 m2 c2, .slice B2 q2 e2] 28) none) (fun j hj => by cases hj); have hc := HQ.out _ _ _ yd _ yp ps2 hgw3 hv hv2; rw [he] at hc)
              | fail)
            refine hc.mono ?_
            rintro e w2 ⟨rfl, hg2⟩
            go_wp2
            have hgx := World.grownBy_alloc (w1.alloc (.cells #[.int .i64 k1, .string s1, .slice A1 m1 c1, .slice B1 q1 e1] 28)) (.cells #[.int .i64 k2, .string s2, .slice A2 m2 c2, .slice B2 q2 e2] 28) none
            have hrg2 := ((hrg1.kept hga (by simp) (by simp)).kept hgx (by simp) (by simp)).kept hg2 (by simp) (by simp)
            go_roundw
            case rel => exact ⟨_, cnt1, hrg2, (h2a.kept hgx (by simp)).kept hg2 (by simp), hgw3.andThen hg2 (fun j hj => by cases hj), good_step hap hkeys HAT.out G.out hgood⟩
            case measure => rw [hrg2.left_eq, hrg.left_eq]; exact hlt
  · have hne : ¬ ((Maps.size (.map es1 : DataW Unit) : Int) = (Maps.size D2 : Int)) := fun e => hsz (by exact_mod_cast e)
    go_enter Try.func31, Try.ntmps31
    go_wp2
    go_ret
    exact ⟨by rw [← RES.out, sizes_false hsz]; rfl, World.grownBy.refl _ _⟩
end Go.Proofs.Ytfaiplbogchgjaa.X
end
