/- pct.Decode: triplets as bytes. -/
import Derived.Lib.OthersKept
import Derived.WalkSpells
import Derived.WalkLawsBesides
import Derived.Test.YtbjeegkmafbejaaXu
import Derived.Test.YtbjeegkmafbejaaXn
import Derived.Test.YtbjeegkmafbejaaXz
import Derived.Test.YtbjeegkmafbejaaShelf
namespace Go.Proofs.Ytbjeegkmafbejaa.X
set_option linter.unusedSimpArgs false
set_option linter.unusedVariables false
open Go.RowKit Go.Proofs.YtbjeegkmafbejaaW.PrintWords Go.Proofs.YtbjeegkmafbejaaW.PrintLast Go.Proofs.Ytbjeegkmafbejaa.Y
theorem infoU8_ : (Try.prog.info? 5).map (fun i => (i.zero, i.size, i.bytes)) = some (some (.int .u8 0), 1, 1) := by kernel_rfl
/-- The bytes from a place on, and whether no percent sign stands alone there. -/
def decFrom (s : ByteArray) : Nat → Nat → List Int × Bool
  | 0, _ => ([], true)
  | f + 1, p => if p < s.size then if tri s p = true then (triV s p :: (decFrom s f (p + 3)).1, (decFrom s f (p + 3)).2) else (bI s p :: (decFrom s f (p + 1)).1, (bI s p != 37) && (decFrom s f (p + 1)).2) else ([], true)
def decL (s : ByteArray) : List Int × Bool := decFrom s s.size 0
theorem decFrom_end (s : ByteArray) (f p : Nat) (h : ¬ p < s.size) : decFrom s f p = ([], true) := by
  cases f with
  | zero => rfl
  | succ f => exact if_neg h
theorem decFrom_tri (s : ByteArray) (f p : Nat) (h : p < s.size) (ht : tri s p = true) : decFrom s (f + 1) p = (triV s p :: (decFrom s f (p + 3)).1, (decFrom s f (p + 3)).2) := by
  simp only [decFrom, if_pos h, if_pos ht]
theorem decFrom_one (s : ByteArray) (f p : Nat) (h : p < s.size) (ht : tri s p = false) : decFrom s (f + 1) p = (bI s p :: (decFrom s f (p + 1)).1, (bI s p != 37) && (decFrom s f (p + 1)).2) := by
  simp only [decFrom, if_pos h, ht, Bool.false_eq_true, if_false]
theorem triV_ext (s : ByteArray) (p : Nat) : triV (s.extract p s.size) 0 = triV s p := by
  unfold triV bI
  rw [ext_byteAt, ext_byteAt]
set_option maxHeartbeats 1600000 in
theorem dec1_any (c : Int) (B base : Nat) (v : Value) (xs : List Int) (w0 w : World) (hbox : w.heap[B]? = some (.cells #[v] 59 (0, 0))) (hv : Kd.R (Kd.int .u8) 5 w base (fun _ => True) v xs) (hb : Below base w0 w) (hB : base ≤ B) (hl : xs.length < 17592186044416) :
    Calls Try.prog 41 #[.int .u8 c, .pointer (some ⟨B, 0, none⟩)] w fun e w' => e = .returned (.tuple #[]) ∧ ∃ v1, w'.heap[B]? = some (.cells #[v1] 59 (0, 0)) ∧ Kd.R (Kd.int .u8) 5 w' base (fun _ => True) v1 (xs ++ [c]) ∧ Below base w0 w' ∧ Others w w' v B := by
  have hc := cell_of_one hbox
  have hf := free_of_one hbox
  have hlt := blk_lt hbox
  have hne : some B ≠ v.ownBlock := Kd.R_ne hv hbox (by decide)
  have HBOX := Aside0.mk hbox
  have HV := Aside0.mk hv
  have HB := Aside0.mk hb
  have HNE := Aside0.mk hne
  clear hbox hv hb hne
  go_enter Try.func41, Try.ntmps41
  go_wp2_with (at_builtin; refine Kd.R_append (Kd.int .u8) (w0 := w0) base rfl (.tmp 3) (.tmp 5) 59 5 (.int .u8 0) 1 rfl Try.underlying59 infoU8_ rfl (by decide) (by omega) v xs c [.int .u8 c] (fun _ => True) (fun _ => False) rfl rfl rfl (fun _ hk => hk.elim) (fun _ _ => trivial) HV.out HB.out (by omega) (by omega) ?_; intro v1 w1 ho hb1 hg hat; obtain ⟨A1, n1, rfl⟩ := slice_snoc ho; have HO := Aside0.mk ho; have HB1 := Aside0.mk hb1; have HG := Aside0.mk hg; have hbox1 := blk_grown HBOX.out hg HNE.out; have HBOX1 := Aside0.mk hbox1; have hc1 := cell_of_one hbox1; have hf1 := free_of_one hbox1; clear ho hb1 hg hat hbox1)
  go_end0
  exact ⟨rfl, _, one_setCell HBOX1.out, Kd.R_set HO.out HBOX1.out (by decide) _ _, HB1.out.setCell (p := ⟨B, 0, none⟩) hB _, fun k o hk h1 h2 => (Below.heap_setCell _ _ _ _ h2).trans (blk_grown hk HG.out h1)⟩
set_option maxHeartbeats 1600000 in
theorem dec2_any (c : Int) (B G base : Nat) (v : Value) (xs : List Int) (g : Bool) (w0 w : World) (hbox : w.heap[B]? = some (.cells #[v] 59 (0, 0))) (hgd : w.heap[G]? = some (.cells #[.bool g] 4 (0, 0))) (hBG : B ≠ G) (hv : Kd.R (Kd.int .u8) 5 w base (fun _ => True) v xs) (hb : Below base w0 w) (hB : base ≤ B) (hG : base ≤ G) (hl : xs.length < 17592186044416) :
    Calls Try.prog 42 #[.int .u8 c, .pointer (some ⟨B, 0, none⟩), .pointer (some ⟨G, 0, none⟩)] w fun e w' => e = .returned (.tuple #[]) ∧ ∃ v1, w'.heap[B]? = some (.cells #[v1] 59 (0, 0)) ∧ Kd.R (Kd.int .u8) 5 w' base (fun _ => True) v1 (xs ++ [c]) ∧ Below base w0 w' ∧ w'.heap[G]? = some (.cells #[.bool (g && (c != 37))] 4 (0, 0)) := by
  have hc := cell_of_one hbox
  have hf := free_of_one hbox
  have hlt := blk_lt hbox
  have hne : some B ≠ v.ownBlock := Kd.R_ne hv hbox (by decide)
  have hneG : some G ≠ v.ownBlock := Kd.R_ne hv hgd (by decide)
  have HBOX := Aside0.mk hbox
  have HGD := Aside0.mk hgd
  have HV := Aside0.mk hv
  have HB := Aside0.mk hb
  have HNE := Aside0.mk hne
  have HNG := Aside0.mk hneG
  clear hbox hv hb hne hneG hgd
  go_enter Try.func42, Try.ntmps42
  go_wp2_with (at_builtin; refine Kd.R_append (Kd.int .u8) (w0 := w0) base rfl (.tmp 4) (.tmp 6) 59 5 (.int .u8 0) 1 rfl Try.underlying59 infoU8_ rfl (by decide) (by omega) v xs c [.int .u8 c] (fun _ => True) (fun _ => False) rfl rfl rfl (fun _ hk => hk.elim) (fun _ _ => trivial) HV.out HB.out (by omega) (by omega) ?_; intro v1 w1 ho hb1 hg hat; obtain ⟨A1, n1, rfl⟩ := slice_snoc ho; have HO := Aside0.mk ho; have HB1 := Aside0.mk hb1; have HG := Aside0.mk hg; have hbox1 := blk_grown HBOX.out hg HNE.out; have HBOX1 := Aside0.mk hbox1; have hc1 := cell_of_one hbox1; have hf1 := free_of_one hbox1; have hgd1 := blk_grown HGD.out hg HNG.out; have HGD1 := Aside0.mk hgd1; have hcg := cell_of_one hgd1; have hfg := free_of_one hgd1; clear hgd1; clear ho hb1 hg hat hbox1)
  · rename_i hg
    subst hg
    go_end0
    have hG2 := blk_far HGD1.out hBG.symm (p := ⟨B, 0, none⟩) (.slice A1 (xs.length + 1) n1)
    exact ⟨rfl, _, blk_far (one_setCell HBOX1.out) hBG _, Kd.R_set (Kd.R_set HO.out HBOX1.out (by decide) _ _) hG2 (by decide) _ _, (HB1.out.setCell (p := ⟨B, 0, none⟩) hB _).setCell (p := ⟨G, 0, none⟩) hG _, one_setCell hG2⟩
  · rename_i hg
    obtain rfl : g = false := by simpa using hg
    go_end0
    have hG2 := blk_far HGD1.out hBG.symm (p := ⟨B, 0, none⟩) (.slice A1 (xs.length + 1) n1)
    exact ⟨rfl, _, blk_far (one_setCell HBOX1.out) hBG _, Kd.R_set (Kd.R_set HO.out HBOX1.out (by decide) _ _) hG2 (by decide) _ _, (HB1.out.setCell (p := ⟨B, 0, none⟩) hB _).setCell (p := ⟨G, 0, none⟩) hG _, one_setCell hG2⟩
theorem enters_Dec1 (args : Array Value) (w : World) : (callFunc 41 args).run Try.prog w = .ok (.enter 41 args) w := enters_of Try.func41 (by kernel_rfl) rfl args w
theorem enters_Dec2 (args : Array Value) (w : World) : (callFunc 42 args).run Try.prog w = .ok (.enter 42 args) w := enters_of Try.func42 (by kernel_rfl) rfl args w
set_option maxHeartbeats 4000000 in
set_option maxRecDepth 100000 in
theorem eachDec_any (s : ByteArray) (B G base : Nat) (v : Value) (w0 w : World) (hs : s.size ≤ 1000000) (hbox : w.heap[B]? = some (.cells #[v] 59 (0, 0))) (hgd : w.heap[G]? = some (.cells #[.bool true] 4 (0, 0))) (hBG : B ≠ G) (hv : Kd.R (Kd.int .u8) 5 w base (fun _ => True) v []) (hb : Below base w0 w) (hB : base ≤ B) (hG : base ≤ G) :
    Calls Try.prog 40 #[.string s, .func (.func 41) #[] #[.pointer (some ⟨B, 0, none⟩)], .func (.func 42) #[] #[.pointer (some ⟨B, 0, none⟩), .pointer (some ⟨G, 0, none⟩)]] w fun e w' => e = .returned (.tuple #[]) ∧ ∃ v1, w'.heap[B]? = some (.cells #[v1] 59 (0, 0)) ∧ Kd.R (Kd.int .u8) 5 w' base (fun _ => True) v1 (decL s).1 ∧ Below base w0 w' ∧ w'.heap[G]? = some (.cells #[.bool (decL s).2] 4 (0, 0)) := by
  have eg1 := enters_Dec1
  have eg2 := enters_Dec2
  have HBOX := Aside0.mk hbox
  have HGD := Aside0.mk hgd
  have HV := Aside0.mk hv
  have HB := Aside0.mk hb
  clear hbox hv hb hgd
  go_enter Try.func40, Try.ntmps40
  go_wp2_with fail
  go_loopw [6] (fun c wr => ∃ (p f : Nat) (pre : List Int) (v1 : Value) (g : Bool), p ≤ s.size ∧ s.size ≤ p + f ∧ pre.length ≤ p ∧ c = .int .i64 p ∧ wr.heap[B]? = some (.cells #[v1] 59 (0, 0)) ∧ Kd.R (Kd.int .u8) 5 wr base (fun _ => True) v1 pre ∧ Below base w0 wr ∧ wr.heap[G]? = some (.cells #[.bool g] 4 (0, 0)) ∧ Aside0 (decL s = (pre ++ (decFrom s f p).1, g && (decFrom s f p).2))) (fun c _ => (s.size - intOf c).toNat)
  case atStart => exact ⟨0, s.size, [], v, true, by omega, by omega, by simp, by simp, HBOX.out, HV.out, HB.out, HGD.out, ⟨rfl⟩⟩
  case round =>
    obtain ⟨p, f, pre, v1, g, hp, hf, hpre, rfl, hbox, hv, hb, hgd, hspec⟩ := hrel
    clear HBOX HV HB HGD
    have HBOX := Aside0.mk hbox
    have HGD := Aside0.mk hgd
    have HV := Aside0.mk hv
    have HB := Aside0.mk hb
    clear hbox hv hb hgd
    by_cases hlt : p < s.size
    · obtain ⟨f, rfl⟩ : ∃ f', f = f' + 1 := ⟨f - 1, by omega⟩
      have hext := tri_ext s p (by omega)
      have hbx := bI_at s p hlt
      cases htr : tri s p with
      | true =>
        have HT := Aside0.mk (hext.trans htr)
        have HS := Aside0.mk ((decFrom_tri s f p hlt htr) ▸ hspec.out)
        have HX := Aside0.mk (triV_ext s p)
        have hin := tri_in htr
        clear hext hspec htr
        go_wp2_with fail
        refine (pctValue_any _ _).mono ?_
        rintro e w1 ⟨⟨x, rfl, hx⟩, rfl⟩
        have HX2 := Aside0.mk ((hx HT.out).trans HX.out)
        rw [HT.out]
        clear hx
        go_wp2_with fail
        refine (dec1_any x B base v1 pre w0 wr HBOX.out HV.out HB.out hB (by omega)).mono ?_
        rintro e w2 ⟨rfl, v2, hbox2, hv2, hb2, ho2⟩
        have HGD2 := Aside0.mk (ho2 _ _ HGD.out (Kd.R_ne HV.out HGD.out (by decide)) hBG.symm)
        have HBOX2 := Aside0.mk hbox2
        have HV2 := Aside0.mk hv2
        have HBB2 := Aside0.mk hb2
        clear hbox2 hv2 hb2 ho2 HBOX HV HB HGD
        go_wp2_with fail
        go_roundw
        case rel => exact ⟨p + 3, f, pre ++ [x], v2, g, by omega, by omega, by rw [List.length_append, List.length_singleton]; omega, by go_num, HBOX2.out, HV2.out, HBB2.out, HGD2.out, ⟨by rw [HS.out, HX2.out, List.append_assoc]; rfl⟩⟩
        case measure => simp [intOf]; omega
      | false =>
        have HT := Aside0.mk (hext.trans htr)
        have HS := Aside0.mk ((decFrom_one s f p hlt htr) ▸ hspec.out)
        clear hext hspec htr
        go_wp2_with fail
        refine (pctValue_any _ _).mono ?_
        rintro e w1 ⟨⟨x, rfl, hx⟩, rfl⟩
        rw [HT.out]
        clear hx
        go_wp2_with fail
        refine (dec2_any (s[p].toNat : Int) B G base v1 pre g w0 wr HBOX.out HGD.out hBG HV.out HB.out hB hG (by omega)).mono ?_
        rintro e w2 ⟨rfl, v2, hbox2, hv2, hb2, hgd2⟩
        have HGD2 := Aside0.mk hgd2
        have HBOX2 := Aside0.mk hbox2
        have HV2 := Aside0.mk hv2
        have HBB2 := Aside0.mk hb2
        clear hbox2 hv2 hb2 hgd2 HBOX HV HB HGD
        go_wp2_with fail
        go_roundw
        case rel => exact ⟨p + 1, f, pre ++ [(s[p].toNat : Int)], v2, _, by omega, by omega, by rw [List.length_append, List.length_singleton]; omega, by go_num, HBOX2.out, HV2.out, HBB2.out, HGD2.out, ⟨by rw [HS.out, ← hbx, List.append_assoc, Bool.and_assoc]; rfl⟩⟩
        case measure => simp [intOf]; omega
    · have HE := Aside0.mk ((decFrom_end s f p hlt) ▸ hspec.out)
      go_wp2_with fail
      go_end0
      exact ⟨rfl, _, HBOX.out, by rw [HE.out, List.append_nil]; exact HV.out, HB.out, by rw [HE.out, Bool.and_true]; exact HGD.out⟩
/-- What is told of a text that is decoded. -/
def decV (s : ByteArray) : ByteArray × Bool := if (decL s).2 = true then (strOfNums (decL s).1, true) else (⟨#[]⟩, false)
set_option maxHeartbeats 1600000 in
theorem decode_any (s : ByteArray) (w : World) (hs : s.size ≤ 1000000) :
    Calls Try.prog 19 #[.string s] w fun e w' => e = .returned (.tuple #[.string (decV s).1, .bool (decV s).2]) ∧ Below w.heap.size w w' := by
  go_enter Try.func19, Try.ntmps19
  go_wp2_with fail
  refine (eachDec_any s w.heap.size (w.heap.size + 1) w.heap.size (.slice none 0 0) w _ hs (blk_alloc (blk_new _ _) _) (X.blk_new2 _ _ _) (by omega) (Kd.R_nil _ _ _ _ _) (X.below_new2 _ _ _) (Nat.le_refl _) (by omega)).mono ?_
  rintro e w1 ⟨rfl, v1, hbox, hv, hb, hgd⟩
  have hc := cell_of_one hbox
  have hcg := cell_of_one hgd
  have HV := Aside0.mk hv
  have HB := Aside0.mk hb
  clear hbox hv hb hgd
  cases h : (decL s).2 with
  | false =>
    have HS := Aside0.mk (show decV s = (⟨#[]⟩, false) from if_neg (by rw [h]; decide))
    rw [h] at hcg
    clear h
    go_wp2_with fail
    go_ret2
    exact ⟨by rw [HS.out]; rfl, HB.out⟩
  | true =>
    have HS := Aside0.mk (show decV s = (strOfNums (decL s).1, true) from if_pos h)
    rw [h] at hcg
    obtain ⟨A, n, rfl, hle, hv⟩ := Kd.R_reads HV.out
    have hcv := Kd.C_string (c := n) (dst := 9) Try.underlying59 Try.underlying5 Try.underlying9 hv
    clear h hv
    go_wp2_with fail
    go_ret2
    exact ⟨by rw [HS.out]; rfl, HB.out⟩
end Go.Proofs.Ytbjeegkmafbejaa.X
