/- What the functions of package utf do: contracts over the seat's program. -/
import Derived.Test.YtjhihohofhhknaaProg
import Derived.Below
import Derived.Deep.Draws
import Derived.Deep.AppendLies
import Derived.Maps.AppendAt
import Derived.OwnWalk
import Derived.Laws.BytesArg
import Derived.Laws.MakeOwn
import Derived.Laws.OwnMore
import Derived.Deep.OwnRows
import Derived.Tactics
import Derived.Lib.ConvBytes
import Derived.Laws.Slices
import Derived.WalkKit
import Derived.KernelRfl
import Derived.RowKit3
import Derived.Deep.LoopGhost
import Derived.Deep.QuietTactic
import Derived.BigQuiet
import Derived.WideLaws
import Derived.Deep.DeepCutAuto
import Derived.Deep.CutBlock
import Derived.Deep.RegionHeld3
import Derived.Laws.Rows
import Derived.Lib.AppendStr
import Derived.ArgAppend
import Derived.Laws.IdiomCopy
import Derived.OrdersHeld
import Derived.Laws.BitsLemmas
import Derived.RowKit
import Derived.Test.YtjhihohofhhknaaWWords
import Derived.Test.YtjhihohofhhknaaWLast
import Derived.Test.YtjhihohofhhknaaWMore
import Derived.Lib.OthersKept
import Derived.WalkSpells
import Derived.WalkLawsBesides
import Derived.Test.YtjhihohofhhknaaYu
import Derived.Test.YtjhihohofhhknaaXb
namespace Go.Proofs.Ytjhihohofhhknaa.X
set_option linter.unusedSimpArgs false
set_option linter.unusedVariables false
open Go.RowKit Go.Proofs.YtjhihohofhhknaaW.PrintWords Go.Proofs.Ytjhihohofhhknaa.Y
theorem infoInt : (Try.prog.info? 3).map (fun i => (i.zero, i.size, i.bytes)) = some (some (.int .i64 0), 1, 8) := by kernel_rfl

theorem slice_snoc {α : Type} {d : Kd α} {e base : Nat} {w : World} {ok : Nat → Prop} {v : Value} {xs : List α} {x : α} (h : d.R e w base ok v (xs ++ [x])) : ∃ A c, v = .slice A (xs.length + 1) c := by
  obtain ⟨A, c, rfl⟩ := Kd.R_slice h
  exact ⟨A, c, by rw [List.length_append, List.length_singleton]⟩
/-- Every other block of cells, or none of cells, stays. -/
def Others (w w' : World) (v : Value) (B : Nat) : Prop := ∀ k o, w.heap[k]? = some o → some k ≠ v.ownBlock → k ≠ B → w'.heap[k]? = some o

set_option maxHeartbeats 800000 in
theorem charsDo_any (c : Int) (B base : Nat) (v : Value) (xs : List Int) (w0 w : World) (hbox : w.heap[B]? = some (.cells #[v] 84 (0, 0))) (hv : Kd.R (Kd.int .i64) 3 w base (fun _ => True) v xs) (hb : Below base w0 w) (hB : base ≤ B) (hl : xs.length < 17592186044416) :
    Calls Try.prog 90 #[.int .i64 c, .pointer (some ⟨B, 0, none⟩)] w fun e w' => e = .returned (.tuple #[]) ∧ ∃ v1, w'.heap[B]? = some (.cells #[v1] 84 (0, 0)) ∧ Kd.R (Kd.int .i64) 3 w' base (fun _ => True) v1 (xs ++ [c]) ∧ Below base w0 w' ∧ Others w w' v B := by
  have hc := cell_of_one hbox
  have hf := free_of_one hbox
  have hlt := blk_lt hbox
  have hne : some B ≠ v.ownBlock := Kd.R_ne hv hbox (by decide)
  have HBOX := Aside0.mk hbox
  have HV := Aside0.mk hv
  have HB := Aside0.mk hb
  have HNE := Aside0.mk hne
  clear hbox hv hb hne
  go_enter Try.func90, Try.ntmps90
  go_wp2_with (at_builtin; refine Kd.R_append (Kd.int .i64) (w0 := w0) base rfl (.tmp 3) (.tmp 5) 84 3 (.int .i64 0) 8 rfl Try.underlying84 infoInt rfl (by decide) (by omega) v xs c [.int .i64 c] (fun _ => True) (fun _ => False) rfl rfl rfl (fun _ hk => hk.elim) (fun _ _ => trivial) HV.out HB.out (by omega) (by omega) ?_; intro v1 w1 ho hb1 hg hat; obtain ⟨A1, n1, rfl⟩ := slice_snoc ho; have HO := Aside0.mk ho; have HB1 := Aside0.mk hb1; have HG := Aside0.mk hg; have hbox1 := blk_grown HBOX.out hg HNE.out; have HBOX1 := Aside0.mk hbox1; have hc1 := cell_of_one hbox1; have hf1 := free_of_one hbox1; clear ho hb1 hg hat hbox1)
  go_end0
  exact ⟨rfl, _, one_setCell HBOX1.out, Kd.R_set HO.out HBOX1.out (by decide) _ _, HB1.out.setCell (p := ⟨B, 0, none⟩) hB _, fun k o hk h1 h2 => (Below.heap_setCell _ _ _ _ h2).trans (blk_grown hk HG.out h1)⟩

theorem Kd.R_iter {α : Type} {d : Kd α} {e base : Nat} {w : World} {ok : Nat → Prop} {v : Value} {xs : List α} (h : d.R e w base ok v xs) {k : Nat} {s : ByteArray} {p : Nat} (hk : w.heap[k]? = some (.stringIter s p)) (q : Nat) : d.R e (w.iterAt k s q) base ok v xs :=
  Kd.R_mono (Kd.R_move (Kd.R_bound h) (fun j hj => Lib.iterAt_other w k j s q (by
    obtain ⟨_, _, _, _, _, _, hc⟩ := hj
    rintro rfl
    rw [hk] at hc
    cases hc))) (fun _ hk => hk.1)

theorem iter_ne {α : Type} {d : Kd α} {e base : Nat} {w : World} {ok : Nat → Prop} {v : Value} {xs : List α} (h : d.R e w base ok v xs) {k : Nat} {s : ByteArray} {p : Nat} (hk : w.heap[k]? = some (.stringIter s p)) : some k ≠ v.ownBlock := by
  intro he
  obtain ⟨inner, ho⟩ := Kd.R_own h
  obtain ⟨cells, hc⟩ := own_typed ho k he.symm
  rw [hk] at hc
  cases hc

set_option maxHeartbeats 1600000 in
theorem each_chars (s : ByteArray) (B base : Nat) (v : Value) (w0 w : World) (hs : s.size ≤ 1000000) (hbox : w.heap[B]? = some (.cells #[v] 84 (0, 0))) (hv : Kd.R (Kd.int .i64) 3 w base (fun _ => True) v []) (hb : Below base w0 w) (hB : base ≤ B) :
    Calls Try.prog 89 #[.string s, .func (.func 90) #[] #[.pointer (some ⟨B, 0, none⟩)]] w fun e w' => e = .returned (.int .i64 (badPos s)) ∧ ∃ v1, w'.heap[B]? = some (.cells #[v1] 84 (0, 0)) ∧ Kd.R (Kd.int .i64) 3 w' base (fun _ => True) v1 (chars s) ∧ Below base w0 w' := by
  have hlt := blk_lt hbox
  have HBOX := Aside0.mk hbox
  have HV := Aside0.mk hv
  have HB := Aside0.mk hb
  clear hbox hv hb
  go_enter Try.func89, Try.ntmps89
  go_wp2_with fail
  go_loopw [5] (fun _ wr => ∃ (p f : Nat) (pre : List Int) (v1 : Value), p ≤ s.size ∧ s.size ≤ p + f ∧ pre.length ≤ p ∧ wr.heap[w.heap.size]? = some (.stringIter s p) ∧ wr.heap[B]? = some (.cells #[v1] 84 (0, 0)) ∧ Kd.R (Kd.int .i64) 3 wr base (fun _ => True) v1 pre ∧ Below base w0 wr ∧ Aside0 (chars s = pre ++ (charsFrom s f p).1 ∧ badPos s = (charsFrom s f p).2)) (fun _ wr => s.size - wr.iterPos w.heap.size)
  case atStart => exact ⟨0, s.size, [], v, by omega, by omega, by simp, World.iter_heap _ _ _, blk_alloc HBOX.out _, Kd.R_below HV.out (below_new1 _ _), HB.out.alloc (by omega) _, ⟨rfl, rfl⟩⟩
  case round =>
    obtain ⟨p, f, pre, v1, hp, hf, hpre, hit, hbox, hv, hb, hspec⟩ := hrel
    clear HBOX HV HB
    have HIT := Aside0.mk hit
    have HBOX := Aside0.mk hbox
    have HV := Aside0.mk hv
    have HB := Aside0.mk hb
    clear hbox hv hb
    by_cases hlt2 : p < s.size
    · have hnx := fun ty => Lib.run_next_any_at (P := Try.prog) wr w.heap.size s p ty hit hlt2
      clear hit
      have hd1 := decode_top s p
      have hd2 := decode_in s p hlt2
      have hd3 := decode_pos s p
      have hgo := fun g hb => charsFrom_go s g p hlt2 hb
      have hstop := fun g => charsFrom_bad s g p
      have hA := bad_short s p
      have hB1 := bad_long s p
      have hC := bad_not s p
      obtain ⟨c, n, HD⟩ : ∃ c n, Aside0 (Utf8.decode s p = (c, n)) := ⟨_, _, ⟨rfl⟩⟩
      rw [HD.out] at hnx hd1 hd2 hd3 hgo hA hB1 hC
      simp only at hnx hd1 hd2 hd3 hgo hA hB1 hC
      have HGO := Aside0.mk hgo
      have HSTOP := Aside0.mk hstop
      clear hgo hstop
      by_cases h1 : c = 65533
      · subst h1
        by_cases h2 : (s.size : Int) - p < 3
        · have HE := Aside0.mk ((HSTOP.out f (hA rfl h2)) ▸ hspec.out)
          clear hA hB1 hC
          go_wp2_with fail
          go_ret
          exact ⟨by rw [HE.out.2]; rfl, _, (Lib.iterAt_other _ _ _ _ _ (Nat.ne_of_lt hlt)).trans HBOX.out, by rw [HE.out.1, List.append_nil]; exact Kd.R_iter HV.out HIT.out _, Lib.below_iterAt HB.out (by omega) _ _⟩
        · have hb2 := hB1 rfl h2
          by_cases h3 : ((s.extract p (p + 3)).toList == (Utf8.encode 65533).toList) = true
          · rw [h3] at hb2
            have HB2 := Aside0.mk hb2
            clear hA hB1 hC hb2
            go_wp2_with fail
            obtain ⟨f', rfl⟩ : ∃ f', f = f' + 1 := ⟨f - 1, by omega⟩
            have HSP := Aside0.mk ((HGO.out f' HB2.out) ▸ hspec.out)
            clear hspec HGO HSTOP
            refine (charsDo_any 65533 B base v1 pre w0 (wr.iterAt w.heap.size s (p + n)) ((Lib.iterAt_other _ _ _ _ _ (Nat.ne_of_lt hlt)).trans HBOX.out) (Kd.R_iter HV.out HIT.out _) (Lib.below_iterAt HB.out (by omega) _ _) hB (by omega)).mono ?_
            rintro e w2 ⟨rfl, v2, hbox2, hv2, hb2, ho2⟩
            have HIT2 := Aside0.mk (ho2 _ _ (Lib.iterAt_heap wr w.heap.size s p (p + n) HIT.out) (iter_ne HV.out HIT.out) (Nat.ne_of_gt hlt))
            have HBOX2 := Aside0.mk hbox2
            have HV2 := Aside0.mk hv2
            have HBB2 := Aside0.mk hb2
            clear hbox2 hv2 hb2 ho2 HBOX HV HB
            have hit1 := HIT.out
            go_wp2_with fail
            go_roundw
            case rel => exact ⟨p + n, f', pre ++ [(65533 : Int)], v2, by omega, by omega, by rw [List.length_append, List.length_singleton]; omega, HIT2.out, HBOX2.out, HV2.out, HBB2.out, ⟨by rw [HSP.out.1, List.append_assoc]; rfl, HSP.out.2⟩⟩
            case measure => simp only [World.iterPos, HIT2.out, HIT.out]; omega
          · have h3' : ((s.extract p (p + 3)).toList == (Utf8.encode 65533).toList) = false := by simpa using h3
            rw [h3'] at hb2
            have HE := Aside0.mk ((HSTOP.out f hb2) ▸ hspec.out)
            clear hA hB1 hC hb2 h3
            go_wp2_with fail
            go_ret
            exact ⟨by rw [HE.out.2]; rfl, _, (Lib.iterAt_other _ _ _ _ _ (Nat.ne_of_lt hlt)).trans HBOX.out, by rw [HE.out.1, List.append_nil]; exact Kd.R_iter HV.out HIT.out _, Lib.below_iterAt HB.out (by omega) _ _⟩
      · have HB2 := Aside0.mk (hC h1)
        clear hA hB1 hC
        have h1' : ((c : Int) == 65533) = false := by rw [beq_eq_false_iff_ne]; omega
        go_wp2_with fail
        obtain ⟨f', rfl⟩ : ∃ f', f = f' + 1 := ⟨f - 1, by omega⟩
        have HSP := Aside0.mk ((HGO.out f' HB2.out) ▸ hspec.out)
        clear hspec HGO HSTOP
        refine (charsDo_any c B base v1 pre w0 (wr.iterAt w.heap.size s (p + n)) ((Lib.iterAt_other _ _ _ _ _ (Nat.ne_of_lt hlt)).trans HBOX.out) (Kd.R_iter HV.out HIT.out _) (Lib.below_iterAt HB.out (by omega) _ _) hB (by omega)).mono ?_
        rintro e w2 ⟨rfl, v2, hbox2, hv2, hb2, ho2⟩
        have HIT2 := Aside0.mk (ho2 _ _ (Lib.iterAt_heap wr w.heap.size s p (p + n) HIT.out) (iter_ne HV.out HIT.out) (Nat.ne_of_gt hlt))
        have HBOX2 := Aside0.mk hbox2
        have HV2 := Aside0.mk hv2
        have HBB2 := Aside0.mk hb2
        clear hbox2 hv2 hb2 ho2 HBOX HV HB
        have hit1 := HIT.out
        go_wp2_with fail
        go_roundw
        case rel => exact ⟨p + n, f', pre ++ [(c : Int)], v2, by omega, by omega, by rw [List.length_append, List.length_singleton]; omega, HIT2.out, HBOX2.out, HV2.out, HBB2.out, ⟨by rw [HSP.out.1, List.append_assoc]; rfl, HSP.out.2⟩⟩
        case measure => simp only [World.iterPos, HIT2.out, HIT.out]; omega
    · have hnx := fun ty => Lib.run_next_end_at (P := Try.prog) wr w.heap.size s p ty hit hlt2
      have HE := Aside0.mk ((charsFrom_end s f p hlt2) ▸ hspec.out)
      have HPS := Aside0.mk (by omega : s.size = p)
      clear hit
      go_wp2_with fail
      go_ret
      exact ⟨by rw [HE.out.2, HPS.out]; rfl, _, HBOX.out, by rw [HE.out.1, List.append_nil]; exact HV.out, HB.out⟩

set_option maxHeartbeats 800000 in
theorem chars_any (s : ByteArray) (w : World) (hs : s.size ≤ 1000000) :
    Calls Try.prog 78 #[.string s] w fun e w' => ∃ v, e = .returned (.tuple #[v, .bool (validS s)]) ∧ Kd.R (Kd.int .i64) 3 w' w.heap.size (fun _ => True) v (charsOr s) ∧ Below w.heap.size w w' := by
  go_enter Try.func78, Try.ntmps78
  go_wp2_with fail
  refine (each_chars s w.heap.size w.heap.size (.slice none 0 0) w _ hs (blk_new _ _) (Kd.R_nil _ _ _ _ _) (below_new1 _ _) (Nat.le_refl _)).mono ?_
  rintro e w1 ⟨rfl, v1, hbox, hv, hb⟩
  have hc := cell_of_one hbox
  have HV := Aside0.mk hv
  have HB := Aside0.mk hb
  clear hbox hv hb
  by_cases h : badPos s < s.size
  · have HS := Aside0.mk (show validS s = false from decide_eq_false (by omega))
    have hd : decide ((badPos s : Int) < (s.size : Int)) = true := decide_eq_true (by omega)
    go_wp2_with fail
    go_ret2
    exact ⟨_, by rw [HS.out]; rfl, by rw [charsOr_no HS.out]; exact Kd.R_nil _ _ _ _ _, HB.out⟩
  · have HS := Aside0.mk (show validS s = true from decide_eq_true (by omega))
    have hd : decide ((badPos s : Int) < (s.size : Int)) = false := decide_eq_false (by omega)
    go_wp2_with fail
    go_ret2
    exact ⟨_, by rw [HS.out]; rfl, by rw [charsOr_yes HS.out]; exact HV.out, HB.out⟩
end Go.Proofs.Ytjhihohofhhknaa.X
