/- utf.Bad, utf.Prefix: how far a text is valid, and its first characters. -/
import Derived.Test.YtbjeegkmafbejaaXu
namespace Go.Proofs.Ytbjeegkmafbejaa.X
set_option linter.unusedSimpArgs false
set_option linter.unusedVariables false
open Go.RowKit Go.Proofs.YtbjeegkmafbejaaW.PrintWords Go.Proofs.Ytbjeegkmafbejaa.Y
theorem badDo_any (c : Int) (w : World) : Calls Try.prog 85 #[.int .i64 c] w fun e w' => e = .returned (.tuple #[]) ∧ w = w' := by
  go_enter Try.func85, Try.ntmps85
  go_wp2_with fail
  go_end0
  exact ⟨rfl, rfl⟩
set_option maxHeartbeats 1600000 in
theorem each_bad (s : ByteArray) (w0 w : World) (hs : s.size ≤ 1000000) (hb : Below w0.heap.size w0 w) :
    Calls Try.prog 84 #[.string s, .func (.func 85) #[] #[]] w fun e w' => e = .returned (.int .i64 (badPos s)) ∧ Below w0.heap.size w0 w' := by
  have HB := Aside0.mk hb
  have hsz := hb.size
  clear hb
  go_enter Try.func84, Try.ntmps84
  go_wp2_with fail
  go_loopw [5] (fun _ wr => ∃ (p f : Nat), p ≤ s.size ∧ s.size ≤ p + f ∧ wr.heap[w.heap.size]? = some (.stringIter s p) ∧ Below w0.heap.size w0 wr ∧ Aside0 (badPos s = (charsFrom s f p).2)) (fun _ wr => s.size - wr.iterPos w.heap.size)
  case atStart => exact ⟨0, s.size, by omega, by omega, World.iter_heap _ _ _, HB.out.alloc (by omega) _, ⟨rfl⟩⟩
  case round =>
    obtain ⟨p, f, hp, hf, hit, hb, hspec⟩ := hrel
    clear HB
    have HIT := Aside0.mk hit
    have HB := Aside0.mk hb
    clear hb
    by_cases hlt2 : p < s.size
    · have hnx := fun ty => Lib.run_next_any_at (P := Try.prog) wr w.heap.size s p ty hit hlt2
      clear hit
      have hd1 := decode_top s p
      have hd2 := decode_in s p hlt2
      have hd3 := decode_pos s p
      have hgo := fun g hb => charsFrom_go s g p hlt2 hb
      have hstop := fun g => charsFrom_bad s g p
      have hA := bad_short s p
      have hB1 := bad_long s p
      have hC := bad_not s p
      obtain ⟨c, n, HD⟩ : ∃ c n, Aside0 (Utf8.decode s p = (c, n)) := ⟨_, _, ⟨rfl⟩⟩
      rw [HD.out] at hnx hd1 hd2 hd3 hgo hA hB1 hC
      simp only at hnx hd1 hd2 hd3 hgo hA hB1 hC
      have HGO := Aside0.mk hgo
      have HSTOP := Aside0.mk hstop
      clear hgo hstop
      by_cases h1 : c = 65533
      · subst h1
        by_cases h2 : (s.size : Int) - p < 3
        · have HE := Aside0.mk ((HSTOP.out f (hA rfl h2)) ▸ hspec.out)
          clear hA hB1 hC
          go_wp2_with fail
          go_ret
          exact ⟨by rw [HE.out]; rfl, Lib.below_iterAt HB.out (by omega) _ _⟩
        · have hb2 := hB1 rfl h2
          by_cases h3 : ((s.extract p (p + 3)).toList == (Utf8.encode 65533).toList) = true
          · rw [h3] at hb2
            have HB2 := Aside0.mk hb2
            clear hA hB1 hC hb2
            go_wp2_with fail
            obtain ⟨f', rfl⟩ : ∃ f', f = f' + 1 := ⟨f - 1, by omega⟩
            have HSP := Aside0.mk ((HGO.out f' HB2.out) ▸ hspec.out)
            clear hspec HGO HSTOP
            refine (badDo_any 65533 _).mono ?_
            rintro e w2 ⟨rfl, rfl⟩
            have HIT2 := Aside0.mk (Lib.iterAt_heap wr w.heap.size s p (p + n) HIT.out)
            have hit1 := HIT.out
            go_wp2_with fail
            go_roundw
            case rel => exact ⟨p + n, f', by omega, by omega, HIT2.out, Lib.below_iterAt HB.out (by omega) _ _, ⟨HSP.out⟩⟩
            case measure => simp only [World.iterPos, HIT2.out, HIT.out]; omega
          · have h3' : ((s.extract p (p + 3)).toList == (Utf8.encode 65533).toList) = false := by simpa using h3
            rw [h3'] at hb2
            have HE := Aside0.mk ((HSTOP.out f hb2) ▸ hspec.out)
            clear hA hB1 hC hb2 h3
            go_wp2_with fail
            go_ret
            exact ⟨by rw [HE.out]; rfl, Lib.below_iterAt HB.out (by omega) _ _⟩
      · have HB2 := Aside0.mk (hC h1)
        clear hA hB1 hC
        have h1' : ((c : Int) == 65533) = false := by rw [beq_eq_false_iff_ne]; omega
        go_wp2_with fail
        obtain ⟨f', rfl⟩ : ∃ f', f = f' + 1 := ⟨f - 1, by omega⟩
        have HSP := Aside0.mk ((HGO.out f' HB2.out) ▸ hspec.out)
        clear hspec HGO HSTOP
        refine (badDo_any c _).mono ?_
        rintro e w2 ⟨rfl, rfl⟩
        have HIT2 := Aside0.mk (Lib.iterAt_heap wr w.heap.size s p (p + n) HIT.out)
        have hit1 := HIT.out
        go_wp2_with fail
        go_roundw
        case rel => exact ⟨p + n, f', by omega, by omega, HIT2.out, Lib.below_iterAt HB.out (by omega) _ _, ⟨HSP.out⟩⟩
        case measure => simp only [World.iterPos, HIT2.out, HIT.out]; omega
    · have hnx := fun ty => Lib.run_next_end_at (P := Try.prog) wr w.heap.size s p ty hit hlt2
      have HE := Aside0.mk ((charsFrom_end s f p hlt2) ▸ hspec.out)
      have HPS := Aside0.mk (by omega : s.size = p)
      clear hit
      go_wp2_with fail
      go_ret
      exact ⟨by rw [HE.out, HPS.out]; rfl, HB.out⟩
theorem utfBad_any (s : ByteArray) (w : World) (hs : s.size ≤ 1000000) : Calls Try.prog 73 #[.string s] w fun e w' => e = .returned (.int .i64 (badPos s)) ∧ Below w.heap.size w w' := by
  go_enter Try.func73, Try.ntmps73
  go_wp2_with fail
  refine (each_bad s w w hs (Below.refl _ _)).mono ?_
  rintro e w1 ⟨rfl, hb⟩
  have HB := Aside0.mk hb
  clear hb
  go_wp2_with fail
  go_ret
  exact ⟨rfl, HB.out⟩
theorem charsFrom_le (s : ByteArray) (f : Nat) : ∀ p, p ≤ s.size → (charsFrom s f p).2 ≤ s.size := by
  induction f with
  | zero =>
    intro p hp
    by_cases h : p < s.size
    · cases hb : badAt s p with
      | true => rw [charsFrom_bad s 0 p hb]; exact hp
      | false => unfold charsFrom; exact hp
    · rw [charsFrom_end s 0 p h]; exact hp
  | succ f ih =>
    intro p hp
    by_cases h : p < s.size
    · cases hb : badAt s p with
      | true => rw [charsFrom_bad s (f + 1) p hb]; exact hp
      | false => rw [charsFrom_go s f p h hb]; exact ih _ (decode_in s p h)
    · rw [charsFrom_end s (f + 1) p h]; exact hp
theorem badPos_le (s : ByteArray) : badPos s ≤ s.size := charsFrom_le s s.size 0 (Nat.zero_le _)
/-- Where, of a text, k more characters from p on end. -/
def posN (v : ByteArray) : Nat → Nat → Nat
  | 0, p => p
  | k + 1, p => if p < v.size then posN v k (p + (Utf8.decode v p).2) else p
def prefixS (s : ByteArray) (most : Nat) : ByteArray := (s.extract 0 (badPos s)).extract 0 (posN (s.extract 0 (badPos s)) most 0)
theorem posN_end (v : ByteArray) (k p : Nat) (h : ¬ p < v.size) : posN v k p = p := by
  cases k with
  | zero => rfl
  | succ k => unfold posN; rw [if_neg h]
set_option maxHeartbeats 1600000 in
theorem utfPrefix_any (s : ByteArray) (most : Nat) (w : World) (hs : s.size ≤ 1000000) (hm : most ≤ 1000000) : Calls Try.prog 51 #[.string s, .int .i64 most] w fun e w' => e = .returned (.string (prefixS s most)) ∧ Below w.heap.size w w' := by
  have hle := badPos_le s
  go_enter Try.func51, Try.ntmps51
  go_wp2_with fail
  refine (utfBad_any s _ hs).mono ?_
  rintro e w1 ⟨rfl, hb⟩
  have HB := Aside0.mk hb
  have hsz := hb.size
  clear hb
  go_wp2_with fail
  have hvs : (s.extract 0 (badPos s)).size ≤ 1000000 := by have := ByteArray.size_extract (a := s) (b := 0) (e := badPos s); omega
  have hspec : Aside0 (prefixS s most = (s.extract 0 (badPos s)).extract 0 (posN (s.extract 0 (badPos s)) most 0)) := ⟨rfl⟩
  clear hle hs
  generalize s.extract 0 (badPos s) = v at *
  go_loopw [5] (fun c wr => ∃ (p k : Nat), c = .int .i64 k ∧ k ≤ most ∧ k ≤ p ∧ p ≤ v.size ∧ wr.heap[w1.heap.size]? = some (.stringIter v p) ∧ Below w.heap.size w wr ∧ Aside0 (posN v most 0 = posN v (most - k) p)) (fun _ wr => v.size - wr.iterPos w1.heap.size)
  case atStart => exact ⟨0, 0, by simp, by omega, by omega, by omega, World.iter_heap _ _ _, HB.out.alloc (by omega) _, ⟨rfl⟩⟩
  case round =>
    obtain ⟨p, k, rfl, hk, hkp, hp, hit, hb, HI⟩ := hrel
    have HIT := Aside0.mk hit
    clear HB
    have HB := Aside0.mk hb
    clear hb
    by_cases hlt2 : p < v.size
    · have hnx := fun ty => Lib.run_next_any_at (P := Try.prog) wr w1.heap.size v p ty hit hlt2
      clear hit
      have hd2 := decode_in v p hlt2
      have hd3 := decode_pos v p
      by_cases hkm : k < most
      · have HI2 := Aside0.mk (show posN v most 0 = posN v (most - (k + 1)) (p + (Utf8.decode v p).2) by
          rw [HI.out, show most - k = (most - (k + 1)) + 1 from by omega, posN, if_pos hlt2])
        obtain ⟨c, n, HD⟩ : ∃ c n, Aside0 (Utf8.decode v p = (c, n)) := ⟨_, _, ⟨rfl⟩⟩
        rw [HD.out] at hnx hd2 hd3 HI2
        simp only at hnx hd2 hd3 HI2
        have HIT2 := Aside0.mk (Lib.iterAt_heap wr w1.heap.size v p (p + n) HIT.out)
        go_wp2_with fail
        go_roundw
        case rel => exact ⟨p + n, k + 1, by go_num, by omega, by omega, by omega, HIT2.out, Lib.below_iterAt HB.out (by omega) _ _, HI2⟩
        case measure => simp only [World.iterPos, HIT2.out, HIT.out]; omega
      · have HP := Aside0.mk (show posN v most 0 = p by rw [HI.out, show most - k = 0 from by omega]; rfl)
        obtain ⟨c, n, HD⟩ : ∃ c n, Aside0 (Utf8.decode v p = (c, n)) := ⟨_, _, ⟨rfl⟩⟩
        rw [HD.out] at hnx
        clear hd2 hd3
        go_wp2_with fail
        go_ret
        exact ⟨by rw [hspec.out, HP.out]; rfl, Lib.below_iterAt HB.out (by omega) _ _⟩
    · have hnx := fun ty => Lib.run_next_end_at (P := Try.prog) wr w1.heap.size v p ty hit hlt2
      have HP := Aside0.mk (show posN v most 0 = v.size by rw [HI.out, posN_end v _ p hlt2]; omega)
      clear hit
      go_wp2_with fail
      go_ret
      exact ⟨by rw [hspec.out, HP.out, ByteArray.extract_zero_size]; rfl, HB.out⟩
end Go.Proofs.Ytbjeegkmafbejaa.X
