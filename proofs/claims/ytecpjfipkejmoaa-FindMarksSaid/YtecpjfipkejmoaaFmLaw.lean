/- Texts of this claim, those that nothing needs left out: Zmn Zmo LawFindMarks. -/
import Derived.Test.YtecpjfipkejmoaaFmG5
import Derived.Test.YtecpjfipkejmoaaFmG1
import Derived.Test.YtecpjfipkejmoaaRows
import Derived.WalkKit
import Derived.ProofKit
import Derived.OpenShut
import Derived.ShutString
import Derived.ChangeOld
import Derived.Below
import Derived.SizedLaws
section
namespace Go.Proofs.Ytecpjfipkejmoaa.PA
set_option linter.unusedSimpArgs false
set_option linter.unusedVariables false
open Go.RowKit Go.Maps Go.Proofs.YtecpjfipkejmoaaW.PrintWords Go.Proofs.YtecpjfipkejmoaaW.PrintLast Go.Proofs.YtecpjfipkejmoaaW.PrintMore
theorem First_any (A : Option Addr) (c : Nat) (m : List S49) (s : ByteArray) (w : World) (hr : Kd.C k49 w A m.length m) (hok : okM m) (hs : s.size ≤ 1000000) :
    Calls Try.prog 13 #[.slice A m.length c, .string s] w fun e W' => ∃ v, e = .returned (.tuple #[v, .bool (wayF m s.data.toList 0).2]) ∧ W'.ownsRow w.heap.size 31 2 v (wayF m s.data.toList 0).1.length (hflat (wayF m s.data.toList 0).1) ∧ Below w.heap.size w W' := by
  have HW := Aside0.mk (Way_any A c m s 0 w hr hok hs)
  clear hr
  generalize wayF m s.data.toList 0 = p at HW ⊢
  go_enter Try.func13, Try.ntmps13
  go_wp2_with fail
  refine HW.out.mono ?_
  rintro e w1 ⟨v, rfl, ho, hb⟩
  have HO := Aside0.mk ho
  have HB := Aside0.mk hb
  clear ho hb
  go_wp2_with fail
  go_ret2
  exact ⟨v, rfl, HO.out, HB.out⟩
theorem hits_slice {w : World} {b : Nat} {v : Value} {l : List (Int × Nat)} (h : w.ownsRow b 31 2 v l.length (hflat l)) : ∃ A c, v = .slice A l.length c := by
  rcases h.2 with ⟨h1, h2⟩ | ⟨g, cap, cur, h1, _⟩
  · exact ⟨none, 0, by rw [h1, h2]⟩
  · exact ⟨_, _, h1⟩
def m3 : List S49 := [⟨2, [], [2, 1], 0, 0⟩, ⟨3, [], [], 7, 2⟩, ⟨4, [], [], 0, 0⟩]
theorem m3_ok : okM m3 := by
  intro n hn
  simp only [m3, List.mem_cons, List.not_mem_nil, or_false] at hn
  rcases hn with rfl | rfl | rfl <;> simp
theorem w0_ : wayF m3 [] 0 = ([], true) := by decide +kernel
theorem w1_ : wayF m3 [] 1 = ([(7, 0)], true) := by decide +kernel
theorem w2_ : wayF m3 [] 2 = ([], false) := by decide +kernel
theorem w3_ : manyF m3 [] 9 = 2 := by decide +kernel
theorem nodes_row {w : World} {b n : Nat} {v : Value} {l : List S49} {inner : List Value} (h : w.ownsRow b 49 5 v n inner) (hn : n = l.length) (hr : Reps (k49.K w) 5 l inner) : ∃ A c, v = .slice A l.length c ∧ l.length ≤ c ∧ Kd.C k49 w A l.length l := by
  subst hn
  exact OwnRow.reads ⟨inner, h, hr⟩
theorem ints_row {w : World} {b : Nat} {l : List Int} {v : Value} (h : w.ownsRow b 3 1 v l.length (l.map (Value.int .i64))) : ∃ A c, v = .slice A l.length c ∧ l.length ≤ c ∧ Kd.C (Kd.int .i64) w A l.length l := by
  refine OwnRow.reads (R := fun x cs => (Kd.int .i64).K w x cs) ⟨_, h, ?_⟩
  clear h
  induction l with
  | nil => exact Reps.none _ _
  | cons x r ih => exact Reps.one (show (Kd.int .i64).K w x [.int .i64 x] from rfl) ih
theorem m3_row (w : World) : Kd.C k49 ((w.alloc (.cells #[.int .i64 2, .int .i64 1] 3)).alloc (.cells #[.int .i64 2, .slice none 0 0, .slice (some ⟨w.heap.size, 0, none⟩) 2 2, .int .i64 0, .int .i64 0, .int .i64 3, .slice none 0 0, .slice none 0 0, .int .i64 7, .int .i64 2, .int .i64 4, .slice none 0 0, .slice none 0 0, .int .i64 0, .int .i64 0] 49)) (some ⟨w.heap.size + 1, 0, none⟩) 3 m3 := by
  have h1 := World.ownsRow_lit (base := w.heap.size) (e := 3) (size := 1) w #[.int .i64 2, .int .i64 1] 2 (Nat.le_refl _) (by simp [maxLen]) (by simp)
  obtain ⟨A, c, hv, hl, hc⟩ := ints_row (l := [2, 1]) (by simpa using h1)
  injection hv with hv1 hv2 hv3
  subst hv1
  subst hv3
  have hc2 := Kd.C_alloc hc (.cells #[.int .i64 2, .slice none 0 0, .slice (some ⟨w.heap.size, 0, none⟩) 2 2, .int .i64 0, .int .i64 0, .int .i64 3, .slice none 0 0, .slice none 0 0, .int .i64 7, .int .i64 2, .int .i64 4, .slice none 0 0, .slice none 0 0, .int .i64 0, .int .i64 0] 49)
  have h2 := World.ownsRow_lit (base := w.heap.size) (e := 49) (size := 5) (w.alloc (.cells #[.int .i64 2, .int .i64 1] 3)) #[.int .i64 2, .slice none 0 0, .slice (some ⟨w.heap.size, 0, none⟩) 2 2, .int .i64 0, .int .i64 0, .int .i64 3, .slice none 0 0, .slice none 0 0, .int .i64 7, .int .i64 2, .int .i64 4, .slice none 0 0, .slice none 0 0, .int .i64 0, .int .i64 0] 3 (by simp) (by simp [maxLen]) (by simp)
  have k1 := k49_mk ((w.alloc (.cells #[.int .i64 2, .int .i64 1] 3)).alloc (.cells #[.int .i64 2, .slice none 0 0, .slice (some ⟨w.heap.size, 0, none⟩) 2 2, .int .i64 0, .int .i64 0, .int .i64 3, .slice none 0 0, .slice none 0 0, .int .i64 7, .int .i64 2, .int .i64 4, .slice none 0 0, .slice none 0 0, .int .i64 0, .int .i64 0] 49)) ⟨2, [], [2, 1], 0, 0⟩ (A1 := none) (c1 := 0) (Nat.le_refl _) (X.C_nil _ _) (A2 := some ⟨w.heap.size, 0, none⟩) (c2 := 2) (Nat.le_refl _) hc2
  have k2 := k49_mk ((w.alloc (.cells #[.int .i64 2, .int .i64 1] 3)).alloc (.cells #[.int .i64 2, .slice none 0 0, .slice (some ⟨w.heap.size, 0, none⟩) 2 2, .int .i64 0, .int .i64 0, .int .i64 3, .slice none 0 0, .slice none 0 0, .int .i64 7, .int .i64 2, .int .i64 4, .slice none 0 0, .slice none 0 0, .int .i64 0, .int .i64 0] 49)) ⟨3, [], [], 7, 2⟩ (A1 := none) (c1 := 0) (Nat.le_refl _) (X.C_nil _ _) (A2 := none) (c2 := 0) (Nat.le_refl _) (X.C_nil _ _)
  have k3 := k49_mk ((w.alloc (.cells #[.int .i64 2, .int .i64 1] 3)).alloc (.cells #[.int .i64 2, .slice none 0 0, .slice (some ⟨w.heap.size, 0, none⟩) 2 2, .int .i64 0, .int .i64 0, .int .i64 3, .slice none 0 0, .slice none 0 0, .int .i64 7, .int .i64 2, .int .i64 4, .slice none 0 0, .slice none 0 0, .int .i64 0, .int .i64 0] 49)) ⟨4, [], [], 0, 0⟩ (A1 := none) (c1 := 0) (Nat.le_refl _) (X.C_nil _ _) (A2 := none) (c2 := 0) (Nat.le_refl _) (X.C_nil _ _)
  have hr := ((((Reps.none (k49.K ((w.alloc (.cells #[.int .i64 2, .int .i64 1] 3)).alloc (.cells #[.int .i64 2, .slice none 0 0, .slice (some ⟨w.heap.size, 0, none⟩) 2 2, .int .i64 0, .int .i64 0, .int .i64 3, .slice none 0 0, .slice none 0 0, .int .i64 7, .int .i64 2, .int .i64 4, .slice none 0 0, .slice none 0 0, .int .i64 0, .int .i64 0] 49))) 5).snoc k1 rfl).snoc k2 rfl).snoc k3 rfl)
  obtain ⟨A, c, hv, hl, hC⟩ := nodes_row (l := m3) h2 rfl (by simpa [m3] using hr)
  injection hv with hv1 _ hv3
  rw [← hv1] at hC
  rw [X.size_alloc1] at hC
  exact hC
set_option maxHeartbeats 8000000 in
set_option maxRecDepth 100000 in
theorem awake_walk (w : World) : Calls Try.prog 8 #[] w fun e W' => e = .returned (.bool true) ∧ Below w.heap.size w W' := by
  have hC := m3_row w
  have HB := Aside0.mk (X.below_new2 w (.cells #[.int .i64 2, .int .i64 1] 3) (.cells #[.int .i64 2, .slice none 0 0, .slice (some ⟨w.heap.size, 0, none⟩) 2 2, .int .i64 0, .int .i64 0, .int .i64 3, .slice none 0 0, .slice none 0 0, .int .i64 7, .int .i64 2, .int .i64 4, .slice none 0 0, .slice none 0 0, .int .i64 0, .int .i64 0] 49))
  have HC := Aside0.mk hC
  clear hC
  go_enter Try.func8, Try.ntmps8
  go_wp2_with fail
  generalize ((w.alloc (.cells #[.int .i64 2, .int .i64 1] 3)).alloc (.cells #[.int .i64 2, .slice none 0 0, .slice (some ⟨w.heap.size, 0, none⟩) 2 2, .int .i64 0, .int .i64 0, .int .i64 3, .slice none 0 0, .slice none 0 0, .int .i64 7, .int .i64 2, .int .i64 4, .slice none 0 0, .slice none 0 0, .int .i64 0, .int .i64 0] 49)) = W at HC HB ⊢
  have h0 := fun (W' : World) (hb : Below W.heap.size W W') => Way_any (some ⟨w.heap.size + 1, 0, none⟩) 3 m3 ⟨#[]⟩ 0 W' (Kd.C_below HC.out hb) m3_ok (by decide)
  have h1 := fun (W' : World) (hb : Below W.heap.size W W') => Way_any (some ⟨w.heap.size + 1, 0, none⟩) 3 m3 ⟨#[]⟩ 1 W' (Kd.C_below HC.out hb) m3_ok (by decide)
  have h2 := fun (W' : World) (hb : Below W.heap.size W W') => Way_any (some ⟨w.heap.size + 1, 0, none⟩) 3 m3 ⟨#[]⟩ 2 W' (Kd.C_below HC.out hb) m3_ok (by decide)
  have h3 := fun (W' : World) (hb : Below W.heap.size W W') => Many_any (some ⟨w.heap.size + 1, 0, none⟩) 3 m3 ⟨#[]⟩ 9 W' (Kd.C_below HC.out hb) m3_ok (by decide)
  simp only [show (⟨#[]⟩ : ByteArray).data.toList = [] from rfl, w0_, w1_, w2_, w3_, show m3.length = 3 from rfl] at h0 h1 h2 h3
  have H0 := Aside0.mk h0
  have H1 := Aside0.mk h1
  have H2 := Aside0.mk h2
  have H3 := Aside0.mk h3
  clear h0 h1 h2 h3
  refine (H0.out W (Below.refl _ _)).mono ?_
  rintro e x1 ⟨v1, rfl, ho1, hb1⟩
  obtain ⟨B1, d1, rfl⟩ := hits_slice ho1
  have X1 := Aside0.mk hb1
  clear ho1 hb1
  go_wp2_with fail
  refine (H1.out x1 X1.out).mono ?_
  rintro e x2 ⟨v2, rfl, ho2, hb2⟩
  have X2 := Aside0.mk (X1.out.trans (hb2.mono X1.out.size))
  rcases ho2.2 with ⟨_, h⟩ | ⟨g, cap, cur, rfl, hg, hgb, _, _, _, htk⟩
  · cases h
  have HGB := Aside0.mk hgb
  have HTK := Aside0.mk htk
  clear ho2 hb2 hgb htk hg
  go_wp2_with fail
  refine (H2.out x2 X2.out).mono ?_
  rintro e x3 ⟨v3, rfl, ho3, hb3⟩
  obtain ⟨B3, d3, rfl⟩ := hits_slice ho3
  have X3 := Aside0.mk (X2.out.trans (hb3.mono X2.out.size))
  have HGB3 := Aside0.mk (blk_below HGB.out hb3)
  clear ho3 hb3
  go_wp2_with fail
  refine (H3.out x3 X3.out).mono ?_
  rintro e x4 ⟨rfl, hb4⟩
  have X4 := Aside0.mk (X3.out.trans (hb4.mono X3.out.size))
  have hgb := blk_below HGB3.out hb4
  have y0 : x4.cell? ⟨g, 0, none⟩ = some (.int .i64 7) := by
    rw [blk_cell hgb, ← Array.getElem?_toList, ← List.getElem?_take_of_lt (show 0 < 1 * 2 by decide), show List.take (1 * 2) cur.toList = _ from HTK.out]; rfl
  have y1 : x4.cell? ⟨g, 1, none⟩ = some (.int .i64 0) := by
    rw [blk_cell hgb, ← Array.getElem?_toList, ← List.getElem?_take_of_lt (show 1 < 1 * 2 by decide), show List.take (1 * 2) cur.toList = _ from HTK.out]; rfl
  clear hgb hb4
  go_wp2_with fail
  go_ret
  exact ⟨rfl, HB.out.trans (X4.out.mono HB.out.size)⟩
end Go.Proofs.Ytecpjfipkejmoaa.PA
end
section
namespace Go.Proofs.Ytecpjfipkejmoaa.PA
set_option linter.unusedSimpArgs false
set_option linter.unusedVariables false
open Go.RowKit Go.Maps Go.Proofs.YtecpjfipkejmoaaW.PrintWords Go.Proofs.YtecpjfipkejmoaaW.PrintLast Go.Proofs.YtecpjfipkejmoaaW.PrintMore
theorem conv1 (W : World) (B : Nat) (v : Int) (s : ByteArray) (hs : strOfNums [v] = s) (h : W.cell? ⟨B, 0, none⟩ = some (.int .u8 v)) :
    (convert 53 9 (.slice (some ⟨B, 0, none⟩) 1 1)).run Try.prog W = .ok (.string s) W := by
  subst hs
  exact run_convert_bytes_arg W 53 5 Try.underlying53 Try.underlying5 B 0 1 1 [v] rfl (fun i hi => by
    obtain rfl : i = 0 := by omega
    exact h) 9 Try.underlying9
theorem node_info : (Try.prog.info? 49).map (fun i => (i.zero, i.size, i.bytes)) = some (some (.agg #[.int .i64 0, .slice none 0 0, .slice none 0 0, .int .i64 0, .int .i64 0]), 5, 72) := by kernel_rfl
def mcs (l : List Int) (i : Nat) : List Value := [.int .i64 3, .slice none 0 0, .slice none 0 0, .int .i64 (l.getD i 0), .int .i64 ((i : Int) + 1)]
def mflat (l : List Int) (k : Nat) : List Value := (List.range k).flatMap (mcs l)
theorem mflat_succ (l : List Int) (k : Nat) : mflat l (k + 1) = mflat l k ++ mcs l k := by
  unfold mflat
  rw [List.range_succ, List.flatMap_append]
  simp
theorem mflat_reps (w : World) (l : List Int) (k : Nat) : Reps (k49.K w) 5 ((List.range k).map (markN l)) (mflat l k) := by
  induction k with
  | zero => exact Reps.none _ _
  | succ k ih =>
    rw [mflat_succ, List.range_succ, List.map_append]
    exact ih.snoc (k49_mk w (markN l k) (A1 := none) (c1 := 0) (Nat.le_refl _) (X.C_nil _ _) (A2 := none) (c2 := 0) (Nat.le_refl _) (X.C_nil _ _)) rfl
theorem str1 (c : UInt8) : (strOfNums [(c.toNat : Int)]).data.toList = [c] := by
  simp [strOfNums]
theorem chain_ok (l : List Int) (c : UInt8) : okM (chainM l c) := by
  intro n hn
  unfold chainM at hn
  rcases List.mem_append.1 hn with h | h
  · obtain ⟨i, _, rfl⟩ := List.mem_map.1 h
    simp [markN]
  · simp only [List.mem_cons, List.not_mem_nil, or_false] at h
    have := c.toNat_lt
    rcases h with rfl | rfl
    · simp; omega
    · simp
theorem marks_way (l : List Int) (c : UInt8) (h : l.length ≤ 100) : wayF (chainM l c) [c] 0 = (l.map fun t => (t, 0), true) := by
  unfold wayF
  have h1 := chain_ways l c h l.length 0 (by omega)
  rw [if_pos ⟨chain_may l c h, by omega, by rw [h1]; decide⟩]
  have h2 := chain_way l c h l.length 0 (by omega)
  rw [show (0 : Int).toNat = 0 from rfl, h2]
  rfl
theorem marks_many (l : List Int) (c : UInt8) (h : l.length ≤ 100) : manyF (chainM l c) [c] 9 = 1 := by
  unfold manyF
  rw [if_pos ⟨chain_may l c h, by omega⟩, chain_ways l c h l.length 0 (by omega)]
  rfl
theorem marks_none (l : List Int) (c : UInt8) (h : l.length ≤ 100) : manyF (chainM l c) [] 9 = 0 := by
  unfold manyF
  rw [if_pos ⟨chain_may l c h, by omega⟩, chain_none l c h l.length 0 (by omega)]
  rfl
theorem own_geth {w : World} {b n : Nat} {v : Value} {L : List (Int × Nat)} (h : w.ownsRow b 31 2 v n (hflat L)) (hn : n = L.length) (k : Nat) (hk : k < L.length) : ∃ ad cap, v = .slice (some ad) n cap ∧ w.cell? (ad.add (k * 2)) = some (.int .i64 L[k].1) ∧ w.cell? ⟨(ad.add (k * 2)).block, (ad.add (k * 2)).off + 1, none⟩ = some (.int .i64 (L[k].2 : Int)) := by
  rcases h.2 with ⟨_, h0⟩ | ⟨g, cap, cur, hv, hg, hgb, hcap, _, hsz, htk⟩
  · omega
  · have key : ∀ (L : List (Int × Nat)) (k : Nat) (h : k < L.length), (hflat L)[k * 2]? = some (.int .i64 L[k].1) ∧ (hflat L)[k * 2 + 1]? = some (.int .i64 (L[k].2 : Int)) := by
      intro L
      induction L with
      | nil => intro k h; cases h
      | cons q r ih =>
        intro k h
        have e : hflat (q :: r) = hcs q ++ hflat r := by simp [hflat]
        rw [e]
        cases k with
        | zero => exact ⟨rfl, rfl⟩
        | succ k =>
          have h2 := ih k (by simpa using h)
          rw [show (k + 1) * 2 = (k * 2) + 2 by omega]
          exact h2
    obtain ⟨h1, h2⟩ := key L k hk
    have cc : ∀ (j : Nat) (u : Value), (hflat L)[j]? = some u → cur[j]? = some u := by
      intro j u hj
      rw [← htk] at hj
      have hlt : j < n * 2 := by
        have := (List.getElem?_eq_some_iff.1 hj).1
        rw [List.length_take] at this
        omega
      rw [List.getElem?_take_of_lt hlt, Array.getElem?_toList] at hj
      exact hj
    refine ⟨⟨g, 0, none⟩, cap, hv, ?_, ?_⟩
    · rw [add_zero_off, Nat.zero_add, blk_cell hgb]
      exact cc _ _ h1
    · rw [add_zero_off]
      show w.cell? ⟨g, 0 + k * 2 + 1, none⟩ = _
      rw [Nat.zero_add, blk_cell hgb]
      exact cc _ _ h2
theorem edge_row {w : World} {B : Nat} {x : S52} (h : w.heap[B]? = some (.cells #[.int .u8 x.f0, .int .u8 x.f1, .int .i64 x.f2] 52 (0, 0))) : Kd.C k52 w (some ⟨B, 0, none⟩) 1 [x] := by
  have ho : w.ownsRow B 52 3 (.slice (some ⟨B, 0, none⟩) 1 1) 1 [.int .u8 x.f0, .int .u8 x.f1, .int .i64 x.f2] := ⟨rfl, .inr ⟨B, 1, _, rfl, Nat.le_refl _, h, Nat.le_refl _, by unfold maxLen; omega, rfl, rfl⟩⟩
  obtain ⟨A, c, hv, _, hc⟩ := OwnRow.reads (ps := [x]) ⟨_, ho, (Reps.none (k52.K w) 3).snoc (k52_mk w x) rfl⟩
  injection hv with hv1
  rw [hv1]
  exact hc
theorem chain_row {w : World} {base B n : Nat} {v : Value} {l : List Int} {c : UInt8} (hn : n = l.length)
    (ho : w.ownsRow base 49 5 v (n + 2) (mflat l n ++ [.int .i64 1, .slice (some ⟨B, 0, none⟩) 1 1, .slice none 0 0, .int .i64 0, .int .i64 0, .int .i64 4, .slice none 0 0, .slice none 0 0, .int .i64 0, .int .i64 0]))
    (he : w.heap[B]? = some (.cells #[.int .u8 (c.toNat : Int), .int .u8 (c.toNat : Int), .int .i64 ((n : Int) + 1)] 52 (0, 0))) :
    ∃ A cp, v = .slice A (chainM l c).length cp ∧ (chainM l c).length ≤ cp ∧ Kd.C k49 w A (chainM l c).length (chainM l c) := by
  have hE := edge_row (x := ⟨(c.toNat : Int), (c.toNat : Int), (n : Int) + 1⟩) he
  have k1 := k49_mk w ⟨1, [⟨(c.toNat : Int), (c.toNat : Int), (l.length : Int) + 1⟩], [], 0, 0⟩ (A1 := some ⟨B, 0, none⟩) (c1 := 1) (Nat.le_refl _) (by rw [← hn]; exact hE) (A2 := none) (c2 := 0) (Nat.le_refl _) (X.C_nil _ _)
  have k2 := k49_mk w ⟨4, [], [], 0, 0⟩ (A1 := none) (c1 := 0) (Nat.le_refl _) (X.C_nil _ _) (A2 := none) (c2 := 0) (Nat.le_refl _) (X.C_nil _ _)
  have hr := ((mflat_reps w l n).snoc k1 rfl).snoc k2 rfl
  refine nodes_row (l := chainM l c) ho (by rw [chain_len, hn]) ?_
  unfold chainM
  rw [← hn] at hr ⊢
  simpa using hr
set_option maxHeartbeats 16000000 in
set_option maxRecDepth 100000 in
theorem FindMarks_walk (w : World) {A0 : Option Addr} {c0 : Nat} {l : List Int} (hr0 : Kd.C (Kd.int .i64) w A0 l.length l) (hc0 : l.length ≤ c0) (c : UInt8) :
    Calls Try.prog 6 #[.slice A0 l.length c0, .int .u8 (c.toNat : Int)] w fun e W' => e = .returned (.bool true) ∧ Below w.heap.size w W' := by
  have HR := Aside0.mk hr0
  clear hr0 hc0
  have hch := chain_len l c
  have HW := Aside0.mk (marks_way l c)
  have HM := Aside0.mk (marks_many l c)
  have HNO := Aside0.mk (marks_none l c)
  have HSV := Aside0.mk (str1 c)
  have hsz : (strOfNums [(c.toNat : Int)]).size = 1 := by
    have h := congrArg List.length (str1 c)
    rw [Array.length_toList] at h
    exact h
  have HSZ := Aside0.mk hsz
  have HCR := Aside0.mk (fun (w : World) (base B n : Nat) (v : Value) => chain_row (w := w) (base := base) (B := B) (n := n) (v := v) (l := l) (c := c))
  obtain ⟨a1, ha1⟩ : ∃ a : Int, a = (c.toNat : Int) := ⟨_, rfl⟩
  have HA1 := Aside0.mk ha1
  rw [← ha1] at HSV HCR HSZ ⊢
  clear ha1 hsz
  obtain ⟨sv, hsv⟩ : ∃ sv, sv = strOfNums [a1] := ⟨_, rfl⟩
  have HSVE := Aside0.mk hsv.symm
  rw [← hsv] at HSV HSZ
  clear hsv
  obtain ⟨n, hn⟩ : ∃ n, n = l.length := ⟨_, rfl⟩
  have HN := Aside0.mk hn
  have HCH := Aside0.mk hch
  rw [← hn] at HW HM HNO HCR HCH ⊢
  clear hn hch
  go_enter Try.func6, Try.ntmps6
  go_wp2_with fail
  refine (awake_walk _).mono ?_
  rintro e w1 ⟨rfl, hb⟩
  have HB := Aside0.mk hb
  clear hb
  by_cases h100 : n ≤ 100
  · have g1 : ((n : Int) > 100) = False := eq_false (by omega)
    have g2 : ((100 : Int) < (n : Int)) = False := eq_false (by omega)
    go_wp2_with fail
    clear g1 g2
    go_loopw [7, 6] (fun v7 v6 wr => ∃ k : Nat, k ≤ n ∧ v7 = .int .i64 (k : Int) ∧ wr.ownsRow w1.heap.size 49 5 v6 k (mflat l k) ∧ Below w1.heap.size w1 wr) (fun v7 _ _ => (n - intOf v7).toNat)
    case atStart => exact ⟨0, Nat.zero_le _, rfl, World.ownsRow_nil _ _ _ _, Below.refl _ _⟩
    case round =>
      obtain ⟨k, hk, rfl, ho, hbr⟩ := hrel
      have HO := Aside0.mk ho
      have HBR := Aside0.mk hbr
      clear ho hbr
      by_cases hlt : k < n
      · have hk2 : k < l.length := by rw [← HN.out]; exact hlt
        obtain ⟨ad, hA, hc⟩ := X.C_cell1 (Kd.C_below HR.out (HB.out.trans (HBR.out.mono HB.out.size))) k hk2
        obtain ⟨t, ht⟩ : ∃ t, t = l[k] := ⟨_, rfl⟩
        rw [← ht] at hc
        have HT := Aside0.mk (show mcs l k = [.int .i64 3, .slice none 0 0, .slice none 0 0, .int .i64 t, .int .i64 ((k : Int) + 1)] by unfold mcs; rw [ht, List.getD_eq_getElem?_getD, List.getElem?_eq_getElem hk2]; rfl)
        subst hA
        obtain ⟨inner, hin⟩ : ∃ i, i = mflat l k := ⟨_, rfl⟩
        have HIN := Aside0.mk hin
        rw [← hin] at HO
        clear ht hk2 hin
        go_wp2_with (at_builtin; refine print_append_cells (w0 := w1) w1.heap.size rfl (.tmp 24) (.tmp 32) 28 49 (.agg #[.int .i64 0, .slice none 0 0, .slice none 0 0, .int .i64 0, .int .i64 0]) 5 72 rfl Try.underlying28 node_info rfl (by decide) (by decide) u6 k inner [.int .i64 3, .slice none 0 0, .slice none 0 0, .int .i64 t, .int .i64 ((k : Int) + 1)] rfl rfl rfl (by simp [Value.oneCell']) HO.out HBR.out HBR.out.size (by omega) ?_; intro v1 w2 q1 q2 q3 q4; have Q1 := Aside0.mk q1; have Q2 := Aside0.mk q2; clear q1 q2 q3 q4)
        go_roundw
        case rel => exact ⟨k + 1, by omega, by go_num, by rw [mflat_succ, HT.out, ← HIN.out]; exact Q1.out, Q2.out⟩
        case measure => simp [intOf]; omega
      · have hkn : n = k := by omega
        subst hkn
        have h5 := X.below_new2 wr (.cells #[.int .u8 a1, .int .u8 a1, .int .i64 ((n : Int) + 1)] 52) (.cells #[.int .i64 1, .slice (some ⟨wr.heap.size, 0, none⟩) 1 1, .slice none 0 0, .int .i64 0, .int .i64 0, .int .i64 4, .slice none 0 0, .slice none 0 0, .int .i64 0, .int .i64 0] 49)
        have hnb := X.blk_new2 wr (.cells #[.int .u8 a1, .int .u8 a1, .int .i64 ((n : Int) + 1)] 52) (.cells #[.int .i64 1, .slice (some ⟨wr.heap.size, 0, none⟩) 1 1, .slice none 0 0, .int .i64 0, .int .i64 0, .int .i64 4, .slice none 0 0, .slice none 0 0, .int .i64 0, .int .i64 0] 49)
        have heb := blk_alloc (blk_new wr (.cells #[.int .u8 a1, .int .u8 a1, .int .i64 ((n : Int) + 1)] 52)) (.cells #[.int .i64 1, .slice (some ⟨wr.heap.size, 0, none⟩) 1 1, .slice none 0 0, .int .i64 0, .int .i64 0, .int .i64 4, .slice none 0 0, .slice none 0 0, .int .i64 0, .int .i64 0] 49)
        have HO5 := Aside0.mk (own_below HO.out h5)
        have HB5 := Aside0.mk ((HB.out.trans (HBR.out.mono HB.out.size)).trans (h5.mono ((HB.out.trans (HBR.out.mono HB.out.size)).size)))
        have HB15 := Aside0.mk (HBR.out.trans (h5.mono HBR.out.size))
        have HNB := Aside0.mk hnb
        have HEB := Aside0.mk heb
        obtain ⟨inner, hin⟩ : ∃ i, i = mflat l n := ⟨_, rfl⟩
        have HIN := Aside0.mk hin
        rw [← hin] at HO5
        obtain ⟨i0, hi0, hz0, hz1, hz2⟩ := info_parts node_info
        clear h5 hnb heb hin hlt
        go_wp2_with (at_builtin; refine wpList_append_own_at _ rfl (.tmp 36) (.tmp 45) 28 rfl w1.heap.size 49 i0 (.agg #[.int .i64 0, .slice none 0 0, .slice none 0 0, .int .i64 0, .int .i64 0]) 5 72 Try.underlying28 hi0 hz0 hz1 hz2 rfl (by decide) u6 n inner rfl HO5.out ⟨wr.heap.size + 1, 0, none⟩ 2 2 [.int .i64 1, .slice (some ⟨wr.heap.size, 0, none⟩) 1 1, .slice none 0 0, .int .i64 0, .int .i64 0, .int .i64 4, .slice none 0 0, .slice none 0 0, .int .i64 0, .int .i64 0] rfl rfl (fun j u hu => by rw [add_zero_off, Nat.zero_add, blk_cell HNB.out]; simpa using hu) (by simp [Value.oneCell']) (by unfold maxLen; omega) (by omega) HB15.out.size ?_; intro v7 w7 q1 q2 q3 q4; have Q1 := Aside0.mk q1; have HEB7 := Aside0.mk (blk_row HEB.out HO5.out (by decide) q2); have HB7 := Aside0.mk (HB5.out.grown q2 HB5.out.size (fun x hx => Nat.le_trans HB.out.size (own_base HO5.out x hx))); clear q1 q2 q3 q4; obtain ⟨A7, c7, rfl, l7, g7⟩ := HCR.out w7 w1.heap.size wr.heap.size n v7 rfl (by rw [← HIN.out]; exact Q1.out) HEB7.out; have G7 := Aside0.mk g7; clear g7 l7; have hconv := conv1 (w7.alloc (.cells #[.int .u8 a1] 5)) w7.heap.size a1 sv HSVE.out (cell1 (blk_new w7 (.cells #[.int .u8 a1] 5))))
        have hF := First_any A7 c7 (chainM l c) sv (w7.alloc (.cells #[.int .u8 a1] 5)) (Kd.C_alloc G7.out _) (chain_ok l c) (by have := HSZ.out; omega)
        rw [HSV.out, HW.out h100] at hF
        dsimp only at hF
        refine hF.mono ?_
        rintro e w9 ⟨v9, rfl, ho9, hb9⟩
        have hb7 := X.below_new1 w7 (.cells #[.int .u8 a1] 5)
        have HB9 := Aside0.mk (HB7.out.trans ((hb7.trans (hb9.mono hb7.size)).mono HB7.out.size))
        have G9 := Aside0.mk (Kd.C_below G7.out (hb7.trans (hb9.mono hb7.size)))
        obtain ⟨A9, c9, rfl⟩ := hits_slice ho9
        rw [List.length_map, ← HN.out] at ho9 ⊢
        have HO9 := Aside0.mk ho9
        clear ho9 hb9 hF hconv hb7 HO HBR HNB HEB HO5 HB5 HB15 Q1 HEB7 HB7
        go_wp2_with fail
        go_loopw [12] (fun v12 wz => ∃ k : Nat, k ≤ n ∧ v12 = .int .i64 (k : Int) ∧ Below w9.heap.size w9 wz) (fun v12 _ => (n - intOf v12).toNat)
        case atStart => exact ⟨0, Nat.zero_le _, rfl, Below.refl _ _⟩
        case round =>
          obtain ⟨k, hk, rfl, hbr⟩ := hrel
          have HBR := Aside0.mk hbr
          clear hbr
          by_cases hlt : k < n
          · have hk2 : k < l.length := by rw [← HN.out]; exact hlt
            obtain ⟨ad, hA, hc⟩ := X.C_cell1 (Kd.C_below HR.out (HB9.out.trans (HBR.out.mono HB9.out.size))) k hk2
            obtain ⟨ad9, cp9, hv9, y0, y1⟩ := own_geth (own_below HO9.out HBR.out) (by rw [List.length_map]; exact HN.out) k (by rw [List.length_map]; exact hk2)
            rw [List.getElem_map] at y0 y1
            obtain ⟨t, ht⟩ : ∃ t, t = l[k] := ⟨_, rfl⟩
            rw [← ht] at hc y0
            dsimp only at y0 y1
            have hA9 : A9 = some ad9 := by injection hv9
            subst hA
            subst hA9
            clear hv9 ht hk2
            go_wp2_with fail
            go_quiet (fail)
            go_wp2_with fail
            go_roundw
            case rel => exact ⟨k + 1, by omega, by go_num, pw_below_drewN HBR.out _⟩
            case measure => simp [intOf]; omega
          · have hM := fun (W : World) (hb : Below w9.heap.size w9 W) => Many_any A7 c7 (chainM l c) sv 9 W (Kd.C_below G9.out hb) (chain_ok l c) (by have := HSZ.out; omega)
            have hN := fun (W : World) (hb : Below w9.heap.size w9 W) => Many_any A7 c7 (chainM l c) ⟨#[]⟩ 9 W (Kd.C_below G9.out hb) (chain_ok l c) (by decide)
            simp only [HSV.out, HM.out h100, HNO.out h100, show (⟨#[]⟩ : ByteArray).data.toList = [] from rfl] at hM hN
            have HMM := Aside0.mk hM
            have HNN := Aside0.mk hN
            clear hM hN
            go_wp2_with fail
            refine (HMM.out wr HBR.out).mono ?_
            rintro e w10 ⟨rfl, hb⟩
            have HB10 := Aside0.mk (below_step HBR.out hb)
            clear hb
            go_wp2_with fail
            refine (HNN.out w10 HB10.out).mono ?_
            rintro e w11 ⟨rfl, hb⟩
            have HB11 := Aside0.mk (below_step HB10.out hb)
            clear hb
            go_wp2_with fail
            go_ret
            exact ⟨rfl, HB9.out.trans (HB11.out.mono HB9.out.size)⟩
  · have g1 : ((n : Int) > 100) = True := eq_true (by omega)
    have g2 : ((100 : Int) < (n : Int)) = True := eq_true (by omega)
    go_wp2_with fail
    go_ret
    exact ⟨rfl, HB.out⟩
theorem u8_in {a : Int} (h : (Lit.int .u8 a).wf = true) : ∃ c : UInt8, a = (c.toNat : Int) := by
  simp only [Lit.wf, show IntKind.u8.min = 0 from rfl, show IntKind.u8.max = 255 from rfl, Bool.and_eq_true, decide_eq_true_eq] at h
  refine ⟨UInt8.ofNat a.toNat, ?_⟩
  rw [UInt8.toNat_ofNat']
  omega
theorem FindMarks_row (w : World) {A0 : Option Addr} {c0 : Nat} {l : List Int} (hr0 : Kd.C (Kd.int .i64) w A0 l.length l) (hc0 : l.length ≤ c0) {a1 : Int} (h : (Lit.int .u8 a1).wf = true) :
    Calls Try.prog 6 #[.slice A0 l.length c0, .int .u8 a1] w fun e W' => e = .returned (.bool true) ∧ Below w.heap.size w W' := by
  obtain ⟨c, rfl⟩ := u8_in h
  exact FindMarks_walk w hr0 hc0 c
end Go.Proofs.Ytecpjfipkejmoaa.PA
end
section
namespace Go.Proofs.Ytecpjfipkejmoaa.findMarks
open Go.ChangeShapes Go.WideShapes Go.ChangeAt Go.RowKit
open Go.ChangeMaps (open_string shut_string)
set_option linter.unusedVariables false
theorem own : ownKnob Try.prog.godebug = none := by kernel_rfl
theorem laidOut : laidOutB Try.prog = true := by kernel_rfl
set_option maxRecDepth 100000 in
theorem lifted (os : Os) (started : os.Started) (H : Type) (enc : TypeId × Value → H) :
    ReturnsInHanded {} Try.checked os 6 .any (Rows.findMarksSpec.pre6 enc Try.prog Try.f6 Rows.findMarksRow.domain false) (Rows.findMarksSpec.post enc Try.prog Try.f6 false true false false) := by
  refine returnsInHanded_of_change_sized (C := Try.checked) own started (by kernel_rfl) Try.func6
    (ChangeSpec.witness6 (enc := enc) (C := Try.checked) false ⟨#[], #[.slice none 0 0, .int .u8 0], []⟩ 8 (by kernel_rfl) (by kernel_rfl) (by kernel_rfl) (by kernel_rfl)) ?_
  intro W base args ds gs before hval0 hW hcnd _ _
  have hval : ∀ (j : Nat) t v, Try.f6.params[j]? = some t → args[j]? = some v → Value.okWide Try.prog W .any base t v := hval0
  have hW' := hW
  obtain ⟨p, q, hA0, hV, rfl, hfz, hnd⟩ := hW
  have hA : DataW.TrodAll enc Try.prog W 0 (fun _ => true) true Try.f6.params.toList args.toList ds p := hA0
  rw [Try.params6] at hA hval
  obtain ⟨v0, vs0, d0, ds0, p0, r0, hargs, rfl, rfl, h0, t0⟩ := trodAll_cons hA
  obtain ⟨v1, vs1, d1, ds1, p1, r1, rfl, rfl, rfl, h1, t1⟩ := trodAll_cons t0
  obtain ⟨rfl, rfl, rfl⟩ := trodAll_nil t1
  obtain rfl : args = #[v0, v1] := by cases args; simp_all
  obtain ⟨rfl, rfl⟩ := trodVars_none hV
  have k0 := h0
  have lt0 : ∀ x ∈ p0, x.block < W.heap.size := by obtain ⟨m, hm⟩ := k0; exact DataW.trod_lt m _ _ _ hm
  obtain ⟨A0, l0, c0, rfl, hc0, hl0, o0⟩ := X.arg_slice Try.underlying33 (X.down_int Try.underlying3) (by kernel_rfl) (hval 0 33 v0 rfl rfl) h0
  have k1 := h1
  have lt1 : ∀ x ∈ p1, x.block < W.heap.size := by obtain ⟨m, hm⟩ := k1; exact DataW.trod_lt m _ _ _ hm
  obtain ⟨a1, rfl, rfl, rfl, w1⟩ := open_int Try.underlying5 (hval 1 5 v1 rfl rfl) h1
  refine (PA.FindMarks_row W hl0 hc0 w1).mono fun e W' ⟨he, bel⟩ => ?_
  subst he
  exact ⟨_, rfl, _, _, _, [], _, [], hW', trodAll_mk1 (shut_bool Try.underlying4 _), (trodAll_cons_mk (Below.trod laidOut (by kernel_rfl) (of_decide_eq_true (by kernel_rfl)) k0 bel lt0) (trodAll_cons_mk (Below.trod laidOut (by kernel_rfl) (of_decide_eq_true (by kernel_rfl)) k1 bel lt1) trodAll_mk0)), rfl, bel.frame _, fun h => by cases h⟩
theorem over : Rows.findMarksRow.holds Try.pinned (OpenSpec.ofChange Rows.findMarksSpec) :=
  OpenClaim.holds_of_wide 6 Try.f6 rfl rfl rfl rfl rfl rfl rfl ⟨rfl, rfl, rfl, rfl, rfl⟩ rfl rfl rfl rfl rfl (by kernel_rfl) Try.func6 (by kernel_rfl)
    (of_decide_eq_true (by kernel_rfl)) (by unfold Func.isWrapper; first | (rw [if_pos (by decide +kernel)]; kernel_rfl) | (rw [if_neg (by decide +kernel)]; exact ⟨rfl, rfl⟩))
    (fun os started H enc _ => lifted os started H enc)
end Go.Proofs.Ytecpjfipkejmoaa.findMarks
namespace Go.Proofs.Ytecpjfipkejmoaa
theorem findMarks_holds : Rows.FindMarksSaid := findMarks.over
#print axioms findMarks_holds
end Go.Proofs.Ytecpjfipkejmoaa
end
