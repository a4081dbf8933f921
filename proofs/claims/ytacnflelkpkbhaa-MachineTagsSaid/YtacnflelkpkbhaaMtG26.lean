/- Texts of this claim, those that nothing needs left out: Zoc. -/
import Derived.Test.YtacnflelkpkbhaaMtG23
import Derived.Test.YtacnflelkpkbhaaMtG25
section
namespace Go.Proofs.Ytacnflelkpkbhaa.PA
set_option linter.unusedSimpArgs false
set_option linter.unusedVariables false
open Go.RowKit Go.Maps Go.Proofs.YtacnflelkpkbhaaW.PrintWords Go.Proofs.YtacnflelkpkbhaaW.PrintLast Go.Proofs.YtacnflelkpkbhaaW.PrintMore
def tagR (tag : Int) (x : S46) : S46 := ⟨x.f0, x.f1, x.f2, tag, x.f4⟩
def tagL (tag : Int) (l : List S46) (i : Nat) : List S46 := (l.take i).map (tagR tag) ++ l.drop i
theorem tagL_len (tag : Int) (l : List S46) (i : Nat) : (tagL tag l i).length = l.length := by
  unfold tagL
  rw [List.length_append, List.length_map, List.length_take, List.length_drop]
  omega
theorem tagL_at (tag : Int) (l : List S46) (i : Nat) (h : i < l.length) : (tagL tag l i)[i]'(by rw [tagL_len]; exact h) = l[i] := by
  unfold tagL
  rw [List.getElem_append_right (by rw [List.length_map, List.length_take]; omega), List.getElem_drop]
  congr 1
  rw [List.length_map, List.length_take]
  omega
theorem tagL_set (tag : Int) (l : List S46) (i : Nat) (h : i < l.length) : (tagL tag l i).set i (tagR tag l[i]) = tagL tag l (i + 1) := by
  unfold tagL
  have h1 : ((l.take i).map (tagR tag)).length = i := by rw [List.length_map, List.length_take]; omega
  rw [List.set_append_right _ _ (by omega), h1, Nat.sub_self, List.drop_eq_getElem_cons h, List.set_cons_zero, List.take_succ_eq_append_getElem h, List.map_append, List.append_assoc]
  rfl
theorem tag_toN (tag : Int) (l : List S46) : (l.map (tagR tag)).map toN ++ [⟨4, [], [], 0, 0⟩] = tagM tag (l.map toN) := by
  unfold tagM
  rw [List.map_map, List.map_map]
  rfl
theorem MN.tag {w W W' : World} {base : Nat} {x : S46} {cs : List Value} (tag : Int) (h : MN w W base x cs) : MN w W base (tagR tag x) (cs.set 3 (.int .i64 tag)) := by
  obtain ⟨v1, A2, c2, rfl, h2, h3, h4⟩ := h
  exact ⟨v1, A2, c2, rfl, h2, h3, h4⟩
set_option maxHeartbeats 16000000 in
set_option maxRecDepth 100000 in
theorem MachineTags_walk (w : World) {A0 : Option Addr} {c0 : Nat} {l : List S46} (hr0 : Kd.C k46 w A0 l.length l) (hc0 : l.length ≤ c0) (hok : ∀ x ∈ l, okRN x) (s : ByteArray) (tag : Int) :
    Calls Try.prog 4 #[.slice A0 l.length c0, .string s, .int .i64 tag] w fun e W' => e = .returned (.bool true) ∧ Below w.heap.size w W' := by
  obtain ⟨b, hf, hfew⟩ := fewR_any l
  have HF := Aside0.mk hf
  have HFEW := Aside0.mk hfew
  have HR := Aside0.mk hr0
  have HC := Aside0.mk hc0
  have HOK := Aside0.mk hok
  clear hf hfew hr0 hc0 hok
  obtain ⟨n, hn⟩ : ∃ n, n = l.length := ⟨_, rfl⟩
  have HN := Aside0.mk hn
  rw [← hn] at HR HC HFEW ⊢
  clear hn
  go_enter Try.func4, Try.ntmps4
  go_wp2_with fail
  refine (awake_walk _).mono ?_
  rintro e w1 ⟨rfl, hb⟩
  have HB := Aside0.mk hb
  clear hb
  go_wp2_with fail
  refine (HFEW.out w1 A0 c0 (by have h := Kd.C_below HR.out HB.out; exact h) HC.out).mono ?_
  rintro e w2 ⟨rfl, hb⟩
  have HB2 := Aside0.mk (below_step HB.out hb)
  clear hb
  cases b with
  | false =>
    go_wp2_with fail
    go_ret
    exact ⟨rfl, HB2.out⟩
  | true =>
    by_cases c2' : s.size > 200
    · have g4 : ((s.size : Int) > 200) = True := eq_true (by omega)
      have g5 : ((200 : Int) < (s.size : Int)) = True := eq_true (by omega)
      have g6 : (200 < s.size) = True := eq_true (by omega)
      clear c2'
      go_wp2_with fail
      go_ret
      exact ⟨rfl, HB2.out⟩
    have g4 : ((s.size : Int) > 200) = False := eq_false (by omega)
    have g5 : ((200 : Int) < (s.size : Int)) = False := eq_false (by omega)
    have g6 : (200 < s.size) = False := eq_false (by omega)
    have hff := HF.out rfl
    have HRM := Aside0.mk (fun (W : World) (h : Kd.C k46 W A0 n l) => rmay_any l (by omega) hff.2 (W := W) (A := A0) (c := c0) (by rw [← HN.out]; exact h) (by rw [← HN.out]; exact HC.out))
    rw [← HN.out] at HRM
    have hs200 : s.size ≤ 200 := by omega
    have HFF := Aside0.mk hff
    clear HF HFEW hff c2'
    go_wp2_with fail
    refine (HRM.out w2 (Kd.C_below HR.out HB2.out)).mono ?_
    rintro e w3 ⟨rfl, hb⟩
    have HB3 := Aside0.mk (below_step HB2.out hb)
    clear hb HRM
    cases hm : mayB (l.map toN) with
    | false =>
      clear hm
      go_wp2_with fail
      go_ret
      exact ⟨rfl, HB3.out⟩
    | true =>
    clear g4 g5 g6
    have hokm := few_okM HFF.out.2 HOK.out
    have hml : (l.map toN).length = n := by rw [List.length_map]; exact HN.out.symm
    have hn60 : n ≤ 60 := by rw [HN.out]; exact HFF.out.1
    have hn0 : 0 < n := by have := (mayB_iff.1 hm).1.1; omega
    have HMA := Aside0.mk (fun (W : World) (h : Kd.C k46 W A0 n l) => made_any (A0 := A0) (c0 := c0) (l := l) W (by rw [← HN.out]; exact h) (by have := HFF.out.1; omega) (fun x hx => by have := (HFF.out.2 x hx).1; omega))
    have HMO := Aside0.mk (fun (W : World) (h : Kd.C k46 W A0 n l) => made_own (A0 := A0) (c0 := c0) (l := l) W (by rw [← HN.out]; exact h) (by have := HFF.out.1; omega) (fun x hx => by have := (HFF.out.2 x hx).1; omega))
    rw [← HN.out] at HMA HMO
    have hoky : okM (tagM tag (l.map toN)) := by
      intro y hy
      rcases List.mem_append.1 hy with hy | hy
      · obtain ⟨z, hz, rfl⟩ := List.mem_map.1 hy
        exact hokm z hz
      · simp only [List.mem_cons, List.not_mem_nil, or_false] at hy
        subst hy
        simp
    have hmy := tag_may tag hm (by omega)
    have hac := tag_accepts tag hm (by omega) s.data.toList
    have hMY := fun (W : World) (A : Option Addr) (c : Nat) (h : Kd.C k33 W A (tagM tag (l.map toN)).length (tagM tag (l.map toN))) => may_any A c _ W h hoky
    rw [hmy] at hMY
    have HMY := Aside0.mk hMY
    have hAY := fun (W : World) (A : Option Addr) (c : Nat) (h : Kd.C k33 W A (tagM tag (l.map toN)).length (tagM tag (l.map toN))) => Accepts_any A c _ s W h hoky (by omega)
    rw [hac] at hAY
    have HAY := Aside0.mk hAY
    have hAX := fun (W : World) (A : Option Addr) (c : Nat) (h : Kd.C k33 W A n (l.map toN)) => Accepts_any A c (l.map toN) s W (by rw [hml]; exact h) hokm (by omega)
    rw [hml] at hAX
    have HAX := Aside0.mk hAX
    clear hokm hml hm hoky hmy hac hMY hAY hAX
    go_wp2_with fail
    refine (HMA.out w3 (Kd.C_below HR.out HB3.out)).mono ?_
    rintro e w4 ⟨A4, c4, rfl, _, C4, hb⟩
    have HB4 := Aside0.mk (below_step HB3.out hb)
    have HC4 := Aside0.mk C4
    clear hb C4
    go_wp2_with fail
    refine (HMO.out w4 (Kd.C_below HR.out HB4.out)).mono ?_
    rintro e w5 ⟨v5, inner, rfl, ho, hr, hb⟩
    have HB45 := Aside0.mk hb
    have HR5 := Aside0.mk hr
    obtain ⟨g, cap, rfl⟩ : ∃ g cap, v5 = .slice (some ⟨g, 0, none⟩) n cap := by
      rcases ho.2 with ⟨_, h⟩ | ⟨g, cap, _, h, _⟩
      · omega
      · exact ⟨g, cap, h⟩
    have HO5 := Aside0.mk ho
    have hgb : w4.heap.size ≤ g := own_base ho g rfl
    clear hb ho hr HMA HMO
    go_wp2_with fail
    go_loopw [10] (fun v10 wr => ∃ (i : Nat) (inn : List Value), i ≤ n ∧ v10 = .int .i64 (i : Int) ∧ wr.ownsRow w4.heap.size 33 5 (.slice (some ⟨g, 0, none⟩) n cap) n inn ∧ Reps (MN w4 wr w4.heap.size) 5 (tagL tag l i) inn ∧ Below w4.heap.size w4 wr) (fun v10 _ => (n - intOf v10).toNat)
    case atStart => exact ⟨0, inner, Nat.zero_le _, rfl, HO5.out, by unfold tagL; simpa using HR5.out, HB45.out⟩
    case round =>
      obtain ⟨i, inn, hi, rfl, ho, hrp, hb⟩ := hrel
      by_cases hil : i < n
      · have hi2 : i < l.length := by rw [← HN.out]; exact hil
        obtain ⟨cells, hcl⟩ := own_typed ho g rfl
        have hset := own_set ho (i * 5 + 3) (by omega) (.int .i64 tag)
        have hkeep : ∀ (x : S46) (cs : List Value), MN w4 wr w4.heap.size x cs → MN w4 (wr.setCell ⟨g, i * 5 + 3, none⟩ (.int .i64 tag)) w4.heap.size x cs := fun x cs h => h.step fun v1 hv => own_setCell hv (fun e => by
          obtain ⟨cc, hcc⟩ := own_typed hv g e.symm
          rw [hcl] at hcc
          injection hcc with h1
          injection h1 with _ h2
          exact absurd h2 (by decide)) _
        have hrp2 := reps_set (hrp.imp_ hkeep) i 3 (by rw [tagL_len]; exact hi2) (by omega) (.int .i64 tag) (tagR tag l[i]) (fun h => by rw [tagL_at tag l i hi2] at h; exact h.tag (W' := wr) tag)
        rw [tagL_set tag l i hi2] at hrp2
        have hb2 : Below w4.heap.size w4 (wr.setCell ⟨g, i * 5 + 3, none⟩ (.int .i64 tag)) := below_set hb hgb
        have hcell : ∃ u, wr.cell? ⟨g, i * 5 + 3, none⟩ = some u := by
          rcases ho.2 with ⟨_, h⟩ | ⟨g', cap', cur, hv, _, hbk, hcp, _, hsz, _⟩
          · omega
          · injection hv with hv1 _ hv3
            injection hv1 with hv1
            injection hv1 with hv4
            subst hv4
            subst hv3
            refine ⟨cur[i * 5 + 3]'(by rw [hsz]; omega), ?_⟩
            rw [blk_cell hbk, Array.getElem?_eq_getElem]
        obtain ⟨u, hu⟩ := hcell
        have hfz := blk_frozen hcl (i * 5 + 3)
        have HSET := Aside0.mk hset
        have HRP2 := Aside0.mk hrp2
        have HBX := Aside0.mk hb2
        have hadd : (⟨g, 0, none⟩ : Addr).add (i * 5) = ⟨g, i * 5, none⟩ := by rw [add_zero_off, Nat.zero_add]
        clear ho hrp hb hi2 hcl hset hkeep hrp2 hb2
        go_wp2_with fail
        go_roundw
        case rel => exact ⟨i + 1, _, by omega, by go_num, HSET.out, HRP2.out, HBX.out⟩
        case measure => simp [intOf]; omega
      · obtain rfl : n = i := by omega
        have hfull : tagL tag l n = l.map (tagR tag) := by
          unfold tagL
          rw [HN.out, List.take_length, List.drop_length, List.append_nil]
        rw [hfull] at hrp
        have HO := Aside0.mk ho
        have HRP := Aside0.mk hrp
        have HB6 := Aside0.mk hb
        clear ho hrp hb hfull hil hi
        go_wp2_with (at_builtin; refine print_append_cells (w0 := w4) w4.heap.size rfl (.tmp 41) (.tmp 43) 26 33 (.agg #[.int .i64 0, .slice none 0 0, .slice none 0 0, .int .i64 0, .int .i64 0]) 5 72 rfl Try.underlying26 node_info2 rfl (by decide) (by decide) _ n inn [.int .i64 4, .slice none 0 0, .slice none 0 0, .int .i64 0, .int .i64 0] rfl rfl rfl (by simp [Value.oneCell']) HO.out HB6.out HB6.out.size (by omega) ?_; intro v7 w7 q1 q2 q3 q4; have Q1 := Aside0.mk q1; have Q2 := Aside0.mk q2; have Q3 := Aside0.mk q3; clear q1 q2 q3 q4)
        have hlt : (l.map (tagR tag)).length = n := by rw [List.length_map]; exact HN.out.symm
        obtain ⟨A8, c8, h8, _, C8⟩ := made_snoc (w := w4) (l := l.map (tagR tag)) (x := ⟨4, [], [], 0, 0⟩) rfl rfl (by rw [hlt]; exact HO.out) HRP.out Q2.out (by rw [hlt]; exact Q1.out) Q3.out
        rw [tag_toN] at h8 C8
        subst h8
        have HB7 := Aside0.mk (below_step HB4.out Q2.out)
        have HC7 := Aside0.mk (Kd.C_below HC4.out Q2.out)
        have HY7 := Aside0.mk C8
        obtain ⟨mn, hmn⟩ : ∃ m, m = (tagM tag (l.map toN)).length := ⟨_, rfl⟩
        rw [← hmn] at HY7 HMY HAY ⊢
        clear hlt C8 hmn Q1 Q2 Q3
        refine (HMY.out w7 A8 c8 HY7.out).mono ?_
        rintro e w8 ⟨rfl, hb⟩
        have HB8 := Aside0.mk (below_step HB7.out hb)
        have HC8 := Aside0.mk (Kd.C_below HC7.out hb)
        have HY8 := Aside0.mk (Kd.C_below HY7.out hb)
        clear hb
        go_wp2_with fail
        refine (HAX.out w8 A4 c4 HC8.out).mono ?_
        rintro e w9 ⟨rfl, hb⟩
        have HB9 := Aside0.mk (below_step HB8.out hb)
        have HY9 := Aside0.mk (Kd.C_below HY8.out hb)
        clear hb
        go_wp2_with fail
        refine (HAY.out w9 A8 c8 HY9.out).mono ?_
        rintro e w10 ⟨rfl, hb⟩
        have HB10 := Aside0.mk (below_step HB9.out hb)
        clear hb
        go_wp2_with fail
        go_ret
        exact ⟨by simp, HB10.out⟩
end Go.Proofs.Ytacnflelkpkbhaa.PA
end
