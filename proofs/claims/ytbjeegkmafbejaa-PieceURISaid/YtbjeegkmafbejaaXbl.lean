/- Pieces of lists and pairs: star, whole. -/
import Derived.Test.YtbjeegkmafbejaaXbk
namespace Go.Proofs.Ytbjeegkmafbejaa.X
set_option linter.unusedSimpArgs false
set_option linter.unusedVariables false
open Go.RowKit Go.Proofs.YtbjeegkmafbejaaW.PrintWords Go.Proofs.YtbjeegkmafbejaaW.PrintLast Go.Proofs.YtbjeegkmafbejaaW.PrintMore Go.Proofs.Ytbjeegkmafbejaa.Y Go.Joins
def wholetrue.T1 : Bool × List (List Nat × List Nat) := (true, [([], []), ([0], [0]), ([], []), ([2], [2]), ([1, 3, 3], [1, 3]), ([4, 4, 0, 1, 2, 3, 4], [4])])
def wholetrue.B1 : List Nat := [0, 1, 0, 4, 15, 31]
theorem wholetrue.tab1 : rtab .any (opsOf Try.f28 1) = wholetrue.T1 := by kernel_rfl
theorem wholetrue.bits1 : waitsOk wholetrue.T1.2 wholetrue.B1 = true := by kernel_rfl
def wholefalse.T1 : Bool × List (List Nat × List Nat) := (true, [([], []), ([0], [0]), ([], []), ([2], [2]), ([1, 3, 3], [1, 3]), ([4, 4, 0, 1, 2, 3, 4], [4])])
def wholefalse.B1 : List Nat := [0, 1, 0, 4, 15, 31]
theorem wholefalse.tab1 : rtab .any (opsOf Try.f28 1) = wholefalse.T1 := by kernel_rfl
theorem wholefalse.bits1 : waitsOk wholefalse.T1.2 wholefalse.B1 = true := by kernel_rfl

/-- A row of pairs that is read. -/
def PairRow (w : World) (A : Option Addr) (p : List (ByteArray × ByteArray)) : Prop := ∀ k (h : k < p.length), ∃ ad, A = some ad ∧ w.cell? (ad.add (k * 2)) = some (.string p[k].1) ∧ w.cell? ⟨(ad.add (k * 2)).block, (ad.add (k * 2)).off + 1, none⟩ = some (.string p[k].2)
def starS (c : Int) (name : ByteArray) (vk : Int) (l : List ByteArray) (p : List (ByteArray × ByteArray)) : ByteArray := if vk = 2 then joinB (l.map (itemS c name)) (ruleSep c) else joinB (p.map fun x => pairS c x.1 x.2) (ruleSep c)
def wholeS (c : Int) (name : ByteArray) (T : List ByteArray) : ByteArray := if ruleNamed c = true then name ++ ⟨#[61]⟩ ++ joinB (T.map (encS (ruleKeep c))) ⟨#[44]⟩ else joinB (T.map (encS (ruleKeep c))) ⟨#[44]⟩
theorem ruleSep_size (c : Int) : (ruleSep c).size ≤ 1 := by
  unfold ruleSep
  repeat (split; · decide)
  decide
theorem maybeS_size (c : Int) (name s : ByteArray) : (maybeS c name s).size ≤ name.size + 1 + s.size := by
  unfold maybeS
  split
  · exact namedS_size c name s
  · omega
theorem itemS_size (c : Int) (name s : ByteArray) : (itemS c name s).size ≤ name.size + 1 + 3 * s.size := by
  have h1 := maybeS_size c name (encS (ruleKeep c) s)
  have h2 := encS_size (ruleKeep c) s
  unfold itemS; omega
theorem pairS_size (c : Int) (k v : ByteArray) : (pairS c k v).size ≤ 3 * k.size + 1 + 3 * v.size := by
  have h1 := encS_size (ruleKeep c) k
  have h2 := encS_size true k
  have h3 := encS_size (ruleKeep c) v
  have h4 := namedS_size c (encS true k) (encS (ruleKeep c) v)
  unfold pairS
  split
  · omega
  · rw [ByteArray.size_append, ByteArray.size_append]; show (encS (ruleKeep c) k).size + 1 + (encS (ruleKeep c) v).size ≤ _; omega
theorem blk_new3 (w : World) (o1 o2 o3 : Obj) : (((w.alloc o1).alloc o2).alloc o3).heap[w.heap.size + 2]? = some o3 := by
  have h := blk_new ((w.alloc o1).alloc o2) o3
  rwa [size_alloc1, size_alloc1] at h
theorem pairS_small (c : Int) (k v : ByteArray) (h1 : k.size ≤ 300000) (h2 : v.size ≤ 300000) : (pairS c k v).size ≤ 10000000 := by
  have := pairS_size c k v
  omega
set_option maxHeartbeats 8000000 in
set_option maxRecDepth 100000 in
theorem star_any (c : Int) (rb : Nat) (name : ByteArray) (mx : Int) (st : Bool) (vk : Int) (s : ByteArray) (A2 : Option Addr) (n2 : Nat) (l : List ByteArray) (A3 : Option Addr) (n3 : Nat) (p : List (ByteArray × ByteArray)) (w : World) (hn : name.size ≤ 1000000) (hl : l.length ≤ 1000000) (hls : ∀ x ∈ l, x.size ≤ 1000000) (hp : p.length ≤ 1000000) (hps : ∀ x ∈ p, x.1.size ≤ 300000 ∧ x.2.size ≤ 300000)
    (hr2 : Kd.C Kd.string w A2 l.length l) (hr3 : ∀ W, Below w.heap.size w W → PairRow W A3 p) (hru : w.heap[rb]? = some (.cells (ruleCells c) 43 (0, 0))) :
    Calls Try.prog 27 #[wayV c rb, .agg #[.string name, .int .i64 mx, .bool st], .agg #[.int .i64 vk, .string s, .slice A2 l.length n2, .slice A3 p.length n3]] w fun e w' => e = .returned (.string (starS c name vk l p)) ∧ Below w.heap.size w w' := by
  have HR2 := Aside0.mk hr2
  have HR3 := Aside0.mk hr3
  have HRU := Aside0.mk hru
  have HSEP := Aside0.mk (ruleSep_size c)
  obtain ⟨F, hF⟩ : ∃ F : ByteArray × ByteArray → ByteArray, ∀ x, F x = pairS c x.1 x.2 := ⟨fun x => pairS c x.1 x.2, fun _ => rfl⟩
  have HFS := Aside0.mk (show ∀ x ∈ p, (F x).size ≤ 10000000 from fun x hx => by rw [hF]; exact pairS_small c x.1 x.2 (hps x hx).1 (hps x hx).2)
  have HPA := Aside0.mk (show ∀ (x : ByteArray × ByteArray) W, x ∈ p → W.heap[rb]? = some (.cells (ruleCells c) 43 (0, 0)) → Calls Try.prog 55 #[wayV c rb, .agg #[.string x.1, .string x.2]] W fun e w' => e = .returned (.string (F x)) ∧ Below W.heap.size W w' from fun x W hx hru => by rw [hF]; exact pair_any c rb x.1 x.2 W (hps x hx).1 (hps x hx).2 hru)
  have HFM := Aside0.mk (show (p.map fun x => pairS c x.1 x.2) = p.map F from List.map_congr_left fun x _ => (hF x).symm)
  clear hF
  clear hr2 hr3 hru
  unfold wayV at HPA ⊢
  by_cases hvk : vk = 2
  · subst hvk
    have HN := Aside0.mk (show starS c name 2 l p = joinB (l.map (itemS c name)) (ruleSep c) from if_pos rfl)
    go_enter Try.func27, Try.ntmps27
    go_wp2_with fail
    refine (joined_any (ruleSep c) 54 #[.pointer (some ⟨w.heap.size, 0, none⟩), .pointer (some ⟨w.heap.size + 1, 0, none⟩)] (itemS c name) l A2 n2 _ (star1_turns c rb w.heap.size (w.heap.size + 1) name mx st _ hn (blk_alloc (blk_alloc (blk_alloc HRU.out _) _) _) (blk_alloc (blk_alloc (blk_new w _) _) _) (blk_alloc (X.blk_new2 w _ _) _) l hls) hl (Kd.C_below HR2.out (below_alloc (X.below_new2 w _ _) _)) (fun x hx => by have := itemS_size c name x; have := hls x hx; omega) (by have := HSEP.out; omega)).mono ?_
    rintro e w1 ⟨rfl, hb⟩
    have HB := Aside0.mk (below_step (w := w) (below_alloc (X.below_new2 w _ _) _) hb)
    clear hb
    go_wp2_with fail
    go_ret
    exact ⟨by rw [HN.out]; rfl, HB.out⟩
  · have HN := Aside0.mk (show starS c name vk l p = joinB (p.map F) (ruleSep c) by rw [← HFM.out]; exact if_neg hvk)
    have hvk2 : (vk == 2) = false := beq_eq_false_iff_ne.2 hvk
    go_enter Try.func27, Try.ntmps27
    go_wp2_with fail
    refine forget (P := fun W => Code.wp _ _ _ _ W) _ (fun w1 => w1.heap[rb]? = some (.cells (ruleCells c) 43 (0, 0)) ∧ w1.heap[w.heap.size]? = some (.cells #[.string (ruleFirst c), .string (ruleSep c), .bool (ruleNamed c), .string (ruleEmpty c), .bool (ruleKeep c), .func (.func 44) #[] #[.pointer (some ⟨rb, 0, none⟩)]] 53 (0, 0)) ∧ Below w.heap.size w w1) ⟨blk_alloc (blk_alloc (blk_alloc HRU.out _) _) _, blk_alloc (blk_alloc (blk_new w _) _) _, below_alloc (X.below_new2 w _ _) _⟩ ?_
    rintro w1 ⟨hru, hwy, hbl⟩
    clear HRU
    go_loopw [7, 23] (fun v c' wr => ∃ k : Nat, k ≤ p.length ∧ c' = .int .i64 k ∧ Below w.heap.size w wr ∧ wr.heap[rb]? = some (.cells (ruleCells c) 43 (0, 0)) ∧ wr.heap[w.heap.size]? = some (.cells #[.string (ruleFirst c), .string (ruleSep c), .bool (ruleNamed c), .string (ruleEmpty c), .bool (ruleKeep c), .func (.func 44) #[] #[.pointer (some ⟨rb, 0, none⟩)]] 53 (0, 0)) ∧ Kd.R Kd.string 9 wr w.heap.size (fun _ => True) v ((p.take k).map F)) (fun _ c' _ => (p.length - intOf c').toNat)
    case atStart => exact ⟨0, by omega, by simp, hbl, hru, hwy, Kd.R_nil _ _ _ _ _⟩
    case round =>
      clear hru hwy hbl
      obtain ⟨k, hk, rfl, hb, hru, hwy, hv⟩ := hrel
      have HB := Aside0.mk hb
      have HV := Aside0.mk hv
      have HRU := Aside0.mk hru
      have HWY := Aside0.mk hwy
      clear hb hv hru hwy
      by_cases hlt : k < p.length
      · obtain ⟨ad, rfl, h0, h1⟩ := HR3.out _ HB.out k hlt
        obtain ⟨x0, x1, x2, x3, x4, x5⟩ := cells6 (blk_alloc HWY.out (.cells #[.string p[k].1, .string p[k].2] 69 (0, 0)))
        go_wp2_with fail
        refine (HPA.out p[k] _ (List.getElem_mem hlt) (blk_alloc HRU.out _)).mono ?_
        rintro e w2 ⟨rfl, hb⟩
        have HB2 := Aside0.mk (below_step (below_alloc HB.out _) hb)
        have HRU2 := Aside0.mk (blk_below (blk_alloc HRU.out _) hb)
        have HWY2 := Aside0.mk (blk_below (blk_alloc HWY.out _) hb)
        have HV2 := Aside0.mk (Kd.R_below (Kd.R_below HV.out (X.below_new1 wr _)) hb)
        have hs2 := HB2.out.size
        have hlen : ((p.take k).map F).length = k := by rw [List.length_map, List.length_take]; omega
        have htk : ((p.take k).map F) ++ [F p[k]] = (p.take (k + 1)).map F := by rw [List.take_succ_eq_append_getElem hlt, List.map_append]; rfl
        clear hb h0 h1 x0 x1 x2 x3 x4 x5 HB HRU HWY HV
        go_wp2_with (at_builtin; refine Kd.R_append Kd.string (w0 := w) w.heap.size rfl (.tmp 27) (.tmp 31) 24 9 (.string ⟨#[]⟩) 16 rfl Try.underlying24 infoStr rfl (by decide) (by omega) _ ((p.take k).map F) (F p[k]) [.string (F p[k])] (fun _ => True) (fun _ => False) rfl rfl rfl (fun _ hk => hk.elim) (fun _ _ => trivial) HV2.out HB2.out hs2 (by rw [hlen]; omega) ?_; intro v1 w3 ho hb1 hg hat; rw [htk] at ho; have HO := Aside0.mk ho; have HB3 := Aside0.mk hb1; have HRU3 := Aside0.mk (blk_grown HRU2.out hg (Kd.R_ne HV2.out HRU2.out (by decide))); have HWY3 := Aside0.mk (blk_grown HWY2.out hg (Kd.R_ne HV2.out HWY2.out (by decide))); clear ho hb1 hg hat htk)
        go_roundw
        case rel => exact ⟨k + 1, by omega, by go_num, HB3.out, HRU3.out, HWY3.out, HO.out⟩
        case measure => simp [intOf]; omega
      · have htk : p.take k = p := List.take_of_length_le (by omega)
        have HV1 := Aside0.mk (htk ▸ HV.out)
        obtain ⟨x0, x1, x2, x3, x4, x5⟩ := cells6 HWY.out
        clear HV htk
        go_wp2_with fail
        refine (join_own _ (p.map F) (ruleSep c) _ _ HV1.out (by rw [List.length_map]; exact hp) (fun x hx => by obtain ⟨y, hy, rfl⟩ := List.mem_map.1 hx; exact HFS.out y hy) (by have := HSEP.out; omega)).mono ?_
        rintro e w2 ⟨rfl, hb2⟩
        have HB2 := Aside0.mk (below_step HB.out hb2)
        clear hb2 HB x0 x1 x2 x3 x4 x5
        go_wp2_with fail
        go_ret
        exact ⟨by rw [HN.out]; rfl, HB2.out⟩
set_option maxHeartbeats 8000000 in
set_option maxRecDepth 100000 in
theorem whole_any (c : Int) (rb : Nat) (name : ByteArray) (mx : Int) (st : Bool) (vk : Int) (s : ByteArray) (A2 : Option Addr) (m2 n2 : Nat) (A3 : Option Addr) (m3 n3 : Nat) (T : List ByteArray) (w : World) (hn : name.size ≤ 1000000) (hT : T.length ≤ 1000000) (hTs : ∀ x ∈ T, x.size ≤ 1000000) (hru : w.heap[rb]? = some (.cells (ruleCells c) 43 (0, 0)))
    (htx : ∀ W, Below w.heap.size w W → Calls Try.prog 47 #[.agg #[.int .i64 vk, .string s, .slice A2 m2 n2, .slice A3 m3 n3]] W fun e w' => ∃ v, e = .returned v ∧ Kd.R Kd.string 9 w' W.heap.size (fun _ => True) v T ∧ Below W.heap.size W w') :
    Calls Try.prog 28 #[wayV c rb, .agg #[.string name, .int .i64 mx, .bool st], .agg #[.int .i64 vk, .string s, .slice A2 m2 n2, .slice A3 m3 n3]] w fun e w' => e = .returned (.string (wholeS c name T)) ∧ Below w.heap.size w w' := by
  obtain ⟨J, hJ⟩ : ∃ J, joinB (T.map (encS (ruleKeep c))) ⟨#[44]⟩ = J := ⟨_, rfl⟩
  have HJ := Aside0.mk (show ∀ (W : World) A n, W.heap[rb]? = some (.cells (ruleCells c) 43 (0, 0)) → Kd.C Kd.string W A T.length T → Calls Try.prog 53 #[.string ⟨#[44]⟩, .func (.func 44) #[] #[.pointer (some ⟨rb, 0, none⟩)], .slice A T.length n] W fun e w' => e = .returned (.string J) ∧ Below W.heap.size W w' from fun W A n hr hC => by
    rw [← hJ]
    exact joined_any ⟨#[44]⟩ _ _ (encS (ruleKeep c)) T A n W (of1_turns c rb W hr T hTs) hT hC (fun x hx => by have := encS_size (ruleKeep c) x; have := hTs x hx; omega) (by decide))
  have HJS := Aside0.mk (show J.size ≤ 10000000000000 by
    have h := joinB_size 3000000 ⟨#[44]⟩ (T.map (encS (ruleKeep c))) (fun x hx => by obtain ⟨y, hy, rfl⟩ := List.mem_map.1 hx; have := encS_size (ruleKeep c) y; have := hTs y hy; omega)
    rw [hJ, List.length_map] at h
    have h2 : T.length * (3000000 + (⟨#[44]⟩ : ByteArray).size) ≤ 1000000 * 3000001 := Nat.mul_le_mul hT (by decide)
    omega)
  have HR := Aside0.mk hru
  have HT := Aside0.mk htx
  clear hru htx
  unfold wayV
  cases h : ruleNamed c with
  | true =>
    have HN := Aside0.mk (show wholeS c name T = name ++ ⟨#[61]⟩ ++ J by rw [← hJ]; exact if_pos h)
    have hjs := HJS.out
    have q1 : (9223372036854775807 < name.size + (⟨#[61]⟩ : ByteArray).size) = False := eq_false (by show ¬ (_ < name.size + 1); omega)
    have q2 : (9223372036854775807 < name.size + 1) = False := eq_false (by omega)
    have q3 : (9223372036854775807 < (name ++ (⟨#[61]⟩ : ByteArray)).size + J.size) = False := eq_false (by rw [ByteArray.size_append]; show ¬ (_ < name.size + 1 + J.size); omega)
    have q4 : (9223372036854775807 < name.size + 1 + J.size) = False := eq_false (by omega)
    clear hJ hjs
    go_enter Try.func28, Try.ntmps28
    go_wp2_with fail
    refine forget (P := fun W => Code.wp _ _ _ _ W) _ (fun w1 => w1.heap[rb]? = some (.cells (ruleCells c) 43 (0, 0)) ∧ w1.heap[w.heap.size + 1]? = some (.cells #[.string name, .int .i64 mx, .bool st] 23 (0, 0)) ∧ w1.heap[w.heap.size + 2]? = some (.cells #[.int .i64 vk, .string s, .slice A2 m2 n2, .slice A3 m3 n3] 27 (0, 0)) ∧ w1.heap[w.heap.size]? = some (.cells #[.string (ruleFirst c), .string (ruleSep c), .bool true, .string (ruleEmpty c), .bool (ruleKeep c), .func (.func 44) #[] #[.pointer (some ⟨rb, 0, none⟩)]] 53 (0, 0)) ∧ Below w.heap.size w w1) ⟨blk_alloc (blk_alloc (blk_alloc HR.out _) _) _, blk_alloc (X.blk_new2 w _ _) _, blk_new3 w _ _ _, blk_alloc (blk_alloc (blk_new w _) _) _, below_alloc (X.below_new2 w _ _) _⟩ ?_
    rintro w1 ⟨hru, hsp, hvl, hwy, hbl⟩
    have HRU := Aside0.mk hru
    have HSP := Aside0.mk hsp
    have HVL := Aside0.mk hvl
    have HWY := Aside0.mk hwy
    have HB := Aside0.mk hbl
    clear hru hsp hvl hwy hbl
    refine start_ (n := 6) (S := fun w' => True) (ds := []) #[false, false, false, false, false, false] (by kernel_rfl) rfl rfl trivial (fun hHeld => ?_)
    refine with_tabW wholetrue.tab1 wholetrue.bits1 (fun HT_ HW_ => ?_)
    refine inv_at [0, 1, 2, 3, 4, 5] (fun a0_ b a w' => ∃ (A11 : Value), a = putSel a0_ b [(0, 8, .pointer (some ⟨w.heap.size, 5, none⟩)), (1, 9, .func (.func 44) #[] #[.pointer (some ⟨rb, 0, none⟩)]), (2, 10, .agg #[.int .i64 vk, .string s, .slice A2 m2 n2, .slice A3 m3 n3]), (3, 11, A11), (4, 12, .string J), (5, 7, .string J)] ∧ Below w1.drew.heap.size w1.drew w' ∧ (b 3 = true → (∃ A_ n_, A11 = .slice A_ T.length n_ ∧ Kd.C Kd.string w' A_ T.length T))) HT_.out HW_.out (by kernel_rfl) (by kernel_rfl) ?_ ?_ ?_
    · exact ⟨.bool false, by simp only [putSel, Bool.false_eq_true, if_false], Below.refl _ _, fun h_ => absurd h_ (by decide)⟩
    · clear hHeld HT_ HW_
      refine steps_cons ?_ ?_
      · rintro b a w' ⟨A11, ha, HBW, Q_R⟩ hb_ hon hoff
        refine ⟨_, rfl, fun K hK => ?_⟩
        have e3 : a.tmps[3]? = some (.pointer (some ⟨w.heap.size, 0, none⟩)) := by rw [ha]; exact (putSel_off rfl).trans rfl
        replace ha := Aside0.mk ha
        have HBW := Aside0.mk HBW
        refine value_ (w1 := w') (v := .pointer (some ⟨w.heap.size, 5, none⟩)) (by rfl) rfl ?_ ?_
        · go_simp
          (try simp only [i64_w])
          try rfl
        refine hK.out _ _ ⟨A11, (by rw [ha.out]; exact putSel_upk 0 hb_ rfl rfl rfl), HBW.out, Q_R⟩
      refine steps_cons ?_ ?_
      · rintro b a w' ⟨A11, ha, HBW, Q_R⟩ hb_ hon hoff
        refine ⟨_, rfl, fun K hK => ?_⟩
        have e8 : a.tmps[8]? = some (.pointer (some ⟨w.heap.size, 5, none⟩)) := by rw [ha]; exact putSel_on (e := (0, 8, .pointer (some ⟨w.heap.size, 5, none⟩))) 0 rfl rfl (hon 0 (by kernel_rfl)) rfl
        replace ha := Aside0.mk ha
        have HBW := Aside0.mk HBW
        have c0_ := (blk_cell (blk_below (blk_drew HWY.out) HBW.out) 5).trans rfl
        refine value_ (w1 := w') (v := .func (.func 44) #[] #[.pointer (some ⟨rb, 0, none⟩)]) (by rfl) rfl ?_ ?_
        · go_simp
          (try simp only [i64_w])
          try rfl
        refine hK.out _ _ ⟨A11, (by rw [ha.out]; exact putSel_upk 1 hb_ rfl rfl rfl), HBW.out, Q_R⟩
      refine steps_cons ?_ ?_
      · rintro b a w' ⟨A11, ha, HBW, Q_R⟩ hb_ hon hoff
        refine ⟨_, rfl, fun K hK => ?_⟩
        have e5 : a.tmps[5]? = some (.pointer (some ⟨w.heap.size + 2, 0, none⟩)) := by rw [ha]; exact (putSel_off rfl).trans rfl
        replace ha := Aside0.mk ha
        have HBW := Aside0.mk HBW
        obtain ⟨c0_, c1_, c2_, c3_, _⟩ := cells4 (blk_below (blk_drew HVL.out) HBW.out)
        refine value_ (w1 := w') (v := .agg #[.int .i64 vk, .string s, .slice A2 m2 n2, .slice A3 m3 n3]) (by rfl) rfl ?_ ?_
        · go_simp
          (try simp only [i64_w])
          try rfl
        refine hK.out _ _ ⟨A11, (by rw [ha.out]; exact putSel_upk 2 hb_ rfl rfl rfl), HBW.out, Q_R⟩
      refine steps_cons ?_ ?_
      · rintro b a w' ⟨A11, ha, HBW, Q_R⟩ hb_ hon hoff
        refine ⟨_, rfl, fun K hK => ?_⟩
        have e10 : a.tmps[10]? = some (.agg #[.int .i64 vk, .string s, .slice A2 m2 n2, .slice A3 m3 n3]) := by rw [ha]; exact putSel_on (e := (2, 10, .agg #[.int .i64 vk, .string s, .slice A2 m2 n2, .slice A3 m3 n3])) 2 rfl rfl (hon 2 (by kernel_rfl)) rfl
        replace ha := Aside0.mk ha
        have HBW := Aside0.mk HBW
        refine goes_ Try.func47 (by kernel_rfl) rfl #[.agg #[.int .i64 vk, .string s, .slice A2 m2 n2, .slice A3 m3 n3]] (by rfl) rfl rfl (by first | (simp only [List.map_toArray, List.map_cons, List.map_nil, Act.eval, Array.getD_eq_getD_getElem?, Option.getD_some, e10]; done) | (simp only [List.map_toArray, List.map_cons, List.map_nil, Act.eval, Array.getD_eq_getD_getElem?, Option.getD_some, e10]; rfl)) ?_
        refine (HT.out w' (below_step (below_drew1 HB.out) HBW.out)).mono ?_
        rintro e w1 ⟨v_, rfl, hv_, hb⟩
        obtain ⟨A_, n_, rfl, _, c_⟩ := Kd.R_reads hv_
        refine ⟨_, rfl, ?_⟩
        refine hK.out _ _ ⟨.slice A_ T.length n_, (by rw [ha.out]; exact putSel_upk 3 hb_ rfl rfl rfl), below_step HBW.out hb, fun _ => ⟨A_, n_, rfl, c_⟩⟩
      refine steps_cons ?_ ?_
      · rintro b a w' ⟨A11, ha, HBW, Q_R⟩ hb_ hon hoff
        refine ⟨_, rfl, fun K hK => ?_⟩
        obtain ⟨A_, n_, rfl, c_⟩ := Q_R (hon 3 (by kernel_rfl))
        have e9 : a.tmps[9]? = some (.func (.func 44) #[] #[.pointer (some ⟨rb, 0, none⟩)]) := by rw [ha]; exact putSel_on (e := (1, 9, .func (.func 44) #[] #[.pointer (some ⟨rb, 0, none⟩)])) 1 rfl rfl (hon 1 (by kernel_rfl)) rfl
        have e11 : a.tmps[11]? = some (.slice A_ T.length n_) := by rw [ha]; exact putSel_on (e := (3, 11, .slice A_ T.length n_)) 3 rfl rfl (hon 3 (by kernel_rfl)) rfl
        replace ha := Aside0.mk ha
        have HBW := Aside0.mk HBW
        refine goes_ Try.func53 (by kernel_rfl) rfl #[.string ⟨#[44]⟩, .func (.func 44) #[] #[.pointer (some ⟨rb, 0, none⟩)], .slice A_ T.length n_] (by rfl) rfl rfl (by first | (simp only [List.map_toArray, List.map_cons, List.map_nil, Act.eval, Array.getD_eq_getD_getElem?, Option.getD_some, e9, e11]; done) | (simp only [List.map_toArray, List.map_cons, List.map_nil, Act.eval, Array.getD_eq_getD_getElem?, Option.getD_some, e9, e11]; rfl)) ?_
        refine (HJ.out w' A_ n_ (blk_below (blk_drew HRU.out) HBW.out) c_).mono ?_
        rintro e w1 ⟨rfl, hb⟩
        refine ⟨_, rfl, ?_⟩
        refine hK.out _ _ ⟨.slice A_ T.length n_, (by rw [ha.out]; exact putSel_upk 4 hb_ rfl rfl rfl), below_step HBW.out hb, fun _ => ⟨A_, n_, rfl, Kd.C_below c_ hb⟩⟩
      refine steps_cons ?_ ?_
      · rintro b a w' ⟨A11, ha, HBW, Q_R⟩ hb_ hon hoff
        refine ⟨_, rfl, fun K hK => ?_⟩
        have e12 : a.tmps[12]? = some (.string J) := by rw [ha]; exact putSel_on (e := (4, 12, .string J)) 4 rfl rfl (hon 4 (by kernel_rfl)) rfl
        replace ha := Aside0.mk ha
        have HBW := Aside0.mk HBW
        refine value_ (w1 := w') (v := .string J) (by rfl) rfl ?_ ?_
        · go_simp
          (try simp only [i64_w])
          try rfl
        refine hK.out _ _ ⟨A11, (by rw [ha.out]; exact putSel_upk 5 hb_ rfl rfl rfl), HBW.out, Q_R⟩
      exact steps_nil
    rintro b a w5 hall ⟨A11, ha, HBW, Q_R⟩
    have hb0_ := hall 0 (by kernel_rfl)
    have hb1_ := hall 1 (by kernel_rfl)
    have hb2_ := hall 2 (by kernel_rfl)
    have hb3_ := hall 3 (by kernel_rfl)
    have hb4_ := hall 4 (by kernel_rfl)
    have hb5_ := hall 5 (by kernel_rfl)
    subst ha
    simp only [putSel, hb0_, hb1_, hb2_, hb3_, hb4_, hb5_, if_true, Act.put, List.setIfInBounds_toArray, List.set_cons_zero, List.set_cons_succ]
    have HBW := Aside0.mk HBW
    clear hall hb0_ hb1_ hb2_ hb3_ hb4_ hb5_ Q_R
    have HWY2 := Aside0.mk (blk_below (blk_drew HWY.out) HBW.out)
    have HSP2 := Aside0.mk (blk_below (blk_drew HSP.out) HBW.out)
    have x2 := (blk_cell HWY2.out 2).trans rfl
    have p0 := (blk_cell HSP2.out 0).trans rfl
    have HB2 := Aside0.mk (below_step (below_drew1 HB.out) HBW.out)
    clear HBW HWY HSP HVL HRU HB
    go_wp2_with fail
    go_ret
    exact ⟨by rw [HN.out]; rfl, HB2.out⟩
  | false =>
    have HN := Aside0.mk (show wholeS c name T = J by rw [← hJ]; exact if_neg (by rw [h]; decide))
    clear hJ
    go_enter Try.func28, Try.ntmps28
    go_wp2_with fail
    refine forget (P := fun W => Code.wp _ _ _ _ W) _ (fun w1 => w1.heap[rb]? = some (.cells (ruleCells c) 43 (0, 0)) ∧ w1.heap[w.heap.size + 1]? = some (.cells #[.string name, .int .i64 mx, .bool st] 23 (0, 0)) ∧ w1.heap[w.heap.size + 2]? = some (.cells #[.int .i64 vk, .string s, .slice A2 m2 n2, .slice A3 m3 n3] 27 (0, 0)) ∧ w1.heap[w.heap.size]? = some (.cells #[.string (ruleFirst c), .string (ruleSep c), .bool false, .string (ruleEmpty c), .bool (ruleKeep c), .func (.func 44) #[] #[.pointer (some ⟨rb, 0, none⟩)]] 53 (0, 0)) ∧ Below w.heap.size w w1) ⟨blk_alloc (blk_alloc (blk_alloc HR.out _) _) _, blk_alloc (X.blk_new2 w _ _) _, blk_new3 w _ _ _, blk_alloc (blk_alloc (blk_new w _) _) _, below_alloc (X.below_new2 w _ _) _⟩ ?_
    rintro w1 ⟨hru, hsp, hvl, hwy, hbl⟩
    have HRU := Aside0.mk hru
    have HSP := Aside0.mk hsp
    have HVL := Aside0.mk hvl
    have HWY := Aside0.mk hwy
    have HB := Aside0.mk hbl
    clear hru hsp hvl hwy hbl
    refine start_ (n := 6) (S := fun w' => True) (ds := []) #[false, false, false, false, false, false] (by kernel_rfl) rfl rfl trivial (fun hHeld => ?_)
    refine with_tabW wholefalse.tab1 wholefalse.bits1 (fun HT_ HW_ => ?_)
    refine inv_at [0, 1, 2, 3, 4, 5] (fun a0_ b a w' => ∃ (A11 : Value), a = putSel a0_ b [(0, 8, .pointer (some ⟨w.heap.size, 5, none⟩)), (1, 9, .func (.func 44) #[] #[.pointer (some ⟨rb, 0, none⟩)]), (2, 10, .agg #[.int .i64 vk, .string s, .slice A2 m2 n2, .slice A3 m3 n3]), (3, 11, A11), (4, 12, .string J), (5, 7, .string J)] ∧ Below w1.drew.heap.size w1.drew w' ∧ (b 3 = true → (∃ A_ n_, A11 = .slice A_ T.length n_ ∧ Kd.C Kd.string w' A_ T.length T))) HT_.out HW_.out (by kernel_rfl) (by kernel_rfl) ?_ ?_ ?_
    · exact ⟨.bool false, by simp only [putSel, Bool.false_eq_true, if_false], Below.refl _ _, fun h_ => absurd h_ (by decide)⟩
    · clear hHeld HT_ HW_
      refine steps_cons ?_ ?_
      · rintro b a w' ⟨A11, ha, HBW, Q_R⟩ hb_ hon hoff
        refine ⟨_, rfl, fun K hK => ?_⟩
        have e3 : a.tmps[3]? = some (.pointer (some ⟨w.heap.size, 0, none⟩)) := by rw [ha]; exact (putSel_off rfl).trans rfl
        replace ha := Aside0.mk ha
        have HBW := Aside0.mk HBW
        refine value_ (w1 := w') (v := .pointer (some ⟨w.heap.size, 5, none⟩)) (by rfl) rfl ?_ ?_
        · go_simp
          (try simp only [i64_w])
          try rfl
        refine hK.out _ _ ⟨A11, (by rw [ha.out]; exact putSel_upk 0 hb_ rfl rfl rfl), HBW.out, Q_R⟩
      refine steps_cons ?_ ?_
      · rintro b a w' ⟨A11, ha, HBW, Q_R⟩ hb_ hon hoff
        refine ⟨_, rfl, fun K hK => ?_⟩
        have e8 : a.tmps[8]? = some (.pointer (some ⟨w.heap.size, 5, none⟩)) := by rw [ha]; exact putSel_on (e := (0, 8, .pointer (some ⟨w.heap.size, 5, none⟩))) 0 rfl rfl (hon 0 (by kernel_rfl)) rfl
        replace ha := Aside0.mk ha
        have HBW := Aside0.mk HBW
        have c0_ := (blk_cell (blk_below (blk_drew HWY.out) HBW.out) 5).trans rfl
        refine value_ (w1 := w') (v := .func (.func 44) #[] #[.pointer (some ⟨rb, 0, none⟩)]) (by rfl) rfl ?_ ?_
        · go_simp
          (try simp only [i64_w])
          try rfl
        refine hK.out _ _ ⟨A11, (by rw [ha.out]; exact putSel_upk 1 hb_ rfl rfl rfl), HBW.out, Q_R⟩
      refine steps_cons ?_ ?_
      · rintro b a w' ⟨A11, ha, HBW, Q_R⟩ hb_ hon hoff
        refine ⟨_, rfl, fun K hK => ?_⟩
        have e5 : a.tmps[5]? = some (.pointer (some ⟨w.heap.size + 2, 0, none⟩)) := by rw [ha]; exact (putSel_off rfl).trans rfl
        replace ha := Aside0.mk ha
        have HBW := Aside0.mk HBW
        obtain ⟨c0_, c1_, c2_, c3_, _⟩ := cells4 (blk_below (blk_drew HVL.out) HBW.out)
        refine value_ (w1 := w') (v := .agg #[.int .i64 vk, .string s, .slice A2 m2 n2, .slice A3 m3 n3]) (by rfl) rfl ?_ ?_
        · go_simp
          (try simp only [i64_w])
          try rfl
        refine hK.out _ _ ⟨A11, (by rw [ha.out]; exact putSel_upk 2 hb_ rfl rfl rfl), HBW.out, Q_R⟩
      refine steps_cons ?_ ?_
      · rintro b a w' ⟨A11, ha, HBW, Q_R⟩ hb_ hon hoff
        refine ⟨_, rfl, fun K hK => ?_⟩
        have e10 : a.tmps[10]? = some (.agg #[.int .i64 vk, .string s, .slice A2 m2 n2, .slice A3 m3 n3]) := by rw [ha]; exact putSel_on (e := (2, 10, .agg #[.int .i64 vk, .string s, .slice A2 m2 n2, .slice A3 m3 n3])) 2 rfl rfl (hon 2 (by kernel_rfl)) rfl
        replace ha := Aside0.mk ha
        have HBW := Aside0.mk HBW
        refine goes_ Try.func47 (by kernel_rfl) rfl #[.agg #[.int .i64 vk, .string s, .slice A2 m2 n2, .slice A3 m3 n3]] (by rfl) rfl rfl (by first | (simp only [List.map_toArray, List.map_cons, List.map_nil, Act.eval, Array.getD_eq_getD_getElem?, Option.getD_some, e10]; done) | (simp only [List.map_toArray, List.map_cons, List.map_nil, Act.eval, Array.getD_eq_getD_getElem?, Option.getD_some, e10]; rfl)) ?_
        refine (HT.out w' (below_step (below_drew1 HB.out) HBW.out)).mono ?_
        rintro e w1 ⟨v_, rfl, hv_, hb⟩
        obtain ⟨A_, n_, rfl, _, c_⟩ := Kd.R_reads hv_
        refine ⟨_, rfl, ?_⟩
        refine hK.out _ _ ⟨.slice A_ T.length n_, (by rw [ha.out]; exact putSel_upk 3 hb_ rfl rfl rfl), below_step HBW.out hb, fun _ => ⟨A_, n_, rfl, c_⟩⟩
      refine steps_cons ?_ ?_
      · rintro b a w' ⟨A11, ha, HBW, Q_R⟩ hb_ hon hoff
        refine ⟨_, rfl, fun K hK => ?_⟩
        obtain ⟨A_, n_, rfl, c_⟩ := Q_R (hon 3 (by kernel_rfl))
        have e9 : a.tmps[9]? = some (.func (.func 44) #[] #[.pointer (some ⟨rb, 0, none⟩)]) := by rw [ha]; exact putSel_on (e := (1, 9, .func (.func 44) #[] #[.pointer (some ⟨rb, 0, none⟩)])) 1 rfl rfl (hon 1 (by kernel_rfl)) rfl
        have e11 : a.tmps[11]? = some (.slice A_ T.length n_) := by rw [ha]; exact putSel_on (e := (3, 11, .slice A_ T.length n_)) 3 rfl rfl (hon 3 (by kernel_rfl)) rfl
        replace ha := Aside0.mk ha
        have HBW := Aside0.mk HBW
        refine goes_ Try.func53 (by kernel_rfl) rfl #[.string ⟨#[44]⟩, .func (.func 44) #[] #[.pointer (some ⟨rb, 0, none⟩)], .slice A_ T.length n_] (by rfl) rfl rfl (by first | (simp only [List.map_toArray, List.map_cons, List.map_nil, Act.eval, Array.getD_eq_getD_getElem?, Option.getD_some, e9, e11]; done) | (simp only [List.map_toArray, List.map_cons, List.map_nil, Act.eval, Array.getD_eq_getD_getElem?, Option.getD_some, e9, e11]; rfl)) ?_
        refine (HJ.out w' A_ n_ (blk_below (blk_drew HRU.out) HBW.out) c_).mono ?_
        rintro e w1 ⟨rfl, hb⟩
        refine ⟨_, rfl, ?_⟩
        refine hK.out _ _ ⟨.slice A_ T.length n_, (by rw [ha.out]; exact putSel_upk 4 hb_ rfl rfl rfl), below_step HBW.out hb, fun _ => ⟨A_, n_, rfl, Kd.C_below c_ hb⟩⟩
      refine steps_cons ?_ ?_
      · rintro b a w' ⟨A11, ha, HBW, Q_R⟩ hb_ hon hoff
        refine ⟨_, rfl, fun K hK => ?_⟩
        have e12 : a.tmps[12]? = some (.string J) := by rw [ha]; exact putSel_on (e := (4, 12, .string J)) 4 rfl rfl (hon 4 (by kernel_rfl)) rfl
        replace ha := Aside0.mk ha
        have HBW := Aside0.mk HBW
        refine value_ (w1 := w') (v := .string J) (by rfl) rfl ?_ ?_
        · go_simp
          (try simp only [i64_w])
          try rfl
        refine hK.out _ _ ⟨A11, (by rw [ha.out]; exact putSel_upk 5 hb_ rfl rfl rfl), HBW.out, Q_R⟩
      exact steps_nil
    rintro b a w5 hall ⟨A11, ha, HBW, Q_R⟩
    have hb0_ := hall 0 (by kernel_rfl)
    have hb1_ := hall 1 (by kernel_rfl)
    have hb2_ := hall 2 (by kernel_rfl)
    have hb3_ := hall 3 (by kernel_rfl)
    have hb4_ := hall 4 (by kernel_rfl)
    have hb5_ := hall 5 (by kernel_rfl)
    subst ha
    simp only [putSel, hb0_, hb1_, hb2_, hb3_, hb4_, hb5_, if_true, Act.put, List.setIfInBounds_toArray, List.set_cons_zero, List.set_cons_succ]
    have HBW := Aside0.mk HBW
    clear hall hb0_ hb1_ hb2_ hb3_ hb4_ hb5_ Q_R
    have HWY2 := Aside0.mk (blk_below (blk_drew HWY.out) HBW.out)
    have x2 := (blk_cell HWY2.out 2).trans rfl
    have HB2 := Aside0.mk (below_step (below_drew1 HB.out) HBW.out)
    clear HBW HWY HSP HVL HRU HB
    go_wp2_with fail
    go_ret
    exact ⟨by rw [HN.out]; rfl, HB2.out⟩
end Go.Proofs.Ytbjeegkmafbejaa.X
