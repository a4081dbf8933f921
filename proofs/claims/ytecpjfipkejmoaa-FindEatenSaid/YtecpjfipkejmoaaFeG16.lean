/- Texts of this claim, those that nothing needs left out: Zmg Zmh Zmi Zmj Zml Zmn. -/
import Derived.Maps.Own
import Derived.Maps.OwnSet
import Derived.Maps.Views
import Derived.Maps.Keyed
import Derived.DeepKeys4
import Derived.Test.YtecpjfipkejmoaaFeG10
import Derived.Test.YtecpjfipkejmoaaFeG5
section
namespace Go.Proofs.Ytecpjfipkejmoaa.PA
set_option linter.unusedSimpArgs false
set_option linter.unusedVariables false
open Go.RowKit Go.ChangeMaps Go.Maps Go.WideMaps Go.Proofs.YtecpjfipkejmoaaW.PrintWords Go.Proofs.YtecpjfipkejmoaaW.PrintLast
def encP (p : Nat × Nat) : Value := .agg #[.int .i64 p.1, .int .i64 p.2]
theorem place_law : KeyLaw Try.prog 61 := deep_law_laid (by kernel_rfl) (m := 2) (by omega) (of_decide_eq_true (by kernel_rfl)) (by kernel_rfl) (by rw [Try.underlying61])
theorem placeKeyed : Keyed Try.prog 61 := Keyed.of_law place_law
def encP2 (a b : Int) : Value := .agg #[.int .i64 a, .int .i64 b]
def okP (p : Nat × Nat) : Prop := p.1 ≤ 1000000000 ∧ p.2 ≤ 1000000000
theorem ptype : Try.prog.keyType 61 = true := by kernel_rfl
theorem pcells : Try.prog.cellsOf 61 = 2 := by kernel_rfl
theorem icells : Try.prog.cellsOf 3 = 1 := by kernel_rfl
theorem tsize : Nat.ble 1 Try.prog.types.size = true := by kernel_rfl
theorem size_succ : ∀ n : Nat, Nat.ble 1 n = true → ∃ d, n = d + 1
  | 0, h => by cases h
  | d + 1, _ => ⟨d, rfl⟩
theorem int_lits (d : Nat) (a : Int) (w : (Lit.int .i64 a).wf = true) : Try.prog.keyLits (d + 1) 3 [.int .i64 a] = some [.int .i64 a] := by
  simp only [Program.keyLits, Try.underlying3, w]
  rfl
theorem wf_nat (a : Nat) (h : a ≤ 1000000000) : (Lit.int .i64 (a : Int)).wf = true := by
  simp only [Lit.wf, show IntKind.i64.min = -9223372036854775808 from rfl, show IntKind.i64.max = 9223372036854775807 from rfl]
  simp
  omega
theorem place_lits' (d : Nat) (a b : Int) (h1 : Try.prog.keyLits d 3 [.int .i64 a] = some [.int .i64 a]) (h2 : Try.prog.keyLits d 3 [.int .i64 b] = some [.int .i64 b]) : Try.prog.keyLits (d + 1) 61 [.int .i64 a, .int .i64 b] = some [.int .i64 a, .int .i64 b] := by
  simp only [Program.keyLits, Try.underlying61]
  rw [if_pos ⟨by rw [pcells]; rfl, by decide +kernel⟩]
  simp [icells, h1, h2]
theorem place_lits (d : Nat) (a b : Int) (w1 : (Lit.int .i64 a).wf = true) (w2 : (Lit.int .i64 b).wf = true) : Try.prog.keyLits (d + 1 + 1) 61 [.int .i64 a, .int .i64 b] = some [.int .i64 a, .int .i64 b] :=
  place_lits' (d + 1) a b (int_lits d a w1) (int_lits d b w2)
theorem size_succ2 : Nat.ble 1 Try.prog.types.size = true → ∃ d, Try.prog.types.size + 1 = d + 1 + 1 := fun h => by
  obtain ⟨d, hd⟩ := size_succ _ h
  exact ⟨d, by rw [hd]⟩
theorem place_formed (a b : Int) : (encP2 a b).formed Try.prog 61 = true := by
  unfold encP2 Value.formed
  rw [Try.underlying61, pcells]
  rfl
theorem key_some {p : Nat × Nat} (h : okP p) : keyOf Try.prog 61 (encP p) = some (.string (keyBytes [.int .i64 (p.1 : Int), .int .i64 (p.2 : Int)])) := by
  obtain ⟨d, hd⟩ := size_succ2 tsize
  unfold keyOf
  rw [Try.underlying61]
  simp only
  rw [ptype, show (encP p).formed Try.prog 61 = true from place_formed _ _, hd]
  simp only [Bool.and_true, if_true]
  rw [show (encP p).cells.toList = [.int .i64 (p.1 : Int), .int .i64 (p.2 : Int)] from rfl, place_lits d _ _ (wf_nat _ h.1) (wf_nat _ h.2)]
  rfl
noncomputable def keyP (p : Nat × Nat) : Lit := .string (keyBytes [.int .i64 (p.1 : Int), .int .i64 (p.2 : Int)])
theorem key_ok {p : Nat × Nat} (h : okP p) : keyOf Try.prog 61 (encP p) = some (keyP p) := key_some h
theorem key_inj {p q : Nat × Nat} (hp : okP p) (hq : okP q) (h : keyP p = keyP q) : p = q := by
  have h1 := key_ok hp
  rw [h] at h1
  have h2 := placeKeyed.inj h1 (key_ok hq)
  obtain ⟨a, b⟩ := p
  obtain ⟨c, d⟩ := q
  unfold encP at h2
  simp at h2
  obtain ⟨h3, h4⟩ := h2
  have e3 : a = c := by omega
  have e4 : b = d := by omega
  rw [e3, e4]
def intR : Value → Option (DataW Unit × List MemPlace)
  | .int .i64 k => some (.lit (.int .i64 k), [])
  | _ => none
theorem intR_inv {v : Value} {z : DataW Unit × List MemPlace} (h : intR v = some z) : ∃ k, v = .int .i64 k ∧ z = (.lit (.int .i64 k), []) := by
  unfold intR at h
  split at h
  · exact ⟨_, rfl, (Option.some.inj h).symm⟩
  · cases h
def PM (w : World) (b n : Nat) (C : Nat × Nat → Option Nat) : Prop :=
  ∃ D : DataW Unit, w.ownsMap Try.prog 61 intR b n D ∧ ∀ p, okP p → Maps.has D (keyP p) = (C p).isSome ∧ ∀ v, C p = some v → ∀ zd, D.atKey (keyP p) zd = .lit (.int .i64 (v : Int))
theorem pm_made (w : World) : PM (w.alloc (.map #[] 0)) w.heap.size 0 (fun _ => none) :=
  ⟨.map [], World.ownsMap_made w _ _ _, fun p _ => ⟨rfl, fun v h => by cases h⟩⟩
theorem PM.lt {w : World} {b n : Nat} {C : Nat × Nat → Option Nat} (h : PM w b n C) : b < w.heap.size := by obtain ⟨D, h, _⟩ := h; exact h.lt
theorem PM.grown {w w' : World} {b n : Nat} {C : Nat × Nat → Option Nat} {row : Option Nat} (h : PM w b n C) (hg : w.grownBy w' row) (hne : some b ≠ row) : PM w' b n C := by obtain ⟨D, h, h2⟩ := h; exact ⟨D, h.kept hg hne, h2⟩
theorem PM.below {w w' : World} {b n : Nat} {C : Nat × Nat → Option Nat} (h : PM w b n C) (hb : Below w.heap.size w w') : PM w' b n C := h.grown (grown_of_below hb none) (by simp)
theorem PM.alloc {w : World} {b n : Nat} {C : Nat × Nat → Option Nat} (h : PM w b n C) (o : Obj) : PM (w.alloc o) b n C := h.grown (World.grownBy_alloc w o none) (by simp)
theorem zero_int (w : World) : (zeroValue 3).run Try.prog w = .ok (.int .i64 0) w := by
  have h : (zeroValue 3).run Try.prog w = .ok (.int .i64 0) w := by
    first | kernel_rfl | rfl | (simp [zeroValue, typeInfo]; done) | go_simp
  exact h
theorem pm_look {w : World} {b n : Nat} {C : Nat × Nat → Option Nat} (h : PM w b n C) (p : Nat × Nat) (hp : okP p) :
    (Instr.lookup 74 (.map (some b)) (encP p) true).run Try.prog w = .ok (.tuple #[.int .i64 ((C p).getD 0 : Nat), .bool (C p).isSome]) w := by
  obtain ⟨D, ho, hk⟩ := h
  obtain ⟨h1, h2⟩ := hk p hp
  obtain ⟨v, ps, hrun, hv⟩ := ho.look_ok placeKeyed Try.underlying74 (zero_int w) (zd := .lit (.int .i64 0)) (zp := []) rfl (key_ok hp)
  rw [hrun, h1]
  obtain ⟨k, rfl, hz⟩ := intR_inv hv
  rw [Prod.mk.injEq] at hz
  cases hc : C p with
  | none =>
    rw [hc] at h1
    have e := atKey_of_not_has (z := (.lit (.int .i64 0) : DataW Unit)) h1
    rw [e] at hz
    have e2 := hz.1
    simp only [DataW.lit.injEq, Lit.int.injEq, true_and] at e2
    subst e2
    rfl
  | some u =>
    have hat := h2 u hc (.lit (.int .i64 0))
    rw [hat] at hz
    have e2 := hz.1
    simp only [DataW.lit.injEq, Lit.int.injEq, true_and] at e2
    subst e2
    rfl
theorem pm_put {w : World} {b n : Nat} {C : Nat × Nat → Option Nat} (h : PM w b n C) (p : Nat × Nat) (hp : okP p) (hl : n < maxLen) (v : Nat) :
    ∃ w', (Instr.mapUpdate 74 (.map (some b)) (encP p) (.int .i64 (v : Int))).run Try.prog w = .ok () w' ∧ PM w' b (n + 1) (fun x => if x = p then some v else C x) ∧ w.grownBy w' (some b) := by
  obtain ⟨D, ho, hk⟩ := h
  have hm := ho.isMap
  obtain ⟨w', hrun, ho', hg⟩ := ho.update placeKeyed Try.underlying74 hl (key_ok hp) (val := .int .i64 (v : Int)) (d := .lit (.int .i64 (v : Int))) (ps := []) rfl
  refine ⟨w', hrun, ⟨_, ho', fun x hx => ?_⟩, hg⟩
  by_cases he : x = p
  · subst he
    dsimp only
    rw [if_pos rfl]
    refine ⟨has_put_same hm (placeKeyed.key (key_ok hp)) _, fun u hu => ?_⟩
    obtain rfl := Option.some.inj hu
    exact fun zd => atKey_put_same hm (placeKeyed.key (key_ok hp)) _ _
  · dsimp only
    rw [if_neg he]
    obtain ⟨h1, h2⟩ := hk x hx
    have hne : keyP x ≠ keyP p := fun h => he (key_inj hx hp h)
    refine ⟨by rw [has_put_other hne]; exact h1, fun u hu => ?_⟩
    exact fun zd => by rw [atKey_put_other hne]; exact h2 u hu zd
end Go.Proofs.Ytecpjfipkejmoaa.PA
end
section
namespace Go.Proofs.Ytecpjfipkejmoaa.PA
set_option linter.unusedSimpArgs false
set_option linter.unusedVariables false
open Go.RowKit Go.Proofs.YtecpjfipkejmoaaW.PrintWords Go.Proofs.YtecpjfipkejmoaaW.PrintLast
theorem cells2 {w : World} {B : Nat} {a b : Value} {t : TypeId} (h : w.heap[B]? = some (.cells #[a, b] t (0, 0))) : w.cell? ⟨B, 0, none⟩ = some a ∧ w.cell? ⟨B, 1, none⟩ = some b := by
  refine ⟨?_, ?_⟩ <;> simp [blk_cell h]
def FIN (W : World) (fb : Nat) (A : Option Addr) (n c : Nat) (s : ByteArray) (mp : Value) : Prop := W.heap[fb]? = some (.cells #[.slice A n c, .string s, mp] 76 (0, 0))
theorem ends_at {m : List S49} {s : List UInt8} {i a : Nat} (h : i < m.length) : endsB m s (i, a) = (decide (m[i].f0 = 4) && decide (a = s.length)) := by
  unfold endsB
  rw [show ((i, a) : Nat × Nat).1 = i from rfl, List.getElem?_eq_getElem h]
set_option maxHeartbeats 8000000 in
set_option maxRecDepth 100000 in
theorem ends_any {A : Option Addr} {c : Nat} {m : List S49} {s : ByteArray} {mp : Value} (W : World) (fb i a : Nat) (hr : Kd.C k49 W A m.length m) (hf : FIN W fb A m.length c s mp) (hi : i < m.length) (hm : m.length ≤ 100000) :
    Calls Try.prog 22 #[.pointer (some ⟨fb, 0, none⟩), .agg #[.int .i64 (i : Int), .int .i64 (a : Int)]] W fun e W' => e = .returned (.bool (endsB m s.data.toList (i, a))) ∧ Below W.heap.size W W' := by
  have HE := Aside0.mk (ends_at (s := s.data.toList) (a := a) hi)
  have hb1 := X.below_new1 W (.cells #[.int .i64 (i : Int), .int .i64 (a : Int)] 61)
  have hp := cells2 (blk_new W (.cells #[.int .i64 (i : Int), .int .i64 (a : Int)] 61))
  have hfc := cells3 (blk_below hf hb1)
  obtain ⟨ad, A1, c1, A2, c2, hA, r0, r1, r2, r3, r4, l1, g1, l2, g2⟩ := at_T49 (Kd.C_below hr hb1) (i : Int) (by omega) (by omega)
  rw [Int.toNat_natCast, rdn_at m i hi] at r0
  obtain ⟨kd, hkd⟩ : ∃ k, k = m[i].f0 := ⟨_, rfl⟩
  rw [← hkd] at r0
  have HK := Aside0.mk hkd
  have hsz : s.data.toList.length = s.size := Array.length_toList
  have HSZ := Aside0.mk hsz
  obtain ⟨n, hn⟩ : ∃ n, n = m.length := ⟨_, rfl⟩
  rw [← hn] at hfc hm
  have hin : i < n := by omega
  have HB := Aside0.mk (fun q => pw_below_drewN hb1 q)
  have HI := Aside0.mk hi
  clear r1 r2 r3 r4 l1 g1 l2 g2 hr hf hn hb1 hkd hsz
  subst hA
  go_enter Try.func22, Try.ntmps22
  by_cases k4 : kd = 4
  · have k4t : (kd == 4) = true := beq_iff_eq.2 k4
    have K4 := Aside0.mk k4
    clear k4
    by_cases he : a = s.size
    · have het : ((a : Int) == (s.size : Int)) = true := beq_iff_eq.2 (by omega)
      have heu : (a == s.size) = true := beq_iff_eq.2 he
      have HQ := Aside0.mk he
      clear he
      go_wp2_with fail
      go_quiet (fail)
      go_wp2_with fail
      go_ret
      refine ⟨?_, HB.out _⟩
      show _ = Ending.returned (.bool (endsB m s.data.toList (i, a)))
      rw [HE.out, ← HK.out, decide_eq_true K4.out, decide_eq_true (HQ.out.trans HSZ.out.symm)]
      rfl
    · have het : ((a : Int) == (s.size : Int)) = false := beq_eq_false_iff_ne.2 (by omega)
      have heu : (a == s.size) = false := beq_eq_false_iff_ne.2 he
      have HQ := Aside0.mk he
      clear he
      go_wp2_with fail
      go_quiet (fail)
      go_wp2_with fail
      go_ret
      refine ⟨?_, HB.out _⟩
      show _ = Ending.returned (.bool (endsB m s.data.toList (i, a)))
      rw [HE.out, ← HK.out, decide_eq_true K4.out, decide_eq_false (fun h => HQ.out (h.trans HSZ.out))]
      rfl
  · have k4t : (kd == 4) = false := beq_eq_false_iff_ne.2 k4
    have K4 := Aside0.mk k4
    clear k4
    go_wp2_with fail
    go_quiet (fail)
    go_wp2_with fail
    go_ret
    refine ⟨?_, HB.out _⟩
    show _ = Ending.returned (.bool (endsB m s.data.toList (i, a)))
    rw [HE.out, ← HK.out, decide_eq_false K4.out]
    rfl
def pcs (q : Nat × Nat) : List Value := [.int .i64 (q.1 : Int), .int .i64 (q.2 : Int)]
def pflat (l : List (Nat × Nat)) : List Value := l.flatMap pcs
theorem nexts_at {m : List S49} {s : List UInt8} {i a : Nat} (h : i < m.length) : nexts m s (i, a) = nextsN s a m[i] := by
  unfold nexts
  rw [show ((i, a) : Nat × Nat).1 = i from rfl, List.getElem?_eq_getElem h]
theorem mark_to {M i : Int} {x : S49} (h : rightB M i x = true) (k : x.f0 = 3) (hi : 0 ≤ i := by omega) : (x.f4.toNat : Int) = x.f4 := by
  unfold rightB at h
  rw [if_neg (by omega), if_neg (by omega), if_pos k] at h
  simp only [Bool.and_eq_true, decide_eq_true_eq] at h
  omega
theorem fork_to {M i : Int} {x : S49} (h : rightB M i x = true) (k : x.f0 = 2) (hi : 0 ≤ i := by omega) : ∀ t ∈ x.f2, (t.toNat : Int) = t := by
  intro t ht
  unfold rightB at h
  rw [if_neg (by omega), if_pos k] at h
  simp only [Bool.and_eq_true, decide_eq_true_eq, List.all_eq_true] at h
  have := h.2 t ht
  omega
theorem edge_to {M i : Int} {x : S49} (h : rightB M i x = true) (k : x.f0 = 1) : ∀ e ∈ x.f1, (e.f2.toNat : Int) = e.f2 := by
  intro e he
  unfold rightB at h
  rw [if_pos k] at h
  simp only [Bool.and_eq_true, decide_eq_true_eq] at h
  have := (eatsB_iff.1 h.2).1 e he
  simp only [okE, Bool.and_eq_true, decide_eq_true_eq] at this
  omega
theorem pflat_snoc (l : List (Nat × Nat)) (q : Nat × Nat) : pflat (l ++ [q]) = pflat l ++ pcs q := by simp [pflat]
theorem take_map (l : List Int) (a k : Nat) (h : k < l.length) : (l.take (k + 1)).map (fun t => (t.toNat, a)) = (l.take k).map (fun t => (t.toNat, a)) ++ [(l[k].toNat, a)] := by
  rw [List.take_succ_eq_append_getElem h, List.map_append]
  rfl
theorem take_filter (l : List S52) (s : List UInt8) (a k : Nat) (h : k < l.length) : ((l.take (k + 1)).filter (stepE s a)).map (fun e => (e.f2.toNat, a + 1)) = ((l.take k).filter (stepE s a)).map (fun e => (e.f2.toNat, a + 1)) ++ (if stepE s a l[k] = true then [(l[k].f2.toNat, a + 1)] else []) := by
  rw [List.take_succ_eq_append_getElem h, List.filter_append, List.map_append]
  congr 1
  by_cases hs : stepE s a l[k] = true
  · rw [if_pos hs, List.filter_cons_of_pos hs]; rfl
  · rw [if_neg hs, List.filter_cons_of_neg hs]; rfl
theorem step_none (s : ByteArray) (a : Nat) (h : ¬ a < s.size) (y : S52) : stepE s.data.toList a y = false := by
  unfold stepE
  have e : s.data.toList[a]? = none := List.getElem?_eq_none (by rw [Array.length_toList]; exact Nat.le_of_not_lt h)
  rw [e]
theorem step_byte (s : ByteArray) (a : Nat) (h : a < s.size) (y : S52) {bc : Int} (hb : bc = ((s[(a : Int).toNat]'h).toNat : Int)) : stepE s.data.toList a y = (decide (y.f0 ≤ bc) && decide (bc ≤ y.f1)) := by
  unfold stepE
  have e : s.data.toList[a]? = some s[a] := by
    rw [Array.getElem?_toList, Array.getElem?_eq_getElem h]
    rfl
  rw [e, hb]
  rfl
theorem place_info : (Try.prog.info? 61).map (fun i => (i.zero, i.size, i.bytes)) = some (some (.agg #[.int .i64 0, .int .i64 0]), 2, 16) := by kernel_rfl
set_option maxHeartbeats 8000000 in
set_option maxRecDepth 100000 in
theorem next_any {A : Option Addr} {c : Nat} {m : List S49} {s : ByteArray} {mp : Value} (W : World) (fb i a : Nat) (hr : Kd.C k49 W A m.length m) (hf : FIN W fb A m.length c s mp) (hi : i < m.length) (hmay : mayB m = true) (hok : okM m) (ha : a ≤ s.size) (hs : s.size ≤ 1000000000) :
    Calls Try.prog 23 #[.pointer (some ⟨fb, 0, none⟩), .agg #[.int .i64 (i : Int), .int .i64 (a : Int)]] W fun e W' => ∃ v, e = .returned v ∧ W'.ownsRow W.heap.size 61 2 v (nexts m s.data.toList (i, a)).length (pflat (nexts m s.data.toList (i, a))) ∧ Below W.heap.size W W' := by
  have HE := Aside0.mk (nexts_at (s := s.data.toList) (a := a) hi)
  have hmm := (mayB_iff.1 hmay).1.2

  have hb1 := X.below_new1 W (.cells #[.int .i64 (i : Int), .int .i64 (a : Int)] 61)
  have hp := cells2 (blk_new W (.cells #[.int .i64 (i : Int), .int .i64 (a : Int)] 61))
  have hfc := cells3 (blk_below hf hb1)
  obtain ⟨ad, A1, c1, A2, c2, hA, q0, q1, q2, q3, q4, l1, g1, l2, g2⟩ := at_T49 hr (i : Int) (by omega) (by omega)
  have r0 := addr_keep hb1 q0
  have r1 := addr_keep hb1 q1
  have r2 := addr_keep hb1 q2
  have r3 := addr_keep hb1 q3
  have r4 := addr_keep hb1 q4
  clear q0 q1 q2 q3 q4
  rw [Int.toNat_natCast, rdn_at m i hi] at r0 r1 r2 r3 r4
  rw [rdn_at m i hi] at l1 l2 g1 g2
  have hz := X.below_new1 (W.alloc (.cells #[.int .i64 (i : Int), .int .i64 (a : Int)] 61)) (.cells #[.int .i64 0, .slice none 0 0, .slice none 0 0, .int .i64 0, .int .i64 0] 49)
  have z0 := addr_keep hz r0
  have z1 := addr_keep hz r1
  have z2 := addr_keep hz r2
  have z3 := addr_keep hz r3
  have z4 := addr_keep hz r4
  have hpz := cells2 (blk_alloc (blk_new W (.cells #[.int .i64 (i : Int), .int .i64 (a : Int)] 61)) (.cells #[.int .i64 0, .slice none 0 0, .slice none 0 0, .int .i64 0, .int .i64 0] 49))
  have hfz := cells3 (blk_alloc (blk_below hf hb1) (.cells #[.int .i64 0, .slice none 0 0, .slice none 0 0, .int .i64 0, .int .i64 0] 49))
  have hrt := (mayB_iff.1 hmay).2 i hi
  obtain ⟨x, hx⟩ : ∃ x, x = m[i] := ⟨_, rfl⟩
  rw [← hx] at r0 r1 r2 r3 r4 z0 z1 z2 z3 z4 l1 g1 l2 g2 hrt
  have HX := Aside0.mk hx
  have hsz : s.data.toList.length = s.size := Array.length_toList
  have HSZ := Aside0.mk hsz
  have HRT := Aside0.mk hrt
  obtain ⟨n, hn⟩ : ∃ n, n = m.length := ⟨_, rfl⟩
  rw [← hn] at hfc hfz hmm
  have hin : i < n := by omega
  have HB := Aside0.mk hb1
  have G1 := Aside0.mk g1
  have G2 := Aside0.mk g2
  have L1 := Aside0.mk l1
  have L2 := Aside0.mk l2
  have HR := Aside0.mk hr
  have HF := Aside0.mk hf
  have HI := Aside0.mk hi
  clear l1 g1 l2 g2 hr hf hn hb1 hsz hx hrt hz
  subst hA
  go_enter Try.func23, Try.ntmps23
  go_wp2_with fail
  go_region
  have hw2 : Below W.heap.size W (((W.alloc (.cells #[.int .i64 (i : Int), .int .i64 (a : Int)] 61)).alloc (.cells #[.int .i64 x.f0, .slice A1 x.f1.length c1, .slice A2 x.f2.length c2, .int .i64 x.f3, .int .i64 x.f4] 49)).drew) := below_drew1 (X.below_new2 W _ _)
  have hpb : (((W.alloc (.cells #[.int .i64 (i : Int), .int .i64 (a : Int)] 61)).alloc (.cells #[.int .i64 x.f0, .slice A1 x.f1.length c1, .slice A2 x.f2.length c2, .int .i64 x.f3, .int .i64 x.f4] 49)).drew).heap[W.heap.size]? = some (.cells #[.int .i64 (i : Int), .int .i64 (a : Int)] 61 (0, 0)) := blk_alloc (blk_new W (.cells #[.int .i64 (i : Int), .int .i64 (a : Int)] 61)) (.cells #[.int .i64 x.f0, .slice A1 x.f1.length c1, .slice A2 x.f2.length c2, .int .i64 x.f3, .int .i64 x.f4] 49)
  have hnb : (((W.alloc (.cells #[.int .i64 (i : Int), .int .i64 (a : Int)] 61)).alloc (.cells #[.int .i64 x.f0, .slice A1 x.f1.length c1, .slice A2 x.f2.length c2, .int .i64 x.f3, .int .i64 x.f4] 49)).drew).heap[W.heap.size + 1]? = some (.cells #[.int .i64 x.f0, .slice A1 x.f1.length c1, .slice A2 x.f2.length c2, .int .i64 x.f3, .int .i64 x.f4] 49 (0, 0)) := X.blk_new2 W (.cells #[.int .i64 (i : Int), .int .i64 (a : Int)] 61) (.cells #[.int .i64 x.f0, .slice A1 x.f1.length c1, .slice A2 x.f2.length c2, .int .i64 x.f3, .int .i64 x.f4] 49)
  have hs2 : (((W.alloc (.cells #[.int .i64 (i : Int), .int .i64 (a : Int)] 61)).alloc (.cells #[.int .i64 x.f0, .slice A1 x.f1.length c1, .slice A2 x.f2.length c2, .int .i64 x.f3, .int .i64 x.f4] 49)).drew).heap.size = W.heap.size + 2 := by show ((W.alloc (.cells #[.int .i64 (i : Int), .int .i64 (a : Int)] 61)).alloc (.cells #[.int .i64 x.f0, .slice A1 x.f1.length c1, .slice A2 x.f2.length c2, .int .i64 x.f3, .int .i64 x.f4] 49)).heap.size = _; rw [X.size_alloc1, X.size_alloc1]
  generalize (((W.alloc (.cells #[.int .i64 (i : Int), .int .i64 (a : Int)] 61)).alloc (.cells #[.int .i64 x.f0, .slice A1 x.f1.length c1, .slice A2 x.f2.length c2, .int .i64 x.f3, .int .i64 x.f4] 49)).drew) = W2 at hw2 hpb hnb hs2 ⊢
  have hf2 := blk_below HF.out hw2
  have HW2 := Aside0.mk hw2
  have HPB := Aside0.mk hpb
  have HNB := Aside0.mk hnb
  have HS2 := Aside0.mk hs2
  have HF2 := Aside0.mk hf2
  clear hw2 hpb hnb hs2 hf2 r0 r1 r2 r3 r4 z0 z1 z2 z3 z4 hp hfc hpz hfz
  replace G1 := Aside0.mk (show Kd.C k52 W2 A1 x.f1.length x.f1 from Kd.C_below G1.out HW2.out)
  replace G2 := Aside0.mk (Kd.C_below G2.out HW2.out)
  by_cases k3 : x.f0 = 3
  · have k3t : (x.f0 == 3) = true := beq_iff_eq.2 k3
    have K3 := Aside0.mk k3
    clear k3
    have hnc := cells5m HNB.out
    have hpc := cells2 HPB.out
    have TO := Aside0.mk (mark_to HRT.out K3.out)
    go_wp2_with fail
    go_ret
    refine ⟨.slice (some ⟨W2.heap.size, 0, none⟩) 1 1, rfl, ?_, below_alloc HW2.out _⟩
    have h2 := World.ownsRow_lit (base := W.heap.size) (e := 61) (size := 2) W2 #[.int .i64 x.f4, .int .i64 (a : Int)] 1 HW2.out.size (by simp [maxLen]) (by simp)
    rw [HE.out, ← HX.out, nextsN, if_pos K3.out]
    simpa [pflat, pcs, TO.out] using h2
  · have k3f : (x.f0 == 3) = false := beq_eq_false_iff_ne.2 k3
    have K3 := Aside0.mk k3
    clear k3
    by_cases k2 : x.f0 = 2
    · have k2t : (x.f0 == 2) = true := beq_iff_eq.2 k2
      have K2 := Aside0.mk k2
      clear k2
      have TO := Aside0.mk (fork_to HRT.out K2.out)
      have hx2 := (hok _ (List.getElem_mem hi)).2.1
      rw [← HX.out] at hx2
      obtain ⟨n2, hn2⟩ : ∃ n, n = x.f2.length := ⟨_, rfl⟩
      have HN2 := Aside0.mk hn2
      rw [← hn2] at hx2
      have hnc := cells5m HNB.out
      have hpc := cells2 HPB.out
      rw [← hn2] at hnc
      have HNC := Aside0.mk hnc
      clear hn2 hpc hnc
      have hnc := HNC.out
      go_wp2_with fail
      clear hnc
      go_loopw [34, 6] (fun v34 v6 wr => ∃ k : Nat, k ≤ n2 ∧ v34 = .int .i64 k ∧ wr.ownsRow W2.heap.size 61 2 v6 k (pflat ((x.f2.take k).map fun t => (t.toNat, a))) ∧ Below W2.heap.size W2 wr) (fun v _ _ => (n2 - intOf v).toNat)
      case atStart => exact ⟨0, Nat.zero_le _, rfl, World.ownsRow_nil _ _ _ _, Below.refl _ _⟩
      case round =>
        obtain ⟨k, hk, rfl, ho, hbr⟩ := hrel
        have HO := Aside0.mk ho
        have HBR := Aside0.mk hbr
        clear ho hbr
        by_cases hlt : k < n2
        · have hk2 : k < x.f2.length := by rw [← HN2.out]; exact hlt
          obtain ⟨ad2, hA2, hc2⟩ := X.C_cell1 (Kd.C_below G2.out HBR.out) k hk2
          have hpc := cells2 (blk_below HPB.out HBR.out)
          have hto := TO.out _ (List.getElem_mem hk2)
          have hnx := take_map x.f2 a k hk2
          obtain ⟨y, hy⟩ : ∃ y, y = x.f2[k] := ⟨_, rfl⟩
          rw [← hy] at hc2 hto hnx
          have HTO := Aside0.mk hto
          have HNX := Aside0.mk hnx
          clear hy hto hnx hk2
          subst hA2
          obtain ⟨inner, hin_⟩ : ∃ l, l = pflat ((x.f2.take k).map fun t => (t.toNat, a)) := ⟨_, rfl⟩
          have HIN := Aside0.mk hin_
          rw [← hin_] at HO
          clear hin_
          go_wp2_with (at_builtin; refine print_append_cells (w0 := W2) W2.heap.size rfl (.tmp 38) (.tmp 43) 63 61 (.agg #[.int .i64 0, .int .i64 0]) 2 16 rfl Try.underlying63 place_info rfl (by decide) (by decide) u6 k inner [.int .i64 y, .int .i64 (a : Int)] rfl rfl rfl (by simp [Value.oneCell']) HO.out HBR.out HBR.out.size (by omega) ?_; intro v1 w1 q1 q2 q3 q4; have Q1 := Aside0.mk q1; have Q2 := Aside0.mk q2; clear q1 q2 q3 q4)
          go_roundw
          case rel => exact ⟨k + 1, by omega, by go_num, by rw [HNX.out, pflat_snoc, ← HIN.out]; have h := Q1.out; rw [← HTO.out] at h; exact h, Q2.out⟩
          case measure => simp [intOf]; omega
        · have hkn : k = n2 := by omega
          have HL := Aside0.mk (show (x.f2.take k).map (fun t => (t.toNat, a)) = x.f2.map fun t => (t.toNat, a) by rw [List.take_of_length_le (by have := HN2.out; omega)])
          have HKN := Aside0.mk hkn
          clear hkn
          go_wp2_with fail
          go_ret
          refine ⟨u6, rfl, ?_, HW2.out.trans (HBR.out.mono HW2.out.size)⟩
          rw [HE.out, ← HX.out, nextsN, if_neg K3.out, if_pos K2.out, ← HL.out]
          refine own_lower ?_ HW2.out.size
          rw [List.length_map, List.length_take, show min k x.f2.length = k from by have := HN2.out; have := HKN.out; omega]
          exact HO.out
    · have k2f : (x.f0 == 2) = false := beq_eq_false_iff_ne.2 k2
      have K2 := Aside0.mk k2
      clear k2
      by_cases k1 : x.f0 = 1
      · have k1t : (x.f0 == 1) = true := beq_iff_eq.2 k1
        have K1 := Aside0.mk k1
        clear k1
        have TO := Aside0.mk (edge_to HRT.out K1.out)
        have hx1 := (hok _ (List.getElem_mem hi)).1
        rw [← HX.out] at hx1
        obtain ⟨n1, hn1⟩ : ∃ n, n = x.f1.length := ⟨_, rfl⟩
        have HN1 := Aside0.mk hn1
        rw [← hn1] at hx1
        have hnc := cells5m HNB.out
        rw [← hn1] at hnc
        have HNC := Aside0.mk hnc
        clear hn1 hnc
        have hnc := HNC.out
        go_wp2_with fail
        clear hnc
        go_loopw [51, 6] (fun v51 v6 wr => ∃ k : Nat, k ≤ n1 ∧ v51 = .int .i64 k ∧ wr.ownsRow W2.heap.size 61 2 v6 (((x.f1.take k).filter (stepE s.data.toList a)).map fun e => (e.f2.toNat, a + 1)).length (pflat (((x.f1.take k).filter (stepE s.data.toList a)).map fun e => (e.f2.toNat, a + 1))) ∧ Below W2.heap.size W2 wr) (fun v _ _ => (n1 - intOf v).toNat)
        case atStart => exact ⟨0, Nat.zero_le _, rfl, World.ownsRow_nil _ _ _ _, Below.refl _ _⟩
        case round =>
          obtain ⟨k, hk, rfl, ho, hbr⟩ := hrel
          have HO := Aside0.mk ho
          have HBR := Aside0.mk hbr
          clear ho hbr
          by_cases hlt : k < n1
          · have hk2 : k < x.f1.length := by rw [← HN1.out]; exact hlt
            obtain ⟨ad2, hA2, e0, e1, e2⟩ := at_T52 (Kd.C_below G1.out HBR.out) (k : Int) (by omega) (by omega)
            rw [Int.toNat_natCast, rde_at x.f1 k hk2] at e0 e1 e2
            have hto := TO.out _ (List.getElem_mem hk2)
            have hnx := take_filter x.f1 s.data.toList a k hk2
            obtain ⟨y, hy⟩ : ∃ y, y = x.f1[k] := ⟨_, rfl⟩
            rw [← hy] at e0 e1 e2 hto hnx
            have HTO := Aside0.mk hto
            have HNX := Aside0.mk hnx
            clear hy hto hnx hk2
            subst hA2
            have hb3 := X.below_new1 wr (.cells #[.int .u8 y.f0, .int .u8 y.f1, .int .i64 y.f2] 52)
            have hec := cells3 (blk_new wr (.cells #[.int .u8 y.f0, .int .u8 y.f1, .int .i64 y.f2] 52))
            have hpc := cells2 (blk_below (blk_below HPB.out HBR.out) hb3)
            have hfc := cells3 (blk_below (blk_below HF2.out HBR.out) hb3)
            have HBL := Aside0.mk (fun q => pw_below_drewN hb3 q)
            have HB3q := Aside0.mk (fun q => pw_below_drewN (below_step HBR.out hb3) q)
            clear hb3
            by_cases hal : a < s.size
            · have hat : decide ((a : Int) < (s.size : Int)) = true := decide_eq_true (by omega)
              have hal2 : (a : Int).toNat < s.size := hal
              obtain ⟨bc, hbc⟩ : ∃ bc : Int, bc = ((s[(a : Int).toNat]'hal2).toNat : Int) := ⟨_, rfl⟩
              have hbq : ∀ h : (a : Int).toNat < s.size, ((s[(a : Int).toNat]'h).toNat : Int) = bc := fun _ => hbc.symm
              have hbq2 : ∀ h : a < s.size, ((s[a]'h).toNat : Int) = bc := fun _ => hbc.symm
              have STEP := Aside0.mk (show stepE s.data.toList a y = (decide (y.f0 ≤ bc) && decide (bc ≤ y.f1)) from step_byte s a hal y hbc)
              clear hbc
              cases t1 : decide (bc ≥ y.f0) with
              | false =>
                have NS := Aside0.mk (show stepE s.data.toList a y = false by rw [STEP.out]; simp at t1 ⊢; omega)
                go_wp2_with fail
                go_quiet (fail)
                go_wp2_with fail
                go_roundw
                case rel => exact ⟨k + 1, by omega, by go_num, by rw [HNX.out, if_neg (by rw [NS.out]; decide), List.append_nil]; exact own_below HO.out (HBL.out _), HB3q.out _⟩
                case measure => simp [intOf]; omega
              | true =>
                cases t2 : decide (bc ≤ y.f1) with
                | false =>
                  have NS := Aside0.mk (show stepE s.data.toList a y = false by rw [STEP.out]; simp at t1 t2 ⊢; omega)
                  go_wp2_with fail
                  go_quiet (fail)
                  go_wp2_with fail
                  go_roundw
                  case rel => exact ⟨k + 1, by omega, by go_num, by rw [HNX.out, if_neg (by rw [NS.out]; decide), List.append_nil]; exact own_below HO.out (HBL.out _), HB3q.out _⟩
                  case measure => simp [intOf]; omega
                | true =>
                  have NS := Aside0.mk (show stepE s.data.toList a y = true by rw [STEP.out]; simp at t1 t2 ⊢; omega)
                  have hlen : (((x.f1.take k).filter (stepE s.data.toList a)).map fun e => (e.f2.toNat, a + 1)).length ≤ 1000000 := by
                    rw [List.length_map]
                    exact Nat.le_trans (List.length_filter_le _ _) (by rw [List.length_take]; omega)
                  obtain ⟨L, hL⟩ : ∃ L, L = (((x.f1.take k).filter (stepE s.data.toList a)).map fun e => (e.f2.toNat, a + 1)) := ⟨_, rfl⟩
                  have HL := Aside0.mk hL
                  rw [← hL] at hlen HO
                  clear hL
                  obtain ⟨ln, hln⟩ : ∃ n, n = L.length := ⟨_, rfl⟩
                  have HLN := Aside0.mk hln
                  rw [← hln] at hlen HO
                  clear hln
                  obtain ⟨inner, hin_⟩ : ∃ l, l = pflat L := ⟨_, rfl⟩
                  have HIN := Aside0.mk hin_
                  rw [← hin_] at HO
                  clear hin_
                  go_wp2_with fail
                  go_quiet (fail)
                  have ho4 := own_below HO.out (HBL.out nq)
                  have hb4 := HB3q.out nq
                  have hec4 := cells3 (blk_drewN (blk_new wr (.cells #[.int .u8 y.f0, .int .u8 y.f1, .int .i64 y.f2] 52)) nq)
                  have hpc4 := cells2 (blk_below HPB.out (HB3q.out nq))
                  generalize ((wr.alloc (.cells #[.int .u8 y.f0, .int .u8 y.f1, .int .i64 y.f2] 52)).drewN nq) = w4 at ho4 hb4 hec4 hpc4 ⊢
                  have HO4 := Aside0.mk ho4
                  have HB4 := Aside0.mk hb4
                  clear ho4 hb4
                  go_wp2_with (at_builtin; refine print_append_cells (w0 := W2) W2.heap.size rfl (.tmp 87) (.tmp 94) 63 61 (.agg #[.int .i64 0, .int .i64 0]) 2 16 rfl Try.underlying63 place_info rfl (by decide) (by decide) u6 ln inner [.int .i64 y.f2, .int .i64 ((a : Int) + 1)] rfl rfl rfl (by simp [Value.oneCell']) HO4.out HB4.out HB4.out.size (by omega) ?_; intro v1 w1 q1 q2 q3 q4; have Q1 := Aside0.mk q1; have Q2 := Aside0.mk q2; clear q1 q2 q3 q4)
                  go_roundw
                  case rel => exact ⟨k + 1, by omega, by go_num, by rw [HNX.out, if_pos NS.out, ← HL.out, pflat_snoc, List.length_append, ← HLN.out, ← HIN.out]; have h := Q1.out; rw [← HTO.out] at h; exact h, Q2.out⟩
                  case measure => simp [intOf]; omega
            · have hat : decide ((a : Int) < (s.size : Int)) = false := decide_eq_false (by omega)
              have NS := Aside0.mk (step_none s a hal y)
              go_wp2_with fail
              go_quiet (fail)
              go_wp2_with fail
              go_roundw
              case rel => exact ⟨k + 1, by omega, by go_num, by rw [HNX.out, if_neg (by rw [NS.out]; decide), List.append_nil]; exact own_below HO.out (HBL.out _), HB3q.out _⟩
              case measure => simp [intOf]; omega
          · have HL := Aside0.mk (show x.f1.take k = x.f1 from List.take_of_length_le (by have := HN1.out; omega))
            go_wp2_with fail
            go_ret
            refine ⟨u6, rfl, ?_, HW2.out.trans (HBR.out.mono HW2.out.size)⟩
            rw [HE.out, ← HX.out, nextsN, if_neg K3.out, if_neg K2.out, if_pos K1.out]
            have h := HO.out
            rw [HL.out] at h
            exact own_lower h HW2.out.size
      · have k1f : (x.f0 == 1) = false := beq_eq_false_iff_ne.2 k1
        have K1 := Aside0.mk k1
        clear k1
        have hnc := cells5m HNB.out
        go_wp2_with fail
        go_ret
        refine ⟨.slice none 0 0, rfl, ?_, HW2.out⟩
        rw [HE.out, ← HX.out, nextsN, if_neg K3.out, if_neg K2.out, if_neg K1.out]
        exact World.ownsRow_nil _ _ _ _
end Go.Proofs.Ytecpjfipkejmoaa.PA
end
section
namespace Go.Proofs.Ytecpjfipkejmoaa.PA
set_option linter.unusedSimpArgs false
set_option linter.unusedVariables false
open Go.RowKit Go.Maps Go.Proofs.YtecpjfipkejmoaaW.PrintWords Go.Proofs.YtecpjfipkejmoaaW.PrintLast Go.Proofs.YtecpjfipkejmoaaW.PrintMore
attribute [local go_sem] max2_int min2_int max_two min_two
def places (m : List S49) (s : List UInt8) : List (Nat × Nat) := (List.range m.length).flatMap fun i => (List.range (s.length + 1)).map fun a => (i, a)
theorem mem_places {m : List S49} {s : List UInt8} {p : Nat × Nat} (h : validP m s p) : p ∈ places m s := by
  obtain ⟨i, a⟩ := p
  obtain ⟨h1, h2⟩ := h
  dsimp only at h1 h2
  unfold places
  rw [List.mem_flatMap]
  exact ⟨i, List.mem_range.2 h1, List.mem_map.2 ⟨a, List.mem_range.2 (by omega), rfl⟩⟩
theorem places_len (m : List S49) (s : List UInt8) : (places m s).length = m.length * (s.length + 1) := by
  unfold places
  obtain ⟨k, hk⟩ : ∃ k, k = s.length + 1 := ⟨_, rfl⟩
  rw [← hk]
  generalize m.length = n
  induction n with
  | zero => simp
  | succ n ih => rw [List.range_succ, List.flatMap_append, List.length_append, ih]; simp [Nat.succ_mul]
theorem countP_le {α : Type} {f g : α → Bool} (h : ∀ x, f x = true → g x = true) : ∀ l : List α, l.countP f ≤ l.countP g
  | [] => Nat.le_refl _
  | x :: r => by
    rw [List.countP_cons, List.countP_cons]
    have := countP_le h r
    by_cases hf : f x = true
    · rw [if_pos hf, if_pos (h x hf)]; omega
    · rw [if_neg hf]; split <;> omega
theorem countP_lt {α : Type} {f g : α → Bool} (h : ∀ x, f x = true → g x = true) {p : α} (hp : f p = false) (hg : g p = true) : ∀ l : List α, p ∈ l → l.countP f + 1 ≤ l.countP g
  | [], hm => by cases hm
  | x :: r, hm => by
    rw [List.countP_cons, List.countP_cons]
    rcases List.mem_cons.1 hm with rfl | hm
    · rw [if_neg (by rw [hp]; decide), if_pos hg]
      have := countP_le h r
      omega
    · have := countP_lt h hp hg r hm
      by_cases hf : f x = true
      · rw [if_pos hf, if_pos (h x hf)]; omega
      · rw [if_neg hf]; split <;> omega
def KN (m : List S49) (s : List UInt8) (n : Nat) (C : Nat × Nat → Option Nat) : Prop := (∀ q v, C q = some v → v = waysOf m s q) ∧ n + (places m s).countP (fun q => (C q).isNone) ≤ (places m s).length
theorem KN.zero (m : List S49) (s : List UInt8) : KN m s 0 (fun _ => none) := ⟨fun q v h => (by cases h), by rw [Nat.zero_add]; exact List.countP_le_length⟩
theorem KN.put {m : List S49} {s : List UInt8} {n : Nat} {C : Nat × Nat → Option Nat} (h : KN m s n C) {p : Nat × Nat} (hp : validP m s p) (hC : C p = none) : KN m s (n + 1) (fun x => if x = p then some (waysOf m s p) else C x) := by
  refine ⟨fun q v hq => ?_, ?_⟩
  · dsimp only at hq
    split at hq
    · rename_i e; subst e; exact (Option.some.inj hq).symm
    · exact h.1 q v hq
  · have := countP_lt (f := fun q => ((fun x => if x = p then some (waysOf m s p) else C x) q).isNone) (g := fun q => (C q).isNone) (fun x hx => by
      dsimp only at hx ⊢
      split at hx
      · cases hx
      · exact hx) (p := p) (by simp) (by rw [hC]; rfl) (places m s) (mem_places hp)
    have h2 := h.2
    omega
structure ST (w0 : World) (A : Option Addr) (c : Nat) (m : List S49) (s : ByteArray) (W : World) (fb b n : Nat) (C : Nat × Nat → Option Nat) : Prop where
  hb : Below w0.heap.size w0 W
  hf : FIN W fb A m.length c s (.map (some b))
  hp : PM W b n C
  hB : w0.heap.size ≤ b
  hn : fb ≠ b
  hk : KN m s.data.toList n C
theorem ST.below {w0 W W' : World} {A : Option Addr} {c : Nat} {m : List S49} {s : ByteArray} {fb b n : Nat} {C : Nat × Nat → Option Nat} (h : ST w0 A c m s W fb b n C) (hb : Below W.heap.size W W') : ST w0 A c m s W' fb b n C :=
  ⟨h.hb.trans (hb.mono h.hb.size), blk_below h.hf hb, h.hp.below hb, h.hB, h.hn, h.hk⟩
theorem ST.put {w0 W W' : World} {A : Option Addr} {c : Nat} {m : List S49} {s : ByteArray} {fb b n n' : Nat} {C C' : Nat × Nat → Option Nat} (h : ST w0 A c m s W fb b n C) (hg : W.grownBy W' (some b)) (hp : PM W' b n' C') (hk : KN m s.data.toList n' C') : ST w0 A c m s W' fb b n' C' :=
  ⟨h.hb.grown hg h.hb.size (fun k e => by cases e; exact h.hB), (hg.block _ (blk_lt h.hf) (fun e => h.hn (by injection e))).trans h.hf, hp, h.hB, h.hn, hk⟩
theorem own_get2 {w : World} {b n : Nat} {v : Value} {L : List (Nat × Nat)} (h : w.ownsRow b 61 2 v n (pflat L)) (hn : n = L.length) (k : Nat) (hk : k < L.length) : ∃ ad cap, v = .slice (some ad) n cap ∧ w.cell? (ad.add (k * 2)) = some (.int .i64 (L[k].1 : Int)) ∧ w.cell? ⟨(ad.add (k * 2)).block, (ad.add (k * 2)).off + 1, none⟩ = some (.int .i64 (L[k].2 : Int)) := by
  rcases h.2 with ⟨_, h0⟩ | ⟨g, cap, cur, hv, hg, hgb, hcap, _, hsz, htk⟩
  · omega
  · have key : ∀ (L : List (Nat × Nat)) (k : Nat) (h : k < L.length), (pflat L)[k * 2]? = some (.int .i64 (L[k].1 : Int)) ∧ (pflat L)[k * 2 + 1]? = some (.int .i64 (L[k].2 : Int)) := by
      intro L
      induction L with
      | nil => intro k h; cases h
      | cons q r ih =>
        intro k h
        have e : pflat (q :: r) = pcs q ++ pflat r := by simp [pflat]
        rw [e]
        cases k with
        | zero => exact ⟨rfl, rfl⟩
        | succ k =>
          have h2 := ih k (by simpa using h)
          rw [show (k + 1) * 2 = (k * 2) + 2 by omega]
          exact h2
    obtain ⟨h1, h2⟩ := key L k hk
    have cc : ∀ (j : Nat) (u : Value), (pflat L)[j]? = some u → cur[j]? = some u := by
      intro j u hj
      rw [← htk] at hj
      have hlt : j < n * 2 := by
        have := (List.getElem?_eq_some_iff.1 hj).1
        rw [List.length_take] at this
        omega
      rw [List.getElem?_take_of_lt hlt, Array.getElem?_toList] at hj
      exact hj
    refine ⟨⟨g, 0, none⟩, cap, hv, ?_, ?_⟩
    · rw [add_zero_off, Nat.zero_add, blk_cell hgb]
      exact cc _ _ h1
    · rw [add_zero_off]
      show w.cell? ⟨g, 0 + k * 2 + 1, none⟩ = _
      rw [Nat.zero_add, blk_cell hgb]
      exact cc _ _ h2
theorem foldl_step {f : Nat × Nat → Nat} (L : List (Nat × Nat)) (k n0 : Nat) (h : k < L.length) : (L.take (k + 1)).foldl (addW f) n0 = min ((L.take k).foldl (addW f) n0 + f L[k]) 1000 := by
  rw [List.take_succ_eq_append_getElem h, List.foldl_append]
  rfl
theorem next_len {m : List S49} {s : List UInt8} {i a : Nat} (hi : i < m.length) (hok : okM m) : (nexts m s (i, a)).length ≤ 1000000 := by
  rw [nexts_at hi]
  have h := hok _ (List.getElem_mem hi)
  unfold nextsN
  split
  · simp
  · split
    · rw [List.length_map]; exact h.2.1
    · split
      · rw [List.length_map]; exact Nat.le_trans (List.length_filter_le _ _) h.1
      · simp
def ManyEnd (w0 : World) (A : Option Addr) (c : Nat) (m : List S49) (s : ByteArray) (W : World) (fb b : Nat) (C : Nat × Nat → Option Nat) (M : Nat) (W' : World) : Prop :=
  ∃ n' C', ST w0 A c m s W' fb b n' C' ∧ W.grownBy W' (some b) ∧ ∀ q, M < mu m s.data.toList q → C' q = C q
set_option maxHeartbeats 8000000 in
set_option maxRecDepth 100000 in
theorem many_any {w0 : World} {A : Option Addr} {c : Nat} {m : List S49} {s : ByteArray} (hr : Kd.C k49 w0 A m.length m) (hmay : mayB m = true) (hok : okM m) (hs : s.size ≤ 1000000000) (fb b : Nat) :
    ∀ (N : Nat) (i a n : Nat) (C : Nat × Nat → Option Nat) (W : World), mu m s.data.toList (i, a) ≤ N → validP m s.data.toList (i, a) → ST w0 A c m s W fb b n C →
    Calls Try.prog 21 #[.pointer (some ⟨fb, 0, none⟩), .agg #[.int .i64 (i : Int), .int .i64 (a : Int)]] W fun e W' => e = .returned (.int .i64 (waysOf m s.data.toList (i, a) : Nat)) ∧ ManyEnd w0 A c m s W fb b C (mu m s.data.toList (i, a)) W' := by
  intro N
  induction N with
  | zero => intro i a n C W h hv; have := mu_pos hv; omega
  | succ N ih =>
  intro i a n C W hmu hv hst
  have hmm := (mayB_iff.1 hmay).1.2
  have hsl : s.data.toList.length = s.size := Array.length_toList
  have hokp : okP (i, a) := ⟨by have := hv.1; dsimp only at *; omega, by have := hv.2; dsimp only at *; omega⟩
  have hb1 := X.below_new1 W (.cells #[.int .i64 (i : Int), .int .i64 (a : Int)] 61)
  have hst1 := hst.below hb1
  have hp := cells2 (blk_new W (.cells #[.int .i64 (i : Int), .int .i64 (a : Int)] 61))
  have hfc := cells3 hst1.hf
  have hlook := pm_look (hst1.below (below_drew (Below.refl _ _))).hp (i, a) hokp
  unfold encP at hlook
  dsimp only at hlook
  have IH := Aside0.mk ih
  have HMU := Aside0.mk hmu
  have HV := Aside0.mk hv
  have HST := Aside0.mk hst
  have HST1 := Aside0.mk hst1
  have HB1 := Aside0.mk hb1
  have HR := Aside0.mk hr
  have HSL := Aside0.mk hsl
  clear ih hmu hv hst hst1 hb1 hr hsl
  go_enter Try.func21, Try.ntmps21
  cases hC : C (i, a) with
  | some v =>
    have HWV := Aside0.mk (HST.out.hk.1 _ _ hC)
    rw [hC] at hlook
    simp only [Option.getD_some, Option.isSome_some] at hlook
    clear hC
    go_wp2_with fail
    go_region
    have hst2 := HST1.out.below (below_drew (Below.refl _ _))
    have hb2 : Below W.heap.size W ((W.alloc (.cells #[.int .i64 (i : Int), .int .i64 (a : Int)] 61)).drew) := below_drew1 HB1.out
    have hpb : ((W.alloc (.cells #[.int .i64 (i : Int), .int .i64 (a : Int)] 61)).drew).heap[W.heap.size]? = some (.cells #[.int .i64 (i : Int), .int .i64 (a : Int)] 61 (0, 0)) := blk_new W (.cells #[.int .i64 (i : Int), .int .i64 (a : Int)] 61)
    clear hlook hp hfc
    generalize (W.alloc (.cells #[.int .i64 (i : Int), .int .i64 (a : Int)] 61)).drew = W2 at hst2 hb2 hpb ⊢
    have HST2 := Aside0.mk hst2
    have HB2 := Aside0.mk hb2
    have HPB := Aside0.mk hpb
    clear hst2 hb2 hpb
    go_wp2_with fail
    go_ret
    exact ⟨by rw [← HWV.out]; rfl, n, C, HST2.out, grown_of_below HB2.out (some b), fun _ _ => rfl⟩
  | none =>
    have HCN := Aside0.mk hC
    rw [hC] at hlook
    simp only [Option.getD_none, Option.isSome_none] at hlook
    clear hC
    have HBW := Aside0.mk (show b < W.heap.size from HST.out.hp.lt)
    go_wp2_with fail
    go_region
    have hst2 := HST1.out.below (below_drew (Below.refl _ _))
    have hb2 : Below W.heap.size W ((W.alloc (.cells #[.int .i64 (i : Int), .int .i64 (a : Int)] 61)).drew) := below_drew1 HB1.out
    have hpb : ((W.alloc (.cells #[.int .i64 (i : Int), .int .i64 (a : Int)] 61)).drew).heap[W.heap.size]? = some (.cells #[.int .i64 (i : Int), .int .i64 (a : Int)] 61 (0, 0)) := blk_new W (.cells #[.int .i64 (i : Int), .int .i64 (a : Int)] 61)
    clear hlook hp hfc
    generalize (W.alloc (.cells #[.int .i64 (i : Int), .int .i64 (a : Int)] 61)).drew = W2 at hst2 hb2 hpb ⊢
    have HST2 := Aside0.mk hst2
    have HB2 := Aside0.mk hb2
    have HPB := Aside0.mk hpb
    clear hst2 hb2 hpb
    have hpc2 := cells2 HPB.out
    go_wp2_with fail
    refine (ends_any W2 fb i a (Kd.C_below HR.out HST2.out.hb) HST2.out.hf HV.out.1 hmm).mono ?_
    rintro e W3 ⟨rfl, hb⟩
    have HST3 := Aside0.mk (HST2.out.below hb)
    have HB3 := Aside0.mk (below_step HB2.out hb)
    have HPB3 := Aside0.mk (blk_below HPB.out hb)
    have hpc3 := cells2 HPB3.out
    clear hb hpc2
    generalize heb : endsB m s.data.toList (i, a) = eb
    have HEB := Aside0.mk heb
    clear heb
    cases eb with
    | true =>
      go_wp2_with fail
      refine (next_any W3 fb i a (Kd.C_below HR.out HST3.out.hb) HST3.out.hf HV.out.1 hmay hok (by have := HV.out.2; have := HSL.out; dsimp only at *; omega) hs).mono ?_
      rintro e W4 ⟨v, rfl, ho, hb⟩
      have HVAL := Aside0.mk (fun q (hq : q ∈ nexts m s.data.toList (i, a)) => nexts_valid hmay HV.out hq)
      have hln2 := next_len HV.out.1 hok (s := s.data.toList) (a := a)
      obtain ⟨L, hL⟩ : ∃ L, L = nexts m s.data.toList (i, a) := ⟨_, rfl⟩
      rw [← hL] at ho HVAL hln2
      have HWO := Aside0.mk (show waysOf m s.data.toList (i, a) = L.foldl (addW (waysOf m s.data.toList)) 1 by rw [waysOf_eq hmay HV.out, HEB.out, ← hL]; rfl)
      clear hL
      obtain ⟨A5, c5, rfl⟩ : ∃ A5 c5, v = .slice A5 L.length c5 := by
        rcases ho.2 with ⟨h1, h2⟩ | ⟨g, cap, cur, h1, _⟩
        · exact ⟨none, 0, by rw [h1, h2]⟩
        · exact ⟨_, _, h1⟩
      obtain ⟨ln, hln⟩ : ∃ n, n = L.length := ⟨_, rfl⟩
      rw [← hln] at ho hln2 ⊢
      have HLN := Aside0.mk hln
      have HO := Aside0.mk ho
      have HBLT := Aside0.mk HST3.out.hp.lt
      have HST4 := Aside0.mk (HST3.out.below hb)
      have HG4 := Aside0.mk (grown_of_below (HB3.out.trans (hb.mono HB3.out.size)) (some b))
      have HPB4 := Aside0.mk (blk_below HPB3.out hb)
      clear ho hb hln
      go_wp2_with fail
      go_loopw [28, 7] (fun v28 v7 wr => ∃ k : Nat, k ≤ ln ∧ v28 = .int .i64 k ∧ v7 = .int .i64 (((L.take k).foldl (addW (waysOf m s.data.toList)) 1 : Nat) : Int) ∧ ∃ n' C', ST w0 A c m s wr fb b n' C' ∧ W4.grownBy wr (some b) ∧ ∀ q, mu m s.data.toList (i, a) ≤ mu m s.data.toList q → C' q = C q) (fun v _ _ => (ln - intOf v).toNat)
      case atStart => exact ⟨0, Nat.zero_le _, rfl, rfl, n, C, HST4.out, grown_of_below (Below.refl _ _) (some b), fun _ _ => rfl⟩
      case round =>
        obtain ⟨k, hk, rfl, rfl, n', C', hst', hg', hC'⟩ := hrel
        have HST5 := Aside0.mk hst'
        have HG5 := Aside0.mk hg'
        have HC5 := Aside0.mk hC'
        clear hst' hg' hC'
        have hpb5 : wr.heap[W.heap.size]? = some (.cells #[.int .i64 (i : Int), .int .i64 (a : Int)] 61 (0, 0)) := (HG5.out.block _ (blk_lt HPB4.out) (fun e => by have := HBW.out; injection e with e; omega)).trans HPB4.out
        by_cases hlt : k < ln
        · have hk2 : k < L.length := by rw [← HLN.out]; exact hlt
          have how := own_move HO.out (fun j hj => HG5.out.block j (own_lt HO.out j hj) (fun e => by have h1 := HBLT.out; have h2 := own_base HO.out j hj; injection e with e; omega))
          obtain ⟨ad, cap, hv_, x0, x1⟩ := own_get2 how HLN.out k hk2
          have hA5 : A5 = some ad := by injection hv_
          subst hA5
          have hfs := foldl_step (f := waysOf m s.data.toList) L k 1 hk2
          obtain ⟨hvq, hmq, hmq2⟩ := HVAL.out _ (List.getElem_mem hk2)
          obtain ⟨⟨qi, qa⟩, hq⟩ : ∃ q, q = L[k] := ⟨_, rfl⟩
          rw [← hq] at x0 x1 hfs hvq hmq
          dsimp only at x0 x1
          have hwq := waysOf_le hmay hvq
          obtain ⟨ac, hac⟩ : ∃ x, x = (L.take k).foldl (addW (waysOf m s.data.toList)) 1 := ⟨_, rfl⟩
          have hac1 : ac ≤ 1000 := by rw [hac]; exact foldl_addW_le _ _ (by omega)
          rw [← hac] at hfs ⊢
          have HFS := Aside0.mk hfs
          have hb6 := X.below_new1 wr (.cells #[.int .i64 (qi : Int), .int .i64 (qa : Int)] 61)
          have hqc := cells2 (blk_new wr (.cells #[.int .i64 (qi : Int), .int .i64 (qa : Int)] 61))
          have HIH := Aside0.mk (IH.out qi qa n' C' _ (by have := HMU.out; omega) hvq (HST5.out.below hb6))
          have HB6 := Aside0.mk hb6
          have HMQ := Aside0.mk hmq
          obtain ⟨wq, hwqd⟩ : ∃ x, x = waysOf m s.data.toList (qi, qa) := ⟨_, rfl⟩
          rw [← hwqd] at HIH hwq HFS
          clear hmq2
          clear hv_ hq hac hfs hb6 hmq hvq how hwqd hk2
          go_wp2_with fail
          refine HIH.out.mono ?_
          rintro e w7 ⟨rfl, n7, C7, hst7, hg7, hc7⟩
          have HST7 := Aside0.mk hst7
          have HG7 := Aside0.mk (HG5.out.trans ((grown_of_below HB6.out (some b)).trans hg7))
          have HC7 := Aside0.mk (fun q (hq : mu m s.data.toList (i, a) ≤ mu m s.data.toList q) => (hc7 q (Nat.lt_of_lt_of_le HMQ.out hq)).trans (HC5.out q hq))
          clear hst7 hg7 hc7 x0 x1 hqc hpb5
          go_wp2_with fail
          go_roundw
          case rel => exact ⟨k + 1, by omega, by go_num, by rw [HFS.out]; congr 1; omega, n7, C7, HST7.out, HG7.out, HC7.out⟩
          case measure => simp [intOf]; omega
        · have hkn : k = ln := by omega
          have HT := Aside0.mk (show L.take k = L from List.take_of_length_le (by have := HLN.out; omega))
          have hstd := HST5.out.below (below_drew (Below.refl wr.heap.size wr))
          obtain ⟨wz, hrun, hpz, hgz⟩ := pm_put hstd.hp (i, a) hokp (by have := hstd.hk.2; have := places_len m s.data.toList; have := HSL.out; have h2 : m.length * (s.data.toList.length + 1) ≤ 100000 * 1000000001 := Nat.mul_le_mul hmm (by omega); unfold maxLen; omega) (waysOf m s.data.toList (i, a))
          unfold encP at hrun
          dsimp only at hrun
          rw [HT.out, ← HWO.out]
          have hC0 : C' (i, a) = none := (HC5.out _ (Nat.le_refl _)).trans HCN.out
          have HSTZ := Aside0.mk (hstd.put hgz hpz (hstd.hk.put HV.out hC0))
          have HGZ := Aside0.mk (HG4.out.trans (HG5.out.trans ((grown_of_below (below_drew (Below.refl wr.heap.size wr)) (some b)).trans hgz)))
          have hfc := cells3 hstd.hf
          have hpc := cells2 (blk_drew hpb5)
          clear hpz hgz hC0 hstd hpb5
          go_wp2_with fail
          go_region
          go_wp2_with fail
          go_ret
          refine ⟨rfl, _, _, HSTZ.out, HGZ.out, fun q hq => ?_⟩
          rw [if_neg (fun e => by rw [e] at hq; exact Nat.lt_irrefl _ hq)]
          exact HC5.out q (Nat.le_of_lt hq)
    | false =>
      go_wp2_with fail
      refine (next_any W3 fb i a (Kd.C_below HR.out HST3.out.hb) HST3.out.hf HV.out.1 hmay hok (by have := HV.out.2; have := HSL.out; dsimp only at *; omega) hs).mono ?_
      rintro e W4 ⟨v, rfl, ho, hb⟩
      have HVAL := Aside0.mk (fun q (hq : q ∈ nexts m s.data.toList (i, a)) => nexts_valid hmay HV.out hq)
      have hln2 := next_len HV.out.1 hok (s := s.data.toList) (a := a)
      obtain ⟨L, hL⟩ : ∃ L, L = nexts m s.data.toList (i, a) := ⟨_, rfl⟩
      rw [← hL] at ho HVAL hln2
      have HWO := Aside0.mk (show waysOf m s.data.toList (i, a) = L.foldl (addW (waysOf m s.data.toList)) 0 by rw [waysOf_eq hmay HV.out, HEB.out, ← hL]; rfl)
      clear hL
      obtain ⟨A5, c5, rfl⟩ : ∃ A5 c5, v = .slice A5 L.length c5 := by
        rcases ho.2 with ⟨h1, h2⟩ | ⟨g, cap, cur, h1, _⟩
        · exact ⟨none, 0, by rw [h1, h2]⟩
        · exact ⟨_, _, h1⟩
      obtain ⟨ln, hln⟩ : ∃ n, n = L.length := ⟨_, rfl⟩
      rw [← hln] at ho hln2 ⊢
      have HLN := Aside0.mk hln
      have HO := Aside0.mk ho
      have HBLT := Aside0.mk HST3.out.hp.lt
      have HST4 := Aside0.mk (HST3.out.below hb)
      have HG4 := Aside0.mk (grown_of_below (HB3.out.trans (hb.mono HB3.out.size)) (some b))
      have HPB4 := Aside0.mk (blk_below HPB3.out hb)
      clear ho hb hln
      go_wp2_with fail
      go_loopw [28, 7] (fun v28 v7 wr => ∃ k : Nat, k ≤ ln ∧ v28 = .int .i64 k ∧ v7 = .int .i64 (((L.take k).foldl (addW (waysOf m s.data.toList)) 0 : Nat) : Int) ∧ ∃ n' C', ST w0 A c m s wr fb b n' C' ∧ W4.grownBy wr (some b) ∧ ∀ q, mu m s.data.toList (i, a) ≤ mu m s.data.toList q → C' q = C q) (fun v _ _ => (ln - intOf v).toNat)
      case atStart => exact ⟨0, Nat.zero_le _, rfl, rfl, n, C, HST4.out, grown_of_below (Below.refl _ _) (some b), fun _ _ => rfl⟩
      case round =>
        obtain ⟨k, hk, rfl, rfl, n', C', hst', hg', hC'⟩ := hrel
        have HST5 := Aside0.mk hst'
        have HG5 := Aside0.mk hg'
        have HC5 := Aside0.mk hC'
        clear hst' hg' hC'
        have hpb5 : wr.heap[W.heap.size]? = some (.cells #[.int .i64 (i : Int), .int .i64 (a : Int)] 61 (0, 0)) := (HG5.out.block _ (blk_lt HPB4.out) (fun e => by have := HBW.out; injection e with e; omega)).trans HPB4.out
        by_cases hlt : k < ln
        · have hk2 : k < L.length := by rw [← HLN.out]; exact hlt
          have how := own_move HO.out (fun j hj => HG5.out.block j (own_lt HO.out j hj) (fun e => by have h1 := HBLT.out; have h2 := own_base HO.out j hj; injection e with e; omega))
          obtain ⟨ad, cap, hv_, x0, x1⟩ := own_get2 how HLN.out k hk2
          have hA5 : A5 = some ad := by injection hv_
          subst hA5
          have hfs := foldl_step (f := waysOf m s.data.toList) L k 0 hk2
          obtain ⟨hvq, hmq, hmq2⟩ := HVAL.out _ (List.getElem_mem hk2)
          obtain ⟨⟨qi, qa⟩, hq⟩ : ∃ q, q = L[k] := ⟨_, rfl⟩
          rw [← hq] at x0 x1 hfs hvq hmq
          dsimp only at x0 x1
          have hwq := waysOf_le hmay hvq
          obtain ⟨ac, hac⟩ : ∃ x, x = (L.take k).foldl (addW (waysOf m s.data.toList)) 0 := ⟨_, rfl⟩
          have hac1 : ac ≤ 1000 := by rw [hac]; exact foldl_addW_le _ _ (by omega)
          rw [← hac] at hfs ⊢
          have HFS := Aside0.mk hfs
          have hb6 := X.below_new1 wr (.cells #[.int .i64 (qi : Int), .int .i64 (qa : Int)] 61)
          have hqc := cells2 (blk_new wr (.cells #[.int .i64 (qi : Int), .int .i64 (qa : Int)] 61))
          have HIH := Aside0.mk (IH.out qi qa n' C' _ (by have := HMU.out; omega) hvq (HST5.out.below hb6))
          have HB6 := Aside0.mk hb6
          have HMQ := Aside0.mk hmq
          obtain ⟨wq, hwqd⟩ : ∃ x, x = waysOf m s.data.toList (qi, qa) := ⟨_, rfl⟩
          rw [← hwqd] at HIH hwq HFS
          clear hmq2
          clear hv_ hq hac hfs hb6 hmq hvq how hwqd hk2
          go_wp2_with fail
          refine HIH.out.mono ?_
          rintro e w7 ⟨rfl, n7, C7, hst7, hg7, hc7⟩
          have HST7 := Aside0.mk hst7
          have HG7 := Aside0.mk (HG5.out.trans ((grown_of_below HB6.out (some b)).trans hg7))
          have HC7 := Aside0.mk (fun q (hq : mu m s.data.toList (i, a) ≤ mu m s.data.toList q) => (hc7 q (Nat.lt_of_lt_of_le HMQ.out hq)).trans (HC5.out q hq))
          clear hst7 hg7 hc7 x0 x1 hqc hpb5
          go_wp2_with fail
          go_roundw
          case rel => exact ⟨k + 1, by omega, by go_num, by rw [HFS.out]; congr 1; omega, n7, C7, HST7.out, HG7.out, HC7.out⟩
          case measure => simp [intOf]; omega
        · have hkn : k = ln := by omega
          have HT := Aside0.mk (show L.take k = L from List.take_of_length_le (by have := HLN.out; omega))
          have hstd := HST5.out.below (below_drew (Below.refl wr.heap.size wr))
          obtain ⟨wz, hrun, hpz, hgz⟩ := pm_put hstd.hp (i, a) hokp (by have := hstd.hk.2; have := places_len m s.data.toList; have := HSL.out; have h2 : m.length * (s.data.toList.length + 1) ≤ 100000 * 1000000001 := Nat.mul_le_mul hmm (by omega); unfold maxLen; omega) (waysOf m s.data.toList (i, a))
          unfold encP at hrun
          dsimp only at hrun
          rw [HT.out, ← HWO.out]
          have hC0 : C' (i, a) = none := (HC5.out _ (Nat.le_refl _)).trans HCN.out
          have HSTZ := Aside0.mk (hstd.put hgz hpz (hstd.hk.put HV.out hC0))
          have HGZ := Aside0.mk (HG4.out.trans (HG5.out.trans ((grown_of_below (below_drew (Below.refl wr.heap.size wr)) (some b)).trans hgz)))
          have hfc := cells3 hstd.hf
          have hpc := cells2 (blk_drew hpb5)
          clear hpz hgz hC0 hstd hpb5
          go_wp2_with fail
          go_region
          go_wp2_with fail
          go_ret
          refine ⟨rfl, _, _, HSTZ.out, HGZ.out, fun q hq => ?_⟩
          rw [if_neg (fun e => by rw [e] at hq; exact Nat.lt_irrefl _ hq)]
          exact HC5.out q (Nat.le_of_lt hq)
end Go.Proofs.Ytecpjfipkejmoaa.PA
end
section
namespace Go.Proofs.Ytecpjfipkejmoaa.PA
set_option linter.unusedSimpArgs false
set_option linter.unusedVariables false
open Go.RowKit Go.Maps Go.Proofs.YtecpjfipkejmoaaW.PrintWords Go.Proofs.YtecpjfipkejmoaaW.PrintLast Go.Proofs.YtecpjfipkejmoaaW.PrintMore
attribute [local go_sem] max2_int min2_int max_two min_two
set_option maxHeartbeats 4000000 in
theorem of_any (A : Option Addr) (c : Nat) (m : List S49) (s : ByteArray) (w : World) (hr : Kd.C k49 w A m.length m) (hok : okM m) :
    Calls Try.prog 20 #[.slice A m.length c, .string s] w fun e W' => Below w.heap.size w W' ∧ ((mayB m = false ∧ e = .returned (.pointer none)) ∨ (mayB m = true ∧ ∃ fb b, e = .returned (.pointer (some ⟨fb, 0, none⟩)) ∧ ST w A c m s W' fb b 0 (fun _ => none))) := by
  have HM := Aside0.mk (may_any A c m w hr hok)
  clear hr
  have hmm := @run_makeMap Try.prog
  go_enter Try.func20, Try.ntmps20
  go_wp2_with fail
  refine HM.out.mono ?_
  rintro e w1 ⟨rfl, hb⟩
  have HB := Aside0.mk hb
  clear hb
  generalize heb : mayB m = eb
  have HEB := Aside0.mk heb
  clear heb
  cases eb with
  | false =>
    go_wp2_with fail
    go_ret
    exact ⟨HB.out, .inl ⟨HEB.out, rfl⟩⟩
  | true =>
    go_wp2_with fail
    go_ret
    refine ⟨HB.out.trans ((X.below_new2 w1 _ _).mono HB.out.size), .inr ⟨HEB.out, w1.heap.size + 1, w1.heap.size, rfl, ?_⟩⟩
    exact ⟨HB.out.trans ((X.below_new2 w1 _ _).mono HB.out.size), X.blk_new2 w1 _ _, (pm_made w1).alloc _, HB.out.size, by omega, KN.zero _ _⟩
theorem many_zero {w0 : World} {A : Option Addr} {c : Nat} {m : List S49} {s : ByteArray} (hr : Kd.C k49 w0 A m.length m) (hmay : mayB m = true) (hok : okM m) (hs : s.size ≤ 1000000000) (fb b n : Nat) (C : Nat × Nat → Option Nat) (W : World) (hst : ST w0 A c m s W fb b n C) :
    Calls Try.prog 21 #[.pointer (some ⟨fb, 0, none⟩), .agg #[.int .i64 0, .int .i64 0]] W fun e W' => e = .returned (.int .i64 (waysOf m s.data.toList (0, 0) : Nat)) ∧ ∃ n' C', ST w0 A c m s W' fb b n' C' ∧ W.grownBy W' (some b) := by
  have hl := (mayB_iff.1 hmay).1.1
  have h := many_any hr hmay hok hs fb b (mu m s.data.toList (0, 0)) 0 0 n C W (Nat.le_refl _) ⟨by show 0 < _; omega, Nat.zero_le _⟩ hst
  exact h.mono fun e W' ⟨h1, n', C', h2, h3, _⟩ => ⟨h1, n', C', h2, h3⟩
def manyF (m : List S49) (s : List UInt8) (limit : Int) : Int := if mayB m = true ∧ 1 ≤ limit then min limit (waysOf m s (0, 0) : Nat) else 0
set_option maxHeartbeats 4000000 in
theorem Many_any (A : Option Addr) (c : Nat) (m : List S49) (s : ByteArray) (limit : Int) (w : World) (hr : Kd.C k49 w A m.length m) (hok : okM m) (hs : s.size ≤ 1000000000) :
    Calls Try.prog 16 #[.slice A m.length c, .string s, .int .i64 limit] w fun e W' => e = .returned (.int .i64 (manyF m s.data.toList limit)) ∧ Below w.heap.size w W' := by
  have HO := Aside0.mk (of_any A c m s w hr hok)
  have HR := Aside0.mk hr
  clear hr
  go_enter Try.func16, Try.ntmps16
  go_wp2_with fail
  refine HO.out.mono ?_
  rintro e w1 ⟨hb, ⟨hm, rfl⟩ | ⟨hm, fb, b, rfl, hst⟩⟩
  · have HB := Aside0.mk hb
    have HE := Aside0.mk (show manyF m s.data.toList limit = 0 by unfold manyF; rw [if_neg (by rw [hm]; simp)])
    clear hb hm
    go_wp2_with fail
    go_ret
    exact ⟨by rw [HE.out]; rfl, HB.out⟩
  · have HB := Aside0.mk hb
    have HST := Aside0.mk hst
    have HM := Aside0.mk hm
    clear hb hst hm
    by_cases hl : limit < 1
    · have h1 : decide (limit < 1) = true := decide_eq_true hl
      have h2 : (limit < 1) = True := eq_true hl
      have HE := Aside0.mk (show manyF m s.data.toList limit = 0 by unfold manyF; rw [if_neg (by omega)])
      clear hl
      go_wp2_with fail
      go_ret
      exact ⟨by rw [HE.out]; rfl, HB.out⟩
    · have h1 : decide (limit < 1) = false := decide_eq_false hl
      have h2 : (limit < 1) = False := eq_false hl
      have HE := Aside0.mk (show manyF m s.data.toList limit = min limit (waysOf m s.data.toList (0, 0) : Nat) by unfold manyF; rw [if_pos ⟨HM.out, by omega⟩])
      clear hl
      go_wp2_with fail
      refine (many_zero HR.out HM.out hok hs fb b _ _ w1 HST.out).mono ?_
      rintro e w2 ⟨rfl, n', C', hst2, hg2⟩
      have HB2 := Aside0.mk (HB.out.grown hg2 HB.out.size (fun k e => by cases e; exact HST.out.hB))
      clear hst2 hg2
      generalize waysOf m s.data.toList (0, 0) = wq at HE ⊢
      go_wp2_with fail
      all_goals
        go_ret
        refine ⟨?_, HB2.out⟩
        rw [HE.out]
        show Ending.returned _ = Ending.returned _
        congr 2
        first | (simp <;> omega) | omega
end Go.Proofs.Ytecpjfipkejmoaa.PA
end
section
namespace Go.Proofs.Ytecpjfipkejmoaa.PA
set_option linter.unusedSimpArgs false
set_option linter.unusedVariables false
open Go.RowKit Go.Maps Go.Proofs.YtecpjfipkejmoaaW.PrintWords Go.Proofs.YtecpjfipkejmoaaW.PrintLast Go.Proofs.YtecpjfipkejmoaaW.PrintMore
def hcs (h : Int × Nat) : List Value := [.int .i64 h.1, .int .i64 (h.2 : Int)]
def hflat (l : List (Int × Nat)) : List Value := l.flatMap hcs
theorem hflat_snoc (l : List (Int × Nat)) (h : Int × Nat) : hflat (l ++ [h]) = hflat l ++ hcs h := by simp [hflat]
theorem hit_info : (Try.prog.info? 31).map (fun i => (i.zero, i.size, i.bytes)) = some (some (.agg #[.int .i64 0, .int .i64 0]), 2, 16) := by kernel_rfl
theorem grownBy_setAt (W : World) (b j : Nat) (v : Value) : W.grownBy (W.setCell ⟨b, j, none⟩ v) (some b) :=
  ⟨rfl, rfl, rfl, by simp [World.setCell], fun k _ hk => Below.heap_setCell _ _ _ k (fun e => hk (by rw [e]))⟩
theorem ST.other {w0 W W' : World} {A : Option Addr} {c : Nat} {m : List S49} {s : ByteArray} {fb b n : Nat} {C : Nat × Nat → Option Nat} (h : ST w0 A c m s W fb b n C) {row : Option Nat} (hg : W.grownBy W' row) (h1 : ∀ x, row = some x → w0.heap.size ≤ x ∧ x ≠ fb ∧ x ≠ b) : ST w0 A c m s W' fb b n C :=
  ⟨h.hb.grown hg h.hb.size (fun k e => (h1 k e).1), (hg.block _ (blk_lt h.hf) (fun e => (h1 _ e.symm).2.1 rfl)).trans h.hf, h.hp.grown hg (fun e => (h1 _ e.symm).2.2 rfl), h.hB, h.hn, h.hk⟩
theorem PM.obj {w : World} {b n : Nat} {C : Nat × Nat → Option Nat} (h : PM w b n C) : ∃ o : Obj, w.heap[b]? = some o ∧ o.isCells = false := by
  obtain ⟨D, ⟨es, cl, hb, _⟩, _⟩ := h
  exact ⟨_, hb, rfl⟩
theorem ST.row {w0 W W' : World} {A : Option Addr} {c : Nat} {m : List S49} {s : ByteArray} {fb b n : Nat} {C : Nat × Nat → Option Nat} (h : ST w0 A c m s W fb b n C) {base k : Nat} {e : TypeId} {sz : Nat} {v : Value} {xs : List Value} (ho : W.ownsRow base e sz v k xs) (hbs : w0.heap.size ≤ base) (he : e ≠ 76) (hg : W.grownBy W' v.ownBlock) : ST w0 A c m s W' fb b n C := by
  refine h.other hg fun x hx => ⟨Nat.le_trans hbs (own_base ho x hx), fun e1 => ?_, fun e1 => ?_⟩
  · obtain ⟨cells, hc⟩ := own_typed ho x hx
    rw [e1] at hc
    have := h.hf
    unfold FIN at this
    rw [hc] at this
    injection this with this
    injection this with _ h3 _
    exact he h3
  · obtain ⟨cells, hc⟩ := own_typed ho x hx
    obtain ⟨o, h2, h3⟩ := h.hp.obj
    rw [e1, h2] at hc
    cases hc
    cases h3
def wayF (m : List S49) (s : List UInt8) (k : Int) : List (Int × Nat) × Bool :=
  if mayB m = true ∧ 0 ≤ k ∧ k < (waysOf m s (0, 0) : Nat) then (wayOf m s (0, 0) k.toNat, true) else ([], false)
def muV (m : List S49) (s : List UInt8) (W : World) (v : Value) : Nat := match v with
  | .pointer (some a) => match W.cell? ⟨a.block, 0, none⟩, W.cell? ⟨a.block, 1, none⟩ with
    | some (.int _ i), some (.int _ j) => mu m s (i.toNat, j.toNat)
    | _, _ => 0
  | _ => 0
theorem muV_at {m : List S49} {s : List UInt8} {W : World} {pb i a : Nat} (h : W.heap[pb]? = some (.cells #[.int .i64 (i : Int), .int .i64 (a : Int)] 61 (0, 0))) : muV m s W (.pointer (some ⟨pb, 0, none⟩)) = mu m s (i, a) := by
  obtain ⟨h1, h2⟩ := cells2 h
  unfold muV
  dsimp only
  rw [h1, h2]
  rfl
theorem pick_drop {f : Nat × Nat → Nat} (L : List (Nat × Nat)) (j k : Nat) (h : j < L.length) : pick f (L.drop j) k = if k < f L[j] then some (L[j], k) else pick f (L.drop (j + 1)) (k - f L[j]) := by
  rw [List.drop_eq_getElem_cons h]
  rfl
theorem hits_mark {m : List S49} {i a : Nat} (h : i < m.length) : hitsAt m (i, a) = if m[i].f0 = 3 then [(m[i].f3, a)] else [] := by
  unfold hitsAt
  rw [show ((i, a) : Nat × Nat).1 = i from rfl, List.getElem?_eq_getElem h]
set_option maxHeartbeats 16000000 in
set_option maxRecDepth 100000 in
theorem Way_any (A : Option Addr) (c : Nat) (m : List S49) (s : ByteArray) (k0 : Int) (w : World) (hr : Kd.C k49 w A m.length m) (hok : okM m) (hs1 : s.size ≤ 1000000) :
    Calls Try.prog 10 #[.slice A m.length c, .string s, .int .i64 k0] w fun e W' => ∃ v, e = .returned (.tuple #[v, .bool (wayF m s.data.toList k0).2]) ∧ W'.ownsRow w.heap.size 31 2 v (wayF m s.data.toList k0).1.length (hflat (wayF m s.data.toList k0).1) ∧ Below w.heap.size w W' := by
  have hs : s.size ≤ 1000000000 := by omega
  have HO := Aside0.mk (of_any A c m s w hr hok)
  have HR := Aside0.mk hr
  have hsl : s.data.toList.length = s.size := Array.length_toList
  have HSL := Aside0.mk hsl
  clear hr hsl
  go_enter Try.func10, Try.ntmps10
  go_wp2_with fail
  refine HO.out.mono ?_
  rintro e w1 ⟨hb, ⟨hm, rfl⟩ | ⟨hm, fb, b, rfl, hst⟩⟩
  · have HB := Aside0.mk hb
    have HE := Aside0.mk (show wayF m s.data.toList k0 = ([], false) by unfold wayF; rw [if_neg (by rw [hm]; simp)])
    clear hb hm
    go_wp2_with fail
    go_ret2
    refine ⟨.slice none 0 0, by rw [HE.out]; rfl, by rw [HE.out]; exact World.ownsRow_nil _ _ _ _, HB.out⟩
  have HB := Aside0.mk hb
  have HST := Aside0.mk hst
  have HM := Aside0.mk hm
  clear hb hst
  by_cases hl : k0 < 0
  · have h2 : (k0 < 0) = True := eq_true hl
    have HE := Aside0.mk (show wayF m s.data.toList k0 = ([], false) by unfold wayF; rw [if_neg (by omega)])
    clear hl hm
    go_wp2_with fail
    go_ret2
    refine ⟨.slice none 0 0, by rw [HE.out]; rfl, by rw [HE.out]; exact World.ownsRow_nil _ _ _ _, HB.out⟩
  have h2 : (k0 < 0) = False := eq_false hl
  have hmm := (mayB_iff.1 hm).1.2
  have hml := (mayB_iff.1 hm).1.1
  obtain ⟨kn, rfl⟩ : ∃ kn : Nat, k0 = kn := ⟨k0.toNat, by omega⟩
  clear hl
  go_wp2_with fail
  refine (many_zero HR.out HM.out hok hs fb b _ _ w1 HST.out).mono ?_
  rintro e w2 ⟨rfl, n', C', hst2, hg2⟩
  have HB2 := Aside0.mk (HB.out.grown hg2 HB.out.size (fun k e => by cases e; exact HST.out.hB))
  have HST2 := Aside0.mk hst2
  clear hst2 hg2
  obtain ⟨wq, hwq⟩ : ∃ x, x = waysOf m s.data.toList (0, 0) := ⟨_, rfl⟩
  have HWQ := Aside0.mk hwq
  rw [← hwq]
  clear hwq
  by_cases hk : wq ≤ kn
  · have h3 : ((kn : Int) ≥ (wq : Int)) = True := eq_true (by omega)
    have h4 : ((wq : Int) ≤ (kn : Int)) = True := eq_true (by omega)
    have h5 : (wq ≤ kn) = True := eq_true hk
    have HE := Aside0.mk (show wayF m s.data.toList kn = ([], false) by unfold wayF; rw [if_neg (by have := HWQ.out; omega)])
    clear hk hm
    go_wp2_with fail
    go_ret2
    refine ⟨.slice none 0 0, by rw [HE.out]; rfl, by rw [HE.out]; exact World.ownsRow_nil _ _ _ _, HB2.out⟩
  have h3 : ((kn : Int) ≥ (wq : Int)) = False := eq_false (by omega)
  have h4 : ((wq : Int) ≤ (kn : Int)) = False := eq_false (by omega)
  have h5 : (wq ≤ kn) = False := eq_false hk
  have HE := Aside0.mk (show wayF m s.data.toList kn = (wayOf m s.data.toList (0, 0) kn, true) by unfold wayF; rw [if_pos ⟨hm, by have := HWQ.out; omega⟩]; rfl)
  have HKW := Aside0.mk (show kn < waysOf m s.data.toList (0, 0) by have := HWQ.out; omega)
  clear hk hm
  go_wp2_with fail
  clear h2 h3 h4 h5
  have hmu0 : mu m s.data.toList (0, 0) ≤ 1000000000000 := by
    have h := Nat.mul_le_mul (show s.data.toList.length - 0 ≤ 1000000 by have := HSL.out; omega) hmm
    unfold mu
    dsimp only
    omega
  have HMU0 := Aside0.mk hmu0
  clear hmu0
  obtain ⟨TOT, hTOT⟩ : ∃ x, x = wayOf m s.data.toList (0, 0) kn := ⟨_, rfl⟩
  have HTOT := Aside0.mk hTOT
  clear hTOT
  go_loopw [10, 9, 2] (fun v10 v9 v2 wr => ∃ (pb i a kk n : Nat) (C : Nat × Nat → Option Nat) (hh : List (Int × Nat)), v10 = .pointer (some ⟨pb, 0, none⟩) ∧ v2 = .int .i64 (kk : Int) ∧ wr.heap[pb]? = some (.cells #[.int .i64 (i : Int), .int .i64 (a : Int)] 61 (0, 0)) ∧ w.heap.size ≤ pb ∧ pb ≠ fb ∧ pb ≠ b ∧
    wr.ownsRow w.heap.size 31 2 v9 hh.length (hflat hh) ∧ ST w A c m s wr fb b n C ∧ validP m s.data.toList (i, a) ∧ kk < waysOf m s.data.toList (i, a) ∧ hh ++ wayOf m s.data.toList (i, a) kk = TOT ∧ hh.length + mu m s.data.toList (i, a) ≤ mu m s.data.toList (0, 0)) (fun v10 _ _ wr => muV m s.data.toList wr v10)
  case atStart =>
    have hst3 := HST2.out.below (below_alloc (Below.refl w2.heap.size w2) (.cells #[.int .i64 0, .int .i64 0] 61))
    refine ⟨w2.heap.size, 0, 0, kn, _, _, [], rfl, rfl, blk_new w2 _, HB2.out.size, ?_, ?_, World.ownsRow_nil _ _ _ _, hst3, ⟨by show 0 < _; omega, Nat.zero_le _⟩, HKW.out, HTOT.out.symm, by simp⟩
    · have := blk_lt HST2.out.hf; omega
    · have := HST2.out.hp.lt; omega
  case round =>
    obtain ⟨pb, i, a, kk, n, C, hh, rfl, rfl, hpb, hp1, hp2, hp3, ho, hst', hv, hkk, hway, hlen⟩ := hrel
    obtain ⟨wo, hwo⟩ : ∃ wo, wo = wr := ⟨_, rfl⟩
    subst hwo
    have HPB := Aside0.mk hpb
    have HO9 := Aside0.mk ho
    have HST3 := Aside0.mk hst'
    have HV := Aside0.mk hv
    have HKK := Aside0.mk hkk
    have HWAY := Aside0.mk hway
    have HLEN := Aside0.mk hlen
    have HMUV := Aside0.mk (muV_at (m := m) (s := s.data.toList) hpb)
    have hpc := cells2 hpb
    clear hpb ho hst' hv hkk hway hlen HST2 HB2 HST HB HO HKW
    go_wp2_with fail
    refine (ends_any wo fb i a (Kd.C_below HR.out HST3.out.hb) HST3.out.hf HV.out.1 hmm).mono ?_
    rintro e w4 ⟨rfl, hb⟩
    have HST4 := Aside0.mk (HST3.out.below hb)
    have HPB4 := Aside0.mk (blk_below HPB.out hb)
    have HO4 := Aside0.mk (own_below HO9.out hb)
    clear hb hpc
    generalize heb : endsB m s.data.toList (i, a) = eb
    have HEB := Aside0.mk heb
    clear heb
    cases eb with
    | true =>
      have HFIN := Aside0.mk (show hh = wayOf m s.data.toList (0, 0) kn by have h := HWAY.out; rw [wayOf_end HEB.out, List.append_nil] at h; rw [h, HTOT.out])
      go_wp2_with fail
      go_ret2
      refine ⟨u9, by rw [HE.out]; rfl, ?_, HST4.out.hb⟩
      rw [HE.out, ← HFIN.out]
      exact HO4.out
    | false =>
      obtain ⟨qs, js, hpick, hqm, hjs⟩ := pick_ways HM.out HV.out HEB.out HKK.out
      have hstep := wayOf_step HM.out HV.out HEB.out HKK.out hpick
      have hi : i < m.length := HV.out.1
      rw [hits_mark hi] at hstep
      obtain ⟨hvq, hmq, _⟩ := nexts_valid HM.out HV.out hqm
      have hln2 := next_len hi hok (s := s.data.toList) (a := a)
      obtain ⟨qsi, qsa⟩ := qs
      have hpc := cells2 HPB4.out
      obtain ⟨ad, A1, c1, A2, c2, hA, r0, r1, r2, r3, r4, _, _, _, _⟩ := at_T49 (Kd.C_below HR.out HST4.out.hb) (i : Int) (by omega) (by omega)
      rw [Int.toNat_natCast, rdn_at m i hi] at r0 r1 r2 r3 r4
      obtain ⟨x, hx⟩ : ∃ x, x = m[i] := ⟨_, rfl⟩
      rw [← hx] at r0 r1 r2 r3 r4 hstep
      have HPICK := Aside0.mk hpick
      have HJS := Aside0.mk hjs
      have HVQ := Aside0.mk hvq
      have HMQ := Aside0.mk hmq
      have HSTEP := Aside0.mk hstep
      have HLN2 := Aside0.mk hln2
      obtain ⟨nm, hnm⟩ : ∃ n, n = m.length := ⟨_, rfl⟩
      have hin : i < nm := by omega
      have HI := Aside0.mk hi
      subst hA
      have hcsn := cells5m (blk_new w4 (.cells #[.int .i64 x.f0, .slice A1 x.f1.length c1, .slice A2 x.f2.length c2, .int .i64 x.f3, .int .i64 x.f4] 49))
      have hbn := X.below_new1 w4 (.cells #[.int .i64 x.f0, .slice A1 x.f1.length c1, .slice A2 x.f2.length c2, .int .i64 x.f3, .int .i64 x.f4] 49)
      have hpcn := cells2 (blk_below HPB4.out hbn)
      have HST5 := Aside0.mk (HST4.out.below hbn)
      have HPB5 := Aside0.mk (blk_below HPB4.out hbn)
      have HO5 := Aside0.mk (own_below HO4.out hbn)
      clear hpick hqm hjs hstep hvq hmq hln2 hx hbn
      by_cases k3 : x.f0 = 3
      · have k3t : (x.f0 == 3) = true := beq_iff_eq.2 k3
        rw [if_pos k3] at HSTEP
        clear k3
        go_wp2_with (at_builtin; refine print_append_cells (w0 := w) w.heap.size rfl (.tmp 44) (.tmp 50) 25 31 (.agg #[.int .i64 0, .int .i64 0]) 2 16 rfl Try.underlying25 hit_info rfl (by decide) (by decide) u9 hh.length (hflat hh) [.int .i64 x.f3, .int .i64 (a : Int)] rfl (by rw [X.size_alloc1]; rfl) rfl (by simp [Value.oneCell']) HO5.out HST5.out.hb HST5.out.hb.size (by have h1 := HLEN.out; have h2 := HMU0.out; omega) ?_; intro v1 W6 q1 q2 q3 q4; have HO6 := Aside0.mk (show W6.ownsRow w.heap.size 31 2 v1 (hh ++ [(x.f3, a)]).length (hflat (hh ++ [(x.f3, a)])) by rw [hflat_snoc, List.length_append]; exact q1); have HST6 := Aside0.mk (HST5.out.row HO5.out (Nat.le_refl _) (by decide) q3); have HPB6 := Aside0.mk (blk_row HPB5.out HO5.out (by decide) q3); have hpc6 := cells2 HPB6.out; clear q1 q2 q3 q4)
        have HWY := Aside0.mk (show (hh ++ [(x.f3, a)]) ++ wayOf m s.data.toList (qsi, qsa) js = TOT by rw [List.append_assoc]; have h := HWAY.out; rw [HSTEP.out] at h; exact h)
        have HLX := Aside0.mk (show (hh ++ [(x.f3, a)]).length + mu m s.data.toList (qsi, qsa) ≤ mu m s.data.toList (0, 0) by rw [List.length_append]; have h1 := HLEN.out; have h2 := HMQ.out; simp only [List.length_cons, List.length_nil]; omega)
        obtain ⟨hx_, hhx⟩ : ∃ l, l = hh ++ [(x.f3, a)] := ⟨_, rfl⟩
        rw [← hhx] at HO6 HWY HLX
        clear hhx hpc6 r0 r1 r2 r3 r4 hcsn hpcn hpc
        refine (next_any W6 fb i a (Kd.C_below HR.out HST6.out.hb) HST6.out.hf HI.out HM.out hok (by have := HV.out.2; have := HSL.out; dsimp only at *; omega) hs).mono ?_
        rintro e w7 ⟨v, rfl, hon, hb⟩
        have HVAL := Aside0.mk (fun q (hq : q ∈ nexts m s.data.toList (i, a)) => nexts_valid HM.out HV.out hq)
        have hlnx := HLN2.out
        obtain ⟨L, hL⟩ : ∃ L, L = nexts m s.data.toList (i, a) := ⟨_, rfl⟩
        rw [← hL] at hon HVAL hlnx HPICK
        clear hL
        obtain ⟨A5, c5, rfl⟩ : ∃ A5 c5, v = .slice A5 L.length c5 := by
          rcases hon.2 with ⟨h1, h2⟩ | ⟨g, cap, cur, h1, _⟩
          · exact ⟨none, 0, by rw [h1, h2]⟩
          · exact ⟨_, _, h1⟩
        obtain ⟨ln, hln⟩ : ∃ n, n = L.length := ⟨_, rfl⟩
        rw [← hln] at hon hlnx ⊢
        have HLNL := Aside0.mk hln
        have HON := Aside0.mk hon
        have HBLT := Aside0.mk HST6.out.hp.lt
        have HST7 := Aside0.mk (HST6.out.below hb)
        have HPB7 := Aside0.mk (blk_below HPB6.out hb)
        have HO7 := Aside0.mk (own_below HO6.out hb)
        clear hon hb hln
        go_wp2_with fail
        go_loopw [56, 2] (fun v56 v2 wz => ∃ (j kz n' : Nat) (C' : Nat × Nat → Option Nat), j ≤ ln ∧ kz ≤ 1000 ∧ v56 = .int .i64 (j : Int) ∧ v2 = .int .i64 (kz : Int) ∧ pick (waysOf m s.data.toList) (L.drop j) kz = some ((qsi, qsa), js) ∧ ST w (some ad) c m s wz fb b n' C' ∧ w7.grownBy wz (some b)) (fun v _ _ => (ln - intOf v).toNat)
        case atStart => exact ⟨0, kk, n, C, Nat.zero_le _, by have h1 := HKK.out; have h2 := waysOf_le HM.out HV.out; omega, rfl, rfl, HPICK.out, HST7.out, World.grownBy.refl _ _⟩
        case round =>
          obtain ⟨j, kz, n', C', hj, hkz, rfl, rfl, hpk, hst8, hg8⟩ := hrel
          have HST8 := Aside0.mk hst8
          have HG8 := Aside0.mk hg8
          have HPK := Aside0.mk hpk
          clear hst8 hg8 hpk
          by_cases hlt : j < ln
          · have hj2 : j < L.length := by rw [← HLNL.out]; exact hlt
            have how := own_move HON.out (fun x hx => HG8.out.block x (own_lt HON.out x hx) (fun e => by have h1 := HBLT.out; have h2 := own_base HON.out x hx; injection e with e; omega))
            obtain ⟨ad5, cap5, hv_, y0, y1⟩ := own_get2 how HLNL.out j hj2
            have hA5 : A5 = some ad5 := by injection hv_
            subst hA5
            have hpd := HPK.out
            rw [pick_drop L j kz hj2] at hpd
            obtain ⟨hvq2, hmq2, hmq3⟩ := HVAL.out _ (List.getElem_mem hj2)
            obtain ⟨⟨qi, qa⟩, hq⟩ : ∃ q, q = L[j] := ⟨_, rfl⟩
            rw [← hq] at y0 y1 hpd hvq2
            dsimp only at y0 y1
            have hb8 := X.below_new1 wr (.cells #[.int .i64 (qi : Int), .int .i64 (qa : Int)] 61)
            have hqb := blk_new wr (.cells #[.int .i64 (qi : Int), .int .i64 (qa : Int)] 61)
            have hqc := cells2 hqb
            have HIH := Aside0.mk (many_any HR.out HM.out hok hs fb b _ qi qa n' C' _ (Nat.le_refl _) hvq2 (HST8.out.below hb8))
            have HB8 := Aside0.mk hb8
            have HQB := Aside0.mk hqb
            have HB9 := Aside0.mk (show b < wr.heap.size from HST8.out.hp.lt)
            have hwv := waysOf_le HM.out hvq2
            obtain ⟨wv, hwvd⟩ : ∃ x, x = waysOf m s.data.toList (qi, qa) := ⟨_, rfl⟩
            rw [← hwvd] at HIH hpd hwv
            have HPD := Aside0.mk hpd
            clear hmq2 hmq3 hv_ hq hb8 hvq2 how hwvd hj2 hqb hpd
            go_wp2_with fail
            refine HIH.out.mono ?_
            rintro e w9 ⟨rfl, n9, C9, hst9, hg9, _⟩
            have HST9 := Aside0.mk hst9
            have HQB9 := Aside0.mk ((hg9.block _ (blk_lt HQB.out) (fun e => by have h1 := HB9.out; injection e with e; omega)).trans HQB.out)
            have HG9 := Aside0.mk (HG8.out.trans ((grown_of_below HB8.out (some b)).trans hg9))
            clear hst9 hg9 y0 y1 hqc
            by_cases hkw : kz < wv
            · have k1 : ((kz : Int) < (wv : Int)) = True := eq_true (by omega)
              have k2 : (kz < wv) = True := eq_true hkw
              rw [if_pos hkw] at HPD
              obtain ⟨⟨rfl, rfl⟩, rfl⟩ : (qi = qsi ∧ qa = qsa) ∧ kz = js := by simpa using HPD.out
              have HPB9 := Aside0.mk ((HG9.out.block _ (blk_lt HPB7.out) (fun e => hp3 (by injection e))).trans HPB7.out)
              have hqc9 := cells2 HQB9.out
              have hpc9 := cells2 HPB9.out
              have hfz0 := blk_frozen HPB9.out 0
              have hfz1 := blk_frozen HPB9.out 1
              obtain ⟨o7, ho7, ho7c⟩ := HST7.out.hp.obj
              have ho9 := own_other HO7.out ho7 (fun cells e => by rw [e] at ho7c; cases ho7c) HG9.out
              have hg10 := (grownBy_setAt w9 pb 0 (.int .i64 (qi : Int))).trans (grownBy_setAt (w9.setCell ⟨pb, 0, none⟩ (.int .i64 (qi : Int))) pb 1 (.int .i64 (qa : Int)))
              have hst10 := HST9.out.other hg10 (fun x e => by cases e; exact ⟨hp1, hp2, hp3⟩)
              have ho10 := own_other ho9 HPB9.out (fun cells e => by injection e with _ e _; exact absurd e (by decide)) hg10
              have hsz10 : ((w9.setCell ⟨pb, 0, none⟩ (.int .i64 (qi : Int))).setCell ⟨pb, 1, none⟩ (.int .i64 (qa : Int))).heap.size = w9.heap.size := by simp [World.setCell]
              have hb11 := X.below_new1 ((w9.setCell ⟨pb, 0, none⟩ (.int .i64 (qi : Int))).setCell ⟨pb, 1, none⟩ (.int .i64 (qa : Int))) (.cells #[.int .i64 (qi : Int), .int .i64 (qa : Int)] 61)
              have hbk := blk_new ((w9.setCell ⟨pb, 0, none⟩ (.int .i64 (qi : Int))).setCell ⟨pb, 1, none⟩ (.int .i64 (qa : Int))) (.cells #[.int .i64 (qi : Int), .int .i64 (qa : Int)] 61)
              rw [hsz10] at hbk
              have HST11 := Aside0.mk (hst10.below hb11)
              have HO11 := Aside0.mk (own_below ho10 hb11)
              have HBK := Aside0.mk hbk
              have HMV := Aside0.mk (muV_at (m := m) (s := s.data.toList) hbk)
              clear ho7 ho7c ho9 hg10 hst10 ho10 hsz10 hb11 hbk
              go_wp2_with fail
              go_roundw
              case rel => exact ⟨w9.heap.size, qi, qa, kz, n9, C9, hx_, rfl, rfl, HBK.out, HST9.out.hb.size, by have := blk_lt HST9.out.hf; omega, by have := HST9.out.hp.lt; omega, HO11.out, HST11.out, HVQ.out, HJS.out, HWY.out, HLX.out⟩
              case measure => rw [HMV.out, HMUV.out]; exact HMQ.out
            · have k1 : ((kz : Int) < (wv : Int)) = False := eq_false (by omega)
              have k2 : (kz < wv) = False := eq_false hkw
              rw [if_neg hkw] at HPD
              go_wp2_with fail
              go_roundw
              case rel => exact ⟨j + 1, kz - wv, n9, C9, by omega, by omega, by go_num, by first | go_num | (congr 1; omega) | (unfold wrap64; congr 1; omega), HPD.out, HST9.out, HG9.out⟩
              case measure => simp [intOf]; omega
          · have h := HPK.out
            rw [List.drop_eq_nil_of_le (by have := HLNL.out; omega)] at h
            cases h
      · have k3f : (x.f0 == 3) = false := beq_eq_false_iff_ne.2 k3
        rw [if_neg k3] at HSTEP
        clear k3
        have HST6 := HST5
        have HPB6 := HPB5
        have HO6 := HO5
        go_wp2_with fail
        generalize w4.alloc (.cells #[.int .i64 x.f0, .slice A1 x.f1.length c1, .slice A2 x.f2.length c2, .int .i64 x.f3, .int .i64 x.f4] 49) = W6 at HST6 HPB6 HO6 ⊢
        have HWY := Aside0.mk (show hh ++ wayOf m s.data.toList (qsi, qsa) js = TOT by have h := HWAY.out; rw [HSTEP.out] at h; exact h)
        have HLX := Aside0.mk (show hh.length + mu m s.data.toList (qsi, qsa) ≤ mu m s.data.toList (0, 0) by have h1 := HLEN.out; have h2 := HMQ.out; omega)
        obtain ⟨hx_, hhx⟩ : ∃ l, l = hh := ⟨_, rfl⟩
        rw [← hhx] at HO6 HWY HLX
        clear hhx r0 r1 r2 r3 r4 hcsn hpcn hpc
        refine (next_any W6 fb i a (Kd.C_below HR.out HST6.out.hb) HST6.out.hf HI.out HM.out hok (by have := HV.out.2; have := HSL.out; dsimp only at *; omega) hs).mono ?_
        rintro e w7 ⟨v, rfl, hon, hb⟩
        have HVAL := Aside0.mk (fun q (hq : q ∈ nexts m s.data.toList (i, a)) => nexts_valid HM.out HV.out hq)
        have hlnx := HLN2.out
        obtain ⟨L, hL⟩ : ∃ L, L = nexts m s.data.toList (i, a) := ⟨_, rfl⟩
        rw [← hL] at hon HVAL hlnx HPICK
        clear hL
        obtain ⟨A5, c5, rfl⟩ : ∃ A5 c5, v = .slice A5 L.length c5 := by
          rcases hon.2 with ⟨h1, h2⟩ | ⟨g, cap, cur, h1, _⟩
          · exact ⟨none, 0, by rw [h1, h2]⟩
          · exact ⟨_, _, h1⟩
        obtain ⟨ln, hln⟩ : ∃ n, n = L.length := ⟨_, rfl⟩
        rw [← hln] at hon hlnx ⊢
        have HLNL := Aside0.mk hln
        have HON := Aside0.mk hon
        have HBLT := Aside0.mk HST6.out.hp.lt
        have HST7 := Aside0.mk (HST6.out.below hb)
        have HPB7 := Aside0.mk (blk_below HPB6.out hb)
        have HO7 := Aside0.mk (own_below HO6.out hb)
        clear hon hb hln
        go_wp2_with fail
        go_loopw [56, 2] (fun v56 v2 wz => ∃ (j kz n' : Nat) (C' : Nat × Nat → Option Nat), j ≤ ln ∧ kz ≤ 1000 ∧ v56 = .int .i64 (j : Int) ∧ v2 = .int .i64 (kz : Int) ∧ pick (waysOf m s.data.toList) (L.drop j) kz = some ((qsi, qsa), js) ∧ ST w (some ad) c m s wz fb b n' C' ∧ w7.grownBy wz (some b)) (fun v _ _ => (ln - intOf v).toNat)
        case atStart => exact ⟨0, kk, n, C, Nat.zero_le _, by have h1 := HKK.out; have h2 := waysOf_le HM.out HV.out; omega, rfl, rfl, HPICK.out, HST7.out, World.grownBy.refl _ _⟩
        case round =>
          obtain ⟨j, kz, n', C', hj, hkz, rfl, rfl, hpk, hst8, hg8⟩ := hrel
          have HST8 := Aside0.mk hst8
          have HG8 := Aside0.mk hg8
          have HPK := Aside0.mk hpk
          clear hst8 hg8 hpk
          by_cases hlt : j < ln
          · have hj2 : j < L.length := by rw [← HLNL.out]; exact hlt
            have how := own_move HON.out (fun x hx => HG8.out.block x (own_lt HON.out x hx) (fun e => by have h1 := HBLT.out; have h2 := own_base HON.out x hx; injection e with e; omega))
            obtain ⟨ad5, cap5, hv_, y0, y1⟩ := own_get2 how HLNL.out j hj2
            have hA5 : A5 = some ad5 := by injection hv_
            subst hA5
            have hpd := HPK.out
            rw [pick_drop L j kz hj2] at hpd
            obtain ⟨hvq2, hmq2, hmq3⟩ := HVAL.out _ (List.getElem_mem hj2)
            obtain ⟨⟨qi, qa⟩, hq⟩ : ∃ q, q = L[j] := ⟨_, rfl⟩
            rw [← hq] at y0 y1 hpd hvq2
            dsimp only at y0 y1
            have hb8 := X.below_new1 wr (.cells #[.int .i64 (qi : Int), .int .i64 (qa : Int)] 61)
            have hqb := blk_new wr (.cells #[.int .i64 (qi : Int), .int .i64 (qa : Int)] 61)
            have hqc := cells2 hqb
            have HIH := Aside0.mk (many_any HR.out HM.out hok hs fb b _ qi qa n' C' _ (Nat.le_refl _) hvq2 (HST8.out.below hb8))
            have HB8 := Aside0.mk hb8
            have HQB := Aside0.mk hqb
            have HB9 := Aside0.mk (show b < wr.heap.size from HST8.out.hp.lt)
            have hwv := waysOf_le HM.out hvq2
            obtain ⟨wv, hwvd⟩ : ∃ x, x = waysOf m s.data.toList (qi, qa) := ⟨_, rfl⟩
            rw [← hwvd] at HIH hpd hwv
            have HPD := Aside0.mk hpd
            clear hmq2 hmq3 hv_ hq hb8 hvq2 how hwvd hj2 hqb hpd
            go_wp2_with fail
            refine HIH.out.mono ?_
            rintro e w9 ⟨rfl, n9, C9, hst9, hg9, _⟩
            have HST9 := Aside0.mk hst9
            have HQB9 := Aside0.mk ((hg9.block _ (blk_lt HQB.out) (fun e => by have h1 := HB9.out; injection e with e; omega)).trans HQB.out)
            have HG9 := Aside0.mk (HG8.out.trans ((grown_of_below HB8.out (some b)).trans hg9))
            clear hst9 hg9 y0 y1 hqc
            by_cases hkw : kz < wv
            · have k1 : ((kz : Int) < (wv : Int)) = True := eq_true (by omega)
              have k2 : (kz < wv) = True := eq_true hkw
              rw [if_pos hkw] at HPD
              obtain ⟨⟨rfl, rfl⟩, rfl⟩ : (qi = qsi ∧ qa = qsa) ∧ kz = js := by simpa using HPD.out
              have HPB9 := Aside0.mk ((HG9.out.block _ (blk_lt HPB7.out) (fun e => hp3 (by injection e))).trans HPB7.out)
              have hqc9 := cells2 HQB9.out
              have hpc9 := cells2 HPB9.out
              have hfz0 := blk_frozen HPB9.out 0
              have hfz1 := blk_frozen HPB9.out 1
              obtain ⟨o7, ho7, ho7c⟩ := HST7.out.hp.obj
              have ho9 := own_other HO7.out ho7 (fun cells e => by rw [e] at ho7c; cases ho7c) HG9.out
              have hg10 := (grownBy_setAt w9 pb 0 (.int .i64 (qi : Int))).trans (grownBy_setAt (w9.setCell ⟨pb, 0, none⟩ (.int .i64 (qi : Int))) pb 1 (.int .i64 (qa : Int)))
              have hst10 := HST9.out.other hg10 (fun x e => by cases e; exact ⟨hp1, hp2, hp3⟩)
              have ho10 := own_other ho9 HPB9.out (fun cells e => by injection e with _ e _; exact absurd e (by decide)) hg10
              have hsz10 : ((w9.setCell ⟨pb, 0, none⟩ (.int .i64 (qi : Int))).setCell ⟨pb, 1, none⟩ (.int .i64 (qa : Int))).heap.size = w9.heap.size := by simp [World.setCell]
              have hb11 := X.below_new1 ((w9.setCell ⟨pb, 0, none⟩ (.int .i64 (qi : Int))).setCell ⟨pb, 1, none⟩ (.int .i64 (qa : Int))) (.cells #[.int .i64 (qi : Int), .int .i64 (qa : Int)] 61)
              have hbk := blk_new ((w9.setCell ⟨pb, 0, none⟩ (.int .i64 (qi : Int))).setCell ⟨pb, 1, none⟩ (.int .i64 (qa : Int))) (.cells #[.int .i64 (qi : Int), .int .i64 (qa : Int)] 61)
              rw [hsz10] at hbk
              have HST11 := Aside0.mk (hst10.below hb11)
              have HO11 := Aside0.mk (own_below ho10 hb11)
              have HBK := Aside0.mk hbk
              have HMV := Aside0.mk (muV_at (m := m) (s := s.data.toList) hbk)
              clear ho7 ho7c ho9 hg10 hst10 ho10 hsz10 hb11 hbk
              go_wp2_with fail
              go_roundw
              case rel => exact ⟨w9.heap.size, qi, qa, kz, n9, C9, hx_, rfl, rfl, HBK.out, HST9.out.hb.size, by have := blk_lt HST9.out.hf; omega, by have := HST9.out.hp.lt; omega, HO11.out, HST11.out, HVQ.out, HJS.out, HWY.out, HLX.out⟩
              case measure => rw [HMV.out, HMUV.out]; exact HMQ.out
            · have k1 : ((kz : Int) < (wv : Int)) = False := eq_false (by omega)
              have k2 : (kz < wv) = False := eq_false hkw
              rw [if_neg hkw] at HPD
              go_wp2_with fail
              go_roundw
              case rel => exact ⟨j + 1, kz - wv, n9, C9, by omega, by omega, by go_num, by first | go_num | (congr 1; omega) | (unfold wrap64; congr 1; omega), HPD.out, HST9.out, HG9.out⟩
              case measure => simp [intOf]; omega
          · have h := HPK.out
            rw [List.drop_eq_nil_of_le (by have := HLNL.out; omega)] at h
            cases h
end Go.Proofs.Ytecpjfipkejmoaa.PA
end
section
namespace Go.Proofs.Ytecpjfipkejmoaa.PA
set_option linter.unusedSimpArgs false
set_option linter.unusedVariables false
open Go.RowKit Go.Maps Go.Proofs.YtecpjfipkejmoaaW.PrintWords Go.Proofs.YtecpjfipkejmoaaW.PrintLast Go.Proofs.YtecpjfipkejmoaaW.PrintMore
theorem First_any (A : Option Addr) (c : Nat) (m : List S49) (s : ByteArray) (w : World) (hr : Kd.C k49 w A m.length m) (hok : okM m) (hs : s.size ≤ 1000000) :
    Calls Try.prog 13 #[.slice A m.length c, .string s] w fun e W' => ∃ v, e = .returned (.tuple #[v, .bool (wayF m s.data.toList 0).2]) ∧ W'.ownsRow w.heap.size 31 2 v (wayF m s.data.toList 0).1.length (hflat (wayF m s.data.toList 0).1) ∧ Below w.heap.size w W' := by
  have HW := Aside0.mk (Way_any A c m s 0 w hr hok hs)
  clear hr
  generalize wayF m s.data.toList 0 = p at HW ⊢
  go_enter Try.func13, Try.ntmps13
  go_wp2_with fail
  refine HW.out.mono ?_
  rintro e w1 ⟨v, rfl, ho, hb⟩
  have HO := Aside0.mk ho
  have HB := Aside0.mk hb
  clear ho hb
  go_wp2_with fail
  go_ret2
  exact ⟨v, rfl, HO.out, HB.out⟩
theorem hits_slice {w : World} {b : Nat} {v : Value} {l : List (Int × Nat)} (h : w.ownsRow b 31 2 v l.length (hflat l)) : ∃ A c, v = .slice A l.length c := by
  rcases h.2 with ⟨h1, h2⟩ | ⟨g, cap, cur, h1, _⟩
  · exact ⟨none, 0, by rw [h1, h2]⟩
  · exact ⟨_, _, h1⟩
def m3 : List S49 := [⟨2, [], [2, 1], 0, 0⟩, ⟨3, [], [], 7, 2⟩, ⟨4, [], [], 0, 0⟩]
theorem m3_ok : okM m3 := by
  intro n hn
  simp only [m3, List.mem_cons, List.not_mem_nil, or_false] at hn
  rcases hn with rfl | rfl | rfl <;> simp
theorem w0_ : wayF m3 [] 0 = ([], true) := by decide +kernel
theorem w1_ : wayF m3 [] 1 = ([(7, 0)], true) := by decide +kernel
theorem w2_ : wayF m3 [] 2 = ([], false) := by decide +kernel
theorem w3_ : manyF m3 [] 9 = 2 := by decide +kernel
theorem m3_row (w : World) : Kd.C k49 ((w.alloc (.cells #[.int .i64 2, .int .i64 1] 3)).alloc (.cells #[.int .i64 2, .slice none 0 0, .slice (some ⟨w.heap.size, 0, none⟩) 2 2, .int .i64 0, .int .i64 0, .int .i64 3, .slice none 0 0, .slice none 0 0, .int .i64 7, .int .i64 2, .int .i64 4, .slice none 0 0, .slice none 0 0, .int .i64 0, .int .i64 0] 49)) (some ⟨w.heap.size + 1, 0, none⟩) 3 m3 := by
  have h1 := World.ownsRow_lit (base := w.heap.size) (e := 3) (size := 1) w #[.int .i64 2, .int .i64 1] 2 (Nat.le_refl _) (by simp [maxLen]) (by simp)
  obtain ⟨A, c, hv, hl, hc⟩ := ints_row (l := [2, 1]) (by simpa using h1)
  injection hv with hv1 hv2 hv3
  subst hv1
  subst hv3
  have hc2 := Kd.C_alloc hc (.cells #[.int .i64 2, .slice none 0 0, .slice (some ⟨w.heap.size, 0, none⟩) 2 2, .int .i64 0, .int .i64 0, .int .i64 3, .slice none 0 0, .slice none 0 0, .int .i64 7, .int .i64 2, .int .i64 4, .slice none 0 0, .slice none 0 0, .int .i64 0, .int .i64 0] 49)
  have h2 := World.ownsRow_lit (base := w.heap.size) (e := 49) (size := 5) (w.alloc (.cells #[.int .i64 2, .int .i64 1] 3)) #[.int .i64 2, .slice none 0 0, .slice (some ⟨w.heap.size, 0, none⟩) 2 2, .int .i64 0, .int .i64 0, .int .i64 3, .slice none 0 0, .slice none 0 0, .int .i64 7, .int .i64 2, .int .i64 4, .slice none 0 0, .slice none 0 0, .int .i64 0, .int .i64 0] 3 (by simp) (by simp [maxLen]) (by simp)
  have k1 := k49_mk ((w.alloc (.cells #[.int .i64 2, .int .i64 1] 3)).alloc (.cells #[.int .i64 2, .slice none 0 0, .slice (some ⟨w.heap.size, 0, none⟩) 2 2, .int .i64 0, .int .i64 0, .int .i64 3, .slice none 0 0, .slice none 0 0, .int .i64 7, .int .i64 2, .int .i64 4, .slice none 0 0, .slice none 0 0, .int .i64 0, .int .i64 0] 49)) ⟨2, [], [2, 1], 0, 0⟩ (A1 := none) (c1 := 0) (Nat.le_refl _) (X.C_nil _ _) (A2 := some ⟨w.heap.size, 0, none⟩) (c2 := 2) (Nat.le_refl _) hc2
  have k2 := k49_mk ((w.alloc (.cells #[.int .i64 2, .int .i64 1] 3)).alloc (.cells #[.int .i64 2, .slice none 0 0, .slice (some ⟨w.heap.size, 0, none⟩) 2 2, .int .i64 0, .int .i64 0, .int .i64 3, .slice none 0 0, .slice none 0 0, .int .i64 7, .int .i64 2, .int .i64 4, .slice none 0 0, .slice none 0 0, .int .i64 0, .int .i64 0] 49)) ⟨3, [], [], 7, 2⟩ (A1 := none) (c1 := 0) (Nat.le_refl _) (X.C_nil _ _) (A2 := none) (c2 := 0) (Nat.le_refl _) (X.C_nil _ _)
  have k3 := k49_mk ((w.alloc (.cells #[.int .i64 2, .int .i64 1] 3)).alloc (.cells #[.int .i64 2, .slice none 0 0, .slice (some ⟨w.heap.size, 0, none⟩) 2 2, .int .i64 0, .int .i64 0, .int .i64 3, .slice none 0 0, .slice none 0 0, .int .i64 7, .int .i64 2, .int .i64 4, .slice none 0 0, .slice none 0 0, .int .i64 0, .int .i64 0] 49)) ⟨4, [], [], 0, 0⟩ (A1 := none) (c1 := 0) (Nat.le_refl _) (X.C_nil _ _) (A2 := none) (c2 := 0) (Nat.le_refl _) (X.C_nil _ _)
  have hr := ((((Reps.none (k49.K ((w.alloc (.cells #[.int .i64 2, .int .i64 1] 3)).alloc (.cells #[.int .i64 2, .slice none 0 0, .slice (some ⟨w.heap.size, 0, none⟩) 2 2, .int .i64 0, .int .i64 0, .int .i64 3, .slice none 0 0, .slice none 0 0, .int .i64 7, .int .i64 2, .int .i64 4, .slice none 0 0, .slice none 0 0, .int .i64 0, .int .i64 0] 49))) 5).snoc k1 rfl).snoc k2 rfl).snoc k3 rfl)
  obtain ⟨A, c, hv, hl, hC⟩ := nodes_row (l := m3) h2 rfl (by simpa [m3] using hr)
  injection hv with hv1 _ hv3
  rw [← hv1] at hC
  rw [X.size_alloc1] at hC
  exact hC
set_option maxHeartbeats 8000000 in
set_option maxRecDepth 100000 in
theorem awake_walk (w : World) : Calls Try.prog 8 #[] w fun e W' => e = .returned (.bool true) ∧ Below w.heap.size w W' := by
  have hC := m3_row w
  have HB := Aside0.mk (X.below_new2 w (.cells #[.int .i64 2, .int .i64 1] 3) (.cells #[.int .i64 2, .slice none 0 0, .slice (some ⟨w.heap.size, 0, none⟩) 2 2, .int .i64 0, .int .i64 0, .int .i64 3, .slice none 0 0, .slice none 0 0, .int .i64 7, .int .i64 2, .int .i64 4, .slice none 0 0, .slice none 0 0, .int .i64 0, .int .i64 0] 49))
  have HC := Aside0.mk hC
  clear hC
  go_enter Try.func8, Try.ntmps8
  go_wp2_with fail
  generalize ((w.alloc (.cells #[.int .i64 2, .int .i64 1] 3)).alloc (.cells #[.int .i64 2, .slice none 0 0, .slice (some ⟨w.heap.size, 0, none⟩) 2 2, .int .i64 0, .int .i64 0, .int .i64 3, .slice none 0 0, .slice none 0 0, .int .i64 7, .int .i64 2, .int .i64 4, .slice none 0 0, .slice none 0 0, .int .i64 0, .int .i64 0] 49)) = W at HC HB ⊢
  have h0 := fun (W' : World) (hb : Below W.heap.size W W') => Way_any (some ⟨w.heap.size + 1, 0, none⟩) 3 m3 ⟨#[]⟩ 0 W' (Kd.C_below HC.out hb) m3_ok (by decide)
  have h1 := fun (W' : World) (hb : Below W.heap.size W W') => Way_any (some ⟨w.heap.size + 1, 0, none⟩) 3 m3 ⟨#[]⟩ 1 W' (Kd.C_below HC.out hb) m3_ok (by decide)
  have h2 := fun (W' : World) (hb : Below W.heap.size W W') => Way_any (some ⟨w.heap.size + 1, 0, none⟩) 3 m3 ⟨#[]⟩ 2 W' (Kd.C_below HC.out hb) m3_ok (by decide)
  have h3 := fun (W' : World) (hb : Below W.heap.size W W') => Many_any (some ⟨w.heap.size + 1, 0, none⟩) 3 m3 ⟨#[]⟩ 9 W' (Kd.C_below HC.out hb) m3_ok (by decide)
  simp only [show (⟨#[]⟩ : ByteArray).data.toList = [] from rfl, w0_, w1_, w2_, w3_, show m3.length = 3 from rfl] at h0 h1 h2 h3
  have H0 := Aside0.mk h0
  have H1 := Aside0.mk h1
  have H2 := Aside0.mk h2
  have H3 := Aside0.mk h3
  clear h0 h1 h2 h3
  refine (H0.out W (Below.refl _ _)).mono ?_
  rintro e x1 ⟨v1, rfl, ho1, hb1⟩
  obtain ⟨B1, d1, rfl⟩ := hits_slice ho1
  have X1 := Aside0.mk hb1
  clear ho1 hb1
  go_wp2_with fail
  refine (H1.out x1 X1.out).mono ?_
  rintro e x2 ⟨v2, rfl, ho2, hb2⟩
  have X2 := Aside0.mk (X1.out.trans (hb2.mono X1.out.size))
  rcases ho2.2 with ⟨_, h⟩ | ⟨g, cap, cur, rfl, hg, hgb, _, _, _, htk⟩
  · cases h
  have HGB := Aside0.mk hgb
  have HTK := Aside0.mk htk
  clear ho2 hb2 hgb htk hg
  go_wp2_with fail
  refine (H2.out x2 X2.out).mono ?_
  rintro e x3 ⟨v3, rfl, ho3, hb3⟩
  obtain ⟨B3, d3, rfl⟩ := hits_slice ho3
  have X3 := Aside0.mk (X2.out.trans (hb3.mono X2.out.size))
  have HGB3 := Aside0.mk (blk_below HGB.out hb3)
  clear ho3 hb3
  go_wp2_with fail
  refine (H3.out x3 X3.out).mono ?_
  rintro e x4 ⟨rfl, hb4⟩
  have X4 := Aside0.mk (X3.out.trans (hb4.mono X3.out.size))
  have hgb := blk_below HGB3.out hb4
  have y0 : x4.cell? ⟨g, 0, none⟩ = some (.int .i64 7) := by
    rw [blk_cell hgb, ← Array.getElem?_toList, ← List.getElem?_take_of_lt (show 0 < 1 * 2 by decide), show List.take (1 * 2) cur.toList = _ from HTK.out]; rfl
  have y1 : x4.cell? ⟨g, 1, none⟩ = some (.int .i64 0) := by
    rw [blk_cell hgb, ← Array.getElem?_toList, ← List.getElem?_take_of_lt (show 1 < 1 * 2 by decide), show List.take (1 * 2) cur.toList = _ from HTK.out]; rfl
  clear hgb hb4
  go_wp2_with fail
  go_ret
  exact ⟨rfl, HB.out.trans (X4.out.mono HB.out.size)⟩
end Go.Proofs.Ytecpjfipkejmoaa.PA
end
