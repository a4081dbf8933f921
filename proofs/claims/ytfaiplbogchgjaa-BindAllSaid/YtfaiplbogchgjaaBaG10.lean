/- Texts of this claim, those that nothing needs left out: Xyg. -/
import Derived.Test.YtfaiplbogchgjaaBaG9
import Derived.Test.YtfaiplbogchgjaaBaG4
import Derived.Lib.SliceRun
import Derived.Test.YtfaiplbogchgjaaBaG0
section
namespace Go.Proofs.Ytfaiplbogchgjaa.X
set_option linter.unusedSimpArgs false
set_option linter.unusedVariables false
open Go.RowKit Go.Shelf Go.Maps Go.Proofs.YtfaiplbogchgjaaW.PrintWords Go.Proofs.YtfaiplbogchgjaaW.PrintLast Go.Proofs.YtfaiplbogchgjaaW.PrintMore
attribute [local go_sem] Oper.semAt_some
theorem cloneS_info : (Try.prog.info? 9).map (fun i => (i.zero, i.size, i.bytes)) = some (some (.string ⟨#[]⟩), 1, 16) := by kernel_rfl
theorem cloneS_any (A0 : Option Addr) (c0 : Nat) (l0 : List ByteArray) (w : World) (hr0 : Kd.C Kd.string w A0 l0.length l0) (hc0 : l0.length ≤ c0) (hsz : l0.length * 16 ≤ 140737488351232) :
    Calls Try.prog 56 #[.slice A0 l0.length c0] w fun e w' => ∃ v, e = .returned v ∧ Kd.R Kd.string 9 w' w.heap.size (fun _ => True) v l0 ∧ Below w.heap.size w w' := by
  have HR := Aside0.mk hr0
  clear hr0
  rcases A0 with _ | ad
  · have h0 : l0 = [] := by
      rcases Nat.eq_zero_or_pos l0.length with h0 | h0
      · exact List.eq_nil_of_length_eq_zero h0
      · obtain ⟨ad, h, _⟩ := HR.out.2.2 h0; cases h
    have H0 := Aside0.mk h0
    clear h0
    have hq : (binOp .eql 25 (.slice none l0.length c0) (.slice none 0 0)).run Try.prog w = .ok (.bool true) w := Lib.run_eql_slice_nil w 25 9 none l0.length c0 0 0 Try.underlying25
    go_enter Try.func56, Try.ntmps56
    go_wp2_with fail
    go_ret
    exact ⟨_, rfl, by rw [H0.out]; exact Kd.R_nil _ _ _ _ _, Below.refl _ _⟩
  · have hq : (binOp .eql 25 (.slice (some ad) l0.length c0) (.slice none 0 0)).run Try.prog w = .ok (.bool false) w := Lib.run_eql_slice_nil w 25 9 (some ad) l0.length c0 0 0 Try.underlying25
    go_enter Try.func56, Try.ntmps56
    go_wp2_with (at_builtin; refine print_append_row_of (w0 := w) Value.string ByteArray.empty w.heap.size rfl (.tmp 5) (.tmp 6) 25 9 (.string ⟨#[]⟩) 16 rfl Try.underlying25 cloneS_info rfl (by decide) (fun _ => rfl) _ [] l0 _ _ _ rfl rfl ?aO ?aR ?aB ?aS ?aL ?_; (case aO => exact X.own_empty _ _ _); (case aR => exact Kd.reads_of_C (Kd.C_below HR.out (X.below_new1 _ _))); (case aB => exact X.below_new1 _ _); (case aS => exact below_size (X.below_new1 _ _)); (case aL => simp; omega); intro v1 w1 ho hb hg hat; have HO := Aside0.mk ho; have HB := Aside0.mk hb; clear ho hb hg hat)
    go_ret
    exact ⟨_, rfl, Kd.R_of_own HO.out (fun _ _ => trivial), HB.out⟩
theorem chunk_any (A : Option Addr) (m c : Nat) (w : World) : Calls Try.prog 57 #[.slice A m c, .int .i64 2] w fun e w' =>
    e = .returned (.func (.func 72) #[] #[.pointer (some ⟨w.heap.size, 0, none⟩), .pointer (some ⟨w.heap.size + 1, 0, none⟩)]) ∧ w' = (w.alloc (.cells #[.slice A m c] 25)).alloc (.cells #[.int .i64 2] 3) := by
  go_enter Try.func57, Try.ntmps57
  go_wp2_with fail
  go_ret
  exact ⟨by simp, rfl⟩
theorem frozen4 {w : World} {B : Nat} {a b c d : Value} {t : TypeId} (h : w.heap[B]? = some (.cells #[a, b, c, d] t (0, 0))) :
    w.frozen? ⟨B, 0, none⟩ = false ∧ w.frozen? ⟨B, 1, none⟩ = false ∧ w.frozen? ⟨B, 2, none⟩ = false ∧ w.frozen? ⟨B, 3, none⟩ = false :=
  ⟨blk_frozen h 0, blk_frozen h 1, blk_frozen h 2, blk_frozen h 3⟩
def gAt (l : List ByteArray) (i : Nat) : ByteArray := l.getD i ByteArray.empty
theorem cell_str {w : World} {ad : Addr} {N : Nat} {l : List ByteArray} (hr : Kd.C Kd.string w (some ad) N l) (i : Nat) (hi : i < N) : w.cell? (ad.add i) = some (.string (gAt l i)) := by
  obtain ⟨ad', e, h⟩ := Kd.at_string hr (i : Int) (by omega) (by omega)
  cases e
  simpa [rdOf, gAt] using h
def flatP (l : List ByteArray) (is : List Nat) : List Value := is.flatMap fun i => [.string (gAt l (2 * i)), .string (gAt l (2 * i + 1))]
theorem pair_info : (Try.prog.info? 50).map (fun i => (i.zero, i.size, i.bytes)) = some (some (.agg #[(.string ⟨#[]⟩), (.string ⟨#[]⟩)]), 2, 32) := by kernel_rfl
def OfI (w : World) (l : List ByteArray) (m : Nat) (ys : List (Fin m)) (W : World) : Prop :=
  Below w.heap.size w W ∧ w.heap.size + 4 ≤ W.heap.size ∧ W.heap[w.heap.size]? = some (.cells #[.int .i64 0, .string ⟨#[]⟩, .slice none 0 0, .slice none 0 0] 28 (0, 0)) ∧
    ∃ vP, W.heap[w.heap.size + 1]? = some (.cells #[.int .i64 3, .string ⟨#[]⟩, .slice none 0 0, vP] 28 (0, 0)) ∧ W.ownsRow (w.heap.size + 4) 50 2 vP ys.length (flatP l (ys.map fun i => i.1))
theorem OfI.grown {w : World} {l : List ByteArray} {m : Nat} {ys : List (Fin m)} {W W' : World} (h : OfI w l m ys W) {row : Option Nat} (hg : W.grownBy W' row)
    (hr : ∀ r, row = some r → w.heap.size + 4 ≤ r ∧ ∃ o : Obj, W.heap[r]? = some o ∧ o.isCells = false) : OfI w l m ys W' := by
  obtain ⟨hb, h4, h0, vP, h1, ho⟩ := h
  refine ⟨hb.grown hg (by omega) (fun k e => by have := (hr k e).1; omega), Nat.le_trans h4 hg.size, (hg.block _ (by omega) (fun e => by have := (hr _ e.symm).1; omega)).trans h0, vP, (hg.block _ (by omega) (fun e => by have := (hr _ e.symm).1; omega)).trans h1, ?_⟩
  refine own_move ho (fun k hk => ?_)
  obtain ⟨cells, hc⟩ := own_typed ho k hk
  exact hg.block k (blk_lt hc) (fun e => by obtain ⟨o, ho, hx⟩ := (hr _ e.symm).2; rw [hc] at ho; cases ho; cases hx)
theorem keeps2_grown {B0 Bs Bn : Nat} {W W' : World} {row : Option Nat} (hg : W.grownBy W' row) (hB : B0 ≤ W.heap.size) (hs : Bs < W.heap.size) (hn : Bn < W.heap.size) (hr : ∀ r, row = some r → B0 ≤ r ∧ r ≠ Bs ∧ r ≠ Bn) : Keeps2 B0 Bs Bn W W' :=
  ⟨(Below.refl _ _).grown hg hB (fun k e => (hr k e).1), hg.block _ hs (fun e => (hr _ e.symm).2.1 rfl), hg.block _ hn (fun e => (hr _ e.symm).2.2 rfl)⟩
theorem Keeps2.trans' {B0 Bs Bn : Nat} {X Y Z : World} (h : Keeps2 B0 Bs Bn X Y) (k : Keeps2 B0 Bs Bn Y Z) : Keeps2 B0 Bs Bn X Z := ⟨h.1.trans k.1, k.2.1.trans h.2.1, k.2.2.trans h.2.2⟩
theorem keepsFrom_cells {B : Nat} {W W' : World} {row : Option Nat} (hg : W.grownBy W' row) (hr : ∀ k o, row = some k → W.heap[k]? = some o → o.isCells = true) : KeepsFrom B W W' :=
  ⟨hg.size, fun k o _ hk ho => (hg.block k (blk_lt hk) (fun e => by rw [hr k o e.symm hk] at ho; cases ho)).trans hk⟩
theorem own_base {w : World} {base : Nat} {e : TypeId} {size n : Nat} {v : Value} {xs : List Value} (h : w.ownsRow base e size v n xs) (k : Nat) (hk : v.ownBlock = some k) : base ≤ k := by
  rcases h.2 with ⟨rfl, _⟩ | ⟨g, cap, cur, rfl, hg, _⟩
  · simp [Value.ownBlock] at hk
  · have : g = k := by simpa [Value.ownBlock] using hk
    omega
theorem grown_setAt (w : World) (b i : Nat) (v : Value) : w.grownBy (w.setCell ⟨b, i, none⟩ v) (some b) := by
  have h := (Below.refl 0 w).setCell (p := ⟨b, i, none⟩) (Nat.zero_le b) v
  exact ⟨h.os, h.tape, h.output, h.size, fun k _ hk => Below.heap_setCell _ _ _ k (fun e => hk (by rw [e]))⟩
theorem of_leaf {w W WA w' : World} {l : List ByteArray} {m : Nat} {pre : List (Fin m)} {x : Fin m} {B : Nat} {vP v' : Value} (hb : Below w.heap.size w W) (h4 : w.heap.size + 4 ≤ W.heap.size)
    (h0 : W.heap[w.heap.size]? = some (.cells #[.int .i64 0, .string ⟨#[]⟩, .slice none 0 0, .slice none 0 0] 28 (0, 0)))
    (hbs : True) (h1' : w'.heap[w.heap.size + 1]? = some (.cells #[.int .i64 3, .string ⟨#[]⟩, .slice none 0 0, vP] 28 (0, 0)))
    (ho : W.ownsRow (w.heap.size + 4) 50 2 vP pre.length (flatP l (pre.map fun i => i.1))) (hA : W.grownBy WA none) (hg : WA.grownBy w' vP.ownBlock)
    (r1 : w'.ownsRow (w.heap.size + 4) 50 2 v' (pre.length + 1) (flatP l (pre.map fun i => i.1) ++ [.string (gAt l (2 * x.1)), .string (gAt l (2 * x.1 + 1))])) :
    KeepsFrom B W (w'.setCell ⟨w.heap.size + 1, 3, none⟩ v') ∧ Keeps2 w.heap.size (w.heap.size + 2) (w.heap.size + 3) W (w'.setCell ⟨w.heap.size + 1, 3, none⟩ v') ∧ OfI w l m (pre ++ [x]) (w'.setCell ⟨w.heap.size + 1, 3, none⟩ v') := by
  have hAs := hA.size
  have hgs := hg.size
  have hset := grown_setAt w' (w.heap.size + 1) 3 v'
  have hrow : ∀ k, vP.ownBlock = some k → w.heap.size + 4 ≤ k ∧ ∃ o : Obj, WA.heap[k]? = some o ∧ o.isCells = true := fun k hk => by
    obtain ⟨cells, hc⟩ := own_typed ho k hk
    exact ⟨own_base ho k hk, _, (hA.block k (blk_lt hc) (by simp)).trans hc, rfl⟩
  refine ⟨((keepsFrom_cells hA (fun k o e _ => by cases e)).trans (keepsFrom_cells hg (fun k o e hk => by obtain ⟨_, o', ho', hx⟩ := hrow k e; rw [hk] at ho'; cases ho'; exact hx))).trans
    (keepsFrom_cells hset (fun k o e hk => by cases e; rw [h1'] at hk; cases hk; rfl)), ?_, ?_, ?_, ?_, v', ?_, ?_⟩
  · refine ((keeps2_grown hA (by omega) (by omega) (by omega) (fun r e => by cases e)).trans' (keeps2_grown hg (by omega) (by omega) (by omega) (fun r e => ?_))).trans' (keeps2_grown hset (by omega) (by omega) (by omega) (fun r e => by cases e; omega))
    have := (hrow r e).1
    omega
  · exact ((hb.grown hA (by omega) (fun k e => by cases e)).grown hg (by omega) (fun k e => by have := (hrow k e).1; omega)).grown hset (by omega) (fun k e => by cases e; omega)
  · have := hset.size; omega
  · exact (hset.block _ (by omega) (fun e => by injection e with e; omega)).trans ((hg.block _ (by omega) (fun e => by have := (hrow _ e.symm).1; omega)).trans ((hA.block _ (by omega) (by simp)).trans h0))
  · exact blk_put h1' 3 _ rfl
  · have e : flatP l ((pre ++ [x]).map fun i => i.1) = flatP l (pre.map fun i => i.1) ++ [.string (gAt l (2 * x.1)), .string (gAt l (2 * x.1 + 1))] := by simp [flatP]
    rw [e, List.length_append]
    exact own_move r1 (fun k hk => hset.block k (by obtain ⟨c, hc⟩ := own_typed r1 k hk; exact blk_lt hc) (fun e => by have := own_base r1 k hk; injection e with e; omega))
def of3.T : Bool × List (List Nat × List Nat) := (true, [([], []), ([0], [0]), ([], []), ([2], [2]), ([3], [3]), ([], []), ([5], [5]), ([6], [6]), ([4, 7], [4, 7]), ([8], [8]), ([1, 9], [1, 9]), ([0, 1, 2, 3, 4, 5, 6, 7, 8, 9, 10], []), ([11, 10, 10, 0, 1, 2, 3, 4, 5, 6, 7, 8, 9, 10], [10, 11])])
def of3.B : List Nat := [0, 1, 0, 4, 12, 0, 32, 96, 252, 508, 1023, 2047, 4095]
theorem of3.tab : rtab .any (opsOf Try.f48 11) = of3.T := by kernel_rfl
theorem of3.bits : waitsOk of3.T.2 of3.B = true := by kernel_rfl
theorem with_tabIn {md : Region.Mode} {ops : Array Oper} {T : Bool × List (List Nat × List Nat)} {B : List Nat} {R : Prop} (hT : rtab md ops = T) (hB : waitsOk T.2 B = true) (h : Aside0 (rtab md ops = T) → Aside0 (waitsOk T.2 B = true) → R) : R := h ⟨hT⟩ ⟨hB⟩
theorem run_appendOp {o : Oper} {ρ : Operand → Value} {P : Program} {w w' : World} {s x : Operand} {t : TypeId} {v u r : Value} (ho : o.op = .call { callee := .builtin .append, args := #[s, x], argTypes := #[t, t] }) (hs : ρ s = v) (hx : ρ x = u)
    (h : (Builtin.append_ #[t, t] o.type #[v, u]).run P w = .ok r w') : (execOp ρ o).run P w = .ok (.value r) w' := by
  simp [execOp, ho, resolve, invoke, builtin, hs, hx, h, Result.andThen]
theorem news2 (W : World) (u v : Value) (t : TypeId) (j : Nat) (x : Value) (hj : [u, v][j]? = some x) : ((W.alloc (.cells #[u, v] t)).drew).cell? (Addr.add ⟨W.heap.size, 0, none⟩ j) = some x := by
  have hb := blk_new W (.cells #[u, v] t)
  match j, hj with
  | 0, hj => cases hj; exact blk_cell hb 0
  | 1, hj => cases hj; exact blk_cell hb 1
def ofTmps (w : World) (ad : Addr) (N c : Nat) (c8 c49 : Value) : Array Value :=
  #[.int .i64 3, .slice (some ad) N c, undef, undef, .pointer (some ⟨w.heap.size, 0, none⟩), .bool false, .pointer (some ⟨w.heap.size + 1, 0, none⟩), .int .i64 N, c8, .int .i64 3,
    .agg #[.int .i64 3, .string ⟨#[]⟩, .slice none 0 0, .slice none 0 0], .slice (some ad) N c, .int .i64 N, undef, .bool false, .int .i64 3, .bool false, .bool false, undef, undef, .bool false, undef, undef, undef, undef,
    .bool false, .int .i64 3, .bool false, .bool false, undef, undef, .bool false, undef, undef, undef, .bool true, .int .i64 3, .bool true, .bool true, .int .i64 N, .bool true, .bool true, .bool true, .int .i64 N,
    .int .i64 ((N : Int) % 2), .bool true, .bool true, .slice (some ad) N c, .func (.func 72) #[] #[.pointer (some ⟨w.heap.size + 2, 0, none⟩), .pointer (some ⟨w.heap.size + 3, 0, none⟩)],
    c49, undef, undef, undef, undef, undef, undef, undef, undef, undef, undef, undef, undef, undef]
set_option maxRecDepth 100000 in
set_option maxHeartbeats 8000000 in
theorem of_three (ad : Addr) (m N c : Nat) (l : List ByteArray) (hl : l.length = N) (hN : N = 2 * m) (hm : 0 < m) (hx : N ≤ 1000000) (hc : N ≤ c) (w : World) (hr : Kd.C Kd.string w (some ad) N l) :
    Calls Try.prog 48 #[.int .i64 3, .slice (some ad) N c] w fun e W' => ∃ v3, e = .returned (.tuple #[.agg #[.int .i64 3, .string ⟨#[]⟩, .slice none 0 0, v3], .bool true]) ∧ W'.ownsRow w.heap.size 50 2 v3 m (flatP l (List.range m)) ∧ Below w.heap.size w W' := by
  refine (callsIn_wide (n := 8)).1 ?_
  refine callsIn_of_wp_marks Try.func48 rfl trivial ?_ rfl
  simp only [Try.ntmps48, List.size_toArray, List.length_cons, List.length_nil, Nat.reduceAdd, Nat.reduceSub, Array.replicate_succ, Array.replicate_zero, List.push_toArray, List.append_toArray, List.nil_append, List.cons_append]
  have d1 : decide (N > 0) = true := decide_eq_true (by omega)
  have d2 : decide (0 < N) = true := decide_eq_true (by omega)
  have d3 : ((N : Int) % 2 == 0) = true := beq_iff_eq.mpr (by omega)
  have HN := Aside0.mk hN
  have HL := Aside0.mk hl
  have HR := Aside0.mk hr
  clear hN hl hr
  gi_wp2
  refine ⟨trivial, ((callsIn_wide (n := _)).2 (chunk_any (some ad) N c _)).mono ?_⟩
  rintro e w1 ⟨rfl, rfl⟩
  gi_wp2
  obtain ⟨oA, hoA⟩ : ∃ o : Obj, o = .cells #[.int .i64 0, .string ⟨#[]⟩, .slice none 0 0, .slice none 0 0] 28 := ⟨_, rfl⟩
  obtain ⟨oB, hoB⟩ : ∃ o : Obj, o = .cells #[.int .i64 3, .string ⟨#[]⟩, .slice none 0 0, .slice none 0 0] 28 := ⟨_, rfl⟩
  obtain ⟨oC, hoC⟩ : ∃ o : Obj, o = .cells #[.slice (some ad) N c] 25 := ⟨_, rfl⟩
  obtain ⟨oD, hoD⟩ : ∃ o : Obj, o = .cells #[.int .i64 2] 3 := ⟨_, rfl⟩
  obtain ⟨WB, hWB⟩ : ∃ WB, WB = (((w.alloc oA).alloc oB).alloc oC).alloc oD := ⟨_, rfl⟩
  have hb0 : Below w.heap.size w WB := by rw [hWB]; exact below_alloc (below_alloc (below_new2 w _ _) _) _
  have hA : WB.heap[w.heap.size]? = some oA := by rw [hWB]; exact blk_alloc (blk_alloc (blk_alloc (blk_new _ _) _) _) _
  have hBB : WB.heap[w.heap.size + 1]? = some oB := by rw [hWB]; exact blk_alloc (blk_alloc (blk_new2 _ _ _) _) _
  have hCC : WB.heap[w.heap.size + 2]? = some oC := by
    rw [hWB]
    have h := blk_new ((w.alloc oA).alloc oB) oC
    rw [size_alloc1, size_alloc1] at h
    exact blk_alloc h _
  have hDD : WB.heap[w.heap.size + 3]? = some oD := by
    rw [hWB]
    have h := blk_new (((w.alloc oA).alloc oB).alloc oC) oD
    rwa [size_alloc1, size_alloc1, size_alloc1] at h
  have hsz : WB.heap.size = w.heap.size + 4 := by rw [hWB]; rw [size_alloc1, size_alloc1, size_alloc1, size_alloc1]
  rw [← hoA, ← hoB, ← hoC, ← hoD, ← hWB]
  rw [hoA] at hA
  rw [hoB] at hBB
  rw [hoC] at hCC
  rw [hoD] at hDD
  clear hWB hoA hoB hoC hoD oA oB oC oD
  refine wpIn_rangeFunc_ownH rfl (by omega) (gf := 72) (lb := #[.pointer (some ⟨w.heap.size + 2, 0, none⟩), .pointer (some ⟨w.heap.size + 3, 0, none⟩)]) rfl trivial (enters_of Try.func72 (by kernel_rfl) rfl)
    (chunk_stops Fence.wide _ trivial rfl (by omega) w.heap.size (w.heap.size + 2) (w.heap.size + 3) ad m N c HN.out hx hc WB (by omega) hCC hDD)
    (fun h k => h.trans' k) ?keepsB (Below.refl _ _) (fun _ => rfl) (OfI w l m) (fun _ _ _ => False) ?own (fun _ _ _ _ _ hs _ _ => hs) ⟨hb0, by omega, hA, _, hBB, ⟨rfl, .inl ⟨rfl, rfl⟩⟩⟩
    (fun x a' W' => a' = { tmps := ofTmps w ad N c (.slice (some (ad.add (2 * x.1))) 2 2) (.slice (some (ad.add (2 * x.1))) 2 2), defers := [] }) ?ownA ?assign ?body ?done ?stop
  case keepsB =>
    intro W l o o' hl ho hc hw
    have hlt := blk_lt ho
    exact keeps2_grown (grownBy_putObj' W l o') (by omega) (by omega) (by omega) (fun k e => by cases e; omega)
  case own =>
    rintro ys W W' row hI hg hr
    exact hI.grown hg (fun r e => ⟨by have := (hr r e).1; omega, (hr r e).2⟩)
  case ownA =>
    rintro x a' _ W W' row ha hg hr
    exact ha
  case stop =>
    rintro D c' pre W _ _ h _
    exact h.elim
  case assign =>
    rintro L pre x W K hI hK
    rw [show ckEnc ad m x = #[.slice (some (ad.add (2 * x.1))) 2 2] from rfl]
    gi_wp2
    exact hK _ _ (.refl _ _) ⟨Below.refl _ _, rfl, rfl⟩ hI rfl
  case body =>
    rintro L pre x a' W hL hr ⟨hb, h4, h0, vP, h1, ho⟩ rfl hlt
    have hmN := HN.out
    have hpl : pre.length ≤ 1000000 := by omega
    have hx2 : 2 * x.1 + 1 < N := by have := x.2; omega
    have e0 := cell_str (Kd.C_below HR.out hb) (2 * x.1) (by omega)
    have e1 := cell_str (Kd.C_below HR.out hb) (2 * x.1 + 1) (by omega)
    have hB := cells4 h1
    have hF := frozen4 h1
    obtain ⟨s0, hs0⟩ : ∃ s0, s0 = gAt l (2 * x.1) := ⟨_, rfl⟩
    obtain ⟨s1, hs1⟩ : ∃ s1, s1 = gAt l (2 * x.1 + 1) := ⟨_, rfl⟩
    rw [← hs0] at e0
    rw [← hs1] at e1
    rw [add_field _ _ 1 (by omega)] at e1
    obtain ⟨q, hq⟩ : ∃ q, q = ad.add (2 * x.1) := ⟨_, rfl⟩
    rw [← hq] at e0 e1 ⊢
    obtain ⟨i0, hi, hz0, hz1, hz2⟩ := info_parts pair_info
    have hgA : W.grownBy (W.alloc (.cells #[.string s0, .string s1] 50)).drew none := grown_of_below (below_alloc (Below.refl W.heap.size W) _).drew none
    obtain ⟨v', w', hrun, r1, r2, r3⟩ := run_append_own (P := Try.prog) ((W.alloc (.cells #[.string s0, .string s1] 50)).drew) (w.heap.size + 4) 26 26 50 i0 (.agg #[(.string ⟨#[]⟩), (.string ⟨#[]⟩)]) 2 32 Try.underlying26 hi hz0 hz1 hz2 rfl (by decide) vP pre.length (flatP l (pre.map fun i => i.1))
      (own_move ho (fun k hk => by obtain ⟨cells, hc⟩ := own_typed ho k hk; exact hgA.block k (blk_lt hc) (by simp))) ⟨W.heap.size, 0, none⟩ 1 1 [.string s0, .string s1] rfl (fun j u hj => news2 W _ _ _ j u hj) (by simp [Value.oneCell']) (by unfold maxLen; omega) (by omega) (by have := hgA.size; omega)
    obtain ⟨g', cap', rfl⟩ := ownsRow_succ r1
    have h1' : w'.heap[w.heap.size + 1]? = some (.cells #[.int .i64 3, .string ⟨#[]⟩, .slice none 0 0, vP] 28 (0, 0)) := (r2.block _ (by have := hgA.size; omega) (fun e => by have := own_base ho _ e.symm; omega)).trans ((hgA.block _ (by omega) (by simp)).trans h1)
    have eA0 : ((W.alloc (.cells #[.string s0, .string s1] 50)).drew).cell? q = some (.string s0) := (World.cell?_alloc_lt _ _ _ (World.block_lt_of_cell? _ _ e0)).trans e0
    have eA1 : ((W.alloc (.cells #[.string s0, .string s1] 50)).drew).cell? ⟨q.block, q.off + 1, none⟩ = some (.string s1) := (World.cell?_alloc_lt _ _ _ (World.block_lt_of_cell? _ _ e1)).trans e1
    have hbw : Below w.heap.size w w' := (hb.grown hgA (by omega) (fun k e => by cases e)).grown r2 (by have := hgA.size; omega) (fun k e => by have := own_base ho _ e; omega)
    have eB0 : w'.cell? q = some (.string s0) := by rw [hq, hs0]; exact cell_str (Kd.C_below HR.out hbw) (2 * x.1) (by omega)
    have eB1 : w'.cell? ⟨q.block, q.off + 1, none⟩ = some (.string s1) := by
      rw [hq, hs1, ← add_field ad (2 * x.1) 1 (by omega)]
      exact cell_str (Kd.C_below HR.out hbw) (2 * x.1 + 1) (by omega)
    have hB' := cells4 h1'
    have hF' := frozen4 h1'
    have hBA := cells4 (blk_alloc h1 (.cells #[.string s0, .string s1] 50))
    have HS0 := Aside0.mk hs0
    have HS1 := Aside0.mk hs1
    have HQ := Aside0.mk hq
    have H1 := Aside0.mk h1
    have H1' := Aside0.mk h1'
    have HRUN := Aside0.mk hrun
    have R1 := Aside0.mk r1
    have R2 := Aside0.mk r2
    have GA := Aside0.mk hgA
    have HSA := Aside0.mk (show _ ∧ _ ∧ _ from ⟨hBA.2.2.2.1, eA0, eA1⟩)
    have HSB := Aside0.mk (show _ ∧ _ ∧ _ from ⟨hB'.2.2.2.1, eB0, eB1⟩)
    clear hs0 hs1 hq hmN h1 h1' hrun hBA eA0 eA1 eB0 eB1 r1 r2 hgA hbw
    unfold ofTmps
    gi_wp2
    refine with_tabIn of3.tab of3.bits (fun HT_ HW_ => ?_)
    refine startIn_ (n := 13) (S := fun w' => w'.cell? ⟨w.heap.size + 1, 3, none⟩ = some vP ∧ w'.cell? q = some (.string s0) ∧ w'.cell? ⟨q.block, q.off + 1, none⟩ = some (.string s1)) (ds := [12]) #[false, false, false, false, false, false, false, false, false, false, false, false, false] (by kernel_rfl) (by kernel_rfl) (fun ⟨_, _, h⟩ => h) rfl rfl ⟨hB.2.2.2.1, e0, e1⟩ (fun hHeld => ?_)
    refine pure_ (i := 0) (N := some 50) (v := ?_) (a' := ?_) #[true, false, false, false, false, false, false, false, false, false, false, false, false] rfl rfl (any_of HT_.out (by kernel_rfl)) (fun _ _ _ h => h) (Or.inl ⟨by rfl, ?_⟩) ?_ ?_
    rotate_left
    · intro w'
      go_simp
      with_reducible rfl
    rotate_left
    · simp only [Act.put, List.setIfInBounds_toArray, List.set_cons_zero, List.set_cons_succ, i64_w, i32_w]
      rfl
    refine pure_ (i := 2) (N := some 52) (v := ?_) (a' := ?_) #[true, false, true, false, false, false, false, false, false, false, false, false, false] rfl rfl (any_of HT_.out (by kernel_rfl)) (fun _ _ _ h => h) (Or.inl ⟨by rfl, ?_⟩) ?_ ?_
    rotate_left
    · intro w'
      go_simp
      with_reducible rfl
    rotate_left
    · simp only [Act.put, List.setIfInBounds_toArray, List.set_cons_zero, List.set_cons_succ, i64_w, i32_w]
      rfl
    refine pure_ (i := 3) (N := some 53) (v := ?_) (a' := ?_) #[true, false, true, true, false, false, false, false, false, false, false, false, false] rfl rfl (any_of HT_.out (by kernel_rfl)) (fun _ _ _ h => h) (Or.inl ⟨by rfl, ?_⟩) ?_ ?_
    rotate_left
    · intro w'
      go_simp
      with_reducible rfl
    rotate_left
    · simp only [Act.put, List.setIfInBounds_toArray, List.set_cons_zero, List.set_cons_succ, i64_w, i32_w]
      rfl
    refine pure_ (i := 5) (N := some 55) (v := ?_) (a' := ?_) #[true, false, true, true, false, true, false, false, false, false, false, false, false] rfl rfl (any_of HT_.out (by kernel_rfl)) (fun _ _ _ h => h) (Or.inl ⟨by rfl, ?_⟩) ?_ ?_
    rotate_left
    · intro w'
      go_simp
      with_reducible rfl
    rotate_left
    · simp only [Act.put, List.setIfInBounds_toArray, List.set_cons_zero, List.set_cons_succ, i64_w, i32_w]
      rfl
    refine pure_ (i := 6) (N := some 56) (v := ?_) (a' := ?_) #[true, false, true, true, false, true, true, false, false, false, false, false, false] rfl rfl (any_of HT_.out (by kernel_rfl)) (fun _ _ _ h => h) (Or.inl ⟨by rfl, ?_⟩) ?_ ?_
    rotate_left
    · intro w'
      go_simp
      with_reducible rfl
    rotate_left
    · simp only [Act.put, List.setIfInBounds_toArray, List.set_cons_zero, List.set_cons_succ, i64_w, i32_w]
      rfl
    refine take_ (i := 1) (N := some 51) (v := ?_) (a' := ?_) #[true, true, true, true, false, true, true, false, false, false, false, false, false] rfl rfl (take_ofW HT_.out HW_.out (by kernel_rfl)) (fun _ _ _ h => h) (Or.inl ⟨by rfl, ?_⟩) hHeld ?_ ?_
    rotate_left
    · rintro w' ⟨s0, s1, s2⟩
      go_simp
      with_reducible rfl
    rotate_left
    · simp only [Act.put, List.setIfInBounds_toArray, List.set_cons_zero, List.set_cons_succ, i64_w, i32_w]
      rfl
    refine take_ (i := 4) (N := some 54) (v := ?_) (a' := ?_) #[true, true, true, true, true, true, true, false, false, false, false, false, false] rfl rfl (take_ofW HT_.out HW_.out (by kernel_rfl)) (fun _ _ _ h => h) (Or.inl ⟨by rfl, ?_⟩) hHeld ?_ ?_
    rotate_left
    · rintro w' ⟨s0, s1, s2⟩
      go_simp
      with_reducible rfl
    rotate_left
    · simp only [Act.put, List.setIfInBounds_toArray, List.set_cons_zero, List.set_cons_succ, i64_w, i32_w]
      rfl
    refine take_ (i := 7) (N := some 57) (v := ?_) (a' := ?_) #[true, true, true, true, true, true, true, true, false, false, false, false, false] rfl rfl (take_ofW HT_.out HW_.out (by kernel_rfl)) (fun _ _ _ h => h) (Or.inl ⟨by rfl, ?_⟩) hHeld ?_ ?_
    rotate_left
    · rintro w' ⟨s0, s1, s2⟩
      go_simp
      with_reducible rfl
    rotate_left
    · simp only [Act.put, List.setIfInBounds_toArray, List.set_cons_zero, List.set_cons_succ, i64_w, i32_w]
      rfl
    refine pure_ (i := 8) (N := some 58) (v := ?_) (a' := ?_) #[true, true, true, true, true, true, true, true, true, false, false, false, false] rfl rfl (any_of HT_.out (by kernel_rfl)) (fun _ _ _ h => h) (Or.inl ⟨by rfl, ?_⟩) ?_ ?_
    rotate_left
    · intro w'
      go_simp
      with_reducible rfl
    rotate_left
    · simp only [Act.put, List.setIfInBounds_toArray, List.set_cons_zero, List.set_cons_succ, i64_w, i32_w]
      rfl
    refine one_ (i := 9) (N := some 59) #[true, true, true, true, true, true, true, true, true, true, false, false, false] rfl rfl (one_of HT_.out (by kernel_rfl)) (by decide) (fun K hK => ?_)
    refine value_ (w1 := ?_) (v := ?_) (by rfl) rfl ?_ ?_
    rotate_left 2
    · go_simp
      constructor
      · rfl
      · rfl
    refine hK.out _ _ HSA.out (fun hHeld => ?_)
    clear hK K
    refine norm_ (a' := ?_) ?_ ?_
    rotate_left
    · show Act.put _ (some 59) _ = _
      simp only [Act.put, List.setIfInBounds_toArray, List.set_cons_zero, List.set_cons_succ, i64_w, i32_w]
      rfl
    refine one_ (i := 10) (N := some 60) #[true, true, true, true, true, true, true, true, true, true, true, false, false] rfl rfl (one_of HT_.out (by kernel_rfl)) (by decide) (fun K hK => ?_)
    refine value_ (w1 := w') (v := .slice (some ⟨g', 0, none⟩) (pre.length + 1) cap') (by rfl) rfl ?_ ?_
    · exact run_appendOp rfl rfl rfl HRUN.out
    refine hK.out _ _ HSB.out (fun hHeld => ?_)
    clear hK K
    refine norm_ (a' := ?_) ?_ ?_
    rotate_left
    · show Act.put _ (some 60) _ = _
      simp only [Act.put, List.setIfInBounds_toArray, List.set_cons_zero, List.set_cons_succ, i64_w, i32_w]
      rfl
    refine pure_ (i := 11) (N := some 61) (v := ?_) (a' := ?_) #[true, true, true, true, true, true, true, true, true, true, true, true, false] rfl rfl (any_of HT_.out (by kernel_rfl)) (fun _ _ _ h => h) (Or.inl ⟨by rfl, ?_⟩) ?_ ?_
    rotate_left
    · intro w'
      go_simp
      with_reducible rfl
    rotate_left
    · simp only [Act.put, List.setIfInBounds_toArray, List.set_cons_zero, List.set_cons_succ, i64_w, i32_w]
      rfl
    refine last_ (i := 12) (N := none) #[true, true, true, true, true, true, true, true, true, true, true, true, true] rfl rfl (one_of HT_.out (by kernel_rfl)) (by decide) (fun K hK => ?_)
    refine skip_ (w1 := ?_) (by rfl) rfl ?_ ?_
    rotate_left
    · go_simp
      rfl
    refine hK.out _ _ ?_
    clear hK K
    refine done_ (done_of HT_.out (by kernel_rfl)) ?_
    show KeepsFrom _ _ _ ∧ _ ∧ _
    have r1 := R1.out
    rw [HS0.out, HS1.out] at r1
    exact of_leaf hb h4 h0 trivial H1'.out ho (GA.out) (R2.out) r1
  case done =>
    rintro D ys W hD hys ⟨hb, h4, h0, vP, h1, ho⟩ hK
    have hyl : ys.length = m := by have := congrArg List.length hys; simpa using this
    rw [hyl] at ho
    obtain ⟨m', rfl⟩ : ∃ m', m = m' + 1 := ⟨m - 1, by omega⟩
    obtain ⟨g', cap', rfl⟩ := ownsRow_succ ho
    have hB := cells4 h1
    have hF := frozen4 h1
    have hB0 := cells4 h0
    have hF0 := frozen4 h0
    have H1 := Aside0.mk h1
    have H0 := Aside0.mk h0
    clear h1 h0
    gi_wp2
    have h1 := H1.out
    have h0 := H0.out
    obtain ⟨W4, hW4⟩ : ∃ W4, W4 = (((W.setCell ⟨w.heap.size, 0, none⟩ (.int .i64 3)).setCell ⟨w.heap.size, 1, none⟩ (.string ⟨#[]⟩)).setCell ⟨w.heap.size, 2, none⟩ (.slice none 0 0)).setCell ⟨w.heap.size, 3, none⟩ (.slice (some ⟨g', 0, none⟩) (m' + 1) cap') := ⟨_, rfl⟩
    rw [← hW4]
    have k0 : W4.heap[w.heap.size]? = some (.cells #[.int .i64 3, .string ⟨#[]⟩, .slice none 0 0, .slice (some ⟨g', 0, none⟩) (m' + 1) cap'] 28 (0, 0)) := by rw [hW4]; exact blk_put (blk_put (blk_put (blk_put h0 0 _ rfl) 1 _ rfl) 2 _ rfl) 3 _ rfl
    have kf : ∀ i, i ≠ w.heap.size → W4.heap[i]? = W.heap[i]? := fun i hi => by
      rw [hW4]
      exact ((Below.heap_setCell _ _ _ i hi).trans (Below.heap_setCell _ _ _ i hi)).trans ((Below.heap_setCell _ _ _ i hi).trans (Below.heap_setCell _ _ _ i hi))
    have kb : Below w.heap.size w W4 := by rw [hW4]; exact below_set (below_set (below_set (below_set hb (Nat.le_refl _)) (Nat.le_refl _)) (Nat.le_refl _)) (Nat.le_refl _)
    have kD : W4.heap[D]? = some (.deferred (some [])) := (kf D (by omega)).trans hK
    have kg : ∀ k, (Value.slice (some ⟨g', 0, none⟩) (m' + 1) cap').ownBlock = some k → W4.heap[k]? = W.heap[k]? ∧ k ≠ D := fun k hk => by
      obtain ⟨cells, hc⟩ := own_typed ho k hk
      refine ⟨kf k ?_, ?_⟩
      · rintro rfl
        rw [h0] at hc; cases hc
      · rintro rfl
        rw [hK] at hc; cases hc
    have kq : ∀ i, i ≠ D → (W4.putObj D (.deferred none)).heap[i]? = W4.heap[i]? := fun i hi => by
      by_cases hlt : i < W4.heap.size
      · exact (grownBy_putObj' W4 D (.deferred none)).block i hlt (fun e => hi (by injection e))
      · have hs : (W4.putObj D (.deferred none)).heap.size = W4.heap.size := by simp [World.putObj]
        rw [Array.getElem?_eq_none (by omega), Array.getElem?_eq_none (by omega)]
    refine ⟨by simp, .inl ⟨_, _, rfl, run_takeDeferred kD, ?_⟩⟩
    refine ⟨_, results_ct rfl _ _ w.heap.size 28 _ (0, 0) _ rfl ((kq _ (by omega)).trans k0) Try.underlying28 rfl (by kernel_rfl), _, rfl, ?_, ?_⟩
    · have h := own_weaken ho (Nat.le_add_right w.heap.size 4)
      rw [hys] at h
      exact own_move (own_move h (fun k hk => (kg k hk).1)) (fun k hk => kq k (kg k hk).2)
    · exact kb.grown (grownBy_putObj' W4 D _) (by have := kb.size; omega) (fun k e => by cases e; omega)
end Go.Proofs.Ytfaiplbogchgjaa.X
end
