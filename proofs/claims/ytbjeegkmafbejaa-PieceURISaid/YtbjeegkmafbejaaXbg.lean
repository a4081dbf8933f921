/- piece: the way of an operator, and a text's piece. -/
import Derived.Test.YtbjeegkmafbejaaXbf
import Derived.Test.YtbjeegkmafbejaaXo
import Derived.Test.YtbjeegkmafbejaaXz
import Derived.Test.YtbjeegkmafbejaaXs
namespace Go.Proofs.Ytbjeegkmafbejaa.X
set_option linter.unusedSimpArgs false
set_option linter.unusedVariables false
open Go.RowKit Go.Proofs.YtbjeegkmafbejaaW.PrintWords Go.Proofs.YtbjeegkmafbejaaW.PrintLast Go.Proofs.YtbjeegkmafbejaaW.PrintMore Go.Proofs.Ytbjeegkmafbejaa.Y Go.Joins
/-- A text as it is told. -/
def encS (keep : Bool) (s : ByteArray) : ByteArray := ⟨(encTo keep s s.size).toArray⟩
theorem encS_size (keep : Bool) (s : ByteArray) : (encS keep s).size ≤ 3 * s.size := encTo_len keep s s.size
theorem encode_any (s : ByteArray) (keep : Bool) (w : World) (hs : s.size ≤ 1000000) : Calls Try.prog 45 #[.string s, .bool keep] w fun e w' => e = .returned (.string (encS keep s)) ∧ Below w.heap.size w w' := by
  cases keep with
  | true => exact encode_keep s w hs
  | false => exact encode_plain s w hs
theorem ofEnc_any (s : ByteArray) (b : Nat) (c : Int) (w : World) (hs : s.size ≤ 1000000) (hb : w.heap[b]? = some (.cells (ruleCells c) 43 (0, 0))) :
    Calls Try.prog 44 #[.string s, .pointer (some ⟨b, 0, none⟩)] w fun e w' => e = .returned (.string (encS (ruleKeep c) s)) ∧ Below w.heap.size w w' := by
  have h4 := (cells5 hb).2.2.2.2
  go_enter Try.func44, Try.ntmps44
  go_wp2_with fail
  refine (encode_any _ _ _ hs).mono ?_
  rintro e w1 ⟨rfl, hb1⟩
  have HB := Aside0.mk hb1
  clear hb1
  go_wp2_with fail
  go_ret
  exact ⟨rfl, HB.out⟩
/-- An operator's way: its rule, and how it tells a text. -/
def wayV (c : Int) (b : Nat) : Value := .agg #[.string (ruleFirst c), .string (ruleSep c), .bool (ruleNamed c), .string (ruleEmpty c), .bool (ruleKeep c), .func (.func 44) #[] #[.pointer (some ⟨b, 0, none⟩)]]
theorem exec_store {P : Program} {ev : Operand → Value} {o : Oper} {t : TypeId} {p v : Operand} (ho : o.op = .store t p v) {W w1 : World} (h : (Instr.storeAt t (ev p) (ev v)).run P W = .ok () w1) : (execOp ev o).run P W = .ok .skip w1 := by
  unfold execOp
  rw [ho]
  simp [h, Result.andThen]
theorem blk6 {w : World} {B : Nat} {a b c d e f v0 v1 v2 v3 v4 v5 : Value} {t : TypeId} (h : w.heap[B]? = some (.cells #[a, b, c, d, e, f] t (0, 0))) :
    ((((((w.setCell ⟨B, 0, none⟩ v0).setCell ⟨B, 1, none⟩ v1).setCell ⟨B, 2, none⟩ v2).setCell ⟨B, 3, none⟩ v3).setCell ⟨B, 4, none⟩ v4).setCell ⟨B, 5, none⟩ v5).heap[B]? = some (.cells #[v0, v1, v2, v3, v4, v5] t (0, 0)) :=
  blk_put (blk_put (blk_put (blk_put (blk_put (blk_put h 0 _ rfl) 1 _ rfl) 2 _ rfl) 3 _ rfl) 4 _ rfl) 5 _ rfl
theorem far6 {w : World} {B G : Nat} {cs : Array Value} {v0 v1 v2 v3 v4 v5 : Value} {t : TypeId} (h : w.heap[G]? = some (.cells cs t (0, 0))) (hne : G ≠ B) :
    ((((((w.setCell ⟨B, 0, none⟩ v0).setCell ⟨B, 1, none⟩ v1).setCell ⟨B, 2, none⟩ v2).setCell ⟨B, 3, none⟩ v3).setCell ⟨B, 4, none⟩ v4).setCell ⟨B, 5, none⟩ v5).heap[G]? = some (.cells cs t (0, 0)) :=
  blk_far (blk_far (blk_far (blk_far (blk_far (blk_far h hne _) hne _) hne _) hne _) hne _) hne _
theorem below6 {w0 w : World} {B : Nat} {v0 v1 v2 v3 v4 v5 : Value} (h : Below w0.heap.size w0 w) (hB : w0.heap.size ≤ B) :
    Below w0.heap.size w0 ((((((w.setCell ⟨B, 0, none⟩ v0).setCell ⟨B, 1, none⟩ v1).setCell ⟨B, 2, none⟩ v2).setCell ⟨B, 3, none⟩ v3).setCell ⟨B, 4, none⟩ v4).setCell ⟨B, 5, none⟩ v5) :=
  below_set (below_set (below_set (below_set (below_set (below_set h hB) hB) hB) hB) hB) hB
theorem cells6 {w : World} {B : Nat} {a b c d e f : Value} {t : TypeId} (h : w.heap[B]? = some (.cells #[a, b, c, d, e, f] t (0, 0))) :
    w.cell? ⟨B, 0, none⟩ = some a ∧ w.cell? ⟨B, 1, none⟩ = some b ∧ w.cell? ⟨B, 2, none⟩ = some c ∧ w.cell? ⟨B, 3, none⟩ = some d ∧ w.cell? ⟨B, 4, none⟩ = some e ∧ w.cell? ⟨B, 5, none⟩ = some f := by
  refine ⟨?_, ?_, ?_, ?_, ?_, ?_⟩ <;> simp [blk_cell h]
theorem run_store_func {P : Program} {w : World} {a : Addr} {m : Mode} (f : Fn) (x y : Array Value) : (store a (.func f x y) m).run P w = stored P w a (.func f x y) m := run_store P w a _ m rfl
attribute [local go_sem] run_store_func
set_option maxHeartbeats 2000000 in
theorem store_way {w : World} {B : Nat} {a b c d e f : Value} (h : w.heap[B]? = some (.cells #[a, b, c, d, e, f] 53 (0, 0))) (x y : ByteArray) (z : Bool) (u : ByteArray) (t : Bool) (g : FuncId) (l : Array Value) :
    (Instr.storeAt 53 (.pointer (some ⟨B, 0, none⟩)) (.agg #[.string x, .string y, .bool z, .string u, .bool t, .func (.func g) #[] l])).run Try.prog w = .ok () ((((((w.setCell ⟨B, 0, none⟩ (.string x)).setCell ⟨B, 1, none⟩ (.string y)).setCell ⟨B, 2, none⟩ (.bool z)).setCell ⟨B, 3, none⟩ (.string u)).setCell ⟨B, 4, none⟩ (.bool t)).setCell ⟨B, 5, none⟩ (.func (.func g) #[] l)) := by
  have f0 := blk_frozen h 0
  have f1 := blk_frozen h 1
  have f2 := blk_frozen h 2
  have f3 := blk_frozen h 3
  have f4 := blk_frozen h 4
  have f5 := blk_frozen h 5
  have x0 := blk_cell h 0
  have x1 := blk_cell h 1
  have x2 := blk_cell h 2
  have x3 := blk_cell h 3
  have x4 := blk_cell h 4
  have x5 := blk_cell h 5
  simp only [List.getElem?_toArray, List.getElem?_cons_zero, List.getElem?_cons_succ] at x0 x1 x2 x3 x4 x5
  clear h
  go_simp
set_option maxHeartbeats 4000000 in
set_option maxRecDepth 100000 in
theorem pieceOf_any (c : Int) (w : World) (h0 : 0 ≤ c) (h1 : c ≤ 255) : Calls Try.prog 22 #[.int .u8 c] w fun e w' => ∃ b, e = .returned (.tuple #[wayV c b, .bool (isOper c)]) ∧ w'.heap[b]? = some (.cells (ruleCells c) 43 (0, 0)) ∧ Below w.heap.size w w' := by
  go_enter Try.func22, Try.ntmps22
  go_wp2_with fail
  refine (operOf_any c _ h0 h1).mono ?_
  rintro e w1 ⟨rfl, hb1⟩
  have HX := Aside0.mk (blk_below (blk_new w _) hb1)
  have HB := Aside0.mk (below_step (w := w) (X.below_new1 w _) hb1)
  clear hb1
  unfold ruleV
  have B1 := blk_alloc HX.out (.cells #[.string (ruleFirst c), .string (ruleSep c), .bool (ruleNamed c), .string (ruleEmpty c), .bool (ruleKeep c)] 43 (0, 0))
  have B2 := blk_new w1 (.cells #[.string (ruleFirst c), .string (ruleSep c), .bool (ruleNamed c), .string (ruleEmpty c), .bool (ruleKeep c)] 43 (0, 0))
  have hne : w.heap.size ≠ w1.heap.size := Nat.ne_of_lt (blk_lt HX.out)
  have HBB := Aside0.mk (below_alloc HB.out (.cells #[.string (ruleFirst c), .string (ruleSep c), .bool (ruleNamed c), .string (ruleEmpty c), .bool (ruleKeep c)] 43 (0, 0)))
  obtain ⟨r0, r1, r2, r3, r4⟩ := cells5 B2
  have HB1 := Aside0.mk B1
  have HB2 := Aside0.mk B2
  clear B1 B2
  go_wp2_with (refine store_event rfl (t := 53) (p := 2) rfl rfl (exec_store rfl (store_way HB1.out _ _ _ _ _ _ _)) ?_; rintro w' rfl)
  have hB := blk6 HB1.out (v0 := .string (ruleFirst c)) (v1 := .string (ruleSep c)) (v2 := .bool (ruleNamed c)) (v3 := .string (ruleEmpty c)) (v4 := .bool (ruleKeep c)) (v5 := .func (.func 44) #[] #[.pointer (some ⟨w1.heap.size, 0, none⟩)])
  have hF := far6 HB2.out hne.symm (v0 := .string (ruleFirst c)) (v1 := .string (ruleSep c)) (v2 := .bool (ruleNamed c)) (v3 := .string (ruleEmpty c)) (v4 := .bool (ruleKeep c)) (v5 := .func (.func 44) #[] #[.pointer (some ⟨w1.heap.size, 0, none⟩)])
  have hW := below6 HBB.out (Nat.le_refl _) (v0 := .string (ruleFirst c)) (v1 := .string (ruleSep c)) (v2 := .bool (ruleNamed c)) (v3 := .string (ruleEmpty c)) (v4 := .bool (ruleKeep c)) (v5 := .func (.func 44) #[] #[.pointer (some ⟨w1.heap.size, 0, none⟩)])
  clear r0 r1 r2 r3 r4
  generalize hWW : ((((((w1.alloc (.cells #[.string (ruleFirst c), .string (ruleSep c), .bool (ruleNamed c), .string (ruleEmpty c), .bool (ruleKeep c)] 43 (0, 0))).setCell ⟨w.heap.size, 0, none⟩ (.string (ruleFirst c))).setCell ⟨w.heap.size, 1, none⟩ (.string (ruleSep c))).setCell ⟨w.heap.size, 2, none⟩ (.bool (ruleNamed c))).setCell ⟨w.heap.size, 3, none⟩ (.string (ruleEmpty c))).setCell ⟨w.heap.size, 4, none⟩ (.bool (ruleKeep c))).setCell ⟨w.heap.size, 5, none⟩ (.func (.func 44) #[] #[.pointer (some ⟨w1.heap.size, 0, none⟩)]) = WW at hB hF hW ⊢
  obtain ⟨r0, r1, r2, r3, r4, r5⟩ := cells6 hB
  exact bodyPost_ret (v := .tuple #[wayV c w1.heap.size, .bool (isOper c)]) (by simp [results, Try.results22, go_sem, wayV, r0, r1, r2, r3, r4, r5]) rfl ⟨_, rfl, hF, hW⟩
/-- What stands for a name and a text. -/
def namedS (c : Int) (name s : ByteArray) : ByteArray := if s.size = 0 then name ++ ruleEmpty c else name ++ ⟨#[61]⟩ ++ s
def maybeS (c : Int) (name s : ByteArray) : ByteArray := if ruleNamed c = true then namedS c name s else s
def textS (c : Int) (name : ByteArray) (mx : Int) (s : ByteArray) : ByteArray := maybeS c name (encS (ruleKeep c) (if 0 < mx then prefixS s mx.toNat else s))
theorem ruleEmpty_size (c : Int) : (ruleEmpty c).size ≤ 1 := by
  unfold ruleEmpty
  split
  · decide
  split <;> decide
theorem full_ {s : ByteArray} (h : s.size ≠ 0) : s.toList.isEmpty = false := by
  rw [ByteArray.toList_eq, List.isEmpty_eq_false_iff, ← List.length_pos_iff]; simp; omega
theorem bare_ {s : ByteArray} (h : s.size = 0) : s = ⟨#[]⟩ := by
  rcases s with ⟨⟨l⟩⟩
  obtain rfl : l = [] := List.eq_nil_of_length_eq_zero h
  rfl
theorem named_any (c : Int) (b : Nat) (name s : ByteArray) (w : World) (hn : name.size ≤ 1000000) (hs : s.size ≤ 10000000) : Calls Try.prog 43 #[wayV c b, .string name, .string s] w fun e w' => e = .returned (.string (namedS c name s)) ∧ Below w.heap.size w w' := by
  by_cases h : s.size = 0
  · have HN := Aside0.mk (show namedS c name s = name ++ ruleEmpty c from if_pos h)
    obtain rfl := bare_ h
    have he := ruleEmpty_size c
    have q1 : (9223372036854775807 < name.size + (ruleEmpty c).size) = False := eq_false (by omega)
    clear he
    unfold wayV
    go_enter Try.func43, Try.ntmps43
    go_wp2_with fail
    go_ret
    exact ⟨by rw [HN.out]; rfl, X.below_new1 _ _⟩
  · have HN := Aside0.mk (show namedS c name s = name ++ ⟨#[61]⟩ ++ s from if_neg h)
    have q1 : (9223372036854775807 < name.size + (⟨#[61]⟩ : ByteArray).size) = False := eq_false (by show ¬ (_ < name.size + 1); omega)
    have q2 : (9223372036854775807 < name.size + 1) = False := eq_false (by omega)
    have q3 : (9223372036854775807 < (name ++ (⟨#[61]⟩ : ByteArray)).size + s.size) = False := eq_false (by rw [ByteArray.size_append]; show ¬ (_ < name.size + 1 + s.size); omega)
    have q4 : (9223372036854775807 < name.size + 1 + s.size) = False := eq_false (by omega)
    have q5 := full_ h
    unfold wayV
    go_enter Try.func43, Try.ntmps43
    go_wp2_with fail
    go_ret
    exact ⟨by rw [HN.out]; rfl, X.below_new1 _ _⟩
theorem namedS_size (c : Int) (name s : ByteArray) : (namedS c name s).size ≤ name.size + 1 + s.size := by
  unfold namedS
  have := ruleEmpty_size c
  split
  · rw [ByteArray.size_append]; omega
  · rw [ByteArray.size_append, ByteArray.size_append]; show name.size + 1 + s.size ≤ _; omega
theorem maybe_any (c : Int) (b : Nat) (name s : ByteArray) (w : World) (hn : name.size ≤ 1000000) (hs : s.size ≤ 10000000) : Calls Try.prog 52 #[wayV c b, .string name, .string s] w fun e w' => e = .returned (.string (maybeS c name s)) ∧ Below w.heap.size w w' := by
  have HC := Aside0.mk (fun W => named_any c b name s W hn hs)
  cases h : ruleNamed c with
  | true =>
    have HN := Aside0.mk (show maybeS c name s = namedS c name s from if_pos h)
    unfold wayV at HC ⊢
    rw [h] at HC ⊢
    go_enter Try.func52, Try.ntmps52
    go_wp2_with fail
    refine (HC.out _).mono ?_
    rintro e w1 ⟨rfl, hb⟩
    have HB := Aside0.mk (below_step (w := w) (X.below_new1 w _) hb)
    clear hb
    go_wp2_with fail
    go_ret
    exact ⟨by rw [HN.out]; rfl, HB.out⟩
  | false =>
    have HN := Aside0.mk (show maybeS c name s = s from if_neg (by rw [h]; decide))
    unfold wayV
    rw [h]
    go_enter Try.func52, Try.ntmps52
    go_wp2_with fail
    go_ret
    exact ⟨by rw [HN.out]; rfl, X.below_new1 _ _⟩
/-- A world is forgotten but for some facts. -/
theorem forget {P : World → Prop} (w0 : World) (F : World → Prop) (h0 : F w0) (h : ∀ w1, F w1 → P w1) : P w0 := h _ h0
theorem prefixS_size (s : ByteArray) (m : Nat) : (prefixS s m).size ≤ s.size := by
  unfold prefixS
  rw [ByteArray.size_extract, ByteArray.size_extract]; omega
def wayText.T3 : Bool × List (List Nat × List Nat) := (true, [([], []), ([], []), ([1], [1]), ([], []), ([3], [3]), ([], []), ([4, 5], [4, 5]), ([0, 2, 6, 6], [0, 2, 6]), ([7, 7, 0, 1, 2, 3, 4, 5, 6, 7], [7])])
def wayText.B3 : List Nat := [0, 0, 2, 0, 8, 0, 56, 127, 255]
theorem wayText.tab3 : rtab .any (opsOf Try.f26 3) = wayText.T3 := by kernel_rfl
theorem wayText.bits3 : waitsOk wayText.T3.2 wayText.B3 = true := by kernel_rfl

set_option maxHeartbeats 4000000 in
set_option maxRecDepth 100000 in
theorem text_any (c : Int) (rb : Nat) (name : ByteArray) (mx : Int) (star : Bool) (s : ByteArray) (w : World) (hn : name.size ≤ 1000000) (hs : s.size ≤ 1000000) (hm0 : 0 ≤ mx) (hm : mx ≤ 1000000) (hb : w.heap[rb]? = some (.cells (ruleCells c) 43 (0, 0))) :
    Calls Try.prog 26 #[wayV c rb, .agg #[.string name, .int .i64 mx, .bool star], .string s] w fun e w' => e = .returned (.string (textS c name mx s)) ∧ Below w.heap.size w w' := by
  have HM := Aside0.mk (fun s W hs => maybe_any c rb name s W hn hs)
  have HO := Aside0.mk (fun s W hs hb => ofEnc_any s rb c W hs hb)
  unfold wayV at HM ⊢
  have HR := Aside0.mk hb
  clear hb
  by_cases h : 0 < mx
  · obtain ⟨m, rfl⟩ : ∃ m : Nat, mx = m := ⟨mx.toNat, by omega⟩
    have HN := Aside0.mk (show textS c name m s = maybeS c name (encS (ruleKeep c) (prefixS s m)) by unfold textS; rw [if_pos h]; rfl)
    go_enter Try.func26, Try.ntmps26
    go_wp2_with fail
    refine (utfPrefix_any s m _ hs (by omega)).mono ?_
    rintro e w1 ⟨rfl, hb1⟩
    have HRU := Aside0.mk (blk_below (blk_alloc (blk_alloc HR.out _) _) hb1)
    have HSP := Aside0.mk (blk_below (X.blk_new2 w _ _) hb1)
    have HWY := Aside0.mk (blk_below (blk_alloc (blk_new w _) _) hb1)
    have HB := Aside0.mk (below_step (w := w) (X.below_new2 w _ _) hb1)
    have hsz : (prefixS s m).size ≤ 1000000 := by have := prefixS_size s m; omega
    clear hb1
    generalize prefixS s m = t at *
    have hsz2 : (encS (ruleKeep c) t).size ≤ 10000000 := by have := encS_size (ruleKeep c) t; omega
    go_wp2_with fail
    refine start_ (n := 9) (S := fun w' => True) (ds := []) #[false, false, false, false, false, false, false, false, false] (by kernel_rfl) rfl rfl trivial (fun hHeld => ?_)
    refine with_tabW wayText.tab3 wayText.bits3 (fun HT_ HW_ => ?_)
    refine inv_at [0, 1, 2, 3, 4, 5, 6, 7, 8] (fun a0_ b a w' => a = putSel a0_ b [(0, 14, .agg #[.string (ruleFirst c), .string (ruleSep c), .bool (ruleNamed c), .string (ruleEmpty c), .bool (ruleKeep c), .func (.func 44) #[] #[.pointer (some ⟨rb, 0, none⟩)]]), (1, 15, .pointer (some ⟨w.heap.size + 1, 0, none⟩)), (2, 16, .string name), (3, 17, .pointer (some ⟨w.heap.size, 5, none⟩)), (4, 18, .func (.func 44) #[] #[.pointer (some ⟨rb, 0, none⟩)]), (5, 19, .string t), (6, 20, .string (encS (ruleKeep c) t)), (7, 21, .string (maybeS c name (encS (ruleKeep c) t))), (8, 6, .string (maybeS c name (encS (ruleKeep c) t)))] ∧ Below w1.drew.heap.size w1.drew w') HT_.out HW_.out (by kernel_rfl) (by kernel_rfl) ?_ ?_ ?_
    · exact ⟨by simp only [putSel, Bool.false_eq_true, if_false], Below.refl _ _⟩
    · clear hHeld HT_ HW_
      refine steps_cons ?_ ?_
      · rintro b a w' ⟨ha, HBW⟩ hb_ hon hoff
        refine ⟨_, rfl, fun K hK => ?_⟩
        have e3 : a.tmps[3]? = some (.pointer (some ⟨w.heap.size, 0, none⟩)) := by rw [ha]; exact (putSel_off rfl).trans rfl
        replace ha := Aside0.mk ha
        have HBW := Aside0.mk HBW
        obtain ⟨c0_, c1_, c2_, c3_, c4_, c5_⟩ := cells6 (blk_below (blk_drew HWY.out) HBW.out)
        refine value_ (w1 := w') (v := .agg #[.string (ruleFirst c), .string (ruleSep c), .bool (ruleNamed c), .string (ruleEmpty c), .bool (ruleKeep c), .func (.func 44) #[] #[.pointer (some ⟨rb, 0, none⟩)]]) (by rfl) rfl ?_ ?_
        · go_simp
          (try simp only [i64_w])
          try rfl
        refine hK.out _ _ ⟨(by rw [ha.out]; exact putSel_upk 0 hb_ rfl rfl rfl), HBW.out⟩
      refine steps_cons ?_ ?_
      · rintro b a w' ⟨ha, HBW⟩ hb_ hon hoff
        refine ⟨_, rfl, fun K hK => ?_⟩
        have e4 : a.tmps[4]? = some (.pointer (some ⟨w.heap.size + 1, 0, none⟩)) := by rw [ha]; exact (putSel_off rfl).trans rfl
        replace ha := Aside0.mk ha
        have HBW := Aside0.mk HBW
        refine value_ (w1 := w') (v := .pointer (some ⟨w.heap.size + 1, 0, none⟩)) (by rfl) rfl ?_ ?_
        · go_simp
          (try simp only [i64_w])
          try rfl
        refine hK.out _ _ ⟨(by rw [ha.out]; exact putSel_upk 1 hb_ rfl rfl rfl), HBW.out⟩
      refine steps_cons ?_ ?_
      · rintro b a w' ⟨ha, HBW⟩ hb_ hon hoff
        refine ⟨_, rfl, fun K hK => ?_⟩
        have e15 : a.tmps[15]? = some (.pointer (some ⟨w.heap.size + 1, 0, none⟩)) := by rw [ha]; exact putSel_on (e := (1, 15, .pointer (some ⟨w.heap.size + 1, 0, none⟩))) 1 rfl rfl (hon 1 (by kernel_rfl)) rfl
        replace ha := Aside0.mk ha
        have HBW := Aside0.mk HBW
        have c0_ := (blk_cell (blk_below (blk_drew HSP.out) HBW.out) 0).trans rfl
        refine value_ (w1 := w') (v := .string name) (by rfl) rfl ?_ ?_
        · go_simp
          (try simp only [i64_w])
          try rfl
        refine hK.out _ _ ⟨(by rw [ha.out]; exact putSel_upk 2 hb_ rfl rfl rfl), HBW.out⟩
      refine steps_cons ?_ ?_
      · rintro b a w' ⟨ha, HBW⟩ hb_ hon hoff
        refine ⟨_, rfl, fun K hK => ?_⟩
        have e3 : a.tmps[3]? = some (.pointer (some ⟨w.heap.size, 0, none⟩)) := by rw [ha]; exact (putSel_off rfl).trans rfl
        replace ha := Aside0.mk ha
        have HBW := Aside0.mk HBW
        refine value_ (w1 := w') (v := .pointer (some ⟨w.heap.size, 5, none⟩)) (by rfl) rfl ?_ ?_
        · go_simp
          (try simp only [i64_w])
          try rfl
        refine hK.out _ _ ⟨(by rw [ha.out]; exact putSel_upk 3 hb_ rfl rfl rfl), HBW.out⟩
      refine steps_cons ?_ ?_
      · rintro b a w' ⟨ha, HBW⟩ hb_ hon hoff
        refine ⟨_, rfl, fun K hK => ?_⟩
        have e17 : a.tmps[17]? = some (.pointer (some ⟨w.heap.size, 5, none⟩)) := by rw [ha]; exact putSel_on (e := (3, 17, .pointer (some ⟨w.heap.size, 5, none⟩))) 3 rfl rfl (hon 3 (by kernel_rfl)) rfl
        replace ha := Aside0.mk ha
        have HBW := Aside0.mk HBW
        have c0_ := (blk_cell (blk_below (blk_drew HWY.out) HBW.out) 5).trans rfl
        refine value_ (w1 := w') (v := .func (.func 44) #[] #[.pointer (some ⟨rb, 0, none⟩)]) (by rfl) rfl ?_ ?_
        · go_simp
          (try simp only [i64_w])
          try rfl
        refine hK.out _ _ ⟨(by rw [ha.out]; exact putSel_upk 4 hb_ rfl rfl rfl), HBW.out⟩
      refine steps_cons ?_ ?_
      · rintro b a w' ⟨ha, HBW⟩ hb_ hon hoff
        refine ⟨_, rfl, fun K hK => ?_⟩
        have e2 : a.tmps[2]? = some (.string t) := by rw [ha]; exact (putSel_off rfl).trans rfl
        replace ha := Aside0.mk ha
        have HBW := Aside0.mk HBW
        refine value_ (w1 := w') (v := .string t) (by rfl) rfl ?_ ?_
        · go_simp
          (try simp only [i64_w])
          try rfl
        refine hK.out _ _ ⟨(by rw [ha.out]; exact putSel_upk 5 hb_ rfl rfl rfl), HBW.out⟩
      refine steps_cons ?_ ?_
      · rintro b a w' ⟨ha, HBW⟩ hb_ hon hoff
        refine ⟨_, rfl, fun K hK => ?_⟩
        have e18 : a.tmps[18]? = some (.func (.func 44) #[] #[.pointer (some ⟨rb, 0, none⟩)]) := by rw [ha]; exact putSel_on (e := (4, 18, .func (.func 44) #[] #[.pointer (some ⟨rb, 0, none⟩)])) 4 rfl rfl (hon 4 (by kernel_rfl)) rfl
        have e19 : a.tmps[19]? = some (.string t) := by rw [ha]; exact putSel_on (e := (5, 19, .string t)) 5 rfl rfl (hon 5 (by kernel_rfl)) rfl
        replace ha := Aside0.mk ha
        have HBW := Aside0.mk HBW
        have eg_ := fun args W => enters_ (P := Try.prog) Try.func44 (by kernel_rfl) rfl args W
        refine call_ 44 #[.string t, .pointer (some ⟨rb, 0, none⟩)] (by rfl) rfl ?_ ?_
        · unfold execOp; simp only [resolve, Deferred.ofValue, invoke, Act.eval, Array.getD_eq_getD_getElem?, Option.getD_some, e18, e19]
          go_simp
          try rfl
        refine (HO.out t w' hsz (blk_below (blk_drew HRU.out) HBW.out)).mono ?_
        rintro e w1 ⟨rfl, hb⟩
        refine ⟨_, rfl, ?_⟩
        refine hK.out _ _ ⟨(by rw [ha.out]; exact putSel_upk 6 hb_ rfl rfl rfl), below_step HBW.out hb⟩
      refine steps_cons ?_ ?_
      · rintro b a w' ⟨ha, HBW⟩ hb_ hon hoff
        refine ⟨_, rfl, fun K hK => ?_⟩
        have e14 : a.tmps[14]? = some (.agg #[.string (ruleFirst c), .string (ruleSep c), .bool (ruleNamed c), .string (ruleEmpty c), .bool (ruleKeep c), .func (.func 44) #[] #[.pointer (some ⟨rb, 0, none⟩)]]) := by rw [ha]; exact putSel_on (e := (0, 14, .agg #[.string (ruleFirst c), .string (ruleSep c), .bool (ruleNamed c), .string (ruleEmpty c), .bool (ruleKeep c), .func (.func 44) #[] #[.pointer (some ⟨rb, 0, none⟩)]])) 0 rfl rfl (hon 0 (by kernel_rfl)) rfl
        have e16 : a.tmps[16]? = some (.string name) := by rw [ha]; exact putSel_on (e := (2, 16, .string name)) 2 rfl rfl (hon 2 (by kernel_rfl)) rfl
        have e20 : a.tmps[20]? = some (.string (encS (ruleKeep c) t)) := by rw [ha]; exact putSel_on (e := (6, 20, .string (encS (ruleKeep c) t))) 6 rfl rfl (hon 6 (by kernel_rfl)) rfl
        replace ha := Aside0.mk ha
        have HBW := Aside0.mk HBW
        refine goes_ Try.func52 (by kernel_rfl) rfl #[.agg #[.string (ruleFirst c), .string (ruleSep c), .bool (ruleNamed c), .string (ruleEmpty c), .bool (ruleKeep c), .func (.func 44) #[] #[.pointer (some ⟨rb, 0, none⟩)]], .string name, .string (encS (ruleKeep c) t)] (by rfl) rfl rfl (by first | (simp only [List.map_toArray, List.map_cons, List.map_nil, Act.eval, Array.getD_eq_getD_getElem?, Option.getD_some, e14, e16, e20]; done) | (simp only [List.map_toArray, List.map_cons, List.map_nil, Act.eval, Array.getD_eq_getD_getElem?, Option.getD_some, e14, e16, e20]; rfl)) ?_
        refine (HM.out _ w' hsz2).mono ?_
        rintro e w1 ⟨rfl, hb⟩
        refine ⟨_, rfl, ?_⟩
        refine hK.out _ _ ⟨(by rw [ha.out]; exact putSel_upk 7 hb_ rfl rfl rfl), below_step HBW.out hb⟩
      refine steps_cons ?_ ?_
      · rintro b a w' ⟨ha, HBW⟩ hb_ hon hoff
        refine ⟨_, rfl, fun K hK => ?_⟩
        have e21 : a.tmps[21]? = some (.string (maybeS c name (encS (ruleKeep c) t))) := by rw [ha]; exact putSel_on (e := (7, 21, .string (maybeS c name (encS (ruleKeep c) t)))) 7 rfl rfl (hon 7 (by kernel_rfl)) rfl
        replace ha := Aside0.mk ha
        have HBW := Aside0.mk HBW
        refine value_ (w1 := w') (v := .string (maybeS c name (encS (ruleKeep c) t))) (by rfl) rfl ?_ ?_
        · go_simp
          (try simp only [i64_w])
          try rfl
        refine hK.out _ _ ⟨(by rw [ha.out]; exact putSel_upk 8 hb_ rfl rfl rfl), HBW.out⟩
      exact steps_nil
    rintro b a w5 hall ⟨ha, HBW⟩
    have hb0_ := hall 0 (by kernel_rfl)
    have hb1_ := hall 1 (by kernel_rfl)
    have hb2_ := hall 2 (by kernel_rfl)
    have hb3_ := hall 3 (by kernel_rfl)
    have hb4_ := hall 4 (by kernel_rfl)
    have hb5_ := hall 5 (by kernel_rfl)
    have hb6_ := hall 6 (by kernel_rfl)
    have hb7_ := hall 7 (by kernel_rfl)
    have hb8_ := hall 8 (by kernel_rfl)
    subst ha
    simp only [putSel, hb0_, hb1_, hb2_, hb3_, hb4_, hb5_, hb6_, hb7_, hb8_, if_true, Act.put, List.setIfInBounds_toArray, List.set_cons_zero, List.set_cons_succ]
    have HBW := Aside0.mk HBW
    clear hall hb0_ hb1_ hb2_ hb3_ hb4_ hb5_ hb6_ hb7_ hb8_
    go_wp2_with fail
    go_ret
    exact ⟨by rw [HN.out]; rfl, below_step (below_drew1 HB.out) HBW.out⟩
  · have HN := Aside0.mk (show textS c name mx s = maybeS c name (encS (ruleKeep c) s) by unfold textS; rw [if_neg h])
    obtain rfl : mx = 0 := by omega
    go_enter Try.func26, Try.ntmps26
    go_wp2_with fail
    refine forget (P := fun W => Code.wp _ _ _ _ W) _ (fun w1 => w1.heap[rb]? = some (.cells (ruleCells c) 43 (0, 0)) ∧ w1.heap[w.heap.size + 1]? = some (.cells #[.string name, .int .i64 0, .bool star] 23 (0, 0)) ∧ w1.heap[w.heap.size]? = some (.cells #[.string (ruleFirst c), .string (ruleSep c), .bool (ruleNamed c), .string (ruleEmpty c), .bool (ruleKeep c), .func (.func 44) #[] #[.pointer (some ⟨rb, 0, none⟩)]] 53 (0, 0)) ∧ Below w.heap.size w w1) ⟨blk_alloc (blk_alloc HR.out _) _, X.blk_new2 w _ _, blk_alloc (blk_new w _) _, X.below_new2 w _ _⟩ ?_
    rintro w1 ⟨hru, hsp, hwy, hbl⟩
    have HRU := Aside0.mk hru
    have HSP := Aside0.mk hsp
    have HWY := Aside0.mk hwy
    have HB := Aside0.mk hbl
    clear hru hsp hwy hbl
    have hsz := hs
    have hsz2 : (encS (ruleKeep c) s).size ≤ 10000000 := by have := encS_size (ruleKeep c) s; omega
    refine start_ (n := 9) (S := fun w' => True) (ds := []) #[false, false, false, false, false, false, false, false, false] (by kernel_rfl) rfl rfl trivial (fun hHeld => ?_)
    refine with_tabW wayText.tab3 wayText.bits3 (fun HT_ HW_ => ?_)
    refine inv_at [0, 1, 2, 3, 4, 5, 6, 7, 8] (fun a0_ b a w' => a = putSel a0_ b [(0, 14, .agg #[.string (ruleFirst c), .string (ruleSep c), .bool (ruleNamed c), .string (ruleEmpty c), .bool (ruleKeep c), .func (.func 44) #[] #[.pointer (some ⟨rb, 0, none⟩)]]), (1, 15, .pointer (some ⟨w.heap.size + 1, 0, none⟩)), (2, 16, .string name), (3, 17, .pointer (some ⟨w.heap.size, 5, none⟩)), (4, 18, .func (.func 44) #[] #[.pointer (some ⟨rb, 0, none⟩)]), (5, 19, .string s), (6, 20, .string (encS (ruleKeep c) s)), (7, 21, .string (maybeS c name (encS (ruleKeep c) s))), (8, 6, .string (maybeS c name (encS (ruleKeep c) s)))] ∧ Below w1.drew.heap.size w1.drew w') HT_.out HW_.out (by kernel_rfl) (by kernel_rfl) ?_ ?_ ?_
    · exact ⟨by simp only [putSel, Bool.false_eq_true, if_false], Below.refl _ _⟩
    · clear hHeld HT_ HW_
      refine steps_cons ?_ ?_
      · rintro b a w' ⟨ha, HBW⟩ hb_ hon hoff
        refine ⟨_, rfl, fun K hK => ?_⟩
        have e3 : a.tmps[3]? = some (.pointer (some ⟨w.heap.size, 0, none⟩)) := by rw [ha]; exact (putSel_off rfl).trans rfl
        replace ha := Aside0.mk ha
        have HBW := Aside0.mk HBW
        obtain ⟨c0_, c1_, c2_, c3_, c4_, c5_⟩ := cells6 (blk_below (blk_drew HWY.out) HBW.out)
        refine value_ (w1 := w') (v := .agg #[.string (ruleFirst c), .string (ruleSep c), .bool (ruleNamed c), .string (ruleEmpty c), .bool (ruleKeep c), .func (.func 44) #[] #[.pointer (some ⟨rb, 0, none⟩)]]) (by rfl) rfl ?_ ?_
        · go_simp
          (try simp only [i64_w])
          try rfl
        refine hK.out _ _ ⟨(by rw [ha.out]; exact putSel_upk 0 hb_ rfl rfl rfl), HBW.out⟩
      refine steps_cons ?_ ?_
      · rintro b a w' ⟨ha, HBW⟩ hb_ hon hoff
        refine ⟨_, rfl, fun K hK => ?_⟩
        have e4 : a.tmps[4]? = some (.pointer (some ⟨w.heap.size + 1, 0, none⟩)) := by rw [ha]; exact (putSel_off rfl).trans rfl
        replace ha := Aside0.mk ha
        have HBW := Aside0.mk HBW
        refine value_ (w1 := w') (v := .pointer (some ⟨w.heap.size + 1, 0, none⟩)) (by rfl) rfl ?_ ?_
        · go_simp
          (try simp only [i64_w])
          try rfl
        refine hK.out _ _ ⟨(by rw [ha.out]; exact putSel_upk 1 hb_ rfl rfl rfl), HBW.out⟩
      refine steps_cons ?_ ?_
      · rintro b a w' ⟨ha, HBW⟩ hb_ hon hoff
        refine ⟨_, rfl, fun K hK => ?_⟩
        have e15 : a.tmps[15]? = some (.pointer (some ⟨w.heap.size + 1, 0, none⟩)) := by rw [ha]; exact putSel_on (e := (1, 15, .pointer (some ⟨w.heap.size + 1, 0, none⟩))) 1 rfl rfl (hon 1 (by kernel_rfl)) rfl
        replace ha := Aside0.mk ha
        have HBW := Aside0.mk HBW
        have c0_ := (blk_cell (blk_below (blk_drew HSP.out) HBW.out) 0).trans rfl
        refine value_ (w1 := w') (v := .string name) (by rfl) rfl ?_ ?_
        · go_simp
          (try simp only [i64_w])
          try rfl
        refine hK.out _ _ ⟨(by rw [ha.out]; exact putSel_upk 2 hb_ rfl rfl rfl), HBW.out⟩
      refine steps_cons ?_ ?_
      · rintro b a w' ⟨ha, HBW⟩ hb_ hon hoff
        refine ⟨_, rfl, fun K hK => ?_⟩
        have e3 : a.tmps[3]? = some (.pointer (some ⟨w.heap.size, 0, none⟩)) := by rw [ha]; exact (putSel_off rfl).trans rfl
        replace ha := Aside0.mk ha
        have HBW := Aside0.mk HBW
        refine value_ (w1 := w') (v := .pointer (some ⟨w.heap.size, 5, none⟩)) (by rfl) rfl ?_ ?_
        · go_simp
          (try simp only [i64_w])
          try rfl
        refine hK.out _ _ ⟨(by rw [ha.out]; exact putSel_upk 3 hb_ rfl rfl rfl), HBW.out⟩
      refine steps_cons ?_ ?_
      · rintro b a w' ⟨ha, HBW⟩ hb_ hon hoff
        refine ⟨_, rfl, fun K hK => ?_⟩
        have e17 : a.tmps[17]? = some (.pointer (some ⟨w.heap.size, 5, none⟩)) := by rw [ha]; exact putSel_on (e := (3, 17, .pointer (some ⟨w.heap.size, 5, none⟩))) 3 rfl rfl (hon 3 (by kernel_rfl)) rfl
        replace ha := Aside0.mk ha
        have HBW := Aside0.mk HBW
        have c0_ := (blk_cell (blk_below (blk_drew HWY.out) HBW.out) 5).trans rfl
        refine value_ (w1 := w') (v := .func (.func 44) #[] #[.pointer (some ⟨rb, 0, none⟩)]) (by rfl) rfl ?_ ?_
        · go_simp
          (try simp only [i64_w])
          try rfl
        refine hK.out _ _ ⟨(by rw [ha.out]; exact putSel_upk 4 hb_ rfl rfl rfl), HBW.out⟩
      refine steps_cons ?_ ?_
      · rintro b a w' ⟨ha, HBW⟩ hb_ hon hoff
        refine ⟨_, rfl, fun K hK => ?_⟩
        have e2 : a.tmps[2]? = some (.string s) := by rw [ha]; exact (putSel_off rfl).trans rfl
        replace ha := Aside0.mk ha
        have HBW := Aside0.mk HBW
        refine value_ (w1 := w') (v := .string s) (by rfl) rfl ?_ ?_
        · go_simp
          (try simp only [i64_w])
          try rfl
        refine hK.out _ _ ⟨(by rw [ha.out]; exact putSel_upk 5 hb_ rfl rfl rfl), HBW.out⟩
      refine steps_cons ?_ ?_
      · rintro b a w' ⟨ha, HBW⟩ hb_ hon hoff
        refine ⟨_, rfl, fun K hK => ?_⟩
        have e18 : a.tmps[18]? = some (.func (.func 44) #[] #[.pointer (some ⟨rb, 0, none⟩)]) := by rw [ha]; exact putSel_on (e := (4, 18, .func (.func 44) #[] #[.pointer (some ⟨rb, 0, none⟩)])) 4 rfl rfl (hon 4 (by kernel_rfl)) rfl
        have e19 : a.tmps[19]? = some (.string s) := by rw [ha]; exact putSel_on (e := (5, 19, .string s)) 5 rfl rfl (hon 5 (by kernel_rfl)) rfl
        replace ha := Aside0.mk ha
        have HBW := Aside0.mk HBW
        have eg_ := fun args W => enters_ (P := Try.prog) Try.func44 (by kernel_rfl) rfl args W
        refine call_ 44 #[.string s, .pointer (some ⟨rb, 0, none⟩)] (by rfl) rfl ?_ ?_
        · unfold execOp; simp only [resolve, Deferred.ofValue, invoke, Act.eval, Array.getD_eq_getD_getElem?, Option.getD_some, e18, e19]
          go_simp
          try rfl
        refine (HO.out s w' hsz (blk_below (blk_drew HRU.out) HBW.out)).mono ?_
        rintro e w1 ⟨rfl, hb⟩
        refine ⟨_, rfl, ?_⟩
        refine hK.out _ _ ⟨(by rw [ha.out]; exact putSel_upk 6 hb_ rfl rfl rfl), below_step HBW.out hb⟩
      refine steps_cons ?_ ?_
      · rintro b a w' ⟨ha, HBW⟩ hb_ hon hoff
        refine ⟨_, rfl, fun K hK => ?_⟩
        have e14 : a.tmps[14]? = some (.agg #[.string (ruleFirst c), .string (ruleSep c), .bool (ruleNamed c), .string (ruleEmpty c), .bool (ruleKeep c), .func (.func 44) #[] #[.pointer (some ⟨rb, 0, none⟩)]]) := by rw [ha]; exact putSel_on (e := (0, 14, .agg #[.string (ruleFirst c), .string (ruleSep c), .bool (ruleNamed c), .string (ruleEmpty c), .bool (ruleKeep c), .func (.func 44) #[] #[.pointer (some ⟨rb, 0, none⟩)]])) 0 rfl rfl (hon 0 (by kernel_rfl)) rfl
        have e16 : a.tmps[16]? = some (.string name) := by rw [ha]; exact putSel_on (e := (2, 16, .string name)) 2 rfl rfl (hon 2 (by kernel_rfl)) rfl
        have e20 : a.tmps[20]? = some (.string (encS (ruleKeep c) s)) := by rw [ha]; exact putSel_on (e := (6, 20, .string (encS (ruleKeep c) s))) 6 rfl rfl (hon 6 (by kernel_rfl)) rfl
        replace ha := Aside0.mk ha
        have HBW := Aside0.mk HBW
        refine goes_ Try.func52 (by kernel_rfl) rfl #[.agg #[.string (ruleFirst c), .string (ruleSep c), .bool (ruleNamed c), .string (ruleEmpty c), .bool (ruleKeep c), .func (.func 44) #[] #[.pointer (some ⟨rb, 0, none⟩)]], .string name, .string (encS (ruleKeep c) s)] (by rfl) rfl rfl (by first | (simp only [List.map_toArray, List.map_cons, List.map_nil, Act.eval, Array.getD_eq_getD_getElem?, Option.getD_some, e14, e16, e20]; done) | (simp only [List.map_toArray, List.map_cons, List.map_nil, Act.eval, Array.getD_eq_getD_getElem?, Option.getD_some, e14, e16, e20]; rfl)) ?_
        refine (HM.out _ w' hsz2).mono ?_
        rintro e w1 ⟨rfl, hb⟩
        refine ⟨_, rfl, ?_⟩
        refine hK.out _ _ ⟨(by rw [ha.out]; exact putSel_upk 7 hb_ rfl rfl rfl), below_step HBW.out hb⟩
      refine steps_cons ?_ ?_
      · rintro b a w' ⟨ha, HBW⟩ hb_ hon hoff
        refine ⟨_, rfl, fun K hK => ?_⟩
        have e21 : a.tmps[21]? = some (.string (maybeS c name (encS (ruleKeep c) s))) := by rw [ha]; exact putSel_on (e := (7, 21, .string (maybeS c name (encS (ruleKeep c) s)))) 7 rfl rfl (hon 7 (by kernel_rfl)) rfl
        replace ha := Aside0.mk ha
        have HBW := Aside0.mk HBW
        refine value_ (w1 := w') (v := .string (maybeS c name (encS (ruleKeep c) s))) (by rfl) rfl ?_ ?_
        · go_simp
          (try simp only [i64_w])
          try rfl
        refine hK.out _ _ ⟨(by rw [ha.out]; exact putSel_upk 8 hb_ rfl rfl rfl), HBW.out⟩
      exact steps_nil
    rintro b a w5 hall ⟨ha, HBW⟩
    have hb0_ := hall 0 (by kernel_rfl)
    have hb1_ := hall 1 (by kernel_rfl)
    have hb2_ := hall 2 (by kernel_rfl)
    have hb3_ := hall 3 (by kernel_rfl)
    have hb4_ := hall 4 (by kernel_rfl)
    have hb5_ := hall 5 (by kernel_rfl)
    have hb6_ := hall 6 (by kernel_rfl)
    have hb7_ := hall 7 (by kernel_rfl)
    have hb8_ := hall 8 (by kernel_rfl)
    subst ha
    simp only [putSel, hb0_, hb1_, hb2_, hb3_, hb4_, hb5_, hb6_, hb7_, hb8_, if_true, Act.put, List.setIfInBounds_toArray, List.set_cons_zero, List.set_cons_succ]
    have HBW := Aside0.mk HBW
    clear hall hb0_ hb1_ hb2_ hb3_ hb4_ hb5_ hb6_ hb7_ hb8_
    go_wp2_with fail
    go_ret
    exact ⟨by rw [HN.out]; rfl, below_step (below_drew1 HB.out) HBW.out⟩
end Go.Proofs.Ytbjeegkmafbejaa.X
