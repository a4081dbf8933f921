/- Texts of this claim, those that nothing needs left out: Xbg Xbh Xbk Xbl PEx0. -/
import Derived.Test.YtbjeegkmafbejaaErG3
import Derived.Test.YtbjeegkmafbejaaErG2
import Derived.Lib.Join
import Derived.Test.YtbjeegkmafbejaaProg
import Derived.Below
import Derived.Deep.Draws
import Derived.Deep.AppendLies
import Derived.Maps.AppendAt
import Derived.OwnWalk
import Derived.Laws.BytesArg
import Derived.Laws.MakeOwn
import Derived.Laws.OwnMore
import Derived.Deep.OwnRows
import Derived.Tactics
import Derived.Lib.ConvBytes
import Derived.Laws.Slices
import Derived.WalkKit
import Derived.KernelRfl
import Derived.RowKit3
import Derived.Deep.LoopGhost
import Derived.Deep.QuietTactic
import Derived.BigQuiet
import Derived.WideLaws
import Derived.Deep.DeepCutAuto
import Derived.Deep.CutBlock
import Derived.Deep.RegionHeld3
import Derived.Laws.Rows
import Derived.Lib.AppendStr
import Derived.ArgAppend
import Derived.Laws.IdiomCopy
import Derived.OrdersHeld
import Derived.Laws.BitsLemmas
import Derived.RowKit
import Derived.WalkSpells
import Derived.WalkLawsBesides
import Derived.Outline
import Derived.Deep.DeepMust
import Derived.Test.YtbjeegkmafbejaaErG0
import Derived.Test.YtbjeegkmafbejaaErG1
section
namespace Go.Proofs.Ytbjeegkmafbejaa.X
set_option linter.unusedSimpArgs false
set_option linter.unusedVariables false
open Go.RowKit Go.Proofs.YtbjeegkmafbejaaW.PrintWords Go.Proofs.YtbjeegkmafbejaaW.PrintLast Go.Proofs.YtbjeegkmafbejaaW.PrintMore Go.Proofs.Ytbjeegkmafbejaa.Y Go.Joins
def encS (keep : Bool) (s : ByteArray) : ByteArray := ⟨(encTo keep s s.size).toArray⟩
theorem encS_size (keep : Bool) (s : ByteArray) : (encS keep s).size ≤ 3 * s.size := encTo_len keep s s.size
theorem encode_any (s : ByteArray) (keep : Bool) (w : World) (hs : s.size ≤ 1000000) : Calls Try.prog 45 #[.string s, .bool keep] w fun e w' => e = .returned (.string (encS keep s)) ∧ Below w.heap.size w w' := by
  cases keep with
  | true => exact encode_keep s w hs
  | false => exact encode_plain s w hs
theorem ofEnc_any (s : ByteArray) (b : Nat) (c : Int) (w : World) (hs : s.size ≤ 1000000) (hb : w.heap[b]? = some (.cells (ruleCells c) 43 (0, 0))) :
    Calls Try.prog 44 #[.string s, .pointer (some ⟨b, 0, none⟩)] w fun e w' => e = .returned (.string (encS (ruleKeep c) s)) ∧ Below w.heap.size w w' := by
  have h4 := (cells5 hb).2.2.2.2
  go_enter Try.func44, Try.ntmps44
  go_wp2_with fail
  refine (encode_any _ _ _ hs).mono ?_
  rintro e w1 ⟨rfl, hb1⟩
  have HB := Aside0.mk hb1
  clear hb1
  go_wp2_with fail
  go_ret
  exact ⟨rfl, HB.out⟩
def wayV (c : Int) (b : Nat) : Value := .agg #[.string (ruleFirst c), .string (ruleSep c), .bool (ruleNamed c), .string (ruleEmpty c), .bool (ruleKeep c), .func (.func 44) #[] #[.pointer (some ⟨b, 0, none⟩)]]
theorem exec_store {P : Program} {ev : Operand → Value} {o : Oper} {t : TypeId} {p v : Operand} (ho : o.op = .store t p v) {W w1 : World} (h : (Instr.storeAt t (ev p) (ev v)).run P W = .ok () w1) : (execOp ev o).run P W = .ok .skip w1 := by
  unfold execOp
  rw [ho]
  simp [h, Result.andThen]
theorem blk6 {w : World} {B : Nat} {a b c d e f v0 v1 v2 v3 v4 v5 : Value} {t : TypeId} (h : w.heap[B]? = some (.cells #[a, b, c, d, e, f] t (0, 0))) :
    ((((((w.setCell ⟨B, 0, none⟩ v0).setCell ⟨B, 1, none⟩ v1).setCell ⟨B, 2, none⟩ v2).setCell ⟨B, 3, none⟩ v3).setCell ⟨B, 4, none⟩ v4).setCell ⟨B, 5, none⟩ v5).heap[B]? = some (.cells #[v0, v1, v2, v3, v4, v5] t (0, 0)) :=
  blk_put (blk_put (blk_put (blk_put (blk_put (blk_put h 0 _ rfl) 1 _ rfl) 2 _ rfl) 3 _ rfl) 4 _ rfl) 5 _ rfl
theorem far6 {w : World} {B G : Nat} {cs : Array Value} {v0 v1 v2 v3 v4 v5 : Value} {t : TypeId} (h : w.heap[G]? = some (.cells cs t (0, 0))) (hne : G ≠ B) :
    ((((((w.setCell ⟨B, 0, none⟩ v0).setCell ⟨B, 1, none⟩ v1).setCell ⟨B, 2, none⟩ v2).setCell ⟨B, 3, none⟩ v3).setCell ⟨B, 4, none⟩ v4).setCell ⟨B, 5, none⟩ v5).heap[G]? = some (.cells cs t (0, 0)) :=
  blk_far (blk_far (blk_far (blk_far (blk_far (blk_far h hne _) hne _) hne _) hne _) hne _) hne _
theorem below6 {w0 w : World} {B : Nat} {v0 v1 v2 v3 v4 v5 : Value} (h : Below w0.heap.size w0 w) (hB : w0.heap.size ≤ B) :
    Below w0.heap.size w0 ((((((w.setCell ⟨B, 0, none⟩ v0).setCell ⟨B, 1, none⟩ v1).setCell ⟨B, 2, none⟩ v2).setCell ⟨B, 3, none⟩ v3).setCell ⟨B, 4, none⟩ v4).setCell ⟨B, 5, none⟩ v5) :=
  below_set (below_set (below_set (below_set (below_set (below_set h hB) hB) hB) hB) hB) hB
theorem cells6 {w : World} {B : Nat} {a b c d e f : Value} {t : TypeId} (h : w.heap[B]? = some (.cells #[a, b, c, d, e, f] t (0, 0))) :
    w.cell? ⟨B, 0, none⟩ = some a ∧ w.cell? ⟨B, 1, none⟩ = some b ∧ w.cell? ⟨B, 2, none⟩ = some c ∧ w.cell? ⟨B, 3, none⟩ = some d ∧ w.cell? ⟨B, 4, none⟩ = some e ∧ w.cell? ⟨B, 5, none⟩ = some f := by
  refine ⟨?_, ?_, ?_, ?_, ?_, ?_⟩ <;> simp [blk_cell h]
theorem run_store_func {P : Program} {w : World} {a : Addr} {m : Mode} (f : Fn) (x y : Array Value) : (store a (.func f x y) m).run P w = stored P w a (.func f x y) m := run_store P w a _ m rfl
attribute [local go_sem] run_store_func
set_option maxHeartbeats 2000000 in
theorem store_way {w : World} {B : Nat} {a b c d e f : Value} (h : w.heap[B]? = some (.cells #[a, b, c, d, e, f] 53 (0, 0))) (x y : ByteArray) (z : Bool) (u : ByteArray) (t : Bool) (g : FuncId) (l : Array Value) :
    (Instr.storeAt 53 (.pointer (some ⟨B, 0, none⟩)) (.agg #[.string x, .string y, .bool z, .string u, .bool t, .func (.func g) #[] l])).run Try.prog w = .ok () ((((((w.setCell ⟨B, 0, none⟩ (.string x)).setCell ⟨B, 1, none⟩ (.string y)).setCell ⟨B, 2, none⟩ (.bool z)).setCell ⟨B, 3, none⟩ (.string u)).setCell ⟨B, 4, none⟩ (.bool t)).setCell ⟨B, 5, none⟩ (.func (.func g) #[] l)) := by
  have f0 := blk_frozen h 0
  have f1 := blk_frozen h 1
  have f2 := blk_frozen h 2
  have f3 := blk_frozen h 3
  have f4 := blk_frozen h 4
  have f5 := blk_frozen h 5
  have x0 := blk_cell h 0
  have x1 := blk_cell h 1
  have x2 := blk_cell h 2
  have x3 := blk_cell h 3
  have x4 := blk_cell h 4
  have x5 := blk_cell h 5
  simp only [List.getElem?_toArray, List.getElem?_cons_zero, List.getElem?_cons_succ] at x0 x1 x2 x3 x4 x5
  clear h
  go_simp
set_option maxHeartbeats 4000000 in
set_option maxRecDepth 100000 in
theorem pieceOf_any (c : Int) (w : World) (h0 : 0 ≤ c) (h1 : c ≤ 255) : Calls Try.prog 22 #[.int .u8 c] w fun e w' => ∃ b, e = .returned (.tuple #[wayV c b, .bool (isOper c)]) ∧ w'.heap[b]? = some (.cells (ruleCells c) 43 (0, 0)) ∧ Below w.heap.size w w' := by
  go_enter Try.func22, Try.ntmps22
  go_wp2_with fail
  refine (operOf_any c _ h0 h1).mono ?_
  rintro e w1 ⟨rfl, hb1⟩
  have HX := Aside0.mk (blk_below (blk_new w _) hb1)
  have HB := Aside0.mk (below_step (w := w) (X.below_new1 w _) hb1)
  clear hb1
  unfold ruleV
  have B1 := blk_alloc HX.out (.cells #[.string (ruleFirst c), .string (ruleSep c), .bool (ruleNamed c), .string (ruleEmpty c), .bool (ruleKeep c)] 43 (0, 0))
  have B2 := blk_new w1 (.cells #[.string (ruleFirst c), .string (ruleSep c), .bool (ruleNamed c), .string (ruleEmpty c), .bool (ruleKeep c)] 43 (0, 0))
  have hne : w.heap.size ≠ w1.heap.size := Nat.ne_of_lt (blk_lt HX.out)
  have HBB := Aside0.mk (below_alloc HB.out (.cells #[.string (ruleFirst c), .string (ruleSep c), .bool (ruleNamed c), .string (ruleEmpty c), .bool (ruleKeep c)] 43 (0, 0)))
  obtain ⟨r0, r1, r2, r3, r4⟩ := cells5 B2
  have HB1 := Aside0.mk B1
  have HB2 := Aside0.mk B2
  clear B1 B2
  go_wp2_with (refine store_event rfl (t := 53) (p := 2) rfl rfl (exec_store rfl (store_way HB1.out _ _ _ _ _ _ _)) ?_; rintro w' rfl)
  have hB := blk6 HB1.out (v0 := .string (ruleFirst c)) (v1 := .string (ruleSep c)) (v2 := .bool (ruleNamed c)) (v3 := .string (ruleEmpty c)) (v4 := .bool (ruleKeep c)) (v5 := .func (.func 44) #[] #[.pointer (some ⟨w1.heap.size, 0, none⟩)])
  have hF := far6 HB2.out hne.symm (v0 := .string (ruleFirst c)) (v1 := .string (ruleSep c)) (v2 := .bool (ruleNamed c)) (v3 := .string (ruleEmpty c)) (v4 := .bool (ruleKeep c)) (v5 := .func (.func 44) #[] #[.pointer (some ⟨w1.heap.size, 0, none⟩)])
  have hW := below6 HBB.out (Nat.le_refl _) (v0 := .string (ruleFirst c)) (v1 := .string (ruleSep c)) (v2 := .bool (ruleNamed c)) (v3 := .string (ruleEmpty c)) (v4 := .bool (ruleKeep c)) (v5 := .func (.func 44) #[] #[.pointer (some ⟨w1.heap.size, 0, none⟩)])
  clear r0 r1 r2 r3 r4
  generalize hWW : ((((((w1.alloc (.cells #[.string (ruleFirst c), .string (ruleSep c), .bool (ruleNamed c), .string (ruleEmpty c), .bool (ruleKeep c)] 43 (0, 0))).setCell ⟨w.heap.size, 0, none⟩ (.string (ruleFirst c))).setCell ⟨w.heap.size, 1, none⟩ (.string (ruleSep c))).setCell ⟨w.heap.size, 2, none⟩ (.bool (ruleNamed c))).setCell ⟨w.heap.size, 3, none⟩ (.string (ruleEmpty c))).setCell ⟨w.heap.size, 4, none⟩ (.bool (ruleKeep c))).setCell ⟨w.heap.size, 5, none⟩ (.func (.func 44) #[] #[.pointer (some ⟨w1.heap.size, 0, none⟩)]) = WW at hB hF hW ⊢
  obtain ⟨r0, r1, r2, r3, r4, r5⟩ := cells6 hB
  exact bodyPost_ret (v := .tuple #[wayV c w1.heap.size, .bool (isOper c)]) (by simp [results, Try.results22, go_sem, wayV, r0, r1, r2, r3, r4, r5]) rfl ⟨_, rfl, hF, hW⟩
def namedS (c : Int) (name s : ByteArray) : ByteArray := if s.size = 0 then name ++ ruleEmpty c else name ++ ⟨#[61]⟩ ++ s
def maybeS (c : Int) (name s : ByteArray) : ByteArray := if ruleNamed c = true then namedS c name s else s
def textS (c : Int) (name : ByteArray) (mx : Int) (s : ByteArray) : ByteArray := maybeS c name (encS (ruleKeep c) (if 0 < mx then prefixS s mx.toNat else s))
theorem ruleEmpty_size (c : Int) : (ruleEmpty c).size ≤ 1 := by
  unfold ruleEmpty
  split
  · decide
  split <;> decide
theorem full_ {s : ByteArray} (h : s.size ≠ 0) : s.toList.isEmpty = false := by
  rw [ByteArray.toList_eq, List.isEmpty_eq_false_iff, ← List.length_pos_iff]; simp; omega
theorem bare_ {s : ByteArray} (h : s.size = 0) : s = ⟨#[]⟩ := by
  rcases s with ⟨⟨l⟩⟩
  obtain rfl : l = [] := List.eq_nil_of_length_eq_zero h
  rfl
theorem named_any (c : Int) (b : Nat) (name s : ByteArray) (w : World) (hn : name.size ≤ 1000000) (hs : s.size ≤ 10000000) : Calls Try.prog 43 #[wayV c b, .string name, .string s] w fun e w' => e = .returned (.string (namedS c name s)) ∧ Below w.heap.size w w' := by
  by_cases h : s.size = 0
  · have HN := Aside0.mk (show namedS c name s = name ++ ruleEmpty c from if_pos h)
    obtain rfl := bare_ h
    have he := ruleEmpty_size c
    have q1 : (9223372036854775807 < name.size + (ruleEmpty c).size) = False := eq_false (by omega)
    clear he
    unfold wayV
    go_enter Try.func43, Try.ntmps43
    go_wp2_with fail
    go_ret
    exact ⟨by rw [HN.out]; rfl, X.below_new1 _ _⟩
  · have HN := Aside0.mk (show namedS c name s = name ++ ⟨#[61]⟩ ++ s from if_neg h)
    have q1 : (9223372036854775807 < name.size + (⟨#[61]⟩ : ByteArray).size) = False := eq_false (by show ¬ (_ < name.size + 1); omega)
    have q2 : (9223372036854775807 < name.size + 1) = False := eq_false (by omega)
    have q3 : (9223372036854775807 < (name ++ (⟨#[61]⟩ : ByteArray)).size + s.size) = False := eq_false (by rw [ByteArray.size_append]; show ¬ (_ < name.size + 1 + s.size); omega)
    have q4 : (9223372036854775807 < name.size + 1 + s.size) = False := eq_false (by omega)
    have q5 := full_ h
    unfold wayV
    go_enter Try.func43, Try.ntmps43
    go_wp2_with fail
    go_ret
    exact ⟨by rw [HN.out]; rfl, X.below_new1 _ _⟩
theorem namedS_size (c : Int) (name s : ByteArray) : (namedS c name s).size ≤ name.size + 1 + s.size := by
  unfold namedS
  have := ruleEmpty_size c
  split
  · rw [ByteArray.size_append]; omega
  · rw [ByteArray.size_append, ByteArray.size_append]; show name.size + 1 + s.size ≤ _; omega
theorem maybe_any (c : Int) (b : Nat) (name s : ByteArray) (w : World) (hn : name.size ≤ 1000000) (hs : s.size ≤ 10000000) : Calls Try.prog 52 #[wayV c b, .string name, .string s] w fun e w' => e = .returned (.string (maybeS c name s)) ∧ Below w.heap.size w w' := by
  have HC := Aside0.mk (fun W => named_any c b name s W hn hs)
  cases h : ruleNamed c with
  | true =>
    have HN := Aside0.mk (show maybeS c name s = namedS c name s from if_pos h)
    unfold wayV at HC ⊢
    rw [h] at HC ⊢
    go_enter Try.func52, Try.ntmps52
    go_wp2_with fail
    refine (HC.out _).mono ?_
    rintro e w1 ⟨rfl, hb⟩
    have HB := Aside0.mk (below_step (w := w) (X.below_new1 w _) hb)
    clear hb
    go_wp2_with fail
    go_ret
    exact ⟨by rw [HN.out]; rfl, HB.out⟩
  | false =>
    have HN := Aside0.mk (show maybeS c name s = s from if_neg (by rw [h]; decide))
    unfold wayV
    rw [h]
    go_enter Try.func52, Try.ntmps52
    go_wp2_with fail
    go_ret
    exact ⟨by rw [HN.out]; rfl, X.below_new1 _ _⟩
theorem forget {P : World → Prop} (w0 : World) (F : World → Prop) (h0 : F w0) (h : ∀ w1, F w1 → P w1) : P w0 := h _ h0
theorem prefixS_size (s : ByteArray) (m : Nat) : (prefixS s m).size ≤ s.size := by
  unfold prefixS
  rw [ByteArray.size_extract, ByteArray.size_extract]; omega
def wayText.T3 : Bool × List (List Nat × List Nat) := (true, [([], []), ([], []), ([1], [1]), ([], []), ([3], [3]), ([], []), ([4, 5], [4, 5]), ([0, 2, 6, 6], [0, 2, 6]), ([7, 7, 0, 1, 2, 3, 4, 5, 6, 7], [7])])
def wayText.B3 : List Nat := [0, 0, 2, 0, 8, 0, 56, 127, 255]
theorem wayText.tab3 : rtab .any (opsOf Try.f26 3) = wayText.T3 := by kernel_rfl
theorem wayText.bits3 : waitsOk wayText.T3.2 wayText.B3 = true := by kernel_rfl
set_option maxHeartbeats 4000000 in
set_option maxRecDepth 100000 in
theorem text_any (c : Int) (rb : Nat) (name : ByteArray) (mx : Int) (star : Bool) (s : ByteArray) (w : World) (hn : name.size ≤ 1000000) (hs : s.size ≤ 1000000) (hm0 : 0 ≤ mx) (hm : mx ≤ 1000000) (hb : w.heap[rb]? = some (.cells (ruleCells c) 43 (0, 0))) :
    Calls Try.prog 26 #[wayV c rb, .agg #[.string name, .int .i64 mx, .bool star], .string s] w fun e w' => e = .returned (.string (textS c name mx s)) ∧ Below w.heap.size w w' := by
  have HM := Aside0.mk (fun s W hs => maybe_any c rb name s W hn hs)
  have HO := Aside0.mk (fun s W hs hb => ofEnc_any s rb c W hs hb)
  unfold wayV at HM ⊢
  have HR := Aside0.mk hb
  clear hb
  by_cases h : 0 < mx
  · obtain ⟨m, rfl⟩ : ∃ m : Nat, mx = m := ⟨mx.toNat, by omega⟩
    have HN := Aside0.mk (show textS c name m s = maybeS c name (encS (ruleKeep c) (prefixS s m)) by unfold textS; rw [if_pos h]; rfl)
    go_enter Try.func26, Try.ntmps26
    go_wp2_with fail
    refine (utfPrefix_any s m _ hs (by omega)).mono ?_
    rintro e w1 ⟨rfl, hb1⟩
    have HRU := Aside0.mk (blk_below (blk_alloc (blk_alloc HR.out _) _) hb1)
    have HSP := Aside0.mk (blk_below (X.blk_new2 w _ _) hb1)
    have HWY := Aside0.mk (blk_below (blk_alloc (blk_new w _) _) hb1)
    have HB := Aside0.mk (below_step (w := w) (X.below_new2 w _ _) hb1)
    have hsz : (prefixS s m).size ≤ 1000000 := by have := prefixS_size s m; omega
    clear hb1
    generalize prefixS s m = t at *
    have hsz2 : (encS (ruleKeep c) t).size ≤ 10000000 := by have := encS_size (ruleKeep c) t; omega
    go_wp2_with fail
    refine start_ (n := 9) (S := fun w' => True) (ds := []) #[false, false, false, false, false, false, false, false, false] (by kernel_rfl) rfl rfl trivial (fun hHeld => ?_)
    refine with_tabW wayText.tab3 wayText.bits3 (fun HT_ HW_ => ?_)
    refine inv_at [0, 1, 2, 3, 4, 5, 6, 7, 8] (fun a0_ b a w' => a = putSel a0_ b [(0, 14, .agg #[.string (ruleFirst c), .string (ruleSep c), .bool (ruleNamed c), .string (ruleEmpty c), .bool (ruleKeep c), .func (.func 44) #[] #[.pointer (some ⟨rb, 0, none⟩)]]), (1, 15, .pointer (some ⟨w.heap.size + 1, 0, none⟩)), (2, 16, .string name), (3, 17, .pointer (some ⟨w.heap.size, 5, none⟩)), (4, 18, .func (.func 44) #[] #[.pointer (some ⟨rb, 0, none⟩)]), (5, 19, .string t), (6, 20, .string (encS (ruleKeep c) t)), (7, 21, .string (maybeS c name (encS (ruleKeep c) t))), (8, 6, .string (maybeS c name (encS (ruleKeep c) t)))] ∧ Below w1.drew.heap.size w1.drew w') HT_.out HW_.out (by kernel_rfl) (by kernel_rfl) ?_ ?_ ?_
    · exact ⟨by simp only [putSel, Bool.false_eq_true, if_false], Below.refl _ _⟩
    · clear hHeld HT_ HW_
      refine steps_cons ?_ ?_
      · rintro b a w' ⟨ha, HBW⟩ hb_ hon hoff
        refine ⟨_, rfl, fun K hK => ?_⟩
        have e3 : a.tmps[3]? = some (.pointer (some ⟨w.heap.size, 0, none⟩)) := by rw [ha]; exact (putSel_off rfl).trans rfl
        replace ha := Aside0.mk ha
        have HBW := Aside0.mk HBW
        obtain ⟨c0_, c1_, c2_, c3_, c4_, c5_⟩ := cells6 (blk_below (blk_drew HWY.out) HBW.out)
        refine value_ (w1 := w') (v := .agg #[.string (ruleFirst c), .string (ruleSep c), .bool (ruleNamed c), .string (ruleEmpty c), .bool (ruleKeep c), .func (.func 44) #[] #[.pointer (some ⟨rb, 0, none⟩)]]) (by rfl) rfl ?_ ?_
        · go_simp
          (try simp only [i64_w])
          try rfl
        refine hK.out _ _ ⟨(by rw [ha.out]; exact putSel_upk 0 hb_ rfl rfl rfl), HBW.out⟩
      refine steps_cons ?_ ?_
      · rintro b a w' ⟨ha, HBW⟩ hb_ hon hoff
        refine ⟨_, rfl, fun K hK => ?_⟩
        have e4 : a.tmps[4]? = some (.pointer (some ⟨w.heap.size + 1, 0, none⟩)) := by rw [ha]; exact (putSel_off rfl).trans rfl
        replace ha := Aside0.mk ha
        have HBW := Aside0.mk HBW
        refine value_ (w1 := w') (v := .pointer (some ⟨w.heap.size + 1, 0, none⟩)) (by rfl) rfl ?_ ?_
        · go_simp
          (try simp only [i64_w])
          try rfl
        refine hK.out _ _ ⟨(by rw [ha.out]; exact putSel_upk 1 hb_ rfl rfl rfl), HBW.out⟩
      refine steps_cons ?_ ?_
      · rintro b a w' ⟨ha, HBW⟩ hb_ hon hoff
        refine ⟨_, rfl, fun K hK => ?_⟩
        have e15 : a.tmps[15]? = some (.pointer (some ⟨w.heap.size + 1, 0, none⟩)) := by rw [ha]; exact putSel_on (e := (1, 15, .pointer (some ⟨w.heap.size + 1, 0, none⟩))) 1 rfl rfl (hon 1 (by kernel_rfl)) rfl
        replace ha := Aside0.mk ha
        have HBW := Aside0.mk HBW
        have c0_ := (blk_cell (blk_below (blk_drew HSP.out) HBW.out) 0).trans rfl
        refine value_ (w1 := w') (v := .string name) (by rfl) rfl ?_ ?_
        · go_simp
          (try simp only [i64_w])
          try rfl
        refine hK.out _ _ ⟨(by rw [ha.out]; exact putSel_upk 2 hb_ rfl rfl rfl), HBW.out⟩
      refine steps_cons ?_ ?_
      · rintro b a w' ⟨ha, HBW⟩ hb_ hon hoff
        refine ⟨_, rfl, fun K hK => ?_⟩
        have e3 : a.tmps[3]? = some (.pointer (some ⟨w.heap.size, 0, none⟩)) := by rw [ha]; exact (putSel_off rfl).trans rfl
        replace ha := Aside0.mk ha
        have HBW := Aside0.mk HBW
        refine value_ (w1 := w') (v := .pointer (some ⟨w.heap.size, 5, none⟩)) (by rfl) rfl ?_ ?_
        · go_simp
          (try simp only [i64_w])
          try rfl
        refine hK.out _ _ ⟨(by rw [ha.out]; exact putSel_upk 3 hb_ rfl rfl rfl), HBW.out⟩
      refine steps_cons ?_ ?_
      · rintro b a w' ⟨ha, HBW⟩ hb_ hon hoff
        refine ⟨_, rfl, fun K hK => ?_⟩
        have e17 : a.tmps[17]? = some (.pointer (some ⟨w.heap.size, 5, none⟩)) := by rw [ha]; exact putSel_on (e := (3, 17, .pointer (some ⟨w.heap.size, 5, none⟩))) 3 rfl rfl (hon 3 (by kernel_rfl)) rfl
        replace ha := Aside0.mk ha
        have HBW := Aside0.mk HBW
        have c0_ := (blk_cell (blk_below (blk_drew HWY.out) HBW.out) 5).trans rfl
        refine value_ (w1 := w') (v := .func (.func 44) #[] #[.pointer (some ⟨rb, 0, none⟩)]) (by rfl) rfl ?_ ?_
        · go_simp
          (try simp only [i64_w])
          try rfl
        refine hK.out _ _ ⟨(by rw [ha.out]; exact putSel_upk 4 hb_ rfl rfl rfl), HBW.out⟩
      refine steps_cons ?_ ?_
      · rintro b a w' ⟨ha, HBW⟩ hb_ hon hoff
        refine ⟨_, rfl, fun K hK => ?_⟩
        have e2 : a.tmps[2]? = some (.string t) := by rw [ha]; exact (putSel_off rfl).trans rfl
        replace ha := Aside0.mk ha
        have HBW := Aside0.mk HBW
        refine value_ (w1 := w') (v := .string t) (by rfl) rfl ?_ ?_
        · go_simp
          (try simp only [i64_w])
          try rfl
        refine hK.out _ _ ⟨(by rw [ha.out]; exact putSel_upk 5 hb_ rfl rfl rfl), HBW.out⟩
      refine steps_cons ?_ ?_
      · rintro b a w' ⟨ha, HBW⟩ hb_ hon hoff
        refine ⟨_, rfl, fun K hK => ?_⟩
        have e18 : a.tmps[18]? = some (.func (.func 44) #[] #[.pointer (some ⟨rb, 0, none⟩)]) := by rw [ha]; exact putSel_on (e := (4, 18, .func (.func 44) #[] #[.pointer (some ⟨rb, 0, none⟩)])) 4 rfl rfl (hon 4 (by kernel_rfl)) rfl
        have e19 : a.tmps[19]? = some (.string t) := by rw [ha]; exact putSel_on (e := (5, 19, .string t)) 5 rfl rfl (hon 5 (by kernel_rfl)) rfl
        replace ha := Aside0.mk ha
        have HBW := Aside0.mk HBW
        have eg_ := fun args W => enters_ (P := Try.prog) Try.func44 (by kernel_rfl) rfl args W
        refine call_ 44 #[.string t, .pointer (some ⟨rb, 0, none⟩)] (by rfl) rfl ?_ ?_
        · unfold execOp; simp only [resolve, Deferred.ofValue, invoke, Act.eval, Array.getD_eq_getD_getElem?, Option.getD_some, e18, e19]
          go_simp
          try rfl
        refine (HO.out t w' hsz (blk_below (blk_drew HRU.out) HBW.out)).mono ?_
        rintro e w1 ⟨rfl, hb⟩
        refine ⟨_, rfl, ?_⟩
        refine hK.out _ _ ⟨(by rw [ha.out]; exact putSel_upk 6 hb_ rfl rfl rfl), below_step HBW.out hb⟩
      refine steps_cons ?_ ?_
      · rintro b a w' ⟨ha, HBW⟩ hb_ hon hoff
        refine ⟨_, rfl, fun K hK => ?_⟩
        have e14 : a.tmps[14]? = some (.agg #[.string (ruleFirst c), .string (ruleSep c), .bool (ruleNamed c), .string (ruleEmpty c), .bool (ruleKeep c), .func (.func 44) #[] #[.pointer (some ⟨rb, 0, none⟩)]]) := by rw [ha]; exact putSel_on (e := (0, 14, .agg #[.string (ruleFirst c), .string (ruleSep c), .bool (ruleNamed c), .string (ruleEmpty c), .bool (ruleKeep c), .func (.func 44) #[] #[.pointer (some ⟨rb, 0, none⟩)]])) 0 rfl rfl (hon 0 (by kernel_rfl)) rfl
        have e16 : a.tmps[16]? = some (.string name) := by rw [ha]; exact putSel_on (e := (2, 16, .string name)) 2 rfl rfl (hon 2 (by kernel_rfl)) rfl
        have e20 : a.tmps[20]? = some (.string (encS (ruleKeep c) t)) := by rw [ha]; exact putSel_on (e := (6, 20, .string (encS (ruleKeep c) t))) 6 rfl rfl (hon 6 (by kernel_rfl)) rfl
        replace ha := Aside0.mk ha
        have HBW := Aside0.mk HBW
        refine goes_ Try.func52 (by kernel_rfl) rfl #[.agg #[.string (ruleFirst c), .string (ruleSep c), .bool (ruleNamed c), .string (ruleEmpty c), .bool (ruleKeep c), .func (.func 44) #[] #[.pointer (some ⟨rb, 0, none⟩)]], .string name, .string (encS (ruleKeep c) t)] (by rfl) rfl rfl (by first | (simp only [List.map_toArray, List.map_cons, List.map_nil, Act.eval, Array.getD_eq_getD_getElem?, Option.getD_some, e14, e16, e20]; done) | (simp only [List.map_toArray, List.map_cons, List.map_nil, Act.eval, Array.getD_eq_getD_getElem?, Option.getD_some, e14, e16, e20]; rfl)) ?_
        refine (HM.out _ w' hsz2).mono ?_
        rintro e w1 ⟨rfl, hb⟩
        refine ⟨_, rfl, ?_⟩
        refine hK.out _ _ ⟨(by rw [ha.out]; exact putSel_upk 7 hb_ rfl rfl rfl), below_step HBW.out hb⟩
      refine steps_cons ?_ ?_
      · rintro b a w' ⟨ha, HBW⟩ hb_ hon hoff
        refine ⟨_, rfl, fun K hK => ?_⟩
        have e21 : a.tmps[21]? = some (.string (maybeS c name (encS (ruleKeep c) t))) := by rw [ha]; exact putSel_on (e := (7, 21, .string (maybeS c name (encS (ruleKeep c) t)))) 7 rfl rfl (hon 7 (by kernel_rfl)) rfl
        replace ha := Aside0.mk ha
        have HBW := Aside0.mk HBW
        refine value_ (w1 := w') (v := .string (maybeS c name (encS (ruleKeep c) t))) (by rfl) rfl ?_ ?_
        · go_simp
          (try simp only [i64_w])
          try rfl
        refine hK.out _ _ ⟨(by rw [ha.out]; exact putSel_upk 8 hb_ rfl rfl rfl), HBW.out⟩
      exact steps_nil
    rintro b a w5 hall ⟨ha, HBW⟩
    have hb0_ := hall 0 (by kernel_rfl)
    have hb1_ := hall 1 (by kernel_rfl)
    have hb2_ := hall 2 (by kernel_rfl)
    have hb3_ := hall 3 (by kernel_rfl)
    have hb4_ := hall 4 (by kernel_rfl)
    have hb5_ := hall 5 (by kernel_rfl)
    have hb6_ := hall 6 (by kernel_rfl)
    have hb7_ := hall 7 (by kernel_rfl)
    have hb8_ := hall 8 (by kernel_rfl)
    subst ha
    simp only [putSel, hb0_, hb1_, hb2_, hb3_, hb4_, hb5_, hb6_, hb7_, hb8_, if_true, Act.put, List.setIfInBounds_toArray, List.set_cons_zero, List.set_cons_succ]
    have HBW := Aside0.mk HBW
    clear hall hb0_ hb1_ hb2_ hb3_ hb4_ hb5_ hb6_ hb7_ hb8_
    go_wp2_with fail
    go_ret
    exact ⟨by rw [HN.out]; rfl, below_step (below_drew1 HB.out) HBW.out⟩
  · have HN := Aside0.mk (show textS c name mx s = maybeS c name (encS (ruleKeep c) s) by unfold textS; rw [if_neg h])
    obtain rfl : mx = 0 := by omega
    go_enter Try.func26, Try.ntmps26
    go_wp2_with fail
    refine forget (P := fun W => Code.wp _ _ _ _ W) _ (fun w1 => w1.heap[rb]? = some (.cells (ruleCells c) 43 (0, 0)) ∧ w1.heap[w.heap.size + 1]? = some (.cells #[.string name, .int .i64 0, .bool star] 23 (0, 0)) ∧ w1.heap[w.heap.size]? = some (.cells #[.string (ruleFirst c), .string (ruleSep c), .bool (ruleNamed c), .string (ruleEmpty c), .bool (ruleKeep c), .func (.func 44) #[] #[.pointer (some ⟨rb, 0, none⟩)]] 53 (0, 0)) ∧ Below w.heap.size w w1) ⟨blk_alloc (blk_alloc HR.out _) _, X.blk_new2 w _ _, blk_alloc (blk_new w _) _, X.below_new2 w _ _⟩ ?_
    rintro w1 ⟨hru, hsp, hwy, hbl⟩
    have HRU := Aside0.mk hru
    have HSP := Aside0.mk hsp
    have HWY := Aside0.mk hwy
    have HB := Aside0.mk hbl
    clear hru hsp hwy hbl
    have hsz := hs
    have hsz2 : (encS (ruleKeep c) s).size ≤ 10000000 := by have := encS_size (ruleKeep c) s; omega
    refine start_ (n := 9) (S := fun w' => True) (ds := []) #[false, false, false, false, false, false, false, false, false] (by kernel_rfl) rfl rfl trivial (fun hHeld => ?_)
    refine with_tabW wayText.tab3 wayText.bits3 (fun HT_ HW_ => ?_)
    refine inv_at [0, 1, 2, 3, 4, 5, 6, 7, 8] (fun a0_ b a w' => a = putSel a0_ b [(0, 14, .agg #[.string (ruleFirst c), .string (ruleSep c), .bool (ruleNamed c), .string (ruleEmpty c), .bool (ruleKeep c), .func (.func 44) #[] #[.pointer (some ⟨rb, 0, none⟩)]]), (1, 15, .pointer (some ⟨w.heap.size + 1, 0, none⟩)), (2, 16, .string name), (3, 17, .pointer (some ⟨w.heap.size, 5, none⟩)), (4, 18, .func (.func 44) #[] #[.pointer (some ⟨rb, 0, none⟩)]), (5, 19, .string s), (6, 20, .string (encS (ruleKeep c) s)), (7, 21, .string (maybeS c name (encS (ruleKeep c) s))), (8, 6, .string (maybeS c name (encS (ruleKeep c) s)))] ∧ Below w1.drew.heap.size w1.drew w') HT_.out HW_.out (by kernel_rfl) (by kernel_rfl) ?_ ?_ ?_
    · exact ⟨by simp only [putSel, Bool.false_eq_true, if_false], Below.refl _ _⟩
    · clear hHeld HT_ HW_
      refine steps_cons ?_ ?_
      · rintro b a w' ⟨ha, HBW⟩ hb_ hon hoff
        refine ⟨_, rfl, fun K hK => ?_⟩
        have e3 : a.tmps[3]? = some (.pointer (some ⟨w.heap.size, 0, none⟩)) := by rw [ha]; exact (putSel_off rfl).trans rfl
        replace ha := Aside0.mk ha
        have HBW := Aside0.mk HBW
        obtain ⟨c0_, c1_, c2_, c3_, c4_, c5_⟩ := cells6 (blk_below (blk_drew HWY.out) HBW.out)
        refine value_ (w1 := w') (v := .agg #[.string (ruleFirst c), .string (ruleSep c), .bool (ruleNamed c), .string (ruleEmpty c), .bool (ruleKeep c), .func (.func 44) #[] #[.pointer (some ⟨rb, 0, none⟩)]]) (by rfl) rfl ?_ ?_
        · go_simp
          (try simp only [i64_w])
          try rfl
        refine hK.out _ _ ⟨(by rw [ha.out]; exact putSel_upk 0 hb_ rfl rfl rfl), HBW.out⟩
      refine steps_cons ?_ ?_
      · rintro b a w' ⟨ha, HBW⟩ hb_ hon hoff
        refine ⟨_, rfl, fun K hK => ?_⟩
        have e4 : a.tmps[4]? = some (.pointer (some ⟨w.heap.size + 1, 0, none⟩)) := by rw [ha]; exact (putSel_off rfl).trans rfl
        replace ha := Aside0.mk ha
        have HBW := Aside0.mk HBW
        refine value_ (w1 := w') (v := .pointer (some ⟨w.heap.size + 1, 0, none⟩)) (by rfl) rfl ?_ ?_
        · go_simp
          (try simp only [i64_w])
          try rfl
        refine hK.out _ _ ⟨(by rw [ha.out]; exact putSel_upk 1 hb_ rfl rfl rfl), HBW.out⟩
      refine steps_cons ?_ ?_
      · rintro b a w' ⟨ha, HBW⟩ hb_ hon hoff
        refine ⟨_, rfl, fun K hK => ?_⟩
        have e15 : a.tmps[15]? = some (.pointer (some ⟨w.heap.size + 1, 0, none⟩)) := by rw [ha]; exact putSel_on (e := (1, 15, .pointer (some ⟨w.heap.size + 1, 0, none⟩))) 1 rfl rfl (hon 1 (by kernel_rfl)) rfl
        replace ha := Aside0.mk ha
        have HBW := Aside0.mk HBW
        have c0_ := (blk_cell (blk_below (blk_drew HSP.out) HBW.out) 0).trans rfl
        refine value_ (w1 := w') (v := .string name) (by rfl) rfl ?_ ?_
        · go_simp
          (try simp only [i64_w])
          try rfl
        refine hK.out _ _ ⟨(by rw [ha.out]; exact putSel_upk 2 hb_ rfl rfl rfl), HBW.out⟩
      refine steps_cons ?_ ?_
      · rintro b a w' ⟨ha, HBW⟩ hb_ hon hoff
        refine ⟨_, rfl, fun K hK => ?_⟩
        have e3 : a.tmps[3]? = some (.pointer (some ⟨w.heap.size, 0, none⟩)) := by rw [ha]; exact (putSel_off rfl).trans rfl
        replace ha := Aside0.mk ha
        have HBW := Aside0.mk HBW
        refine value_ (w1 := w') (v := .pointer (some ⟨w.heap.size, 5, none⟩)) (by rfl) rfl ?_ ?_
        · go_simp
          (try simp only [i64_w])
          try rfl
        refine hK.out _ _ ⟨(by rw [ha.out]; exact putSel_upk 3 hb_ rfl rfl rfl), HBW.out⟩
      refine steps_cons ?_ ?_
      · rintro b a w' ⟨ha, HBW⟩ hb_ hon hoff
        refine ⟨_, rfl, fun K hK => ?_⟩
        have e17 : a.tmps[17]? = some (.pointer (some ⟨w.heap.size, 5, none⟩)) := by rw [ha]; exact putSel_on (e := (3, 17, .pointer (some ⟨w.heap.size, 5, none⟩))) 3 rfl rfl (hon 3 (by kernel_rfl)) rfl
        replace ha := Aside0.mk ha
        have HBW := Aside0.mk HBW
        have c0_ := (blk_cell (blk_below (blk_drew HWY.out) HBW.out) 5).trans rfl
        refine value_ (w1 := w') (v := .func (.func 44) #[] #[.pointer (some ⟨rb, 0, none⟩)]) (by rfl) rfl ?_ ?_
        · go_simp
          (try simp only [i64_w])
          try rfl
        refine hK.out _ _ ⟨(by rw [ha.out]; exact putSel_upk 4 hb_ rfl rfl rfl), HBW.out⟩
      refine steps_cons ?_ ?_
      · rintro b a w' ⟨ha, HBW⟩ hb_ hon hoff
        refine ⟨_, rfl, fun K hK => ?_⟩
        have e2 : a.tmps[2]? = some (.string s) := by rw [ha]; exact (putSel_off rfl).trans rfl
        replace ha := Aside0.mk ha
        have HBW := Aside0.mk HBW
        refine value_ (w1 := w') (v := .string s) (by rfl) rfl ?_ ?_
        · go_simp
          (try simp only [i64_w])
          try rfl
        refine hK.out _ _ ⟨(by rw [ha.out]; exact putSel_upk 5 hb_ rfl rfl rfl), HBW.out⟩
      refine steps_cons ?_ ?_
      · rintro b a w' ⟨ha, HBW⟩ hb_ hon hoff
        refine ⟨_, rfl, fun K hK => ?_⟩
        have e18 : a.tmps[18]? = some (.func (.func 44) #[] #[.pointer (some ⟨rb, 0, none⟩)]) := by rw [ha]; exact putSel_on (e := (4, 18, .func (.func 44) #[] #[.pointer (some ⟨rb, 0, none⟩)])) 4 rfl rfl (hon 4 (by kernel_rfl)) rfl
        have e19 : a.tmps[19]? = some (.string s) := by rw [ha]; exact putSel_on (e := (5, 19, .string s)) 5 rfl rfl (hon 5 (by kernel_rfl)) rfl
        replace ha := Aside0.mk ha
        have HBW := Aside0.mk HBW
        have eg_ := fun args W => enters_ (P := Try.prog) Try.func44 (by kernel_rfl) rfl args W
        refine call_ 44 #[.string s, .pointer (some ⟨rb, 0, none⟩)] (by rfl) rfl ?_ ?_
        · unfold execOp; simp only [resolve, Deferred.ofValue, invoke, Act.eval, Array.getD_eq_getD_getElem?, Option.getD_some, e18, e19]
          go_simp
          try rfl
        refine (HO.out s w' hsz (blk_below (blk_drew HRU.out) HBW.out)).mono ?_
        rintro e w1 ⟨rfl, hb⟩
        refine ⟨_, rfl, ?_⟩
        refine hK.out _ _ ⟨(by rw [ha.out]; exact putSel_upk 6 hb_ rfl rfl rfl), below_step HBW.out hb⟩
      refine steps_cons ?_ ?_
      · rintro b a w' ⟨ha, HBW⟩ hb_ hon hoff
        refine ⟨_, rfl, fun K hK => ?_⟩
        have e14 : a.tmps[14]? = some (.agg #[.string (ruleFirst c), .string (ruleSep c), .bool (ruleNamed c), .string (ruleEmpty c), .bool (ruleKeep c), .func (.func 44) #[] #[.pointer (some ⟨rb, 0, none⟩)]]) := by rw [ha]; exact putSel_on (e := (0, 14, .agg #[.string (ruleFirst c), .string (ruleSep c), .bool (ruleNamed c), .string (ruleEmpty c), .bool (ruleKeep c), .func (.func 44) #[] #[.pointer (some ⟨rb, 0, none⟩)]])) 0 rfl rfl (hon 0 (by kernel_rfl)) rfl
        have e16 : a.tmps[16]? = some (.string name) := by rw [ha]; exact putSel_on (e := (2, 16, .string name)) 2 rfl rfl (hon 2 (by kernel_rfl)) rfl
        have e20 : a.tmps[20]? = some (.string (encS (ruleKeep c) s)) := by rw [ha]; exact putSel_on (e := (6, 20, .string (encS (ruleKeep c) s))) 6 rfl rfl (hon 6 (by kernel_rfl)) rfl
        replace ha := Aside0.mk ha
        have HBW := Aside0.mk HBW
        refine goes_ Try.func52 (by kernel_rfl) rfl #[.agg #[.string (ruleFirst c), .string (ruleSep c), .bool (ruleNamed c), .string (ruleEmpty c), .bool (ruleKeep c), .func (.func 44) #[] #[.pointer (some ⟨rb, 0, none⟩)]], .string name, .string (encS (ruleKeep c) s)] (by rfl) rfl rfl (by first | (simp only [List.map_toArray, List.map_cons, List.map_nil, Act.eval, Array.getD_eq_getD_getElem?, Option.getD_some, e14, e16, e20]; done) | (simp only [List.map_toArray, List.map_cons, List.map_nil, Act.eval, Array.getD_eq_getD_getElem?, Option.getD_some, e14, e16, e20]; rfl)) ?_
        refine (HM.out _ w' hsz2).mono ?_
        rintro e w1 ⟨rfl, hb⟩
        refine ⟨_, rfl, ?_⟩
        refine hK.out _ _ ⟨(by rw [ha.out]; exact putSel_upk 7 hb_ rfl rfl rfl), below_step HBW.out hb⟩
      refine steps_cons ?_ ?_
      · rintro b a w' ⟨ha, HBW⟩ hb_ hon hoff
        refine ⟨_, rfl, fun K hK => ?_⟩
        have e21 : a.tmps[21]? = some (.string (maybeS c name (encS (ruleKeep c) s))) := by rw [ha]; exact putSel_on (e := (7, 21, .string (maybeS c name (encS (ruleKeep c) s)))) 7 rfl rfl (hon 7 (by kernel_rfl)) rfl
        replace ha := Aside0.mk ha
        have HBW := Aside0.mk HBW
        refine value_ (w1 := w') (v := .string (maybeS c name (encS (ruleKeep c) s))) (by rfl) rfl ?_ ?_
        · go_simp
          (try simp only [i64_w])
          try rfl
        refine hK.out _ _ ⟨(by rw [ha.out]; exact putSel_upk 8 hb_ rfl rfl rfl), HBW.out⟩
      exact steps_nil
    rintro b a w5 hall ⟨ha, HBW⟩
    have hb0_ := hall 0 (by kernel_rfl)
    have hb1_ := hall 1 (by kernel_rfl)
    have hb2_ := hall 2 (by kernel_rfl)
    have hb3_ := hall 3 (by kernel_rfl)
    have hb4_ := hall 4 (by kernel_rfl)
    have hb5_ := hall 5 (by kernel_rfl)
    have hb6_ := hall 6 (by kernel_rfl)
    have hb7_ := hall 7 (by kernel_rfl)
    have hb8_ := hall 8 (by kernel_rfl)
    subst ha
    simp only [putSel, hb0_, hb1_, hb2_, hb3_, hb4_, hb5_, hb6_, hb7_, hb8_, if_true, Act.put, List.setIfInBounds_toArray, List.set_cons_zero, List.set_cons_succ]
    have HBW := Aside0.mk HBW
    clear hall hb0_ hb1_ hb2_ hb3_ hb4_ hb5_ hb6_ hb7_ hb8_
    go_wp2_with fail
    go_ret
    exact ⟨by rw [HN.out]; rfl, below_step (below_drew1 HB.out) HBW.out⟩
end Go.Proofs.Ytbjeegkmafbejaa.X
end
section
namespace Go.Proofs.Ytbjeegkmafbejaa.X
set_option linter.unusedSimpArgs false
set_option linter.unusedVariables false
open Go.RowKit Go.Proofs.YtbjeegkmafbejaaW.PrintWords Go.Proofs.YtbjeegkmafbejaaW.PrintLast Go.Proofs.YtbjeegkmafbejaaW.PrintMore Go.Proofs.Ytbjeegkmafbejaa.Y Go.Joins
theorem valid_eq (s : ByteArray) : ((badPos s : Int) == (s.size : Int)) = validS s := by
  have := badPos_le s
  unfold validS
  rw [Bool.eq_iff_iff]
  simp
  omega
theorem utfValid_any (s : ByteArray) (w : World) (hs : s.size ≤ 1000000) : Calls Try.prog 50 #[.string s] w fun e w' => e = .returned (.bool (validS s)) ∧ Below w.heap.size w w' := by
  go_enter Try.func50, Try.ntmps50
  go_wp2_with fail
  refine (utfBad_any s _ hs).mono ?_
  rintro e w1 ⟨rfl, hb⟩
  have HB := Aside0.mk hb
  clear hb
  go_wp2_with fail
  go_ret
  exact ⟨by rw [← valid_eq]; rfl, HB.out⟩
theorem enters_Valid1 (args : Array Value) (w : World) : (callFunc 49 args).run Try.prog w = .ok (.enter 49 args) w := enters_of Try.func49 (by kernel_rfl) rfl args w
theorem Valid1_tells (w : World) (l : List ByteArray) (hl : ∀ s ∈ l, s.size ≤ 1000000) : Tells Try.prog 49 #[] w Value.string l (fun s => !validS s) := by
  refine ⟨enters_Valid1, fun s W hb hs => ?_⟩
  show Calls Try.prog 49 #[.string s] W _
  have HS := Aside0.mk (hl s hs)
  clear hl hs
  go_enter Try.func49, Try.ntmps49
  go_wp2_with fail
  refine (utfValid_any s _ HS.out).mono ?_
  rintro e w1 ⟨rfl, hb1⟩
  have HB := Aside0.mk hb1
  clear hb1
  go_wp2_with fail
  go_ret
  exact ⟨rfl, HB.out⟩
end Go.Proofs.Ytbjeegkmafbejaa.X
end
section
namespace Go.Proofs.Ytbjeegkmafbejaa.X
set_option linter.unusedSimpArgs false
set_option linter.unusedVariables false
open Go.RowKit Go.Proofs.YtbjeegkmafbejaaW.PrintWords Go.Proofs.YtbjeegkmafbejaaW.PrintLast Go.Proofs.YtbjeegkmafbejaaW.PrintMore Go.Proofs.Ytbjeegkmafbejaa.Y Go.Joins
theorem infoStr : (Try.prog.info? 9).map (fun i => (i.zero, i.size, i.bytes)) = some (some (.string ⟨#[]⟩), 1, 16) := by kernel_rfl
def joinB (l : List ByteArray) (sep : ByteArray) : ByteArray := ⟨(Lib.join (l.map (·.data.toList)) sep.data.toList).toArray⟩
theorem joinTail_len (m : Nat) (sep : List UInt8) (l : List (List UInt8)) (h : ∀ x ∈ l, x.length ≤ m) : (Lib.joinTail sep l).length ≤ l.length * (m + sep.length) := by
  induction l with
  | nil => simp [Lib.joinTail]
  | cons x l ih =>
    have h1 := ih fun y hy => h y (List.mem_cons_of_mem _ hy)
    have h2 := h x (List.mem_cons_self ..)
    simp only [Lib.joinTail, List.map_cons, List.flatten_cons, List.length_append, List.length_cons] at h1 ⊢
    rw [Nat.add_mul, Nat.one_mul]
    omega
theorem join_len (m : Nat) (sep : List UInt8) (l : List (List UInt8)) (h : ∀ x ∈ l, x.length ≤ m) : (Lib.join l sep).length ≤ l.length * (m + sep.length) := by
  cases l with
  | nil => simp [Lib.join_nil]
  | cons x l =>
    have h1 := joinTail_len m sep l fun y hy => h y (List.mem_cons_of_mem _ hy)
    have h2 := h x (List.mem_cons_self ..)
    rw [Lib.join_cons, List.length_append, List.length_cons, Nat.add_mul, Nat.one_mul]
    omega
theorem joinB_size (m : Nat) (sep : ByteArray) (l : List ByteArray) (h : ∀ x ∈ l, x.size ≤ m) : (joinB l sep).size ≤ l.length * (m + sep.size) := by
  have := join_len m sep.data.toList (l.map (·.data.toList)) (fun x hx => by obtain ⟨y, hy, rfl⟩ := List.mem_map.1 hx; exact h y hy)
  rw [List.length_map] at this
  exact this
theorem join_own (v : Value) (l : List ByteArray) (sep : ByteArray) (base : Nat) (w : World) (h : Kd.R Kd.string 9 w base (fun _ => True) v l) (hN : l.length ≤ 1000000) (hx : ∀ x ∈ l, x.size ≤ 10000000) (hs : sep.size ≤ 10) :
    Calls Try.prog 56 #[v, .string sep] w fun e w' => e = .returned (.string (joinB l sep)) ∧ Below w.heap.size w w' := by
  have ho := Kd.own_of_R h
  rcases ho.2 with ⟨rfl, h0⟩ | ⟨g, cap, cur, rfl, hg, hb, hn, hcap, hsz, ht⟩
  · obtain rfl : l = [] := List.eq_nil_of_length_eq_zero h0
    exact (Try.strings_Join_none none 0 sep w).mono fun e w' he => ⟨by rw [he.1]; rfl, by rw [he.2]; exact Below.refl _ _⟩
  · have hlen := join_len 10000000 sep.data.toList (l.map (·.data.toList)) (fun x hx' => by obtain ⟨y, hy, rfl⟩ := List.mem_map.1 hx'; exact hx y hy)
    rw [List.length_map] at hlen
    have hs' : sep.data.toList.length ≤ 10 := hs
    have hmul : l.length * (10000000 + sep.data.toList.length) ≤ 1000000 * (10000000 + 10) := Nat.mul_le_mul hN (by omega)
    refine Try.strings_Join g 0 cap l sep w (fun j x hj => ?_) (blk_lt hb) (by omega) hn (by omega)
    have hjl : j < l.length := (List.getElem?_eq_some_iff.1 hj).1
    rw [Nat.zero_add, blk_cell hb j, ← Array.getElem?_toList, ← List.getElem?_take_of_lt (show j < l.length * 1 by omega), ht]
    unfold encs
    rw [List.getElem?_map, hj]; rfl
def Turns (P : Program) (g : FuncId) (lb : Array Value) (w : World) (l : List ByteArray) (f : ByteArray → ByteArray) : Prop :=
  (∀ args w, (callFunc g args).run P w = .ok (.enter g args) w) ∧ ∀ x W, Below w.heap.size w W → x ∈ l → Calls P g (#[.string x] ++ lb) W fun e w' => e = .returned (.string (f x)) ∧ Below W.heap.size W w'
set_option maxHeartbeats 2000000 in
theorem joined_any (sep : ByteArray) (g : FuncId) (lb : Array Value) (f : ByteArray → ByteArray) (l : List ByteArray) (A : Option Addr) (n : Nat) (w : World) (hp : Turns Try.prog g lb w l f) (hl : l.length ≤ 1000000) (hr : Kd.C Kd.string w A l.length l) (hx : ∀ x ∈ l, (f x).size ≤ 10000000) (hs : sep.size ≤ 10) :
    Calls Try.prog 53 #[.string sep, .func (.func g) #[] lb, .slice A l.length n] w fun e w' => e = .returned (.string (joinB (l.map f) sep)) ∧ Below w.heap.size w w' := by
  have eg := hp.1
  have HP := Aside0.mk hp.2
  have HR := Aside0.mk hr
  have HX := Aside0.mk hx
  clear hp hr hx
  go_enter Try.func53, Try.ntmps53
  go_wp2_with fail
  go_loopw [7, 12] (fun v c wr => ∃ k : Nat, k ≤ l.length ∧ c = .int .i64 k ∧ Below w.heap.size w wr ∧ Kd.R Kd.string 9 wr w.heap.size (fun _ => True) v ((l.take k).map f)) (fun _ c _ => (l.length - intOf c).toNat)
  case atStart => exact ⟨0, by omega, by simp, Below.refl _ _, Kd.R_nil _ _ _ _ _⟩
  case round =>
    obtain ⟨k, hk, rfl, hb, hv⟩ := hrel
    have HB := Aside0.mk hb
    have HV := Aside0.mk hv
    clear hb hv
    by_cases hlt : k < l.length
    · obtain ⟨ad, rfl, hcell⟩ := C_cell1 (Kd.C_below HR.out HB.out) k hlt
      go_wp2_with fail
      refine (HP.out _ _ HB.out (List.getElem_mem hlt)).mono ?_
      rintro e w1 ⟨rfl, hb1⟩
      have HB1 := Aside0.mk (below_step HB.out hb1)
      have HV1 := Aside0.mk (Kd.R_below HV.out hb1)
      have hlen : ((l.take k).map f).length = k := by rw [List.length_map, List.length_take]; omega
      have hs1 := HB1.out.size
      have htk : (l.take k).map f ++ [f l[k]] = (l.take (k + 1)).map f := by rw [List.take_succ_eq_append_getElem hlt, List.map_append]; rfl
      clear hb1 hcell HB HV
      go_wp2_with (at_builtin; refine Kd.R_append Kd.string (w0 := w) w.heap.size rfl (.tmp 16) (.tmp 20) 24 9 (.string ⟨#[]⟩) 16 rfl Try.underlying24 infoStr rfl (by decide) (by omega) _ ((l.take k).map f) (f l[k]) [.string (f l[k])] (fun _ => True) (fun _ => False) rfl rfl rfl (fun _ hk => hk.elim) (fun _ _ => trivial) HV1.out HB1.out hs1 (by omega) ?_; intro v1 w2 ho hb1 hg hat; have HO := Aside0.mk (htk ▸ ho); have HB2 := Aside0.mk hb1; clear ho hb1 hg hat htk)
      go_roundw
      case rel => exact ⟨k + 1, by omega, by go_num, HB2.out, HO.out⟩
      case measure => simp [intOf]; omega
    · have hlen : ((l.take k).map f).length = k := by rw [List.length_map, List.length_take]; omega
      have htk : l.take k = l := List.take_of_length_le (by omega)
      have HV1 := Aside0.mk (htk ▸ HV.out)
      clear HV hlen htk
      go_wp2_with fail
      refine (join_own _ (l.map f) sep _ _ HV1.out (by rw [List.length_map]; exact hl) (fun x hx => by obtain ⟨y, hy, rfl⟩ := List.mem_map.1 hx; exact HX.out y hy) hs).mono ?_
      rintro e w2 ⟨rfl, hb2⟩
      have HB2 := Aside0.mk (below_step HB.out hb2)
      clear hb2 HB
      go_wp2_with fail
      go_ret
      exact ⟨rfl, HB2.out⟩
def star1.T1 : Bool × List (List Nat × List Nat) := (true, [([], []), ([], []), ([1], [1]), ([], []), ([3], [3]), ([], []), ([4, 5], [4, 5]), ([0, 2, 6, 6], [0, 2, 6]), ([7, 7, 0, 1, 2, 3, 4, 5, 6, 7], [7])])
def star1.B1 : List Nat := [0, 0, 2, 0, 8, 0, 56, 127, 255]
theorem star1.tab1 : rtab .any (opsOf Try.f54 1) = star1.T1 := by kernel_rfl
theorem star1.bits1 : waitsOk star1.T1.2 star1.B1 = true := by kernel_rfl
def pairT.T2 : Bool × List (List Nat × List Nat) := (true, [([], []), ([], []), ([1], [1]), ([2], [2]), ([], []), ([4], [4]), ([], []), ([6], [6]), ([5, 7, 3], [5, 7]), ([0, 3, 8, 8], [0, 3, 8]), ([9, 9, 0, 1, 2, 3, 4, 5, 6, 7, 8, 9], [9])])
def pairT.B2 : List Nat := [0, 0, 2, 6, 0, 16, 0, 64, 240, 511, 1023]
theorem pairT.tab2 : rtab .any (opsOf Try.f55 2) = pairT.T2 := by kernel_rfl
theorem pairT.bits2 : waitsOk pairT.T2.2 pairT.B2 = true := by kernel_rfl
def pairF.T3 : Bool × List (List Nat × List Nat) := (true, [([], []), ([0], [0]), ([], []), ([2], [2]), ([1, 3], [1, 3]), ([4], [4]), ([], []), ([6], [6]), ([], []), ([8], [8]), ([7, 9, 4], [7, 9]), ([5, 10], [5, 10]), ([11, 10, 0, 1, 2, 3, 4, 5, 6, 7, 8, 9, 10, 11], [11])])
def pairF.B3 : List Nat := [0, 1, 0, 4, 15, 31, 0, 64, 0, 256, 960, 2047, 4095]
theorem pairF.tab3 : rtab .any (opsOf Try.f55 3) = pairF.T3 := by kernel_rfl
theorem pairF.bits3 : waitsOk pairF.T3.2 pairF.B3 = true := by kernel_rfl
theorem enters_of1 (args : Array Value) (w : World) : (callFunc 44 args).run Try.prog w = .ok (.enter 44 args) w := enters_of Try.func44 (by kernel_rfl) rfl args w
theorem of1_turns (c : Int) (b : Nat) (w : World) (hb : w.heap[b]? = some (.cells (ruleCells c) 43 (0, 0))) (l : List ByteArray) (hl : ∀ x ∈ l, x.size ≤ 1000000) : Turns Try.prog 44 #[.pointer (some ⟨b, 0, none⟩)] w l (encS (ruleKeep c)) :=
  ⟨enters_of1, fun x W hW hx => ofEnc_any x b c W (hl x hx) (blk_below hb hW)⟩
theorem enters_star1 (args : Array Value) (w : World) : (callFunc 54 args).run Try.prog w = .ok (.enter 54 args) w := enters_of Try.func54 (by kernel_rfl) rfl args w
def itemS (c : Int) (name s : ByteArray) : ByteArray := maybeS c name (encS (ruleKeep c) s)
set_option maxHeartbeats 4000000 in
set_option maxRecDepth 100000 in
theorem star1_any (c : Int) (rb wb sb : Nat) (name : ByteArray) (mx : Int) (st : Bool) (s : ByteArray) (w1 : World) (hn : name.size ≤ 1000000) (hs : s.size ≤ 1000000) (hru : w1.heap[rb]? = some (.cells (ruleCells c) 43 (0, 0))) (hwy : w1.heap[wb]? = some (.cells #[.string (ruleFirst c), .string (ruleSep c), .bool (ruleNamed c), .string (ruleEmpty c), .bool (ruleKeep c), .func (.func 44) #[] #[.pointer (some ⟨rb, 0, none⟩)]] 53 (0, 0))) (hsp : w1.heap[sb]? = some (.cells #[.string name, .int .i64 mx, .bool st] 23 (0, 0))) :
    Calls Try.prog 54 #[.string s, .pointer (some ⟨wb, 0, none⟩), .pointer (some ⟨sb, 0, none⟩)] w1 fun e w' => e = .returned (.string (itemS c name s)) ∧ Below w1.heap.size w1 w' := by
  have HM := Aside0.mk (fun s W hs => maybe_any c rb name s W hn hs)
  have HO := Aside0.mk (fun s W hs hb => ofEnc_any s rb c W hs hb)
  unfold wayV at HM
  have HRU := Aside0.mk hru
  have HWY := Aside0.mk hwy
  have HSP := Aside0.mk hsp
  have hsz2 : (encS (ruleKeep c) s).size ≤ 10000000 := by have := encS_size (ruleKeep c) s; omega
  clear hru hwy hsp
  go_enter Try.func54, Try.ntmps54
  go_wp2_with fail
  refine start_ (n := 9) (S := fun w' => True) (ds := []) #[false, false, false, false, false, false, false, false, false] (by kernel_rfl) rfl rfl trivial (fun hHeld => ?_)
  refine with_tabW star1.tab1 star1.bits1 (fun HT_ HW_ => ?_)
  refine inv_at [0, 1, 2, 3, 4, 5, 6, 7, 8] (fun a0_ b a w' => a = putSel a0_ b [(0, 5, .agg #[.string (ruleFirst c), .string (ruleSep c), .bool (ruleNamed c), .string (ruleEmpty c), .bool (ruleKeep c), .func (.func 44) #[] #[.pointer (some ⟨rb, 0, none⟩)]]), (1, 6, .pointer (some ⟨sb, 0, none⟩)), (2, 7, .string name), (3, 8, .pointer (some ⟨wb, 5, none⟩)), (4, 9, .func (.func 44) #[] #[.pointer (some ⟨rb, 0, none⟩)]), (5, 10, .string s), (6, 11, .string (encS (ruleKeep c) s)), (7, 12, .string (maybeS c name (encS (ruleKeep c) s))), (8, 4, .string (maybeS c name (encS (ruleKeep c) s)))] ∧ Below w1.drew.heap.size w1.drew w') HT_.out HW_.out (by kernel_rfl) (by kernel_rfl) ?_ ?_ ?_
  · exact ⟨by simp only [putSel, Bool.false_eq_true, if_false], Below.refl _ _⟩
  · clear hHeld HT_ HW_
    refine steps_cons ?_ ?_
    · rintro b a w' ⟨ha, HBW⟩ hb_ hon hoff
      refine ⟨_, rfl, fun K hK => ?_⟩
      have e1 : a.tmps[1]? = some (.pointer (some ⟨wb, 0, none⟩)) := by rw [ha]; exact (putSel_off rfl).trans rfl
      replace ha := Aside0.mk ha
      have HBW := Aside0.mk HBW
      obtain ⟨c0_, c1_, c2_, c3_, c4_, c5_⟩ := cells6 (blk_below (blk_drew HWY.out) HBW.out)
      refine value_ (w1 := w') (v := .agg #[.string (ruleFirst c), .string (ruleSep c), .bool (ruleNamed c), .string (ruleEmpty c), .bool (ruleKeep c), .func (.func 44) #[] #[.pointer (some ⟨rb, 0, none⟩)]]) (by rfl) rfl ?_ ?_
      · go_simp
        (try simp only [i64_w])
        try rfl
      refine hK.out _ _ ⟨(by rw [ha.out]; exact putSel_upk 0 hb_ rfl rfl rfl), HBW.out⟩
    refine steps_cons ?_ ?_
    · rintro b a w' ⟨ha, HBW⟩ hb_ hon hoff
      refine ⟨_, rfl, fun K hK => ?_⟩
      have e2 : a.tmps[2]? = some (.pointer (some ⟨sb, 0, none⟩)) := by rw [ha]; exact (putSel_off rfl).trans rfl
      replace ha := Aside0.mk ha
      have HBW := Aside0.mk HBW
      refine value_ (w1 := w') (v := .pointer (some ⟨sb, 0, none⟩)) (by rfl) rfl ?_ ?_
      · go_simp
        (try simp only [i64_w])
        try rfl
      refine hK.out _ _ ⟨(by rw [ha.out]; exact putSel_upk 1 hb_ rfl rfl rfl), HBW.out⟩
    refine steps_cons ?_ ?_
    · rintro b a w' ⟨ha, HBW⟩ hb_ hon hoff
      refine ⟨_, rfl, fun K hK => ?_⟩
      have e6 : a.tmps[6]? = some (.pointer (some ⟨sb, 0, none⟩)) := by rw [ha]; exact putSel_on (e := (1, 6, .pointer (some ⟨sb, 0, none⟩))) 1 rfl rfl (hon 1 (by kernel_rfl)) rfl
      replace ha := Aside0.mk ha
      have HBW := Aside0.mk HBW
      have c0_ := (blk_cell (blk_below (blk_drew HSP.out) HBW.out) 0).trans rfl
      refine value_ (w1 := w') (v := .string name) (by rfl) rfl ?_ ?_
      · go_simp
        (try simp only [i64_w])
        try rfl
      refine hK.out _ _ ⟨(by rw [ha.out]; exact putSel_upk 2 hb_ rfl rfl rfl), HBW.out⟩
    refine steps_cons ?_ ?_
    · rintro b a w' ⟨ha, HBW⟩ hb_ hon hoff
      refine ⟨_, rfl, fun K hK => ?_⟩
      have e1 : a.tmps[1]? = some (.pointer (some ⟨wb, 0, none⟩)) := by rw [ha]; exact (putSel_off rfl).trans rfl
      replace ha := Aside0.mk ha
      have HBW := Aside0.mk HBW
      refine value_ (w1 := w') (v := .pointer (some ⟨wb, 5, none⟩)) (by rfl) rfl ?_ ?_
      · go_simp
        (try simp only [i64_w])
        try rfl
      refine hK.out _ _ ⟨(by rw [ha.out]; exact putSel_upk 3 hb_ rfl rfl rfl), HBW.out⟩
    refine steps_cons ?_ ?_
    · rintro b a w' ⟨ha, HBW⟩ hb_ hon hoff
      refine ⟨_, rfl, fun K hK => ?_⟩
      have e8 : a.tmps[8]? = some (.pointer (some ⟨wb, 5, none⟩)) := by rw [ha]; exact putSel_on (e := (3, 8, .pointer (some ⟨wb, 5, none⟩))) 3 rfl rfl (hon 3 (by kernel_rfl)) rfl
      replace ha := Aside0.mk ha
      have HBW := Aside0.mk HBW
      have c0_ := (blk_cell (blk_below (blk_drew HWY.out) HBW.out) 5).trans rfl
      refine value_ (w1 := w') (v := .func (.func 44) #[] #[.pointer (some ⟨rb, 0, none⟩)]) (by rfl) rfl ?_ ?_
      · go_simp
        (try simp only [i64_w])
        try rfl
      refine hK.out _ _ ⟨(by rw [ha.out]; exact putSel_upk 4 hb_ rfl rfl rfl), HBW.out⟩
    refine steps_cons ?_ ?_
    · rintro b a w' ⟨ha, HBW⟩ hb_ hon hoff
      refine ⟨_, rfl, fun K hK => ?_⟩
      have e0 : a.tmps[0]? = some (.string s) := by rw [ha]; exact (putSel_off rfl).trans rfl
      replace ha := Aside0.mk ha
      have HBW := Aside0.mk HBW
      refine value_ (w1 := w') (v := .string s) (by rfl) rfl ?_ ?_
      · go_simp
        (try simp only [i64_w])
        try rfl
      refine hK.out _ _ ⟨(by rw [ha.out]; exact putSel_upk 5 hb_ rfl rfl rfl), HBW.out⟩
    refine steps_cons ?_ ?_
    · rintro b a w' ⟨ha, HBW⟩ hb_ hon hoff
      refine ⟨_, rfl, fun K hK => ?_⟩
      have e9 : a.tmps[9]? = some (.func (.func 44) #[] #[.pointer (some ⟨rb, 0, none⟩)]) := by rw [ha]; exact putSel_on (e := (4, 9, .func (.func 44) #[] #[.pointer (some ⟨rb, 0, none⟩)])) 4 rfl rfl (hon 4 (by kernel_rfl)) rfl
      have e10 : a.tmps[10]? = some (.string s) := by rw [ha]; exact putSel_on (e := (5, 10, .string s)) 5 rfl rfl (hon 5 (by kernel_rfl)) rfl
      replace ha := Aside0.mk ha
      have HBW := Aside0.mk HBW
      have eg_ := fun args W => enters_ (P := Try.prog) Try.func44 (by kernel_rfl) rfl args W
      refine call_ 44 #[.string s, .pointer (some ⟨rb, 0, none⟩)] (by rfl) rfl ?_ ?_
      · unfold execOp; simp only [resolve, Deferred.ofValue, invoke, Act.eval, Array.getD_eq_getD_getElem?, Option.getD_some, e9, e10]
        go_simp
        try rfl
      refine (HO.out s w' hs (blk_below (blk_drew HRU.out) HBW.out)).mono ?_
      rintro e w1 ⟨rfl, hb⟩
      refine ⟨_, rfl, ?_⟩
      refine hK.out _ _ ⟨(by rw [ha.out]; exact putSel_upk 6 hb_ rfl rfl rfl), below_step HBW.out hb⟩
    refine steps_cons ?_ ?_
    · rintro b a w' ⟨ha, HBW⟩ hb_ hon hoff
      refine ⟨_, rfl, fun K hK => ?_⟩
      have e5 : a.tmps[5]? = some (.agg #[.string (ruleFirst c), .string (ruleSep c), .bool (ruleNamed c), .string (ruleEmpty c), .bool (ruleKeep c), .func (.func 44) #[] #[.pointer (some ⟨rb, 0, none⟩)]]) := by rw [ha]; exact putSel_on (e := (0, 5, .agg #[.string (ruleFirst c), .string (ruleSep c), .bool (ruleNamed c), .string (ruleEmpty c), .bool (ruleKeep c), .func (.func 44) #[] #[.pointer (some ⟨rb, 0, none⟩)]])) 0 rfl rfl (hon 0 (by kernel_rfl)) rfl
      have e7 : a.tmps[7]? = some (.string name) := by rw [ha]; exact putSel_on (e := (2, 7, .string name)) 2 rfl rfl (hon 2 (by kernel_rfl)) rfl
      have e11 : a.tmps[11]? = some (.string (encS (ruleKeep c) s)) := by rw [ha]; exact putSel_on (e := (6, 11, .string (encS (ruleKeep c) s))) 6 rfl rfl (hon 6 (by kernel_rfl)) rfl
      replace ha := Aside0.mk ha
      have HBW := Aside0.mk HBW
      refine goes_ Try.func52 (by kernel_rfl) rfl #[.agg #[.string (ruleFirst c), .string (ruleSep c), .bool (ruleNamed c), .string (ruleEmpty c), .bool (ruleKeep c), .func (.func 44) #[] #[.pointer (some ⟨rb, 0, none⟩)]], .string name, .string (encS (ruleKeep c) s)] (by rfl) rfl rfl (by first | (simp only [List.map_toArray, List.map_cons, List.map_nil, Act.eval, Array.getD_eq_getD_getElem?, Option.getD_some, e5, e7, e11]; done) | (simp only [List.map_toArray, List.map_cons, List.map_nil, Act.eval, Array.getD_eq_getD_getElem?, Option.getD_some, e5, e7, e11]; rfl)) ?_
      refine (HM.out _ w' hsz2).mono ?_
      rintro e w1 ⟨rfl, hb⟩
      refine ⟨_, rfl, ?_⟩
      refine hK.out _ _ ⟨(by rw [ha.out]; exact putSel_upk 7 hb_ rfl rfl rfl), below_step HBW.out hb⟩
    refine steps_cons ?_ ?_
    · rintro b a w' ⟨ha, HBW⟩ hb_ hon hoff
      refine ⟨_, rfl, fun K hK => ?_⟩
      have e12 : a.tmps[12]? = some (.string (maybeS c name (encS (ruleKeep c) s))) := by rw [ha]; exact putSel_on (e := (7, 12, .string (maybeS c name (encS (ruleKeep c) s)))) 7 rfl rfl (hon 7 (by kernel_rfl)) rfl
      replace ha := Aside0.mk ha
      have HBW := Aside0.mk HBW
      refine value_ (w1 := w') (v := .string (maybeS c name (encS (ruleKeep c) s))) (by rfl) rfl ?_ ?_
      · go_simp
        (try simp only [i64_w])
        try rfl
      refine hK.out _ _ ⟨(by rw [ha.out]; exact putSel_upk 8 hb_ rfl rfl rfl), HBW.out⟩
    exact steps_nil
  rintro b a w5 hall ⟨ha, HBW⟩
  have hb0_ := hall 0 (by kernel_rfl)
  have hb1_ := hall 1 (by kernel_rfl)
  have hb2_ := hall 2 (by kernel_rfl)
  have hb3_ := hall 3 (by kernel_rfl)
  have hb4_ := hall 4 (by kernel_rfl)
  have hb5_ := hall 5 (by kernel_rfl)
  have hb6_ := hall 6 (by kernel_rfl)
  have hb7_ := hall 7 (by kernel_rfl)
  have hb8_ := hall 8 (by kernel_rfl)
  subst ha
  simp only [putSel, hb0_, hb1_, hb2_, hb3_, hb4_, hb5_, hb6_, hb7_, hb8_, if_true, Act.put, List.setIfInBounds_toArray, List.set_cons_zero, List.set_cons_succ]
  have HBW := Aside0.mk HBW
  clear hall hb0_ hb1_ hb2_ hb3_ hb4_ hb5_ hb6_ hb7_ hb8_
  go_wp2_with fail
  go_ret
  exact ⟨rfl, below_step (w := w1) (below_drew1 (Below.refl _ w1)) HBW.out⟩
theorem star1_turns (c : Int) (rb wb sb : Nat) (name : ByteArray) (mx : Int) (st : Bool) (w : World) (hn : name.size ≤ 1000000) (hru : w.heap[rb]? = some (.cells (ruleCells c) 43 (0, 0))) (hwy : w.heap[wb]? = some (.cells #[.string (ruleFirst c), .string (ruleSep c), .bool (ruleNamed c), .string (ruleEmpty c), .bool (ruleKeep c), .func (.func 44) #[] #[.pointer (some ⟨rb, 0, none⟩)]] 53 (0, 0))) (hsp : w.heap[sb]? = some (.cells #[.string name, .int .i64 mx, .bool st] 23 (0, 0))) (l : List ByteArray) (hl : ∀ x ∈ l, x.size ≤ 1000000) :
    Turns Try.prog 54 #[.pointer (some ⟨wb, 0, none⟩), .pointer (some ⟨sb, 0, none⟩)] w l (itemS c name) :=
  ⟨enters_star1, fun x W hW hx => star1_any c rb wb sb name mx st x W hn (hl x hx) (blk_below hru hW) (blk_below hwy hW) (blk_below hsp hW)⟩
def pairS (c : Int) (k v : ByteArray) : ByteArray := if ruleNamed c = true then namedS c (encS true k) (encS (ruleKeep c) v) else encS (ruleKeep c) k ++ ⟨#[61]⟩ ++ encS (ruleKeep c) v
set_option maxHeartbeats 8000000 in
set_option maxRecDepth 100000 in
theorem pair_any (c : Int) (rb : Nat) (k v : ByteArray) (w : World) (hk : k.size ≤ 300000) (hv : v.size ≤ 300000) (hru : w.heap[rb]? = some (.cells (ruleCells c) 43 (0, 0))) :
    Calls Try.prog 55 #[wayV c rb, .agg #[.string k, .string v]] w fun e w' => e = .returned (.string (pairS c k v)) ∧ Below w.heap.size w w' := by
  have HO := Aside0.mk (fun s W hs hb => ofEnc_any s rb c W hs hb)
  have HEN := Aside0.mk (fun W => encode_any k true W (by omega))
  have hk1 := encS_size (ruleKeep c) k
  have hk2 := encS_size true k
  have hv1 := encS_size (ruleKeep c) v
  have HND := Aside0.mk (fun W => named_any c rb (encS true k) (encS (ruleKeep c) v) W (by omega) (by omega))
  unfold wayV at HND ⊢
  have HR := Aside0.mk hru
  clear hru
  cases h : ruleNamed c with
  | true =>
    have HN := Aside0.mk (show pairS c k v = namedS c (encS true k) (encS (ruleKeep c) v) from if_pos h)
    rw [h] at HND
    go_enter Try.func55, Try.ntmps55
    go_wp2_with fail
    refine forget (P := fun W => Code.wp _ _ _ _ W) _ (fun w1 => w1.heap[rb]? = some (.cells (ruleCells c) 43 (0, 0)) ∧ w1.heap[w.heap.size + 1]? = some (.cells #[.string k, .string v] 69 (0, 0)) ∧ w1.heap[w.heap.size]? = some (.cells #[.string (ruleFirst c), .string (ruleSep c), .bool true, .string (ruleEmpty c), .bool (ruleKeep c), .func (.func 44) #[] #[.pointer (some ⟨rb, 0, none⟩)]] 53 (0, 0)) ∧ Below w.heap.size w w1) ⟨blk_alloc (blk_alloc HR.out _) _, X.blk_new2 w _ _, blk_alloc (blk_new w _) _, X.below_new2 w _ _⟩ ?_
    rintro w1 ⟨hru, hpr, hwy, hbl⟩
    have HRU := Aside0.mk hru
    have HPR := Aside0.mk hpr
    have HWY := Aside0.mk hwy
    have HB := Aside0.mk hbl
    clear hru hpr hwy hbl
    refine start_ (n := 11) (S := fun w' => True) (ds := []) #[false, false, false, false, false, false, false, false, false, false, false] (by kernel_rfl) rfl rfl trivial (fun hHeld => ?_)
    refine with_tabW pairT.tab2 pairT.bits2 (fun HT_ HW_ => ?_)
    refine inv_at [0, 1, 2, 3, 4, 5, 6, 7, 8, 9, 10] (fun a0_ b a w' => a = putSel a0_ b [(0, 8, .agg #[.string (ruleFirst c), .string (ruleSep c), .bool true, .string (ruleEmpty c), .bool (ruleKeep c), .func (.func 44) #[] #[.pointer (some ⟨rb, 0, none⟩)]]), (1, 9, .pointer (some ⟨w.heap.size + 1, 0, none⟩)), (2, 10, .string k), (3, 11, .string (encS true k)), (4, 12, .pointer (some ⟨w.heap.size, 5, none⟩)), (5, 13, .func (.func 44) #[] #[.pointer (some ⟨rb, 0, none⟩)]), (6, 14, .pointer (some ⟨w.heap.size + 1, 1, none⟩)), (7, 15, .string v), (8, 16, .string (encS (ruleKeep c) v)), (9, 17, .string (namedS c (encS true k) (encS (ruleKeep c) v))), (10, 4, .string (namedS c (encS true k) (encS (ruleKeep c) v)))] ∧ Below w1.drew.heap.size w1.drew w') HT_.out HW_.out (by kernel_rfl) (by kernel_rfl) ?_ ?_ ?_
    · exact ⟨by simp only [putSel, Bool.false_eq_true, if_false], Below.refl _ _⟩
    · clear hHeld HT_ HW_
      refine steps_cons ?_ ?_
      · rintro b a w' ⟨ha, HBW⟩ hb_ hon hoff
        refine ⟨_, rfl, fun K hK => ?_⟩
        have e2 : a.tmps[2]? = some (.pointer (some ⟨w.heap.size, 0, none⟩)) := by rw [ha]; exact (putSel_off rfl).trans rfl
        replace ha := Aside0.mk ha
        have HBW := Aside0.mk HBW
        obtain ⟨c0_, c1_, c2_, c3_, c4_, c5_⟩ := cells6 (blk_below (blk_drew HWY.out) HBW.out)
        refine value_ (w1 := w') (v := .agg #[.string (ruleFirst c), .string (ruleSep c), .bool true, .string (ruleEmpty c), .bool (ruleKeep c), .func (.func 44) #[] #[.pointer (some ⟨rb, 0, none⟩)]]) (by rfl) rfl ?_ ?_
        · go_simp
          (try simp only [i64_w])
          try rfl
        refine hK.out _ _ ⟨(by rw [ha.out]; exact putSel_upk 0 hb_ rfl rfl rfl), HBW.out⟩
      refine steps_cons ?_ ?_
      · rintro b a w' ⟨ha, HBW⟩ hb_ hon hoff
        refine ⟨_, rfl, fun K hK => ?_⟩
        have e3 : a.tmps[3]? = some (.pointer (some ⟨w.heap.size + 1, 0, none⟩)) := by rw [ha]; exact (putSel_off rfl).trans rfl
        replace ha := Aside0.mk ha
        have HBW := Aside0.mk HBW
        refine value_ (w1 := w') (v := .pointer (some ⟨w.heap.size + 1, 0, none⟩)) (by rfl) rfl ?_ ?_
        · go_simp
          (try simp only [i64_w])
          try rfl
        refine hK.out _ _ ⟨(by rw [ha.out]; exact putSel_upk 1 hb_ rfl rfl rfl), HBW.out⟩
      refine steps_cons ?_ ?_
      · rintro b a w' ⟨ha, HBW⟩ hb_ hon hoff
        refine ⟨_, rfl, fun K hK => ?_⟩
        have e9 : a.tmps[9]? = some (.pointer (some ⟨w.heap.size + 1, 0, none⟩)) := by rw [ha]; exact putSel_on (e := (1, 9, .pointer (some ⟨w.heap.size + 1, 0, none⟩))) 1 rfl rfl (hon 1 (by kernel_rfl)) rfl
        replace ha := Aside0.mk ha
        have HBW := Aside0.mk HBW
        have c0_ := (blk_cell (blk_below (blk_drew HPR.out) HBW.out) 0).trans rfl
        refine value_ (w1 := w') (v := .string k) (by rfl) rfl ?_ ?_
        · go_simp
          (try simp only [i64_w])
          try rfl
        refine hK.out _ _ ⟨(by rw [ha.out]; exact putSel_upk 2 hb_ rfl rfl rfl), HBW.out⟩
      refine steps_cons ?_ ?_
      · rintro b a w' ⟨ha, HBW⟩ hb_ hon hoff
        refine ⟨_, rfl, fun K hK => ?_⟩
        have e10 : a.tmps[10]? = some (.string k) := by rw [ha]; exact putSel_on (e := (2, 10, .string k)) 2 rfl rfl (hon 2 (by kernel_rfl)) rfl
        replace ha := Aside0.mk ha
        have HBW := Aside0.mk HBW
        refine goes_ Try.func45 (by kernel_rfl) rfl #[.string k, .bool true] (by rfl) rfl rfl (by first | (simp only [List.map_toArray, List.map_cons, List.map_nil, Act.eval, Array.getD_eq_getD_getElem?, Option.getD_some, e10]; done) | (simp only [List.map_toArray, List.map_cons, List.map_nil, Act.eval, Array.getD_eq_getD_getElem?, Option.getD_some, e10]; rfl)) ?_
        refine (HEN.out w').mono ?_
        rintro e w1 ⟨rfl, hb⟩
        refine ⟨_, rfl, ?_⟩
        refine hK.out _ _ ⟨(by rw [ha.out]; exact putSel_upk 3 hb_ rfl rfl rfl), below_step HBW.out hb⟩
      refine steps_cons ?_ ?_
      · rintro b a w' ⟨ha, HBW⟩ hb_ hon hoff
        refine ⟨_, rfl, fun K hK => ?_⟩
        have e2 : a.tmps[2]? = some (.pointer (some ⟨w.heap.size, 0, none⟩)) := by rw [ha]; exact (putSel_off rfl).trans rfl
        replace ha := Aside0.mk ha
        have HBW := Aside0.mk HBW
        refine value_ (w1 := w') (v := .pointer (some ⟨w.heap.size, 5, none⟩)) (by rfl) rfl ?_ ?_
        · go_simp
          (try simp only [i64_w])
          try rfl
        refine hK.out _ _ ⟨(by rw [ha.out]; exact putSel_upk 4 hb_ rfl rfl rfl), HBW.out⟩
      refine steps_cons ?_ ?_
      · rintro b a w' ⟨ha, HBW⟩ hb_ hon hoff
        refine ⟨_, rfl, fun K hK => ?_⟩
        have e12 : a.tmps[12]? = some (.pointer (some ⟨w.heap.size, 5, none⟩)) := by rw [ha]; exact putSel_on (e := (4, 12, .pointer (some ⟨w.heap.size, 5, none⟩))) 4 rfl rfl (hon 4 (by kernel_rfl)) rfl
        replace ha := Aside0.mk ha
        have HBW := Aside0.mk HBW
        have c0_ := (blk_cell (blk_below (blk_drew HWY.out) HBW.out) 5).trans rfl
        refine value_ (w1 := w') (v := .func (.func 44) #[] #[.pointer (some ⟨rb, 0, none⟩)]) (by rfl) rfl ?_ ?_
        · go_simp
          (try simp only [i64_w])
          try rfl
        refine hK.out _ _ ⟨(by rw [ha.out]; exact putSel_upk 5 hb_ rfl rfl rfl), HBW.out⟩
      refine steps_cons ?_ ?_
      · rintro b a w' ⟨ha, HBW⟩ hb_ hon hoff
        refine ⟨_, rfl, fun K hK => ?_⟩
        have e3 : a.tmps[3]? = some (.pointer (some ⟨w.heap.size + 1, 0, none⟩)) := by rw [ha]; exact (putSel_off rfl).trans rfl
        replace ha := Aside0.mk ha
        have HBW := Aside0.mk HBW
        refine value_ (w1 := w') (v := .pointer (some ⟨w.heap.size + 1, 1, none⟩)) (by rfl) rfl ?_ ?_
        · go_simp
          (try simp only [i64_w])
          try rfl
        refine hK.out _ _ ⟨(by rw [ha.out]; exact putSel_upk 6 hb_ rfl rfl rfl), HBW.out⟩
      refine steps_cons ?_ ?_
      · rintro b a w' ⟨ha, HBW⟩ hb_ hon hoff
        refine ⟨_, rfl, fun K hK => ?_⟩
        have e14 : a.tmps[14]? = some (.pointer (some ⟨w.heap.size + 1, 1, none⟩)) := by rw [ha]; exact putSel_on (e := (6, 14, .pointer (some ⟨w.heap.size + 1, 1, none⟩))) 6 rfl rfl (hon 6 (by kernel_rfl)) rfl
        replace ha := Aside0.mk ha
        have HBW := Aside0.mk HBW
        have c0_ := (blk_cell (blk_below (blk_drew HPR.out) HBW.out) 1).trans rfl
        refine value_ (w1 := w') (v := .string v) (by rfl) rfl ?_ ?_
        · go_simp
          (try simp only [i64_w])
          try rfl
        refine hK.out _ _ ⟨(by rw [ha.out]; exact putSel_upk 7 hb_ rfl rfl rfl), HBW.out⟩
      refine steps_cons ?_ ?_
      · rintro b a w' ⟨ha, HBW⟩ hb_ hon hoff
        refine ⟨_, rfl, fun K hK => ?_⟩
        have e13 : a.tmps[13]? = some (.func (.func 44) #[] #[.pointer (some ⟨rb, 0, none⟩)]) := by rw [ha]; exact putSel_on (e := (5, 13, .func (.func 44) #[] #[.pointer (some ⟨rb, 0, none⟩)])) 5 rfl rfl (hon 5 (by kernel_rfl)) rfl
        have e15 : a.tmps[15]? = some (.string v) := by rw [ha]; exact putSel_on (e := (7, 15, .string v)) 7 rfl rfl (hon 7 (by kernel_rfl)) rfl
        replace ha := Aside0.mk ha
        have HBW := Aside0.mk HBW
        have eg_ := fun args W => enters_ (P := Try.prog) Try.func44 (by kernel_rfl) rfl args W
        refine call_ 44 #[.string v, .pointer (some ⟨rb, 0, none⟩)] (by rfl) rfl ?_ ?_
        · unfold execOp; simp only [resolve, Deferred.ofValue, invoke, Act.eval, Array.getD_eq_getD_getElem?, Option.getD_some, e13, e15]
          go_simp
          try rfl
        refine (HO.out v w' (by omega) (blk_below (blk_drew HRU.out) HBW.out)).mono ?_
        rintro e w1 ⟨rfl, hb⟩
        refine ⟨_, rfl, ?_⟩
        refine hK.out _ _ ⟨(by rw [ha.out]; exact putSel_upk 8 hb_ rfl rfl rfl), below_step HBW.out hb⟩
      refine steps_cons ?_ ?_
      · rintro b a w' ⟨ha, HBW⟩ hb_ hon hoff
        refine ⟨_, rfl, fun K hK => ?_⟩
        have e8 : a.tmps[8]? = some (.agg #[.string (ruleFirst c), .string (ruleSep c), .bool true, .string (ruleEmpty c), .bool (ruleKeep c), .func (.func 44) #[] #[.pointer (some ⟨rb, 0, none⟩)]]) := by rw [ha]; exact putSel_on (e := (0, 8, .agg #[.string (ruleFirst c), .string (ruleSep c), .bool true, .string (ruleEmpty c), .bool (ruleKeep c), .func (.func 44) #[] #[.pointer (some ⟨rb, 0, none⟩)]])) 0 rfl rfl (hon 0 (by kernel_rfl)) rfl
        have e11 : a.tmps[11]? = some (.string (encS true k)) := by rw [ha]; exact putSel_on (e := (3, 11, .string (encS true k))) 3 rfl rfl (hon 3 (by kernel_rfl)) rfl
        have e16 : a.tmps[16]? = some (.string (encS (ruleKeep c) v)) := by rw [ha]; exact putSel_on (e := (8, 16, .string (encS (ruleKeep c) v))) 8 rfl rfl (hon 8 (by kernel_rfl)) rfl
        replace ha := Aside0.mk ha
        have HBW := Aside0.mk HBW
        refine goes_ Try.func43 (by kernel_rfl) rfl #[.agg #[.string (ruleFirst c), .string (ruleSep c), .bool true, .string (ruleEmpty c), .bool (ruleKeep c), .func (.func 44) #[] #[.pointer (some ⟨rb, 0, none⟩)]], .string (encS true k), .string (encS (ruleKeep c) v)] (by rfl) rfl rfl (by first | (simp only [List.map_toArray, List.map_cons, List.map_nil, Act.eval, Array.getD_eq_getD_getElem?, Option.getD_some, e8, e11, e16]; done) | (simp only [List.map_toArray, List.map_cons, List.map_nil, Act.eval, Array.getD_eq_getD_getElem?, Option.getD_some, e8, e11, e16]; rfl)) ?_
        refine (HND.out w').mono ?_
        rintro e w1 ⟨rfl, hb⟩
        refine ⟨_, rfl, ?_⟩
        refine hK.out _ _ ⟨(by rw [ha.out]; exact putSel_upk 9 hb_ rfl rfl rfl), below_step HBW.out hb⟩
      refine steps_cons ?_ ?_
      · rintro b a w' ⟨ha, HBW⟩ hb_ hon hoff
        refine ⟨_, rfl, fun K hK => ?_⟩
        have e17 : a.tmps[17]? = some (.string (namedS c (encS true k) (encS (ruleKeep c) v))) := by rw [ha]; exact putSel_on (e := (9, 17, .string (namedS c (encS true k) (encS (ruleKeep c) v)))) 9 rfl rfl (hon 9 (by kernel_rfl)) rfl
        replace ha := Aside0.mk ha
        have HBW := Aside0.mk HBW
        refine value_ (w1 := w') (v := .string (namedS c (encS true k) (encS (ruleKeep c) v))) (by rfl) rfl ?_ ?_
        · go_simp
          (try simp only [i64_w])
          try rfl
        refine hK.out _ _ ⟨(by rw [ha.out]; exact putSel_upk 10 hb_ rfl rfl rfl), HBW.out⟩
      exact steps_nil
    rintro b a w5 hall ⟨ha, HBW⟩
    have hb0_ := hall 0 (by kernel_rfl)
    have hb1_ := hall 1 (by kernel_rfl)
    have hb2_ := hall 2 (by kernel_rfl)
    have hb3_ := hall 3 (by kernel_rfl)
    have hb4_ := hall 4 (by kernel_rfl)
    have hb5_ := hall 5 (by kernel_rfl)
    have hb6_ := hall 6 (by kernel_rfl)
    have hb7_ := hall 7 (by kernel_rfl)
    have hb8_ := hall 8 (by kernel_rfl)
    have hb9_ := hall 9 (by kernel_rfl)
    have hb10_ := hall 10 (by kernel_rfl)
    subst ha
    simp only [putSel, hb0_, hb1_, hb2_, hb3_, hb4_, hb5_, hb6_, hb7_, hb8_, hb9_, hb10_, if_true, Act.put, List.setIfInBounds_toArray, List.set_cons_zero, List.set_cons_succ]
    have HBW := Aside0.mk HBW
    clear hall hb0_ hb1_ hb2_ hb3_ hb4_ hb5_ hb6_ hb7_ hb8_ hb9_ hb10_
    go_wp2_with fail
    go_ret
    exact ⟨by rw [HN.out]; rfl, below_step (below_drew1 HB.out) HBW.out⟩
  | false =>
    have HN := Aside0.mk (show pairS c k v = encS (ruleKeep c) k ++ ⟨#[61]⟩ ++ encS (ruleKeep c) v from if_neg (by rw [h]; decide))
    have q1 : (9223372036854775807 < (encS (ruleKeep c) k).size + (⟨#[61]⟩ : ByteArray).size) = False := eq_false (by show ¬ (_ < (encS (ruleKeep c) k).size + 1); omega)
    have q2 : (9223372036854775807 < (encS (ruleKeep c) k).size + 1) = False := eq_false (by omega)
    have q3 : (9223372036854775807 < (encS (ruleKeep c) k ++ (⟨#[61]⟩ : ByteArray)).size + (encS (ruleKeep c) v).size) = False := eq_false (by rw [ByteArray.size_append]; show ¬ (_ < (encS (ruleKeep c) k).size + 1 + (encS (ruleKeep c) v).size); omega)
    have q4 : (9223372036854775807 < (encS (ruleKeep c) k).size + 1 + (encS (ruleKeep c) v).size) = False := eq_false (by omega)
    go_enter Try.func55, Try.ntmps55
    go_wp2_with fail
    refine forget (P := fun W => Code.wp _ _ _ _ W) _ (fun w1 => w1.heap[rb]? = some (.cells (ruleCells c) 43 (0, 0)) ∧ w1.heap[w.heap.size + 1]? = some (.cells #[.string k, .string v] 69 (0, 0)) ∧ w1.heap[w.heap.size]? = some (.cells #[.string (ruleFirst c), .string (ruleSep c), .bool false, .string (ruleEmpty c), .bool (ruleKeep c), .func (.func 44) #[] #[.pointer (some ⟨rb, 0, none⟩)]] 53 (0, 0)) ∧ Below w.heap.size w w1) ⟨blk_alloc (blk_alloc HR.out _) _, X.blk_new2 w _ _, blk_alloc (blk_new w _) _, X.below_new2 w _ _⟩ ?_
    rintro w1 ⟨hru, hpr, hwy, hbl⟩
    have HRU := Aside0.mk hru
    have HPR := Aside0.mk hpr
    have HWY := Aside0.mk hwy
    have HB := Aside0.mk hbl
    clear hru hpr hwy hbl
    refine start_ (n := 13) (S := fun w' => True) (ds := []) #[false, false, false, false, false, false, false, false, false, false, false, false, false] (by kernel_rfl) rfl rfl trivial (fun hHeld => ?_)
    refine with_tabW pairF.tab3 pairF.bits3 (fun HT_ HW_ => ?_)
    refine inv_at [0, 1, 2, 3, 4, 5, 6, 7, 8, 9, 10, 11, 12] (fun a0_ b a w' => a = putSel a0_ b [(0, 18, .pointer (some ⟨w.heap.size, 5, none⟩)), (1, 19, .func (.func 44) #[] #[.pointer (some ⟨rb, 0, none⟩)]), (2, 20, .pointer (some ⟨w.heap.size + 1, 0, none⟩)), (3, 21, .string k), (4, 22, .string (encS (ruleKeep c) k)), (5, 23, .string (encS (ruleKeep c) k ++ (⟨#[61]⟩ : ByteArray))), (6, 24, .pointer (some ⟨w.heap.size, 5, none⟩)), (7, 25, .func (.func 44) #[] #[.pointer (some ⟨rb, 0, none⟩)]), (8, 26, .pointer (some ⟨w.heap.size + 1, 1, none⟩)), (9, 27, .string v), (10, 28, .string (encS (ruleKeep c) v)), (11, 29, .string (encS (ruleKeep c) k ++ (⟨#[61]⟩ : ByteArray) ++ encS (ruleKeep c) v)), (12, 4, .string (encS (ruleKeep c) k ++ (⟨#[61]⟩ : ByteArray) ++ encS (ruleKeep c) v))] ∧ Below w1.drew.heap.size w1.drew w') HT_.out HW_.out (by kernel_rfl) (by kernel_rfl) ?_ ?_ ?_
    · exact ⟨by simp only [putSel, Bool.false_eq_true, if_false], Below.refl _ _⟩
    · clear hHeld HT_ HW_
      refine steps_cons ?_ ?_
      · rintro b a w' ⟨ha, HBW⟩ hb_ hon hoff
        refine ⟨_, rfl, fun K hK => ?_⟩
        have e2 : a.tmps[2]? = some (.pointer (some ⟨w.heap.size, 0, none⟩)) := by rw [ha]; exact (putSel_off rfl).trans rfl
        replace ha := Aside0.mk ha
        have HBW := Aside0.mk HBW
        refine value_ (w1 := w') (v := .pointer (some ⟨w.heap.size, 5, none⟩)) (by rfl) rfl ?_ ?_
        · go_simp
          (try simp only [i64_w])
          try rfl
        refine hK.out _ _ ⟨(by rw [ha.out]; exact putSel_upk 0 hb_ rfl rfl rfl), HBW.out⟩
      refine steps_cons ?_ ?_
      · rintro b a w' ⟨ha, HBW⟩ hb_ hon hoff
        refine ⟨_, rfl, fun K hK => ?_⟩
        have e18 : a.tmps[18]? = some (.pointer (some ⟨w.heap.size, 5, none⟩)) := by rw [ha]; exact putSel_on (e := (0, 18, .pointer (some ⟨w.heap.size, 5, none⟩))) 0 rfl rfl (hon 0 (by kernel_rfl)) rfl
        replace ha := Aside0.mk ha
        have HBW := Aside0.mk HBW
        have c0_ := (blk_cell (blk_below (blk_drew HWY.out) HBW.out) 5).trans rfl
        refine value_ (w1 := w') (v := .func (.func 44) #[] #[.pointer (some ⟨rb, 0, none⟩)]) (by rfl) rfl ?_ ?_
        · go_simp
          (try simp only [i64_w])
          try rfl
        refine hK.out _ _ ⟨(by rw [ha.out]; exact putSel_upk 1 hb_ rfl rfl rfl), HBW.out⟩
      refine steps_cons ?_ ?_
      · rintro b a w' ⟨ha, HBW⟩ hb_ hon hoff
        refine ⟨_, rfl, fun K hK => ?_⟩
        have e3 : a.tmps[3]? = some (.pointer (some ⟨w.heap.size + 1, 0, none⟩)) := by rw [ha]; exact (putSel_off rfl).trans rfl
        replace ha := Aside0.mk ha
        have HBW := Aside0.mk HBW
        refine value_ (w1 := w') (v := .pointer (some ⟨w.heap.size + 1, 0, none⟩)) (by rfl) rfl ?_ ?_
        · go_simp
          (try simp only [i64_w])
          try rfl
        refine hK.out _ _ ⟨(by rw [ha.out]; exact putSel_upk 2 hb_ rfl rfl rfl), HBW.out⟩
      refine steps_cons ?_ ?_
      · rintro b a w' ⟨ha, HBW⟩ hb_ hon hoff
        refine ⟨_, rfl, fun K hK => ?_⟩
        have e20 : a.tmps[20]? = some (.pointer (some ⟨w.heap.size + 1, 0, none⟩)) := by rw [ha]; exact putSel_on (e := (2, 20, .pointer (some ⟨w.heap.size + 1, 0, none⟩))) 2 rfl rfl (hon 2 (by kernel_rfl)) rfl
        replace ha := Aside0.mk ha
        have HBW := Aside0.mk HBW
        have c0_ := (blk_cell (blk_below (blk_drew HPR.out) HBW.out) 0).trans rfl
        refine value_ (w1 := w') (v := .string k) (by rfl) rfl ?_ ?_
        · go_simp
          (try simp only [i64_w])
          try rfl
        refine hK.out _ _ ⟨(by rw [ha.out]; exact putSel_upk 3 hb_ rfl rfl rfl), HBW.out⟩
      refine steps_cons ?_ ?_
      · rintro b a w' ⟨ha, HBW⟩ hb_ hon hoff
        refine ⟨_, rfl, fun K hK => ?_⟩
        have e19 : a.tmps[19]? = some (.func (.func 44) #[] #[.pointer (some ⟨rb, 0, none⟩)]) := by rw [ha]; exact putSel_on (e := (1, 19, .func (.func 44) #[] #[.pointer (some ⟨rb, 0, none⟩)])) 1 rfl rfl (hon 1 (by kernel_rfl)) rfl
        have e21 : a.tmps[21]? = some (.string k) := by rw [ha]; exact putSel_on (e := (3, 21, .string k)) 3 rfl rfl (hon 3 (by kernel_rfl)) rfl
        replace ha := Aside0.mk ha
        have HBW := Aside0.mk HBW
        have eg_ := fun args W => enters_ (P := Try.prog) Try.func44 (by kernel_rfl) rfl args W
        refine call_ 44 #[.string k, .pointer (some ⟨rb, 0, none⟩)] (by rfl) rfl ?_ ?_
        · unfold execOp; simp only [resolve, Deferred.ofValue, invoke, Act.eval, Array.getD_eq_getD_getElem?, Option.getD_some, e19, e21]
          go_simp
          try rfl
        refine (HO.out k w' (by omega) (blk_below (blk_drew HRU.out) HBW.out)).mono ?_
        rintro e w1 ⟨rfl, hb⟩
        refine ⟨_, rfl, ?_⟩
        refine hK.out _ _ ⟨(by rw [ha.out]; exact putSel_upk 4 hb_ rfl rfl rfl), below_step HBW.out hb⟩
      refine steps_cons ?_ ?_
      · rintro b a w' ⟨ha, HBW⟩ hb_ hon hoff
        refine ⟨_, rfl, fun K hK => ?_⟩
        have e22 : a.tmps[22]? = some (.string (encS (ruleKeep c) k)) := by rw [ha]; exact putSel_on (e := (4, 22, .string (encS (ruleKeep c) k))) 4 rfl rfl (hon 4 (by kernel_rfl)) rfl
        replace ha := Aside0.mk ha
        have HBW := Aside0.mk HBW
        refine value_ (w1 := w') (v := .string (encS (ruleKeep c) k ++ (⟨#[61]⟩ : ByteArray))) (by rfl) rfl ?_ ?_
        · go_simp
          (try simp only [i64_w])
          try rfl
        refine hK.out _ _ ⟨(by rw [ha.out]; exact putSel_upk 5 hb_ rfl rfl rfl), HBW.out⟩
      refine steps_cons ?_ ?_
      · rintro b a w' ⟨ha, HBW⟩ hb_ hon hoff
        refine ⟨_, rfl, fun K hK => ?_⟩
        have e2 : a.tmps[2]? = some (.pointer (some ⟨w.heap.size, 0, none⟩)) := by rw [ha]; exact (putSel_off rfl).trans rfl
        replace ha := Aside0.mk ha
        have HBW := Aside0.mk HBW
        refine value_ (w1 := w') (v := .pointer (some ⟨w.heap.size, 5, none⟩)) (by rfl) rfl ?_ ?_
        · go_simp
          (try simp only [i64_w])
          try rfl
        refine hK.out _ _ ⟨(by rw [ha.out]; exact putSel_upk 6 hb_ rfl rfl rfl), HBW.out⟩
      refine steps_cons ?_ ?_
      · rintro b a w' ⟨ha, HBW⟩ hb_ hon hoff
        refine ⟨_, rfl, fun K hK => ?_⟩
        have e24 : a.tmps[24]? = some (.pointer (some ⟨w.heap.size, 5, none⟩)) := by rw [ha]; exact putSel_on (e := (6, 24, .pointer (some ⟨w.heap.size, 5, none⟩))) 6 rfl rfl (hon 6 (by kernel_rfl)) rfl
        replace ha := Aside0.mk ha
        have HBW := Aside0.mk HBW
        have c0_ := (blk_cell (blk_below (blk_drew HWY.out) HBW.out) 5).trans rfl
        refine value_ (w1 := w') (v := .func (.func 44) #[] #[.pointer (some ⟨rb, 0, none⟩)]) (by rfl) rfl ?_ ?_
        · go_simp
          (try simp only [i64_w])
          try rfl
        refine hK.out _ _ ⟨(by rw [ha.out]; exact putSel_upk 7 hb_ rfl rfl rfl), HBW.out⟩
      refine steps_cons ?_ ?_
      · rintro b a w' ⟨ha, HBW⟩ hb_ hon hoff
        refine ⟨_, rfl, fun K hK => ?_⟩
        have e3 : a.tmps[3]? = some (.pointer (some ⟨w.heap.size + 1, 0, none⟩)) := by rw [ha]; exact (putSel_off rfl).trans rfl
        replace ha := Aside0.mk ha
        have HBW := Aside0.mk HBW
        refine value_ (w1 := w') (v := .pointer (some ⟨w.heap.size + 1, 1, none⟩)) (by rfl) rfl ?_ ?_
        · go_simp
          (try simp only [i64_w])
          try rfl
        refine hK.out _ _ ⟨(by rw [ha.out]; exact putSel_upk 8 hb_ rfl rfl rfl), HBW.out⟩
      refine steps_cons ?_ ?_
      · rintro b a w' ⟨ha, HBW⟩ hb_ hon hoff
        refine ⟨_, rfl, fun K hK => ?_⟩
        have e26 : a.tmps[26]? = some (.pointer (some ⟨w.heap.size + 1, 1, none⟩)) := by rw [ha]; exact putSel_on (e := (8, 26, .pointer (some ⟨w.heap.size + 1, 1, none⟩))) 8 rfl rfl (hon 8 (by kernel_rfl)) rfl
        replace ha := Aside0.mk ha
        have HBW := Aside0.mk HBW
        have c0_ := (blk_cell (blk_below (blk_drew HPR.out) HBW.out) 1).trans rfl
        refine value_ (w1 := w') (v := .string v) (by rfl) rfl ?_ ?_
        · go_simp
          (try simp only [i64_w])
          try rfl
        refine hK.out _ _ ⟨(by rw [ha.out]; exact putSel_upk 9 hb_ rfl rfl rfl), HBW.out⟩
      refine steps_cons ?_ ?_
      · rintro b a w' ⟨ha, HBW⟩ hb_ hon hoff
        refine ⟨_, rfl, fun K hK => ?_⟩
        have e25 : a.tmps[25]? = some (.func (.func 44) #[] #[.pointer (some ⟨rb, 0, none⟩)]) := by rw [ha]; exact putSel_on (e := (7, 25, .func (.func 44) #[] #[.pointer (some ⟨rb, 0, none⟩)])) 7 rfl rfl (hon 7 (by kernel_rfl)) rfl
        have e27 : a.tmps[27]? = some (.string v) := by rw [ha]; exact putSel_on (e := (9, 27, .string v)) 9 rfl rfl (hon 9 (by kernel_rfl)) rfl
        replace ha := Aside0.mk ha
        have HBW := Aside0.mk HBW
        have eg_ := fun args W => enters_ (P := Try.prog) Try.func44 (by kernel_rfl) rfl args W
        refine call_ 44 #[.string v, .pointer (some ⟨rb, 0, none⟩)] (by rfl) rfl ?_ ?_
        · unfold execOp; simp only [resolve, Deferred.ofValue, invoke, Act.eval, Array.getD_eq_getD_getElem?, Option.getD_some, e25, e27]
          go_simp
          try rfl
        refine (HO.out v w' (by omega) (blk_below (blk_drew HRU.out) HBW.out)).mono ?_
        rintro e w1 ⟨rfl, hb⟩
        refine ⟨_, rfl, ?_⟩
        refine hK.out _ _ ⟨(by rw [ha.out]; exact putSel_upk 10 hb_ rfl rfl rfl), below_step HBW.out hb⟩
      refine steps_cons ?_ ?_
      · rintro b a w' ⟨ha, HBW⟩ hb_ hon hoff
        refine ⟨_, rfl, fun K hK => ?_⟩
        have e23 : a.tmps[23]? = some (.string (encS (ruleKeep c) k ++ (⟨#[61]⟩ : ByteArray))) := by rw [ha]; exact putSel_on (e := (5, 23, .string (encS (ruleKeep c) k ++ (⟨#[61]⟩ : ByteArray)))) 5 rfl rfl (hon 5 (by kernel_rfl)) rfl
        have e28 : a.tmps[28]? = some (.string (encS (ruleKeep c) v)) := by rw [ha]; exact putSel_on (e := (10, 28, .string (encS (ruleKeep c) v))) 10 rfl rfl (hon 10 (by kernel_rfl)) rfl
        replace ha := Aside0.mk ha
        have HBW := Aside0.mk HBW
        refine value_ (w1 := w') (v := .string (encS (ruleKeep c) k ++ (⟨#[61]⟩ : ByteArray) ++ encS (ruleKeep c) v)) (by rfl) rfl ?_ ?_
        · go_simp
          (try simp only [i64_w])
          try rfl
        refine hK.out _ _ ⟨(by rw [ha.out]; exact putSel_upk 11 hb_ rfl rfl rfl), HBW.out⟩
      refine steps_cons ?_ ?_
      · rintro b a w' ⟨ha, HBW⟩ hb_ hon hoff
        refine ⟨_, rfl, fun K hK => ?_⟩
        have e29 : a.tmps[29]? = some (.string (encS (ruleKeep c) k ++ (⟨#[61]⟩ : ByteArray) ++ encS (ruleKeep c) v)) := by rw [ha]; exact putSel_on (e := (11, 29, .string (encS (ruleKeep c) k ++ (⟨#[61]⟩ : ByteArray) ++ encS (ruleKeep c) v))) 11 rfl rfl (hon 11 (by kernel_rfl)) rfl
        replace ha := Aside0.mk ha
        have HBW := Aside0.mk HBW
        refine value_ (w1 := w') (v := .string (encS (ruleKeep c) k ++ (⟨#[61]⟩ : ByteArray) ++ encS (ruleKeep c) v)) (by rfl) rfl ?_ ?_
        · go_simp
          (try simp only [i64_w])
          try rfl
        refine hK.out _ _ ⟨(by rw [ha.out]; exact putSel_upk 12 hb_ rfl rfl rfl), HBW.out⟩
      exact steps_nil
    rintro b a w5 hall ⟨ha, HBW⟩
    have hb0_ := hall 0 (by kernel_rfl)
    have hb1_ := hall 1 (by kernel_rfl)
    have hb2_ := hall 2 (by kernel_rfl)
    have hb3_ := hall 3 (by kernel_rfl)
    have hb4_ := hall 4 (by kernel_rfl)
    have hb5_ := hall 5 (by kernel_rfl)
    have hb6_ := hall 6 (by kernel_rfl)
    have hb7_ := hall 7 (by kernel_rfl)
    have hb8_ := hall 8 (by kernel_rfl)
    have hb9_ := hall 9 (by kernel_rfl)
    have hb10_ := hall 10 (by kernel_rfl)
    have hb11_ := hall 11 (by kernel_rfl)
    have hb12_ := hall 12 (by kernel_rfl)
    subst ha
    simp only [putSel, hb0_, hb1_, hb2_, hb3_, hb4_, hb5_, hb6_, hb7_, hb8_, hb9_, hb10_, hb11_, hb12_, if_true, Act.put, List.setIfInBounds_toArray, List.set_cons_zero, List.set_cons_succ]
    have HBW := Aside0.mk HBW
    clear hall hb0_ hb1_ hb2_ hb3_ hb4_ hb5_ hb6_ hb7_ hb8_ hb9_ hb10_ hb11_ hb12_
    go_wp2_with fail
    go_ret
    exact ⟨by rw [HN.out]; rfl, below_step (below_drew1 HB.out) HBW.out⟩
end Go.Proofs.Ytbjeegkmafbejaa.X
end
section
namespace Go.Proofs.Ytbjeegkmafbejaa.X
set_option linter.unusedSimpArgs false
set_option linter.unusedVariables false
open Go.RowKit Go.Proofs.YtbjeegkmafbejaaW.PrintWords Go.Proofs.YtbjeegkmafbejaaW.PrintLast Go.Proofs.YtbjeegkmafbejaaW.PrintMore Go.Proofs.Ytbjeegkmafbejaa.Y Go.Joins
def wholetrue.T1 : Bool × List (List Nat × List Nat) := (true, [([], []), ([0], [0]), ([], []), ([2], [2]), ([1, 3, 3], [1, 3]), ([4, 4, 0, 1, 2, 3, 4], [4])])
def wholetrue.B1 : List Nat := [0, 1, 0, 4, 15, 31]
theorem wholetrue.tab1 : rtab .any (opsOf Try.f28 1) = wholetrue.T1 := by kernel_rfl
theorem wholetrue.bits1 : waitsOk wholetrue.T1.2 wholetrue.B1 = true := by kernel_rfl
def wholefalse.T1 : Bool × List (List Nat × List Nat) := (true, [([], []), ([0], [0]), ([], []), ([2], [2]), ([1, 3, 3], [1, 3]), ([4, 4, 0, 1, 2, 3, 4], [4])])
def wholefalse.B1 : List Nat := [0, 1, 0, 4, 15, 31]
theorem wholefalse.tab1 : rtab .any (opsOf Try.f28 1) = wholefalse.T1 := by kernel_rfl
theorem wholefalse.bits1 : waitsOk wholefalse.T1.2 wholefalse.B1 = true := by kernel_rfl
def PairRow (w : World) (A : Option Addr) (p : List (ByteArray × ByteArray)) : Prop := ∀ k (h : k < p.length), ∃ ad, A = some ad ∧ w.cell? (ad.add (k * 2)) = some (.string p[k].1) ∧ w.cell? ⟨(ad.add (k * 2)).block, (ad.add (k * 2)).off + 1, none⟩ = some (.string p[k].2)
def starS (c : Int) (name : ByteArray) (vk : Int) (l : List ByteArray) (p : List (ByteArray × ByteArray)) : ByteArray := if vk = 2 then joinB (l.map (itemS c name)) (ruleSep c) else joinB (p.map fun x => pairS c x.1 x.2) (ruleSep c)
def wholeS (c : Int) (name : ByteArray) (T : List ByteArray) : ByteArray := if ruleNamed c = true then name ++ ⟨#[61]⟩ ++ joinB (T.map (encS (ruleKeep c))) ⟨#[44]⟩ else joinB (T.map (encS (ruleKeep c))) ⟨#[44]⟩
theorem ruleSep_size (c : Int) : (ruleSep c).size ≤ 1 := by
  unfold ruleSep
  repeat (split; · decide)
  decide
theorem maybeS_size (c : Int) (name s : ByteArray) : (maybeS c name s).size ≤ name.size + 1 + s.size := by
  unfold maybeS
  split
  · exact namedS_size c name s
  · omega
theorem itemS_size (c : Int) (name s : ByteArray) : (itemS c name s).size ≤ name.size + 1 + 3 * s.size := by
  have h1 := maybeS_size c name (encS (ruleKeep c) s)
  have h2 := encS_size (ruleKeep c) s
  unfold itemS; omega
theorem pairS_size (c : Int) (k v : ByteArray) : (pairS c k v).size ≤ 3 * k.size + 1 + 3 * v.size := by
  have h1 := encS_size (ruleKeep c) k
  have h2 := encS_size true k
  have h3 := encS_size (ruleKeep c) v
  have h4 := namedS_size c (encS true k) (encS (ruleKeep c) v)
  unfold pairS
  split
  · omega
  · rw [ByteArray.size_append, ByteArray.size_append]; show (encS (ruleKeep c) k).size + 1 + (encS (ruleKeep c) v).size ≤ _; omega
theorem blk_new3 (w : World) (o1 o2 o3 : Obj) : (((w.alloc o1).alloc o2).alloc o3).heap[w.heap.size + 2]? = some o3 := by
  have h := blk_new ((w.alloc o1).alloc o2) o3
  rwa [size_alloc1, size_alloc1] at h
theorem pairS_small (c : Int) (k v : ByteArray) (h1 : k.size ≤ 300000) (h2 : v.size ≤ 300000) : (pairS c k v).size ≤ 10000000 := by
  have := pairS_size c k v
  omega
set_option maxHeartbeats 8000000 in
set_option maxRecDepth 100000 in
theorem star_any (c : Int) (rb : Nat) (name : ByteArray) (mx : Int) (st : Bool) (vk : Int) (s : ByteArray) (A2 : Option Addr) (n2 : Nat) (l : List ByteArray) (A3 : Option Addr) (n3 : Nat) (p : List (ByteArray × ByteArray)) (w : World) (hn : name.size ≤ 1000000) (hl : l.length ≤ 1000000) (hls : ∀ x ∈ l, x.size ≤ 1000000) (hp : p.length ≤ 1000000) (hps : ∀ x ∈ p, x.1.size ≤ 300000 ∧ x.2.size ≤ 300000)
    (hr2 : Kd.C Kd.string w A2 l.length l) (hr3 : ∀ W, Below w.heap.size w W → PairRow W A3 p) (hru : w.heap[rb]? = some (.cells (ruleCells c) 43 (0, 0))) :
    Calls Try.prog 27 #[wayV c rb, .agg #[.string name, .int .i64 mx, .bool st], .agg #[.int .i64 vk, .string s, .slice A2 l.length n2, .slice A3 p.length n3]] w fun e w' => e = .returned (.string (starS c name vk l p)) ∧ Below w.heap.size w w' := by
  have HR2 := Aside0.mk hr2
  have HR3 := Aside0.mk hr3
  have HRU := Aside0.mk hru
  have HSEP := Aside0.mk (ruleSep_size c)
  obtain ⟨F, hF⟩ : ∃ F : ByteArray × ByteArray → ByteArray, ∀ x, F x = pairS c x.1 x.2 := ⟨fun x => pairS c x.1 x.2, fun _ => rfl⟩
  have HFS := Aside0.mk (show ∀ x ∈ p, (F x).size ≤ 10000000 from fun x hx => by rw [hF]; exact pairS_small c x.1 x.2 (hps x hx).1 (hps x hx).2)
  have HPA := Aside0.mk (show ∀ (x : ByteArray × ByteArray) W, x ∈ p → W.heap[rb]? = some (.cells (ruleCells c) 43 (0, 0)) → Calls Try.prog 55 #[wayV c rb, .agg #[.string x.1, .string x.2]] W fun e w' => e = .returned (.string (F x)) ∧ Below W.heap.size W w' from fun x W hx hru => by rw [hF]; exact pair_any c rb x.1 x.2 W (hps x hx).1 (hps x hx).2 hru)
  have HFM := Aside0.mk (show (p.map fun x => pairS c x.1 x.2) = p.map F from List.map_congr_left fun x _ => (hF x).symm)
  clear hF
  clear hr2 hr3 hru
  unfold wayV at HPA ⊢
  by_cases hvk : vk = 2
  · subst hvk
    have HN := Aside0.mk (show starS c name 2 l p = joinB (l.map (itemS c name)) (ruleSep c) from if_pos rfl)
    go_enter Try.func27, Try.ntmps27
    go_wp2_with fail
    refine (joined_any (ruleSep c) 54 #[.pointer (some ⟨w.heap.size, 0, none⟩), .pointer (some ⟨w.heap.size + 1, 0, none⟩)] (itemS c name) l A2 n2 _ (star1_turns c rb w.heap.size (w.heap.size + 1) name mx st _ hn (blk_alloc (blk_alloc (blk_alloc HRU.out _) _) _) (blk_alloc (blk_alloc (blk_new w _) _) _) (blk_alloc (X.blk_new2 w _ _) _) l hls) hl (Kd.C_below HR2.out (below_alloc (X.below_new2 w _ _) _)) (fun x hx => by have := itemS_size c name x; have := hls x hx; omega) (by have := HSEP.out; omega)).mono ?_
    rintro e w1 ⟨rfl, hb⟩
    have HB := Aside0.mk (below_step (w := w) (below_alloc (X.below_new2 w _ _) _) hb)
    clear hb
    go_wp2_with fail
    go_ret
    exact ⟨by rw [HN.out]; rfl, HB.out⟩
  · have HN := Aside0.mk (show starS c name vk l p = joinB (p.map F) (ruleSep c) by rw [← HFM.out]; exact if_neg hvk)
    have hvk2 : (vk == 2) = false := beq_eq_false_iff_ne.2 hvk
    go_enter Try.func27, Try.ntmps27
    go_wp2_with fail
    refine forget (P := fun W => Code.wp _ _ _ _ W) _ (fun w1 => w1.heap[rb]? = some (.cells (ruleCells c) 43 (0, 0)) ∧ w1.heap[w.heap.size]? = some (.cells #[.string (ruleFirst c), .string (ruleSep c), .bool (ruleNamed c), .string (ruleEmpty c), .bool (ruleKeep c), .func (.func 44) #[] #[.pointer (some ⟨rb, 0, none⟩)]] 53 (0, 0)) ∧ Below w.heap.size w w1) ⟨blk_alloc (blk_alloc (blk_alloc HRU.out _) _) _, blk_alloc (blk_alloc (blk_new w _) _) _, below_alloc (X.below_new2 w _ _) _⟩ ?_
    rintro w1 ⟨hru, hwy, hbl⟩
    clear HRU
    go_loopw [7, 23] (fun v c' wr => ∃ k : Nat, k ≤ p.length ∧ c' = .int .i64 k ∧ Below w.heap.size w wr ∧ wr.heap[rb]? = some (.cells (ruleCells c) 43 (0, 0)) ∧ wr.heap[w.heap.size]? = some (.cells #[.string (ruleFirst c), .string (ruleSep c), .bool (ruleNamed c), .string (ruleEmpty c), .bool (ruleKeep c), .func (.func 44) #[] #[.pointer (some ⟨rb, 0, none⟩)]] 53 (0, 0)) ∧ Kd.R Kd.string 9 wr w.heap.size (fun _ => True) v ((p.take k).map F)) (fun _ c' _ => (p.length - intOf c').toNat)
    case atStart => exact ⟨0, by omega, by simp, hbl, hru, hwy, Kd.R_nil _ _ _ _ _⟩
    case round =>
      clear hru hwy hbl
      obtain ⟨k, hk, rfl, hb, hru, hwy, hv⟩ := hrel
      have HB := Aside0.mk hb
      have HV := Aside0.mk hv
      have HRU := Aside0.mk hru
      have HWY := Aside0.mk hwy
      clear hb hv hru hwy
      by_cases hlt : k < p.length
      · obtain ⟨ad, rfl, h0, h1⟩ := HR3.out _ HB.out k hlt
        obtain ⟨x0, x1, x2, x3, x4, x5⟩ := cells6 (blk_alloc HWY.out (.cells #[.string p[k].1, .string p[k].2] 69 (0, 0)))
        go_wp2_with fail
        refine (HPA.out p[k] _ (List.getElem_mem hlt) (blk_alloc HRU.out _)).mono ?_
        rintro e w2 ⟨rfl, hb⟩
        have HB2 := Aside0.mk (below_step (below_alloc HB.out _) hb)
        have HRU2 := Aside0.mk (blk_below (blk_alloc HRU.out _) hb)
        have HWY2 := Aside0.mk (blk_below (blk_alloc HWY.out _) hb)
        have HV2 := Aside0.mk (Kd.R_below (Kd.R_below HV.out (X.below_new1 wr _)) hb)
        have hs2 := HB2.out.size
        have hlen : ((p.take k).map F).length = k := by rw [List.length_map, List.length_take]; omega
        have htk : ((p.take k).map F) ++ [F p[k]] = (p.take (k + 1)).map F := by rw [List.take_succ_eq_append_getElem hlt, List.map_append]; rfl
        clear hb h0 h1 x0 x1 x2 x3 x4 x5 HB HRU HWY HV
        go_wp2_with (at_builtin; refine Kd.R_append Kd.string (w0 := w) w.heap.size rfl (.tmp 27) (.tmp 31) 24 9 (.string ⟨#[]⟩) 16 rfl Try.underlying24 infoStr rfl (by decide) (by omega) _ ((p.take k).map F) (F p[k]) [.string (F p[k])] (fun _ => True) (fun _ => False) rfl rfl rfl (fun _ hk => hk.elim) (fun _ _ => trivial) HV2.out HB2.out hs2 (by rw [hlen]; omega) ?_; intro v1 w3 ho hb1 hg hat; rw [htk] at ho; have HO := Aside0.mk ho; have HB3 := Aside0.mk hb1; have HRU3 := Aside0.mk (blk_grown HRU2.out hg (Kd.R_ne HV2.out HRU2.out (by decide))); have HWY3 := Aside0.mk (blk_grown HWY2.out hg (Kd.R_ne HV2.out HWY2.out (by decide))); clear ho hb1 hg hat htk)
        go_roundw
        case rel => exact ⟨k + 1, by omega, by go_num, HB3.out, HRU3.out, HWY3.out, HO.out⟩
        case measure => simp [intOf]; omega
      · have htk : p.take k = p := List.take_of_length_le (by omega)
        have HV1 := Aside0.mk (htk ▸ HV.out)
        obtain ⟨x0, x1, x2, x3, x4, x5⟩ := cells6 HWY.out
        clear HV htk
        go_wp2_with fail
        refine (join_own _ (p.map F) (ruleSep c) _ _ HV1.out (by rw [List.length_map]; exact hp) (fun x hx => by obtain ⟨y, hy, rfl⟩ := List.mem_map.1 hx; exact HFS.out y hy) (by have := HSEP.out; omega)).mono ?_
        rintro e w2 ⟨rfl, hb2⟩
        have HB2 := Aside0.mk (below_step HB.out hb2)
        clear hb2 HB x0 x1 x2 x3 x4 x5
        go_wp2_with fail
        go_ret
        exact ⟨by rw [HN.out]; rfl, HB2.out⟩
set_option maxHeartbeats 8000000 in
set_option maxRecDepth 100000 in
theorem whole_any (c : Int) (rb : Nat) (name : ByteArray) (mx : Int) (st : Bool) (vk : Int) (s : ByteArray) (A2 : Option Addr) (m2 n2 : Nat) (A3 : Option Addr) (m3 n3 : Nat) (T : List ByteArray) (w : World) (hn : name.size ≤ 1000000) (hT : T.length ≤ 1000000) (hTs : ∀ x ∈ T, x.size ≤ 1000000) (hru : w.heap[rb]? = some (.cells (ruleCells c) 43 (0, 0)))
    (htx : ∀ W, Below w.heap.size w W → Calls Try.prog 47 #[.agg #[.int .i64 vk, .string s, .slice A2 m2 n2, .slice A3 m3 n3]] W fun e w' => ∃ v, e = .returned v ∧ Kd.R Kd.string 9 w' W.heap.size (fun _ => True) v T ∧ Below W.heap.size W w') :
    Calls Try.prog 28 #[wayV c rb, .agg #[.string name, .int .i64 mx, .bool st], .agg #[.int .i64 vk, .string s, .slice A2 m2 n2, .slice A3 m3 n3]] w fun e w' => e = .returned (.string (wholeS c name T)) ∧ Below w.heap.size w w' := by
  obtain ⟨J, hJ⟩ : ∃ J, joinB (T.map (encS (ruleKeep c))) ⟨#[44]⟩ = J := ⟨_, rfl⟩
  have HJ := Aside0.mk (show ∀ (W : World) A n, W.heap[rb]? = some (.cells (ruleCells c) 43 (0, 0)) → Kd.C Kd.string W A T.length T → Calls Try.prog 53 #[.string ⟨#[44]⟩, .func (.func 44) #[] #[.pointer (some ⟨rb, 0, none⟩)], .slice A T.length n] W fun e w' => e = .returned (.string J) ∧ Below W.heap.size W w' from fun W A n hr hC => by
    rw [← hJ]
    exact joined_any ⟨#[44]⟩ _ _ (encS (ruleKeep c)) T A n W (of1_turns c rb W hr T hTs) hT hC (fun x hx => by have := encS_size (ruleKeep c) x; have := hTs x hx; omega) (by decide))
  have HJS := Aside0.mk (show J.size ≤ 10000000000000 by
    have h := joinB_size 3000000 ⟨#[44]⟩ (T.map (encS (ruleKeep c))) (fun x hx => by obtain ⟨y, hy, rfl⟩ := List.mem_map.1 hx; have := encS_size (ruleKeep c) y; have := hTs y hy; omega)
    rw [hJ, List.length_map] at h
    have h2 : T.length * (3000000 + (⟨#[44]⟩ : ByteArray).size) ≤ 1000000 * 3000001 := Nat.mul_le_mul hT (by decide)
    omega)
  have HR := Aside0.mk hru
  have HT := Aside0.mk htx
  clear hru htx
  unfold wayV
  cases h : ruleNamed c with
  | true =>
    have HN := Aside0.mk (show wholeS c name T = name ++ ⟨#[61]⟩ ++ J by rw [← hJ]; exact if_pos h)
    have hjs := HJS.out
    have q1 : (9223372036854775807 < name.size + (⟨#[61]⟩ : ByteArray).size) = False := eq_false (by show ¬ (_ < name.size + 1); omega)
    have q2 : (9223372036854775807 < name.size + 1) = False := eq_false (by omega)
    have q3 : (9223372036854775807 < (name ++ (⟨#[61]⟩ : ByteArray)).size + J.size) = False := eq_false (by rw [ByteArray.size_append]; show ¬ (_ < name.size + 1 + J.size); omega)
    have q4 : (9223372036854775807 < name.size + 1 + J.size) = False := eq_false (by omega)
    clear hJ hjs
    go_enter Try.func28, Try.ntmps28
    go_wp2_with fail
    refine forget (P := fun W => Code.wp _ _ _ _ W) _ (fun w1 => w1.heap[rb]? = some (.cells (ruleCells c) 43 (0, 0)) ∧ w1.heap[w.heap.size + 1]? = some (.cells #[.string name, .int .i64 mx, .bool st] 23 (0, 0)) ∧ w1.heap[w.heap.size + 2]? = some (.cells #[.int .i64 vk, .string s, .slice A2 m2 n2, .slice A3 m3 n3] 27 (0, 0)) ∧ w1.heap[w.heap.size]? = some (.cells #[.string (ruleFirst c), .string (ruleSep c), .bool true, .string (ruleEmpty c), .bool (ruleKeep c), .func (.func 44) #[] #[.pointer (some ⟨rb, 0, none⟩)]] 53 (0, 0)) ∧ Below w.heap.size w w1) ⟨blk_alloc (blk_alloc (blk_alloc HR.out _) _) _, blk_alloc (X.blk_new2 w _ _) _, blk_new3 w _ _ _, blk_alloc (blk_alloc (blk_new w _) _) _, below_alloc (X.below_new2 w _ _) _⟩ ?_
    rintro w1 ⟨hru, hsp, hvl, hwy, hbl⟩
    have HRU := Aside0.mk hru
    have HSP := Aside0.mk hsp
    have HVL := Aside0.mk hvl
    have HWY := Aside0.mk hwy
    have HB := Aside0.mk hbl
    clear hru hsp hvl hwy hbl
    refine start_ (n := 6) (S := fun w' => True) (ds := []) #[false, false, false, false, false, false] (by kernel_rfl) rfl rfl trivial (fun hHeld => ?_)
    refine with_tabW wholetrue.tab1 wholetrue.bits1 (fun HT_ HW_ => ?_)
    refine inv_at [0, 1, 2, 3, 4, 5] (fun a0_ b a w' => ∃ (A11 : Value), a = putSel a0_ b [(0, 8, .pointer (some ⟨w.heap.size, 5, none⟩)), (1, 9, .func (.func 44) #[] #[.pointer (some ⟨rb, 0, none⟩)]), (2, 10, .agg #[.int .i64 vk, .string s, .slice A2 m2 n2, .slice A3 m3 n3]), (3, 11, A11), (4, 12, .string J), (5, 7, .string J)] ∧ Below w1.drew.heap.size w1.drew w' ∧ (b 3 = true → (∃ A_ n_, A11 = .slice A_ T.length n_ ∧ Kd.C Kd.string w' A_ T.length T))) HT_.out HW_.out (by kernel_rfl) (by kernel_rfl) ?_ ?_ ?_
    · exact ⟨.bool false, by simp only [putSel, Bool.false_eq_true, if_false], Below.refl _ _, fun h_ => absurd h_ (by decide)⟩
    · clear hHeld HT_ HW_
      refine steps_cons ?_ ?_
      · rintro b a w' ⟨A11, ha, HBW, Q_R⟩ hb_ hon hoff
        refine ⟨_, rfl, fun K hK => ?_⟩
        have e3 : a.tmps[3]? = some (.pointer (some ⟨w.heap.size, 0, none⟩)) := by rw [ha]; exact (putSel_off rfl).trans rfl
        replace ha := Aside0.mk ha
        have HBW := Aside0.mk HBW
        refine value_ (w1 := w') (v := .pointer (some ⟨w.heap.size, 5, none⟩)) (by rfl) rfl ?_ ?_
        · go_simp
          (try simp only [i64_w])
          try rfl
        refine hK.out _ _ ⟨A11, (by rw [ha.out]; exact putSel_upk 0 hb_ rfl rfl rfl), HBW.out, Q_R⟩
      refine steps_cons ?_ ?_
      · rintro b a w' ⟨A11, ha, HBW, Q_R⟩ hb_ hon hoff
        refine ⟨_, rfl, fun K hK => ?_⟩
        have e8 : a.tmps[8]? = some (.pointer (some ⟨w.heap.size, 5, none⟩)) := by rw [ha]; exact putSel_on (e := (0, 8, .pointer (some ⟨w.heap.size, 5, none⟩))) 0 rfl rfl (hon 0 (by kernel_rfl)) rfl
        replace ha := Aside0.mk ha
        have HBW := Aside0.mk HBW
        have c0_ := (blk_cell (blk_below (blk_drew HWY.out) HBW.out) 5).trans rfl
        refine value_ (w1 := w') (v := .func (.func 44) #[] #[.pointer (some ⟨rb, 0, none⟩)]) (by rfl) rfl ?_ ?_
        · go_simp
          (try simp only [i64_w])
          try rfl
        refine hK.out _ _ ⟨A11, (by rw [ha.out]; exact putSel_upk 1 hb_ rfl rfl rfl), HBW.out, Q_R⟩
      refine steps_cons ?_ ?_
      · rintro b a w' ⟨A11, ha, HBW, Q_R⟩ hb_ hon hoff
        refine ⟨_, rfl, fun K hK => ?_⟩
        have e5 : a.tmps[5]? = some (.pointer (some ⟨w.heap.size + 2, 0, none⟩)) := by rw [ha]; exact (putSel_off rfl).trans rfl
        replace ha := Aside0.mk ha
        have HBW := Aside0.mk HBW
        obtain ⟨c0_, c1_, c2_, c3_, _⟩ := cells4 (blk_below (blk_drew HVL.out) HBW.out)
        refine value_ (w1 := w') (v := .agg #[.int .i64 vk, .string s, .slice A2 m2 n2, .slice A3 m3 n3]) (by rfl) rfl ?_ ?_
        · go_simp
          (try simp only [i64_w])
          try rfl
        refine hK.out _ _ ⟨A11, (by rw [ha.out]; exact putSel_upk 2 hb_ rfl rfl rfl), HBW.out, Q_R⟩
      refine steps_cons ?_ ?_
      · rintro b a w' ⟨A11, ha, HBW, Q_R⟩ hb_ hon hoff
        refine ⟨_, rfl, fun K hK => ?_⟩
        have e10 : a.tmps[10]? = some (.agg #[.int .i64 vk, .string s, .slice A2 m2 n2, .slice A3 m3 n3]) := by rw [ha]; exact putSel_on (e := (2, 10, .agg #[.int .i64 vk, .string s, .slice A2 m2 n2, .slice A3 m3 n3])) 2 rfl rfl (hon 2 (by kernel_rfl)) rfl
        replace ha := Aside0.mk ha
        have HBW := Aside0.mk HBW
        refine goes_ Try.func47 (by kernel_rfl) rfl #[.agg #[.int .i64 vk, .string s, .slice A2 m2 n2, .slice A3 m3 n3]] (by rfl) rfl rfl (by first | (simp only [List.map_toArray, List.map_cons, List.map_nil, Act.eval, Array.getD_eq_getD_getElem?, Option.getD_some, e10]; done) | (simp only [List.map_toArray, List.map_cons, List.map_nil, Act.eval, Array.getD_eq_getD_getElem?, Option.getD_some, e10]; rfl)) ?_
        refine (HT.out w' (below_step (below_drew1 HB.out) HBW.out)).mono ?_
        rintro e w1 ⟨v_, rfl, hv_, hb⟩
        obtain ⟨A_, n_, rfl, _, c_⟩ := Kd.R_reads hv_
        refine ⟨_, rfl, ?_⟩
        refine hK.out _ _ ⟨.slice A_ T.length n_, (by rw [ha.out]; exact putSel_upk 3 hb_ rfl rfl rfl), below_step HBW.out hb, fun _ => ⟨A_, n_, rfl, c_⟩⟩
      refine steps_cons ?_ ?_
      · rintro b a w' ⟨A11, ha, HBW, Q_R⟩ hb_ hon hoff
        refine ⟨_, rfl, fun K hK => ?_⟩
        obtain ⟨A_, n_, rfl, c_⟩ := Q_R (hon 3 (by kernel_rfl))
        have e9 : a.tmps[9]? = some (.func (.func 44) #[] #[.pointer (some ⟨rb, 0, none⟩)]) := by rw [ha]; exact putSel_on (e := (1, 9, .func (.func 44) #[] #[.pointer (some ⟨rb, 0, none⟩)])) 1 rfl rfl (hon 1 (by kernel_rfl)) rfl
        have e11 : a.tmps[11]? = some (.slice A_ T.length n_) := by rw [ha]; exact putSel_on (e := (3, 11, .slice A_ T.length n_)) 3 rfl rfl (hon 3 (by kernel_rfl)) rfl
        replace ha := Aside0.mk ha
        have HBW := Aside0.mk HBW
        refine goes_ Try.func53 (by kernel_rfl) rfl #[.string ⟨#[44]⟩, .func (.func 44) #[] #[.pointer (some ⟨rb, 0, none⟩)], .slice A_ T.length n_] (by rfl) rfl rfl (by first | (simp only [List.map_toArray, List.map_cons, List.map_nil, Act.eval, Array.getD_eq_getD_getElem?, Option.getD_some, e9, e11]; done) | (simp only [List.map_toArray, List.map_cons, List.map_nil, Act.eval, Array.getD_eq_getD_getElem?, Option.getD_some, e9, e11]; rfl)) ?_
        refine (HJ.out w' A_ n_ (blk_below (blk_drew HRU.out) HBW.out) c_).mono ?_
        rintro e w1 ⟨rfl, hb⟩
        refine ⟨_, rfl, ?_⟩
        refine hK.out _ _ ⟨.slice A_ T.length n_, (by rw [ha.out]; exact putSel_upk 4 hb_ rfl rfl rfl), below_step HBW.out hb, fun _ => ⟨A_, n_, rfl, Kd.C_below c_ hb⟩⟩
      refine steps_cons ?_ ?_
      · rintro b a w' ⟨A11, ha, HBW, Q_R⟩ hb_ hon hoff
        refine ⟨_, rfl, fun K hK => ?_⟩
        have e12 : a.tmps[12]? = some (.string J) := by rw [ha]; exact putSel_on (e := (4, 12, .string J)) 4 rfl rfl (hon 4 (by kernel_rfl)) rfl
        replace ha := Aside0.mk ha
        have HBW := Aside0.mk HBW
        refine value_ (w1 := w') (v := .string J) (by rfl) rfl ?_ ?_
        · go_simp
          (try simp only [i64_w])
          try rfl
        refine hK.out _ _ ⟨A11, (by rw [ha.out]; exact putSel_upk 5 hb_ rfl rfl rfl), HBW.out, Q_R⟩
      exact steps_nil
    rintro b a w5 hall ⟨A11, ha, HBW, Q_R⟩
    have hb0_ := hall 0 (by kernel_rfl)
    have hb1_ := hall 1 (by kernel_rfl)
    have hb2_ := hall 2 (by kernel_rfl)
    have hb3_ := hall 3 (by kernel_rfl)
    have hb4_ := hall 4 (by kernel_rfl)
    have hb5_ := hall 5 (by kernel_rfl)
    subst ha
    simp only [putSel, hb0_, hb1_, hb2_, hb3_, hb4_, hb5_, if_true, Act.put, List.setIfInBounds_toArray, List.set_cons_zero, List.set_cons_succ]
    have HBW := Aside0.mk HBW
    clear hall hb0_ hb1_ hb2_ hb3_ hb4_ hb5_ Q_R
    have HWY2 := Aside0.mk (blk_below (blk_drew HWY.out) HBW.out)
    have HSP2 := Aside0.mk (blk_below (blk_drew HSP.out) HBW.out)
    have x2 := (blk_cell HWY2.out 2).trans rfl
    have p0 := (blk_cell HSP2.out 0).trans rfl
    have HB2 := Aside0.mk (below_step (below_drew1 HB.out) HBW.out)
    clear HBW HWY HSP HVL HRU HB
    go_wp2_with fail
    go_ret
    exact ⟨by rw [HN.out]; rfl, HB2.out⟩
  | false =>
    have HN := Aside0.mk (show wholeS c name T = J by rw [← hJ]; exact if_neg (by rw [h]; decide))
    clear hJ
    go_enter Try.func28, Try.ntmps28
    go_wp2_with fail
    refine forget (P := fun W => Code.wp _ _ _ _ W) _ (fun w1 => w1.heap[rb]? = some (.cells (ruleCells c) 43 (0, 0)) ∧ w1.heap[w.heap.size + 1]? = some (.cells #[.string name, .int .i64 mx, .bool st] 23 (0, 0)) ∧ w1.heap[w.heap.size + 2]? = some (.cells #[.int .i64 vk, .string s, .slice A2 m2 n2, .slice A3 m3 n3] 27 (0, 0)) ∧ w1.heap[w.heap.size]? = some (.cells #[.string (ruleFirst c), .string (ruleSep c), .bool false, .string (ruleEmpty c), .bool (ruleKeep c), .func (.func 44) #[] #[.pointer (some ⟨rb, 0, none⟩)]] 53 (0, 0)) ∧ Below w.heap.size w w1) ⟨blk_alloc (blk_alloc (blk_alloc HR.out _) _) _, blk_alloc (X.blk_new2 w _ _) _, blk_new3 w _ _ _, blk_alloc (blk_alloc (blk_new w _) _) _, below_alloc (X.below_new2 w _ _) _⟩ ?_
    rintro w1 ⟨hru, hsp, hvl, hwy, hbl⟩
    have HRU := Aside0.mk hru
    have HSP := Aside0.mk hsp
    have HVL := Aside0.mk hvl
    have HWY := Aside0.mk hwy
    have HB := Aside0.mk hbl
    clear hru hsp hvl hwy hbl
    refine start_ (n := 6) (S := fun w' => True) (ds := []) #[false, false, false, false, false, false] (by kernel_rfl) rfl rfl trivial (fun hHeld => ?_)
    refine with_tabW wholefalse.tab1 wholefalse.bits1 (fun HT_ HW_ => ?_)
    refine inv_at [0, 1, 2, 3, 4, 5] (fun a0_ b a w' => ∃ (A11 : Value), a = putSel a0_ b [(0, 8, .pointer (some ⟨w.heap.size, 5, none⟩)), (1, 9, .func (.func 44) #[] #[.pointer (some ⟨rb, 0, none⟩)]), (2, 10, .agg #[.int .i64 vk, .string s, .slice A2 m2 n2, .slice A3 m3 n3]), (3, 11, A11), (4, 12, .string J), (5, 7, .string J)] ∧ Below w1.drew.heap.size w1.drew w' ∧ (b 3 = true → (∃ A_ n_, A11 = .slice A_ T.length n_ ∧ Kd.C Kd.string w' A_ T.length T))) HT_.out HW_.out (by kernel_rfl) (by kernel_rfl) ?_ ?_ ?_
    · exact ⟨.bool false, by simp only [putSel, Bool.false_eq_true, if_false], Below.refl _ _, fun h_ => absurd h_ (by decide)⟩
    · clear hHeld HT_ HW_
      refine steps_cons ?_ ?_
      · rintro b a w' ⟨A11, ha, HBW, Q_R⟩ hb_ hon hoff
        refine ⟨_, rfl, fun K hK => ?_⟩
        have e3 : a.tmps[3]? = some (.pointer (some ⟨w.heap.size, 0, none⟩)) := by rw [ha]; exact (putSel_off rfl).trans rfl
        replace ha := Aside0.mk ha
        have HBW := Aside0.mk HBW
        refine value_ (w1 := w') (v := .pointer (some ⟨w.heap.size, 5, none⟩)) (by rfl) rfl ?_ ?_
        · go_simp
          (try simp only [i64_w])
          try rfl
        refine hK.out _ _ ⟨A11, (by rw [ha.out]; exact putSel_upk 0 hb_ rfl rfl rfl), HBW.out, Q_R⟩
      refine steps_cons ?_ ?_
      · rintro b a w' ⟨A11, ha, HBW, Q_R⟩ hb_ hon hoff
        refine ⟨_, rfl, fun K hK => ?_⟩
        have e8 : a.tmps[8]? = some (.pointer (some ⟨w.heap.size, 5, none⟩)) := by rw [ha]; exact putSel_on (e := (0, 8, .pointer (some ⟨w.heap.size, 5, none⟩))) 0 rfl rfl (hon 0 (by kernel_rfl)) rfl
        replace ha := Aside0.mk ha
        have HBW := Aside0.mk HBW
        have c0_ := (blk_cell (blk_below (blk_drew HWY.out) HBW.out) 5).trans rfl
        refine value_ (w1 := w') (v := .func (.func 44) #[] #[.pointer (some ⟨rb, 0, none⟩)]) (by rfl) rfl ?_ ?_
        · go_simp
          (try simp only [i64_w])
          try rfl
        refine hK.out _ _ ⟨A11, (by rw [ha.out]; exact putSel_upk 1 hb_ rfl rfl rfl), HBW.out, Q_R⟩
      refine steps_cons ?_ ?_
      · rintro b a w' ⟨A11, ha, HBW, Q_R⟩ hb_ hon hoff
        refine ⟨_, rfl, fun K hK => ?_⟩
        have e5 : a.tmps[5]? = some (.pointer (some ⟨w.heap.size + 2, 0, none⟩)) := by rw [ha]; exact (putSel_off rfl).trans rfl
        replace ha := Aside0.mk ha
        have HBW := Aside0.mk HBW
        obtain ⟨c0_, c1_, c2_, c3_, _⟩ := cells4 (blk_below (blk_drew HVL.out) HBW.out)
        refine value_ (w1 := w') (v := .agg #[.int .i64 vk, .string s, .slice A2 m2 n2, .slice A3 m3 n3]) (by rfl) rfl ?_ ?_
        · go_simp
          (try simp only [i64_w])
          try rfl
        refine hK.out _ _ ⟨A11, (by rw [ha.out]; exact putSel_upk 2 hb_ rfl rfl rfl), HBW.out, Q_R⟩
      refine steps_cons ?_ ?_
      · rintro b a w' ⟨A11, ha, HBW, Q_R⟩ hb_ hon hoff
        refine ⟨_, rfl, fun K hK => ?_⟩
        have e10 : a.tmps[10]? = some (.agg #[.int .i64 vk, .string s, .slice A2 m2 n2, .slice A3 m3 n3]) := by rw [ha]; exact putSel_on (e := (2, 10, .agg #[.int .i64 vk, .string s, .slice A2 m2 n2, .slice A3 m3 n3])) 2 rfl rfl (hon 2 (by kernel_rfl)) rfl
        replace ha := Aside0.mk ha
        have HBW := Aside0.mk HBW
        refine goes_ Try.func47 (by kernel_rfl) rfl #[.agg #[.int .i64 vk, .string s, .slice A2 m2 n2, .slice A3 m3 n3]] (by rfl) rfl rfl (by first | (simp only [List.map_toArray, List.map_cons, List.map_nil, Act.eval, Array.getD_eq_getD_getElem?, Option.getD_some, e10]; done) | (simp only [List.map_toArray, List.map_cons, List.map_nil, Act.eval, Array.getD_eq_getD_getElem?, Option.getD_some, e10]; rfl)) ?_
        refine (HT.out w' (below_step (below_drew1 HB.out) HBW.out)).mono ?_
        rintro e w1 ⟨v_, rfl, hv_, hb⟩
        obtain ⟨A_, n_, rfl, _, c_⟩ := Kd.R_reads hv_
        refine ⟨_, rfl, ?_⟩
        refine hK.out _ _ ⟨.slice A_ T.length n_, (by rw [ha.out]; exact putSel_upk 3 hb_ rfl rfl rfl), below_step HBW.out hb, fun _ => ⟨A_, n_, rfl, c_⟩⟩
      refine steps_cons ?_ ?_
      · rintro b a w' ⟨A11, ha, HBW, Q_R⟩ hb_ hon hoff
        refine ⟨_, rfl, fun K hK => ?_⟩
        obtain ⟨A_, n_, rfl, c_⟩ := Q_R (hon 3 (by kernel_rfl))
        have e9 : a.tmps[9]? = some (.func (.func 44) #[] #[.pointer (some ⟨rb, 0, none⟩)]) := by rw [ha]; exact putSel_on (e := (1, 9, .func (.func 44) #[] #[.pointer (some ⟨rb, 0, none⟩)])) 1 rfl rfl (hon 1 (by kernel_rfl)) rfl
        have e11 : a.tmps[11]? = some (.slice A_ T.length n_) := by rw [ha]; exact putSel_on (e := (3, 11, .slice A_ T.length n_)) 3 rfl rfl (hon 3 (by kernel_rfl)) rfl
        replace ha := Aside0.mk ha
        have HBW := Aside0.mk HBW
        refine goes_ Try.func53 (by kernel_rfl) rfl #[.string ⟨#[44]⟩, .func (.func 44) #[] #[.pointer (some ⟨rb, 0, none⟩)], .slice A_ T.length n_] (by rfl) rfl rfl (by first | (simp only [List.map_toArray, List.map_cons, List.map_nil, Act.eval, Array.getD_eq_getD_getElem?, Option.getD_some, e9, e11]; done) | (simp only [List.map_toArray, List.map_cons, List.map_nil, Act.eval, Array.getD_eq_getD_getElem?, Option.getD_some, e9, e11]; rfl)) ?_
        refine (HJ.out w' A_ n_ (blk_below (blk_drew HRU.out) HBW.out) c_).mono ?_
        rintro e w1 ⟨rfl, hb⟩
        refine ⟨_, rfl, ?_⟩
        refine hK.out _ _ ⟨.slice A_ T.length n_, (by rw [ha.out]; exact putSel_upk 4 hb_ rfl rfl rfl), below_step HBW.out hb, fun _ => ⟨A_, n_, rfl, Kd.C_below c_ hb⟩⟩
      refine steps_cons ?_ ?_
      · rintro b a w' ⟨A11, ha, HBW, Q_R⟩ hb_ hon hoff
        refine ⟨_, rfl, fun K hK => ?_⟩
        have e12 : a.tmps[12]? = some (.string J) := by rw [ha]; exact putSel_on (e := (4, 12, .string J)) 4 rfl rfl (hon 4 (by kernel_rfl)) rfl
        replace ha := Aside0.mk ha
        have HBW := Aside0.mk HBW
        refine value_ (w1 := w') (v := .string J) (by rfl) rfl ?_ ?_
        · go_simp
          (try simp only [i64_w])
          try rfl
        refine hK.out _ _ ⟨A11, (by rw [ha.out]; exact putSel_upk 5 hb_ rfl rfl rfl), HBW.out, Q_R⟩
      exact steps_nil
    rintro b a w5 hall ⟨A11, ha, HBW, Q_R⟩
    have hb0_ := hall 0 (by kernel_rfl)
    have hb1_ := hall 1 (by kernel_rfl)
    have hb2_ := hall 2 (by kernel_rfl)
    have hb3_ := hall 3 (by kernel_rfl)
    have hb4_ := hall 4 (by kernel_rfl)
    have hb5_ := hall 5 (by kernel_rfl)
    subst ha
    simp only [putSel, hb0_, hb1_, hb2_, hb3_, hb4_, hb5_, if_true, Act.put, List.setIfInBounds_toArray, List.set_cons_zero, List.set_cons_succ]
    have HBW := Aside0.mk HBW
    clear hall hb0_ hb1_ hb2_ hb3_ hb4_ hb5_ Q_R
    have HWY2 := Aside0.mk (blk_below (blk_drew HWY.out) HBW.out)
    have x2 := (blk_cell HWY2.out 2).trans rfl
    have HB2 := Aside0.mk (below_step (below_drew1 HB.out) HBW.out)
    clear HBW HWY HSP HVL HRU HB
    go_wp2_with fail
    go_ret
    exact ⟨by rw [HN.out]; rfl, HB2.out⟩
end Go.Proofs.Ytbjeegkmafbejaa.X
end
section
namespace Go.Proofs.Ytbjeegkmafbejaa.PE
open Go.RowKit Go.Proofs.YtbjeegkmafbejaaW.PrintWords Go.Proofs.YtbjeegkmafbejaaW.PrintLast Go.Proofs.YtbjeegkmafbejaaW.PrintMore
attribute [local go_sem] max2_int min2_int max_two min_two max_three min_three max_four min_four   -- for this text's walks alone
set_option linter.unusedVariables false
set_option linter.unusedSimpArgs false
def errW : Option Int → Value
  | none => .nilIface
  | some c => .iface 0 (.int .i64 c)
theorem errW_none : errW none = .nilIface := rfl
theorem errW_some (c : Int) : errW (some c) = .iface 0 (.int .i64 c) := rfl
theorem info3 : (Try.prog.info? 3).map (fun i => (i.zero, i.size, i.bytes)) = some (some (.int .i64 0), 1, 8) := by kernel_rfl
theorem info9 : (Try.prog.info? 9).map (fun i => (i.zero, i.size, i.bytes)) = some (some (.string ⟨#[]⟩), 1, 16) := by kernel_rfl
theorem info69 : (Try.prog.info? 69).map (fun i => (i.zero, i.size, i.bytes)) = some (some (.agg #[(.string ⟨#[]⟩), (.string ⟨#[]⟩)]), 2, 32) := by kernel_rfl
structure S69 where
  f0 : ByteArray
  f1 : ByteArray
def z69 : S69 := ⟨(⟨#[]⟩ : ByteArray), (⟨#[]⟩ : ByteArray)⟩
def k69 : Kd S69 := Kd.iso (Kd.pair Kd.string Kd.string) (fun x : S69 => (x.f0, x.f1))
theorem k69_open {w : World} {x : S69} {cs : List Value} (h : k69.K w x cs) : cs = [.string x.f0, .string x.f1] := by
  obtain ⟨_, _, rfl, rfl, rfl⟩ := h
  exact rfl
theorem k69_mkM (w : World) (base : Nat) (ok : Nat → Prop) (x : S69)  : k69.M w base ok x [.string x.f0, .string x.f1] := ⟨[.string x.f0], [.string x.f1], rfl, rfl, rfl⟩
def rd_T69 (xs : List S69) (i : Int) : S69 := xs.getD i.toNat z69
theorem at_T69 {w : World} {A : Option Addr} {n : Nat} {xs : List S69} (h : Kd.C k69 w A n xs) (i : Int) (h0 : 0 ≤ i) (h1 : i < n) : ∃ ad , A = some ad ∧ w.cell? (ad.add (i.toNat * 2)) = some (.string (rd_T69 xs i).f0) ∧ w.cell? ⟨(ad.add (i.toNat * 2)).block, (ad.add (i.toNat * 2)).off + 1, none⟩ = some (.string (rd_T69 xs i).f1) := by
  obtain ⟨ad, c, e, _, hK, hc0⟩ := Kd.C_get h z69 i h0 h1
  have hc : ∀ j u, c[j]? = some u → w.cell? (ad.add (i.toNat * 2 + j)) = some u := hc0
  obtain rfl := k69_open hK
  exact ⟨ad, e, hc 0 _ rfl, by rw [← add_field _ _ 1 (by omega)]; exact hc 1 _ rfl⟩
structure S27 where
  f0 : Int
  f1 : ByteArray
  f2 : (List ByteArray)
  f3 : (List S69)
structure S23 where
  f0 : ByteArray
  f1 : Int
  f2 : Bool
structure S37 where
  f0 : ByteArray
  f1 : ByteArray
  f2 : Bool
  f3 : ByteArray
  f4 : Bool
def z37 : S37 := ⟨(⟨#[]⟩ : ByteArray), (⟨#[]⟩ : ByteArray), false, (⟨#[]⟩ : ByteArray), false⟩
end Go.Proofs.Ytbjeegkmafbejaa.PE
end
