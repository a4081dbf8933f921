/- Operators: tmpl.Operator, oper.rules, oper.Of. -/
import Derived.Deep.RegionWith
import Derived.Maps.Own
import Derived.Maps.Views

import Derived.Test.YtbjeegkmafbejaaShelf
import Derived.Test.YtbjeegkmafbejaaXb
namespace Go.Proofs.Ytbjeegkmafbejaa.X
set_option linter.unusedSimpArgs false
set_option linter.unusedVariables false
open Go.RowKit Go.Proofs.YtbjeegkmafbejaaW.PrintWords Go.ChangeMaps Go.Maps
/-- Is a byte an operator? -/
def isOper (c : Int) : Bool := c == 0 || (c == 43 || c == 35 || c == 46 || c == 47 || c == 59 || c == 63 || c == 38)
def ruleFirst (c : Int) : ByteArray := if c = 35 then ⟨#[35]⟩ else if c = 46 then ⟨#[46]⟩ else if c = 47 then ⟨#[47]⟩ else if c = 59 then ⟨#[59]⟩ else if c = 63 then ⟨#[63]⟩ else if c = 38 then ⟨#[38]⟩ else ⟨#[]⟩
def ruleSep (c : Int) : ByteArray := if c = 0 then ⟨#[44]⟩ else if c = 43 then ⟨#[44]⟩ else if c = 35 then ⟨#[44]⟩ else if c = 46 then ⟨#[46]⟩ else if c = 47 then ⟨#[47]⟩ else if c = 59 then ⟨#[59]⟩ else if c = 63 then ⟨#[38]⟩ else if c = 38 then ⟨#[38]⟩ else ⟨#[]⟩
def ruleNamed (c : Int) : Bool := c == 59 || c == 63 || c == 38
def ruleEmpty (c : Int) : ByteArray := if c = 63 then ⟨#[61]⟩ else if c = 38 then ⟨#[61]⟩ else ⟨#[]⟩
def ruleKeep (c : Int) : Bool := c == 43 || c == 35
/-- A rule as a value. -/
def ruleV (a b : ByteArray) (c : Bool) (d : ByteArray) (e : Bool) : Value := .agg #[.string a, .string b, .bool c, .string d, .bool e]
def ruleCells (c : Int) : Array Value := #[.string (ruleFirst c), .string (ruleSep c), .bool (ruleNamed c), .string (ruleEmpty c), .bool (ruleKeep c)]
/-- How a rule reads. -/
def ruleRL : List Value → Option (DataW Unit × List MemPlace)
  | [.string a, .string b, .bool c, .string d, .bool e] => some (.agg [.lit (.string a.data.toList), .lit (.string b.data.toList), .lit (.bool c), .lit (.string d.data.toList), .lit (.bool e)], [])
  | _ => none
def ruleR : Value → Option (DataW Unit × List MemPlace)
  | .agg cs => ruleRL cs.toList
  | _ => none
def ruleD (a b : List UInt8) (c : Bool) (d : List UInt8) (e : Bool) : DataW Unit := .agg [.lit (.string a), .lit (.string b), .lit (.bool c), .lit (.string d), .lit (.bool e)]
theorem ruleR_mk (a b : ByteArray) (c : Bool) (d : ByteArray) (e : Bool) : ruleR (ruleV a b c d e) = some (ruleD a.data.toList b.data.toList c d.data.toList e, []) := rfl
theorem ruleR_inv {v : Value} {a b : ByteArray} {c : Bool} {d : ByteArray} {e : Bool} {ps : List MemPlace} (h : ruleR v = some (ruleD a.data.toList b.data.toList c d.data.toList e, ps)) : v = ruleV a b c d e := by
  cases v with
  | agg cs =>
    have h : ruleRL cs.toList = _ := h
    unfold ruleRL at h
    split at h
    · rename_i a' b' c' d' e' hl
      simp only [ruleD, Option.some.injEq, Prod.mk.injEq, DataW.agg.injEq, List.cons.injEq, DataW.lit.injEq, Lit.string.injEq, Lit.bool.injEq, and_true] at h
      obtain ⟨⟨h1, h2, h3, h4, h5⟩, _⟩ := h
      have e1 : a' = a := by cases a'; cases a; simp_all [Array.toList_inj]
      have e2 : b' = b := by cases b'; cases b; simp_all [Array.toList_inj]
      have e4 : d' = d := by cases d'; cases d; simp_all [Array.toList_inj]
      subst e1 e2 h3 e4 h5
      have : cs = #[.string a', .string b', .bool c', .string d', .bool e'] := by cases cs; simp at hl; rw [hl]
      rw [this]; rfl
    · cases h
  | _ => cases h
def rulesD0 : DataW Unit := ((((((((DataW.map []).put (.int .u8 0) (ruleD [] [44] false [] false)).put (.int .u8 43) (ruleD [] [44] false [] true)).put (.int .u8 35) (ruleD [35] [44] false [] true)).put (.int .u8 46) (ruleD [46] [46] false [] false)).put (.int .u8 47) (ruleD [47] [47] false [] false)).put (.int .u8 59) (ruleD [59] [59] true [] false)).put (.int .u8 63) (ruleD [63] [38] true [61] false)).put (.int .u8 38) (ruleD [38] [38] true [61] false)
/-- Block b of w is the map of all rules. -/
def RulesMap (w : World) (b : Nat) : Prop := w.ownsMap Try.prog 5 ruleR b 8 rulesD0
theorem RulesMap.grown {w w' : World} {b : Nat} {row : Option Nat} (h : RulesMap w b) (hg : w.grownBy w' row) (hne : some b ≠ row) : RulesMap w' b := h.kept hg hne
theorem RulesMap.below {w w' : World} {b : Nat} (h : RulesMap w b) (hb : Below w.heap.size w w') : RulesMap w' b := h.grown (grown_of_below hb none) (by simp)
theorem u8_wf {op : Int} (h0 : 0 ≤ op) (h1 : op ≤ 255) : (Lit.int .u8 op).wf = true := by
  have e1 : IntKind.u8.min = 0 := by decide
  have e2 : IntKind.u8.max = 255 := by decide
  show (decide (IntKind.u8.min ≤ op) && decide (op ≤ IntKind.u8.max)) = true
  rw [e1, e2, Bool.and_eq_true]
  exact ⟨decide_eq_true h0, decide_eq_true h1⟩
set_option maxRecDepth 100000 in
theorem put_step {w : World} {b n : Nat} {D : DataW Unit} (h : w.ownsMap Try.prog 5 ruleR b n D) (hn : n < 100) (op : Int) (h0 : 0 ≤ op) (h1 : op ≤ 255) (a s : ByteArray) (c : Bool) (d : ByteArray) (e : Bool) :
    ∃ w', (Instr.mapUpdate 63 (.map (some b)) (.int .u8 op) (ruleV a s c d e)).run Try.prog w = .ok () w' ∧ w'.ownsMap Try.prog 5 ruleR b (n + 1) (D.put (.int .u8 op) (ruleD a.data.toList s.data.toList c d.data.toList e)) ∧ w.grownBy w' (some b) :=
  h.update (int_keyed Try.underlying5) Try.underlying63 (by unfold maxLen; omega) (keyOf_int_mk Try.underlying5 (u8_wf h0 h1)) (ruleR_mk a s c d e)
set_option maxHeartbeats 2000000 in
set_option maxRecDepth 100000 in
theorem rules_any (w : World) : Calls Try.prog 38 #[] w fun e w' => e = .returned (.map (some w.heap.size)) ∧ RulesMap w' w.heap.size ∧ Below w.heap.size w w' := by
  have hmm := @run_makeMap Try.prog
  have h0 := World.ownsMap_made (H := Unit) w Try.prog 5 ruleR
  obtain ⟨w1, r1, h1, g1⟩ := put_step h0 (by omega) 0 (by omega) (by omega) ⟨#[]⟩ ⟨#[44]⟩ false ⟨#[]⟩ false
  obtain ⟨w2, r2, h2, g2⟩ := put_step h1 (by omega) 43 (by omega) (by omega) ⟨#[]⟩ ⟨#[44]⟩ false ⟨#[]⟩ true
  obtain ⟨w3, r3, h3, g3⟩ := put_step h2 (by omega) 35 (by omega) (by omega) ⟨#[35]⟩ ⟨#[44]⟩ false ⟨#[]⟩ true
  obtain ⟨w4, r4, h4, g4⟩ := put_step h3 (by omega) 46 (by omega) (by omega) ⟨#[46]⟩ ⟨#[46]⟩ false ⟨#[]⟩ false
  obtain ⟨w5, r5, h5, g5⟩ := put_step h4 (by omega) 47 (by omega) (by omega) ⟨#[47]⟩ ⟨#[47]⟩ false ⟨#[]⟩ false
  obtain ⟨w6, r6, h6, g6⟩ := put_step h5 (by omega) 59 (by omega) (by omega) ⟨#[59]⟩ ⟨#[59]⟩ true ⟨#[]⟩ false
  obtain ⟨w7, r7, h7, g7⟩ := put_step h6 (by omega) 63 (by omega) (by omega) ⟨#[63]⟩ ⟨#[38]⟩ true ⟨#[61]⟩ false
  obtain ⟨w8, r8, h8, g8⟩ := put_step h7 (by omega) 38 (by omega) (by omega) ⟨#[38]⟩ ⟨#[38]⟩ true ⟨#[61]⟩ false
  have HR := Aside0.mk (show RulesMap w8 w.heap.size from h8)
  have hh : ∀ k, some w.heap.size = some k → w.heap.size ≤ k := fun k e => by cases e; exact Nat.le_refl _
  have b0 := X.below_new1 w (.map #[] 0)
  have b1 := b0.grown g1 b0.size hh
  have b2 := b1.grown g2 b1.size hh
  have b3 := b2.grown g3 b2.size hh
  have b4 := b3.grown g4 b3.size hh
  have b5 := b4.grown g5 b4.size hh
  have b6 := b5.grown g6 b5.size hh
  have b7 := b6.grown g7 b6.size hh
  have HB := Aside0.mk (b7.grown g8 b7.size hh)
  clear h0 h1 h2 h3 h4 h5 h6 h7 h8 g1 g2 g3 g4 g5 g6 g7 g8 hh b0 b1 b2 b3 b4 b5 b6 b7
  unfold ruleV at r1 r2 r3 r4 r5 r6 r7 r8
  go_enter Try.func38, Try.ntmps38
  go_wp2_with fail
  go_ret
  exact ⟨rfl, HR.out, HB.out⟩
theorem isOper_zero : isOper 0 = true := rfl
theorem opIdx (c : Int) (h0 : 0 ≤ c) (h1 : c ≤ 255) (hz : (c == 0) = false) : decide (0 ≤ Lib.indexByte [43, 35, 46, 47, 59, 63, 38] c.toNat.toUInt8) = isOper c := by
  obtain ⟨n, rfl⟩ : ∃ n : Nat, c = n := ⟨c.toNat, by omega⟩
  have : ∀ n : Fin 256, ((n.1 : Int) == 0) = false → decide (0 ≤ Lib.indexByte [43, 35, 46, 47, 59, 63, 38] (n.1 : Int).toNat.toUInt8) = isOper (n.1 : Int) := by decide +kernel
  exact this ⟨n, by omega⟩ hz
set_option maxHeartbeats 800000 in
theorem operator_any (c : Int) (w : World) (h0 : 0 ≤ c) (h1 : c ≤ 255) : Calls Try.prog 39 #[.int .u8 c] w fun e w' => e = .returned (.bool (isOper c)) ∧ w = w' := by
  cases hz : c == 0 with
  | true =>
    obtain rfl : c = 0 := beq_iff_eq.1 hz
    clear hz
    go_enter Try.func39, Try.ntmps39
    go_wp2_with fail
    go_ret
    exact ⟨rfl, rfl⟩
  | false =>
    have HX := Aside0.mk (opIdx c h0 h1 hz)
    go_enter Try.func39, Try.ntmps39
    go_wp2_with (go_at_call 59; refine (Try.strings_IndexByte _ _ _).mono ?_; rintro e w' ⟨rfl, rfl⟩)
    go_ret
    exact ⟨by rw [← HX.out]; rfl, rfl⟩
/-- What the map of all rules says of a byte. -/
theorem rules_atKey (c : Int) (z : DataW Unit) :
    rulesD0.atKey (.int .u8 c) z = if isOper c = true then ruleD (ruleFirst c).data.toList (ruleSep c).data.toList (ruleNamed c) (ruleEmpty c).data.toList (ruleKeep c) else z := by
  by_cases e0 : c = 0
  · subst e0; rfl
  by_cases e1 : c = 43
  · subst e1; rfl
  by_cases e2 : c = 35
  · subst e2; rfl
  by_cases e3 : c = 46
  · subst e3; rfl
  by_cases e4 : c = 47
  · subst e4; rfl
  by_cases e5 : c = 59
  · subst e5; rfl
  by_cases e6 : c = 63
  · subst e6; rfl
  by_cases e7 : c = 38
  · subst e7; rfl
  have hD : rulesD0 = .map [(.int .u8 0, ruleD [] [44] false [] false), (.int .u8 35, ruleD [35] [44] false [] true), (.int .u8 38, ruleD [38] [38] true [61] false), (.int .u8 43, ruleD [] [44] false [] true), (.int .u8 46, ruleD [46] [46] false [] false), (.int .u8 47, ruleD [47] [47] false [] false), (.int .u8 59, ruleD [59] [59] true [] false), (.int .u8 63, ruleD [63] [38] true [61] false)] := rfl
  rw [hD]
  have ne : ∀ k : Int, c ≠ k → (Lit.int .u8 k).sameKey (.int .u8 c) = false := fun k h => by simp [Lit.sameKey]; omega
  have hn : isOper c = false := by simp [isOper, e0, e1, e2, e3, e4, e5, e6, e7]
  rw [hn]
  simp [DataW.atKey, List.find?, ne _ e0, ne _ e1, ne _ e2, ne _ e3, ne _ e4, ne _ e5, ne _ e6, ne _ e7]
theorem no_rule {c : Int} (h : isOper c = false) : ruleV (ruleFirst c) (ruleSep c) (ruleNamed c) (ruleEmpty c) (ruleKeep c) = ruleV ⟨#[]⟩ ⟨#[]⟩ false ⟨#[]⟩ false := by
  simp [isOper, and_assoc] at h
  obtain ⟨h0, h1, h2, h3, h4, h5, h6, h7⟩ := h
  simp [ruleFirst, ruleSep, ruleNamed, ruleEmpty, ruleKeep, h0, h1, h2, h3, h4, h5, h6, h7, beq_eq_false_iff_ne.2 h1, beq_eq_false_iff_ne.2 h2, beq_eq_false_iff_ne.2 h5, beq_eq_false_iff_ne.2 h6, beq_eq_false_iff_ne.2 h7]
set_option maxRecDepth 100000 in
theorem zero_rule (w : World) : (zeroValue 43).run Try.prog w = .ok (ruleV ⟨#[]⟩ ⟨#[]⟩ false ⟨#[]⟩ false) w := by
  have h : (zeroValue 43).run Try.prog w = .ok (ruleV ⟨#[]⟩ ⟨#[]⟩ false ⟨#[]⟩ false) w := by
    first | kernel_rfl | rfl | (simp [zeroValue, typeInfo]; done) | go_simp
  exact h
set_option maxRecDepth 100000 in
theorem rules_look {w : World} {b : Nat} (h : RulesMap w b) (c : Int) (h0 : 0 ≤ c) (h1 : c ≤ 255) :
    (Instr.lookup 63 (.map (some b)) (.int .u8 c) true).run Try.prog w = .ok (.tuple #[ruleV (ruleFirst c) (ruleSep c) (ruleNamed c) (ruleEmpty c) (ruleKeep c), .bool (isOper c)]) w := by
  obtain ⟨es, clock, hb, F, _, hD⟩ := h
  have hk := keyOf_int_mk (P := Try.prog) Try.underlying5 (u8_wf h0 h1)
  rcases Maps.fit_look true (int_keyed Try.underlying5) Try.underlying63 (zero_rule w) hb F hk with ⟨hrun, hno, hz⟩ | ⟨e0, y, hm, hke, hrun, hR, hz, _⟩
  · have h1 := hz .nil
    rw [← hD, rules_atKey] at h1
    have hn : isOper c = false := by
      cases ho : isOper c with
      | false => rfl
      | true => rw [ho] at h1; cases h1
    rw [hrun, hn, no_rule hn]; rfl
  · have h1 := hz .nil
    rw [← hD, rules_atKey] at h1
    obtain ⟨y1, y2⟩ := y
    have hn : isOper c = true := by
      cases ho : isOper c with
      | true => rfl
      | false =>
        rw [ho] at h1
        have h1 : DataW.nil = y1 := h1
        subst h1
        revert hR
        cases e0.val with
        | agg cs => intro hR; have hR : ruleRL cs.toList = _ := hR; unfold ruleRL at hR; split at hR <;> simp at hR
        | _ => intro hR; cases hR
    rw [hn, if_pos rfl] at h1
    subst h1
    rw [hrun, ruleR_inv hR, hn]; rfl
theorem cells5 {w : World} {B : Nat} {a b c d e : Value} {t : TypeId} (h : w.heap[B]? = some (.cells #[a, b, c, d, e] t (0, 0))) :
    w.cell? ⟨B, 0, none⟩ = some a ∧ w.cell? ⟨B, 1, none⟩ = some b ∧ w.cell? ⟨B, 2, none⟩ = some c ∧ w.cell? ⟨B, 3, none⟩ = some d ∧ w.cell? ⟨B, 4, none⟩ = some e := by
  refine ⟨?_, ?_, ?_, ?_, ?_⟩ <;> simp [blk_cell h]
theorem frozen5 {w : World} {B : Nat} {a b c d e : Value} {t : TypeId} (h : w.heap[B]? = some (.cells #[a, b, c, d, e] t (0, 0))) :
    w.frozen? ⟨B, 0, none⟩ = false ∧ w.frozen? ⟨B, 1, none⟩ = false ∧ w.frozen? ⟨B, 2, none⟩ = false ∧ w.frozen? ⟨B, 3, none⟩ = false ∧ w.frozen? ⟨B, 4, none⟩ = false :=
  ⟨blk_frozen h 0, blk_frozen h 1, blk_frozen h 2, blk_frozen h 3, blk_frozen h 4⟩
set_option maxHeartbeats 4000000 in
set_option maxRecDepth 100000 in
theorem operOf_any (c : Int) (w : World) (h0 : 0 ≤ c) (h1 : c ≤ 255) : Calls Try.prog 18 #[.int .u8 c] w fun e w' => e = .returned (.tuple #[ruleV (ruleFirst c) (ruleSep c) (ruleNamed c) (ruleEmpty c) (ruleKeep c), .bool (isOper c)]) ∧ Below w.heap.size w w' := by
  cases ho : isOper c with
  | true =>
    have HO := Aside0.mk ho
    have HOP := Aside0.mk (fun W => operator_any c W h0 h1)
    clear ho
    go_enter Try.func18, Try.ntmps18
    go_wp2_with fail
    refine (rules_any _).mono ?_
    rintro e w1 ⟨rfl, hm, hb⟩
    have HL := rules_look hm c h0 h1
    rw [HO.out] at HL
    unfold ruleV at HL
    rw [X.size_alloc1] at HL
    have HX := Aside0.mk (blk_below (blk_new w _) hb)
    have HB := Aside0.mk (below_step (w := w) (X.below_new1 w _) hb)
    clear hm hb
    go_wp2_with fail
    have B2 := blk_new w1 (.cells #[.string (ruleFirst c), .string (ruleSep c), .bool (ruleNamed c), .string (ruleEmpty c), .bool (ruleKeep c)] 43 (0, 0))
    have B1 := blk_alloc HX.out (.cells #[.string (ruleFirst c), .string (ruleSep c), .bool (ruleNamed c), .string (ruleEmpty c), .bool (ruleKeep c)] 43 (0, 0))
    have HB2 := Aside0.mk (below_alloc HB.out (.cells #[.string (ruleFirst c), .string (ruleSep c), .bool (ruleNamed c), .string (ruleEmpty c), .bool (ruleKeep c)] 43 (0, 0)))
    generalize w1.alloc (.cells #[.string (ruleFirst c), .string (ruleSep c), .bool (ruleNamed c), .string (ruleEmpty c), .bool (ruleKeep c)] 43 (0, 0)) = W6 at *
    obtain ⟨x0, x1, x2, x3, x4⟩ := cells5 B2
    obtain ⟨y0, y1, y2, y3, y4⟩ := cells5 B1
    obtain ⟨f0, f1, f2, f3, f4⟩ := frozen5 B1
    have HX3 := Aside0.mk B1
    clear HL B1 B2
    (first | go_region_with (go_at_call 39; refine (HOP.out _).mono ?_; rintro e w' ⟨rfl, rfl⟩; rw [HO.out]) | fail)
    all_goals clear x0 x1 x2 x3 x4
    all_goals go_wp2
    all_goals have k0 := blk_put HX3.out 0 (.string (ruleFirst c)) rfl
    all_goals have k1 := blk_put k0 1 (.string (ruleSep c)) rfl
    all_goals have k2 := blk_put k1 2 (.bool (ruleNamed c)) rfl
    all_goals have k3 := blk_put k2 3 (.string (ruleEmpty c)) rfl
    all_goals have k4 := blk_put k3 4 (.bool (ruleKeep c)) rfl
    all_goals have r0 := (cells5 k0).1
    all_goals have r1 := (cells5 k1).2.1
    all_goals have r2 := (cells5 k2).2.2.1
    all_goals have r3 := (cells5 k3).2.2.2.1
    all_goals have r4 := (cells5 k4).2.2.2.2
    all_goals clear y0 y1 y2 y3 y4 f0 f1 f2 f3 f4 k0 k1 k2 k3 k4
    all_goals refine bodyPost_ret (v := .tuple #[.agg #[.string (ruleFirst c), .string (ruleSep c), .bool (ruleNamed c), .string (ruleEmpty c), .bool (ruleKeep c)], .bool true]) (by simp [results, Try.results18, go_sem, r0, r1, r2, r3, r4]) rfl ⟨rfl, ?_⟩
    all_goals repeat (first | exact HB2.out | refine Below.drew ?_ | refine below_set ?_ (Nat.le_refl _))
  | false =>
    have HO := Aside0.mk ho
    clear ho
    go_enter Try.func18, Try.ntmps18
    go_wp2_with fail
    refine (rules_any _).mono ?_
    rintro e w1 ⟨rfl, hm, hb⟩
    have HL := rules_look hm c h0 h1
    rw [HO.out] at HL
    unfold ruleV at HL
    rw [X.size_alloc1] at HL
    have HX := Aside0.mk (blk_below (blk_new w _) hb)
    have HB := Aside0.mk (below_step (w := w) (X.below_new1 w _) hb)
    clear hm hb
    go_wp2_with fail
    have B2 := blk_new w1 (.cells #[.string (ruleFirst c), .string (ruleSep c), .bool (ruleNamed c), .string (ruleEmpty c), .bool (ruleKeep c)] 43 (0, 0))
    have B1 := blk_alloc HX.out (.cells #[.string (ruleFirst c), .string (ruleSep c), .bool (ruleNamed c), .string (ruleEmpty c), .bool (ruleKeep c)] 43 (0, 0))
    have HB2 := Aside0.mk (below_alloc HB.out (.cells #[.string (ruleFirst c), .string (ruleSep c), .bool (ruleNamed c), .string (ruleEmpty c), .bool (ruleKeep c)] 43 (0, 0)))
    generalize w1.alloc (.cells #[.string (ruleFirst c), .string (ruleSep c), .bool (ruleNamed c), .string (ruleEmpty c), .bool (ruleKeep c)] 43 (0, 0)) = W6 at *
    obtain ⟨x0, x1, x2, x3, x4⟩ := cells5 B2
    obtain ⟨y0, y1, y2, y3, y4⟩ := cells5 B1
    obtain ⟨f0, f1, f2, f3, f4⟩ := frozen5 B1
    have HX3 := Aside0.mk B1
    clear HL B1 B2
    (first | go_region_with (fail) | fail)
    all_goals clear x0 x1 x2 x3 x4
    all_goals go_wp2
    all_goals have k0 := blk_put HX3.out 0 (.string (ruleFirst c)) rfl
    all_goals have k1 := blk_put k0 1 (.string (ruleSep c)) rfl
    all_goals have k2 := blk_put k1 2 (.bool (ruleNamed c)) rfl
    all_goals have k3 := blk_put k2 3 (.string (ruleEmpty c)) rfl
    all_goals have k4 := blk_put k3 4 (.bool (ruleKeep c)) rfl
    all_goals have r0 := (cells5 k0).1
    all_goals have r1 := (cells5 k1).2.1
    all_goals have r2 := (cells5 k2).2.2.1
    all_goals have r3 := (cells5 k3).2.2.2.1
    all_goals have r4 := (cells5 k4).2.2.2.2
    all_goals clear y0 y1 y2 y3 y4 f0 f1 f2 f3 f4 k0 k1 k2 k3 k4
    all_goals refine bodyPost_ret (v := .tuple #[.agg #[.string (ruleFirst c), .string (ruleSep c), .bool (ruleNamed c), .string (ruleEmpty c), .bool (ruleKeep c)], .bool false]) (by simp [results, Try.results18, go_sem, r0, r1, r2, r3, r4]) rfl ⟨rfl, ?_⟩
    all_goals repeat (first | exact HB2.out | refine Below.drew ?_ | refine below_set ?_ (Nat.le_refl _))
end Go.Proofs.Ytbjeegkmafbejaa.X
