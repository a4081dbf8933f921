/- ucs.spans, meets, May: which characters beyond ASCII may stand in a literal. -/
import Derived.Deep.MidRow
import Derived.Deep.DeepMust
import Derived.Test.YtjhihohofhhknaaXk
import Derived.Test.YtjhihohofhhknaaXb
namespace Go.Proofs.Ytjhihohofhhknaa.X
set_option linter.unusedSimpArgs false
set_option linter.unusedVariables false
open Go.RowKit Go.Proofs.YtjhihohofhhknaaW.PrintWords
/-- The ranges. -/
def spanL : List (Int × Int) := [(160, 55295), (57344, 64975), (65008, 65519), (65536, 131069), (131072, 196605), (196608, 262141), (262144, 327677), (327680, 393213), (393216, 458749), (458752, 524285), (524288, 589821), (589824, 655357), (655360, 720893), (720896, 786429), (786432, 851965), (851968, 917501), (921600, 983037), (983040, 1048573), (1048576, 1114109)]
/-- The cells, when k planes have been told. -/
def spanK (k : Nat) : Array Value := (([160, 55295, 57344, 64975, 65008, 65519] ++ (List.range 16).flatMap fun p => if p < k then [(65536 * (p + 1) : Int), 65536 * (p + 1) + 65533] else [0, 0]).map (Value.int .i64)).toArray
def spanCells : List Value := spanL.flatMap fun p => [Value.int .i64 p.1, Value.int .i64 p.2]
theorem spanK_size (k : Nat) : (spanK k).size = 38 := by
  unfold spanK
  rw [List.size_toArray, List.length_map, List.length_append, List.length_flatMap]
  have : ((List.range 16).map fun p => (if p < k then [(65536 * (p + 1) : Int), 65536 * (p + 1) + 65533] else [0, 0]).length) = (List.range 16).map fun _ => 2 :=
    List.map_congr_left fun p _ => by split <;> rfl
  rw [this]; rfl
theorem spanK_step (p : Nat) (h1 : p < 16) : ((spanK p).setIfInBounds ((2 + (p + 1)) * 2) (.int .i64 (((p : Int) + 1) * 65536))).setIfInBounds ((2 + (p + 1)) * 2 + 1) (.int .i64 (((p : Int) + 1) * 65536 + 65533)) = spanK (p + 1) := by
  have : p = 0 ∨ p = 1 ∨ p = 2 ∨ p = 3 ∨ p = 4 ∨ p = 5 ∨ p = 6 ∨ p = 7 ∨ p = 8 ∨ p = 9 ∨ p = 10 ∨ p = 11 ∨ p = 12 ∨ p = 13 ∨ p = 14 ∨ p = 15 := by omega
  rcases this with rfl | rfl | rfl | rfl | rfl | rfl | rfl | rfl | rfl | rfl | rfl | rfl | rfl | rfl | rfl | rfl <;> rfl
theorem spanK_last : ((spanK 16).setIfInBounds 32 (.int .i64 921600)).toList = spanCells := by rfl
theorem info104 : (Try.prog.info? 104).map (·.size) = some 38 := by kernel_rfl
theorem there_blk {w : World} {B : Nat} {C : Array Value} {t : TypeId} (h : w.heap[B]? = some (.cells C t (0, 0))) {n : Nat} (hn : n ≤ C.size) : w.there B 0 n := fun j hj => by
  rw [Nat.zero_add]
  exact ⟨by rw [blk_cell h j, Array.getElem?_eq_getElem (by omega)]; rfl, blk_frozen h j⟩
theorem blk_setAll {w : World} {B : Nat} {C : Array Value} {t : TypeId} (h : w.heap[B]? = some (.cells C t (0, 0))) (vs : List Value) (hn : vs.length = C.size) : (w.setCells B 0 vs).heap[B]? = some (.cells vs.toArray t (0, 0)) := by
  obtain ⟨cur, h1, h2, h3⟩ := setCells_row vs 0 w C h (by omega)
  have : cur = vs.toArray := by
    apply Array.toList_inj.1
    rw [h3, List.take_zero, List.nil_append, List.drop_eq_nil_of_le (by simp; omega), List.append_nil]
  rw [h1, this]
theorem below_setAll {n B : Nat} {a : World} (hB : n ≤ B) : ∀ (vs : List Value) (o : Nat) {w : World}, Below n a w → Below n a (w.setCells B o vs)
  | [], _, _, h => h
  | v :: r, o, w, h => below_setAll hB r (o + 1) (h.setCell (p := ⟨B, o, none⟩) hB v)
theorem results_c1 {P : Program} {fn : Func} {p : Tmp} {ty : TypeId} (h : fn.results = #[.cell p ty]) (tmps : Array Value) (w : World) (g : Nat) (t : TypeId) (cs : Array Value) (fr : Nat × Nat) (d : TypeDesc)
    (hp : tmps.getD p undef = .pointer (some ⟨g, 0, none⟩)) (hg : w.heap[g]? = some (.cells cs t fr))
    (hu : P.underlying ty = some d) (hd : (match d with | .struct _ | .array _ _ => true | _ => false) = true) (hi : (P.info? ty).map (·.size) = some cs.size) :
    (results fn tmps).run P w = .ok (.agg cs) w := by
  have hp' : tmps[p]?.getD undef = .pointer (some ⟨g, 0, none⟩) := by simpa using hp
  simp [results, h, hp', asAddr, run_loadVar_row w g t ty cs fr d hg hu hd hi]
theorem range_blk {w : World} {B : Nat} {C : Array Value} {t : TypeId} (h : w.heap[B]? = some (.cells C t (0, 0))) : w.rangeAt B 0 C.toList := fun j v hv => by
  rw [Nat.zero_add, blk_cell h j, ← hv]; simp
set_option maxHeartbeats 8000000 in
set_option maxRecDepth 100000 in
theorem spans_any (w : World) : Calls Try.prog 95 #[] w fun e w' => e = .returned (.agg spanCells.toArray) ∧ Below w.heap.size w w' := by
  go_enter Try.func95, Try.ntmps95
  go_upto_region 1 with (fail)
  have hR := Aside0.mk (blk_new w (.cells #[.int .i64 0, .int .i64 0, .int .i64 0, .int .i64 0, .int .i64 0, .int .i64 0, .int .i64 0, .int .i64 0, .int .i64 0, .int .i64 0, .int .i64 0, .int .i64 0, .int .i64 0, .int .i64 0, .int .i64 0, .int .i64 0, .int .i64 0, .int .i64 0, .int .i64 0, .int .i64 0, .int .i64 0, .int .i64 0, .int .i64 0, .int .i64 0, .int .i64 0, .int .i64 0, .int .i64 0, .int .i64 0, .int .i64 0, .int .i64 0, .int .i64 0, .int .i64 0, .int .i64 0, .int .i64 0, .int .i64 0, .int .i64 0, .int .i64 0, .int .i64 0] 104 (0, 0)))
  have HB := Aside0.mk (X.below_new1 w (.cells #[.int .i64 0, .int .i64 0, .int .i64 0, .int .i64 0, .int .i64 0, .int .i64 0, .int .i64 0, .int .i64 0, .int .i64 0, .int .i64 0, .int .i64 0, .int .i64 0, .int .i64 0, .int .i64 0, .int .i64 0, .int .i64 0, .int .i64 0, .int .i64 0, .int .i64 0, .int .i64 0, .int .i64 0, .int .i64 0, .int .i64 0, .int .i64 0, .int .i64 0, .int .i64 0, .int .i64 0, .int .i64 0, .int .i64 0, .int .i64 0, .int .i64 0, .int .i64 0, .int .i64 0, .int .i64 0, .int .i64 0, .int .i64 0, .int .i64 0, .int .i64 0] 104 (0, 0)))
  have hsz : (w.alloc (.cells #[.int .i64 0, .int .i64 0, .int .i64 0, .int .i64 0, .int .i64 0, .int .i64 0, .int .i64 0, .int .i64 0, .int .i64 0, .int .i64 0, .int .i64 0, .int .i64 0, .int .i64 0, .int .i64 0, .int .i64 0, .int .i64 0, .int .i64 0, .int .i64 0, .int .i64 0, .int .i64 0, .int .i64 0, .int .i64 0, .int .i64 0, .int .i64 0, .int .i64 0, .int .i64 0, .int .i64 0, .int .i64 0, .int .i64 0, .int .i64 0, .int .i64 0, .int .i64 0, .int .i64 0, .int .i64 0, .int .i64 0, .int .i64 0, .int .i64 0, .int .i64 0] 104 (0, 0))).heap.size = w.heap.size + 1 := by simp
  generalize w.alloc (.cells #[.int .i64 0, .int .i64 0, .int .i64 0, .int .i64 0, .int .i64 0, .int .i64 0, .int .i64 0, .int .i64 0, .int .i64 0, .int .i64 0, .int .i64 0, .int .i64 0, .int .i64 0, .int .i64 0, .int .i64 0, .int .i64 0, .int .i64 0, .int .i64 0, .int .i64 0, .int .i64 0, .int .i64 0, .int .i64 0, .int .i64 0, .int .i64 0, .int .i64 0, .int .i64 0, .int .i64 0, .int .i64 0, .int .i64 0, .int .i64 0, .int .i64 0, .int .i64 0, .int .i64 0, .int .i64 0, .int .i64 0, .int .i64 0, .int .i64 0, .int .i64 0] 104 (0, 0)) = W1 at *
  have hN : Aside0 ((W1.alloc (.cells #[.int .i64 0, .int .i64 0, .int .i64 0, .int .i64 0, .int .i64 0, .int .i64 0, .int .i64 0, .int .i64 0, .int .i64 0, .int .i64 0, .int .i64 0, .int .i64 0, .int .i64 0, .int .i64 0, .int .i64 0, .int .i64 0, .int .i64 0, .int .i64 0, .int .i64 0, .int .i64 0, .int .i64 0, .int .i64 0, .int .i64 0, .int .i64 0, .int .i64 0, .int .i64 0, .int .i64 0, .int .i64 0, .int .i64 0, .int .i64 0, .int .i64 0, .int .i64 0, .int .i64 0, .int .i64 0, .int .i64 0, .int .i64 0, .int .i64 0, .int .i64 0] 104 (0, 0))).heap[w.heap.size + 1]? = some (.cells #[.int .i64 0, .int .i64 0, .int .i64 0, .int .i64 0, .int .i64 0, .int .i64 0, .int .i64 0, .int .i64 0, .int .i64 0, .int .i64 0, .int .i64 0, .int .i64 0, .int .i64 0, .int .i64 0, .int .i64 0, .int .i64 0, .int .i64 0, .int .i64 0, .int .i64 0, .int .i64 0, .int .i64 0, .int .i64 0, .int .i64 0, .int .i64 0, .int .i64 0, .int .i64 0, .int .i64 0, .int .i64 0, .int .i64 0, .int .i64 0, .int .i64 0, .int .i64 0, .int .i64 0, .int .i64 0, .int .i64 0, .int .i64 0, .int .i64 0, .int .i64 0] 104 (0, 0))) := ⟨by rw [← hsz]; exact blk_new W1 _⟩
  have ht := Aside0.mk (show (W1.alloc (.cells #[.int .i64 0, .int .i64 0, .int .i64 0, .int .i64 0, .int .i64 0, .int .i64 0, .int .i64 0, .int .i64 0, .int .i64 0, .int .i64 0, .int .i64 0, .int .i64 0, .int .i64 0, .int .i64 0, .int .i64 0, .int .i64 0, .int .i64 0, .int .i64 0, .int .i64 0, .int .i64 0, .int .i64 0, .int .i64 0, .int .i64 0, .int .i64 0, .int .i64 0, .int .i64 0, .int .i64 0, .int .i64 0, .int .i64 0, .int .i64 0, .int .i64 0, .int .i64 0, .int .i64 0, .int .i64 0, .int .i64 0, .int .i64 0, .int .i64 0, .int .i64 0] 104 (0, 0))).there (w.heap.size + 1) 0 38 from there_blk hN.out (Nat.le_refl _))
  iterate 16 (first | go_step | go_skip | go_simp)
  refine wpList_store_mid (P := Try.prog) rfl 104 (.tmp 1) (.tmp 6) rfl (w.heap.size + 1) 0 #[.int .i64 160, .int .i64 55295, .int .i64 57344, .int .i64 64975, .int .i64 65008, .int .i64 65519, .int .i64 0, .int .i64 0, .int .i64 0, .int .i64 0, .int .i64 0, .int .i64 0, .int .i64 0, .int .i64 0, .int .i64 0, .int .i64 0, .int .i64 0, .int .i64 0, .int .i64 0, .int .i64 0, .int .i64 0, .int .i64 0, .int .i64 0, .int .i64 0, .int .i64 0, .int .i64 0, .int .i64 0, .int .i64 0, .int .i64 0, .int .i64 0, .int .i64 0, .int .i64 0, .int .i64 0, .int .i64 0, .int .i64 0, .int .i64 0, .int .i64 0, .int .i64 0] rfl rfl ht.out info104 (by first | kernel_rfl | decide | simp [Value.oneCell']) ?_
  have hA := blk_setAll hN.out (#[.int .i64 160, .int .i64 55295, .int .i64 57344, .int .i64 64975, .int .i64 65008, .int .i64 65519, .int .i64 0, .int .i64 0, .int .i64 0, .int .i64 0, .int .i64 0, .int .i64 0, .int .i64 0, .int .i64 0, .int .i64 0, .int .i64 0, .int .i64 0, .int .i64 0, .int .i64 0, .int .i64 0, .int .i64 0, .int .i64 0, .int .i64 0, .int .i64 0, .int .i64 0, .int .i64 0, .int .i64 0, .int .i64 0, .int .i64 0, .int .i64 0, .int .i64 0, .int .i64 0, .int .i64 0, .int .i64 0, .int .i64 0, .int .i64 0, .int .i64 0, .int .i64 0] : Array Value).toList rfl
  have hA1 := Aside0.mk (show ((W1.alloc (.cells #[.int .i64 0, .int .i64 0, .int .i64 0, .int .i64 0, .int .i64 0, .int .i64 0, .int .i64 0, .int .i64 0, .int .i64 0, .int .i64 0, .int .i64 0, .int .i64 0, .int .i64 0, .int .i64 0, .int .i64 0, .int .i64 0, .int .i64 0, .int .i64 0, .int .i64 0, .int .i64 0, .int .i64 0, .int .i64 0, .int .i64 0, .int .i64 0, .int .i64 0, .int .i64 0, .int .i64 0, .int .i64 0, .int .i64 0, .int .i64 0, .int .i64 0, .int .i64 0, .int .i64 0, .int .i64 0, .int .i64 0, .int .i64 0, .int .i64 0, .int .i64 0] 104 (0, 0))).setCells (w.heap.size + 1) 0 (#[.int .i64 160, .int .i64 55295, .int .i64 57344, .int .i64 64975, .int .i64 65008, .int .i64 65519, .int .i64 0, .int .i64 0, .int .i64 0, .int .i64 0, .int .i64 0, .int .i64 0, .int .i64 0, .int .i64 0, .int .i64 0, .int .i64 0, .int .i64 0, .int .i64 0, .int .i64 0, .int .i64 0, .int .i64 0, .int .i64 0, .int .i64 0, .int .i64 0, .int .i64 0, .int .i64 0, .int .i64 0, .int .i64 0, .int .i64 0, .int .i64 0, .int .i64 0, .int .i64 0, .int .i64 0, .int .i64 0, .int .i64 0, .int .i64 0, .int .i64 0, .int .i64 0] : Array Value).toList).heap[w.heap.size + 1]? = some (.cells (spanK 0) 104 (0, 0)) from hA)
  have hR1 := Aside0.mk (show ((W1.alloc (.cells #[.int .i64 0, .int .i64 0, .int .i64 0, .int .i64 0, .int .i64 0, .int .i64 0, .int .i64 0, .int .i64 0, .int .i64 0, .int .i64 0, .int .i64 0, .int .i64 0, .int .i64 0, .int .i64 0, .int .i64 0, .int .i64 0, .int .i64 0, .int .i64 0, .int .i64 0, .int .i64 0, .int .i64 0, .int .i64 0, .int .i64 0, .int .i64 0, .int .i64 0, .int .i64 0, .int .i64 0, .int .i64 0, .int .i64 0, .int .i64 0, .int .i64 0, .int .i64 0, .int .i64 0, .int .i64 0, .int .i64 0, .int .i64 0, .int .i64 0, .int .i64 0] 104 (0, 0))).setCells (w.heap.size + 1) 0 (#[.int .i64 160, .int .i64 55295, .int .i64 57344, .int .i64 64975, .int .i64 65008, .int .i64 65519, .int .i64 0, .int .i64 0, .int .i64 0, .int .i64 0, .int .i64 0, .int .i64 0, .int .i64 0, .int .i64 0, .int .i64 0, .int .i64 0, .int .i64 0, .int .i64 0, .int .i64 0, .int .i64 0, .int .i64 0, .int .i64 0, .int .i64 0, .int .i64 0, .int .i64 0, .int .i64 0, .int .i64 0, .int .i64 0, .int .i64 0, .int .i64 0, .int .i64 0, .int .i64 0, .int .i64 0, .int .i64 0, .int .i64 0, .int .i64 0, .int .i64 0, .int .i64 0] : Array Value).toList).heap[w.heap.size]? = some (.cells #[.int .i64 0, .int .i64 0, .int .i64 0, .int .i64 0, .int .i64 0, .int .i64 0, .int .i64 0, .int .i64 0, .int .i64 0, .int .i64 0, .int .i64 0, .int .i64 0, .int .i64 0, .int .i64 0, .int .i64 0, .int .i64 0, .int .i64 0, .int .i64 0, .int .i64 0, .int .i64 0, .int .i64 0, .int .i64 0, .int .i64 0, .int .i64 0, .int .i64 0, .int .i64 0, .int .i64 0, .int .i64 0, .int .i64 0, .int .i64 0, .int .i64 0, .int .i64 0, .int .i64 0, .int .i64 0, .int .i64 0, .int .i64 0, .int .i64 0, .int .i64 0] 104 (0, 0)) from (setCells_far _ 0 _ (by omega)).trans (blk_alloc hR.out _))
  have hB1 := Aside0.mk (below_setAll (n := w.heap.size) (a := w) (B := w.heap.size + 1) (by omega) (#[.int .i64 160, .int .i64 55295, .int .i64 57344, .int .i64 64975, .int .i64 65008, .int .i64 65519, .int .i64 0, .int .i64 0, .int .i64 0, .int .i64 0, .int .i64 0, .int .i64 0, .int .i64 0, .int .i64 0, .int .i64 0, .int .i64 0, .int .i64 0, .int .i64 0, .int .i64 0, .int .i64 0, .int .i64 0, .int .i64 0, .int .i64 0, .int .i64 0, .int .i64 0, .int .i64 0, .int .i64 0, .int .i64 0, .int .i64 0, .int .i64 0, .int .i64 0, .int .i64 0, .int .i64 0, .int .i64 0, .int .i64 0, .int .i64 0, .int .i64 0, .int .i64 0] : Array Value).toList 0 (below_alloc HB.out (.cells #[.int .i64 0, .int .i64 0, .int .i64 0, .int .i64 0, .int .i64 0, .int .i64 0, .int .i64 0, .int .i64 0, .int .i64 0, .int .i64 0, .int .i64 0, .int .i64 0, .int .i64 0, .int .i64 0, .int .i64 0, .int .i64 0, .int .i64 0, .int .i64 0, .int .i64 0, .int .i64 0, .int .i64 0, .int .i64 0, .int .i64 0, .int .i64 0, .int .i64 0, .int .i64 0, .int .i64 0, .int .i64 0, .int .i64 0, .int .i64 0, .int .i64 0, .int .i64 0, .int .i64 0, .int .i64 0, .int .i64 0, .int .i64 0, .int .i64 0, .int .i64 0] 104 (0, 0))))
  clear hA ht hN hR HB
  generalize (W1.alloc (.cells #[.int .i64 0, .int .i64 0, .int .i64 0, .int .i64 0, .int .i64 0, .int .i64 0, .int .i64 0, .int .i64 0, .int .i64 0, .int .i64 0, .int .i64 0, .int .i64 0, .int .i64 0, .int .i64 0, .int .i64 0, .int .i64 0, .int .i64 0, .int .i64 0, .int .i64 0, .int .i64 0, .int .i64 0, .int .i64 0, .int .i64 0, .int .i64 0, .int .i64 0, .int .i64 0, .int .i64 0, .int .i64 0, .int .i64 0, .int .i64 0, .int .i64 0, .int .i64 0, .int .i64 0, .int .i64 0, .int .i64 0, .int .i64 0, .int .i64 0, .int .i64 0] 104 (0, 0))).setCells (w.heap.size + 1) 0 (#[.int .i64 160, .int .i64 55295, .int .i64 57344, .int .i64 64975, .int .i64 65008, .int .i64 65519, .int .i64 0, .int .i64 0, .int .i64 0, .int .i64 0, .int .i64 0, .int .i64 0, .int .i64 0, .int .i64 0, .int .i64 0, .int .i64 0, .int .i64 0, .int .i64 0, .int .i64 0, .int .i64 0, .int .i64 0, .int .i64 0, .int .i64 0, .int .i64 0, .int .i64 0, .int .i64 0, .int .i64 0, .int .i64 0, .int .i64 0, .int .i64 0, .int .i64 0, .int .i64 0, .int .i64 0, .int .i64 0, .int .i64 0, .int .i64 0, .int .i64 0, .int .i64 0] : Array Value).toList = W2 at *
  clear hsz
  go_upto_region 2 with (fail)
  go_wp2_with fail
  go_loopw [2] (fun c wr => ∃ p : Nat, p ≤ 16 ∧ c = .int .i64 ((p : Int) + 1) ∧ wr.heap[w.heap.size + 1]? = some (.cells (spanK p) 104 (0, 0)) ∧ wr.heap[w.heap.size]? = some (.cells #[.int .i64 0, .int .i64 0, .int .i64 0, .int .i64 0, .int .i64 0, .int .i64 0, .int .i64 0, .int .i64 0, .int .i64 0, .int .i64 0, .int .i64 0, .int .i64 0, .int .i64 0, .int .i64 0, .int .i64 0, .int .i64 0, .int .i64 0, .int .i64 0, .int .i64 0, .int .i64 0, .int .i64 0, .int .i64 0, .int .i64 0, .int .i64 0, .int .i64 0, .int .i64 0, .int .i64 0, .int .i64 0, .int .i64 0, .int .i64 0, .int .i64 0, .int .i64 0, .int .i64 0, .int .i64 0, .int .i64 0, .int .i64 0, .int .i64 0, .int .i64 0] 104 (0, 0)) ∧ Below w.heap.size w wr) (fun c _ => (17 - intOf c).toNat)
  case atStart => exact ⟨0, by omega, by simp, hA1.out, hR1.out, hB1.out⟩
  case round =>
    obtain ⟨p, hp, rfl, hA, hR, hB⟩ := hrel
    clear hA1 hR1 hB1
    have HA := Aside0.mk hA
    have HR := Aside0.mk hR
    have HB := Aside0.mk hB
    clear hR hB
    by_cases hlt : p < 16
    · have hfr := fun o => blk_frozen hA o
      have c0 : wr.cell? ⟨w.heap.size + 1, (2 + (p + 1)) * 2, none⟩ = some ((spanK p)[(2 + (p + 1)) * 2]'(by rw [spanK_size]; omega)) := by rw [blk_cell hA, Array.getElem?_eq_getElem]
      have c1 : wr.cell? ⟨w.heap.size + 1, (2 + (p + 1)) * 2 + 1, none⟩ = some ((spanK p)[(2 + (p + 1)) * 2 + 1]'(by rw [spanK_size]; omega)) := by rw [blk_cell hA, Array.getElem?_eq_getElem]
      clear hA
      go_wp2_with fail
      go_roundw
      case rel =>
        refine ⟨p + 1, by omega, by go_num, ?_, blk_far (blk_far HR.out (by simp) _) (by simp) _, (HB.out.setCell (p := ⟨w.heap.size + 1, (2 + (p + 1)) * 2, none⟩) (Nat.le_succ _) _).setCell (p := ⟨w.heap.size + 1, (2 + (p + 1)) * 2 + 1, none⟩) (Nat.le_succ _) _⟩
        rw [← spanK_step p hlt]
        exact blk_put (blk_put HA.out _ _ rfl) _ _ rfl
      case measure => simp [intOf]; omega
    · obtain rfl : p = 16 := by omega
      have hfr := fun o => blk_frozen hA o
      have c0 : wr.cell? ⟨w.heap.size + 1, 32, none⟩ = some ((spanK 16)[32]'(by rw [spanK_size]; omega)) := by rw [blk_cell hA, Array.getElem?_eq_getElem]
      clear hA
      go_upto_region 7 with (fail)
      have HA1 := blk_put HA.out 32 (.int .i64 921600) rfl
      have HR1 := Aside0.mk (blk_far HR.out (p := ⟨w.heap.size + 1, 32, none⟩) (by simp) (.int .i64 921600))
      have HB1 := Aside0.mk (HB.out.setCell (p := ⟨w.heap.size + 1, 32, none⟩) (Nat.le_succ _) (.int .i64 921600))
      have hrange := Aside0.mk (range_blk HA1)
      rw [spanK_last] at hrange
      clear HA1 HA HR HB hfr c0
      generalize wr.setCell ⟨w.heap.size + 1, 32, none⟩ (.int .i64 921600) = W3 at *
      go_step
      refine wpList_load_mid (P := Try.prog) rfl 104 (.tmp 1) rfl (w.heap.size + 1) 0 rfl spanCells _ hrange.out Try.underlying104 rfl info104 ?_
      refine wpList_store_mid (P := Try.prog) rfl 104 (.tmp 0) (.tmp 22) rfl w.heap.size 0 spanCells.toArray rfl rfl (there_blk HR1.out (Nat.le_refl _)) info104 (by first | kernel_rfl | decide | simp [Value.oneCell']) ?_
      have hF := Aside0.mk (blk_setAll HR1.out spanCells rfl)
      have hBF := Aside0.mk (below_setAll (n := w.heap.size) (a := w) (B := w.heap.size) (Nat.le_refl _) spanCells 0 HB1.out)
      generalize W3.setCells w.heap.size 0 spanCells.toArray.toList = W4 at *
      go_wp2
      refine bodyPost_ret (results_c1 rfl _ _ w.heap.size 104 spanCells.toArray (0, 0) _ rfl hF.out Try.underlying104 rfl info104) rfl ⟨rfl, hBF.out⟩
/-- Does one of the ranges meet one? -/
def meetsL (l : List (Int × Int)) (lo hi : Int) : Bool := l.any fun p => decide (lo ≤ p.2) && decide (p.1 ≤ hi)
set_option maxRecDepth 100000 in
theorem index_span (w : World) (k : Nat) (h : k < 19) : (Instr.index 104 (.agg spanCells.toArray) (.int .i64 k)).run Try.prog w = .ok (.agg #[.int .i64 (spanL[k]'h).1, .int .i64 (spanL[k]'h).2]) w := by
  have : k = 0 ∨ k = 1 ∨ k = 2 ∨ k = 3 ∨ k = 4 ∨ k = 5 ∨ k = 6 ∨ k = 7 ∨ k = 8 ∨ k = 9 ∨ k = 10 ∨ k = 11 ∨ k = 12 ∨ k = 13 ∨ k = 14 ∨ k = 15 ∨ k = 16 ∨ k = 17 ∨ k = 18 := by omega
  rcases this with rfl | rfl | rfl | rfl | rfl | rfl | rfl | rfl | rfl | rfl | rfl | rfl | rfl | rfl | rfl | rfl | rfl | rfl | rfl <;> first | (show _ = _; kernel_rfl) | rfl
theorem meetsL_drop (lo hi : Int) (k : Nat) (h : k < 19) : meetsL (spanL.drop k) lo hi = ((decide (lo ≤ (spanL[k]'h).2) && decide ((spanL[k]'h).1 ≤ hi)) || meetsL (spanL.drop (k + 1)) lo hi) := by
  unfold meetsL; rw [List.drop_eq_getElem_cons h, List.any_cons]
set_option maxHeartbeats 4000000 in
set_option maxRecDepth 100000 in
theorem meets_any (lo hi : Int) (w : World) : Calls Try.prog 91 #[.int .i64 lo, .int .i64 hi] w fun e w' => e = .returned (.bool (meetsL spanL lo hi)) ∧ Below w.heap.size w w' := by
  go_enter Try.func91, Try.ntmps91
  go_wp2_with fail
  refine (spans_any _).mono ?_
  rintro e w1 ⟨rfl, hb⟩
  have HB := Aside0.mk hb
  clear hb
  generalize hsc : spanCells.toArray = SC
  have HSC := Aside0.mk hsc
  clear hsc
  go_wp2_with fail
  go_loopw [8] (fun c wr => ∃ k : Nat, k ≤ 19 ∧ c = .int .i64 k ∧ Below w.heap.size w wr ∧ Aside0 (meetsL spanL lo hi = meetsL (spanL.drop k) lo hi)) (fun c _ => (19 - intOf c).toNat)
  case atStart => exact ⟨0, by omega, by simp, HB.out, ⟨rfl⟩⟩
  case round =>
    obtain ⟨k, hk, rfl, hb, HI⟩ := hrel
    clear HB
    have HB := Aside0.mk hb
    clear hb
    by_cases hlt : k < 19
    · have hx := index_span wr k hlt
      rw [HSC.out] at hx
      have HI1 := Aside0.mk (HI.out.trans (meetsL_drop lo hi k hlt))
      clear HI
      obtain ⟨a, ha⟩ : ∃ a, a = (spanL[k]'hlt).1 := ⟨_, rfl⟩
      obtain ⟨b, hb⟩ : ∃ b, b = (spanL[k]'hlt).2 := ⟨_, rfl⟩
      rw [← ha, ← hb] at hx HI1
      clear ha hb
      by_cases h1 : lo ≤ b
      · by_cases h2 : a ≤ hi
        · have HV := Aside0.mk (show meetsL spanL lo hi = true by rw [HI1.out, decide_eq_true h1, decide_eq_true h2]; rfl)
          go_wp2_with fail
          go_ret
          exact ⟨by rw [HV.out]; rfl, below_alloc HB.out _⟩
        · have HV := Aside0.mk (show meetsL spanL lo hi = meetsL (spanL.drop (k + 1)) lo hi by rw [HI1.out, decide_eq_true h1, decide_eq_false h2]; rfl)
          go_wp2_with fail
          go_roundw
          case rel => exact ⟨k + 1, by omega, by go_num, below_alloc HB.out _, HV⟩
          case measure => simp [intOf]; omega
      · have HV := Aside0.mk (show meetsL spanL lo hi = meetsL (spanL.drop (k + 1)) lo hi by rw [HI1.out, decide_eq_false h1]; rfl)
        go_wp2_with fail
        go_roundw
        case rel => exact ⟨k + 1, by omega, by go_num, below_alloc HB.out _, HV⟩
        case measure => simp [intOf]; omega
    · have HV := Aside0.mk (show meetsL spanL lo hi = false by rw [HI.out, List.drop_eq_nil_of_le (by show 19 ≤ k; omega)]; rfl)
      go_wp2_with fail
      go_ret
      exact ⟨by rw [HV.out]; rfl, HB.out⟩
theorem ucsMay_any (c : Int) (w : World) : Calls Try.prog 79 #[.int .i64 c] w fun e w' => e = .returned (.bool (meetsL spanL c c)) ∧ Below w.heap.size w w' := by
  go_enter Try.func79, Try.ntmps79
  go_wp2_with fail
  refine (meets_any c c _).mono ?_
  rintro e w1 ⟨rfl, hb⟩
  have HB := Aside0.mk hb
  clear hb
  go_wp2_with fail
  go_ret
  exact ⟨rfl, HB.out⟩
end Go.Proofs.Ytjhihohofhhknaa.X
