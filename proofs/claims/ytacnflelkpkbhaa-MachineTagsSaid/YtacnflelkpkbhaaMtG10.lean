/- Texts of this claim, those that nothing needs left out: Zmc. -/
import Derived.RangeFuncNested
import Derived.Stop.RegionWithIn
import Derived.Test.YtacnflelkpkbhaaMtG9
import Derived.Test.YtacnflelkpkbhaaMtG5
section
namespace Go.Proofs.Ytacnflelkpkbhaa.PA
set_option linter.unusedSimpArgs false
set_option linter.unusedVariables false
open Go.RowKit Go.Shelf Go.Maps Go.Proofs.YtacnflelkpkbhaaW.PrintWords Go.Proofs.YtacnflelkpkbhaaW.PrintLast
attribute [local go_sem] Oper.semAt_some
def eflat (l : List S48) : List Value := l.flatMap ecs
theorem eflat_len (l : List S48) : (eflat l).length = 3 * l.length := by
  induction l with
  | nil => rfl
  | cons x r ih =>
    unfold eflat at *
    rw [List.flatMap_cons, List.length_append, ih, List.length_cons]
    simp only [ecs, List.length_cons, List.length_nil]
    omega
theorem eflat_snoc (l : List S48) (x : S48) : eflat (l ++ [x]) = eflat l ++ ecs x := by simp [eflat]
theorem vals_stops (F : Fence) (n : Nat) (hf : F.fn 46) (hro : F.round = none) (hn : 1 ≤ n) (B0 Bs : Nat) (A : Option Addr) (c : Nat) (xs : List S48) (hx : xs.length ≤ 1000000) (w : World) (hB0 : B0 ≤ w.heap.size) (hBs : Bs < B0)
    (hbs : w.heap[Bs]? = some (.cells #[.slice A xs.length c] 31 (0, 0))) (hrow : ∀ W', Below B0 w W' → Kd.C k48 W' A xs.length xs) :
    SeqStopsK F n Try.prog 46 #[.pointer (some ⟨Bs, 0, none⟩)] (fun x : S48 => #[eagg x]) (Below B0) (fun ys => ys = xs) (fun _ => True) xs.length w := fun l J Jx W hW hJ hJx hY h0 => by
  have hW0 : Below B0 w W := hW.mono hB0
  refine (valIter_in F n hf hro hn l B0 Bs A c xs hx J Jx W (Nat.le_trans hB0 hW.size) hBs (blk_below hbs hW) (fun W' hb => hrow W' (hW0.trans hb)) (fun pre W1 W2 h hb hs => hJ pre W1 W2 none h (grown_of_below hb none) (fun r e => by cases e)) hY h0).mono ?_
  rintro e W' ⟨h1, h2 | ⟨pre, h2⟩⟩
  · exact ⟨h1, .inl ⟨xs, rfl, h2⟩⟩
  · exact ⟨h1, .inr ⟨pre, trivial, h2⟩⟩
theorem cells3 {w : World} {B : Nat} {a b c : Value} {t : TypeId} (h : w.heap[B]? = some (.cells #[a, b, c] t (0, 0))) :
    w.cell? ⟨B, 0, none⟩ = some a ∧ w.cell? ⟨B, 1, none⟩ = some b ∧ w.cell? ⟨B, 2, none⟩ = some c := by
  refine ⟨?_, ?_, ?_⟩ <;> simp [blk_cell h]
theorem cells_new3 (w : World) (a b c : Value) (t : TypeId) : ∀ j u, ([a, b, c] : List Value)[j]? = some u → (w.alloc (.cells #[a, b, c] t)).cell? ((⟨w.heap.size, 0, none⟩ : Addr).add j) = some u := by
  intro j u h
  have hb := blk_new w (.cells #[a, b, c] t)
  have h3 := cells3 hb
  match j, h with
  | 0, h => cases h; exact h3.1
  | 1, h => cases h; exact h3.2.1
  | 2, h => cases h; exact h3.2.2
theorem infoE : (Try.prog.info? 48).map (fun i => (i.zero, i.size, i.bytes)) = some (some (.agg #[.int .u8 0, .int .u8 0, .int .i64 0]), 3, 16) := by kernel_rfl
def AppI (w : World) (pre : List S48) (W : World) : Prop :=
  (∃ v, Boxed W w.heap.size 31 v ∧ W.ownsRow w.heap.size 48 3 v pre.length (eflat pre) ∧ True) ∧ Below w.heap.size w W
theorem AppI_own (w : World) : OwnFrom (w.heap.size + 1) (AppI w) :=
  OwnFrom.and (Own.from (holdsRow_own w.heap.size w.heap.size 31 48 3 (fun pre : List S48 => pre.length) (fun pre : List S48 => eflat pre) (fun pre v => True)) _) (ownFrom_below (Nat.le_refl _) (by omega))
set_option maxRecDepth 100000 in
set_option maxHeartbeats 8000000 in
theorem appendE_in (F : Fence) (n : Nat) (hs : F.fn 50) (hf : F.fn 46) (hro : F.round = none) (hn : 3 ≤ n) (Bs : Nat) (A : Option Addr) (c : Nat) (xs : List S48) (hx : xs.length ≤ 1000000) (w : World) (hBs : Bs < w.heap.size)
    (hbs : w.heap[Bs]? = some (.cells #[.slice A xs.length c] 31 (0, 0))) (hrow : ∀ W', Below w.heap.size w W' → Kd.C k48 W' A xs.length xs) :
    CallsIn F n Try.prog 50 #[.slice none 0 0, .func (.func 46) #[] #[.pointer (some ⟨Bs, 0, none⟩)]] w fun e W' =>
      ∃ v, e = .returned v ∧ W'.ownsRow w.heap.size 48 3 v xs.length (eflat xs) ∧ Below w.heap.size w W' := by
  have h1 : 1 ≤ n := by omega
  obtain ⟨i0, hi, hz0, hz1, hz2⟩ := info_parts infoE
  refine callsIn_of_wp_marks Try.func50 rfl hs ?_ hro
  simp only [Try.ntmps50, List.size_toArray, List.length_cons, List.length_nil, Nat.reduceAdd, Nat.reduceSub, Array.replicate_succ, Array.replicate_zero, List.push_toArray, List.append_toArray, List.nil_append, List.cons_append]
  gi_wp2
  have bO := Boxed.new w 31 (.slice none 0 0)
  have hB0 : Below w.heap.size w (w.alloc (.cells #[.slice none 0 0] 31)) := (Below.refl _ w).alloc (Nat.le_refl _) _
  have hsz : (w.alloc (.cells #[.slice none 0 0] 31)).heap.size = w.heap.size + 1 := X.size_alloc1 _ _
  have hbs1 : (w.alloc (.cells #[.slice none 0 0] 31)).heap[Bs]? = some (.cells #[.slice A xs.length c] 31 (0, 0)) := blk_alloc hbs _
  have hI0 : AppI w [] (w.alloc (.cells #[.slice none 0 0] 31)) := ⟨⟨_, bO, World.ownsRow_nil _ _ _ _, trivial⟩, hB0⟩
  have hrow1 : ∀ W', Below w.heap.size (w.alloc (.cells #[.slice none 0 0] 31)) W' → Kd.C k48 W' A xs.length xs := fun W' hb => hrow W' (hB0.trans hb)
  generalize hWB : w.alloc (.cells #[.slice none 0 0] 31) = WB at hB0 hsz hbs1 hI0 hrow1 ⊢
  clear hWB bO
  refine wpIn_rangeFunc_ownH hro h1 (gf := 46) (lb := #[.pointer (some ⟨Bs, 0, none⟩)]) rfl hf (enters_of Try.func46 (by kernel_rfl) rfl)
    (vals_stops F (n - 1) hf hro (by omega) w.heap.size Bs A c xs hx WB (by omega) hBs hbs1 hrow1)
    (fun h k => h.trans k) ?keepsB (Below.refl _ _) (fun _ => rfl) (AppI w) (fun _ _ _ => False) (by rw [hsz]; exact AppI_own w) (fun _ _ _ _ _ hs _ _ => hs) hI0
    (fun x a' W' => ∃ bx, W'.heap[bx]? = some (.cells #[.int .u8 x.f0, .int .u8 x.f1, .int .i64 x.f2] 48 (0, 0)) ∧ ∃ t7, a' = { tmps := #[.slice none 0 0, .func (.func 46) #[] #[.pointer (some ⟨Bs, 0, none⟩)], .pointer (some ⟨w.heap.size, 0, none⟩), undef, .slice none 0 0, .pointer (some ⟨bx, 0, none⟩), .func (.func 46) #[] #[.pointer (some ⟨Bs, 0, none⟩)], t7, undef, undef, undef, undef, undef], defers := [] }) ?ownA ?assign ?body ?done ?stop
  case keepsB =>
    intro W l o o' hl ho hc hw
    exact (Below.refl _ W).grown (grownBy_putObj' W l o') (by have := blk_lt ho; omega) (fun k e => by cases e; omega)
  case ownA =>
    rintro x a' _ W W' row ⟨bx, hbx, ha⟩ hg hr
    exact ⟨bx, (hg.block _ (blk_lt hbx) (fun e => by obtain ⟨o, ho, hc⟩ := (hr _ e.symm).2; rw [hbx] at ho; cases ho; cases hc)).trans hbx, ha⟩
  case stop =>
    rintro D c' pre W _ _ h _
    exact h.elim
  case assign =>
    intro l pre x W K hI hK
    unfold eagg
    gi_wp2
    have hg := World.grownBy_alloc W (.cells #[.int .u8 x.f0, .int .u8 x.f1, .int .i64 x.f2] 48) none
    exact hK _ _ (.of_grownBy hg (fun j e => by cases e)) ((Below.refl _ W).grown hg hI.2.size (fun k e => by cases e)) (AppI_own w pre W _ none hI hg (fun r e => by cases e)) ⟨_, blk_new _ _, _, rfl⟩
  case body =>
    rintro l pre x a' W hl hr ⟨⟨v, hv, hrw, _⟩, hB⟩ ⟨bx, hbb, t7, rfl⟩ hlt
    have hc := hv.cell
    have hb3 := cells3 hbb
    gi_wp2_with (gi_at_builtin; refine wpListIn_append_own _ rfl _ _ 31 rfl w.heap.size 48 i0 (.agg #[.int .u8 0, .int .u8 0, .int .i64 0]) 3 16 Try.underlying31 hi hz0 hz1 hz2 rfl (by decide) _ _ _ rfl (hrw.alloc _) ⟨W.heap.size, 0, none⟩ 1 1 [.int .u8 x.f0, .int .u8 x.f1, .int .i64 x.f2] rfl rfl (cells_new3 _ _ _ _ _) (by simp [Value.oneCell']) (by unfold maxLen; omega) (by omega) (by have := hB.size; simp; omega) ?_; intro v' w1 hown' hgrow _; obtain ⟨g', cap', rfl⟩ := ownsRow_succ hown'; obtain ⟨hv1, hv2, hr2, hk2, hb2⟩ := hv.appended (by decide) hrw hB.size (Nat.le_refl _) hown' hgrow; have hc1 := hv1.cell; have hf1 := hv1.frozen)
    exact ⟨hk2.from _, hb2, ⟨_, hv2, by rw [eflat_snoc, List.length_append]; exact hr2, trivial⟩, hB.trans hb2⟩
  case done =>
    rintro D ys W hD rfl ⟨⟨v, hv, hrw, _⟩, hB⟩ hK
    have hc := hv.cell
    gi_wp2
    refine ⟨by simp, .inl ⟨_, _, rfl, run_takeDeferred hK, ?_⟩⟩
    exact ⟨_, results_tmp rfl _ _ _, v, rfl, ownsRow_putObj hrw _ hK rfl, hB.trans (belowK_b (w := w) (Nat.le_refl _) W D _ _ (by omega) hK rfl rfl)⟩
theorem appendE (Bs : Nat) (A : Option Addr) (c : Nat) (xs : List S48) (hx : xs.length ≤ 1000000) (w : World) (hBs : Bs < w.heap.size)
    (hbs : w.heap[Bs]? = some (.cells #[.slice A xs.length c] 31 (0, 0))) (hrow : ∀ W', Below w.heap.size w W' → Kd.C k48 W' A xs.length xs) :
    Calls Try.prog 50 #[.slice none 0 0, .func (.func 46) #[] #[.pointer (some ⟨Bs, 0, none⟩)]] w fun e W' =>
      ∃ v, e = .returned v ∧ W'.ownsRow w.heap.size 48 3 v xs.length (eflat xs) ∧ Below w.heap.size w W' :=
  (callsIn_wide (n := 6)).1 (appendE_in Fence.wide 6 trivial trivial rfl (by omega) Bs A c xs hx w hBs hbs hrow)
theorem collectE (Bs : Nat) (A : Option Addr) (c : Nat) (xs : List S48) (hx : xs.length ≤ 1000000) (w : World) (hBs : Bs < w.heap.size)
    (hbs : w.heap[Bs]? = some (.cells #[.slice A xs.length c] 31 (0, 0))) (hrow : ∀ W', Below w.heap.size w W' → Kd.C k48 W' A xs.length xs) :
    Calls Try.prog 44 #[.func (.func 46) #[] #[.pointer (some ⟨Bs, 0, none⟩)]] w fun e W' =>
      ∃ v, e = .returned v ∧ W'.ownsRow w.heap.size 48 3 v xs.length (eflat xs) ∧ Below w.heap.size w W' := by
  have HC := Aside0.mk (appendE Bs A c xs hx w hBs hbs hrow)
  clear hbs hrow
  go_enter Try.func44, Try.ntmps44
  go_wp2_with fail
  refine HC.out.mono ?_
  rintro e w1 ⟨v, rfl, h1, h2⟩
  go_wp2_with fail
  go_ret
  exact ⟨v, rfl, h1, h2⟩
end Go.Proofs.Ytacnflelkpkbhaa.PA
end
