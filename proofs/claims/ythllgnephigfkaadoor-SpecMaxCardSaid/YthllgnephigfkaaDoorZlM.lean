/- SpecMax: what the printed law comes to. -/
import Derived.Test.YthllgnephigfkaaDoorZkM
import Derived.Test.YthllgnephigfkaaDoorPMx4
namespace Go.Proofs.YthllgnephigfkaaDoor.PM
set_option linter.unusedSimpArgs false
set_option linter.unusedVariables false
open Go.RowKit Go.Proofs.YthllgnephigfkaaDoorW.PrintWords Go.Proofs.YthllgnephigfkaaDoorW.PrintLast Y
/-- A figure more behind a prefix's. -/
theorem fig_more (l : List Int) (h : figL 7 l = l.length) (h1 : 1 ≤ l.length) (h4 : l.length ≤ 4) : figL 7 (l ++ [48]) = if l.length ≤ 3 then l.length + 1 else l.length := by
  have h5 : finL sS 7 l ≠ 5 := (live_fin sS sS_dead l 7 (by decide)).1 (by rw [← figL_live]; exact h)
  have hf : finL sS 7 l = 7 + l.length := by
    rcases fin_dig l 7 (.inl rfl) with h' | ⟨_, _, h'⟩
    · exact absurd h' h5
    · exact h'
  rw [figL_live, live_append sS sS_dead l [48] 7 (by decide) h5, hf]
  split
  · rw [show liveL sS (7 + l.length) [48] = 1 from by
      unfold liveL
      rw [stn (by omega) (show (48 : Int) ≤ 48 ∧ (48 : Int) ≤ 57 by decide), if_neg (by omega)]; rfl]
  · rw [show liveL sS (7 + l.length) [48] = 0 from by
      unfold liveL
      rw [show 7 + l.length = 11 from by omega, show sS 11 48 = 5 from by decide, if_pos rfl]]
    rfl
theorem SpecMax_pure (nm : ByteArray) (c : Int) (hc : 0 ≤ c ∧ c ≤ 65535) : ∃ k, phalaropelaw06_SpecMax.f k nm c = some true := by
  refine ⟨bigK, ?_⟩
  obtain ⟨k, hk⟩ : ∃ k, bigK = k + 1 := ⟨bigK - 1, by unfold bigK; rfl⟩
  have up : ∀ b, b = true → phalaropelaw06_SpecMax.j0 bigK nm c true b = some true := fun b hb => by
    rw [hk]; simp only [phalaropelaw06_SpecMax.j0]; rw [if_pos hb]
  unfold phalaropelaw06_SpecMax.f
  rw [awake06_f]
  simp only [Option.bind_some]
  by_cases h1 : (nm.size : Int) > 200
  · rw [if_pos h1]; exact up true rfl
  rw [if_neg h1, rname_f nm bigK (by unfold bigK; omega)]
  simp only [Option.bind_some]
  cases hm : nameMay nm with
  | false => exact up _ rfl
  | true =>
    rw [hk]
    simp only [phalaropelaw06_SpecMax.j0, Bool.not_true, Bool.false_eq_true, if_false, if_true]
    have hw : wrap64 c = c := w64 c (by omega) (by omega)
    have hn2 : wrap64 ((nm.size : Int) + 2) = (nm.size : Int) + 2 := w64 _ (by omega) (by omega)
    have hn1 : wrap64 ((nm.size : Int) + 1) = ((nm.size + 1 : Nat) : Int) := w64 _ (by omega) (by omega)
    rw [hw, put_f nm c false (by omega), spec_f nm c false (by omega), hn2, hn1]
    simp only [Option.bind_some]
    by_cases h9 : c > 9999
    · have hb : specB nm c false = false := by unfold specB; rw [hm]; simp; omega
      have hp : putS nm c false = ⟨#[]⟩ := by unfold putS; rw [hb]; rfl
      rw [if_pos h9, hp, hb]
      rw [if_pos (show (⟨#[]⟩ : ByteArray).toList = [] from by rw [ByteArray.toList_eq])]
      rfl
    rw [if_neg h9]
    by_cases h0 : c = 0
    · have hp : putS nm c false = nm := by unfold putS specB; rw [hm, h0]; simp
      rw [if_pos h0, hp]
      simp
    rw [if_neg h0]
    obtain ⟨j, rfl⟩ : ∃ j : Nat, c = (j : Int) := ⟨c.toNat, by omega⟩
    have hp : putS nm (j : Int) false = nm ++ prefS j := by
      unfold putS specB
      rw [hm, if_pos (by simp; omega), if_neg (by decide), if_pos (by omega), Int.toNat_natCast]
    obtain ⟨a1, a2, a3, a4, a5⟩ := digs_all j (by omega) (by omega)
    have hbp := bs_pref j (by omega)
    have hps : (prefS j).size = 1 + (digs j).length := by rw [← bs_length, hbp]; simp; omega
    have hsz : (nm ++ prefS j).size = nm.size + (1 + (digs j).length) := by rw [size_append', hps]
    have he2 : (⟨#[58, 48]⟩ : ByteArray).size = 2 := rfl
    have he1 : (⟨#[48]⟩ : ByteArray).size = 1 := rfl
    have hx : (nm ++ ⟨#[58, 48]⟩) ++ (nm ++ prefS j).extract (nm.size + 1) (nm ++ prefS j).size = nm ++ (⟨#[58, 48]⟩ ++ ⟨(Lib.itoa (j : Int)).toArray⟩) := by
      refine bs_inj ?_
      rw [bs_append, bs_append, bs_extract, bs_append, hbp, bs_append, bs_append, itoa_digs j (by omega), List.append_assoc]
      congr 2
      rw [show nm.size + 1 = (bs nm).length + 1 from by rw [bs_length], List.drop_length_add_append]
      rfl
    have hxl : ((nm ++ prefS j).extract (nm.size + 1) (nm ++ prefS j).size).size ≤ 5 := by rw [ByteArray.size_extract, hsz]; omega
    have hy : (nm ++ prefS j) ++ ⟨#[48]⟩ = nm ++ (prefS j ++ ⟨#[48]⟩) := bs_inj (by simp only [bs_append, List.append_assoc])
    have hby : bs (prefS j ++ ⟨#[48]⟩) = 58 :: (digs j ++ [48]) := by rw [bs_append, hbp]; rfl
    have hbx : bs (⟨#[58, 48]⟩ ++ ⟨(Lib.itoa (j : Int)).toArray⟩ : ByteArray) = 58 :: 48 :: digs j := by rw [bs_append, itoa_digs j (by omega)]; rfl
    have hf0 : figL 7 (48 :: digs j) = 0 := by unfold figL; rw [show sS 7 48 = 5 from by decide, if_pos rfl]
    have t1 := name_take nm (⟨#[58, 48]⟩ ++ ⟨(Lib.itoa (j : Int)).toArray⟩) hm (by rw [hbx]; unfold liveL; rw [nS_58, if_pos rfl])
    have hbh : behN (58 :: 48 :: digs j) = (1, false) := by rw [behN_58, hf0]; rfl
    rw [hbx, hbh, if_neg (by decide)] at t1
    have t2 := name_take nm (prefS j ++ ⟨#[48]⟩) hm (by rw [hby]; unfold liveL; rw [nS_58, if_pos rfl])
    have hbg := behN_58 (digs j ++ [48])
    rw [fig_more _ a1 a3 a5] at hbg
    rw [hp, if_neg (by rw [hsz]; omega), if_pos (by omega), if_pos (by omega), if_pos (by rw [hsz]; omega), Int.toNat_natCast, if_pos (by rw [size_append', he2]; omega), hx,
      take_f _ (by rw [size_append', size_append', he2]; have := itoa_len j (by omega) (by omega); omega)]
    simp only [Option.bind_some]
    rw [if_pos (by rw [hsz]; omega), hy, take_f _ (by rw [size_append', size_append', he1]; omega), t1, t2, hby, hbg]
    simp only [Option.bind_some, if_true]
    have hlen : (digs j ++ [48]).length = (digs j).length + 1 := by simp
    by_cases h3 : (digs j).length ≤ 3
    · have hj : j < 1000 := a4.1 h3
      have ho : (decide (0 < (if (digs j).length ≤ 3 then (digs j).length + 1 else (digs j).length)) && ((if (digs j).length ≤ 3 then (digs j).length + 1 else (digs j).length) == (digs j ++ [48]).length)) = true := by rw [if_pos h3, hlen]; simp
      rw [ho]
      simp only [if_true]
      rw [if_pos (by omega)]
    · have hj : ¬ j < 1000 := fun h => h3 (a4.2 h)
      have ho : (decide (0 < (if (digs j).length ≤ 3 then (digs j).length + 1 else (digs j).length)) && ((if (digs j).length ≤ 3 then (digs j).length + 1 else (digs j).length) == (digs j ++ [48]).length)) = false := by rw [if_neg h3, hlen]; simp
      rw [ho, if_neg h3]
      simp only [Bool.false_eq_true, if_false]
      rw [if_neg (by omega), if_pos (by omega)]
      simp only [if_true]
      rw [hsz]
      congr 1
      exact beq_iff_eq.2 (by omega)
theorem SpecMax_walk {s : ByteArray} {c : Int} (w : World) (hG : X.Gl w) (hc : (Lit.int .u16 c).wf = true) : Calls Tryd.prog 5 #[.string s, .int .u16 c] w fun e w' => e = .returned (.bool true) ∧ Below w.heap.size w w' := by
  obtain ⟨k, hk⟩ := SpecMax_pure s c (u16_range hc)
  exact phalaropelaw06_SpecMax.calls k s c true w hk hG
end Go.Proofs.YthllgnephigfkaaDoor.PM
