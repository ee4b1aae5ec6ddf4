/- Walk: undertonelaw05.TokenNames. -/
import Derived.Test.YtkcmmcgbkihpfaaDoorL5a
set_option linter.unusedSimpArgs false
set_option linter.unusedVariables false
namespace Go.Proofs.YtkcmmcgbkihpfaaDoor
open Go.RowKit Go.Sort

theorem tok_eq {k t : Int} (h1 : 1 ≤ k) (h7 : k ≤ 7) (g1 : 1 ≤ t) (g7 : t ≤ 7) : ((tokName k).toList == (tokName t).toList) = (k == t) := by
  have hk : k = 1 ∨ k = 2 ∨ k = 3 ∨ k = 4 ∨ k = 5 ∨ k = 6 ∨ k = 7 := by omega
  have ht : t = 1 ∨ t = 2 ∨ t = 3 ∨ t = 4 ∨ t = 5 ∨ t = 6 ∨ t = 7 := by omega
  rcases hk with rfl | rfl | rfl | rfl | rfl | rfl | rfl <;> rcases ht with rfl | rfl | rfl | rfl | rfl | rfl | rfl <;> decide +kernel
theorem tok_good {t : Int} (g1 : 1 ≤ t) (g7 : t ≤ 7) : ((tokName t).toList == [63]) = false := by
  have ht : t = 1 ∨ t = 2 ∨ t = 3 ∨ t = 4 ∨ t = 5 ∨ t = 6 ∨ t = 7 := by omega
  rcases ht with rfl | rfl | rfl | rfl | rfl | rfl | rfl <;> decide +kernel

set_option maxRecDepth 100000 in
set_option maxHeartbeats 2000000 in
theorem tokenNames_any (t : Int) (w : World) (hE : w.ShapedOpen Tryd.prog) :
    Calls Tryd.prog 3 #[.int .i64 t] w fun e w' => e = .returned (.bool true) ∧ Bl w w' := by
  go_enter Tryd.func3, Tryd.ntmps3
  go_wp2_with fail
  refine (name_any t w).mono ?_
  rintro e w1 ⟨rfl, hb1⟩
  by_cases hbad : t < 1 ∨ 7 < t
  · have HT := Lib.hid (show tokName t = ⟨#[63]⟩ from tokName_bad.2 (by simp only [badTok, Bool.or_eq_true, decide_eq_true_eq]; exact hbad))
    have hb : (decide (t < 1) || decide (7 < t)) = true := by simpa using hbad
    rw [HT.out]
    have d1 : (decide (t < 1) || decide (7 < t)) = true := hb
    by_cases h1 : t < 1
    · have e1 : decide (t < 1) = true := by simpa using h1
      go_wp2_with fail
      refine (awake5_any w1 (shaped_bl hE hb1)).mono ?_
      rintro e w3 ⟨rfl, hb3⟩
      go_wp2
      exact bodyPost_ret (v := .bool true) (by simp [results, Tryd.results3, go_sem]) rfl ⟨rfl, hb1.trans hb3⟩
    · have e1 : decide (t < 1) = false := by simpa using h1
      have e2 : decide (7 < t) = true := by simp; omega
      go_wp2_with fail
      refine (awake5_any w1 (shaped_bl hE hb1)).mono ?_
      rintro e w3 ⟨rfl, hb3⟩
      go_wp2
      exact bodyPost_ret (v := .bool true) (by simp [results, Tryd.results3, go_sem]) rfl ⟨rfl, hb1.trans hb3⟩
  · have g1 : 1 ≤ t := by omega
    have g7 : t ≤ 7 := by omega
    have hg := tok_good g1 g7
    have d1 : decide (t < 1) = false := by simp; omega
    have d2 : decide (7 < t) = false := by simp; omega
    go_wp2_with fail
    go_loopw [4] (fun i wr => ∃ k : Nat, 1 ≤ k ∧ k ≤ 8 ∧ i = .int .i64 k ∧ Bl w wr) (fun i _ => 8 - (intOf i).toNat)
    case atStart => exact ⟨1, by omega, by omega, rfl, hb1⟩
    case round =>
      obtain ⟨k, hk1, hk8, rfl, hbr⟩ := hrel
      by_cases hk : k < 8
      · go_wp2_with fail
        refine (name_any k wr).mono ?_
        rintro e w2 ⟨rfl, hb2⟩
        have hte := tok_eq (k := k) (t := t) (by omega) (by omega) g1 g7
        go_wp2
        go_roundw
        case rel => exact ⟨k + 1, by omega, by omega, by go_num, hbr.trans hb2⟩
        case measure => simp [intOf]; omega
      · obtain rfl : k = 8 := by omega
        have hs3 := tok_size t
        have hs1 := tok_pos t
        go_wp2_with fail
        refine (awake5_any wr (shaped_bl hE hbr)).mono ?_
        rintro e w3 ⟨rfl, hb3⟩
        go_wp2
        exact bodyPost_ret (v := .bool true) (by simp [results, Tryd.results3, go_sem]) rfl ⟨rfl, hbr.trans hb3⟩
end Go.Proofs.YtkcmmcgbkihpfaaDoor
