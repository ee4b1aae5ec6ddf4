/- Walks: token.Name, arrows, token.line, token.Print. -/
import Derived.Test.YtelloecgdiocoaaDoorLib
import Derived.Test.YtelloecgdiocoaaDoorW4
import Derived.Test.YtelloecgdiocoaaDoorW6
import Derived.Lib.QuietBelow
set_option linter.unusedSimpArgs false
set_option linter.unusedVariables false
namespace Go.Proofs.YtelloecgdiocoaaDoor
open Go.RowKit Go.Sort

theorem nameIdx0 (w : World) : (Instr.index 125 namesVal (.int .i64 0)).run Tryd.prog w = .ok (.string ⟨#[63]⟩) w := by kernel_rfl
theorem nameIdx1 (w : World) : (Instr.index 125 namesVal (.int .i64 1)).run Tryd.prog w = .ok (.string ⟨#[101]⟩) w := by kernel_rfl
theorem nameIdx2 (w : World) : (Instr.index 125 namesVal (.int .i64 2)).run Tryd.prog w = .ok (.string ⟨#[115]⟩) w := by kernel_rfl
theorem nameIdx3 (w : World) : (Instr.index 125 namesVal (.int .i64 3)).run Tryd.prog w = .ok (.string ⟨#[101, 101]⟩) w := by kernel_rfl
theorem nameIdx4 (w : World) : (Instr.index 125 namesVal (.int .i64 4)).run Tryd.prog w = .ok (.string ⟨#[101, 115]⟩) w := by kernel_rfl
theorem nameIdx5 (w : World) : (Instr.index 125 namesVal (.int .i64 5)).run Tryd.prog w = .ok (.string ⟨#[115, 101]⟩) w := by kernel_rfl
theorem nameIdx6 (w : World) : (Instr.index 125 namesVal (.int .i64 6)).run Tryd.prog w = .ok (.string ⟨#[115, 115]⟩) w := by kernel_rfl
theorem nameIdx7 (w : World) : (Instr.index 125 namesVal (.int .i64 7)).run Tryd.prog w = .ok (.string ⟨#[112, 115, 107]⟩) w := by kernel_rfl

set_option maxRecDepth 100000 in
set_option maxHeartbeats 1000000 in
theorem name_any (t : Int) (w : World) : Calls Tryd.prog 71 #[.int .i64 t] w fun e w' => e = .returned (.string (tokName t)) ∧ Bl w w' := by
  by_cases h : t < 1 ∨ 7 < t
  · have HT := Lib.hid (show tokName t = ⟨#[63]⟩ from tokName_bad.2 (by simp only [badTok, Bool.or_eq_true, decide_eq_true_eq]; exact h))
    have i0 := nameIdx0
    rcases h with h | h
    all_goals
      go_enter Tryd.func71, Tryd.ntmps71
      go_wp2_with (go_at_call 89; refine (names_any _).mono ?_; rintro e w1 ⟨rfl, hb1⟩)
      go_ret
      exact ⟨ret_str HT.out.symm, hb1⟩
  · rcases (show t = 1 ∨ t = 2 ∨ t = 3 ∨ t = 4 ∨ t = 5 ∨ t = 6 ∨ t = 7 by omega) with rfl | rfl | rfl | rfl | rfl | rfl | rfl
    · have i0 := nameIdx1
      go_enter Tryd.func71, Tryd.ntmps71
      go_wp2_with (go_at_call 89; refine (names_any _).mono ?_; rintro e w1 ⟨rfl, hb1⟩)
      go_ret
      exact ⟨rfl, hb1⟩
    · have i0 := nameIdx2
      go_enter Tryd.func71, Tryd.ntmps71
      go_wp2_with (go_at_call 89; refine (names_any _).mono ?_; rintro e w1 ⟨rfl, hb1⟩)
      go_ret
      exact ⟨rfl, hb1⟩
    · have i0 := nameIdx3
      go_enter Tryd.func71, Tryd.ntmps71
      go_wp2_with (go_at_call 89; refine (names_any _).mono ?_; rintro e w1 ⟨rfl, hb1⟩)
      go_ret
      exact ⟨rfl, hb1⟩
    · have i0 := nameIdx4
      go_enter Tryd.func71, Tryd.ntmps71
      go_wp2_with (go_at_call 89; refine (names_any _).mono ?_; rintro e w1 ⟨rfl, hb1⟩)
      go_ret
      exact ⟨rfl, hb1⟩
    · have i0 := nameIdx5
      go_enter Tryd.func71, Tryd.ntmps71
      go_wp2_with (go_at_call 89; refine (names_any _).mono ?_; rintro e w1 ⟨rfl, hb1⟩)
      go_ret
      exact ⟨rfl, hb1⟩
    · have i0 := nameIdx6
      go_enter Tryd.func71, Tryd.ntmps71
      go_wp2_with (go_at_call 89; refine (names_any _).mono ?_; rintro e w1 ⟨rfl, hb1⟩)
      go_ret
      exact ⟨rfl, hb1⟩
    · have i0 := nameIdx7
      go_enter Tryd.func71, Tryd.ntmps71
      go_wp2_with (go_at_call 89; refine (names_any _).mono ?_; rintro e w1 ⟨rfl, hb1⟩)
      go_ret
      exact ⟨rfl, hb1⟩

def arrowsVal : Value := .agg #[.string ⟨#[45, 62]⟩, .string ⟨#[60, 45]⟩]
theorem arrIdx0 (w : World) : (Instr.index 115 arrowsVal (.int .i64 0)).run Tryd.prog w = .ok (.string ⟨#[45, 62]⟩) w := by kernel_rfl
theorem arrIdx1 (w : World) : (Instr.index 115 arrowsVal (.int .i64 1)).run Tryd.prog w = .ok (.string ⟨#[60, 45]⟩) w := by kernel_rfl
set_option maxHeartbeats 400000 in
theorem arrows_any (w : World) : Calls Tryd.prog 82 #[] w fun e w' => e = .returned arrowsVal ∧ Bl w w' := by
  go_enter Tryd.func82, Tryd.ntmps82
  go_wp2
  exact bodyPost_ret (v := arrowsVal) (by simp [results, Tryd.results82, go_sem, arrowsVal]) rfl ⟨rfl, (Bl.refl _).alloc _⟩

end Go.Proofs.YtelloecgdiocoaaDoor
