/- Walks: what the token laws share: the told example. -/
import Derived.Test.YtkcmmcgbkihpfaaDoorW13
set_option linter.unusedSimpArgs false
set_option linter.unusedVariables false
namespace Go.Proofs.YtkcmmcgbkihpfaaDoor
open Go.RowKit Go.Sort

def nkT : ByteArray := ⟨#[78, 75, 58, 10, 60, 45, 32, 115, 10, 46, 46, 46, 10, 45, 62, 32, 101, 44, 32, 101, 115, 10, 60, 45, 32, 101, 44, 32, 101, 101, 10]⟩
def nkP : Pat := ⟨⟨#[78, 75]⟩, [], [2], [⟨0, [1, 4]⟩, ⟨1, [1, 3]⟩]⟩
theorem nk_raw : rawT nkT = nkP := by kernel_rfl
theorem nk_print : printT nkP = nkT := by kernel_rfl
theorem nk_right : rightB nkP = true := by kernel_rfl
theorem nk_parse : parseB nkT = true := by rw [parseB, nk_raw, nk_print, nk_right]; simp

theorem parseNK (w : World) (hE : w.ShapedOpen Tryd.prog) :
    Calls Tryd.prog 16 #[.string ⟨#[78, 75, 58, 10, 60, 45, 32, 115, 10, 46, 46, 46, 10, 45, 62, 32, 101, 44, 32, 101, 115, 10, 60, 45, 32, 101, 44, 32, 101, 101, 10]⟩] w fun e w' => ∃ v, e = .returned (.tuple #[v, .int .i64 0]) ∧ SP w' v nkP ∧ Bl w w' := by
  refine (parse_any nkT w hE (by decide)).mono fun e w' h => ?_
  obtain ⟨v, he, hs, hb⟩ := h
  rw [(parse_yes nk_parse).2] at he
  rw [(parse_yes nk_parse).1, nk_raw] at hs
  exact ⟨v, he, hs, hb⟩
theorem printNK (v : Value) (w : World) (h : SP w v nkP) :
    Calls Tryd.prog 23 #[v] w fun e w' => e = .returned (.tuple #[.string ⟨#[78, 75, 58, 10, 60, 45, 32, 115, 10, 46, 46, 46, 10, 45, 62, 32, 101, 44, 32, 101, 115, 10, 60, 45, 32, 101, 44, 32, 101, 101, 10]⟩, .int .i64 0]) ∧ Bl w w' := by
  refine (print_yes v nkP w h nk_right).mono fun e w' h => ?_
  rw [nk_print] at h
  exact h
theorem namePsk (w : World) : Calls Tryd.prog 14 #[.int .i64 7] w fun e w' => e = .returned (.string ⟨#[112, 115, 107]⟩) ∧ Bl w w' := name_any 7 w
theorem rightNK (v : Value) (w : World) (h : SP w v nkP) : Calls Tryd.prog 36 #[v] w fun e w' => e = .returned (.bool true) ∧ Bl w w' := by
  refine (right_any v nkP w h).mono fun e w' h => ?_
  rw [nk_right] at h
  exact h

set_option maxRecDepth 100000 in
set_option maxHeartbeats 2000000 in
theorem awake5_any (w : World) (hE : w.ShapedOpen Tryd.prog) :
    Calls Tryd.prog 15 #[] w fun e w' => e = .returned (.bool true) ∧ Bl w w' := by
  go_enter Tryd.func15, Tryd.ntmps15
  go_wp2_with fail
  refine (parseNK w hE).mono ?_
  rintro e w1 ⟨v, rfl, hs, hb⟩
  have hs0 := hs
  obtain ⟨v0, v1, vm, rfl, _, h0, h1, hm⟩ := hs
  obtain ⟨a0, c0, rfl⟩ := h0.form
  obtain ⟨a1, c1, rfl⟩ := h1.form
  obtain ⟨am, cm, rfl⟩ := hm.form
  have H1 := hb.alloc (.cells #[.string ⟨#[78, 75]⟩, .slice a0 0 c0, .slice a1 1 c1, .slice am 2 cm] 29)
  have x1 := BoxAt.new w1 #[.string ⟨#[78, 75]⟩, .slice a0 0 c0, .slice a1 1 c1, .slice am 2 cm] 29
  have hsA := hs0.bl ((Bl.refl w1).alloc (.cells #[.string ⟨#[78, 75]⟩, .slice a0 0 c0, .slice a1 1 c1, .slice am 2 cm] 29))
  go_wp2_with fail
  refine (printNK _ _ hsA).mono ?_
  rintro e w2 ⟨rfl, hb2⟩
  have x2 := x1.bl hb2
  have hs2 := hsA.bl hb2
  have H2 := H1.trans hb2
  have p0 := x2.cell 0 rfl
  have p1 := x2.cell 1 rfl
  have p2 := x2.cell 2 rfl
  have p3 := x2.cell 3 rfl
  go_wp2_with fail
  refine (namePsk _).mono ?_
  rintro e w3 ⟨rfl, hb3⟩
  have x3 := x2.bl hb3
  have hs3 := hs2.bl hb3
  have q0 := x3.cell 0 rfl
  have q1 := x3.cell 1 rfl
  have q2 := x3.cell 2 rfl
  have q3 := x3.cell 3 rfl
  go_wp2_with fail
  refine (rightNK _ _ hs3).mono ?_
  rintro e w4 ⟨rfl, hb4⟩
  go_wp2
  exact bodyPost_ret (v := .bool true) (by simp [results, Tryd.results15, go_sem]) rfl ⟨rfl, (H2.trans hb3).trans hb4⟩
end Go.Proofs.YtkcmmcgbkihpfaaDoor
