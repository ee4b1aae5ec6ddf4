/- Walk: undertonelaw08.NeedLess. -/
import Derived.Test.YtkcmmcgbkihpfaaDoorL8b
set_option linter.unusedSimpArgs false
set_option linter.unusedVariables false
namespace Go.Proofs.YtkcmmcgbkihpfaaDoor
open Go.RowKit Go.Sort

theorem less_more (a b : Keys) : enB a ⟨true, true, true, true, a.n⟩ = true := by
  obtain ⟨s, e, rs, re, n⟩ := a
  simp [enB]
theorem less_few (a b : Keys) (h : enB a b = true) : enB ⟨false, false, false, false, a.n⟩ b = true := by
  obtain ⟨s, e, rs, re, n⟩ := a
  obtain ⟨s', e', rs', re', n'⟩ := b
  simp [enB] at h ⊢
  exact h.2

set_option maxRecDepth 100000 in
set_option maxHeartbeats 4000000 in
theorem needLess_any (a b : Keys) (w : World) (hE : EnvB w) :
    Calls Tryd.prog 11 #[keyV a, keyV b] w fun e w' => e = .returned (.bool true) ∧ Bl w w' := by
  have HM := Lib.hid (less_more a b)
  have HF := Lib.hid (less_few a b)
  obtain ⟨s, e, rs, re, n⟩ := a
  obtain ⟨s', e', rs', re', n'⟩ := b
  rw [keyV_eq, keyV_eq]
  have x := (BoxAt.new w #[.bool s, .bool e, .bool rs, .bool re, .int .i64 n] 47).alloc (.cells #[.bool s', .bool e', .bool rs', .bool re', .int .i64 n'] 47)
  have y := BoxAt.new (w.alloc (.cells #[.bool s, .bool e, .bool rs, .bool re, .int .i64 n] 47)) #[.bool s', .bool e', .bool rs', .bool re', .int .i64 n'] 47
  have H : Bl w ((w.alloc (.cells #[.bool s, .bool e, .bool rs, .bool re, .int .i64 n] 47)).alloc (.cells #[.bool s', .bool e', .bool rs', .bool re', .int .i64 n'] 47)) := ((Bl.refl w).alloc _).alloc _
  simp only [size_alloc] at y
  go_enter Tryd.func11, Tryd.ntmps11
  cases hb : enB ⟨s, e, rs, re, n⟩ ⟨s', e', rs', re', n'⟩
  · have HB := Lib.hid hb
    clear hb
    go_wp2_with fail
    refine (enL_any s e rs re s' e' rs' re' n n' _ false HB.out).mono ?_
    rintro x1 w1 ⟨rfl, hb1⟩
    go_wp2_with fail
    refine (awake8_any w1 (hE.bl (H.trans hb1))).mono ?_
    rintro x2 w2 ⟨rfl, hb2⟩
    go_wp2
    go_ret
    exact ⟨rfl, (H.trans hb1).trans hb2⟩
  · have HB := Lib.hid hb
    clear hb
    go_wp2_with fail
    refine (enL_any s e rs re s' e' rs' re' n n' _ true HB.out).mono ?_
    rintro x1 w1 ⟨rfl, hb1⟩
    have X1 := x.bl hb1
    have Y1 := y.bl hb1
    have H1 := H.trans hb1
    obtain ⟨p0, p1, p2, p3, p4⟩ := X1.cells5
    obtain ⟨q0, q1, q2, q3, q4⟩ := Y1.cells5
    have hlx := X1.lt
    have hly := Y1.lt
    go_wp2_with fail
    refine (enL_any s e rs re true true true true n n _ true HM.out).mono ?_
    rintro x2 w2 ⟨rfl, hb2⟩
    have al : Bl w1 (w1.alloc (.cells #[.bool true, .bool true, .bool true, .bool true, .int .i64 n] 47)) := (Bl.refl w1).alloc _
    have X2 := (X1.bl al).bl hb2
    have Y2 := (Y1.bl al).bl hb2
    have H2 := (H1.trans al).trans hb2
    clear p0 p1 p2 p3 p4 q0 q1 q2 q3 q4
    obtain ⟨p0, p1, p2, p3, p4⟩ := X2.cells5
    obtain ⟨q0, q1, q2, q3, q4⟩ := Y2.cells5
    go_wp2_with fail
    refine (enL_any false false false false s' e' rs' re' n n' _ true (HF.out HB.out)).mono ?_
    rintro x3 w3 ⟨rfl, hb3⟩
    have H3 := H2.trans hb3
    go_wp2_with fail
    refine (awake8_any w3 (hE.bl H3)).mono ?_
    rintro x4 w4 ⟨rfl, hb4⟩
    go_wp2
    go_ret
    exact ⟨rfl, H3.trans hb4⟩
end Go.Proofs.YtkcmmcgbkihpfaaDoor
