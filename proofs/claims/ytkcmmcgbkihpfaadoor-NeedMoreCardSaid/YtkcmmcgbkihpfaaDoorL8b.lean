/- Walk: undertonelaw08.NeedEnough, NeedLess. -/
import Derived.Test.YtkcmmcgbkihpfaaDoorL8a
import Derived.Lib.QuietBelow
set_option linter.unusedSimpArgs false
set_option linter.unusedVariables false
namespace Go.Proofs.YtkcmmcgbkihpfaaDoor
open Go.RowKit Go.Sort

theorem enB_self (a : Keys) : enB a a = true := by
  obtain ⟨s, e, rs, re, n⟩ := a
  cases s <;> cases e <;> cases rs <;> cases re <;> simp [enB]
theorem enSelf_any (a : Keys) (w : World) : Calls Tryd.prog 29 #[keyV a, keyV a] w fun e w' => e = .returned (.bool true) ∧ Bl w w' := by
  have := enough_any a a w
  rw [enB_self] at this
  exact this

section
variable (s e rs re s' e' rs' re' : Bool) (n n' : Int) (w : World)
theorem enL_any (b : Bool) (hb : enB ⟨s, e, rs, re, n⟩ ⟨s', e', rs', re', n'⟩ = b) : Calls Tryd.prog 29 #[.agg #[.bool s, .bool e, .bool rs, .bool re, .int .i64 n], .agg #[.bool s', .bool e', .bool rs', .bool re', .int .i64 n']] w fun x w' => x = .returned (.bool b) ∧ Bl w w' := by
  rw [← hb]
  exact enough_any ⟨s, e, rs, re, n⟩ ⟨s', e', rs', re', n'⟩ w
theorem enSelfL_any : Calls Tryd.prog 29 #[.agg #[.bool s, .bool e, .bool rs, .bool re, .int .i64 n], .agg #[.bool s, .bool e, .bool rs, .bool re, .int .i64 n]] w fun x w' => x = .returned (.bool true) ∧ Bl w w' := enSelf_any ⟨s, e, rs, re, n⟩ w
theorem ofL_any : Calls Tryd.prog 27 #[.agg #[.bool s, .bool e, .bool rs, .bool re, .int .i64 n]] w fun x w' => x = .returned (.agg #[.bool s, .bool e, .bool rs, .bool re, .int .i64 n]) ∧ Bl w w' := of8_any ⟨s, e, rs, re, n⟩ w
theorem refEnL_any (b : Bool) (hb : enB ⟨s, e, rs, re, n⟩ ⟨s', e', rs', re', n'⟩ = b) : Calls Tryd.prog 30 #[.agg #[.bool s, .bool e, .bool rs, .bool re, .int .i64 n], .agg #[.bool s', .bool e', .bool rs', .bool re', .int .i64 n']] w fun x w' => x = .returned (.bool b) ∧ Bl w w' := by
  rw [← hb]
  exact refEnough_any ⟨s, e, rs, re, n⟩ ⟨s', e', rs', re', n'⟩ w
end

set_option maxRecDepth 100000 in
set_option maxHeartbeats 4000000 in
theorem needEnough_any (a b : Keys) (w : World) (hE : EnvB w) :
    Calls Tryd.prog 9 #[keyV a, keyV b] w fun e w' => e = .returned (.bool true) ∧ Bl w w' := by
  obtain ⟨s, e, rs, re, n⟩ := a
  obtain ⟨s', e', rs', re', n'⟩ := b
  rw [keyV_eq, keyV_eq]
  have x := (BoxAt.new w #[.bool s, .bool e, .bool rs, .bool re, .int .i64 n] 47).alloc (.cells #[.bool s', .bool e', .bool rs', .bool re', .int .i64 n'] 47)
  have y := BoxAt.new (w.alloc (.cells #[.bool s, .bool e, .bool rs, .bool re, .int .i64 n] 47)) #[.bool s', .bool e', .bool rs', .bool re', .int .i64 n'] 47
  have H : Bl w ((w.alloc (.cells #[.bool s, .bool e, .bool rs, .bool re, .int .i64 n] 47)).alloc (.cells #[.bool s', .bool e', .bool rs', .bool re', .int .i64 n'] 47)) := ((Bl.refl w).alloc _).alloc _
  simp only [size_alloc] at y
  go_enter Tryd.func9, Tryd.ntmps9
  go_wp2
  generalize (w.alloc (.cells #[.bool s, .bool e, .bool rs, .bool re, .int .i64 n] 47)).alloc (.cells #[.bool s', .bool e', .bool rs', .bool re', .int .i64 n'] 47) = W at x y H ⊢
  obtain ⟨p0, p1, p2, p3, p4⟩ := x.cells5
  obtain ⟨q0, q1, q2, q3, q4⟩ := y.cells5
  have g0 := cell_regrown p0
  have g1 := cell_regrown p1
  have g2 := cell_regrown p2
  have g3 := cell_regrown p3
  have g4 := cell_regrown p4
  have h0 := cell_regrown q0
  have h1 := cell_regrown q1
  have h2 := cell_regrown q2
  have h3 := cell_regrown q3
  have h4 := cell_regrown q4
  refine wp_region_quiet_below (by kernel_rfl) (by kernel_rfl) ?_
  generalize hb : enB ⟨s, e, rs, re, n⟩ ⟨s', e', rs', re', n'⟩ = b
  have HB := Lib.hid hb
  clear hb
  repeat (go_big_quiet_step ((first
    | (go_at_call 29; with_reducible exact Calls.regrown_of (enL_any s e rs re s' e' rs' re' n n' _ b HB.out))
    | (go_at_call 29; with_reducible exact Calls.regrown_of (enSelfL_any s e rs re n _))
    | (go_at_call 27; with_reducible exact Calls.regrown_of (ofL_any s e rs re n _))
    | (go_at_call 27; with_reducible exact Calls.regrown_of (ofL_any s' e' rs' re' n' _))
    | (go_at_call 30; with_reducible exact Calls.regrown_of (refEnL_any s e rs re s' e' rs' re' n n' _ b HB.out))
    | (go_at_call 24; with_reducible exact Calls.regrown_of (awake8_any _ (hE.bl (H.trans (below_regrown W _ _))))))))
  refine wpQuiet_nil ?_
  intro wq hwq
  obtain ⟨pq, rfl⟩ := hwq
  have hbq := below_regrown W pq.d pq.os
  go_wp2
  go_ret
  exact ⟨ret_bool rfl, H.trans hbq⟩
end Go.Proofs.YtkcmmcgbkihpfaaDoor
