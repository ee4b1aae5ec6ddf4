/- Walks: undertoneref08.Enough, pre, Of. -/
import Derived.Test.YtkcmmcgbkihpfaaDoorN4
import Derived.Test.YtkcmmcgbkihpfaaDoorR2
import Derived.Test.YtkcmmcgbkihpfaaDoorR4
set_option linter.unusedSimpArgs false
set_option linter.unusedVariables false
namespace Go.Proofs.YtkcmmcgbkihpfaaDoor
open Go.RowKit Go.Sort

set_option maxRecDepth 100000 in
set_option maxHeartbeats 8000000 in
theorem refEnough_any (a b : Keys) (w : World) :
    Calls Tryd.prog 30 #[keyV a, keyV b] w fun e w' => e = .returned (.bool (enB a b)) ∧ Bl w w' := by
  obtain ⟨s, e, rs, re, n⟩ := a
  obtain ⟨s', e', rs', re', n'⟩ := b
  rw [keyV_eq, keyV_eq]
  have HB : Hid (enB ⟨s, e, rs, re, n⟩ ⟨s', e', rs', re', n'⟩ = ((!s || s') && (!e || e') && (!rs || rs') && (!re || re') && (n == n'))) := Lib.hid (by rw [enB]; simp only; rw [beq_turn n' n, ← beq_dec])
  go_enter Tryd.func30, Tryd.ntmps30
  cases s
  · cases e
    · cases rs
      · cases re
        · go_wp2
          go_ret
          exact ⟨ret_bool (by rw [HB.out]; try simp), ((Bl.refl _).alloc _).alloc _⟩
        · cases re'
          · go_wp2
            go_ret
            exact ⟨ret_bool (by rw [HB.out]; try simp), ((Bl.refl _).alloc _).alloc _⟩
          · go_wp2
            go_ret
            exact ⟨ret_bool (by rw [HB.out]; try simp), ((Bl.refl _).alloc _).alloc _⟩
      · cases rs'
        · go_wp2
          go_ret
          exact ⟨ret_bool (by rw [HB.out]; try simp), ((Bl.refl _).alloc _).alloc _⟩
        · cases re
          · go_wp2
            go_ret
            exact ⟨ret_bool (by rw [HB.out]; try simp), ((Bl.refl _).alloc _).alloc _⟩
          · cases re'
            · go_wp2
              go_ret
              exact ⟨ret_bool (by rw [HB.out]; try simp), ((Bl.refl _).alloc _).alloc _⟩
            · go_wp2
              go_ret
              exact ⟨ret_bool (by rw [HB.out]; try simp), ((Bl.refl _).alloc _).alloc _⟩
    · cases e'
      · go_wp2
        go_ret
        exact ⟨ret_bool (by rw [HB.out]; try simp), ((Bl.refl _).alloc _).alloc _⟩
      · cases rs
        · cases re
          · go_wp2
            go_ret
            exact ⟨ret_bool (by rw [HB.out]; try simp), ((Bl.refl _).alloc _).alloc _⟩
          · cases re'
            · go_wp2
              go_ret
              exact ⟨ret_bool (by rw [HB.out]; try simp), ((Bl.refl _).alloc _).alloc _⟩
            · go_wp2
              go_ret
              exact ⟨ret_bool (by rw [HB.out]; try simp), ((Bl.refl _).alloc _).alloc _⟩
        · cases rs'
          · go_wp2
            go_ret
            exact ⟨ret_bool (by rw [HB.out]; try simp), ((Bl.refl _).alloc _).alloc _⟩
          · cases re
            · go_wp2
              go_ret
              exact ⟨ret_bool (by rw [HB.out]; try simp), ((Bl.refl _).alloc _).alloc _⟩
            · cases re'
              · go_wp2
                go_ret
                exact ⟨ret_bool (by rw [HB.out]; try simp), ((Bl.refl _).alloc _).alloc _⟩
              · go_wp2
                go_ret
                exact ⟨ret_bool (by rw [HB.out]; try simp), ((Bl.refl _).alloc _).alloc _⟩
  · cases s'
    · go_wp2
      go_ret
      exact ⟨ret_bool (by rw [HB.out]; try simp), ((Bl.refl _).alloc _).alloc _⟩
    · cases e
      · cases rs
        · cases re
          · go_wp2
            go_ret
            exact ⟨ret_bool (by rw [HB.out]; try simp), ((Bl.refl _).alloc _).alloc _⟩
          · cases re'
            · go_wp2
              go_ret
              exact ⟨ret_bool (by rw [HB.out]; try simp), ((Bl.refl _).alloc _).alloc _⟩
            · go_wp2
              go_ret
              exact ⟨ret_bool (by rw [HB.out]; try simp), ((Bl.refl _).alloc _).alloc _⟩
        · cases rs'
          · go_wp2
            go_ret
            exact ⟨ret_bool (by rw [HB.out]; try simp), ((Bl.refl _).alloc _).alloc _⟩
          · cases re
            · go_wp2
              go_ret
              exact ⟨ret_bool (by rw [HB.out]; try simp), ((Bl.refl _).alloc _).alloc _⟩
            · cases re'
              · go_wp2
                go_ret
                exact ⟨ret_bool (by rw [HB.out]; try simp), ((Bl.refl _).alloc _).alloc _⟩
              · go_wp2
                go_ret
                exact ⟨ret_bool (by rw [HB.out]; try simp), ((Bl.refl _).alloc _).alloc _⟩
      · cases e'
        · go_wp2
          go_ret
          exact ⟨ret_bool (by rw [HB.out]; try simp), ((Bl.refl _).alloc _).alloc _⟩
        · cases rs
          · cases re
            · go_wp2
              go_ret
              exact ⟨ret_bool (by rw [HB.out]; try simp), ((Bl.refl _).alloc _).alloc _⟩
            · cases re'
              · go_wp2
                go_ret
                exact ⟨ret_bool (by rw [HB.out]; try simp), ((Bl.refl _).alloc _).alloc _⟩
              · go_wp2
                go_ret
                exact ⟨ret_bool (by rw [HB.out]; try simp), ((Bl.refl _).alloc _).alloc _⟩
          · cases rs'
            · go_wp2
              go_ret
              exact ⟨ret_bool (by rw [HB.out]; try simp), ((Bl.refl _).alloc _).alloc _⟩
            · cases re
              · go_wp2
                go_ret
                exact ⟨ret_bool (by rw [HB.out]; try simp), ((Bl.refl _).alloc _).alloc _⟩
              · cases re'
                · go_wp2
                  go_ret
                  exact ⟨ret_bool (by rw [HB.out]; try simp), ((Bl.refl _).alloc _).alloc _⟩
                · go_wp2
                  go_ret
                  exact ⟨ret_bool (by rw [HB.out]; try simp), ((Bl.refl _).alloc _).alloc _⟩

set_option maxHeartbeats 1000000 in
theorem refPre_any (v : Value) (p : Pat) (w : World) (h : SP w v p) (hs : Small p) (who t : Int) (hw : who = 0 ∨ who = 1) :
    Calls Tryd.prog 55 #[v, .int .i64 who, .int .i64 t] w fun e w' => e = .returned (.bool ((preL p who).contains t)) ∧ Bl w w' := by
  have hv := h
  have HB : Hid (told1 p (aheadL p 0 0) who t = (preL p who).contains t) := Lib.hid (by rw [ahead_start]; simp [told1, met1])
  obtain ⟨v0, v1, vm, rfl, hn, h0, h1, hm⟩ := h
  obtain ⟨a0, c0, rfl⟩ := h0.form
  obtain ⟨a1, c1, rfl⟩ := h1.form
  obtain ⟨am, cm, rfl⟩ := hm.form
  clear h0 h1 hm
  have H : Bl w (w.alloc (.cells #[.string p.name, .slice a0 p.pre0.length c0, .slice a1 p.pre1.length c1, .slice am p.msgs.length cm] 37)) := (Bl.refl w).alloc _
  go_enter Tryd.func55, Tryd.ntmps55
  go_wp2_with fail
  refine (toldN_any _ p _ (hv.bl H) hs who t 0 0 hw).mono ?_
  rintro e w1 ⟨rfl, hb1⟩
  go_wp2
  go_ret
  exact ⟨ret_bool HB.out, H.trans hb1⟩
end Go.Proofs.YtkcmmcgbkihpfaaDoor
