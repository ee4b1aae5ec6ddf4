/- Walk: undertonelaw05.TokenParses. -/
import Derived.Test.YtkcmmcgbkihpfaaDoorL5a
import Derived.Test.YtkcmmcgbkihpfaaDoorW5
import Derived.Test.YtkcmmcgbkihpfaaDoorW6
import Derived.Test.YtkcmmcgbkihpfaaDoorW7
import Derived.Test.YtkcmmcgbkihpfaaDoorW8
set_option linter.unusedSimpArgs false
set_option linter.unusedVariables false
namespace Go.Proofs.YtkcmmcgbkihpfaaDoor
open Go.RowKit Go.Sort

theorem zeroSP (w : World) : SP w (.agg #[.string ⟨#[]⟩, .slice none 0 0, .slice none 0 0, .slice none 0 0]) zeroP := ⟨_, _, _, rfl, by show (0 : Nat) ≤ _; omega, SI.nil _, SI.nil _, SM.nil _⟩
theorem sameP_any (v u : Value) (p q : Pat) (w : World) (h : SP w v p) (h' : SP w u q) (hpq : p = q) :
    Calls Tryd.prog 17 #[v, u] w fun e w' => e = .returned (.bool true) ∧ Bl w w' := by
  refine (same_any v u p q w h h').mono fun e w' hh => ?_
  rw [sameB_iff, decide_eq_true hpq] at hh
  exact hh
theorem refRightP_any (v : Value) (p : Pat) (w : World) (h : SP w v p) (hr : rightB p = true) :
    Calls Tryd.prog 18 #[v] w fun e w' => e = .returned (.bool true) ∧ Bl w w' := by
  refine (refRight_any v p w h).mono fun e w' hh => ?_
  rw [hr] at hh
  exact hh

set_option maxRecDepth 100000 in
set_option maxHeartbeats 2000000 in
theorem tokenParses_any (s : ByteArray) (w : World) (hE : w.ShapedOpen Tryd.prog) (hs : s.size ≤ 9223372036854775807) :
    Calls Tryd.prog 4 #[.string s] w fun e w' => e = .returned (.bool true) ∧ Bl w w' := by
  go_enter Tryd.func4, Tryd.ntmps4
  by_cases hlen : 400 < s.size
  · go_wp2_with fail
    refine (awake5_any w hE).mono ?_
    rintro e w1 ⟨rfl, hb1⟩
    go_wp2
    exact bodyPost_ret (v := .bool true) (by simp [results, Tryd.results4, go_sem]) rfl ⟨rfl, hb1⟩
  · go_wp2_with fail
    refine (parse_any s w hE (by omega)).mono ?_
    rintro e w1 ⟨v, rfl, hsp, hb⟩
    cases hp : parseB s
    · rw [(parse_no hp).2]
      rw [(parse_no hp).1] at hsp
      have hs0 := hsp
      obtain ⟨v0, v1, vm, rfl, _, h0, h1, hm⟩ := hsp
      obtain ⟨a0, c0, rfl⟩ := h0.form
      obtain ⟨a1, c1, rfl⟩ := h1.form
      obtain ⟨am, cm, rfl⟩ := hm.form
      have x1 := BoxAt.new w1 #[.string ⟨#[]⟩, .slice a0 0 c0, .slice a1 0 c1, .slice am 0 cm] 29
      have hsA := hs0.bl ((Bl.refl w1).alloc (.cells #[.string ⟨#[]⟩, .slice a0 0 c0, .slice a1 0 c1, .slice am 0 cm] 29))
      have H1 := hb.alloc (.cells #[.string ⟨#[]⟩, .slice a0 0 c0, .slice a1 0 c1, .slice am 0 cm] 29)
      go_wp2_with fail
      refine (sameP_any _ _ zeroP zeroP _ hsA (zeroSP _) rfl).mono ?_
      rintro e w2 ⟨rfl, hb2⟩
      go_wp2_with fail
      refine (awake5_any w2 (shaped_bl hE (H1.trans hb2))).mono ?_
      rintro e w3 ⟨rfl, hb3⟩
      go_wp2
      exact bodyPost_ret (v := .bool true) (by simp [results, Tryd.results4, go_sem]) rfl ⟨rfl, (H1.trans hb2).trans hb3⟩
    · rw [(parse_yes hp).2]
      rw [(parse_yes hp).1] at hsp
      have hp2 := hp
      rw [parseB, Bool.and_eq_true, decide_eq_true_eq] at hp2
      obtain ⟨hr, hpt⟩ := hp2
      have HPT := Lib.hid hpt
      have hsm := ((right_iff _).1 hr).small
      generalize hraw : rawT s = p at *
      have hs0 := hsp
      obtain ⟨v0, v1, vm, rfl, _, h0, h1, hm⟩ := hsp
      obtain ⟨a0, c0, rfl⟩ := h0.form
      obtain ⟨a1, c1, rfl⟩ := h1.form
      obtain ⟨am, cm, rfl⟩ := hm.form
      have x1 := BoxAt.new w1 #[.string p.name, .slice a0 p.pre0.length c0, .slice a1 p.pre1.length c1, .slice am p.msgs.length cm] 29
      have hsA := hs0.bl ((Bl.refl w1).alloc (.cells #[.string p.name, .slice a0 p.pre0.length c0, .slice a1 p.pre1.length c1, .slice am p.msgs.length cm] 29))
      have H1 := hb.alloc (.cells #[.string p.name, .slice a0 p.pre0.length c0, .slice a1 p.pre1.length c1, .slice am p.msgs.length cm] 29)
      clear hpt
      go_wp2_with fail
      refine (of_any _ p _ hsA).mono ?_
      rintro e w2 ⟨u, rfl, hu, hb2⟩
      have x2 := x1.bl hb2
      have q0 := x2.cell 0 rfl
      have q1 := x2.cell 1 rfl
      have q2 := x2.cell 2 rfl
      have q3 := x2.cell 3 rfl
      go_wp2_with fail
      refine (refRightP_any _ p _ hu hr).mono ?_
      rintro e w3 ⟨rfl, hb3⟩
      have x3 := x2.bl hb3
      have r0 := x3.cell 0 rfl
      have r1 := x3.cell 1 rfl
      have r2 := x3.cell 2 rfl
      have r3 := x3.cell 3 rfl
      go_wp2_with fail
      refine (of_any _ p _ ((hsA.bl hb2).bl hb3)).mono ?_
      rintro e w4 ⟨u4, rfl, hu4, hb4⟩
      go_wp2_with fail
      refine (refPrint_any _ p _ hu4 hsm).mono ?_
      rintro e w5 ⟨rfl, hb5⟩
      rw [HPT.out]
      have H5 := (((H1.trans hb2).trans hb3).trans hb4).trans hb5
      go_wp2_with fail
      refine (awake5_any w5 (shaped_bl hE H5)).mono ?_
      rintro e w6 ⟨rfl, hb6⟩
      go_wp2
      exact bodyPost_ret (v := .bool true) (by simp [results, Tryd.results4, go_sem]) rfl ⟨rfl, H5.trans hb6⟩
end Go.Proofs.YtkcmmcgbkihpfaaDoor
