/- Walk: undertonelaw07.ValidChecks. -/
import Derived.Test.YtffibiigoikmdaaGreatDoorL7a
import Derived.Test.YtffibiigoikmdaaGreatDoorQ2
import Derived.Test.YtffibiigoikmdaaGreatDoorR2
import Derived.Test.YtffibiigoikmdaaGreatDoorR5
import Derived.Test.YtffibiigoikmdaaGreatDoorW4
import Derived.Test.YtffibiigoikmdaaGreatDoorW6
import Derived.Test.YtffibiigoikmdaaGreatDoorW7
import Derived.Lib.QuietBelow
set_option linter.unusedSimpArgs false
set_option linter.unusedVariables false
namespace Go.Proofs.YtffibiigoikmdaaGreatDoor
open Go.RowKit Go.Sort

theorem check3_any (v : Value) (p : Pat) (w : World) (h : SP w v p) (R E : Int) (I : Nat) (hC : checkV p = (R, I, E)) : Calls Tryz.prog 6 #[v] w fun e w' => e = .returned (.tuple #[.int .i64 R, .int .i64 (I : Int), .int .i64 E]) ∧ Bl w w' := by
  have := check_any v p w h
  rw [hC] at this
  exact this
theorem refCheck3_any (v : Value) (p : Pat) (w : World) (h : SP w v p) (R E : Int) (I : Nat) (hr : rightB p = true) (hC : checkV p = (R, I, E)) : Calls Tryz.prog 9 #[v] w fun e w' => e = .returned (.tuple #[.int .i64 R, .int .i64 (I : Int), .int .i64 E]) ∧ Bl w w' := by
  obtain ⟨_, _, hl1, hl6, hok⟩ := right_parts hr
  have := refCheck_any v p w h ((right_iff p).1 hr).small hok hl1
  rw [← chk_same p hl1 (by omega) hok, show chkR p = checkV p by rw [checkV, if_pos hr], hC] at this
  exact this
theorem refRightB_any (v : Value) (p : Pat) (w : World) (h : SP w v p) (b : Bool) (hr : rightB p = b) :
    Calls Tryz.prog 7 #[v] w fun e w' => e = .returned (.bool b) ∧ Bl w w' := by
  rw [← hr]
  exact refRight_any v p w h

set_option maxRecDepth 100000 in
set_option maxHeartbeats 8000000 in
theorem validChecks_any (v : Value) (p : Pat) (w : World) (hE : Env w) (h : SP w v p) :
    Calls Tryz.prog 3 #[v] w fun e w' => e = .returned (.bool true) ∧ Bl w w' := by
  have hv := h
  obtain ⟨v0, v1, vm, rfl, hn, h0, h1, hm⟩ := h
  obtain ⟨a0, c0, rfl⟩ := h0.form
  obtain ⟨a1, c1, rfl⟩ := h1.form
  obtain ⟨am, cm, rfl⟩ := hm.form
  clear h0 h1 hm
  have x := BoxAt.new w #[.string p.name, .slice a0 p.pre0.length c0, .slice a1 p.pre1.length c1, .slice am p.msgs.length cm] 26
  have H : Bl w (w.alloc (.cells #[.string p.name, .slice a0 p.pre0.length c0, .slice a1 p.pre1.length c1, .slice am p.msgs.length cm] 26)) := (Bl.refl w).alloc _
  go_enter Tryz.func3, Tryz.ntmps3
  go_wp2_with fail
  refine (few_any _ p _ (hv.bl H)).mono ?_
  rintro e w2 ⟨rfl, hb2⟩
  have x2 := x.bl hb2
  have H2 := H.trans hb2
  clear x H hb2
  cases hfp : fewB p
  · go_wp2_with fail
    refine (awake7_any w2 (hE.bl H2)).mono ?_
    rintro e w3 ⟨rfl, hb3⟩
    go_wp2
    go_ret
    exact ⟨rfl, H2.trans hb3⟩
  · clear hfp
    obtain ⟨g0, g1, g2, g3⟩ : _ ∧ _ ∧ _ ∧ _ := ⟨x2.cell 0 rfl, x2.cell 1 rfl, x2.cell 2 rfl, x2.cell 3 rfl⟩
    cases hr : rightB p
    · have HC := Lib.hid (show checkV p = (0, 0, 1) by rw [checkV, hr]; rfl)
      have HR := Lib.hid hr
      clear hr
      go_wp2_with fail
      refine (check3_any _ p _ (hv.bl H2) 0 1 0 HC.out).mono ?_
      rintro e w3 ⟨rfl, hb3⟩
      have x3 := x2.bl hb3
      have H3 := H2.trans hb3
      clear g0 g1 g2 g3 x2 H2 hb3
      obtain ⟨g0, g1, g2, g3⟩ : _ ∧ _ ∧ _ ∧ _ := ⟨x3.cell 0 rfl, x3.cell 1 rfl, x3.cell 2 rfl, x3.cell 3 rfl⟩
      go_wp2_with fail
      refine (of_any _ p _ (hv.bl H3)).mono ?_
      rintro e w4 ⟨u, rfl, hu, hb4⟩
      go_wp2_with fail
      refine (refRightB_any _ p _ hu false HR.out).mono ?_
      rintro e w5 ⟨rfl, hb5⟩
      go_wp2_with fail
      refine (awake7_any w5 (hE.bl ((H3.trans hb4).trans hb5))).mono ?_
      rintro e w6 ⟨rfl, hb6⟩
      go_wp2
      go_ret
      exact ⟨rfl, ((H3.trans hb4).trans hb5).trans hb6⟩
    · have HR := Lib.hid hr
      clear hr
      obtain ⟨⟨R, I, E⟩, hC⟩ : ∃ t, checkV p = t := ⟨_, rfl⟩
      have HC := Lib.hid hC
      clear hC
      go_wp2_with fail
      refine (check3_any _ p _ (hv.bl H2) R E I HC.out).mono ?_
      rintro e w3 ⟨rfl, hb3⟩
      have x3 := x2.bl hb3
      have H3 := H2.trans hb3
      clear g0 g1 g2 g3 x2 H2 hb3
      obtain ⟨g0, g1, g2, g3⟩ : _ ∧ _ ∧ _ ∧ _ := ⟨x3.cell 0 rfl, x3.cell 1 rfl, x3.cell 2 rfl, x3.cell 3 rfl⟩
      go_wp2_with fail
      refine (of_any _ p _ (hv.bl H3)).mono ?_
      rintro e w4 ⟨u, rfl, hu, hb4⟩
      have x4 := x3.bl hb4
      have H4 := H3.trans hb4
      clear g0 g1 g2 g3 x3 H3 hb4
      go_wp2_with fail
      refine (refRightB_any _ p _ hu true HR.out).mono ?_
      rintro e w5 ⟨rfl, hb5⟩
      have x5 := x4.bl hb5
      have H5 := H4.trans hb5
      clear x4 H4 hb5
      obtain ⟨g0, g1, g2, g3⟩ : _ ∧ _ ∧ _ ∧ _ := ⟨x5.cell 0 rfl, x5.cell 1 rfl, x5.cell 2 rfl, x5.cell 3 rfl⟩
      go_wp2_with fail
      refine (of_any _ p _ (hv.bl H5)).mono ?_
      rintro e w6 ⟨u2, rfl, hu2, hb6⟩
      go_wp2_with fail
      refine (refCheck3_any _ p _ hu2 R E I HR.out HC.out).mono ?_
      rintro e w7 ⟨rfl, hb7⟩
      go_wp2_with fail
      refine (awake7_any w7 (hE.bl ((H5.trans hb6).trans hb7))).mono ?_
      rintro e w8 ⟨rfl, hb8⟩
      go_wp2
      go_ret
      exact ⟨rfl, ((H5.trans hb6).trans hb7).trans hb8⟩
end Go.Proofs.YtffibiigoikmdaaGreatDoor
