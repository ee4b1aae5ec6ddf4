/- Walk: undertonelaw05.TokenSame. -/
import Derived.Test.YtkcmmcgbkihpfaaDoorL5c
import Derived.Test.YtkcmmcgbkihpfaaDoorW4
import Derived.Deep.RegionHeld3
set_option linter.unusedSimpArgs false
set_option linter.unusedVariables false
namespace Go.Proofs.YtkcmmcgbkihpfaaDoor
open Go.RowKit Go.Sort

/-- a box of a pattern, and its four cells -/
theorem BoxAt.four {w : World} {B : Nat} {a b c d : Value} {T : TypeId} (h : BoxAt w B [a, b, c, d] T) :
    w.cell? ⟨B, 0, none⟩ = some a ∧ w.cell? ⟨B, 1, none⟩ = some b ∧ w.cell? ⟨B, 2, none⟩ = some c ∧ w.cell? ⟨B, 3, none⟩ = some d :=
  ⟨h.cell 0 rfl, h.cell 1 rfl, h.cell 2 rfl, h.cell 3 rfl⟩

theorem BoxAt.drew {w : World} {B : Nat} {vs : List Value} {T : TypeId} (h : BoxAt w B vs T) : BoxAt w.drew B vs T := h.bl (Bl.refl w).drew
theorem cells8 {w : World} {B C : Nat} {a b c d a' b' c' d' : Value} {T T' : TypeId} (h : BoxAt w B [a, b, c, d] T) (h' : BoxAt w C [a', b', c', d'] T') :
    w.cell? ⟨B, 0, none⟩ = some a ∧ w.cell? ⟨B, 1, none⟩ = some b ∧ w.cell? ⟨B, 2, none⟩ = some c ∧ w.cell? ⟨B, 3, none⟩ = some d ∧
    w.cell? ⟨C, 0, none⟩ = some a' ∧ w.cell? ⟨C, 1, none⟩ = some b' ∧ w.cell? ⟨C, 2, none⟩ = some c' ∧ w.cell? ⟨C, 3, none⟩ = some d' :=
  ⟨h.cell 0 rfl, h.cell 1 rfl, h.cell 2 rfl, h.cell 3 rfl, h'.cell 0 rfl, h'.cell 1 rfl, h'.cell 2 rfl, h'.cell 3 rfl⟩

set_option maxRecDepth 100000 in
set_option maxHeartbeats 4000000 in
theorem tokenSame_any (v u : Value) (p q : Pat) (w : World) (hE : w.ShapedOpen Tryd.prog) (hp : SP w v p) (hq : SP w u q) :
    Calls Tryd.prog 5 #[v, u] w fun e w' => e = .returned (.bool true) ∧ Bl w w' := by
  have hp0 := hp
  have hq0 := hq
  obtain ⟨v0, v1, vm, rfl, _, h0, h1, hm⟩ := hp
  obtain ⟨a0, c0, rfl⟩ := h0.form
  obtain ⟨a1, c1, rfl⟩ := h1.form
  obtain ⟨am, cm, rfl⟩ := hm.form
  obtain ⟨u0, u1, um, rfl, _, g0, g1, gm⟩ := hq
  obtain ⟨b0, d0, rfl⟩ := g0.form
  obtain ⟨b1, d1, rfl⟩ := g1.form
  obtain ⟨bm, dm, rfl⟩ := gm.form
  clear h0 h1 hm g0 g1 gm
  go_enter Tryd.func5, Tryd.ntmps5
  have x := BoxAt.new w #[.string p.name, .slice a0 p.pre0.length c0, .slice a1 p.pre1.length c1, .slice am p.msgs.length cm] 29
  have y := BoxAt.new (w.alloc (.cells #[.string p.name, .slice a0 p.pre0.length c0, .slice a1 p.pre1.length c1, .slice am p.msgs.length cm] 29)) #[.string q.name, .slice b0 q.pre0.length d0, .slice b1 q.pre1.length d1, .slice bm q.msgs.length dm] 29
  replace x := x.alloc (.cells #[.string q.name, .slice b0 q.pre0.length d0, .slice b1 q.pre1.length d1, .slice bm q.msgs.length dm] 29)
  have H := ((Bl.refl w).alloc (.cells #[.string p.name, .slice a0 p.pre0.length c0, .slice a1 p.pre1.length c1, .slice am p.msgs.length cm] 29)).alloc (.cells #[.string q.name, .slice b0 q.pre0.length d0, .slice b1 q.pre1.length d1, .slice bm q.msgs.length dm] 29)
  go_wp2_with fail
  simp only [size_alloc] at y
  generalize (w.alloc (.cells #[.string p.name, .slice a0 p.pre0.length c0, .slice a1 p.pre1.length c1, .slice am p.msgs.length cm] 29)).alloc (.cells #[.string q.name, .slice b0 q.pre0.length d0, .slice b1 q.pre1.length d1, .slice bm q.msgs.length dm] 29) = W at x y H ⊢
  refine (few_any _ p W (hp0.bl H)).mono ?_
  rintro e w1 ⟨rfl, hb1⟩
  have x1 := x.bl hb1
  have y1 := y.bl hb1
  have H1 := H.trans hb1
  have X1 := x1.four
  have Y1 := y1.four
  cases hfp : fewB p
  · go_wp2_with fail
    refine (awake5_any w1 (shaped_bl hE H1)).mono ?_
    rintro e w3 ⟨rfl, hb3⟩
    go_wp2
    exact bodyPost_ret (v := .bool true) (by simp [results, Tryd.results5, go_sem]) rfl ⟨rfl, H1.trans hb3⟩
  · obtain ⟨p0, p1, p2, p3⟩ := X1
    obtain ⟨q0, q1, q2, q3⟩ := Y1
    go_wp2_with fail
    refine (few_any _ q w1 (hq0.bl H1)).mono ?_
    rintro e w2 ⟨rfl, hb2⟩
    have x2 := x1.bl hb2
    have y2 := y1.bl hb2
    have H2 := H1.trans hb2
    obtain ⟨p0, p1, p2, p3⟩ := x2.four
    obtain ⟨q0, q1, q2, q3⟩ := y2.four
    cases hfq : fewB q
    · go_wp2_with fail
      refine (awake5_any w2 (shaped_bl hE H2)).mono ?_
      rintro e w3 ⟨rfl, hb3⟩
      go_wp2
      exact bodyPost_ret (v := .bool true) (by simp [results, Tryd.results5, go_sem]) rfl ⟨rfl, H2.trans hb3⟩
    · go_wp2_with fail
      have H22 : Bl w w2.drew := H2.drew
      have x22 := x2.drew
      have y22 := y2.drew
      go_region_held3 (fun wx : World => wx.cell? ⟨w.heap.size, 0, none⟩ = some (.string p.name) ∧ wx.cell? ⟨w.heap.size, 1, none⟩ = some (.slice a0 p.pre0.length c0) ∧ wx.cell? ⟨w.heap.size, 2, none⟩ = some (.slice a1 p.pre1.length c1) ∧ wx.cell? ⟨w.heap.size, 3, none⟩ = some (.slice am p.msgs.length cm) ∧ wx.cell? ⟨w.heap.size + 1, 0, none⟩ = some (.string q.name) ∧ wx.cell? ⟨w.heap.size + 1, 1, none⟩ = some (.slice b0 q.pre0.length d0) ∧ wx.cell? ⟨w.heap.size + 1, 2, none⟩ = some (.slice b1 q.pre1.length d1) ∧ wx.cell? ⟨w.heap.size + 1, 3, none⟩ = some (.slice bm q.msgs.length dm)) (first | exact cells8 x8 y8 | exact cells8 x7 y7 | exact cells8 x6 y6 | exact cells8 x5 y5 | exact cells8 x4 y4 | exact cells8 x3 y3 | exact cells8 x22 y22 | exact cells8 x2 y2) (first | (go_at_call 15; refine (awake5_any _ (shaped_bl hE H7)).mono ?_; rintro e w8 ⟨rfl, hb8⟩; have x8 := x7.bl hb8; have y8 := y7.bl hb8; have H8 := H7.trans hb8) | (go_at_call 17; refine (sameP_any _ _ p p _ (hp0.bl H6) (hp0.bl H6) rfl).mono ?_; rintro e w7 ⟨rfl, hb7⟩; have x7 := x6.bl hb7; have y7 := y6.bl hb7; have H7 := H6.trans hb7) | (go_at_call 22; refine (refSame_any _ _ p q _ (hz4.bl hb5) hz5).mono ?_; rintro e w6 ⟨rfl, hb6⟩; have x6 := x5.bl hb6; have y6 := y5.bl hb6; have H6 := H5.trans hb6) | (go_at_call 19; refine (of_any _ q _ (hq0.bl H4)).mono ?_; rintro e w5 ⟨z5, rfl, hz5, hb5⟩; have x5 := x4.bl hb5; have y5 := y4.bl hb5; have H5 := H4.trans hb5) | (go_at_call 19; refine (of_any _ p _ (hp0.bl H3)).mono ?_; rintro e w4 ⟨z4, rfl, hz4, hb4⟩; have x4 := x3.bl hb4; have y4 := y3.bl hb4; have H4 := H3.trans hb4) | (go_at_call 17; refine (same_any _ _ p q _ (hp0.bl H22) (hq0.bl H22)).mono ?_; rintro e w3 ⟨rfl, hb3⟩; have x3 := x22.bl hb3; have y3 := y22.bl hb3; have H3 := H22.trans hb3))
      all_goals go_wp2
      all_goals exact bodyPost_ret (v := .bool true) (by simp [results, Tryd.results5, go_sem]) rfl ⟨rfl, H8⟩
end Go.Proofs.YtkcmmcgbkihpfaaDoor
