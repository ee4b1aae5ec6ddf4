/- Walk: undertonelaw05.TokenApart. -/
import Derived.Test.YtkcmmcgbkihpfaaDoorL5d
import Derived.Test.YtkcmmcgbkihpfaaDoorP5
set_option linter.unusedSimpArgs false
set_option linter.unusedVariables false
namespace Go.Proofs.YtkcmmcgbkihpfaaDoor
open Go.RowKit Go.Sort

theorem apart_test {p q : Pat} (hp : rightB p = true) (hq : rightB q = true) : ((printT p).toList == (printT q).toList) = sameB p q := by
  rw [sameB_iff, Bool.eq_iff_iff, beq_iff_eq, decide_eq_true_eq]
  constructor
  · intro h
    exact print_inj ((right_iff p).1 hp) ((right_iff q).1 hq) (str_of h)
  · rintro rfl; rfl

set_option maxRecDepth 100000 in
set_option maxHeartbeats 4000000 in
theorem tokenApart_any (v u : Value) (p q : Pat) (w : World) (hE : w.ShapedOpen Tryd.prog) (hp : SP w v p) (hq : SP w u q) :
    Calls Tryd.prog 6 #[v, u] w fun e w' => e = .returned (.bool true) ∧ Bl w w' := by
  have hp0 := hp
  have hq0 := hq
  obtain ⟨v0, v1, vm, rfl, _, h0, h1, hm⟩ := hp
  obtain ⟨a0, c0, rfl⟩ := h0.form
  obtain ⟨a1, c1, rfl⟩ := h1.form
  obtain ⟨am, cm, rfl⟩ := hm.form
  obtain ⟨u0, u1, um, rfl, _, g0, g1, gm⟩ := hq
  obtain ⟨b0, d0, rfl⟩ := g0.form
  obtain ⟨b1, d1, rfl⟩ := g1.form
  obtain ⟨bm, dm, rfl⟩ := gm.form
  clear h0 h1 hm g0 g1 gm
  go_enter Tryd.func6, Tryd.ntmps6
  have x := BoxAt.new w #[.string p.name, .slice a0 p.pre0.length c0, .slice a1 p.pre1.length c1, .slice am p.msgs.length cm] 29
  have y := BoxAt.new (w.alloc (.cells #[.string p.name, .slice a0 p.pre0.length c0, .slice a1 p.pre1.length c1, .slice am p.msgs.length cm] 29)) #[.string q.name, .slice b0 q.pre0.length d0, .slice b1 q.pre1.length d1, .slice bm q.msgs.length dm] 29
  replace x := x.alloc (.cells #[.string q.name, .slice b0 q.pre0.length d0, .slice b1 q.pre1.length d1, .slice bm q.msgs.length dm] 29)
  have H := ((Bl.refl w).alloc (.cells #[.string p.name, .slice a0 p.pre0.length c0, .slice a1 p.pre1.length c1, .slice am p.msgs.length cm] 29)).alloc (.cells #[.string q.name, .slice b0 q.pre0.length d0, .slice b1 q.pre1.length d1, .slice bm q.msgs.length dm] 29)
  go_wp2_with fail
  simp only [size_alloc] at y
  generalize (w.alloc (.cells #[.string p.name, .slice a0 p.pre0.length c0, .slice a1 p.pre1.length c1, .slice am p.msgs.length cm] 29)).alloc (.cells #[.string q.name, .slice b0 q.pre0.length d0, .slice b1 q.pre1.length d1, .slice bm q.msgs.length dm] 29) = W at x y H ⊢
  refine (few_any _ p W (hp0.bl H)).mono ?_
  rintro e w1 ⟨rfl, hb1⟩
  have x1 := x.bl hb1
  have y1 := y.bl hb1
  have H1 := H.trans hb1
  cases hfp : fewB p
  · go_wp2_with fail
    refine (awake5_any w1 (shaped_bl hE H1)).mono ?_
    rintro e w3 ⟨rfl, hb3⟩
    go_wp2
    exact bodyPost_ret (v := .bool true) (by simp [results, Tryd.results6, go_sem]) rfl ⟨rfl, H1.trans hb3⟩
  · obtain ⟨p0, p1, p2, p3⟩ := x1.four
    obtain ⟨q0, q1, q2, q3⟩ := y1.four
    go_wp2_with fail
    refine (few_any _ q w1 (hq0.bl H1)).mono ?_
    rintro e w2 ⟨rfl, hb2⟩
    have x2 := x1.bl hb2
    have y2 := y1.bl hb2
    have H2 := H1.trans hb2
    obtain ⟨p0, p1, p2, p3⟩ := x2.four
    obtain ⟨q0, q1, q2, q3⟩ := y2.four
    cases hfq : fewB q
    · go_wp2_with fail
      refine (awake5_any w2 (shaped_bl hE H2)).mono ?_
      rintro e w3 ⟨rfl, hb3⟩
      go_wp2
      exact bodyPost_ret (v := .bool true) (by simp [results, Tryd.results6, go_sem]) rfl ⟨rfl, H2.trans hb3⟩
    · cases hrp : rightB p
      · go_wp2_with fail
        refine (print_no _ p w2 (hp0.bl H2) hrp).mono ?_
        rintro e w3 ⟨rfl, hb3⟩
        have y3 := y2.bl hb3
        have H3 := H2.trans hb3
        obtain ⟨q0, q1, q2, q3⟩ := y3.four
        cases hrq : rightB q
        · go_wp2_with fail
          refine (print_no _ q w3 (hq0.bl H3) hrq).mono ?_
          rintro e w4 ⟨rfl, hb4⟩
          go_wp2_with fail
          refine (awake5_any w4 (shaped_bl hE (H3.trans hb4))).mono ?_
          rintro e w5 ⟨rfl, hb5⟩
          go_wp2
          exact bodyPost_ret (v := .bool true) (by simp [results, Tryd.results6, go_sem]) rfl ⟨rfl, (H3.trans hb4).trans hb5⟩
        · go_wp2_with fail
          refine (print_yes _ q w3 (hq0.bl H3) hrq).mono ?_
          rintro e w4 ⟨rfl, hb4⟩
          go_wp2_with fail
          refine (awake5_any w4 (shaped_bl hE (H3.trans hb4))).mono ?_
          rintro e w5 ⟨rfl, hb5⟩
          go_wp2
          exact bodyPost_ret (v := .bool true) (by simp [results, Tryd.results6, go_sem]) rfl ⟨rfl, (H3.trans hb4).trans hb5⟩
      · go_wp2_with fail
        refine (print_yes _ p w2 (hp0.bl H2) hrp).mono ?_
        rintro e w3 ⟨rfl, hb3⟩
        have x3 := x2.bl hb3
        have y3 := y2.bl hb3
        have H3 := H2.trans hb3
        obtain ⟨q0, q1, q2, q3⟩ := y3.four
        cases hrq : rightB q
        · go_wp2_with fail
          refine (print_no _ q w3 (hq0.bl H3) hrq).mono ?_
          rintro e w4 ⟨rfl, hb4⟩
          go_wp2_with fail
          refine (awake5_any w4 (shaped_bl hE (H3.trans hb4))).mono ?_
          rintro e w5 ⟨rfl, hb5⟩
          go_wp2
          exact bodyPost_ret (v := .bool true) (by simp [results, Tryd.results6, go_sem]) rfl ⟨rfl, (H3.trans hb4).trans hb5⟩
        · go_wp2_with fail
          refine (print_yes _ q w3 (hq0.bl H3) hrq).mono ?_
          rintro e w4 ⟨rfl, hb4⟩
          have x4 := x3.bl hb4
          have y4 := y3.bl hb4
          have H4 := H3.trans hb4
          obtain ⟨p0, p1, p2, p3⟩ := x4.four
          obtain ⟨q0, q1, q2, q3⟩ := y4.four
          have ht := apart_test hrp hrq
          go_wp2_with fail
          refine (same_any _ _ p q w4 (hp0.bl H4) (hq0.bl H4)).mono ?_
          rintro e w5 ⟨rfl, hb5⟩
          go_wp2_with fail
          refine (awake5_any w5 (shaped_bl hE (H4.trans hb5))).mono ?_
          rintro e w6 ⟨rfl, hb6⟩
          go_wp2
          exact bodyPost_ret (v := .bool true) (by simp [results, Tryd.results6, go_sem]) rfl ⟨rfl, (H4.trans hb5).trans hb6⟩
end Go.Proofs.YtkcmmcgbkihpfaaDoor
