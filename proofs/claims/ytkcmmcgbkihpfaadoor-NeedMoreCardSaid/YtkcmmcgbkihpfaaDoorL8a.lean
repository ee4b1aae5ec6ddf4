/- Walks: what the need laws share: the told example. -/
import Derived.Test.YtkcmmcgbkihpfaaDoorN6
import Derived.Test.YtkcmmcgbkihpfaaDoorB3
set_option linter.unusedSimpArgs false
set_option linter.unusedVariables false
namespace Go.Proofs.YtkcmmcgbkihpfaaDoor
open Go.RowKit Go.Sort

def ikP : Pat := ⟨⟨#[73, 75]⟩, [], [2], [⟨0, [1, 4, 2, 6]⟩, ⟨1, [1, 3, 5]⟩]⟩
theorem ik_base : baseP ⟨#[73, 75]⟩ = ikP ∧ baseE ⟨#[73, 75]⟩ = 0 := by decide +kernel
theorem ik_need0 : needK ikP 0 = ⟨true, false, true, false, 0⟩ ∧ needE ikP 0 = 0 := by decide +kernel
theorem ik_need1 : needK ikP 1 = ⟨true, false, false, false, 0⟩ ∧ needE ikP 1 = 0 := by decide +kernel
theorem baseIK (w : World) (hE : EnvB w) :
    Calls Tryd.prog 33 #[.string ⟨#[73, 75]⟩] w fun e w' => ∃ v, e = .returned (.tuple #[v, .int .i64 0]) ∧ SP w' v ikP ∧ Bl w w' := by
  have := base_any ⟨#[73, 75]⟩ w hE
  rw [ik_base.1, ik_base.2] at this
  exact this
theorem needIK0 (v : Value) (w : World) (h : SP w v ikP) :
    Calls Tryd.prog 25 #[v, .int .i64 0] w fun e w' => e = .returned (.tuple #[.agg #[.bool true, .bool false, .bool true, .bool false, .int .i64 0], .int .i64 0]) ∧ Bl w w' := by
  have := needOf_any v ikP 0 w h
  rw [ik_need0.1, ik_need0.2] at this
  exact this
theorem needIK1 (v : Value) (w : World) (h : SP w v ikP) :
    Calls Tryd.prog 25 #[v, .int .i64 1] w fun e w' => e = .returned (.tuple #[.agg #[.bool true, .bool false, .bool false, .bool false, .int .i64 0], .int .i64 0]) ∧ Bl w w' := by
  have := needOf_any v ikP 1 w h
  rw [ik_need1.1, ik_need1.2] at this
  exact this
theorem enoughBA (w : World) : Calls Tryd.prog 29 #[.agg #[.bool true, .bool false, .bool false, .bool false, .int .i64 0], .agg #[.bool true, .bool false, .bool true, .bool false, .int .i64 0]] w fun e w' => e = .returned (.bool true) ∧ Bl w w' :=
  enough_any ⟨true, false, false, false, 0⟩ ⟨true, false, true, false, 0⟩ w
theorem enoughAB (w : World) : Calls Tryd.prog 29 #[.agg #[.bool true, .bool false, .bool true, .bool false, .int .i64 0], .agg #[.bool true, .bool false, .bool false, .bool false, .int .i64 0]] w fun e w' => e = .returned (.bool false) ∧ Bl w w' :=
  enough_any ⟨true, false, true, false, 0⟩ ⟨true, false, false, false, 0⟩ w
theorem sendsIK (v : Value) (w : World) (h : SP w v ikP) : Calls Tryd.prog 31 #[v, .int .i64 1, .int .i64 1] w fun e w' => e = .returned (.bool true) ∧ Bl w w' :=
  sends_any v ikP 1 1 w h

set_option maxRecDepth 100000 in
set_option maxHeartbeats 4000000 in
theorem awake8_any (w : World) (hE : EnvB w) :
    Calls Tryd.prog 24 #[] w fun e w' => e = .returned (.bool true) ∧ Bl w w' := by
  have hq := eqKeys
  go_enter Tryd.func24, Tryd.ntmps24
  go_wp2_with fail
  refine (baseIK w hE).mono ?_
  rintro e w1 ⟨v, rfl, hs, hb⟩
  have hs0 := hs
  obtain ⟨v0, v1, vm, rfl, _, h0, h1, hm⟩ := hs
  obtain ⟨a0, c0, rfl⟩ := h0.form
  obtain ⟨a1, c1, rfl⟩ := h1.form
  obtain ⟨am, cm, rfl⟩ := hm.form
  clear h0 h1 hm
  have x1 := BoxAt.new w1 #[.string ⟨#[73, 75]⟩, .slice a0 0 c0, .slice a1 1 c1, .slice am 2 cm] 29
  have b1 : Bl w1 (w1.alloc (.cells #[.string ⟨#[73, 75]⟩, .slice a0 0 c0, .slice a1 1 c1, .slice am 2 cm] 29)) := (Bl.refl w1).alloc _
  have hs1 := hs0.bl b1
  have H1 := hb.trans b1
  go_wp2_with fail
  refine (needIK0 _ _ hs1).mono ?_
  rintro e w2 ⟨rfl, hb2⟩
  have x2 := (x1.bl hb2).alloc (.cells #[.bool true, .bool false, .bool true, .bool false, .int .i64 0] 47)
  have k2 := BoxAt.new w2 #[.bool true, .bool false, .bool true, .bool false, .int .i64 0] 47
  have b2 : Bl w2 (w2.alloc (.cells #[.bool true, .bool false, .bool true, .bool false, .int .i64 0] 47)) := (Bl.refl w2).alloc _
  have hs2 := (hs1.bl hb2).bl b2
  have H2 := (H1.trans hb2).trans b2
  obtain ⟨g0, g1, g2, g3⟩ : _ ∧ _ ∧ _ ∧ _ := ⟨x2.cell 0 rfl, x2.cell 1 rfl, x2.cell 2 rfl, x2.cell 3 rfl⟩
  go_wp2_with fail
  refine (needIK1 _ _ hs2).mono ?_
  rintro e w3 ⟨rfl, hb3⟩
  have x3 := (x2.bl hb3)
  have k3 := (k2.bl hb3)
  have hs3 := hs2.bl hb3
  have b3 : Bl w3 (w3.alloc (.cells #[.bool true, .bool false, .bool false, .bool false, .int .i64 0] 47)) := (Bl.refl w3).alloc _
  have H3 := (H2.trans hb3).trans b3
  clear g0 g1 g2 g3
  obtain ⟨q0, q1, q2, q3, q4⟩ := (k3.bl b3).cells5
  have l3 := BoxAt.new w3 #[.bool true, .bool false, .bool false, .bool false, .int .i64 0] 47
  go_wp2_with fail
  refine (enoughBA _).mono ?_
  rintro e w4 ⟨rfl, hb4⟩
  have k4 := (k3.bl b3).bl hb4
  have l4 := l3.bl hb4
  have x4 := (x3.bl b3).bl hb4
  have hs4 := (hs3.bl b3).bl hb4
  clear q0 q1 q2 q3 q4
  obtain ⟨q0, q1, q2, q3, q4⟩ := k4.cells5
  obtain ⟨r0, r1, r2, r3, r4⟩ := l4.cells5
  go_wp2_with fail
  refine (enoughAB _).mono ?_
  rintro e w5 ⟨rfl, hb5⟩
  have x5 := x4.bl hb5
  have hs5 := hs4.bl hb5
  obtain ⟨g0, g1, g2, g3⟩ : _ ∧ _ ∧ _ ∧ _ := ⟨x5.cell 0 rfl, x5.cell 1 rfl, x5.cell 2 rfl, x5.cell 3 rfl⟩
  go_wp2_with fail
  refine (sendsIK _ _ hs5).mono ?_
  rintro e w6 ⟨rfl, hb6⟩
  go_wp2
  go_ret
  exact ⟨rfl, ((H3.trans hb4).trans hb5).trans hb6⟩
end Go.Proofs.YtkcmmcgbkihpfaaDoor
