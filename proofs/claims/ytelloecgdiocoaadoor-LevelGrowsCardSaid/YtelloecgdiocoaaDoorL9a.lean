/- Walks: what the level laws share: the told example. -/
import Derived.Test.YtelloecgdiocoaaDoorG4
import Derived.Test.YtelloecgdiocoaaDoorB3
import Derived.Lib.QuietBelow
import Derived.Laws.StructEq
set_option linter.unusedSimpArgs false
set_option linter.unusedVariables false
namespace Go.Proofs.YtelloecgdiocoaaDoor
open Go.RowKit Go.Sort

theorem fieldsL9 : Tryd.prog.underlying 37 = some (.struct (Tryd.prog.fieldsOf 37)) := by kernel_rfl
theorem standL9 : Tryd.prog.stoodInHeld 37 = false := by kernel_rfl
theorem eqLev (a b c d : Int) (w : World) : (Op.equalIn 10000 37 (.agg #[.int .i64 a, .int .i64 b]) (.agg #[.int .i64 c, .int .i64 d])).run Tryd.prog w = .ok (a == c && b == d) w := by
  rw [run_equalIn_agg (hp := standL9) (ht := fieldsL9)]
  simp [go_sem]
  by_cases h0 : a = c <;> by_cases h1 : b = d <;> simp [h0, h1]

def xxP : Pat := ⟨⟨#[88, 88]⟩, [], [], [⟨0, [1]⟩, ⟨1, [1, 3, 2, 4]⟩, ⟨0, [2, 5]⟩]⟩
theorem xx_base : baseP ⟨#[88, 88]⟩ = xxP ∧ baseE ⟨#[88, 88]⟩ = 0 := by decide +kernel
theorem xx_tab : tabE xxP 3 = 0 ∧ tabL xxP 3 = [(0, 0), (2, 1), (2, 5)] := by decide +kernel
theorem baseXX (w : World) (hE : EnvB w) :
    Calls Tryd.prog 17 #[.string ⟨#[88, 88]⟩] w fun e w' => ∃ v, e = .returned (.tuple #[v, .int .i64 0]) ∧ SP w' v xxP ∧ Bl w w' := by
  have := base_any ⟨#[88, 88]⟩ w hE
  rw [xx_base.1, xx_base.2] at this
  exact this
theorem tableXX (v : Value) (w : World) (h : SP w v xxP) :
    Calls Tryd.prog 18 #[v, .int .i64 3] w fun e w' => ∃ r, e = .returned (.tuple #[r, .int .i64 0]) ∧ SL w' r [(0, 0), (2, 1), (2, 5)] ∧ Bl w w' := by
  have := table_any v xxP 3 w h
  rw [xx_tab.1, xx_tab.2] at this
  exact this
theorem reachXX (w : World) : Calls Tryd.prog 28 #[.agg #[.int .i64 2, .int .i64 5], .agg #[.int .i64 2, .int .i64 1]] w fun e w' => e = .returned (.bool true) ∧ Bl w w' := reach_any 2 5 2 1 w

set_option maxRecDepth 100000 in
set_option maxHeartbeats 4000000 in
theorem awake9_any (w : World) (hE : EnvB w) :
    Calls Tryd.prog 19 #[] w fun e w' => e = .returned (.bool true) ∧ Bl w w' := by
  have hq := eqLev
  go_enter Tryd.func19, Tryd.ntmps19
  go_wp2_with fail
  refine (baseXX w hE).mono ?_
  rintro e w1 ⟨v, rfl, hs, hb⟩
  have hs0 := hs
  obtain ⟨v0, v1, vm, rfl, _, h0, h1, hm⟩ := hs
  obtain ⟨a0, c0, rfl⟩ := h0.form
  obtain ⟨a1, c1, rfl⟩ := h1.form
  obtain ⟨am, cm, rfl⟩ := hm.form
  clear h0 h1 hm
  have b1 : Bl w1 (w1.alloc (.cells #[.string ⟨#[88, 88]⟩, .slice a0 0 c0, .slice a1 0 c1, .slice am 3 cm] 29)) := (Bl.refl w1).alloc _
  have hs1 := hs0.bl b1
  have H1 := hb.trans b1
  go_wp2_with fail
  refine (tableXX _ _ hs1).mono ?_
  rintro e w2 ⟨r, rfl, hl, hb2⟩
  obtain ⟨a, c, rfl, ⟨_, hlc⟩, hc⟩ := hl
  obtain ⟨b, o, rfl, l00, l01⟩ := hc 0 (by decide)
  obtain ⟨b', o', e', l10, l11⟩ := hc 1 (by decide)
  injection e' with e'
  injection e' with e1 e2 _
  subst e1 e2
  obtain ⟨b', o', e', l20, l21⟩ := hc 2 (by decide)
  injection e' with e'
  injection e' with e1 e2 _
  subst e1 e2
  clear hc
  have H2 := H1.trans hb2
  simp only [List.getElem_cons_zero, List.getElem_cons_succ, Nat.zero_mul, Nat.add_zero, Nat.one_mul] at l00 l01 l10 l11 l20 l21
  go_wp2
  have g00 := cell_regrown l00
  have g01 := cell_regrown l01
  have g10 := cell_regrown l10
  have g11 := cell_regrown l11
  have g20 := cell_regrown l20
  have g21 := cell_regrown l21
  refine wp_region_quiet_below (by kernel_rfl) (by kernel_rfl) ?_
  repeat (go_big_quiet_step ((go_at_call 28; with_reducible exact Calls.regrown_of (reachXX _))))
  refine wpQuiet_nil ?_
  intro wq hwq
  obtain ⟨pq, rfl⟩ := hwq
  have hbq := below_regrown w2 pq.d pq.os
  go_wp2
  go_ret
  exact ⟨rfl, H2.trans hbq⟩
end Go.Proofs.YtelloecgdiocoaaDoor
