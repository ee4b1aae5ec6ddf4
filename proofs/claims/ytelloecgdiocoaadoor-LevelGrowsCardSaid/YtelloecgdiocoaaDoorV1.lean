/- Walks of package valid: pair, mine. -/
import Derived.Test.YtelloecgdiocoaaDoorOwn
import Derived.Test.YtelloecgdiocoaaDoorS1
import Derived.Test.YtelloecgdiocoaaDoorProg
import Derived.Lib.QuietBelow
set_option linter.unusedSimpArgs false
set_option linter.unusedVariables false
namespace Go.Proofs.YtelloecgdiocoaaDoor
open Go.RowKit Go.Sort


def pairsArr : Value := .agg #[.int .i64 0, .int .i64 0, .int .i64 0, .int .i64 0, .int .i64 0, .int .i64 0, .int .i64 1, .int .i64 1, .int .i64 1, .int .i64 2, .int .i64 2, .int .i64 1, .int .i64 2, .int .i64 2, .int .i64 0, .int .i64 0]
theorem pairs3 (w : World) : (Instr.index 169 pairsArr (.int .i64 3)).run Tryd.prog w = .ok (.agg #[.int .i64 1, .int .i64 1]) w := by kernel_rfl
theorem pairs4 (w : World) : (Instr.index 169 pairsArr (.int .i64 4)).run Tryd.prog w = .ok (.agg #[.int .i64 1, .int .i64 2]) w := by kernel_rfl
theorem pairs5 (w : World) : (Instr.index 169 pairsArr (.int .i64 5)).run Tryd.prog w = .ok (.agg #[.int .i64 2, .int .i64 1]) w := by kernel_rfl
theorem pairs6 (w : World) : (Instr.index 169 pairsArr (.int .i64 6)).run Tryd.prog w = .ok (.agg #[.int .i64 2, .int .i64 2]) w := by kernel_rfl

set_option maxRecDepth 100000 in
set_option maxHeartbeats 1000000 in
theorem pair_any (t : Int) (w : World) (h3 : 3 ≤ t) (h6 : t ≤ 6) :
    Calls Tryd.prog 108 #[.int .i64 t] w fun e w' => e = .returned (.agg #[.int .i64 (pairA t), .int .i64 (pairB t)]) ∧ Bl w w' := by
  have p3 := pairs3
  have p4 := pairs4
  have p5 := pairs5
  have p6 := pairs6
  unfold pairsArr at p3 p4 p5 p6
  rcases (show t = 3 ∨ t = 4 ∨ t = 5 ∨ t = 6 by omega) with rfl | rfl | rfl | rfl
  · go_enter Tryd.func108, Tryd.ntmps108
    go_wp2
    exact bodyPost_ret (v := .agg #[.int .i64 1, .int .i64 1]) (by simp [results, Tryd.results108, go_sem]) rfl ⟨rfl, (Bl.refl _).alloc _⟩
  · go_enter Tryd.func108, Tryd.ntmps108
    go_wp2
    exact bodyPost_ret (v := .agg #[.int .i64 1, .int .i64 2]) (by simp [results, Tryd.results108, go_sem]) rfl ⟨rfl, (Bl.refl _).alloc _⟩
  · go_enter Tryd.func108, Tryd.ntmps108
    go_wp2
    exact bodyPost_ret (v := .agg #[.int .i64 2, .int .i64 1]) (by simp [results, Tryd.results108, go_sem]) rfl ⟨rfl, (Bl.refl _).alloc _⟩
  · go_enter Tryd.func108, Tryd.ntmps108
    go_wp2
    exact bodyPost_ret (v := .agg #[.int .i64 2, .int .i64 2]) (by simp [results, Tryd.results108, go_sem]) rfl ⟨rfl, (Bl.refl _).alloc _⟩

theorem eq1112 (w : World) : (Op.equalIn 10000 52 (.agg #[.int .i64 1, .int .i64 1]) (.agg #[.int .i64 1, .int .i64 2])).run Tryd.prog w = .ok false w := by kernel_rfl
theorem eq1121 (w : World) : (Op.equalIn 10000 52 (.agg #[.int .i64 1, .int .i64 1]) (.agg #[.int .i64 2, .int .i64 1])).run Tryd.prog w = .ok false w := by kernel_rfl
theorem eq1212 (w : World) : (Op.equalIn 10000 52 (.agg #[.int .i64 1, .int .i64 2]) (.agg #[.int .i64 1, .int .i64 2])).run Tryd.prog w = .ok true w := by kernel_rfl
theorem eq1221 (w : World) : (Op.equalIn 10000 52 (.agg #[.int .i64 1, .int .i64 2]) (.agg #[.int .i64 2, .int .i64 1])).run Tryd.prog w = .ok false w := by kernel_rfl
theorem eq2112 (w : World) : (Op.equalIn 10000 52 (.agg #[.int .i64 2, .int .i64 1]) (.agg #[.int .i64 1, .int .i64 2])).run Tryd.prog w = .ok false w := by kernel_rfl
theorem eq2121 (w : World) : (Op.equalIn 10000 52 (.agg #[.int .i64 2, .int .i64 1]) (.agg #[.int .i64 2, .int .i64 1])).run Tryd.prog w = .ok true w := by kernel_rfl
theorem eq2212 (w : World) : (Op.equalIn 10000 52 (.agg #[.int .i64 2, .int .i64 2]) (.agg #[.int .i64 1, .int .i64 2])).run Tryd.prog w = .ok false w := by kernel_rfl
theorem eq2221 (w : World) : (Op.equalIn 10000 52 (.agg #[.int .i64 2, .int .i64 2]) (.agg #[.int .i64 2, .int .i64 1])).run Tryd.prog w = .ok false w := by kernel_rfl
theorem pairA3 : pairA 3 = 1 := rfl
theorem pairB3 : pairB 3 = 1 := rfl
theorem pairA4 : pairA 4 = 1 := rfl
theorem pairB4 : pairB 4 = 2 := rfl
theorem pairA5 : pairA 5 = 2 := rfl
theorem pairB5 : pairB 5 = 1 := rfl

set_option maxRecDepth 100000 in
set_option maxHeartbeats 2000000 in
theorem mine_any (who own other : Int) (w : World) (ho : own = 1 ∧ other = 2 ∨ own = 2 ∧ other = 1) (hw : who = 0 ∨ who = 1) :
    Calls Tryd.prog 109 #[.int .i64 who, .int .i64 own, .int .i64 other] w fun e w' => e = .returned (.int .i64 (mineT who own other)) ∧ Bl w w' := by
  have e1112 := eq1112
  have e1121 := eq1121
  have e1212 := eq1212
  have e1221 := eq1221
  have e2112 := eq2112
  have e2121 := eq2121
  have e2212 := eq2212
  have e2221 := eq2221
  have a3 := pairA3
  have b3 := pairB3
  have a4 := pairA4
  have b4 := pairB4
  have a5 := pairA5
  have b5 := pairB5
  rcases ho with ⟨rfl, rfl⟩ | ⟨rfl, rfl⟩
  all_goals rcases hw with rfl | rfl
  · go_enter Tryd.func109, Tryd.ntmps109
    go_wp2
    go_loopw [8] (fun i wr => (i = .int .i64 3 ∨ i = .int .i64 4) ∧ wr.cell? ⟨w.heap.size, 0, none⟩ = some (.int .i64 1) ∧ wr.cell? ⟨w.heap.size, 1, none⟩ = some (.int .i64 2) ∧ Bl w wr) (fun i _ => 10 - (intOf i).toNat)
    case atStart => exact ⟨.inl rfl, by simp [go_sem], by simp [go_sem], (Bl.refl _).alloc _⟩
    case round =>
      obtain ⟨hi, hc0, hc1, hb⟩ := hrel
      have g0 := cell_regrown hc0
      have g1 := cell_regrown hc1
      rcases hi with rfl | rfl
      · go_wp2
        refine wp_region_quiet_below (by kernel_rfl) (by kernel_rfl) ?_
        repeat (quiet_step ((go_at_call 108; exact Calls.regrown_of (pair_any _ _ (by omega) (by omega)))))
        refine wpQuiet_nil ?_
        intro wq hwq
        obtain ⟨pq, rfl⟩ := hwq
        have hbq := below_regrown wr pq.d pq.os
        clear g0 g1
        generalize grow (redrawn wr pq.d) pq.os = wq at *
        go_wp2
        go_roundw
        case rel => exact ⟨.inr rfl, Bl.cellq hbq hc0, Bl.cellq hbq hc1, Bl.trans hb hbq⟩
        case measure => simp [intOf]
      · go_wp2
        refine wp_region_quiet_below (by kernel_rfl) (by kernel_rfl) ?_
        repeat (quiet_step ((go_at_call 108; exact Calls.regrown_of (pair_any _ _ (by omega) (by omega)))))
        refine wpQuiet_nil ?_
        intro wq hwq
        obtain ⟨pq, rfl⟩ := hwq
        have hbq := below_regrown wr pq.d pq.os
        clear g0 g1
        generalize grow (redrawn wr pq.d) pq.os = wq at *
        go_wp2
        go_ret
        exact ⟨rfl, Bl.trans hb hbq⟩
  · go_enter Tryd.func109, Tryd.ntmps109
    go_wp2
    go_loopw [8] (fun i wr => (i = .int .i64 3 ∨ i = .int .i64 4 ∨ i = .int .i64 5) ∧ wr.cell? ⟨w.heap.size, 0, none⟩ = some (.int .i64 2) ∧ wr.cell? ⟨w.heap.size, 1, none⟩ = some (.int .i64 1) ∧ Bl w wr) (fun i _ => 10 - (intOf i).toNat)
    case atStart => exact ⟨.inl rfl, by simp [go_sem], by simp [go_sem], (Bl.refl _).alloc _⟩
    case round =>
      obtain ⟨hi, hc0, hc1, hb⟩ := hrel
      have g0 := cell_regrown hc0
      have g1 := cell_regrown hc1
      rcases hi with rfl | rfl | rfl
      · go_wp2
        refine wp_region_quiet_below (by kernel_rfl) (by kernel_rfl) ?_
        repeat (quiet_step ((go_at_call 108; exact Calls.regrown_of (pair_any _ _ (by omega) (by omega)))))
        refine wpQuiet_nil ?_
        intro wq hwq
        obtain ⟨pq, rfl⟩ := hwq
        have hbq := below_regrown wr pq.d pq.os
        clear g0 g1
        generalize grow (redrawn wr pq.d) pq.os = wq at *
        go_wp2
        go_roundw
        case rel => exact ⟨.inr (.inl rfl), Bl.cellq hbq hc0, Bl.cellq hbq hc1, Bl.trans hb hbq⟩
        case measure => simp [intOf]
      · go_wp2
        refine wp_region_quiet_below (by kernel_rfl) (by kernel_rfl) ?_
        repeat (quiet_step ((go_at_call 108; exact Calls.regrown_of (pair_any _ _ (by omega) (by omega)))))
        refine wpQuiet_nil ?_
        intro wq hwq
        obtain ⟨pq, rfl⟩ := hwq
        have hbq := below_regrown wr pq.d pq.os
        clear g0 g1
        generalize grow (redrawn wr pq.d) pq.os = wq at *
        go_wp2
        go_roundw
        case rel => exact ⟨.inr (.inr rfl), Bl.cellq hbq hc0, Bl.cellq hbq hc1, Bl.trans hb hbq⟩
        case measure => simp [intOf]
      · go_wp2
        refine wp_region_quiet_below (by kernel_rfl) (by kernel_rfl) ?_
        repeat (quiet_step ((go_at_call 108; exact Calls.regrown_of (pair_any _ _ (by omega) (by omega)))))
        refine wpQuiet_nil ?_
        intro wq hwq
        obtain ⟨pq, rfl⟩ := hwq
        have hbq := below_regrown wr pq.d pq.os
        clear g0 g1
        generalize grow (redrawn wr pq.d) pq.os = wq at *
        go_wp2
        go_ret
        exact ⟨rfl, Bl.trans hb hbq⟩
  · go_enter Tryd.func109, Tryd.ntmps109
    go_wp2
    go_loopw [8] (fun i wr => (i = .int .i64 3 ∨ i = .int .i64 4 ∨ i = .int .i64 5) ∧ wr.cell? ⟨w.heap.size, 0, none⟩ = some (.int .i64 2) ∧ wr.cell? ⟨w.heap.size, 1, none⟩ = some (.int .i64 1) ∧ Bl w wr) (fun i _ => 10 - (intOf i).toNat)
    case atStart => exact ⟨.inl rfl, by simp [go_sem], by simp [go_sem], (Bl.refl _).alloc _⟩
    case round =>
      obtain ⟨hi, hc0, hc1, hb⟩ := hrel
      have g0 := cell_regrown hc0
      have g1 := cell_regrown hc1
      rcases hi with rfl | rfl | rfl
      · go_wp2
        refine wp_region_quiet_below (by kernel_rfl) (by kernel_rfl) ?_
        repeat (quiet_step ((go_at_call 108; exact Calls.regrown_of (pair_any _ _ (by omega) (by omega)))))
        refine wpQuiet_nil ?_
        intro wq hwq
        obtain ⟨pq, rfl⟩ := hwq
        have hbq := below_regrown wr pq.d pq.os
        clear g0 g1
        generalize grow (redrawn wr pq.d) pq.os = wq at *
        go_wp2
        go_roundw
        case rel => exact ⟨.inr (.inl rfl), Bl.cellq hbq hc0, Bl.cellq hbq hc1, Bl.trans hb hbq⟩
        case measure => simp [intOf]
      · go_wp2
        refine wp_region_quiet_below (by kernel_rfl) (by kernel_rfl) ?_
        repeat (quiet_step ((go_at_call 108; exact Calls.regrown_of (pair_any _ _ (by omega) (by omega)))))
        refine wpQuiet_nil ?_
        intro wq hwq
        obtain ⟨pq, rfl⟩ := hwq
        have hbq := below_regrown wr pq.d pq.os
        clear g0 g1
        generalize grow (redrawn wr pq.d) pq.os = wq at *
        go_wp2
        go_roundw
        case rel => exact ⟨.inr (.inr rfl), Bl.cellq hbq hc0, Bl.cellq hbq hc1, Bl.trans hb hbq⟩
        case measure => simp [intOf]
      · go_wp2
        refine wp_region_quiet_below (by kernel_rfl) (by kernel_rfl) ?_
        repeat (quiet_step ((go_at_call 108; exact Calls.regrown_of (pair_any _ _ (by omega) (by omega)))))
        refine wpQuiet_nil ?_
        intro wq hwq
        obtain ⟨pq, rfl⟩ := hwq
        have hbq := below_regrown wr pq.d pq.os
        clear g0 g1
        generalize grow (redrawn wr pq.d) pq.os = wq at *
        go_wp2
        go_ret
        exact ⟨rfl, Bl.trans hb hbq⟩
  · go_enter Tryd.func109, Tryd.ntmps109
    go_wp2
    go_loopw [8] (fun i wr => (i = .int .i64 3 ∨ i = .int .i64 4) ∧ wr.cell? ⟨w.heap.size, 0, none⟩ = some (.int .i64 1) ∧ wr.cell? ⟨w.heap.size, 1, none⟩ = some (.int .i64 2) ∧ Bl w wr) (fun i _ => 10 - (intOf i).toNat)
    case atStart => exact ⟨.inl rfl, by simp [go_sem], by simp [go_sem], (Bl.refl _).alloc _⟩
    case round =>
      obtain ⟨hi, hc0, hc1, hb⟩ := hrel
      have g0 := cell_regrown hc0
      have g1 := cell_regrown hc1
      rcases hi with rfl | rfl
      · go_wp2
        refine wp_region_quiet_below (by kernel_rfl) (by kernel_rfl) ?_
        repeat (quiet_step ((go_at_call 108; exact Calls.regrown_of (pair_any _ _ (by omega) (by omega)))))
        refine wpQuiet_nil ?_
        intro wq hwq
        obtain ⟨pq, rfl⟩ := hwq
        have hbq := below_regrown wr pq.d pq.os
        clear g0 g1
        generalize grow (redrawn wr pq.d) pq.os = wq at *
        go_wp2
        go_roundw
        case rel => exact ⟨.inr rfl, Bl.cellq hbq hc0, Bl.cellq hbq hc1, Bl.trans hb hbq⟩
        case measure => simp [intOf]
      · go_wp2
        refine wp_region_quiet_below (by kernel_rfl) (by kernel_rfl) ?_
        repeat (quiet_step ((go_at_call 108; exact Calls.regrown_of (pair_any _ _ (by omega) (by omega)))))
        refine wpQuiet_nil ?_
        intro wq hwq
        obtain ⟨pq, rfl⟩ := hwq
        have hbq := below_regrown wr pq.d pq.os
        clear g0 g1
        generalize grow (redrawn wr pq.d) pq.os = wq at *
        go_wp2
        go_ret
        exact ⟨rfl, Bl.trans hb hbq⟩

end Go.Proofs.YtelloecgdiocoaaDoor
