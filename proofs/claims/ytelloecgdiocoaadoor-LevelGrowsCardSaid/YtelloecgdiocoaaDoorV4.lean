/- Walks: valid's state: token, of the DH tokens. -/
import Derived.Test.YtelloecgdiocoaaDoorV3
set_option linter.unusedSimpArgs false
set_option linter.unusedVariables false
namespace Go.Proofs.YtelloecgdiocoaaDoor
open Go.RowKit Go.Sort

theorem twoIdx0 (x y : Value) (w : World) : (Instr.index 52 (.agg #[x, y]) (.int .i64 0)).run Tryd.prog w = .ok x w := by kernel_rfl
theorem twoIdx1 (x y : Value) (w : World) : (Instr.index 52 (.agg #[x, y]) (.int .i64 1)).run Tryd.prog w = .ok y w := by kernel_rfl
theorem pair3_any (w : World) : Calls Tryd.prog 108 #[.int .i64 3] w fun e w' => e = .returned (.agg #[.int .i64 1, .int .i64 1]) ∧ Bl w w' := pair_any 3 w (by omega) (by omega)
theorem pair4_any (w : World) : Calls Tryd.prog 108 #[.int .i64 4] w fun e w' => e = .returned (.agg #[.int .i64 1, .int .i64 2]) ∧ Bl w w' := pair_any 4 w (by omega) (by omega)
theorem pair5_any (w : World) : Calls Tryd.prog 108 #[.int .i64 5] w fun e w' => e = .returned (.agg #[.int .i64 2, .int .i64 1]) ∧ Bl w w' := pair_any 5 w (by omega) (by omega)
theorem pair6_any (w : World) : Calls Tryd.prog 108 #[.int .i64 6] w fun e w' => e = .returned (.agg #[.int .i64 2, .int .i64 2]) ∧ Bl w w' := pair_any 6 w (by omega) (by omega)

set_option maxRecDepth 100000 in
set_option maxHeartbeats 4000000 in
theorem tok3_any (s : St) (who : Int) (B : Nat) (w : World) (hb : BoxAt w B (stV s) 106) :
    Calls Tryd.prog 95 #[.pointer (some ⟨B, 0, none⟩), .int .i64 who, .int .i64 3] w fun e w' => e = .returned (.int .i64 (tokS s who 3).1) ∧ BoxAt w' B (stV (tokS s who 3).2) 106 ∧ OB B w w' := by
  obtain ⟨z0, e0, s0, z1, e1, s1, m0, m1, m2, m3, m4, m5, m6, m7, mode, keyed⟩ := s
  go_enter Tryd.func95, Tryd.ntmps95
  have hlt := hb.lt
  have ix0 := twoIdx0
  have ix1 := twoIdx1
  have ca := hb.cell 1 rfl
  have cb := hb.cell 4 rfl
  have ga := cell_regrown ca
  have gb := cell_regrown cb
  cases e0
  · go_wp2
    refine wp_region_quiet_below (by kernel_rfl) (by kernel_rfl) ?_
    repeat (first | go_big_quiet_step ((go_at_call 108; exact Calls.regrown_of (pair3_any _))) | quiet_step ((go_at_call 108; exact Calls.regrown_of (pair3_any _))))
    refine wpQuiet_nil ?_
    intro wq hwq
    obtain ⟨pq, rfl⟩ := hwq
    have hbq := below_regrown w pq.d pq.os
    clear ga gb
    generalize grow (redrawn w pq.d) pq.os = wq at *
    have x1 := BoxAt.bl hb hbq
    have hbB : OB B w wq := OB.ofBl hbq hlt
    go_wp2
    go_ret
    exact ⟨ret_int (by simp [tokS, hasS, metS, metSet, pairA, pairB, stV]), by simpa [tokS, hasS, metS, metSet, pairA, pairB, stV] using x1, hbB⟩
  · cases e1
    · go_wp2
      refine wp_region_quiet_below (by kernel_rfl) (by kernel_rfl) ?_
      repeat (first | go_big_quiet_step ((go_at_call 108; exact Calls.regrown_of (pair3_any _))) | quiet_step ((go_at_call 108; exact Calls.regrown_of (pair3_any _))))
      refine wpQuiet_nil ?_
      intro wq hwq
      obtain ⟨pq, rfl⟩ := hwq
      have hbq := below_regrown w pq.d pq.os
      clear ga gb
      generalize grow (redrawn w pq.d) pq.os = wq at *
      have x1 := BoxAt.bl hb hbq
      have hbB : OB B w wq := OB.ofBl hbq hlt
      go_wp2
      go_ret
      exact ⟨ret_int (by simp [tokS, hasS, metS, metSet, pairA, pairB, stV]), by simpa [tokS, hasS, metS, metSet, pairA, pairB, stV] using x1, hbB⟩
    · go_wp2
      refine wp_region_quiet_below (by kernel_rfl) (by kernel_rfl) ?_
      repeat (first | go_big_quiet_step ((go_at_call 108; exact Calls.regrown_of (pair3_any _))) | quiet_step ((go_at_call 108; exact Calls.regrown_of (pair3_any _))))
      refine wpQuiet_nil ?_
      intro wq hwq
      obtain ⟨pq, rfl⟩ := hwq
      have hbq := below_regrown w pq.d pq.os
      clear ga gb
      generalize grow (redrawn w pq.d) pq.os = wq at *
      have x1 := BoxAt.bl hb hbq
      have hbB : OB B w wq := OB.ofBl hbq hlt
      have d9 := x1.cell 9 rfl
      have f9 := x1.free 9
      have d15 := x1.cell 15 rfl
      have f15 := x1.free 15
      have hlt1 := x1.lt
      cases m3
      · go_wp2
        go_ret
        exact ⟨ret_int (by simp [tokS, hasS, metS, metSet, pairA, pairB, stV]), by simpa [tokS, hasS, metS, metSet, pairA, pairB, stV] using (x1.set 9 (.bool true)).set 15 (.bool true), (hbB.set _ _).set _ _⟩
      · go_wp2
        go_ret
        exact ⟨ret_int (by simp [tokS, hasS, metS, metSet, pairA, pairB, stV]), by simpa [tokS, hasS, metS, metSet, pairA, pairB, stV] using x1, hbB⟩

set_option maxRecDepth 100000 in
set_option maxHeartbeats 4000000 in
theorem tok4_any (s : St) (who : Int) (B : Nat) (w : World) (hb : BoxAt w B (stV s) 106) :
    Calls Tryd.prog 95 #[.pointer (some ⟨B, 0, none⟩), .int .i64 who, .int .i64 4] w fun e w' => e = .returned (.int .i64 (tokS s who 4).1) ∧ BoxAt w' B (stV (tokS s who 4).2) 106 ∧ OB B w w' := by
  obtain ⟨z0, e0, s0, z1, e1, s1, m0, m1, m2, m3, m4, m5, m6, m7, mode, keyed⟩ := s
  go_enter Tryd.func95, Tryd.ntmps95
  have hlt := hb.lt
  have ix0 := twoIdx0
  have ix1 := twoIdx1
  have ca := hb.cell 1 rfl
  have cb := hb.cell 5 rfl
  have ga := cell_regrown ca
  have gb := cell_regrown cb
  cases e0
  · go_wp2
    refine wp_region_quiet_below (by kernel_rfl) (by kernel_rfl) ?_
    repeat (first | go_big_quiet_step ((go_at_call 108; exact Calls.regrown_of (pair4_any _))) | quiet_step ((go_at_call 108; exact Calls.regrown_of (pair4_any _))))
    refine wpQuiet_nil ?_
    intro wq hwq
    obtain ⟨pq, rfl⟩ := hwq
    have hbq := below_regrown w pq.d pq.os
    clear ga gb
    generalize grow (redrawn w pq.d) pq.os = wq at *
    have x1 := BoxAt.bl hb hbq
    have hbB : OB B w wq := OB.ofBl hbq hlt
    go_wp2
    go_ret
    exact ⟨ret_int (by simp [tokS, hasS, metS, metSet, pairA, pairB, stV]), by simpa [tokS, hasS, metS, metSet, pairA, pairB, stV] using x1, hbB⟩
  · cases s1
    · go_wp2
      refine wp_region_quiet_below (by kernel_rfl) (by kernel_rfl) ?_
      repeat (first | go_big_quiet_step ((go_at_call 108; exact Calls.regrown_of (pair4_any _))) | quiet_step ((go_at_call 108; exact Calls.regrown_of (pair4_any _))))
      refine wpQuiet_nil ?_
      intro wq hwq
      obtain ⟨pq, rfl⟩ := hwq
      have hbq := below_regrown w pq.d pq.os
      clear ga gb
      generalize grow (redrawn w pq.d) pq.os = wq at *
      have x1 := BoxAt.bl hb hbq
      have hbB : OB B w wq := OB.ofBl hbq hlt
      go_wp2
      go_ret
      exact ⟨ret_int (by simp [tokS, hasS, metS, metSet, pairA, pairB, stV]), by simpa [tokS, hasS, metS, metSet, pairA, pairB, stV] using x1, hbB⟩
    · go_wp2
      refine wp_region_quiet_below (by kernel_rfl) (by kernel_rfl) ?_
      repeat (first | go_big_quiet_step ((go_at_call 108; exact Calls.regrown_of (pair4_any _))) | quiet_step ((go_at_call 108; exact Calls.regrown_of (pair4_any _))))
      refine wpQuiet_nil ?_
      intro wq hwq
      obtain ⟨pq, rfl⟩ := hwq
      have hbq := below_regrown w pq.d pq.os
      clear ga gb
      generalize grow (redrawn w pq.d) pq.os = wq at *
      have x1 := BoxAt.bl hb hbq
      have hbB : OB B w wq := OB.ofBl hbq hlt
      have d10 := x1.cell 10 rfl
      have f10 := x1.free 10
      have d15 := x1.cell 15 rfl
      have f15 := x1.free 15
      have hlt1 := x1.lt
      cases m4
      · go_wp2
        go_ret
        exact ⟨ret_int (by simp [tokS, hasS, metS, metSet, pairA, pairB, stV]), by simpa [tokS, hasS, metS, metSet, pairA, pairB, stV] using (x1.set 10 (.bool true)).set 15 (.bool true), (hbB.set _ _).set _ _⟩
      · go_wp2
        go_ret
        exact ⟨ret_int (by simp [tokS, hasS, metS, metSet, pairA, pairB, stV]), by simpa [tokS, hasS, metS, metSet, pairA, pairB, stV] using x1, hbB⟩

set_option maxRecDepth 100000 in
set_option maxHeartbeats 4000000 in
theorem tok5_any (s : St) (who : Int) (B : Nat) (w : World) (hb : BoxAt w B (stV s) 106) :
    Calls Tryd.prog 95 #[.pointer (some ⟨B, 0, none⟩), .int .i64 who, .int .i64 5] w fun e w' => e = .returned (.int .i64 (tokS s who 5).1) ∧ BoxAt w' B (stV (tokS s who 5).2) 106 ∧ OB B w w' := by
  obtain ⟨z0, e0, s0, z1, e1, s1, m0, m1, m2, m3, m4, m5, m6, m7, mode, keyed⟩ := s
  go_enter Tryd.func95, Tryd.ntmps95
  have hlt := hb.lt
  have ix0 := twoIdx0
  have ix1 := twoIdx1
  have ca := hb.cell 2 rfl
  have cb := hb.cell 4 rfl
  have ga := cell_regrown ca
  have gb := cell_regrown cb
  cases s0
  · go_wp2
    refine wp_region_quiet_below (by kernel_rfl) (by kernel_rfl) ?_
    repeat (first | go_big_quiet_step ((go_at_call 108; exact Calls.regrown_of (pair5_any _))) | quiet_step ((go_at_call 108; exact Calls.regrown_of (pair5_any _))))
    refine wpQuiet_nil ?_
    intro wq hwq
    obtain ⟨pq, rfl⟩ := hwq
    have hbq := below_regrown w pq.d pq.os
    clear ga gb
    generalize grow (redrawn w pq.d) pq.os = wq at *
    have x1 := BoxAt.bl hb hbq
    have hbB : OB B w wq := OB.ofBl hbq hlt
    go_wp2
    go_ret
    exact ⟨ret_int (by simp [tokS, hasS, metS, metSet, pairA, pairB, stV]), by simpa [tokS, hasS, metS, metSet, pairA, pairB, stV] using x1, hbB⟩
  · cases e1
    · go_wp2
      refine wp_region_quiet_below (by kernel_rfl) (by kernel_rfl) ?_
      repeat (first | go_big_quiet_step ((go_at_call 108; exact Calls.regrown_of (pair5_any _))) | quiet_step ((go_at_call 108; exact Calls.regrown_of (pair5_any _))))
      refine wpQuiet_nil ?_
      intro wq hwq
      obtain ⟨pq, rfl⟩ := hwq
      have hbq := below_regrown w pq.d pq.os
      clear ga gb
      generalize grow (redrawn w pq.d) pq.os = wq at *
      have x1 := BoxAt.bl hb hbq
      have hbB : OB B w wq := OB.ofBl hbq hlt
      go_wp2
      go_ret
      exact ⟨ret_int (by simp [tokS, hasS, metS, metSet, pairA, pairB, stV]), by simpa [tokS, hasS, metS, metSet, pairA, pairB, stV] using x1, hbB⟩
    · go_wp2
      refine wp_region_quiet_below (by kernel_rfl) (by kernel_rfl) ?_
      repeat (first | go_big_quiet_step ((go_at_call 108; exact Calls.regrown_of (pair5_any _))) | quiet_step ((go_at_call 108; exact Calls.regrown_of (pair5_any _))))
      refine wpQuiet_nil ?_
      intro wq hwq
      obtain ⟨pq, rfl⟩ := hwq
      have hbq := below_regrown w pq.d pq.os
      clear ga gb
      generalize grow (redrawn w pq.d) pq.os = wq at *
      have x1 := BoxAt.bl hb hbq
      have hbB : OB B w wq := OB.ofBl hbq hlt
      have d11 := x1.cell 11 rfl
      have f11 := x1.free 11
      have d15 := x1.cell 15 rfl
      have f15 := x1.free 15
      have hlt1 := x1.lt
      cases m5
      · go_wp2
        go_ret
        exact ⟨ret_int (by simp [tokS, hasS, metS, metSet, pairA, pairB, stV]), by simpa [tokS, hasS, metS, metSet, pairA, pairB, stV] using (x1.set 11 (.bool true)).set 15 (.bool true), (hbB.set _ _).set _ _⟩
      · go_wp2
        go_ret
        exact ⟨ret_int (by simp [tokS, hasS, metS, metSet, pairA, pairB, stV]), by simpa [tokS, hasS, metS, metSet, pairA, pairB, stV] using x1, hbB⟩

set_option maxRecDepth 100000 in
set_option maxHeartbeats 4000000 in
theorem tok6_any (s : St) (who : Int) (B : Nat) (w : World) (hb : BoxAt w B (stV s) 106) :
    Calls Tryd.prog 95 #[.pointer (some ⟨B, 0, none⟩), .int .i64 who, .int .i64 6] w fun e w' => e = .returned (.int .i64 (tokS s who 6).1) ∧ BoxAt w' B (stV (tokS s who 6).2) 106 ∧ OB B w w' := by
  obtain ⟨z0, e0, s0, z1, e1, s1, m0, m1, m2, m3, m4, m5, m6, m7, mode, keyed⟩ := s
  go_enter Tryd.func95, Tryd.ntmps95
  have hlt := hb.lt
  have ix0 := twoIdx0
  have ix1 := twoIdx1
  have ca := hb.cell 2 rfl
  have cb := hb.cell 5 rfl
  have ga := cell_regrown ca
  have gb := cell_regrown cb
  cases s0
  · go_wp2
    refine wp_region_quiet_below (by kernel_rfl) (by kernel_rfl) ?_
    repeat (first | go_big_quiet_step ((go_at_call 108; exact Calls.regrown_of (pair6_any _))) | quiet_step ((go_at_call 108; exact Calls.regrown_of (pair6_any _))))
    refine wpQuiet_nil ?_
    intro wq hwq
    obtain ⟨pq, rfl⟩ := hwq
    have hbq := below_regrown w pq.d pq.os
    clear ga gb
    generalize grow (redrawn w pq.d) pq.os = wq at *
    have x1 := BoxAt.bl hb hbq
    have hbB : OB B w wq := OB.ofBl hbq hlt
    go_wp2
    go_ret
    exact ⟨ret_int (by simp [tokS, hasS, metS, metSet, pairA, pairB, stV]), by simpa [tokS, hasS, metS, metSet, pairA, pairB, stV] using x1, hbB⟩
  · cases s1
    · go_wp2
      refine wp_region_quiet_below (by kernel_rfl) (by kernel_rfl) ?_
      repeat (first | go_big_quiet_step ((go_at_call 108; exact Calls.regrown_of (pair6_any _))) | quiet_step ((go_at_call 108; exact Calls.regrown_of (pair6_any _))))
      refine wpQuiet_nil ?_
      intro wq hwq
      obtain ⟨pq, rfl⟩ := hwq
      have hbq := below_regrown w pq.d pq.os
      clear ga gb
      generalize grow (redrawn w pq.d) pq.os = wq at *
      have x1 := BoxAt.bl hb hbq
      have hbB : OB B w wq := OB.ofBl hbq hlt
      go_wp2
      go_ret
      exact ⟨ret_int (by simp [tokS, hasS, metS, metSet, pairA, pairB, stV]), by simpa [tokS, hasS, metS, metSet, pairA, pairB, stV] using x1, hbB⟩
    · go_wp2
      refine wp_region_quiet_below (by kernel_rfl) (by kernel_rfl) ?_
      repeat (first | go_big_quiet_step ((go_at_call 108; exact Calls.regrown_of (pair6_any _))) | quiet_step ((go_at_call 108; exact Calls.regrown_of (pair6_any _))))
      refine wpQuiet_nil ?_
      intro wq hwq
      obtain ⟨pq, rfl⟩ := hwq
      have hbq := below_regrown w pq.d pq.os
      clear ga gb
      generalize grow (redrawn w pq.d) pq.os = wq at *
      have x1 := BoxAt.bl hb hbq
      have hbB : OB B w wq := OB.ofBl hbq hlt
      have d12 := x1.cell 12 rfl
      have f12 := x1.free 12
      have d15 := x1.cell 15 rfl
      have f15 := x1.free 15
      have hlt1 := x1.lt
      cases m6
      · go_wp2
        go_ret
        exact ⟨ret_int (by simp [tokS, hasS, metS, metSet, pairA, pairB, stV]), by simpa [tokS, hasS, metS, metSet, pairA, pairB, stV] using (x1.set 12 (.bool true)).set 15 (.bool true), (hbB.set _ _).set _ _⟩
      · go_wp2
        go_ret
        exact ⟨ret_int (by simp [tokS, hasS, metS, metSet, pairA, pairB, stV]), by simpa [tokS, hasS, metS, metSet, pairA, pairB, stV] using x1, hbB⟩
end Go.Proofs.YtelloecgdiocoaaDoor
