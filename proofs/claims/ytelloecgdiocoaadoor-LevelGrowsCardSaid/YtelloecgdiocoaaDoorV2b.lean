/- Walks: valid's state: sealing, of the responder. -/
import Derived.Test.YtelloecgdiocoaaDoorV1
import Derived.Test.YtelloecgdiocoaaDoorOwn
import Derived.Deep.DeepCutAuto
set_option linter.unusedSimpArgs false
set_option linter.unusedVariables false
namespace Go.Proofs.YtelloecgdiocoaaDoor
open Go.RowKit Go.Sort

theorem mine121 (w : World) : Calls Tryd.prog 109 #[.int .i64 1, .int .i64 2, .int .i64 1] w fun e w' => e = .returned (.int .i64 4) ∧ Bl w w' := mine_any 1 2 1 w (.inr ⟨rfl, rfl⟩) (.inr rfl)
theorem mine112 (w : World) : Calls Tryd.prog 109 #[.int .i64 1, .int .i64 1, .int .i64 2] w fun e w' => e = .returned (.int .i64 5) ∧ Bl w w' := mine_any 1 1 2 w (.inl ⟨rfl, rfl⟩) (.inr rfl)

set_option maxRecDepth 100000 in
set_option maxHeartbeats 4000000 in
theorem sealing1_any (s : St) (B : Nat) (w : World) (xw : BoxAt w B (stV s) 106) :
    Calls Tryd.prog 96 #[.pointer (some ⟨B, 0, none⟩), .int .i64 1] w fun e w' => e = .returned (.int .i64 (sealS s 1)) ∧ Bl w w' := by
  obtain ⟨z0, e0, s0, z1, e1, s1, m0, m1, m2, m3, m4, m5, m6, m7, mode, keyed⟩ := s
  have HS := Lib.hid (show sealS ⟨z0, e0, s0, z1, e1, s1, m0, m1, m2, m3, m4, m5, m6, m7, mode, keyed⟩ 1 = (if m4 && !m3 || m6 && !m5 then 5 else if m7 && !e1 then 6 else 0) from rfl)
  go_enter Tryd.func96, Tryd.ntmps96
  go_wp2
  go_cut [5] from 6 to 20 (fun p wx => p = .bool (m4 && !m3) ∧ BoxAt wx B (stV ⟨z0, e0, s0, z1, e1, s1, m0, m1, m2, m3, m4, m5, m6, m7, mode, keyed⟩) 106 ∧ Bl w wx)
  case first =>
    have H0 := Bl.refl w
    have c3 := xw.cell 9 rfl
    have ca := xw.cell 10 rfl
    have g3 := cell_regrown c3
    have ga := cell_regrown ca
    cases m4
    · refine wp_region_quiet_below (by kernel_rfl) (by kernel_rfl) ?_
      repeat (first | go_big_quiet_step ((go_at_call 109; exact Calls.regrown_of (mine121 _))) | quiet_step ((go_at_call 109; exact Calls.regrown_of (mine121 _))))
      refine wpQuiet_nil ?_
      intro q hwq
      obtain ⟨pq, rfl⟩ := hwq
      have b := below_regrown w pq.d pq.os
      clear g3 ga
      generalize grow (redrawn w pq.d) pq.os = q at *
      go_wp2
      go_meet
      exact ⟨rfl, BoxAt.bl xw b, Bl.trans H0 b⟩
    · cases m3
      · refine wp_region_quiet_below (by kernel_rfl) (by kernel_rfl) ?_
        repeat (first | go_big_quiet_step ((go_at_call 109; exact Calls.regrown_of (mine121 _))) | quiet_step ((go_at_call 109; exact Calls.regrown_of (mine121 _))))
        refine wpQuiet_nil ?_
        intro q hwq
        obtain ⟨pq, rfl⟩ := hwq
        have b := below_regrown w pq.d pq.os
        clear g3 ga
        generalize grow (redrawn w pq.d) pq.os = q at *
        go_wp2
        go_meet
        exact ⟨rfl, BoxAt.bl xw b, Bl.trans H0 b⟩
      · refine wp_region_quiet_below (by kernel_rfl) (by kernel_rfl) ?_
        repeat (first | go_big_quiet_step ((go_at_call 109; exact Calls.regrown_of (mine121 _))) | quiet_step ((go_at_call 109; exact Calls.regrown_of (mine121 _))))
        refine wpQuiet_nil ?_
        intro q hwq
        obtain ⟨pq, rfl⟩ := hwq
        have b := below_regrown w pq.d pq.os
        clear g3 ga
        generalize grow (redrawn w pq.d) pq.os = q at *
        go_wp2
        go_meet
        exact ⟨rfl, BoxAt.bl xw b, Bl.trans H0 b⟩
  case rest =>
    obtain ⟨rfl, xw, H0⟩ := hcut
    generalize hA : (m4 && !m3) = bA at *
    have HA := Lib.hid hA
    clear hA
    cases bA
    · go_wp2
      go_cut [5] from 21 to 35 (fun p wx => p = .bool (m6 && !m5) ∧ BoxAt wx B (stV ⟨z0, e0, s0, z1, e1, s1, m0, m1, m2, m3, m4, m5, m6, m7, mode, keyed⟩) 106 ∧ Bl w wx)
      case first =>
        have c6 := xw.cell 12 rfl
        have cb := xw.cell 11 rfl
        have g6 := cell_regrown c6
        have gb := cell_regrown cb
        cases m6
        · refine wp_region_quiet_below (by kernel_rfl) (by kernel_rfl) ?_
          repeat (first | go_big_quiet_step ((go_at_call 109; exact Calls.regrown_of (mine112 _))) | quiet_step ((go_at_call 109; exact Calls.regrown_of (mine112 _))))
          refine wpQuiet_nil ?_
          intro q hwq
          obtain ⟨pq, rfl⟩ := hwq
          have b := below_regrown wc pq.d pq.os
          clear g6 gb
          generalize grow (redrawn wc pq.d) pq.os = q at *
          go_wp2
          go_meet
          exact ⟨rfl, BoxAt.bl xw b, Bl.trans H0 b⟩
        · cases m5
          · refine wp_region_quiet_below (by kernel_rfl) (by kernel_rfl) ?_
            repeat (first | go_big_quiet_step ((go_at_call 109; exact Calls.regrown_of (mine112 _))) | quiet_step ((go_at_call 109; exact Calls.regrown_of (mine112 _))))
            refine wpQuiet_nil ?_
            intro q hwq
            obtain ⟨pq, rfl⟩ := hwq
            have b := below_regrown wc pq.d pq.os
            clear g6 gb
            generalize grow (redrawn wc pq.d) pq.os = q at *
            go_wp2
            go_meet
            exact ⟨rfl, BoxAt.bl xw b, Bl.trans H0 b⟩
          · refine wp_region_quiet_below (by kernel_rfl) (by kernel_rfl) ?_
            repeat (first | go_big_quiet_step ((go_at_call 109; exact Calls.regrown_of (mine112 _))) | quiet_step ((go_at_call 109; exact Calls.regrown_of (mine112 _))))
            refine wpQuiet_nil ?_
            intro q hwq
            obtain ⟨pq, rfl⟩ := hwq
            have b := below_regrown wc pq.d pq.os
            clear g6 gb
            generalize grow (redrawn wc pq.d) pq.os = q at *
            go_wp2
            go_meet
            exact ⟨rfl, BoxAt.bl xw b, Bl.trans H0 b⟩
      case rest =>
        obtain ⟨rfl, xw, H1⟩ := hcut
        generalize hB : (m6 && !m5) = bB at *
        have HB := Lib.hid hB
        clear hB
        have c7 := xw.cell 13 rfl
        have ce := xw.cell 4 rfl
        cases bB
        · cases m7
          · go_wp2
            go_ret
            exact ⟨ret_int (by rw [HS.out]; rfl), H1⟩
          · cases e1
            · go_wp2
              go_ret
              exact ⟨ret_int (by rw [HS.out]; rfl), H1⟩
            · go_wp2
              go_ret
              exact ⟨ret_int (by rw [HS.out]; rfl), H1⟩
        · go_wp2
          go_ret
          exact ⟨ret_int (by rw [HS.out]; rfl), H1⟩
    · go_wp2
      go_ret
      exact ⟨ret_int (by rw [HS.out]; rfl), H0⟩
end Go.Proofs.YtelloecgdiocoaaDoor
