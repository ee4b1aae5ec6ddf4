/- Walk: undertonelaw09.LevelReach. -/
import Derived.Test.YtelloecgdiocoaaDoorL9a
set_option linter.unusedSimpArgs false
set_option linter.unusedVariables false
namespace Go.Proofs.YtelloecgdiocoaaDoor
open Go.RowKit Go.Sort

theorem reachB_any (a b c d : Int) (r : Bool) (w : World) (h : (decide (c ≤ a) && decide (d ≤ b)) = r) : Calls Tryd.prog 28 #[.agg #[.int .i64 a, .int .i64 b], .agg #[.int .i64 c, .int .i64 d]] w fun e w' => e = .returned (.bool r) ∧ Bl w w' := by
  rw [← h]
  exact reach_any a b c d w
theorem BoxAt.cells2 {w : World} {B : Nat} {a b : Value} {T : TypeId} (h : BoxAt w B [a, b] T) : w.cell? ⟨B, 0, none⟩ = some a ∧ w.cell? ⟨B, 1, none⟩ = some b := ⟨h.cell 0 rfl, h.cell 1 rfl⟩
theorem reach_trans (a0 a1 b0 b1 c0 c1 : Int) (h : (decide (b0 ≤ a0) && decide (b1 ≤ a1)) = true) (k : (decide (c0 ≤ b0) && decide (c1 ≤ b1)) = true) : (decide (c0 ≤ a0) && decide (c1 ≤ a1)) = true := by
  simp only [Bool.and_eq_true, decide_eq_true_eq] at h k ⊢
  omega

set_option maxRecDepth 100000 in
set_option maxHeartbeats 4000000 in
theorem levelReach_any (a0 a1 b0 b1 c0 c1 : Int) (w : World) (hE : EnvB w) :
    Calls Tryd.prog 7 #[levV a0 a1, levV b0 b1, levV c0 c1] w fun e w' => e = .returned (.bool true) ∧ Bl w w' := by
  have x := ((BoxAt.new w #[.int .i64 a0, .int .i64 a1] 37).alloc (.cells #[.int .i64 b0, .int .i64 b1] 37)).alloc (.cells #[.int .i64 c0, .int .i64 c1] 37)
  have y := (BoxAt.new (w.alloc (.cells #[.int .i64 a0, .int .i64 a1] 37)) #[.int .i64 b0, .int .i64 b1] 37).alloc (.cells #[.int .i64 c0, .int .i64 c1] 37)
  have z := BoxAt.new ((w.alloc (.cells #[.int .i64 a0, .int .i64 a1] 37)).alloc (.cells #[.int .i64 b0, .int .i64 b1] 37)) #[.int .i64 c0, .int .i64 c1] 37
  have H : Bl w (((w.alloc (.cells #[.int .i64 a0, .int .i64 a1] 37)).alloc (.cells #[.int .i64 b0, .int .i64 b1] 37)).alloc (.cells #[.int .i64 c0, .int .i64 c1] 37)) := (((Bl.refl w).alloc _).alloc _).alloc _
  simp only [size_alloc] at y z
  have HT := Lib.hid (reach_trans a0 a1 b0 b1 c0 c1)
  unfold levV
  go_enter Tryd.func7, Tryd.ntmps7
  go_upto_region 1 with fail
  generalize ((w.alloc (.cells #[.int .i64 a0, .int .i64 a1] 37)).alloc (.cells #[.int .i64 b0, .int .i64 b1] 37)).alloc (.cells #[.int .i64 c0, .int .i64 c1] 37) = W at x y z H ⊢
  obtain ⟨p0, p1⟩ := x.cells2
  obtain ⟨q0, q1⟩ := y.cells2
  have g0 := cell_regrown p0
  have g1 := cell_regrown p1
  have h0 := cell_regrown q0
  have h1 := cell_regrown q1
  go_cut [22] from 7 to 22 (fun r wx => r = .bool false ∧ Bl W wx)
  case first =>
    generalize hR : (decide (b0 ≤ a0) && decide (b1 ≤ a1)) = R at *
    have HR := Lib.hid hR
    have HX : Hid (decide (b0 ≤ a0) = true → R = decide (b1 ≤ a1)) := Lib.hid (fun e => by rw [← hR, e, Bool.true_and])
    have HF : Hid (decide (b0 ≤ a0) = false → R = false) := Lib.hid (fun e => by rw [← hR, e, Bool.false_and])
    clear hR
    cases hd : decide (b0 ≤ a0)
    · have hR2 := HF.out hd
      subst hR2
      refine wp_region_quiet_below (by kernel_rfl) (by kernel_rfl) ?_
      repeat (go_big_quiet_step ((go_at_call 28; with_reducible exact Calls.regrown_of (reachB_any a0 a1 b0 b1 _ _ HR.out))))
      refine wpQuiet_nil ?_
      intro wq hwq
      obtain ⟨pq, rfl⟩ := hwq
      have hbq := below_regrown W pq.d pq.os
      go_wp2
      go_meet
      exact ⟨rfl, hbq⟩
    · have hR2 := HX.out hd
      subst hR2
      refine wp_region_quiet_below (by kernel_rfl) (by kernel_rfl) ?_
      repeat (go_big_quiet_step ((go_at_call 28; with_reducible exact Calls.regrown_of (reachB_any a0 a1 b0 b1 _ _ HR.out))))
      refine wpQuiet_nil ?_
      intro wq hwq
      obtain ⟨pq, rfl⟩ := hwq
      have hbq := below_regrown W pq.d pq.os
      go_wp2
      go_meet
      exact ⟨by simp, hbq⟩
  case rest =>
    obtain ⟨rfl, hb⟩ := hcut
    have x := x.bl hb
    have y := y.bl hb
    have z := z.bl hb
    have H := H.trans hb
    clear p0 p1 q0 q1 g0 g1 h0 h1
    obtain ⟨p0, p1⟩ := x.cells2
    obtain ⟨q0, q1⟩ := y.cells2
    generalize hR : (decide (b0 ≤ a0) && decide (b1 ≤ a1)) = R at *
    have HR := Lib.hid hR
    clear hR
    cases R
    · go_wp2_with fail
      refine (reachB_any a0 a1 b0 b1 _ _ HR.out).mono ?_
      rintro x1 w1 ⟨rfl, hb1⟩
      go_wp2_with fail
      refine (awake9_any w1 (hE.bl (H.trans hb1))).mono ?_
      rintro x2 w2 ⟨rfl, hb2⟩
      go_wp2
      go_ret
      exact ⟨rfl, (H.trans hb1).trans hb2⟩
    · go_wp2_with fail
      refine (reachB_any a0 a1 b0 b1 _ _ HR.out).mono ?_
      rintro x1 w1 ⟨rfl, hb1⟩
      have y1 := y.bl hb1
      have z1 := z.bl hb1
      have x1 := x.bl hb1
      have H1 := H.trans hb1
      clear p0 p1 q0 q1
      obtain ⟨q0, q1⟩ := y1.cells2
      obtain ⟨r0, r1⟩ := z1.cells2
      generalize hS : (decide (c0 ≤ b0) && decide (c1 ≤ b1)) = S at *
      have HSS := Lib.hid hS
      clear hS
      cases S
      · go_wp2_with fail
        refine (reachB_any b0 b1 c0 c1 _ _ HSS.out).mono ?_
        rintro x2 w2 ⟨rfl, hb2⟩
        go_wp2_with fail
        refine (awake9_any w2 (hE.bl (H1.trans hb2))).mono ?_
        rintro x3 w3 ⟨rfl, hb3⟩
        go_wp2
        go_ret
        exact ⟨rfl, (H1.trans hb2).trans hb3⟩
      · have HTT := Lib.hid (HT.out (by trivial) (by trivial))
        go_wp2_with fail
        refine (reachB_any b0 b1 c0 c1 _ _ HSS.out).mono ?_
        rintro x2 w2 ⟨rfl, hb2⟩
        have x2 := x1.bl hb2
        have z2 := z1.bl hb2
        have H2 := H1.trans hb2
        clear q0 q1 r0 r1
        obtain ⟨p0, p1⟩ := x2.cells2
        obtain ⟨r0, r1⟩ := z2.cells2
        go_wp2_with fail
        refine (reachB_any a0 a1 c0 c1 _ _ HTT.out).mono ?_
        rintro x3 w3 ⟨rfl, hb3⟩
        go_wp2_with fail
        refine (awake9_any w3 (hE.bl (H2.trans hb3))).mono ?_
        rintro x4 w4 ⟨rfl, hb4⟩
        go_wp2
        go_ret
        exact ⟨rfl, (H2.trans hb3).trans hb4⟩
end Go.Proofs.YtelloecgdiocoaaDoor
