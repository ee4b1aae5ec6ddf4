/- Walk: undertonelaw09.LevelMixes. -/
import Derived.Test.YtelloecgdiocoaaDoorL9a
import Derived.ChangeKeysEq
set_option linter.unusedSimpArgs false
set_option linter.unusedVariables false
namespace Go.Proofs.YtelloecgdiocoaaDoor
open Go.RowKit Go.Sort

theorem fieldsT9 : Tryd.prog.underlying 54 = some (.struct (Tryd.prog.fieldsOf 54)) := by kernel_rfl
theorem standT9 : Tryd.prog.stoodInHeld 54 = false := by kernel_rfl
theorem infoB0 : (Tryd.prog.info? 4).isSome = true := by kernel_rfl
theorem infoI0 : (Tryd.prog.info? 3).isSome = true := by kernel_rfl
theorem infoB1 : ∃ i, Tryd.prog.info? 4 = some i := Option.isSome_iff_exists.1 infoB0
theorem infoI1 : ∃ i, Tryd.prog.info? 3 = some i := Option.isSome_iff_exists.1 infoI0
theorem cellsB1 : Tryd.prog.cellsOf 4 = 1 := by kernel_rfl
theorem cellsI1 : Tryd.prog.cellsOf 3 = 1 := by kernel_rfl
theorem eqI2d (d : Nat) (i j : Int) (w : World) : (Op.equalIn (d + 2) 52 (.agg #[.int .i64 i, .int .i64 j]) (.agg #[.int .i64 i, .int .i64 j])).run Tryd.prog w = .ok true w := by
  obtain ⟨x, hx⟩ := infoI1
  rw [run_equalIn_array w (d + 1) _ _ Tryd.underlying52 hx, cellsI1]
  simp [Op.eqItems, List.range, List.range.loop, go_sem]
theorem eqB8d (d : Nat) (a b c d' e f g h : Bool) (w : World) : (Op.equalIn (d + 2) 51 (.agg #[.bool a, .bool b, .bool c, .bool d', .bool e, .bool f, .bool g, .bool h]) (.agg #[.bool a, .bool b, .bool c, .bool d', .bool e, .bool f, .bool g, .bool h])).run Tryd.prog w = .ok true w := by
  obtain ⟨x, hx⟩ := infoB1
  rw [run_equalIn_array w (d + 1) _ _ Tryd.underlying51 hx, cellsB1]
  simp [Op.eqItems, List.range, List.range.loop, go_sem]
theorem eqI2 (i j : Int) (w : World) : (Op.equalIn 10000 52 (.agg #[.int .i64 i, .int .i64 j]) (.agg #[.int .i64 i, .int .i64 j])).run Tryd.prog w = .ok true w := eqI2d 9998 i j w
theorem eqB8 (a b c d e f g h : Bool) (w : World) : (Op.equalIn 10000 51 (.agg #[.bool a, .bool b, .bool c, .bool d, .bool e, .bool f, .bool g, .bool h]) (.agg #[.bool a, .bool b, .bool c, .bool d, .bool e, .bool f, .bool g, .bool h])).run Tryd.prog w = .ok true w := eqB8d 9998 a b c d e f g h w
theorem eqTrk (a b c d e f g h : Bool) (i j : Int) (w : World) : (Op.equalIn 10000 54 (.agg #[.bool a, .bool b, .bool c, .bool d, .bool e, .bool f, .bool g, .bool h, .int .i64 i, .int .i64 j]) (.agg #[.bool a, .bool b, .bool c, .bool d, .bool e, .bool f, .bool g, .bool h, .int .i64 i, .int .i64 j])).run Tryd.prog w = .ok true w := by
  have h1 := eqB8d 9997 a b c d e f g h
  have h2 := eqI2d 9997 i j
  rw [run_equalIn_agg (hp := standT9) (ht := fieldsT9)]
  simp [go_sem, h1, h2]

theorem put_all (t : Trk) (x : Int) : t.put x = ⟨t.m0, t.m1 || decide (x = 1), t.m2 || decide (x = 2), t.m3 || decide (x = 3), t.m4 || decide (x = 4), t.m5 || decide (x = 5), t.m6 || decide (x = 6), t.m7 || decide (x = 7), t.l0, t.l1⟩ := by
  unfold Trk.put
  by_cases h1 : x = 1
  · subst h1; simp
  by_cases h2 : x = 2
  · subst h2; simp
  by_cases h3 : x = 3
  · subst h3; simp
  by_cases h4 : x = 4
  · subst h4; simp
  by_cases h5 : x = 5
  · subst h5; simp
  by_cases h6 : x = 6
  · subst h6; simp
  by_cases h7 : x = 7
  · subst h7; simp
  simp [h1, h2, h3, h4, h5, h6, h7]
theorem contains_cons9 (x n : Int) (l : List Int) : (x :: l).contains n = (decide (x = n) || l.contains n) := by
  rw [List.contains_cons]
  congr 1
  rw [Bool.eq_iff_iff, beq_iff_eq, decide_eq_true_eq]
  exact ⟨fun h => h.symm, fun h => h.symm⟩
theorem mix_all (l : List Int) : ∀ (t : Trk), t.mix l = ⟨t.m0, t.m1 || l.contains 1, t.m2 || l.contains 2, t.m3 || l.contains 3, t.m4 || l.contains 4, t.m5 || l.contains 5, t.m6 || l.contains 6, t.m7 || l.contains 7, t.l0, t.l1⟩ := by
  induction l with
  | nil => intro t; simp [Trk.mix]
  | cons x l ih =>
    intro t
    have e : t.mix (x :: l) = (t.put x).mix l := rfl
    rw [e, ih (t.put x), put_all]
    simp only [contains_cons9, Bool.or_assoc]
theorem mix_again (t : Trk) (l : List Int) : (t.mix l).mix l = t.mix l := by
  rw [mix_all l (t.mix l), mix_all l t]
  simp only [Bool.or_assoc, Bool.or_self]
/-- is token k met? -/
def Trk.met (t : Trk) (k : Nat) : Bool := [t.m0, t.m1, t.m2, t.m3, t.m4, t.m5, t.m6, t.m7].getD k false
theorem eight (k : Nat) (h : k < 8) : k = 0 ∨ k = 1 ∨ k = 2 ∨ k = 3 ∨ k = 4 ∨ k = 5 ∨ k = 6 ∨ k = 7 := by omega
theorem met_cell (t : Trk) (k : Nat) (h : k < 8) : t.cells[k]? = some (.bool (t.met k)) := by
  rcases eight k h with rfl | rfl | rfl | rfl | rfl | rfl | rfl | rfl <;> rfl
theorem met_mix (t : Trk) (l : List Int) (k : Nat) (h : k < 8) : (t.mix l).met k = (t.met k || (l.contains (k : Int) && decide (1 ≤ k))) := by
  rw [mix_all]
  rcases eight k h with rfl | rfl | rfl | rfl | rfl | rfl | rfl | rfl <;> simp [Trk.met]

set_option maxRecDepth 100000 in
set_option maxHeartbeats 8000000 in
theorem levelMixes_any (t : Trk) (v : Value) (l : List Int) (w : World) (hE : EnvB w) (hv : SI w v l) :
    Calls Tryd.prog 6 #[trkV t, v] w fun e w' => e = .returned (.bool true) ∧ Bl w w' := by
  have hq2 := eqI2
  have hqT := eqTrk
  obtain ⟨a, c, rfl⟩ := hv.form
  have hl := hv.len
  have x : BoxAt _ _ t.cells _ := BoxAt.new w t.cells.toArray 54
  have H : Bl w (w.alloc (.cells t.cells.toArray 54)) := (Bl.refl w).alloc _
  have HM := Lib.hid (met_mix t l)
  have HAG := Lib.hid (mix_again t l)
  have HL : Hid ((t.mix l).l0 = t.l0 ∧ (t.mix l).l1 = t.l1) := Lib.hid (by rw [mix_all]; exact ⟨rfl, rfl⟩)
  have HC := Lib.hid (met_cell t)
  have HCM := Lib.hid (met_cell (t.mix l))
  have cM := fun w h => mix_any t (.slice a l.length c) l w h
  generalize hm : t.mix l = m at *
  clear hm
  have cMM := fun w h => mix_any m (.slice a l.length c) l w h
  rw [HAG.out] at cMM
  obtain ⟨m0, m1, m2, m3, m4, m5, m6, m7, ml0, ml1⟩ := m
  obtain ⟨t0, t1, t2, t3, t4, t5, t6, t7, tl0, tl1⟩ := t
  obtain ⟨rfl, rfl⟩ : ml0 = tl0 ∧ ml1 = tl1 := HL.out
  clear HL HAG
  rw [trkV_eq]
  simp only [trkV_eq] at cM cMM
  go_enter Tryd.func6, Tryd.ntmps6
  simp only [Trk.cells] at x H
  by_cases h30 : 30 < l.length
  · have d : decide ((30 : Int) < (l.length : Int)) = true := by simp; omega
    go_wp2_with fail
    refine (awake9_any _ (hE.bl H)).mono ?_
    rintro e w3 ⟨rfl, hb3⟩
    go_wp2
    go_ret
    exact ⟨rfl, H.trans hb3⟩
  · have d : decide ((30 : Int) < (l.length : Int)) = false := by simp; omega
    go_wp2_with fail
    refine (cM _ (hv.bl H)).mono ?_
    rintro e w1 ⟨rfl, hb1⟩
    have x1 := (x.bl hb1).alloc (.cells #[.bool m0, .bool m1, .bool m2, .bool m3, .bool m4, .bool m5, .bool m6, .bool m7, .int .i64 ml0, .int .i64 ml1] 54)
    have y1 := BoxAt.new w1 #[.bool m0, .bool m1, .bool m2, .bool m3, .bool m4, .bool m5, .bool m6, .bool m7, .int .i64 ml0, .int .i64 ml1] 54
    have H1 := (H.trans hb1).alloc (.cells #[.bool m0, .bool m1, .bool m2, .bool m3, .bool m4, .bool m5, .bool m6, .bool m7, .int .i64 ml0, .int .i64 ml1] 54)
    clear cM x hb1
    go_upto_region 4 with fail
    generalize hW : w1.alloc (.cells #[.bool m0, .bool m1, .bool m2, .bool m3, .bool m4, .bool m5, .bool m6, .bool m7, .int .i64 ml0, .int .i64 ml1] 54) = W at *
    generalize w1.heap.size = B at *
    clear hW
    have hvW := hv.bl H1
    go_wp2_with fail
    go_loopw [17] (fun i wr => ∃ k : Nat, k ≤ 8 ∧ i = .int .i64 k ∧ wr = W) (fun i _ => 8 - (intOf i).toNat)
    case atStart => exact ⟨0, by omega, rfl, rfl⟩
    case round =>
      obtain ⟨k, hk, rfl, rfl⟩ := hrel
      by_cases hk8 : k < 8
      · have dk : decide ((k : Int) < 8) = true := by simp; omega
        have ck := x1.cell k (HC.out k hk8)
        have cmk := y1.cell k (HCM.out k hk8)
        have hMk := HM.out k hk8
        generalize (Trk.mk t0 t1 t2 t3 t4 t5 t6 t7 ml0 ml1).met k = tk at *
        generalize (Trk.mk m0 m1 m2 m3 m4 m5 m6 m7 ml0 ml1).met k = mk at *
        have HMK := Lib.hid hMk
        clear hMk
        have b1 : decide ((1 : Int) ≤ (k : Int)) = decide (1 ≤ k) := by rw [Bool.eq_iff_iff]; simp; omega
        generalize hK1 : decide (1 ≤ k) = k1 at *
        clear hK1
        go_wp2_with fail
        go_loopw [7, 26] (fun x i wq => ∃ j : Nat, j ≤ l.length ∧ i = .int .i64 j ∧ x = .bool (tk || ((l.take j).contains (k : Int) && k1)) ∧ wq = wr) (fun _ i _ => l.length - (intOf i).toNat)
        case atStart => exact ⟨0, by omega, rfl, by simp, rfl⟩
        case round =>
          obtain ⟨j, hj, rfl, rfl, rfl⟩ := hrel
          by_cases hjl : j < l.length
          · have dj : decide ((j : Int) < (l.length : Int)) = true := by simp; omega
            obtain ⟨b', o', e', hct⟩ : ∃ b' o', a = some ⟨b', o', none⟩ ∧ wr.cell? ⟨b', o' + j, none⟩ = some (.int .i64 l[j]) := by
              obtain ⟨a', c', e, _, hc⟩ := hvW
              injection e with e1 _ _
              obtain ⟨b', o', e2, h2⟩ := hc j hjl
              exact ⟨b', o', e1.trans e2, h2⟩
            subst e'
            have HS : Hid ((l.take (j + 1)).contains (k : Int) = ((l.take j).contains (k : Int) || decide (l[j] = (k : Int)))) := Lib.hid (by
              rw [List.take_succ_eq_append_getElem hjl, Bool.eq_iff_iff]
              simp only [List.contains_iff_mem, List.mem_append, List.mem_singleton, Bool.or_eq_true, decide_eq_true_eq]
              exact or_congr Iff.rfl ⟨fun h => h.symm, fun h => h.symm⟩)
            generalize l[j] = y at *
            generalize (l.take j).contains (k : Int) = cj at *
            by_cases hy : y = (k : Int)
            · have dy : (y == (k : Int)) = true := by simpa using hy
              have dy' : decide (y = (k : Int)) = true := by simpa using hy
              clear hy
              cases tk <;> cases cj <;> cases k1
              all_goals
                go_wp2_with fail
                go_roundw
                case rel => exact ⟨j + 1, by omega, by go_num, by rw [HS.out, dy']; simp, by trivial⟩
                case measure => simp [intOf]; omega
            · have dy : (y == (k : Int)) = false := by simpa using hy
              have dy' : decide (y = (k : Int)) = false := by simpa using hy
              clear hy
              cases tk <;> cases cj <;> cases k1
              all_goals
                go_wp2_with fail
                go_roundw
                case rel => exact ⟨j + 1, by omega, by go_num, by rw [HS.out, dy']; simp, by trivial⟩
                case measure => simp [intOf]; omega
          · have dj : decide ((j : Int) < (l.length : Int)) = false := by simp; omega
            obtain rfl : j = l.length := by omega
            rw [List.take_length, ← HMK.out]
            have dm : (mk != mk) = false := by simp
            go_wp2_with fail
            go_roundw
            case rel => exact ⟨k + 1, by omega, by go_num, by trivial⟩
            case measure => simp [intOf]; omega
      · obtain rfl : k = 8 := by omega
        have p0 := cell_regrown (x1.cell 0 rfl)
        have q0 := cell_regrown (y1.cell 0 rfl)
        have p1 := cell_regrown (x1.cell 1 rfl)
        have q1 := cell_regrown (y1.cell 1 rfl)
        have p2 := cell_regrown (x1.cell 2 rfl)
        have q2 := cell_regrown (y1.cell 2 rfl)
        have p3 := cell_regrown (x1.cell 3 rfl)
        have q3 := cell_regrown (y1.cell 3 rfl)
        have p4 := cell_regrown (x1.cell 4 rfl)
        have q4 := cell_regrown (y1.cell 4 rfl)
        have p5 := cell_regrown (x1.cell 5 rfl)
        have q5 := cell_regrown (y1.cell 5 rfl)
        have p6 := cell_regrown (x1.cell 6 rfl)
        have q6 := cell_regrown (y1.cell 6 rfl)
        have p7 := cell_regrown (x1.cell 7 rfl)
        have q7 := cell_regrown (y1.cell 7 rfl)
        have p8 := cell_regrown (x1.cell 8 rfl)
        have q8 := cell_regrown (y1.cell 8 rfl)
        have p9 := cell_regrown (x1.cell 9 rfl)
        have q9 := cell_regrown (y1.cell 9 rfl)
        go_upto_region 16 with fail
        refine wp_region_quiet_below (by kernel_rfl) (by kernel_rfl) ?_
        repeat (go_big_quiet_step ((first
          | (go_at_call 26; with_reducible exact Calls.regrown_of (cMM _ (hvW.bl (below_regrown wr _ _))))
          | (go_at_call 19; with_reducible exact Calls.regrown_of (awake9_any _ (hE.bl (H1.trans (below_regrown wr _ _))))))))
        refine wpQuiet_nil ?_
        intro wq hwq
        obtain ⟨pq, rfl⟩ := hwq
        have hbq := below_regrown wr pq.d pq.os
        go_wp2
        go_ret
        exact ⟨rfl, H1.trans hbq⟩
end Go.Proofs.YtelloecgdiocoaaDoor
