/- Walk: undertonelaw06.BaseFalls. -/
import Derived.Test.YtelloecgdiocoaaDoorL6a
set_option linter.unusedSimpArgs false
set_option linter.unusedVariables false
namespace Go.Proofs.YtelloecgdiocoaaDoor
open Go.RowKit Go.Sort

theorem fall_parts {p : Pat} (h : fallE p = 0) : rightB p = true ∧ rightB (fallP p) = true ∧ 1 ≤ (m0P p).t.length := by
  unfold fallE at h
  cases hr : rightB p
  · rw [hr] at h; simp at h
  · cases hb : fallBad p
    · obtain ⟨_, _, hl1, _, ho⟩ := right_parts hr
      refine ⟨rfl, ?_, ?_⟩
      · rw [fallBad] at hb
        simp only [Bool.or_eq_false_iff, Bool.not_eq_false'] at hb
        exact hb.2
      · have hm : m0P p ∈ p.msgs := by
          unfold m0P
          rw [List.getD_eq_getElem?_getD, List.getElem?_eq_getElem (show 0 < p.msgs.length by omega)]
          exact List.getElem_mem _
        have := (right_iff p).1 hr
        have hbad : badMsg (m0P p) = false := this.msgs _ hm
        rw [badMsg] at hbad
        simp only [Bool.or_eq_false_iff, decide_eq_false_iff_not] at hbad
        omega
    · rw [hr, hb] at h; simp at h
theorem fall_again {p : Pat} (h : fallE p = 0) : fallE (fallP p) = 13 := by
  obtain ⟨_, h1, h2⟩ := fall_parts h
  have hb : fallBad (fallP p) = true := by
    rw [fallBad]
    have : decide (0 < (fallP p).pre0.length) = true := by rw [decide_eq_true_eq]; exact h2
    rw [this]
    simp
  rw [fallE, h1, hb]
  rfl

set_option maxRecDepth 100000 in
set_option maxHeartbeats 8000000 in
theorem baseFalls_any (v : Value) (p : Pat) (w : World) (hE : Env w) (h : SP w v p) :
    Calls Tryd.prog 11 #[v] w fun e w' => e = .returned (.bool true) ∧ Bl w w' := by
  have hv := h
  obtain ⟨v0, v1, vm, rfl, hn, h0, h1, hm⟩ := h
  obtain ⟨a0, c0, rfl⟩ := h0.form
  obtain ⟨a1, c1, rfl⟩ := h1.form
  obtain ⟨am, cm, rfl⟩ := hm.form
  clear h0 h1
  have x := BoxAt.new w #[.string p.name, .slice a0 p.pre0.length c0, .slice a1 p.pre1.length c1, .slice am p.msgs.length cm] 29
  have H : Bl w (w.alloc (.cells #[.string p.name, .slice a0 p.pre0.length c0, .slice a1 p.pre1.length c1, .slice am p.msgs.length cm] 29)) := (Bl.refl w).alloc _
  have HP := Lib.hid (@fall_parts p)
  have HAG := Lib.hid (@fall_again p)
  have HQ : Hid (fallE p = 0 → (if fallE p = 0 then fallP p else zeroP) = fallP p) := Lib.hid (fun h => by rw [if_pos h])
  have cK := fun u w h => fallback_any u p w h
  generalize hqq : (if fallE p = 0 then fallP p else zeroP) = q at *
  clear hqq
  generalize fallE p = E at *
  go_enter Tryd.func11, Tryd.ntmps11
  go_wp2_with fail
  refine (cK _ _ (hv.bl H)).mono ?_
  rintro e w1 ⟨u, rfl, hu, hb1⟩
  have hu0 := hu
  obtain ⟨u0, u1, um, rfl, _, i0, i1, im⟩ := hu
  obtain ⟨b0, d0, rfl⟩ := i0.form
  obtain ⟨b1, d1, rfl⟩ := i1.form
  obtain ⟨bm, dm, rfl⟩ := im.form
  clear i0 i1 im
  have al : Bl w1 (w1.alloc (.cells #[.string q.name, .slice b0 q.pre0.length d0, .slice b1 q.pre1.length d1, .slice bm q.msgs.length dm] 29)) := (Bl.refl w1).alloc _
  have y1 := BoxAt.new w1 #[.string q.name, .slice b0 q.pre0.length d0, .slice b1 q.pre1.length d1, .slice bm q.msgs.length dm] 29
  have x1 := (x.bl hb1).alloc (.cells #[.string q.name, .slice b0 q.pre0.length d0, .slice b1 q.pre1.length d1, .slice bm q.msgs.length dm] 29)
  have hu1 := hu0.bl al
  have H1 := (H.trans hb1).trans al
  have hlx : w.heap.size < w1.heap.size := (x.bl hb1).lt
  clear cK hu0 x H hb1
  go_upto_region 2 with fail
  generalize hW1 : w1.alloc (.cells #[.string q.name, .slice b0 q.pre0.length d0, .slice b1 q.pre1.length d1, .slice bm q.msgs.length dm] 29) = W1 at *
  clear hW1 al
  generalize w1.heap.size = B at *
  obtain ⟨g0, g1, g2, g3⟩ : _ ∧ _ ∧ _ ∧ _ := ⟨x1.cell 0 rfl, x1.cell 1 rfl, x1.cell 2 rfl, x1.cell 3 rfl⟩
  go_wp2_with fail
  refine (few_any _ p _ (hv.bl H1)).mono ?_
  rintro e w2 ⟨rfl, hb2⟩
  have x2 := x1.bl hb2
  have y2 := y1.bl hb2
  have hu2 := hu1.bl hb2
  have H2 := H1.trans hb2
  clear g0 g1 g2 g3 x1 y1 hu1 H1 hb2
  cases hfp : fewB p
  · go_wp2_with fail
    refine (awake6_any w2 (hE.bl H2)).mono ?_
    rintro e w3 ⟨rfl, hb3⟩
    go_wp2
    go_ret
    exact ⟨rfl, H2.trans hb3⟩
  · clear hfp
    by_cases he : E = 0
    · subst he
      obtain ⟨hr, hrq, hm1⟩ := HP.out (by trivial)
      have hag := HAG.out (by trivial)
      have hq := HQ.out (by trivial)
      subst hq
      have hl6 := (right_parts hr).2.2.2.1
      have hl1 := (right_parts hr).2.2.1
      have HRQ := Lib.hid hrq
      have HAG2 := Lib.hid hag
      clear HP HQ HAG hr hrq hag
      have HM0 : Hid (m0P p = p.msgs[0]) := Lib.hid (by simp [m0P, List.getD, List.getElem?_eq_getElem (show 0 < p.msgs.length by omega)])
      obtain ⟨bb, oo, u, rfl, _, hc1, hu'⟩ := (hm.bl H2).at 0 (by omega)
      rw [Nat.zero_mul, Nat.add_zero] at hc1
      rw [← HM0.out] at hu'
      have e0 : (fallP p).pre0 = (m0P p).t := rfl
      have e1 : (fallP p).pre1 = p.pre1 := rfl
      have e2 : (fallP p).msgs.length = p.msgs.length - 1 := List.length_tail
      rw [e0, e1, e2] at y2 hu2
      rw [e0, e1, e2]
      clear e0 e1 e2
      obtain ⟨ua, uc, rfl⟩ := hu'.form
      clear hu' HM0
      have hww : IntKind.i64.wrap ((p.msgs.length : Int) - 1) = ((p.msgs.length - 1 : Nat) : Int) := (IntWalk.i64_in _ (by omega)).trans (by omega)
      have hlt : decide ((0 : Int) < (p.msgs.length : Int)) = true := by rw [decide_eq_true_eq]; omega
      have cA := fun v w h => fallback_any v (fallP p) w h
      rw [HAG2.out] at cA
      have cR := fun v w h => rightBB_any v (fallP p) w h true HRQ.out
      generalize fallP p = fq at *
      obtain ⟨p1, p2, p3⟩ : _ ∧ _ ∧ _ := ⟨cell_regrown (x2.cell 1 rfl), cell_regrown (x2.cell 2 rfl), cell_regrown (x2.cell 3 rfl)⟩
      obtain ⟨k1, k2, k3⟩ : _ ∧ _ ∧ _ := ⟨cell_regrown (y2.cell 1 rfl), cell_regrown (y2.cell 2 rfl), cell_regrown (y2.cell 3 rfl)⟩
      have c1r := cell_regrown hc1
      generalize (m0P p).t.length = ml at *
      go_upto_region 4 with fail
      refine wp_region_quiet_below (by kernel_rfl) (by kernel_rfl) ?_
      repeat (go_big_quiet_step (fail))
      refine wpQuiet_nil ?_
      intro wq hwq
      obtain ⟨pq, rfl⟩ := hwq
      have hbq := below_regrown w2 pq.d pq.os
      clear p1 p2 p3 k1 k2 k3 c1r
      generalize grow (redrawn w2 pq.d) pq.os = wq at *
      have yq := y2.bl hbq
      have huq := hu2.bl hbq
      have Hq := H2.trans hbq
      obtain ⟨k0, k1, k2, k3⟩ : _ ∧ _ ∧ _ ∧ _ := ⟨yq.cell 0 rfl, yq.cell 1 rfl, yq.cell 2 rfl, yq.cell 3 rfl⟩
      go_wp2_with fail
      refine (cA _ _ huq).mono ?_
      rintro e w5 ⟨s, rfl, hs, hb5⟩
      have y5 := yq.bl hb5
      have hu5 := huq.bl hb5
      have H5 := Hq.trans hb5
      clear k0 k1 k2 k3 cA
      obtain ⟨s0, s1, sm, rfl, _, j0, j1, jm⟩ := hs
      obtain ⟨e0, l0, rfl⟩ := j0.form
      obtain ⟨e1, l1, rfl⟩ := j1.form
      obtain ⟨em, lm, rfl⟩ := jm.form
      clear j0 j1 jm
      generalize (if (13 : Int) = 0 then fallP fq else zeroP) = z at *
      have al : Bl w5 (w5.alloc (.cells #[.string z.name, .slice e0 z.pre0.length l0, .slice e1 z.pre1.length l1, .slice em z.msgs.length lm] 29)) := (Bl.refl w5).alloc _
      have y6 := y5.bl al
      have hu6 := hu5.bl al
      have H6 := H5.trans al
      obtain ⟨k0, k1, k2, k3⟩ : _ ∧ _ ∧ _ ∧ _ := ⟨y6.cell 0 rfl, y6.cell 1 rfl, y6.cell 2 rfl, y6.cell 3 rfl⟩
      go_wp2_with fail
      refine (cR _ _ hu6).mono ?_
      rintro e w7 ⟨rfl, hb7⟩
      go_wp2_with fail
      refine (awake6_any w7 (hE.bl (H6.trans hb7))).mono ?_
      rintro e w8 ⟨rfl, hb8⟩
      go_wp2
      go_ret
      exact ⟨rfl, (H6.trans hb7).trans hb8⟩
    · have de : (E != 0) = true := by simpa using he
      go_wp2_with fail
      refine (awake6_any w2 (hE.bl H2)).mono ?_
      rintro e w3 ⟨rfl, hb3⟩
      go_wp2
      go_ret
      exact ⟨rfl, H2.trans hb3⟩
end Go.Proofs.YtelloecgdiocoaaDoor
