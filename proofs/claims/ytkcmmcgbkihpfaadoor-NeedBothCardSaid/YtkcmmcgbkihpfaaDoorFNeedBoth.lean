/- The card of NeedBoth: for every argument, wherever the listed tables are as laid, the law returns true. -/
import Derived.Test.YtkcmmcgbkihpfaaDoorL8b
import Derived.Test.YtkcmmcgbkihpfaaDoorW7
import Derived.Test.YtkcmmcgbkihpfaaDoorW6
import Derived.Deep.DeepCutAuto
import Derived.Test.YtkcmmcgbkihpfaaDoorFrameN
set_option linter.unusedSimpArgs false
set_option linter.unusedVariables false
namespace Go.Proofs.YtkcmmcgbkihpfaaDoor
open Go.RowKit Go.Sort

theorem fieldsRK : Tryd.prog.underlying 52 = some (.struct (Tryd.prog.fieldsOf 52)) := by kernel_rfl
theorem standRK : Tryd.prog.stoodInHeld 52 = false := by kernel_rfl
theorem eqKeysR (a0 a1 a2 a3 b0 b1 b2 b3 : Bool) (n m : Int) (w : World) : (Op.equalIn 10000 52 (.agg #[.bool a0, .bool a1, .bool a2, .bool a3, .int .i64 n]) (.agg #[.bool b0, .bool b1, .bool b2, .bool b3, .int .i64 m])).run Tryd.prog w = .ok (a0 == b0 && (a1 == b1 && (a2 == b2 && (a3 == b3 && n == m)))) w := by
  rw [run_equalIn_agg (hp := standRK) (ht := fieldsRK)]
  simp [go_sem]
  by_cases h0 : a0 = b0 <;> by_cases h1 : a1 = b1 <;> by_cases h2 : a2 = b2 <;> by_cases h3 : a3 = b3 <;> by_cases h4 : n = m <;> simp [h0, h1, h2, h3, h4]
theorem chkR_e (p : Pat) : (chkR p).2.2 = 13 ∨ (chkR p).2.2 = 0 := by
  unfold chkR
  split
  · exact .inl rfl
  · split
    · exact .inl rfl
    · exact .inr rfl
theorem needRK_any (v : Value) (p : Pat) (role E : Int) (K : Keys) (w : World) (h : SP w v p) (h0 : needE p role = E) (hK : needK p role = K) :
    Calls Tryd.prog 25 #[v, .int .i64 role] w fun e w' => e = .returned (.tuple #[.agg #[.bool K.s, .bool K.e, .bool K.rs, .bool K.re, .int .i64 K.n], .int .i64 E]) ∧ Bl w w' := by
  have := needOf_any v p role w h
  rw [h0, hK] at this
  exact this
theorem refCheckE_any (v : Value) (p : Pat) (w : World) (h : SP w v p) (hr : rightB p = true) :
    Calls Tryd.prog 26 #[v] w fun e w' => e = .returned (.tuple #[.int .i64 (checkV p).1, .int .i64 (checkV p).2.1, .int .i64 (checkV p).2.2]) ∧ Bl w w' := by
  obtain ⟨_, _, hl1, hl6, hok⟩ := right_parts hr
  have := refCheck_any v p w h ((right_iff p).1 hr).small hok hl1
  rw [← chk_same p hl1 (by omega) hok] at this
  rw [show checkV p = chkR p by rw [checkV, if_pos hr]]
  exact this
theorem refCheckF_any (v : Value) (p : Pat) (E : Int) (w : World) (h : SP w v p) (hr : rightB p = true) (he : E = (checkV p).2.2) :
    Calls Tryd.prog 26 #[v] w fun e w' => ∃ a b : Int, e = .returned (.tuple #[.int .i64 a, .int .i64 b, .int .i64 E]) ∧ Bl w w' := by
  refine (refCheckE_any v p w h hr).mono fun e w' hh => ?_
  rw [← he] at hh
  exact ⟨_, _, hh⟩
theorem refOfK_any (v : Value) (p : Pat) (role : Int) (K : Keys) (hr : role = 0 ∨ role = 1) (w : World) (h : SP w v p) (hs : Small p) (hl : p.msgs.length ≤ 99) (hK : K = ofK p (allL p) role) :
    Calls Tryd.prog 28 #[v, .int .i64 role] w fun e w' => e = .returned (.agg #[.bool K.s, .bool K.e, .bool K.rs, .bool K.re, .int .i64 K.n]) ∧ Bl w w' := by
  have := refOf8_any v p role hr w h hs hl
  rw [← hK] at this
  exact this
theorem refRightB_any (v : Value) (p : Pat) (w : World) (h : SP w v p) (b : Bool) (hr : rightB p = b) :
    Calls Tryd.prog 18 #[v] w fun e w' => e = .returned (.bool b) ∧ Bl w w' := by
  rw [← hr]
  exact refRight_any v p w h

set_option maxRecDepth 100000 in
set_option maxHeartbeats 4000000 in
theorem needKeys_any (v : Value) (p : Pat) (role : Int) (w : World) (hE : EnvB w) (h : SP w v p) :
    Calls Tryd.prog 8 #[v, .int .i64 role] w fun e w' => e = .returned (.bool true) ∧ Bl w w' := by
  have hq := eqKeys
  have hv := h
  obtain ⟨v0, v1, vm, rfl, hn, h0, h1, hm⟩ := h
  obtain ⟨a0, c0, rfl⟩ := h0.form
  obtain ⟨a1, c1, rfl⟩ := h1.form
  obtain ⟨am, cm, rfl⟩ := hm.form
  clear h0 h1 hm
  have x := BoxAt.new w #[.string p.name, .slice a0 p.pre0.length c0, .slice a1 p.pre1.length c1, .slice am p.msgs.length cm] 29
  have H : Bl w (w.alloc (.cells #[.string p.name, .slice a0 p.pre0.length c0, .slice a1 p.pre1.length c1, .slice am p.msgs.length cm] 29)) := (Bl.refl w).alloc _
  go_enter Tryd.func8, Tryd.ntmps8
  go_wp2_with fail
  refine (few_any _ p _ (hv.bl H)).mono ?_
  rintro e w1 ⟨rfl, hb1⟩
  have x1 := x.bl hb1
  have H1 := H.trans hb1
  obtain ⟨g0, g1, g2, g3⟩ := x1.cells4
  cases hfp : fewB p
  · go_wp2_with fail
    refine (awake8_any w1 (hE.bl H1)).mono ?_
    rintro e w2 ⟨rfl, hb2⟩
    go_wp2
    go_ret
    exact ⟨rfl, H1.trans hb2⟩
  · clear hfp
    generalize hEE : needE p role = E
    generalize hKK : needK p role = K
    have HEE := Lib.hid hEE
    have HKK := Lib.hid hKK
    clear hEE hKK
    obtain ⟨s, e, rs, re, n⟩ := K
    go_wp2_with fail
    refine (needRK_any _ p role E _ _ (hv.bl H1) HEE.out HKK.out).mono ?_
    rintro e' w2 ⟨rfl, hb2⟩
    simp only
    have al : Bl w2 (w2.alloc (.cells #[.bool s, .bool e, .bool rs, .bool re, .int .i64 n] 47)) := (Bl.refl w2).alloc _
    have k2 := BoxAt.new w2 #[.bool s, .bool e, .bool rs, .bool re, .int .i64 n] 47
    have x2 := (x1.bl hb2).bl al
    have H2 := (H1.trans hb2).trans al
    clear g0 g1 g2 g3
    obtain ⟨g0, g1, g2, g3⟩ := x2.cells4
    go_wp2_with fail
    refine (of_any _ p _ (hv.bl H2)).mono ?_
    rintro e' w3 ⟨u, rfl, hu, hb3⟩
    have hu0 := hu
    obtain ⟨u0, u1, um, rfl, _, i0, i1, im⟩ := hu
    obtain ⟨b0, d0, rfl⟩ := i0.form
    obtain ⟨b1, d1, rfl⟩ := i1.form
    obtain ⟨bm, dm, rfl⟩ := im.form
    clear i0 i1 im g0 g1 g2 g3 al
    have al : Bl w3 (w3.alloc (.cells #[.string p.name, .slice b0 p.pre0.length d0, .slice b1 p.pre1.length d1, .slice bm p.msgs.length dm] 37)) := (Bl.refl w3).alloc _
    have y3 := BoxAt.new w3 #[.string p.name, .slice b0 p.pre0.length d0, .slice b1 p.pre1.length d1, .slice bm p.msgs.length dm] 37
    have k3 := (k2.bl hb3).bl al
    have hu3 := hu0.bl al
    have H3 := (H2.trans hb3).trans al
    obtain ⟨q0, q1, q2, q3, q4⟩ := k3.cells5
    by_cases hbr : role = 0 ∨ role = 1
    · have hbf : badRole role = false := by rcases hbr with rfl | rfl <;> rfl
      have HEV : Hid (E = (checkV p).2.2) := Lib.hid (by rw [← HEE.out, needE, hbf]; rfl)
      cases hrb : rightB p
      · have hE1 : E = 1 := by rw [HEV.out, checkV, hrb]; rfl
        have hzk : needK p role = zeroK := by rw [needK, HEE.out, hE1]; rfl
        obtain ⟨rfl, rfl, rfl, rfl, rfl⟩ : s = false ∧ e = false ∧ rs = false ∧ re = false ∧ n = 0 := by
          have := HKK.out.symm.trans hzk
          simpa [zeroK] using this
        subst hE1
        clear hzk HKK HEE HEV
        have HRB := Lib.hid hrb
        clear hrb
        rcases hbr with rfl | rfl
        all_goals
          go_wp2_with fail
          refine (refRightB_any _ p _ hu3 false HRB.out).mono ?_
          rintro e' w4 ⟨rfl, hb4⟩
          have k4 := k3.bl hb4
          have H4 := H3.trans hb4
          clear q0 q1 q2 q3 q4
          obtain ⟨q0, q1, q2, q3, q4⟩ := k4.cells5
          go_wp2_with fail
          refine (awake8_any w4 (hE.bl H4)).mono ?_
          rintro e' w5 ⟨rfl, hb5⟩
          go_wp2
          go_ret
          exact ⟨rfl, H4.trans hb5⟩
      · have HRB := Lib.hid hrb
        have HCE : Hid (E = 13 ∨ E = 0) := Lib.hid (by rw [HEV.out, checkV, if_pos hrb]; exact chkR_e p)
        have HSM := Lib.hid ((right_iff p).1 hrb).small
        have HLN : Hid (p.msgs.length ≤ 99) := Lib.hid (by have := (right_parts hrb).2.2.2.1; omega)
        clear hrb
        have hq2 := eqKeysR
        have HBR := Lib.hid hbr
        have HOK : Hid (E = 0 → (⟨s, e, rs, re, n⟩ : Keys) = ofK p (allL p) role) := Lib.hid (fun h0 => by rw [← HKK.out, needK, HEE.out, if_pos h0])
        have HZK : Hid (E ≠ 0 → (⟨s, e, rs, re, n⟩ : Keys) = zeroK) := Lib.hid (fun h0 => by rw [← HKK.out, needK, HEE.out, if_neg h0])
        clear HKK HEE
        have d01 : (role != 0 && role != 1) = false := by rcases hbr with rfl | rfl <;> rfl
        clear d01 hbr
        rcases HBR.out with rfl | rfl
        all_goals
          go_wp2_with fail
          refine (refRightB_any _ p _ hu3 true HRB.out).mono ?_
          rintro e' w4 ⟨rfl, hb4⟩
          have y4 := y3.bl hb4
          have k4 := k3.bl hb4
          have hu4 := hu3.bl hb4
          have H4 := H3.trans hb4
          clear q0 q1 q2 q3 q4
          obtain ⟨g0, g1, g2, g3⟩ := y4.cells4
          go_wp2_with fail
          refine (refCheckF_any _ p E _ hu4 HRB.out HEV.out).mono ?_
          rintro e' w5 ⟨cr, cm', rfl, hb5⟩
          have y5 := y4.bl hb5
          have k5 := k4.bl hb5
          have hu5 := hu4.bl hb5
          have H5 := H4.trans hb5
          clear g0 g1 g2 g3
          obtain ⟨g0, g1, g2, g3⟩ := y5.cells4
          obtain ⟨q0, q1, q2, q3, q4⟩ := k5.cells5
          rcases HCE.out with rfl | rfl
          · obtain ⟨rfl, rfl, rfl, rfl, rfl⟩ : s = false ∧ e = false ∧ rs = false ∧ re = false ∧ n = 0 := by
              have := HZK.out (by decide)
              simpa [zeroK] using this
            clear HZK HOK HCE HEV
            go_wp2_with fail
            refine (awake8_any w5 (hE.bl H5)).mono ?_
            rintro e' w6 ⟨rfl, hb6⟩
            go_wp2
            go_ret
            exact ⟨rfl, H5.trans hb6⟩
          · have HK := Lib.hid (HOK.out rfl)
            clear HZK HOK HCE HEV
            go_wp2
            have r0 := cell_regrown q0
            have r1 := cell_regrown q1
            have r2 := cell_regrown q2
            have r3 := cell_regrown q3
            have r4 := cell_regrown q4
            have s0 := cell_regrown g0
            have s1 := cell_regrown g1
            have s2 := cell_regrown g2
            have s3 := cell_regrown g3
            refine wp_region_quiet_below (by kernel_rfl) (by kernel_rfl) ?_
            repeat (go_big_quiet_step ((first
              | (go_at_call 27; with_reducible exact Calls.regrown_of (ofL_any s e rs re n _))
              | (go_at_call 28; with_reducible exact Calls.regrown_of (refOfK_any _ p _ ⟨s, e, rs, re, n⟩ (by first | exact .inl rfl | exact .inr rfl) _ (hu5.bl (below_regrown w5 _ _)) HSM.out HLN.out HK.out))
              | (go_at_call 24; with_reducible exact Calls.regrown_of (awake8_any _ (hE.bl (H5.trans (below_regrown w5 _ _))))))))
            refine wpQuiet_nil ?_
            intro wq hwq
            obtain ⟨pq, rfl⟩ := hwq
            have hbq := below_regrown w5 pq.d pq.os
            go_wp2
            go_ret
            exact ⟨ret_bool (by simp), H5.trans hbq⟩
    · have d1 : (role != 0) = true := by simp; omega
      have d2 : (role != 1) = true := by simp; omega
      have hbt : badRole role = true := by simp only [badRole, Bool.or_eq_true, decide_eq_true_eq]; omega
      have hE1 : E = 1 := by rw [← HEE.out, needE, hbt]; rfl
      have hzk : needK p role = zeroK := by rw [needK, HEE.out, hE1]; rfl
      obtain ⟨rfl, rfl, rfl, rfl, rfl⟩ : s = false ∧ e = false ∧ rs = false ∧ re = false ∧ n = 0 := by
        have := HKK.out.symm.trans hzk
        simpa [zeroK] using this
      subst hE1
      clear hzk HKK HEE hbr hbt
      go_wp2_with fail
      refine (awake8_any _ (hE.bl H3)).mono ?_
      rintro e' w5 ⟨rfl, hb5⟩
      go_wp2
      go_ret
      exact ⟨rfl, H3.trans hb5⟩
end Go.Proofs.YtkcmmcgbkihpfaaDoor

set_option linter.unusedSimpArgs false
set_option linter.unusedVariables false
namespace Go.Proofs.YtkcmmcgbkihpfaaDoor
open Go.RowKit Go.Sort

theorem both_keys (p : Pat) (L : List (Int × Int)) : ∃ s0 e0 rs0 x n s1 rs1, ofK p L 0 = ⟨s0, e0, rs0, x, n⟩ ∧ ofK p L 1 = ⟨s1, x, rs1, e0, n⟩ ∧ (rs0 = true → s1 = true) ∧ (rs1 = true → s0 = true) := by
  refine ⟨_, _, _, _, _, _, _, rfl, rfl, fun h => ?_, fun h => ?_⟩
  · show told1 p L 1 2 = true
    unfold told1
    rw [Bool.or_eq_true]
    exact .inl h
  · show told1 p L 0 2 = true
    unfold told1
    rw [Bool.or_eq_true]
    exact .inl h
theorem sendsB_any (v : Value) (p : Pat) (role msg : Int) (w : World) (h : SP w v p) (b : Bool) (hb : sendB p role msg = b) :
    Calls Tryd.prog 31 #[v, .int .i64 role, .int .i64 msg] w fun e w' => e = .returned (.bool b) ∧ Bl w w' := by
  rw [← hb]
  exact sends_any v p role msg w h
theorem fewB_any (v : Value) (p : Pat) (w : World) (h : SP w v p) (b : Bool) (hb : fewB p = b) :
    Calls Tryd.prog 21 #[v] w fun e w' => e = .returned (.bool b) ∧ Bl w w' := by
  rw [← hb]
  exact few_any v p w h

set_option maxRecDepth 100000 in
set_option maxHeartbeats 8000000 in
theorem needBoth_any (v : Value) (p : Pat) (msg : Int) (w : World) (hE : EnvB w) (h : SP w v p) :
    Calls Tryd.prog 10 #[v, .int .i64 msg] w fun e w' => e = .returned (.bool true) ∧ Bl w w' := by
  have hv := h
  obtain ⟨v0, v1, vm, rfl, hn, h0, h1, hm⟩ := h
  obtain ⟨a0, c0, rfl⟩ := h0.form
  obtain ⟨a1, c1, rfl⟩ := h1.form
  obtain ⟨am, cm, rfl⟩ := hm.form
  have hlm := hm.len
  clear h0 h1 hm
  have x := BoxAt.new w #[.string p.name, .slice a0 p.pre0.length c0, .slice a1 p.pre1.length c1, .slice am p.msgs.length cm] 29
  have H : Bl w (w.alloc (.cells #[.string p.name, .slice a0 p.pre0.length c0, .slice a1 p.pre1.length c1, .slice am p.msgs.length cm] 29)) := (Bl.refl w).alloc _
  have HE0 : Hid (needE p 0 = (checkV p).2.2) := Lib.hid rfl
  have HE1 : Hid (needE p 1 = (checkV p).2.2) := Lib.hid rfl
  generalize hEE : (checkV p).2.2 = E at *
  generalize hK0 : needK p 0 = K0
  generalize hK1 : needK p 1 = K1
  have HEE := Lib.hid hEE
  have HK0 := Lib.hid hK0
  have HK1 := Lib.hid hK1
  clear hEE hK0 hK1
  obtain ⟨s0, e0, rs0, re0, n0⟩ := K0
  obtain ⟨s1, e1, rs1, re1, n1⟩ := K1
  go_enter Tryd.func10, Tryd.ntmps10
  go_wp2_with fail
  refine (needRK_any _ p 0 E _ _ (hv.bl H) HE0.out HK0.out).mono ?_
  rintro e' w1 ⟨rfl, hb1⟩
  simp only
  have al : Bl w1 (w1.alloc (.cells #[.bool s0, .bool e0, .bool rs0, .bool re0, .int .i64 n0] 47)) := (Bl.refl w1).alloc _
  have k1 := BoxAt.new w1 #[.bool s0, .bool e0, .bool rs0, .bool re0, .int .i64 n0] 47
  have x1 := (x.bl hb1).bl al
  have H1 := (H.trans hb1).trans al
  obtain ⟨g0, g1, g2, g3⟩ := x1.cells4
  go_wp2_with fail
  refine (needRK_any _ p 1 E _ _ (hv.bl H1) HE1.out HK1.out).mono ?_
  rintro e' w2 ⟨rfl, hb2⟩
  simp only
  clear al
  have al : Bl w2 (w2.alloc (.cells #[.bool s1, .bool e1, .bool rs1, .bool re1, .int .i64 n1] 47)) := (Bl.refl w2).alloc _
  have l2 := BoxAt.new w2 #[.bool s1, .bool e1, .bool rs1, .bool re1, .int .i64 n1] 47
  have k2 := (k1.bl hb2).bl al
  have x2 := (x1.bl hb2).bl al
  have H2 := (H1.trans hb2).trans al
  clear g0 g1 g2 g3
  obtain ⟨g0, g1, g2, g3⟩ := x2.cells4
  cases hfp : fewB p
  · have HFP := Lib.hid hfp
    clear hfp
    go_wp2_with fail
    refine (fewB_any _ p _ (hv.bl H2) false HFP.out).mono ?_
    rintro e' w3 ⟨rfl, hb3⟩
    have H3 := H2.trans hb3
    have x3 := x2.bl hb3
    clear g0 g1 g2 g3
    obtain ⟨g0, g1, g2, g3⟩ := x3.cells4
    go_wp2_with fail
    refine (fewB_any _ p _ (hv.bl H3) false HFP.out).mono ?_
    rintro e' w4 ⟨rfl, hb4⟩
    have H4 := H3.trans hb4
    have x4 := x3.bl hb4
    clear g0 g1 g2 g3
    obtain ⟨g0, g1, g2, g3⟩ := x4.cells4
    go_wp2_with fail
    refine (fewB_any _ p _ (hv.bl H4) false HFP.out).mono ?_
    rintro e' w5 ⟨rfl, hb5⟩
    have H5 := H4.trans hb5
    go_wp2_with fail
    refine (awake8_any w5 (hE.bl H5)).mono ?_
    rintro e' w6 ⟨rfl, hb6⟩
    go_wp2
    go_ret
    exact ⟨rfl, H5.trans hb6⟩
  · have HFP := Lib.hid hfp
    clear hfp
    go_wp2_with fail
    refine (fewB_any _ p _ (hv.bl H2) true HFP.out).mono ?_
    rintro e' w3 ⟨rfl, hb3⟩
    have H3 := H2.trans hb3
    have x3 := x2.bl hb3
    clear g0 g1 g2 g3
    obtain ⟨g0, g1, g2, g3⟩ := x3.cells4
    by_cases hz : E = 0
    · subst hz
      have hrb := checkV_ok HEE.out
      obtain ⟨_, _, hl1, hl6, hok⟩ := right_parts hrb
      have hKA : (⟨s0, e0, rs0, re0, n0⟩ : Keys) = ofK p (allL p) 0 := by rw [← HK0.out, needK, HE0.out, if_pos rfl]
      have hKB : (⟨s1, e1, rs1, re1, n1⟩ : Keys) = ofK p (allL p) 1 := by rw [← HK1.out, needK, HE1.out, if_pos rfl]
      obtain ⟨t0, f0, u0, x', m', t1, u1, hA, hB, hr0, hr1⟩ := both_keys p (allL p)
      rw [hA] at hKA
      rw [hB] at hKB
      injection hKA with z1 z2 z3 z4 z5
      injection hKB with z6 z7 z8 z9 z10
      subst z1 z2 z3 z4 z5 z6 z7 z8 z9 z10
      have HR0 := Lib.hid hr0
      have HR1 := Lib.hid hr1
      have HSB : Hid (∃ is b0 b1 : Bool, (decide (0 ≤ msg) && decide (msg < (p.msgs.length : Int))) = is ∧ sendB p 0 msg = b0 ∧ sendB p 1 msg = b1 ∧ ((is = true ∧ b0 = true ∧ b1 = false) ∨ (is = true ∧ b0 = false ∧ b1 = true) ∨ (is = false ∧ b0 = false ∧ b1 = false))) := Lib.hid (by
        refine ⟨_, _, _, rfl, rfl, rfl, ?_⟩
        by_cases hin : (decide (0 ≤ msg) && decide (msg < (p.msgs.length : Int))) = true
        · have h2 := hin
          simp only [Bool.and_eq_true, decide_eq_true_eq] at h2
          have hmn : msg.toNat < p.msgs.length := by omega
          have hw := (hok p.msgs[msg.toNat] (List.getElem_mem hmn)).1
          have hg : (p.msgs.getD msg.toNat ⟨2, []⟩).who = p.msgs[msg.toNat].who := by simp [hmn]
          unfold sendB
          rw [hin, hg]
          rcases hw with hw | hw
          · rw [hw]; exact .inl ⟨rfl, rfl, rfl⟩
          · rw [hw]; exact .inr (.inl ⟨rfl, rfl, rfl⟩)
        · have hf := Bool.eq_false_iff.2 hin
          unfold sendB
          rw [hf]
          exact .inr (.inr ⟨rfl, rfl, rfl⟩))
      clear hr0 hr1 hA hB hok hrb HE0 HE1 HK0 HK1 HEE
      have k3 := k2.bl hb3
      have l3 := l2.bl hb3
      obtain ⟨is, b0, b1, his, hb0, hb1', hcase⟩ := HSB.out
      have B0 := Lib.hid hb0
      have B1 := Lib.hid hb1'
      have HIS := Lib.hid his
      clear HSB hb0 hb1' his
      go_upto_region 5 with fail
      go_cut [9] from 49 to 57 (fun v wx => v = .bool is ∧ wx = w3)
      case first =>
        clear hcase
        have h := HIS.out
        by_cases hm0 : 0 ≤ msg
        · have d0 : decide (0 ≤ msg) = true := by simp [hm0]
          rw [d0, Bool.true_and] at h
          clear hm0
          cases is
          · go_wp2
            go_meet
            exact ⟨rfl, rfl⟩
          · go_wp2
            go_meet
            exact ⟨rfl, rfl⟩
        · have d0 : decide (0 ≤ msg) = false := by simp; omega
          rw [d0, Bool.false_and] at h
          subst h
          clear hm0
          go_wp2
          go_meet
          exact ⟨rfl, rfl⟩
      case rest =>
        obtain ⟨rfl, rfl⟩ := hcut
        clear HIS
        rcases hcase with ⟨rfl, rfl, rfl⟩ | ⟨rfl, rfl, rfl⟩ | ⟨rfl, rfl, rfl⟩
        · go_wp2_with fail
          refine (sendsB_any _ p 0 msg _ (hv.bl H3) true B0.out).mono ?_
          rintro e' w4 ⟨rfl, hb4⟩
          have H4 := H3.trans hb4
          have x4 := x3.bl hb4
          have k4 := k3.bl hb4
          have l4 := l3.bl hb4
          clear g0 g1 g2 g3
          obtain ⟨g0, g1, g2, g3⟩ := x4.cells4
          go_wp2_with fail
          refine (sendsB_any _ p 0 msg _ (hv.bl H4) true B0.out).mono ?_
          rintro e' w5 ⟨rfl, hb5⟩
          have H5 := H4.trans hb5
          have x5 := x4.bl hb5
          have k5 := k4.bl hb5
          have l5 := l4.bl hb5
          clear g0 g1 g2 g3
          obtain ⟨g0, g1, g2, g3⟩ := x5.cells4
          go_wp2_with fail
          refine (sendsB_any _ p 1 msg _ (hv.bl H5) false B1.out).mono ?_
          rintro e' w6 ⟨rfl, hb6⟩
          have H6 := H5.trans hb6
          have x6 := x5.bl hb6
          have k6 := k5.bl hb6
          have l6 := l5.bl hb6
          clear g0 g1 g2 g3
          obtain ⟨g0, g1, g2, g3⟩ := x6.cells4
          clear g0 g1 g2 g3
          obtain ⟨q0, q1, q2, q3, q4⟩ := k6.cells5
          obtain ⟨r0, r1, r2, r3, r4⟩ := l6.cells5
          cases rs0
          · cases rs1
            · go_wp2_with fail
              refine (awake8_any w6 (hE.bl H6)).mono ?_
              rintro e' w7 ⟨rfl, hb7⟩
              go_wp2
              go_ret
              exact ⟨rfl, H6.trans hb7⟩
            · obtain rfl := HR1.out rfl
              go_wp2_with fail
              refine (awake8_any w6 (hE.bl H6)).mono ?_
              rintro e' w7 ⟨rfl, hb7⟩
              go_wp2
              go_ret
              exact ⟨rfl, H6.trans hb7⟩
          · obtain rfl := HR0.out rfl
            cases rs1
            · go_wp2_with fail
              refine (awake8_any w6 (hE.bl H6)).mono ?_
              rintro e' w7 ⟨rfl, hb7⟩
              go_wp2
              go_ret
              exact ⟨rfl, H6.trans hb7⟩
            · obtain rfl := HR1.out rfl
              go_wp2_with fail
              refine (awake8_any w6 (hE.bl H6)).mono ?_
              rintro e' w7 ⟨rfl, hb7⟩
              go_wp2
              go_ret
              exact ⟨rfl, H6.trans hb7⟩
        · go_wp2_with fail
          refine (sendsB_any _ p 0 msg _ (hv.bl H3) false B0.out).mono ?_
          rintro e' w4 ⟨rfl, hb4⟩
          have H4 := H3.trans hb4
          have x4 := x3.bl hb4
          have k4 := k3.bl hb4
          have l4 := l3.bl hb4
          clear g0 g1 g2 g3
          obtain ⟨g0, g1, g2, g3⟩ := x4.cells4
          go_wp2_with fail
          refine (sendsB_any _ p 1 msg _ (hv.bl H4) true B1.out).mono ?_
          rintro e' w5 ⟨rfl, hb5⟩
          have H5 := H4.trans hb5
          have x5 := x4.bl hb5
          have k5 := k4.bl hb5
          have l5 := l4.bl hb5
          clear g0 g1 g2 g3
          obtain ⟨g0, g1, g2, g3⟩ := x5.cells4
          go_wp2_with fail
          refine (sendsB_any _ p 0 msg _ (hv.bl H5) false B0.out).mono ?_
          rintro e' w6 ⟨rfl, hb6⟩
          have H6 := H5.trans hb6
          have x6 := x5.bl hb6
          have k6 := k5.bl hb6
          have l6 := l5.bl hb6
          clear g0 g1 g2 g3
          obtain ⟨g0, g1, g2, g3⟩ := x6.cells4
          clear g0 g1 g2 g3
          obtain ⟨q0, q1, q2, q3, q4⟩ := k6.cells5
          obtain ⟨r0, r1, r2, r3, r4⟩ := l6.cells5
          cases rs0
          · cases rs1
            · go_wp2_with fail
              refine (awake8_any w6 (hE.bl H6)).mono ?_
              rintro e' w7 ⟨rfl, hb7⟩
              go_wp2
              go_ret
              exact ⟨rfl, H6.trans hb7⟩
            · obtain rfl := HR1.out rfl
              go_wp2_with fail
              refine (awake8_any w6 (hE.bl H6)).mono ?_
              rintro e' w7 ⟨rfl, hb7⟩
              go_wp2
              go_ret
              exact ⟨rfl, H6.trans hb7⟩
          · obtain rfl := HR0.out rfl
            cases rs1
            · go_wp2_with fail
              refine (awake8_any w6 (hE.bl H6)).mono ?_
              rintro e' w7 ⟨rfl, hb7⟩
              go_wp2
              go_ret
              exact ⟨rfl, H6.trans hb7⟩
            · obtain rfl := HR1.out rfl
              go_wp2_with fail
              refine (awake8_any w6 (hE.bl H6)).mono ?_
              rintro e' w7 ⟨rfl, hb7⟩
              go_wp2
              go_ret
              exact ⟨rfl, H6.trans hb7⟩
        · go_wp2_with fail
          refine (sendsB_any _ p 0 msg _ (hv.bl H3) false B0.out).mono ?_
          rintro e' w4 ⟨rfl, hb4⟩
          have H4 := H3.trans hb4
          have x4 := x3.bl hb4
          have k4 := k3.bl hb4
          have l4 := l3.bl hb4
          clear g0 g1 g2 g3
          obtain ⟨g0, g1, g2, g3⟩ := x4.cells4
          go_wp2_with fail
          refine (sendsB_any _ p 1 msg _ (hv.bl H4) false B1.out).mono ?_
          rintro e' w5 ⟨rfl, hb5⟩
          have H5 := H4.trans hb5
          have x5 := x4.bl hb5
          have k5 := k4.bl hb5
          have l5 := l4.bl hb5
          clear g0 g1 g2 g3
          obtain ⟨g0, g1, g2, g3⟩ := x5.cells4
          go_wp2_with fail
          refine (sendsB_any _ p 0 msg _ (hv.bl H5) false B0.out).mono ?_
          rintro e' w6 ⟨rfl, hb6⟩
          have H6 := H5.trans hb6
          have x6 := x5.bl hb6
          have k6 := k5.bl hb6
          have l6 := l5.bl hb6
          clear g0 g1 g2 g3
          obtain ⟨g0, g1, g2, g3⟩ := x6.cells4
          clear g0 g1 g2 g3
          obtain ⟨q0, q1, q2, q3, q4⟩ := k6.cells5
          obtain ⟨r0, r1, r2, r3, r4⟩ := l6.cells5
          cases rs0
          · cases rs1
            · go_wp2_with fail
              refine (awake8_any w6 (hE.bl H6)).mono ?_
              rintro e' w7 ⟨rfl, hb7⟩
              go_wp2
              go_ret
              exact ⟨rfl, H6.trans hb7⟩
            · obtain rfl := HR1.out rfl
              go_wp2_with fail
              refine (awake8_any w6 (hE.bl H6)).mono ?_
              rintro e' w7 ⟨rfl, hb7⟩
              go_wp2
              go_ret
              exact ⟨rfl, H6.trans hb7⟩
          · obtain rfl := HR0.out rfl
            cases rs1
            · go_wp2_with fail
              refine (awake8_any w6 (hE.bl H6)).mono ?_
              rintro e' w7 ⟨rfl, hb7⟩
              go_wp2
              go_ret
              exact ⟨rfl, H6.trans hb7⟩
            · obtain rfl := HR1.out rfl
              go_wp2_with fail
              refine (awake8_any w6 (hE.bl H6)).mono ?_
              rintro e' w7 ⟨rfl, hb7⟩
              go_wp2
              go_ret
              exact ⟨rfl, H6.trans hb7⟩
    · have dz : (E != 0) = true := by simpa using hz
      go_wp2_with fail
      refine (fewB_any _ p _ (hv.bl H3) true HFP.out).mono ?_
      rintro e' w4 ⟨rfl, hb4⟩
      have H4 := H3.trans hb4
      go_wp2_with fail
      refine (awake8_any w4 (hE.bl H4)).mono ?_
      rintro e' w6 ⟨rfl, hb6⟩
      go_wp2
      go_ret
      exact ⟨rfl, H4.trans hb6⟩
end Go.Proofs.YtkcmmcgbkihpfaaDoor

set_option linter.unusedSimpArgs false
set_option linter.unusedVariables false
namespace Go.Proofs.YtkcmmcgbkihpfaaDoor.fnNeedBoth
open Go.ChangeShapes Go.WideShapes Go.ChangeAt Go.RowKit Go.ChangeMaps

set_option maxRecDepth 100000 in
theorem contract (H : Type) (enc : TypeId × Value → H) (W : World) (base : Nat) (args : Array Value) (ds gs : List (DataW H)) (before : List MemPlace)
    (hval : ∀ (j : Nat) t v, Tryd.f10.params[j]? = some t → args[j]? = some v → Value.okWide Tryd.prog W .any base t v)
    (hW : DataW.Whole enc Tryd.prog Tryd.f10.params.toList Rows.needBothSpec.vars false W args.toList ds gs before)
    (hsz : (DataW.weightsEach Tryd.prog (Tryd.f10.params.toList ++ (OpenSpec.ofChange Rows.needBothSpec).bare.plain.varTypes Tryd.prog) (ds ++ gs)).all (· ≤ reachBytes) = true) (hE : EnvB W) :
    Calls Tryd.prog 10 args W fun e W' => ∃ v, e = .returned v ∧ Rows.needBothSpec.post enc Tryd.prog Tryd.f10 false true false false W args v W' := by
  have hW' := hW
  obtain ⟨p, q, hA0, hV, rfl, hfz, hnd⟩ := hW
  have hA : DataW.TrodAll enc Tryd.prog W 0 (fun _ => true) true Tryd.f10.params.toList args.toList ds p := hA0
  rw [Tryd.params10] at hA hval hsz
  obtain ⟨v0, vs0, d0, ds0, p0, q0, hargs0, rfl, rfl, h0, r0⟩ := trodAll_cons hA
  obtain ⟨v1, vs1, d1, ds1, p1, q1, hargs1, rfl, rfl, h1, r1⟩ := trodAll_cons r0
  obtain ⟨rfl, rfl, rfl⟩ := trodAll_nil r1
  subst hargs1
  obtain rfl : args = #[v0, v1] := by cases args; simp_all
  obtain ⟨rfl, rfl⟩ := trodVars_none hV
  have hz0 : within d0 29 := fun k hk => by
    have := List.all_eq_true.1 hsz k (DataW.weights_mem_each (j := 0) (t := 29) (d := d0) rfl rfl k hk)
    exact of_decide_eq_true this
  obtain ⟨x0, hx0⟩ := open_pat (hval 0 29 v0 rfl rfl) h0 hz0
  obtain ⟨x1, rfl, rfl, rfl, wt1⟩ := open_int Tryd.underlying3 (hval 1 3 v1 rfl rfl) h1
  clear hA0 hsz hval
  refine (needBoth_any v0 x0 x1 W hE hx0).mono fun e W' ⟨he, hb⟩ => ?_
  subst he
  exact ⟨_, rfl, post_of_below (pv := []) hW' (fun _ _ _ => trodAll_cons_mk (shut_bool Tryd.underlying4 _) trodAll_mk0) (trodAll_cons_mk (Below.trod laidOut (by kernel_rfl) (of_decide_eq_true (by kernel_rfl)) h0 hb (fun x hx => by simpa using hW'.lt x (by simp [hx]))) (trodAll_cons_mk (shut_int Tryd.underlying3 wt1) trodAll_mk0)) rfl (by simp) hb⟩

theorem laid_met (os : Os) : laidMet Tryd.prog Rows.needBothRow.laid ((laidWorldN os).forCall (fun _ _ => 0) ⟨#[], #[.agg #[.string ⟨#[]⟩, .slice none 0 0, .slice none 0 0, .slice none 0 0], .int .i64 0], []⟩).memory :=
  laidMet_of_run' 12 (by kernel_rfl) (by kernel_rfl)
theorem reads (os : Os) {H : Type} (enc : TypeId × Value → H) : ∃ places, DataW.whole enc Tryd.prog ((laidWorldN os).forCall (fun _ _ => 0) ⟨#[], #[.agg #[.string ⟨#[]⟩, .slice none 0 0, .slice none 0 0, .slice none 0 0], .int .i64 0], []⟩).memory Tryd.f10.params.toList Rows.needBothSpec.vars false (#[Value.agg #[.string ⟨#[]⟩, .slice none 0 0, .slice none 0 0, .slice none 0 0], Value.int .i64 0] : Array Value).toList 8 = some ([.agg [.lit (.string []), .agg [.nil, .nil], .nil], .lit (.int .i64 0)], [], places) :=
  ⟨[], by kernel_rfl⟩

set_option maxRecDepth 100000 in
theorem lifted (os : Os) (started : os.Started) (H : Type) (enc : TypeId × Value → H) (F : Stop.Interp) :
    ReturnsInHanded {} Tryd.checked os 10 .any ((OpenSpec.ofChange Rows.needBothSpec).preRow enc Tryd.prog Tryd.f10 Rows.needBothRow.domain false Rows.needBothRow.laid) (((OpenSpec.ofChange Rows.needBothSpec).at F).post enc Tryd.prog Tryd.f10 false true false false) := by
  obtain ⟨places, hx⟩ := reads os enc
  refine returnsInHanded_of_row (C := Tryd.checked) (s := OpenSpec.ofChange Rows.needBothSpec) own started (by kernel_rfl) Tryd.func10
    (witness_row_atRef (enc := enc) (C := Tryd.checked) false (laidWorldN os) #[.agg #[.string ⟨#[]⟩, .slice none 0 0, .slice none 0 0, .slice none 0 0], .int .i64 0] rfl (by kernel_rfl) (by kernel_rfl) (by kernel_rfl)
      (OpenSpec.preRow_of_cond 8 hx (by kernel_rfl) (fun k hk => by cases hk) (by kernel_rfl) (laid_met os))) ?_
  intro W base args ds gs before hval hW _ _ hsz hL hE _
  exact contract H enc W base args ds gs before hval hW hsz (env_of hE hL (by unfold Rows.needBothRow; simp))

theorem said : Rows.NeedBothSaid :=
  OpenClaim.holds_of_cond 10 Tryd.f10 rfl rfl rfl rfl rfl rfl rfl ⟨rfl, rfl, rfl, rfl, rfl⟩ rfl rfl rfl rfl rfl (by kernel_rfl) Tryd.func10 (by kernel_rfl)
    (of_decide_eq_true (by kernel_rfl)) (by unfold Func.isWrapper; first | (rw [if_pos (by decide +kernel)]; kernel_rfl) | (rw [if_neg (by decide +kernel)]; exact ⟨rfl, rfl⟩))
    (fun os started H enc _ F => by rw [OpenClaim.pre_eq_preRow]; exact lifted os started H enc F)

theorem plain (f : FuncId) (fn : Func) (hf : Tryd.pinned.checked.prog.funcNamed "undertone/undertonelaw08.NeedBoth" = some f) (hfn : Tryd.pinned.checked.prog.funcs[f]? = some fn) :
    false = Tryd.pinned.checked.prog.looks [] ∧ ∀ (j : Nat) t, fn.params[j]? = some t → Tryd.pinned.checked.prog.wantsStandIn t = false := by
  obtain rfl : f = 10 := Option.some.inj ((show Tryd.prog.funcNamed "undertone/undertonelaw08.NeedBoth" = some 10 by kernel_rfl).symm.trans hf) |>.symm
  obtain rfl : fn = Tryd.f10 := (Option.some.inj (Tryd.func10.symm.trans hfn)).symm
  refine ⟨by kernel_rfl, fun j t ht => ?_⟩
  rw [Tryd.params10] at ht
  have hm : t = 29 ∨ t = 3 := by simpa using Array.mem_of_getElem? ht
  rcases hm with rfl | rfl
  · exact (show Tryd.prog.wantsStandIn 29 = false by kernel_rfl)
  · exact (show Tryd.prog.wantsStandIn 3 = false by kernel_rfl)

theorem card : Rows.NeedBothCardSaid :=
  Claim7.holds_tied_plain_at .later [] _ _ _ _ said (fun _ h => by cases h) (by kernel_rfl) (fun _ h => by cases h) needBoth_row_tie rfl ⟨rfl, rfl⟩ (by kernel_rfl) rfl plain (by kernel_rfl)
end Go.Proofs.YtkcmmcgbkihpfaaDoor.fnNeedBoth
