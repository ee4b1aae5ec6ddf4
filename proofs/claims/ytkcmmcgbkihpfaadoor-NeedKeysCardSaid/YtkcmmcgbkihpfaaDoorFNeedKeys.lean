/- The card of NeedKeys: for every argument, wherever the listed tables are as laid, the law returns true. -/
import Derived.Test.YtkcmmcgbkihpfaaDoorL8b
import Derived.Test.YtkcmmcgbkihpfaaDoorW7
import Derived.Test.YtkcmmcgbkihpfaaDoorW6
import Derived.Test.YtkcmmcgbkihpfaaDoorFrameN
set_option linter.unusedSimpArgs false
set_option linter.unusedVariables false
namespace Go.Proofs.YtkcmmcgbkihpfaaDoor
open Go.RowKit Go.Sort

theorem fieldsRK : Tryd.prog.underlying 52 = some (.struct (Tryd.prog.fieldsOf 52)) := by kernel_rfl
theorem standRK : Tryd.prog.stoodInHeld 52 = false := by kernel_rfl
theorem eqKeysR (a0 a1 a2 a3 b0 b1 b2 b3 : Bool) (n m : Int) (w : World) : (Op.equalIn 10000 52 (.agg #[.bool a0, .bool a1, .bool a2, .bool a3, .int .i64 n]) (.agg #[.bool b0, .bool b1, .bool b2, .bool b3, .int .i64 m])).run Tryd.prog w = .ok (a0 == b0 && (a1 == b1 && (a2 == b2 && (a3 == b3 && n == m)))) w := by
  rw [run_equalIn_agg (hp := standRK) (ht := fieldsRK)]
  simp [go_sem]
  by_cases h0 : a0 = b0 <;> by_cases h1 : a1 = b1 <;> by_cases h2 : a2 = b2 <;> by_cases h3 : a3 = b3 <;> by_cases h4 : n = m <;> simp [h0, h1, h2, h3, h4]
theorem chkR_e (p : Pat) : (chkR p).2.2 = 13 ∨ (chkR p).2.2 = 0 := by
  unfold chkR
  split
  · exact .inl rfl
  · split
    · exact .inl rfl
    · exact .inr rfl
theorem needRK_any (v : Value) (p : Pat) (role E : Int) (K : Keys) (w : World) (h : SP w v p) (h0 : needE p role = E) (hK : needK p role = K) :
    Calls Tryd.prog 25 #[v, .int .i64 role] w fun e w' => e = .returned (.tuple #[.agg #[.bool K.s, .bool K.e, .bool K.rs, .bool K.re, .int .i64 K.n], .int .i64 E]) ∧ Bl w w' := by
  have := needOf_any v p role w h
  rw [h0, hK] at this
  exact this
theorem refCheckE_any (v : Value) (p : Pat) (w : World) (h : SP w v p) (hr : rightB p = true) :
    Calls Tryd.prog 26 #[v] w fun e w' => e = .returned (.tuple #[.int .i64 (checkV p).1, .int .i64 (checkV p).2.1, .int .i64 (checkV p).2.2]) ∧ Bl w w' := by
  obtain ⟨_, _, hl1, hl6, hok⟩ := right_parts hr
  have := refCheck_any v p w h ((right_iff p).1 hr).small hok hl1
  rw [← chk_same p hl1 (by omega) hok] at this
  rw [show checkV p = chkR p by rw [checkV, if_pos hr]]
  exact this
theorem refCheckF_any (v : Value) (p : Pat) (E : Int) (w : World) (h : SP w v p) (hr : rightB p = true) (he : E = (checkV p).2.2) :
    Calls Tryd.prog 26 #[v] w fun e w' => ∃ a b : Int, e = .returned (.tuple #[.int .i64 a, .int .i64 b, .int .i64 E]) ∧ Bl w w' := by
  refine (refCheckE_any v p w h hr).mono fun e w' hh => ?_
  rw [← he] at hh
  exact ⟨_, _, hh⟩
theorem refOfK_any (v : Value) (p : Pat) (role : Int) (K : Keys) (hr : role = 0 ∨ role = 1) (w : World) (h : SP w v p) (hs : Small p) (hl : p.msgs.length ≤ 99) (hK : K = ofK p (allL p) role) :
    Calls Tryd.prog 28 #[v, .int .i64 role] w fun e w' => e = .returned (.agg #[.bool K.s, .bool K.e, .bool K.rs, .bool K.re, .int .i64 K.n]) ∧ Bl w w' := by
  have := refOf8_any v p role hr w h hs hl
  rw [← hK] at this
  exact this
theorem refRightB_any (v : Value) (p : Pat) (w : World) (h : SP w v p) (b : Bool) (hr : rightB p = b) :
    Calls Tryd.prog 18 #[v] w fun e w' => e = .returned (.bool b) ∧ Bl w w' := by
  rw [← hr]
  exact refRight_any v p w h

set_option maxRecDepth 100000 in
set_option maxHeartbeats 4000000 in
theorem needKeys_any (v : Value) (p : Pat) (role : Int) (w : World) (hE : EnvB w) (h : SP w v p) :
    Calls Tryd.prog 8 #[v, .int .i64 role] w fun e w' => e = .returned (.bool true) ∧ Bl w w' := by
  have hq := eqKeys
  have hv := h
  obtain ⟨v0, v1, vm, rfl, hn, h0, h1, hm⟩ := h
  obtain ⟨a0, c0, rfl⟩ := h0.form
  obtain ⟨a1, c1, rfl⟩ := h1.form
  obtain ⟨am, cm, rfl⟩ := hm.form
  clear h0 h1 hm
  have x := BoxAt.new w #[.string p.name, .slice a0 p.pre0.length c0, .slice a1 p.pre1.length c1, .slice am p.msgs.length cm] 29
  have H : Bl w (w.alloc (.cells #[.string p.name, .slice a0 p.pre0.length c0, .slice a1 p.pre1.length c1, .slice am p.msgs.length cm] 29)) := (Bl.refl w).alloc _
  go_enter Tryd.func8, Tryd.ntmps8
  go_wp2_with fail
  refine (few_any _ p _ (hv.bl H)).mono ?_
  rintro e w1 ⟨rfl, hb1⟩
  have x1 := x.bl hb1
  have H1 := H.trans hb1
  obtain ⟨g0, g1, g2, g3⟩ := x1.cells4
  cases hfp : fewB p
  · go_wp2_with fail
    refine (awake8_any w1 (hE.bl H1)).mono ?_
    rintro e w2 ⟨rfl, hb2⟩
    go_wp2
    go_ret
    exact ⟨rfl, H1.trans hb2⟩
  · clear hfp
    generalize hEE : needE p role = E
    generalize hKK : needK p role = K
    have HEE := Lib.hid hEE
    have HKK := Lib.hid hKK
    clear hEE hKK
    obtain ⟨s, e, rs, re, n⟩ := K
    go_wp2_with fail
    refine (needRK_any _ p role E _ _ (hv.bl H1) HEE.out HKK.out).mono ?_
    rintro e' w2 ⟨rfl, hb2⟩
    simp only
    have al : Bl w2 (w2.alloc (.cells #[.bool s, .bool e, .bool rs, .bool re, .int .i64 n] 47)) := (Bl.refl w2).alloc _
    have k2 := BoxAt.new w2 #[.bool s, .bool e, .bool rs, .bool re, .int .i64 n] 47
    have x2 := (x1.bl hb2).bl al
    have H2 := (H1.trans hb2).trans al
    clear g0 g1 g2 g3
    obtain ⟨g0, g1, g2, g3⟩ := x2.cells4
    go_wp2_with fail
    refine (of_any _ p _ (hv.bl H2)).mono ?_
    rintro e' w3 ⟨u, rfl, hu, hb3⟩
    have hu0 := hu
    obtain ⟨u0, u1, um, rfl, _, i0, i1, im⟩ := hu
    obtain ⟨b0, d0, rfl⟩ := i0.form
    obtain ⟨b1, d1, rfl⟩ := i1.form
    obtain ⟨bm, dm, rfl⟩ := im.form
    clear i0 i1 im g0 g1 g2 g3 al
    have al : Bl w3 (w3.alloc (.cells #[.string p.name, .slice b0 p.pre0.length d0, .slice b1 p.pre1.length d1, .slice bm p.msgs.length dm] 37)) := (Bl.refl w3).alloc _
    have y3 := BoxAt.new w3 #[.string p.name, .slice b0 p.pre0.length d0, .slice b1 p.pre1.length d1, .slice bm p.msgs.length dm] 37
    have k3 := (k2.bl hb3).bl al
    have hu3 := hu0.bl al
    have H3 := (H2.trans hb3).trans al
    obtain ⟨q0, q1, q2, q3, q4⟩ := k3.cells5
    by_cases hbr : role = 0 ∨ role = 1
    · have hbf : badRole role = false := by rcases hbr with rfl | rfl <;> rfl
      have HEV : Hid (E = (checkV p).2.2) := Lib.hid (by rw [← HEE.out, needE, hbf]; rfl)
      cases hrb : rightB p
      · have hE1 : E = 1 := by rw [HEV.out, checkV, hrb]; rfl
        have hzk : needK p role = zeroK := by rw [needK, HEE.out, hE1]; rfl
        obtain ⟨rfl, rfl, rfl, rfl, rfl⟩ : s = false ∧ e = false ∧ rs = false ∧ re = false ∧ n = 0 := by
          have := HKK.out.symm.trans hzk
          simpa [zeroK] using this
        subst hE1
        clear hzk HKK HEE HEV
        have HRB := Lib.hid hrb
        clear hrb
        rcases hbr with rfl | rfl
        all_goals
          go_wp2_with fail
          refine (refRightB_any _ p _ hu3 false HRB.out).mono ?_
          rintro e' w4 ⟨rfl, hb4⟩
          have k4 := k3.bl hb4
          have H4 := H3.trans hb4
          clear q0 q1 q2 q3 q4
          obtain ⟨q0, q1, q2, q3, q4⟩ := k4.cells5
          go_wp2_with fail
          refine (awake8_any w4 (hE.bl H4)).mono ?_
          rintro e' w5 ⟨rfl, hb5⟩
          go_wp2
          go_ret
          exact ⟨rfl, H4.trans hb5⟩
      · have HRB := Lib.hid hrb
        have HCE : Hid (E = 13 ∨ E = 0) := Lib.hid (by rw [HEV.out, checkV, if_pos hrb]; exact chkR_e p)
        have HSM := Lib.hid ((right_iff p).1 hrb).small
        have HLN : Hid (p.msgs.length ≤ 99) := Lib.hid (by have := (right_parts hrb).2.2.2.1; omega)
        clear hrb
        have hq2 := eqKeysR
        have HBR := Lib.hid hbr
        have HOK : Hid (E = 0 → (⟨s, e, rs, re, n⟩ : Keys) = ofK p (allL p) role) := Lib.hid (fun h0 => by rw [← HKK.out, needK, HEE.out, if_pos h0])
        have HZK : Hid (E ≠ 0 → (⟨s, e, rs, re, n⟩ : Keys) = zeroK) := Lib.hid (fun h0 => by rw [← HKK.out, needK, HEE.out, if_neg h0])
        clear HKK HEE
        have d01 : (role != 0 && role != 1) = false := by rcases hbr with rfl | rfl <;> rfl
        clear d01 hbr
        rcases HBR.out with rfl | rfl
        all_goals
          go_wp2_with fail
          refine (refRightB_any _ p _ hu3 true HRB.out).mono ?_
          rintro e' w4 ⟨rfl, hb4⟩
          have y4 := y3.bl hb4
          have k4 := k3.bl hb4
          have hu4 := hu3.bl hb4
          have H4 := H3.trans hb4
          clear q0 q1 q2 q3 q4
          obtain ⟨g0, g1, g2, g3⟩ := y4.cells4
          go_wp2_with fail
          refine (refCheckF_any _ p E _ hu4 HRB.out HEV.out).mono ?_
          rintro e' w5 ⟨cr, cm', rfl, hb5⟩
          have y5 := y4.bl hb5
          have k5 := k4.bl hb5
          have hu5 := hu4.bl hb5
          have H5 := H4.trans hb5
          clear g0 g1 g2 g3
          obtain ⟨g0, g1, g2, g3⟩ := y5.cells4
          obtain ⟨q0, q1, q2, q3, q4⟩ := k5.cells5
          rcases HCE.out with rfl | rfl
          · obtain ⟨rfl, rfl, rfl, rfl, rfl⟩ : s = false ∧ e = false ∧ rs = false ∧ re = false ∧ n = 0 := by
              have := HZK.out (by decide)
              simpa [zeroK] using this
            clear HZK HOK HCE HEV
            go_wp2_with fail
            refine (awake8_any w5 (hE.bl H5)).mono ?_
            rintro e' w6 ⟨rfl, hb6⟩
            go_wp2
            go_ret
            exact ⟨rfl, H5.trans hb6⟩
          · have HK := Lib.hid (HOK.out rfl)
            clear HZK HOK HCE HEV
            go_wp2
            have r0 := cell_regrown q0
            have r1 := cell_regrown q1
            have r2 := cell_regrown q2
            have r3 := cell_regrown q3
            have r4 := cell_regrown q4
            have s0 := cell_regrown g0
            have s1 := cell_regrown g1
            have s2 := cell_regrown g2
            have s3 := cell_regrown g3
            refine wp_region_quiet_below (by kernel_rfl) (by kernel_rfl) ?_
            repeat (go_big_quiet_step ((first
              | (go_at_call 27; with_reducible exact Calls.regrown_of (ofL_any s e rs re n _))
              | (go_at_call 28; with_reducible exact Calls.regrown_of (refOfK_any _ p _ ⟨s, e, rs, re, n⟩ (by first | exact .inl rfl | exact .inr rfl) _ (hu5.bl (below_regrown w5 _ _)) HSM.out HLN.out HK.out))
              | (go_at_call 24; with_reducible exact Calls.regrown_of (awake8_any _ (hE.bl (H5.trans (below_regrown w5 _ _))))))))
            refine wpQuiet_nil ?_
            intro wq hwq
            obtain ⟨pq, rfl⟩ := hwq
            have hbq := below_regrown w5 pq.d pq.os
            go_wp2
            go_ret
            exact ⟨ret_bool (by simp), H5.trans hbq⟩
    · have d1 : (role != 0) = true := by simp; omega
      have d2 : (role != 1) = true := by simp; omega
      have hbt : badRole role = true := by simp only [badRole, Bool.or_eq_true, decide_eq_true_eq]; omega
      have hE1 : E = 1 := by rw [← HEE.out, needE, hbt]; rfl
      have hzk : needK p role = zeroK := by rw [needK, HEE.out, hE1]; rfl
      obtain ⟨rfl, rfl, rfl, rfl, rfl⟩ : s = false ∧ e = false ∧ rs = false ∧ re = false ∧ n = 0 := by
        have := HKK.out.symm.trans hzk
        simpa [zeroK] using this
      subst hE1
      clear hzk HKK HEE hbr hbt
      go_wp2_with fail
      refine (awake8_any _ (hE.bl H3)).mono ?_
      rintro e' w5 ⟨rfl, hb5⟩
      go_wp2
      go_ret
      exact ⟨rfl, H3.trans hb5⟩
end Go.Proofs.YtkcmmcgbkihpfaaDoor

set_option linter.unusedSimpArgs false
set_option linter.unusedVariables false
namespace Go.Proofs.YtkcmmcgbkihpfaaDoor.fnNeedKeys
open Go.ChangeShapes Go.WideShapes Go.ChangeAt Go.RowKit Go.ChangeMaps

set_option maxRecDepth 100000 in
theorem contract (H : Type) (enc : TypeId × Value → H) (W : World) (base : Nat) (args : Array Value) (ds gs : List (DataW H)) (before : List MemPlace)
    (hval : ∀ (j : Nat) t v, Tryd.f8.params[j]? = some t → args[j]? = some v → Value.okWide Tryd.prog W .any base t v)
    (hW : DataW.Whole enc Tryd.prog Tryd.f8.params.toList Rows.needKeysSpec.vars false W args.toList ds gs before)
    (hsz : (DataW.weightsEach Tryd.prog (Tryd.f8.params.toList ++ (OpenSpec.ofChange Rows.needKeysSpec).bare.plain.varTypes Tryd.prog) (ds ++ gs)).all (· ≤ reachBytes) = true) (hE : EnvB W) :
    Calls Tryd.prog 8 args W fun e W' => ∃ v, e = .returned v ∧ Rows.needKeysSpec.post enc Tryd.prog Tryd.f8 false true false false W args v W' := by
  have hW' := hW
  obtain ⟨p, q, hA0, hV, rfl, hfz, hnd⟩ := hW
  have hA : DataW.TrodAll enc Tryd.prog W 0 (fun _ => true) true Tryd.f8.params.toList args.toList ds p := hA0
  rw [Tryd.params8] at hA hval hsz
  obtain ⟨v0, vs0, d0, ds0, p0, q0, hargs0, rfl, rfl, h0, r0⟩ := trodAll_cons hA
  obtain ⟨v1, vs1, d1, ds1, p1, q1, hargs1, rfl, rfl, h1, r1⟩ := trodAll_cons r0
  obtain ⟨rfl, rfl, rfl⟩ := trodAll_nil r1
  subst hargs1
  obtain rfl : args = #[v0, v1] := by cases args; simp_all
  obtain ⟨rfl, rfl⟩ := trodVars_none hV
  have hz0 : within d0 29 := fun k hk => by
    have := List.all_eq_true.1 hsz k (DataW.weights_mem_each (j := 0) (t := 29) (d := d0) rfl rfl k hk)
    exact of_decide_eq_true this
  obtain ⟨x0, hx0⟩ := open_pat (hval 0 29 v0 rfl rfl) h0 hz0
  obtain ⟨x1, rfl, rfl, rfl, wt1⟩ := open_int Tryd.underlying3 (hval 1 3 v1 rfl rfl) h1
  clear hA0 hsz hval
  refine (needKeys_any v0 x0 x1 W hE hx0).mono fun e W' ⟨he, hb⟩ => ?_
  subst he
  exact ⟨_, rfl, post_of_below (pv := []) hW' (fun _ _ _ => trodAll_cons_mk (shut_bool Tryd.underlying4 _) trodAll_mk0) (trodAll_cons_mk (Below.trod laidOut (by kernel_rfl) (of_decide_eq_true (by kernel_rfl)) h0 hb (fun x hx => by simpa using hW'.lt x (by simp [hx]))) (trodAll_cons_mk (shut_int Tryd.underlying3 wt1) trodAll_mk0)) rfl (by simp) hb⟩

theorem laid_met (os : Os) : laidMet Tryd.prog Rows.needKeysRow.laid ((laidWorldN os).forCall (fun _ _ => 0) ⟨#[], #[.agg #[.string ⟨#[]⟩, .slice none 0 0, .slice none 0 0, .slice none 0 0], .int .i64 0], []⟩).memory :=
  laidMet_of_run' 12 (by kernel_rfl) (by kernel_rfl)
theorem reads (os : Os) {H : Type} (enc : TypeId × Value → H) : ∃ places, DataW.whole enc Tryd.prog ((laidWorldN os).forCall (fun _ _ => 0) ⟨#[], #[.agg #[.string ⟨#[]⟩, .slice none 0 0, .slice none 0 0, .slice none 0 0], .int .i64 0], []⟩).memory Tryd.f8.params.toList Rows.needKeysSpec.vars false (#[Value.agg #[.string ⟨#[]⟩, .slice none 0 0, .slice none 0 0, .slice none 0 0], Value.int .i64 0] : Array Value).toList 8 = some ([.agg [.lit (.string []), .agg [.nil, .nil], .nil], .lit (.int .i64 0)], [], places) :=
  ⟨[], by kernel_rfl⟩

set_option maxRecDepth 100000 in
theorem lifted (os : Os) (started : os.Started) (H : Type) (enc : TypeId × Value → H) (F : Stop.Interp) :
    ReturnsInHanded {} Tryd.checked os 8 .any ((OpenSpec.ofChange Rows.needKeysSpec).preRow enc Tryd.prog Tryd.f8 Rows.needKeysRow.domain false Rows.needKeysRow.laid) (((OpenSpec.ofChange Rows.needKeysSpec).at F).post enc Tryd.prog Tryd.f8 false true false false) := by
  obtain ⟨places, hx⟩ := reads os enc
  refine returnsInHanded_of_row (C := Tryd.checked) (s := OpenSpec.ofChange Rows.needKeysSpec) own started (by kernel_rfl) Tryd.func8
    (witness_row_atRef (enc := enc) (C := Tryd.checked) false (laidWorldN os) #[.agg #[.string ⟨#[]⟩, .slice none 0 0, .slice none 0 0, .slice none 0 0], .int .i64 0] rfl (by kernel_rfl) (by kernel_rfl) (by kernel_rfl)
      (OpenSpec.preRow_of_cond 8 hx (by kernel_rfl) (fun k hk => by cases hk) (by kernel_rfl) (laid_met os))) ?_
  intro W base args ds gs before hval hW _ _ hsz hL hE _
  exact contract H enc W base args ds gs before hval hW hsz (env_of hE hL (by unfold Rows.needKeysRow; simp))

theorem said : Rows.NeedKeysSaid :=
  OpenClaim.holds_of_cond 8 Tryd.f8 rfl rfl rfl rfl rfl rfl rfl ⟨rfl, rfl, rfl, rfl, rfl⟩ rfl rfl rfl rfl rfl (by kernel_rfl) Tryd.func8 (by kernel_rfl)
    (of_decide_eq_true (by kernel_rfl)) (by unfold Func.isWrapper; first | (rw [if_pos (by decide +kernel)]; kernel_rfl) | (rw [if_neg (by decide +kernel)]; exact ⟨rfl, rfl⟩))
    (fun os started H enc _ F => by rw [OpenClaim.pre_eq_preRow]; exact lifted os started H enc F)

theorem plain (f : FuncId) (fn : Func) (hf : Tryd.pinned.checked.prog.funcNamed "undertone/undertonelaw08.NeedKeys" = some f) (hfn : Tryd.pinned.checked.prog.funcs[f]? = some fn) :
    false = Tryd.pinned.checked.prog.looks [] ∧ ∀ (j : Nat) t, fn.params[j]? = some t → Tryd.pinned.checked.prog.wantsStandIn t = false := by
  obtain rfl : f = 8 := Option.some.inj ((show Tryd.prog.funcNamed "undertone/undertonelaw08.NeedKeys" = some 8 by kernel_rfl).symm.trans hf) |>.symm
  obtain rfl : fn = Tryd.f8 := (Option.some.inj (Tryd.func8.symm.trans hfn)).symm
  refine ⟨by kernel_rfl, fun j t ht => ?_⟩
  rw [Tryd.params8] at ht
  have hm : t = 29 ∨ t = 3 := by simpa using Array.mem_of_getElem? ht
  rcases hm with rfl | rfl
  · exact (show Tryd.prog.wantsStandIn 29 = false by kernel_rfl)
  · exact (show Tryd.prog.wantsStandIn 3 = false by kernel_rfl)

theorem card : Rows.NeedKeysCardSaid :=
  Claim7.holds_tied_plain_at .later [] _ _ _ _ said (fun _ h => by cases h) (by kernel_rfl) (fun _ h => by cases h) needKeys_row_tie rfl ⟨rfl, rfl⟩ (by kernel_rfl) rfl plain (by kernel_rfl)
end Go.Proofs.YtkcmmcgbkihpfaaDoor.fnNeedKeys
