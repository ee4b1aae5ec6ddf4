/- The card of NeedMore: for every argument, wherever the listed tables are as laid, the law returns true. -/
import Derived.Test.YtkcmmcgbkihpfaaDoorL8b
import Derived.Test.YtkcmmcgbkihpfaaDoorPsk
import Derived.Test.YtkcmmcgbkihpfaaDoorFrameN
set_option linter.unusedSimpArgs false
set_option linter.unusedVariables false
namespace Go.Proofs.YtkcmmcgbkihpfaaDoor
open Go.RowKit Go.Sort

theorem met1_append (a b : List (Int × Int)) (who t : Int) : met1 (a ++ b) who t = met1 a who t + met1 b who t := by
  unfold met1; rw [List.countP_append]
def tokL (m : Msg) : List (Int × Int) := m.t.map (fun t => (m.who, t))
theorem psk_tok (n : Int) (m : Msg) (who t : Int) : met1 (tokL (pskM n m)) who t = met1 (tokL m) who t + (if 7 = t ∧ (who = 2 ∨ m.who = who) then 1 else 0) := by
  unfold tokL pskM
  simp only
  split
  · rw [List.map_cons, show (m.who, (7 : Int)) :: m.t.map (fun t => (m.who, t)) = [(m.who, (7 : Int))] ++ m.t.map (fun t => (m.who, t)) from rfl, met1_append, Nat.add_comm]
    congr 1
    have := met1_snoc [] m.who 7 who t
    rw [List.nil_append] at this
    rw [this]
    simp [met1]
  · rw [List.map_append, List.map_cons, List.map_nil, met1_snoc]
theorem psk_all (n who t : Int) : ∀ (ms : List Msg) (k : Nat) (hk : k < ms.length), met1 ((ms.modify k (pskM n)).flatMap tokL) who t = met1 (ms.flatMap tokL) who t + (if 7 = t ∧ (who = 2 ∨ ms[k].who = who) then 1 else 0)
  | [], k, hk => by simp at hk
  | m :: r, 0, _ => by
    rw [List.modify_zero_cons, List.flatMap_cons, List.flatMap_cons, met1_append, met1_append, psk_tok]
    simp only [List.getElem_cons_zero]
    omega
  | m :: r, k + 1, hk => by
    rw [List.modify_succ_cons, List.flatMap_cons, List.flatMap_cons, met1_append, met1_append, psk_all n who t r k (by simpa using hk)]
    simp only [List.getElem_cons_succ]
    omega
theorem allL_tok (p : Pat) : allL p = p.msgs.flatMap tokL := rfl
theorem psk_lt {p : Pat} {n : Int} (h : pskE p n = 0) : rightB p = true ∧ pskAt n < p.msgs.length := by
  unfold pskE at h
  cases hr : rightB p
  · rw [hr] at h; simp at h
  · rw [hr] at h
    cases hb : pskBad p n
    · refine ⟨rfl, ?_⟩
      rw [pskBad] at hb
      simp only [Bool.or_eq_false_iff, decide_eq_false_iff_not] at hb
      have := (right_parts hr).2.2.1
      unfold pskAt
      omega
    · rw [hb] at h; simp at h
theorem psk_need {p : Pat} {n : Int} (h : pskE p n = 0) (role : Int) (hr : role = 0 ∨ role = 1) : ofK (pskP p n) (allL (pskP p n)) role = { ofK p (allL p) role with n := (ofK p (allL p) role).n + 1 } := by
  obtain ⟨_, hlt⟩ := psk_lt h
  have e2 : met1 (allL (pskP p n)) role 2 = met1 (allL p) role 2 := by
    rw [allL_tok, allL_tok, pskP, psk_all n role 2 p.msgs _ hlt]
    simp
  have e7 : met1 (allL (pskP p n)) 2 7 = met1 (allL p) 2 7 + 1 := by
    rw [allL_tok, allL_tok, pskP, psk_all n 2 7 p.msgs _ hlt]
    simp
  have hpre : ∀ who, preL (pskP p n) who = preL p who := fun who => rfl
  unfold ofK told1
  rw [e2, e7, hpre, hpre]
  simp
theorem needRK8_any (v : Value) (p : Pat) (role E : Int) (K : Keys) (w : World) (h : SP w v p) (h0 : needE p role = E) (hK : needK p role = K) :
    Calls Tryd.prog 25 #[v, .int .i64 role] w fun e w' => e = .returned (.tuple #[.agg #[.bool K.s, .bool K.e, .bool K.rs, .bool K.re, .int .i64 K.n], .int .i64 E]) ∧ Bl w w' := by
  have := needOf_any v p role w h
  rw [h0, hK] at this
  exact this

set_option maxRecDepth 100000 in
set_option maxHeartbeats 8000000 in
theorem needMore_any (v : Value) (p : Pat) (n role : Int) (w : World) (hE : EnvB w) (h : SP w v p) (hn1 : -9223372036854775808 ≤ n) (hn2 : n ≤ 9223372036854775807) :
    Calls Tryd.prog 13 #[v, .int .i64 n, .int .i64 role] w fun e w' => e = .returned (.bool true) ∧ Bl w w' := by
  have hq := eqKeys
  have hv := h
  obtain ⟨v0, v1, vm, rfl, hn, h0, h1, hm⟩ := h
  obtain ⟨a0, c0, rfl⟩ := h0.form
  obtain ⟨a1, c1, rfl⟩ := h1.form
  obtain ⟨am, cm, rfl⟩ := hm.form
  clear h0 h1 hm
  have x := BoxAt.new w #[.string p.name, .slice a0 p.pre0.length c0, .slice a1 p.pre1.length c1, .slice am p.msgs.length cm] 29
  have H : Bl w (w.alloc (.cells #[.string p.name, .slice a0 p.pre0.length c0, .slice a1 p.pre1.length c1, .slice am p.msgs.length cm] 29)) := (Bl.refl w).alloc _
  go_enter Tryd.func13, Tryd.ntmps13
  go_wp2_with fail
  refine (psk_any _ p n _ (hv.bl H) hn1 hn2).mono ?_
  rintro e w1 ⟨u, rfl, hu, hb1⟩
  have HPN : Hid (pskE p n = 0 → ∀ role, role = 0 ∨ role = 1 → ofK (pskP p n) (allL (pskP p n)) role = { ofK p (allL p) role with n := (ofK p (allL p) role).n + 1 }) := Lib.hid (fun h role hr => psk_need h role hr)
  have HPR : Hid (pskE p n = 0 → rightB p = true) := Lib.hid (fun h => (psk_lt h).1)
  generalize hG : pskE p n = G at *
  have HQ : Hid ((if G = 0 then pskP p n else zeroP) = (if G = 0 then pskP p n else zeroP)) := Lib.hid rfl
  generalize hqq : (if G = 0 then pskP p n else zeroP) = q at *
  have HQ2 := Lib.hid hqq
  clear hqq HQ hG
  have hu0 := hu
  obtain ⟨u0, u1, um, rfl, _, i0, i1, im⟩ := hu
  obtain ⟨b0, d0, rfl⟩ := i0.form
  obtain ⟨b1, d1, rfl⟩ := i1.form
  obtain ⟨bm, dm, rfl⟩ := im.form
  clear i0 i1 im
  have al : Bl w1 (w1.alloc (.cells #[.string q.name, .slice b0 q.pre0.length d0, .slice b1 q.pre1.length d1, .slice bm q.msgs.length dm] 29)) := (Bl.refl w1).alloc _
  have y1 := BoxAt.new w1 #[.string q.name, .slice b0 q.pre0.length d0, .slice b1 q.pre1.length d1, .slice bm q.msgs.length dm] 29
  have x1 := (x.bl hb1).bl al
  have hu1 := hu0.bl al
  have H1 := (H.trans hb1).trans al
  obtain ⟨g0, g1, g2, g3⟩ := x1.cells4
  go_wp2_with fail
  refine (few_any _ p _ (hv.bl H1)).mono ?_
  rintro e w2 ⟨rfl, hb2⟩
  have x2 := x1.bl hb2
  have y2 := y1.bl hb2
  have hu2 := hu1.bl hb2
  have H2 := H1.trans hb2
  clear g0 g1 g2 g3
  cases hfp : fewB p
  · go_wp2_with fail
    refine (awake8_any w2 (hE.bl H2)).mono ?_
    rintro e w3 ⟨rfl, hb3⟩
    go_wp2
    go_ret
    exact ⟨rfl, H2.trans hb3⟩
  · clear hfp
    by_cases hG : G = 0
    · subst hG
      have HQP : Hid (q = pskP p n) := Lib.hid (by rw [← HQ2.out, if_pos rfl])
      clear HQ2
      have HRB := Lib.hid (HPR.out (by trivial))
      generalize hE0 : needE p role = E0
      generalize hK0 : needK p role = K0
      generalize hE1 : needE q role = E1
      generalize hK1 : needK q role = K1
      have HE0 := Lib.hid hE0
      have HK0 := Lib.hid hK0
      have HE1 := Lib.hid hE1
      have HK1 := Lib.hid hK1
      clear hE0 hK0 hE1 hK1 HPR
      obtain ⟨s0, e0, rs0, re0, n0⟩ := K0
      obtain ⟨s1, e1, rs1, re1, n1⟩ := K1
      obtain ⟨g0, g1, g2, g3⟩ := x2.cells4
      go_wp2_with fail
      refine (needRK8_any _ p role E0 _ _ (hv.bl H2) HE0.out HK0.out).mono ?_
      rintro e' w3 ⟨rfl, hb3⟩
      simp only
      have al3 : Bl w3 (w3.alloc (.cells #[.bool s0, .bool e0, .bool rs0, .bool re0, .int .i64 n0] 47)) := (Bl.refl w3).alloc _
      have k3 := BoxAt.new w3 #[.bool s0, .bool e0, .bool rs0, .bool re0, .int .i64 n0] 47
      have y3 := (y2.bl hb3).bl al3
      have hu3 := (hu2.bl hb3).bl al3
      have H3 := (H2.trans hb3).trans al3
      clear g0 g1 g2 g3
      obtain ⟨g0, g1, g2, g3⟩ := y3.cells4
      go_wp2_with fail
      refine (needRK8_any _ q role E1 _ _ hu3 HE1.out HK1.out).mono ?_
      rintro e' w4 ⟨rfl, hb4⟩
      simp only
      have al4 : Bl w4 (w4.alloc (.cells #[.bool s1, .bool e1, .bool rs1, .bool re1, .int .i64 n1] 47)) := (Bl.refl w4).alloc _
      have l4 := BoxAt.new w4 #[.bool s1, .bool e1, .bool rs1, .bool re1, .int .i64 n1] 47
      have k4 := (k3.bl hb4).bl al4
      have H4 := (H3.trans hb4).trans al4
      have hszk : w.heap.size ≤ w3.heap.size := (H2.trans hb3).size
      clear g0 g1 g2 g3 al3 al4
      by_cases h0 : E0 = 0
      · by_cases h1 : E1 = 0
        · subst h0
          subst h1
          have hrole : role = 0 ∨ role = 1 := by
            have := HE0.out
            unfold needE at this
            cases hbr : badRole role
            · simp only [badRole, Bool.or_eq_false_iff, decide_eq_false_iff_not] at hbr
              omega
            · rw [hbr] at this; simp at this
          have hA : (⟨s0, e0, rs0, re0, n0⟩ : Keys) = ofK p (allL p) role := by rw [← HK0.out, needK, HE0.out, if_pos rfl]
          have hB : (⟨s1, e1, rs1, re1, n1⟩ : Keys) = ofK q (allL q) role := by rw [← HK1.out, needK, HE1.out, if_pos rfl]
          rw [HQP.out, HPN.out (by trivial) role hrole, ← hA] at hB
          injection hB with z1 z2 z3 z4 z5
          subst z1 z2 z3 z4
          simp only at z5
          subst z5
          have hnn : 0 ≤ n0 ∧ n0 ≤ 10100 := by
            have e : n0 = (met1 (allL p) 2 7 : Nat) := by have := congrArg Keys.n hA; exact this
            have := met_le p ((right_iff p).1 HRB.out).small p.msgs.length 0 2 7
            rw [ahead_all p _ _ (Nat.le_refl _)] at this
            omega
          obtain ⟨hn0, hn1'⟩ := hnn
          clear hA HPN HK0 HK1 HE0 HE1 hrole
          obtain ⟨q0, q1, q2, q3, q4⟩ := k4.cells5
          obtain ⟨r0, r1, r2, r3, r4⟩ := l4.cells5
          have f4 := k4.free 4
          have hlk := k4.lt
          have hll := l4.lt
          have hkl : w3.heap.size ≠ w4.heap.size := by have := (k3.bl hb4).lt; omega
          have kf := k4.set 4 (.int .i64 (n0 + 1))
          have lf := l4.other (a := ⟨w3.heap.size, 4, none⟩) (by show w4.heap.size ≠ w3.heap.size; omega) (.int .i64 (n0 + 1))
          have Hf := H4.setCell (a := ⟨w3.heap.size, 4, none⟩) hszk (.int .i64 (n0 + 1))
          go_upto_region 9 with fail
          generalize (w4.alloc (.cells #[.bool s1, .bool e1, .bool rs1, .bool re1, .int .i64 (n0 + 1)] 47)).setCell ⟨w3.heap.size, 4, none⟩ (.int .i64 (n0 + 1)) = W at kf lf Hf ⊢
          clear q0 q1 q2 q3 q4 r0 r1 r2 r3 r4
          obtain ⟨q0, q1, q2, q3, q4⟩ := (show BoxAt W w3.heap.size [.bool s1, .bool e1, .bool rs1, .bool re1, .int .i64 (n0 + 1)] 47 from kf).cells5
          obtain ⟨r0, r1, r2, r3, r4⟩ := lf.cells5
          go_wp2_with fail
          refine (awake8_any W (hE.bl Hf)).mono ?_
          rintro e' w5 ⟨rfl, hb5⟩
          go_wp2
          go_ret
          exact ⟨rfl, Hf.trans hb5⟩
        · subst h0
          have d1 : (E1 != 0) = true := by simpa using h1
          go_wp2_with fail
          refine (awake8_any _ (hE.bl H4)).mono ?_
          rintro e' w5 ⟨rfl, hb5⟩
          go_wp2
          go_ret
          exact ⟨rfl, H4.trans hb5⟩
      · have d0 : (E0 != 0) = true := by simpa using h0
        go_wp2_with fail
        refine (awake8_any _ (hE.bl H4)).mono ?_
        rintro e' w5 ⟨rfl, hb5⟩
        go_wp2
        go_ret
        exact ⟨rfl, H4.trans hb5⟩
    · have dG : (G != 0) = true := by simpa using hG
      go_wp2_with fail
      refine (awake8_any w2 (hE.bl H2)).mono ?_
      rintro e w3 ⟨rfl, hb3⟩
      go_wp2
      go_ret
      exact ⟨rfl, H2.trans hb3⟩
end Go.Proofs.YtkcmmcgbkihpfaaDoor

set_option linter.unusedSimpArgs false
set_option linter.unusedVariables false
namespace Go.Proofs.YtkcmmcgbkihpfaaDoor.fnNeedMore
open Go.ChangeShapes Go.WideShapes Go.ChangeAt Go.RowKit Go.ChangeMaps

set_option maxRecDepth 100000 in
theorem contract (H : Type) (enc : TypeId × Value → H) (W : World) (base : Nat) (args : Array Value) (ds gs : List (DataW H)) (before : List MemPlace)
    (hval : ∀ (j : Nat) t v, Tryd.f13.params[j]? = some t → args[j]? = some v → Value.okWide Tryd.prog W .any base t v)
    (hW : DataW.Whole enc Tryd.prog Tryd.f13.params.toList Rows.needMoreSpec.vars false W args.toList ds gs before)
    (hsz : (DataW.weightsEach Tryd.prog (Tryd.f13.params.toList ++ (OpenSpec.ofChange Rows.needMoreSpec).bare.plain.varTypes Tryd.prog) (ds ++ gs)).all (· ≤ reachBytes) = true) (hE : EnvB W) :
    Calls Tryd.prog 13 args W fun e W' => ∃ v, e = .returned v ∧ Rows.needMoreSpec.post enc Tryd.prog Tryd.f13 false true false false W args v W' := by
  have hW' := hW
  obtain ⟨p, q, hA0, hV, rfl, hfz, hnd⟩ := hW
  have hA : DataW.TrodAll enc Tryd.prog W 0 (fun _ => true) true Tryd.f13.params.toList args.toList ds p := hA0
  rw [Tryd.params13] at hA hval hsz
  obtain ⟨v0, vs0, d0, ds0, p0, q0, hargs0, rfl, rfl, h0, r0⟩ := trodAll_cons hA
  obtain ⟨v1, vs1, d1, ds1, p1, q1, hargs1, rfl, rfl, h1, r1⟩ := trodAll_cons r0
  obtain ⟨v2, vs2, d2, ds2, p2, q2, hargs2, rfl, rfl, h2, r2⟩ := trodAll_cons r1
  obtain ⟨rfl, rfl, rfl⟩ := trodAll_nil r2
  subst hargs1
  subst hargs2
  obtain rfl : args = #[v0, v1, v2] := by cases args; simp_all
  obtain ⟨rfl, rfl⟩ := trodVars_none hV
  have hz0 : within d0 29 := fun k hk => by
    have := List.all_eq_true.1 hsz k (DataW.weights_mem_each (j := 0) (t := 29) (d := d0) rfl rfl k hk)
    exact of_decide_eq_true this
  obtain ⟨x0, hx0⟩ := open_pat (hval 0 29 v0 rfl rfl) h0 hz0
  obtain ⟨x1, rfl, rfl, rfl, wt1⟩ := open_int Tryd.underlying3 (hval 1 3 v1 rfl rfl) h1
  obtain ⟨x2, rfl, rfl, rfl, wt2⟩ := open_int Tryd.underlying3 (hval 2 3 v2 rfl rfl) h2
  clear hA0 hsz hval
  refine (needMore_any v0 x0 x1 x2 W hE hx0 (bounds_i64 wt1).1 (bounds_i64 wt1).2).mono fun e W' ⟨he, hb⟩ => ?_
  subst he
  exact ⟨_, rfl, post_of_below (pv := []) hW' (fun _ _ _ => trodAll_cons_mk (shut_bool Tryd.underlying4 _) trodAll_mk0) (trodAll_cons_mk (Below.trod laidOut (by kernel_rfl) (of_decide_eq_true (by kernel_rfl)) h0 hb (fun x hx => by simpa using hW'.lt x (by simp [hx]))) (trodAll_cons_mk (shut_int Tryd.underlying3 wt1) (trodAll_cons_mk (shut_int Tryd.underlying3 wt2) trodAll_mk0))) rfl (by simp) hb⟩

theorem laid_met (os : Os) : laidMet Tryd.prog Rows.needMoreRow.laid ((laidWorldN os).forCall (fun _ _ => 0) ⟨#[], #[.agg #[.string ⟨#[]⟩, .slice none 0 0, .slice none 0 0, .slice none 0 0], .int .i64 0, .int .i64 0], []⟩).memory :=
  laidMet_of_run' 12 (by kernel_rfl) (by kernel_rfl)
theorem reads (os : Os) {H : Type} (enc : TypeId × Value → H) : ∃ places, DataW.whole enc Tryd.prog ((laidWorldN os).forCall (fun _ _ => 0) ⟨#[], #[.agg #[.string ⟨#[]⟩, .slice none 0 0, .slice none 0 0, .slice none 0 0], .int .i64 0, .int .i64 0], []⟩).memory Tryd.f13.params.toList Rows.needMoreSpec.vars false (#[Value.agg #[.string ⟨#[]⟩, .slice none 0 0, .slice none 0 0, .slice none 0 0], Value.int .i64 0, Value.int .i64 0] : Array Value).toList 8 = some ([.agg [.lit (.string []), .agg [.nil, .nil], .nil], .lit (.int .i64 0), .lit (.int .i64 0)], [], places) :=
  ⟨[], by kernel_rfl⟩

set_option maxRecDepth 100000 in
theorem lifted (os : Os) (started : os.Started) (H : Type) (enc : TypeId × Value → H) (F : Stop.Interp) :
    ReturnsInHanded {} Tryd.checked os 13 .any ((OpenSpec.ofChange Rows.needMoreSpec).preRow enc Tryd.prog Tryd.f13 Rows.needMoreRow.domain false Rows.needMoreRow.laid) (((OpenSpec.ofChange Rows.needMoreSpec).at F).post enc Tryd.prog Tryd.f13 false true false false) := by
  obtain ⟨places, hx⟩ := reads os enc
  refine returnsInHanded_of_row (C := Tryd.checked) (s := OpenSpec.ofChange Rows.needMoreSpec) own started (by kernel_rfl) Tryd.func13
    (witness_row_atRef (enc := enc) (C := Tryd.checked) false (laidWorldN os) #[.agg #[.string ⟨#[]⟩, .slice none 0 0, .slice none 0 0, .slice none 0 0], .int .i64 0, .int .i64 0] rfl (by kernel_rfl) (by kernel_rfl) (by kernel_rfl)
      (OpenSpec.preRow_of_cond 8 hx (by kernel_rfl) (fun k hk => by cases hk) (by kernel_rfl) (laid_met os))) ?_
  intro W base args ds gs before hval hW _ _ hsz hL hE _
  exact contract H enc W base args ds gs before hval hW hsz (env_of hE hL (by unfold Rows.needMoreRow; simp))

theorem said : Rows.NeedMoreSaid :=
  OpenClaim.holds_of_cond 13 Tryd.f13 rfl rfl rfl rfl rfl rfl rfl ⟨rfl, rfl, rfl, rfl, rfl⟩ rfl rfl rfl rfl rfl (by kernel_rfl) Tryd.func13 (by kernel_rfl)
    (of_decide_eq_true (by kernel_rfl)) (by unfold Func.isWrapper; first | (rw [if_pos (by decide +kernel)]; kernel_rfl) | (rw [if_neg (by decide +kernel)]; exact ⟨rfl, rfl⟩))
    (fun os started H enc _ F => by rw [OpenClaim.pre_eq_preRow]; exact lifted os started H enc F)

theorem plain (f : FuncId) (fn : Func) (hf : Tryd.pinned.checked.prog.funcNamed "undertone/undertonelaw08.NeedMore" = some f) (hfn : Tryd.pinned.checked.prog.funcs[f]? = some fn) :
    false = Tryd.pinned.checked.prog.looks [] ∧ ∀ (j : Nat) t, fn.params[j]? = some t → Tryd.pinned.checked.prog.wantsStandIn t = false := by
  obtain rfl : f = 13 := Option.some.inj ((show Tryd.prog.funcNamed "undertone/undertonelaw08.NeedMore" = some 13 by kernel_rfl).symm.trans hf) |>.symm
  obtain rfl : fn = Tryd.f13 := (Option.some.inj (Tryd.func13.symm.trans hfn)).symm
  refine ⟨by kernel_rfl, fun j t ht => ?_⟩
  rw [Tryd.params13] at ht
  have hm : t = 29 ∨ t = 3 ∨ t = 3 := by simpa using Array.mem_of_getElem? ht
  rcases hm with rfl | rfl | rfl
  · exact (show Tryd.prog.wantsStandIn 29 = false by kernel_rfl)
  · exact (show Tryd.prog.wantsStandIn 3 = false by kernel_rfl)
  · exact (show Tryd.prog.wantsStandIn 3 = false by kernel_rfl)

theorem card : Rows.NeedMoreCardSaid :=
  Claim7.holds_tied_plain_at .later [] _ _ _ _ said (fun _ h => by cases h) (by kernel_rfl) (fun _ h => by cases h) needMore_row_tie rfl ⟨rfl, rfl⟩ (by kernel_rfl) rfl plain (by kernel_rfl)
end Go.Proofs.YtkcmmcgbkihpfaaDoor.fnNeedMore
