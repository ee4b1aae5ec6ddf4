/- The card of ValidTurns: for every argument, wherever the listed tables are as laid, the law returns true. -/
import Derived.Test.YtffibiigoikmdaaDoorL7a
import Derived.Test.YtffibiigoikmdaaDoorQ5
import Derived.Deep.DeepCutAuto
import Derived.Test.YtffibiigoikmdaaDoorFrameB
import Derived.Test.YtffibiigoikmdaaDoorOpenB
set_option linter.unusedSimpArgs false
set_option linter.unusedVariables false
namespace Go.Proofs.YtffibiigoikmdaaDoor
open Go.RowKit Go.Sort

theorem check3_any (v : Value) (p : Pat) (w : World) (h : SP w v p) (R E : Int) (I : Nat) (hC : checkV p = (R, I, E)) : Calls Tryd.prog 10 #[v] w fun e w' => e = .returned (.tuple #[.int .i64 R, .int .i64 (I : Int), .int .i64 E]) ∧ Bl w w' := by
  have := check_any v p w h
  rw [hC] at this
  exact this
theorem few_parts {p : Pat} (h : fewB p = true) : p.msgs.length ≤ 10 ∧ ∀ m ∈ p.msgs, m.t.length ≤ 20 := by
  unfold fewB at h
  simp only [Bool.and_eq_true, decide_eq_true_eq] at h
  obtain ⟨⟨⟨⟨h1, h2⟩, _⟩, _⟩, _⟩ := h
  rw [List.take_of_length_le (by omega)] at h1
  exact ⟨h2, fun m hm => by simpa using List.all_eq_true.1 h1 m hm⟩
theorem swT_cases (t : Int) : (t = 4 ∧ swT t = 5) ∨ (t = 5 ∧ swT t = 4) ∨ (t ≠ 4 ∧ t ≠ 5 ∧ swT t = t) := by
  unfold swT
  by_cases h4 : t = 4
  · exact .inl ⟨h4, by rw [if_pos h4]⟩
  · by_cases h5 : t = 5
    · exact .inr (.inl ⟨h5, by rw [if_neg h4, if_pos h5]⟩)
    · exact .inr (.inr ⟨h4, h5, by rw [if_neg h4, if_neg h5]⟩)

set_option maxRecDepth 100000 in
set_option maxHeartbeats 16000000 in
theorem validTurns_any (v : Value) (p : Pat) (w : World) (hE : Env w) (h : SP w v p) (hbnd : Bnd p.msgs) :
    Calls Tryd.prog 7 #[v] w fun e w' => e = .returned (.bool true) ∧ Bl w w' := by
  have hv := h
  obtain ⟨j0, hji, hjz0, hjz1, hjz2⟩ := info_parts infoInt
  obtain ⟨i0, hi, hz0, hz1, hz2⟩ := info_parts infoMsg
  obtain ⟨v0, v1, vm, rfl, hn, h0, h1, hm⟩ := h
  obtain ⟨a0, c0, rfl⟩ := h0.form
  obtain ⟨a1, c1, rfl⟩ := h1.form
  obtain ⟨am, cm, rfl⟩ := hm.form
  have x := BoxAt.new w #[.string p.name, .slice a0 p.pre0.length c0, .slice a1 p.pre1.length c1, .slice am p.msgs.length cm] 28
  have H : Bl w (w.alloc (.cells #[.string p.name, .slice a0 p.pre0.length c0, .slice a1 p.pre1.length c1, .slice am p.msgs.length cm] 28)) := (Bl.refl w).alloc _
  have HTC := Lib.hid (fun h2 => turn_check p hbnd h2)
  have HFW : Hid (fewB p = true → p.msgs.length ≤ 10 ∧ ∀ m ∈ p.msgs, m.t.length ≤ 20) := Lib.hid (fun h => few_parts h)
  clear hbnd
  go_enter Tryd.func7, Tryd.ntmps7
  go_wp2_with fail
  refine (few_any _ p _ (hv.bl H)).mono ?_
  rintro e w2 ⟨rfl, hb2⟩
  have x2 := x.bl hb2
  have H2 := H.trans hb2
  clear x H hb2
  obtain ⟨g0, g1, g2, g3⟩ : _ ∧ _ ∧ _ ∧ _ := ⟨x2.cell 0 rfl, x2.cell 1 rfl, x2.cell 2 rfl, x2.cell 3 rfl⟩
  cases hfp : fewB p
  · go_wp2_with fail
    refine (awake7_any w2 (hE.bl H2)).mono ?_
    rintro e w3 ⟨rfl, hb3⟩
    go_wp2
    go_ret
    exact ⟨rfl, H2.trans hb3⟩
  · obtain ⟨hl10, hl20⟩ := HFW.out hfp
    have HL20 := Lib.hid hl20
    clear hfp HFW hl20
    by_cases hl2 : p.msgs.length < 2
    · have d2 : decide ((p.msgs.length : Int) < 2) = true := by rw [decide_eq_true_eq]; omega
      go_wp2_with fail
      refine (awake7_any w2 (hE.bl H2)).mono ?_
      rintro e w3 ⟨rfl, hb3⟩
      go_wp2
      go_ret
      exact ⟨rfl, H2.trans hb3⟩
    · have d2 : decide ((p.msgs.length : Int) < 2) = false := by rw [decide_eq_false_iff_not]; omega
      have htc := HTC.out (by omega)
      have HCK := Lib.hid htc
      clear HTC htc
      have y3 := BoxAt.new w2 #[.string p.name, .slice a1 p.pre1.length c1, .slice a0 p.pre0.length c0, .slice none 0 0] 28
      have al : Bl w2 (w2.alloc (.cells #[.string p.name, .slice a1 p.pre1.length c1, .slice a0 p.pre0.length c0, .slice none 0 0] 28)) := (Bl.refl w2).alloc _
      have x3 := x2.bl al
      have H3 := H2.trans al
      have hB : w.heap.size < w2.heap.size := x2.lt
      have hs3 : (w2.alloc (.cells #[.string p.name, .slice a1 p.pre1.length c1, .slice a0 p.pre0.length c0, .slice none 0 0] 28)).heap.size = w2.heap.size + 1 := size_alloc _ _
      go_upto_region 4 with fail
      generalize w2.alloc (.cells #[.string p.name, .slice a1 p.pre1.length c1, .slice a0 p.pre0.length c0, .slice none 0 0] 28) = W at *
      generalize w2.heap.size = B at *
      clear g0 g1 g2 g3 x2 H2 al
      have g3 := x3.cell 3 rfl
      go_wp2_with fail
      clear g3
      go_loopw [38] (fun i wr => ∃ (j : Nat) (vm : Value) (xs : List Value), j ≤ p.msgs.length ∧ i = .int .i64 j ∧ BoxAt wr B [.string p.name, .slice a1 p.pre1.length c1, .slice a0 p.pre0.length c0, vm] 28 ∧ wr.ownsRow (B + 1) 44 2 vm j xs ∧
        MOwn wr (B + 1) 3 xs ((p.msgs.take j).map turnM) ∧ BoxAt wr w.heap.size [.string p.name, .slice a0 p.pre0.length c0, .slice a1 p.pre1.length c1, .slice am p.msgs.length cm] 28 ∧ Bl w wr ∧ B + 1 ≤ wr.heap.size) (fun i _ => p.msgs.length - (intOf i).toNat)
      case atStart => exact ⟨0, _, [], by omega, rfl, y3, World.ownsRow_nil _ _ _ _, trivial, x3, H3, by omega⟩
      case round =>
        obtain ⟨j, vm, xs, hj, rfl, yr, hown, hmo, xr, Hr, hsr⟩ := hrel
        by_cases hjl : j < p.msgs.length
        · have dj : decide ((j : Int) < (p.msgs.length : Int)) = true := by simp; omega
          obtain ⟨bb, oo, u, rfl, hc0, hc1, hu⟩ := (hm.bl Hr).at j hjl
          have HTK : Hid ((p.msgs.take (j + 1)).map turnM = (p.msgs.take j).map turnM ++ [turnM p.msgs[j]]) := Lib.hid (by rw [List.take_succ_eq_append_getElem hjl, List.map_append]; rfl)
          have hll := HL20.out p.msgs[j] (List.getElem_mem hjl)
          generalize p.msgs[j] = m at *
          obtain ⟨who, l⟩ := m
          simp only at hc0 hc1 hu hll
          obtain ⟨ua, uc, rfl⟩ := hu.form
          have al2 : Bl wr (wr.alloc (.cells #[.int .i64 who, .slice ua l.length uc] 44)) := (Bl.refl wr).alloc _
          have z2 := BoxAt.new wr #[.int .i64 who, .slice ua l.length uc] 44
          have y4 := yr.bl al2
          have hown4 := own_keep hown al2
          have hmo4 := hmo.bl al2
          have x4 := xr.bl al2
          have H4 := Hr.trans al2
          have hu4 := hu.bl al2
          have hs4 : B + 1 ≤ (wr.alloc (.cells #[.int .i64 who, .slice ua l.length uc] 44)).heap.size := by rw [size_alloc]; omega
          go_upto_region 7 with fail
          generalize wr.alloc (.cells #[.int .i64 who, .slice ua l.length uc] 44) = W2 at *
          generalize wr.heap.size = BM at *
          clear yr hown hmo xr Hr hsr hc0 hc1 hu al2
          have zc0 := z2.cell 0 rfl
          have zc1 := z2.cell 1 rfl
          go_wp2_with fail
          clear zc0 zc1
          go_loopw [6, 45] (fun x i wq => ∃ k : Nat, k ≤ l.length ∧ i = .int .i64 k ∧ wq.ownsRow W2.heap.size 3 1 x k (((l.take k).map swT).map (Value.int .i64)) ∧ Bl W2 wq ∧ W2.heap.size ≤ wq.heap.size) (fun _ i _ => l.length - (intOf i).toNat)
          case atStart => exact ⟨0, by omega, rfl, World.ownsRow_nil _ _ _ _, Bl.refl _, Nat.le_refl _⟩
          case round =>
            obtain ⟨k, hk, rfl, hwn, hbq, hsq⟩ := hrel
            obtain ⟨oa, oc, hoe⟩ := own_form hwn
            subst hoe
            by_cases hkl : k < l.length
            · have dk : decide ((k : Int) < (l.length : Int)) = true := by simp; omega
              have HN : Hid (((l.take (k + 1)).map swT).map (Value.int .i64) = ((l.take k).map swT).map (Value.int .i64) ++ [.int .i64 (swT l[k])]) := Lib.hid (by rw [List.take_succ_eq_append_getElem hkl, List.map_append, List.map_append]; rfl)
              obtain ⟨b', o', e', hct⟩ : ∃ b' o', ua = some ⟨b', o', none⟩ ∧ wr.cell? ⟨b', o' + k, none⟩ = some (.int .i64 l[k]) := by
                obtain ⟨a', c', e, _, hc⟩ := hu4.bl hbq
                injection e with e1 _ _
                obtain ⟨b', o', e2, h2⟩ := hc k hkl
                exact ⟨b', o', e1.trans e2, h2⟩
              subst e'
              generalize l[k] = t at *
              go_upto_block 4 with fail
              go_cut [8] from 50 to 54 (fun y wx => y = .int .i64 (swT t) ∧ wr = wx)
              case first =>
                rcases swT_cases t with ⟨rfl, hs⟩ | ⟨rfl, hs⟩ | ⟨h4, h5, hs⟩
                · go_wp2_with fail
                  go_meet
                  exact ⟨by rw [hs], rfl⟩
                · go_wp2_with fail
                  go_meet
                  exact ⟨by rw [hs], rfl⟩
                · have d4 : (t == 4) = false := by simpa using h4
                  have d5 : (t == 5) = false := by simpa using h5
                  go_wp2_with fail
                  go_meet
                  exact ⟨by rw [hs], rfl⟩
              case rest =>
                obtain ⟨rfl, rfl⟩ := hcut
                generalize swT t = y at *
                go_wp2_with (first
                  | (at_builtin; refine wpList_append_own _ rfl (.tmp 54) (.tmp 56) 24 rfl W2.heap.size 3 j0 (.int .i64 0) 1 8 Tryd.underlying24 hji hjz0 hjz1 hjz2 rfl (by decide) _ _ _ rfl (hwn.alloc _) ⟨wr.heap.size, 0, none⟩ 1 1 [.int .i64 y] rfl rfl ?c1 ?c2 ?c3 ?c4 ?c5 ?_))
                case c1 => exact one_new wr _ _
                case c2 => intro u hu; simp at hu; rcases hu with rfl; rfl
                case c3 => unfold maxLen; omega
                case c4 => omega
                case c5 => simp only [size_alloc]; omega
                intro v' w4 hown5 hg4 _
                have hb4 := Below.ofGrown (hwn.alloc (.cells #[.int .i64 y] 3)) hg4 (by simp only [size_alloc]; omega)
                go_wp2_with fail
                go_roundw
                case rel => exact ⟨k + 1, by omega, by go_num, by rw [HN.out]; simpa only [List.map_map, List.map_take] using hown5, (hbq.alloc _).below hb4 (Nat.le_refl _), by have := hb4.size; simp only [size_alloc] at this; omega⟩
                case measure => simp [intOf]; omega
            · have dk : decide ((k : Int) < (l.length : Int)) = false := by simp; omega
              obtain rfl : k = l.length := by omega
              rw [List.take_length] at hwn
              have y5 := y4.bl hbq
              have hown5 := own_keep hown4 hbq
              have hmo5 := hmo4.bl hbq
              have x5 := x4.bl hbq
              have z5 := z2.bl hbq
              have H5 := H4.trans hbq
              have hwl := own_lower hwn hs4
              obtain ⟨va, vc, hve⟩ := own_form hown5
              subst hve
              obtain ⟨y50, y53⟩ : _ ∧ _ := ⟨y5.cell 0 rfl, y5.cell 3 rfl⟩
              have yf3 := y5.free 3
              have zc0 := z5.cell 0 rfl
              have hly := y5.lt
              have hs5 : B + 1 ≤ wr.heap.size := by omega
              go_wp2_with (first
                | (at_builtin; refine wpList_append_own _ rfl (.tmp 60) (.tmp 66) 26 rfl (B + 1) 44 i0 (.agg #[.int .i64 0, .slice none 0 0]) 2 32 Tryd.underlying26 hi hz0 hz1 hz2 rfl (by decide) _ _ _ rfl (hown5.alloc _) ⟨wr.heap.size, 0, none⟩ 1 1 [.int .i64 (wrap64 (1 - who)), .slice oa l.length oc] rfl rfl ?c1 ?c2 ?c3 ?c4 ?c5 ?_))
              case c1 => exact two_newB wr _ _ _
              case c2 => intro u hu; simp at hu; rcases hu with rfl | rfl <;> rfl
              case c3 => unfold maxLen; omega
              case c4 => omega
              case c5 => simp only [size_alloc]; omega
              intro v' w6 hown6 hg6 _
              have aO : Bl wr (wr.alloc (.cells #[.int .i64 (wrap64 (1 - who)), .slice oa l.length oc] 44)) := (Bl.refl wr).alloc _
              have ho6 := own_keep hown5 aO
              have hb6 := Below.ofGrown ho6 hg6 (by rw [size_alloc]; omega)
              obtain ⟨ob, od, e6⟩ := own_form hown6
              subst e6
              have hmo6 := (hmo5.bl aO).grown ho6 (by decide) hg6
              have hw6a := own_keep hwl aO
              have hw6 := hw6a.kept hg6 (own_apart hw6a ho6 (by decide))
              have y6 := (y5.bl aO).below hb6 (by omega)
              have x6 := (x5.bl aO).below hb6 (by omega)
              have H6 := (H5.trans aO).below hb6 (by omega)
              have hs6 := hb6.size
              rw [size_alloc] at hs6
              have c6 := y6.cell 3 rfl
              have f6 := y6.free 3
              have hly6 := y6.lt
              go_wp2_with fail
              go_roundw
              case rel => exact ⟨j + 1, _, _, by omega, by go_num, y6.set 3 _, own_base hown6 (Nat.lt_succ_self B) _, by rw [HTK.out]; exact (hmo6.snoc (m := turnM ⟨who, l⟩) (by show w6.ownsRow (B + 1) 3 1 _ (l.map swT).length ((l.map swT).map (Value.int .i64)); rw [List.length_map]; exact hw6) (by show (l.map swT).length ≤ _; rw [List.length_map]; omega)).store (Nat.lt_succ_self B) _, x6.other (by show w.heap.size ≠ B; omega) _, H6.setCell (by show w.heap.size ≤ B; omega) _, by simp only [World.setCell, Array.size_modify]; omega⟩
              case measure => simp [intOf]; omega
        · have dj : decide ((j : Int) < (p.msgs.length : Int)) = false := by simp; omega
          obtain rfl : j = p.msgs.length := by omega
          rw [List.take_length] at hmo
          obtain ⟨va, vc, hve⟩ := own_form hown
          subst hve
          have hq : SP wr (.agg #[.string p.name, .slice a1 p.pre1.length c1, .slice a0 p.pre0.length c0, .slice va p.msgs.length vc]) (turnP p) := ⟨_, _, _, rfl, hn, h1.bl Hr, h0.bl Hr, own_SM hown hmo.row (by show (p.msgs.map turnM).length ≤ _; rw [List.length_map]; omega)⟩
          generalize hck : checkV p = CK at *
          generalize hck2 : checkV (turnP p) = CK2 at *
          obtain ⟨R, I, E⟩ := CK
          obtain ⟨R2, I2, E2⟩ := CK2
          obtain ⟨he, hi2, hR⟩ := HCK.out
          simp only at he hi2 hR
          subst he hi2
          have HC1 := Lib.hid hck
          have HC2 := Lib.hid hck2
          have HRR := Lib.hid hR
          clear hck hck2 HCK hR hown hmo
          obtain ⟨g0, g1, g2, g3⟩ : _ ∧ _ ∧ _ ∧ _ := ⟨xr.cell 0 rfl, xr.cell 1 rfl, xr.cell 2 rfl, xr.cell 3 rfl⟩
          go_wp2_with fail
          refine (check3_any _ p _ (hv.bl Hr) _ _ _ HC1.out).mono ?_
          rintro e w5 ⟨rfl, hb5⟩
          have y5 := yr.bl hb5
          have x5 := xr.bl hb5
          have hq5 := hq.bl hb5
          have H5 := Hr.trans hb5
          clear g0 g1 g2 g3 yr xr hq Hr hb5
          obtain ⟨g0, g1, g2, g3⟩ : _ ∧ _ ∧ _ ∧ _ := ⟨y5.cell 0 rfl, y5.cell 1 rfl, y5.cell 2 rfl, y5.cell 3 rfl⟩
          go_wp2_with fail
          refine (check3_any _ (turnP p) _ hq5 _ _ _ HC2.out).mono ?_
          rintro e w6 ⟨rfl, hb6⟩
          have x6 := x5.bl hb6
          have H6 := H5.trans hb6
          have k3 := x6.cell 3 rfl
          by_cases hE0 : E2 = 0
          · subst hE0
            have hr := HRR.out (.inl rfl)
            subst hr
            go_wp2_with fail
            refine (awake7_any w6 (hE.bl H6)).mono ?_
            rintro e w7 ⟨rfl, hb7⟩
            go_wp2
            go_ret
            exact ⟨rfl, H6.trans hb7⟩
          · have de : (E2 == 0) = false := by simpa using hE0
            by_cases hIl : I2 < p.msgs.length
            · have dI : decide ((I2 : Int) < (p.msgs.length : Int)) = true := by rw [decide_eq_true_eq]; omega
              have hr := HRR.out (.inr hIl)
              subst hr
              go_wp2_with fail
              refine (awake7_any w6 (hE.bl H6)).mono ?_
              rintro e w7 ⟨rfl, hb7⟩
              go_wp2
              go_ret
              exact ⟨rfl, H6.trans hb7⟩
            · have dI : decide ((I2 : Int) < (p.msgs.length : Int)) = false := by rw [decide_eq_false_iff_not]; omega
              go_wp2_with fail
              refine (awake7_any w6 (hE.bl H6)).mono ?_
              rintro e w7 ⟨rfl, hb7⟩
              go_wp2
              go_ret
              exact ⟨rfl, H6.trans hb7⟩
end Go.Proofs.YtffibiigoikmdaaDoor

set_option linter.unusedSimpArgs false
set_option linter.unusedVariables false
namespace Go.Proofs.YtffibiigoikmdaaDoor.fnValidTurns
open Go.ChangeShapes Go.WideShapes Go.ChangeAt Go.RowKit Go.ChangeMaps

set_option maxRecDepth 100000 in
theorem contract (H : Type) (enc : TypeId × Value → H) (W : World) (base : Nat) (args : Array Value) (ds gs : List (DataW H)) (before : List MemPlace)
    (hval : ∀ (j : Nat) t v, Tryd.f7.params[j]? = some t → args[j]? = some v → Value.okWide Tryd.prog W .any base t v)
    (hW : DataW.Whole enc Tryd.prog Tryd.f7.params.toList Rows.validTurnsSpec.vars false W args.toList ds gs before)
    (hsz : (DataW.weightsEach Tryd.prog (Tryd.f7.params.toList ++ (OpenSpec.ofChange Rows.validTurnsSpec).bare.plain.varTypes Tryd.prog) (ds ++ gs)).all (· ≤ reachBytes) = true) (hE : Env W) :
    Calls Tryd.prog 7 args W fun e W' => ∃ v, e = .returned v ∧ Rows.validTurnsSpec.post enc Tryd.prog Tryd.f7 false true false false W args v W' := by
  have hW' := hW
  obtain ⟨p, q, hA0, hV, rfl, hfz, hnd⟩ := hW
  have hA : DataW.TrodAll enc Tryd.prog W 0 (fun _ => true) true Tryd.f7.params.toList args.toList ds p := hA0
  rw [Tryd.params7] at hA hval hsz
  obtain ⟨v0, vs0, d0, ds0, p0, q0, hargs0, rfl, rfl, h0, r0⟩ := trodAll_cons hA
  obtain ⟨rfl, rfl, rfl⟩ := trodAll_nil r0
  obtain rfl : args = #[v0] := by cases args; simp_all
  obtain ⟨rfl, rfl⟩ := trodVars_none hV
  have hz0 : within d0 28 := fun k hk => by
    have := List.all_eq_true.1 hsz k (DataW.weights_mem_each (j := 0) (t := 28) (d := d0) rfl rfl k hk)
    exact of_decide_eq_true this
  obtain ⟨x0, hx0, hbn⟩ := open_patB (hval 0 28 v0 rfl rfl) h0 hz0
  clear hA0 hsz hval
  refine (validTurns_any v0 x0 W hE hx0 hbn).mono fun e W' ⟨he, hb⟩ => ?_
  subst he
  exact ⟨_, rfl, post_of_below (pv := []) hW' (fun _ _ _ => trodAll_cons_mk (shut_bool Tryd.underlying4 _) trodAll_mk0) (trodAll_cons_mk (Below.trod laidOut (by kernel_rfl) (of_decide_eq_true (by kernel_rfl)) h0 hb (fun x hx => by simpa using hW'.lt x (by simp [hx]))) trodAll_mk0) rfl (by simp) hb⟩

theorem laid_met (os : Os) : laidMet Tryd.prog Rows.validTurnsRow.laid ((laidWorldN os).forCall (fun _ _ => 0) ⟨#[], #[.agg #[.string ⟨#[]⟩, .slice none 0 0, .slice none 0 0, .slice none 0 0]], []⟩).memory :=
  laidMet_of_run' 12 (by kernel_rfl) (by kernel_rfl)
theorem reads (os : Os) {H : Type} (enc : TypeId × Value → H) : ∃ places, DataW.whole enc Tryd.prog ((laidWorldN os).forCall (fun _ _ => 0) ⟨#[], #[.agg #[.string ⟨#[]⟩, .slice none 0 0, .slice none 0 0, .slice none 0 0]], []⟩).memory Tryd.f7.params.toList Rows.validTurnsSpec.vars false (#[Value.agg #[.string ⟨#[]⟩, .slice none 0 0, .slice none 0 0, .slice none 0 0]] : Array Value).toList 8 = some ([.agg [.lit (.string []), .agg [.nil, .nil], .nil]], [], places) :=
  ⟨[], by kernel_rfl⟩

set_option maxRecDepth 100000 in
theorem lifted (os : Os) (started : os.Started) (H : Type) (enc : TypeId × Value → H) (F : Stop.Interp) :
    ReturnsInHanded {} Tryd.checked os 7 .any ((OpenSpec.ofChange Rows.validTurnsSpec).preRow enc Tryd.prog Tryd.f7 Rows.validTurnsRow.domain false Rows.validTurnsRow.laid) (((OpenSpec.ofChange Rows.validTurnsSpec).at F).post enc Tryd.prog Tryd.f7 false true false false) := by
  obtain ⟨places, hx⟩ := reads os enc
  refine returnsInHanded_of_row (C := Tryd.checked) (s := OpenSpec.ofChange Rows.validTurnsSpec) own started (by kernel_rfl) Tryd.func7
    (witness_row_atRef (enc := enc) (C := Tryd.checked) false (laidWorldN os) #[.agg #[.string ⟨#[]⟩, .slice none 0 0, .slice none 0 0, .slice none 0 0]] rfl (by kernel_rfl) (by kernel_rfl) (by kernel_rfl)
      (OpenSpec.preRow_of_cond 8 hx (by kernel_rfl) (fun k hk => by cases hk) (by kernel_rfl) (laid_met os))) ?_
  intro W base args ds gs before hval hW _ _ hsz hL hE _
  exact contract H enc W base args ds gs before hval hW hsz (envU_of hE hL (by unfold Rows.validTurnsRow; simp) (by unfold Rows.validTurnsRow; simp) (by unfold Rows.validTurnsRow; simp))

theorem said : Rows.ValidTurnsSaid :=
  OpenClaim.holds_of_cond 7 Tryd.f7 rfl rfl rfl rfl rfl rfl rfl ⟨rfl, rfl, rfl, rfl, rfl⟩ rfl rfl rfl rfl rfl (by kernel_rfl) Tryd.func7 (by kernel_rfl)
    (of_decide_eq_true (by kernel_rfl)) (by unfold Func.isWrapper; first | (rw [if_pos (by decide +kernel)]; kernel_rfl) | (rw [if_neg (by decide +kernel)]; exact ⟨rfl, rfl⟩))
    (fun os started H enc _ F => by rw [OpenClaim.pre_eq_preRow]; exact lifted os started H enc F)

theorem plain (f : FuncId) (fn : Func) (hf : Tryd.pinned.checked.prog.funcNamed "undertone/undertonelaw07.ValidTurns" = some f) (hfn : Tryd.pinned.checked.prog.funcs[f]? = some fn) :
    false = Tryd.pinned.checked.prog.looks [] ∧ ∀ (j : Nat) t, fn.params[j]? = some t → Tryd.pinned.checked.prog.wantsStandIn t = false := by
  obtain rfl : f = 7 := Option.some.inj ((show Tryd.prog.funcNamed "undertone/undertonelaw07.ValidTurns" = some 7 by kernel_rfl).symm.trans hf) |>.symm
  obtain rfl : fn = Tryd.f7 := (Option.some.inj (Tryd.func7.symm.trans hfn)).symm
  refine ⟨by kernel_rfl, fun j t ht => ?_⟩
  rw [Tryd.params7] at ht
  obtain rfl : t = 28 := by simpa using Array.mem_of_getElem? ht
  exact (show Tryd.prog.wantsStandIn 28 = false by kernel_rfl)

theorem card : Rows.ValidTurnsCardSaid :=
  Claim7.holds_tied_plain_at .later [] _ _ _ _ said (fun _ h => by cases h) (by kernel_rfl) (fun _ h => by cases h) validTurns_row_tie rfl ⟨rfl, rfl⟩ (by kernel_rfl) rfl plain (by kernel_rfl)
end Go.Proofs.YtffibiigoikmdaaDoor.fnValidTurns
