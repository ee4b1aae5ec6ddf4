/- Walk: undertonelaw06.BasePsks. -/
import Derived.Test.YtelloecgdiocoaaDoorL6a
set_option linter.unusedSimpArgs false
set_option linter.unusedVariables false
namespace Go.Proofs.YtelloecgdiocoaaDoor
open Go.RowKit Go.Sort

theorem psk_parts {p : Pat} {n : Int} (h : pskE p n = 0) : rightB p = true ∧ 0 ≤ n ∧ n ≤ p.msgs.length ∧ pskAt n < p.msgs.length ∧ (p.msgs.getD (pskAt n) ⟨0, []⟩).t.length < 12 := by
  unfold pskE at h
  cases hr : rightB p
  · rw [hr] at h; simp at h
  · cases hb : pskBad p n
    · have hl1 := (right_parts hr).2.2.1
      rw [pskBad] at hb
      simp only [Bool.or_eq_false_iff, decide_eq_false_iff_not] at hb
      refine ⟨rfl, by omega, by omega, by unfold pskAt; omega, by omega⟩
    · rw [hr, hb] at h; simp at h
theorem psk_other (l : List Msg) (k i : Nat) (n : Int) (hi : i < l.length) (hj : i < (l.modify k (pskM n)).length) (h : i ≠ k) : (l.modify k (pskM n))[i] = l[i] := by
  rw [List.getElem_modify, if_neg (Ne.symm h)]
theorem psk_there (l : List Msg) (k : Nat) (n : Int) (hk : k < l.length) (hj : k < (l.modify k (pskM n)).length) : (l.modify k (pskM n))[k] = pskM n l[k] := by
  rw [List.getElem_modify, if_pos rfl]

theorem SI.atD' {w : World} {v : Value} {l : List Int} (h : SI w v l) (k : Nat) (hk : k < l.length) : ∃ b o c, v = .slice (some ⟨b, o, none⟩) l.length c ∧ w.cell? ⟨b, o + k, none⟩ = some (.int .i64 (l.getD k 0)) := by
  obtain ⟨a, c, rfl, _, hc⟩ := h
  obtain ⟨b, o, rfl, hk'⟩ := hc k hk
  exact ⟨b, o, c, rfl, by rw [hk', List.getD_eq_getElem?_getD, List.getElem?_eq_getElem hk]; rfl⟩

set_option maxRecDepth 100000 in
set_option maxHeartbeats 8000000 in
theorem basePsks_any (v : Value) (p : Pat) (n : Int) (w : World) (hE : Env w) (h : SP w v p) (hn1 : -9223372036854775808 ≤ n) (hn2 : n ≤ 9223372036854775807) :
    Calls Tryd.prog 10 #[v, .int .i64 n] w fun e w' => e = .returned (.bool true) ∧ Bl w w' := by
  have hv := h
  obtain ⟨v0, v1, vm, rfl, hn, h0, h1, hm⟩ := h
  obtain ⟨a0, c0, rfl⟩ := h0.form
  obtain ⟨a1, c1, rfl⟩ := h1.form
  obtain ⟨am, cm, rfl⟩ := hm.form
  clear h0 h1
  have x := BoxAt.new w #[.string p.name, .slice a0 p.pre0.length c0, .slice a1 p.pre1.length c1, .slice am p.msgs.length cm] 29
  have H : Bl w (w.alloc (.cells #[.string p.name, .slice a0 p.pre0.length c0, .slice a1 p.pre1.length c1, .slice am p.msgs.length cm] 29)) := (Bl.refl w).alloc _
  have HP := Lib.hid (@psk_parts p n)
  have HQ : Hid (pskE p n = 0 → (if pskE p n = 0 then pskP p n else zeroP) = ⟨p.name, p.pre0, p.pre1, p.msgs.modify (pskAt n) (pskM n)⟩) := Lib.hid (fun h => by rw [if_pos h]; rfl)
  have cK := fun u w h => psk_any u p n w h hn1 hn2
  generalize (if pskE p n = 0 then pskP p n else zeroP) = q at *
  generalize pskE p n = E at *
  go_enter Tryd.func10, Tryd.ntmps10
  go_wp2_with fail
  refine (cK _ _ (hv.bl H)).mono ?_
  rintro e w1 ⟨u, rfl, hu, hb1⟩
  have hu0 := hu
  obtain ⟨u0, u1, um, rfl, _, i0, i1, im⟩ := hu
  obtain ⟨b0, d0, rfl⟩ := i0.form
  obtain ⟨b1, d1, rfl⟩ := i1.form
  obtain ⟨bm, dm, rfl⟩ := im.form
  clear i0 i1
  have al : Bl w1 (w1.alloc (.cells #[.string q.name, .slice b0 q.pre0.length d0, .slice b1 q.pre1.length d1, .slice bm q.msgs.length dm] 29)) := (Bl.refl w1).alloc _
  have y1 := BoxAt.new w1 #[.string q.name, .slice b0 q.pre0.length d0, .slice b1 q.pre1.length d1, .slice bm q.msgs.length dm] 29
  have x1 := (x.bl hb1).alloc (.cells #[.string q.name, .slice b0 q.pre0.length d0, .slice b1 q.pre1.length d1, .slice bm q.msgs.length dm] 29)
  have im1 := im.bl al
  have H1 := (H.trans hb1).trans al
  have hlx : w.heap.size < w1.heap.size := (x.bl hb1).lt
  clear cK hu0 im x H hb1
  go_upto_region 2 with fail
  generalize hW1 : w1.alloc (.cells #[.string q.name, .slice b0 q.pre0.length d0, .slice b1 q.pre1.length d1, .slice bm q.msgs.length dm] 29) = W1 at *
  clear hW1 al
  generalize w1.heap.size = B at *
  obtain ⟨g0, g1, g2, g3⟩ : _ ∧ _ ∧ _ ∧ _ := ⟨x1.cell 0 rfl, x1.cell 1 rfl, x1.cell 2 rfl, x1.cell 3 rfl⟩
  go_wp2_with fail
  refine (few_any _ p _ (hv.bl H1)).mono ?_
  rintro e w2 ⟨rfl, hb2⟩
  have x2 := x1.bl hb2
  have y2 := y1.bl hb2
  have im2 := im1.bl hb2
  have H2 := H1.trans hb2
  clear g0 g1 g2 g3 x1 y1 im1 H1 hb2
  cases hfp : fewB p
  · go_wp2_with fail
    refine (awake6_any w2 (hE.bl H2)).mono ?_
    rintro e w3 ⟨rfl, hb3⟩
    go_wp2
    go_ret
    exact ⟨rfl, H2.trans hb3⟩
  · clear hfp
    by_cases he : E = 0
    · subst he
      obtain ⟨hr, hn0, hnl, hat, hl12⟩ := HP.out (by trivial)
      have hq := HQ.out (by trivial)
      subst hq
      have hl6 := (right_parts hr).2.2.2.1
      clear HP HQ hr
      simp only at y2 im2
      have HAT : Hid (pskAt n = (max (n - 1) 0).toNat) := Lib.hid rfl
      have HOT := Lib.hid (fun i hi hj h => psk_other p.msgs (pskAt n) i n hi hj h)
      have HTH := Lib.hid (fun hj => psk_there p.msgs (pskAt n) n hat hj)
      rw [show p.msgs.getD (pskAt n) ⟨0, []⟩ = p.msgs[pskAt n] by simp [hat]] at hl12
      have HML : Hid ((p.msgs.modify (pskAt n) (pskM n)).length = p.msgs.length) := Lib.hid (by rw [List.length_modify])
      generalize hqm : p.msgs.modify (pskAt n) (pskM n) = qm at *
      clear hqm
      generalize pskAt n = k at *
      have hmx : max (n - 1) 0 = (k : Int) := by have := HAT.out; omega
      have hwr : IntKind.i64.wrap (n - 1) = n - 1 := IntWalk.i64_in _ (by omega)
      have hkl : decide ((p.msgs.length : Int) ≤ (k : Int)) = false := by rw [decide_eq_false_iff_not]; omega
      have hml := HML.out
      obtain ⟨g0, g1, g2, g3⟩ : _ ∧ _ ∧ _ ∧ _ := ⟨x2.cell 0 rfl, x2.cell 1 rfl, x2.cell 2 rfl, x2.cell 3 rfl⟩
      obtain ⟨k0, k1, k2, k3⟩ : _ ∧ _ ∧ _ ∧ _ := ⟨y2.cell 0 rfl, y2.cell 1 rfl, y2.cell 2 rfl, y2.cell 3 rfl⟩
      go_wp2_with fail
      clear g0 g1 g2 g3 k0 k1 k2 k3 hmx hwr hkl
      rw [hml] at y2
      go_loopw [52] (fun i wr => ∃ i' : Nat, i' ≤ p.msgs.length ∧ i = .int .i64 i' ∧ Bl w2 wr ∧ Bl w wr) (fun i _ => p.msgs.length - (intOf i).toNat)
      case atStart => exact ⟨0, by omega, rfl, Bl.refl _, H2⟩
      case round =>
        obtain ⟨i, hi, rfl, H2r, Hr⟩ := hrel
        have xr := x2.bl H2r
        have yr := y2.bl H2r
        by_cases hil : i < p.msgs.length
        · have di : decide ((i : Int) < (p.msgs.length : Int)) = true := by simp; omega
          obtain ⟨bb, oo, u, rfl, _, hc1, hu'⟩ := (hm.bl Hr).at i hil
          obtain ⟨bq, oq, uq, rfl, _, hq1, huq⟩ := (im2.bl H2r).at i (by rw [hml]; exact hil)
          obtain ⟨ua, uc, rfl⟩ := hu'.form
          obtain ⟨va, vc, rfl⟩ := huq.form
          have p3 := xr.cell 3 rfl
          have r3 := yr.cell 3 rfl
          have e1 := cell_regrown hc1
          have e2 := cell_regrown hq1
          have e3 := cell_regrown p3
          have e4 := cell_regrown r3
          go_upto_region 10 with fail
          refine wp_region_quiet_below (by kernel_rfl) (by kernel_rfl) ?_
          repeat (go_big_quiet_step (fail))
          refine wpQuiet_nil ?_
          intro wq hwq
          obtain ⟨pq, rfl⟩ := hwq
          have hbq := below_regrown wr pq.d pq.os
          clear e1 e2 e3 e4 p3 r3 hc1 hq1
          generalize grow (redrawn wr pq.d) pq.os = wq at *
          have H2q := H2r.trans hbq
          have Hq := Hr.trans hbq
          by_cases hik : i = k
          · subst hik
            have dik : ((i : Int) != (i : Int)) = false := by simp
            have hth := HTH.out (by rw [hml]; exact hil)
            have huq2 := huq.bl hbq
            rw [hth] at huq2
            have hln : (qm[i]'(by rw [hml]; exact hil)).t.length = (pskM n p.msgs[i]).t.length := by rw [hth]
            rw [hln]
            have hl30 : p.msgs[i].t.length < 12 := hl12
            generalize p.msgs[i] = m at *
            obtain ⟨who, l⟩ := m
            by_cases hnz : n = 0
            · subst hnz
              have e7 : (pskM 0 ⟨who, l⟩).t = 7 :: l := rfl
              rw [e7] at huq2 ⊢
              obtain ⟨b3, o3, c3, e3, t3⟩ := huq2.atD' 0 (by simp)
              injection e3 with e3 _ ec3
              subst e3 ec3
              simp only [List.getD_cons_zero, Nat.add_zero] at t3
              simp only [List.length_cons] at hl30 ⊢
              have hw1 : IntKind.i64.wrap ((l.length : Int) + 1) = (l.length : Int) + 1 := IntWalk.i64_in _ (by omega)
              have hlt : decide ((0 : Int) < ((l.length + 1 : Nat) : Int)) = true := by rw [decide_eq_true_eq]; omega
              go_wp2_with fail
              go_roundw
              case rel => exact ⟨i + 1, by omega, by go_num, H2q, Hq⟩
              case measure => simp [intOf]; omega
            · have hnp : 0 < n := by omega
              have dn0 : (n == 0) = false := by simpa using hnz
              have dn1 : decide (0 < n) = true := by simpa using hnp
              have e7 : (pskM n ⟨who, l⟩).t = l ++ [7] := by rw [pskM]; simp [hnz]
              rw [e7] at huq2 ⊢
              obtain ⟨b3, o3, c3, e3, t3⟩ := huq2.atD' l.length (by simp)
              injection e3 with e3 _ ec3
              subst e3 ec3
              have h77 : (l ++ [7]).getD l.length 0 = 7 := by simp [List.getD]
              rw [h77] at t3
              simp only [List.length_append, List.length_cons, List.length_nil, Nat.zero_add] at hl30 ⊢
              have hw1 : IntKind.i64.wrap ((l.length : Int) + 1) = (l.length : Int) + 1 := IntWalk.i64_in _ (by omega)
              clear hnz hnp h77
              go_wp2_with fail
              go_roundw
              case rel => exact ⟨i + 1, by omega, by go_num, H2q, Hq⟩
              case measure => simp [intOf]; omega
          · have dik : ((i : Int) != (k : Int)) = true := by simp; omega
            have hot := HOT.out i hil (by rw [hml]; exact hil) hik
            rw [hot]
            generalize p.msgs[i].t.length = ll at *
            go_wp2_with fail
            go_roundw
            case rel => exact ⟨i + 1, by omega, by go_num, H2q, Hq⟩
            case measure => simp [intOf]; omega
        · have di : decide ((i : Int) < (p.msgs.length : Int)) = false := by simp; omega
          go_wp2_with fail
          refine (awake6_any wr (hE.bl Hr)).mono ?_
          rintro e w3 ⟨rfl, hb3⟩
          go_wp2
          go_ret
          exact ⟨rfl, Hr.trans hb3⟩
    · have de : (E != 0) = true := by simpa using he
      go_wp2_with fail
      refine (awake6_any w2 (hE.bl H2)).mono ?_
      rintro e w3 ⟨rfl, hb3⟩
      go_wp2
      go_ret
      exact ⟨rfl, H2.trans hb3⟩
end Go.Proofs.YtelloecgdiocoaaDoor
