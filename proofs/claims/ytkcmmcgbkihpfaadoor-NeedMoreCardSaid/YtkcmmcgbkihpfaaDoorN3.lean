/- Walks: need.Of of a pattern that keeps the rules, of the responder. -/
import Derived.Test.YtkcmmcgbkihpfaaDoorN2
set_option linter.unusedSimpArgs false
set_option linter.unusedVariables false
namespace Go.Proofs.YtkcmmcgbkihpfaaDoor
open Go.RowKit Go.Sort

set_option maxRecDepth 100000 in
set_option maxHeartbeats 8000000 in
theorem needOf1_ok (v : Value) (p : Pat) (w : World) (h : SP w v p) (he : (checkV p).2.2 = 0) :
    Calls Tryd.prog 25 #[v, .int .i64 1] w fun e w' => e = .returned (.tuple #[keyV (ofK p (allL p) 1), .int .i64 0]) ∧ Bl w w' := by
  have hv := h
  have hrb := checkV_ok he
  obtain ⟨_, _, hl1, hl6, hok⟩ := right_parts hrb
  have hs := ((right_iff p).1 hrb).small
  have HOK := Lib.hid hok
  clear hok hrb
  obtain ⟨v0, v1, vm, rfl, hn, h0, h1, hm⟩ := h
  obtain ⟨a0, c0, rfl⟩ := h0.form
  obtain ⟨a1, c1, rfl⟩ := h1.form
  obtain ⟨am, cm, rfl⟩ := hm.form
  have y := (BoxAt.new w #[.string p.name, .slice a0 p.pre0.length c0, .slice a1 p.pre1.length c1, .slice am p.msgs.length cm] 29).alloc (.cells #[.bool false, .bool false, .bool false, .bool false, .int .i64 0] 47)
  have z := BoxAt.new (w.alloc (.cells #[.string p.name, .slice a0 p.pre0.length c0, .slice a1 p.pre1.length c1, .slice am p.msgs.length cm] 29)) #[.bool false, .bool false, .bool false, .bool false, .int .i64 0] 47
  have H : Bl w ((w.alloc (.cells #[.string p.name, .slice a0 p.pre0.length c0, .slice a1 p.pre1.length c1, .slice am p.msgs.length cm] 29)).alloc (.cells #[.bool false, .bool false, .bool false, .bool false, .int .i64 0] 47)) := ((Bl.refl w).alloc _).alloc _
  simp only [size_alloc] at z
  go_enter Tryd.func25, Tryd.ntmps25
  go_wp2_with fail
  refine (check_any _ p _ (hv.bl H)).mono ?_
  rintro e w1 ⟨rfl, hb1⟩
  rw [he]
  clear he
  have z1 := z.bl hb1
  have y1 := y.bl hb1
  have H1 := H.trans hb1
  clear z y H hb1
  have hlt := z1.lt
  generalize (checkV p).1 = cr at *
  generalize (checkV p).2.1 = cm' at *
  go_wp2
  go_cut [9] from 31 to 53 (fun x wx => x = .pointer (some ⟨w1.heap.size, 0, none⟩) ∧ BoxAt wx w1.heap.size [.bool (decide (2 ∈ p.pre1)), .bool (decide (1 ∈ p.pre1)), .bool (decide (2 ∈ p.pre0)), .bool (decide (1 ∈ p.pre0)), .int .i64 0] 47 ∧
      BoxAt wx w.heap.size [.string p.name, .slice a0 p.pre0.length c0, .slice a1 p.pre1.length c1, .slice am p.msgs.length cm] 29 ∧ BoxAt wx (w.heap.size + 1) [.bool false, .bool false, .bool false, .bool false, .int .i64 0] 47 ∧ Bl w wx)
  case first =>
    have hw10 : IntKind.i64.wrap (1 - 1) = 0 := by decide
    have hw11 : IntKind.i64.wrap 0 = 0 := by decide
    have hw12 : (0 : Int).toNat = 0 := rfl
    have h0A : SI w1.drew (.slice a0 p.pre0.length c0) p.pre0 := (h0.bl H1).bl (Bl.refl w1).drew
    have h1A : SI w1.drew (.slice a1 p.pre1.length c1) p.pre1 := (h1.bl H1).bl (Bl.refl w1).drew
    have hal : Bl w1 (w1.alloc (.cells #[.bool false, .bool false, .bool false, .bool false, .int .i64 0] 47)).drew := ((Bl.refl w1).alloc _).drew
    have h0B := (h0.bl H1).bl hal
    have h1B := (h1.bl H1).bl hal
    have sA := preC.of (y1.bl (Bl.refl w1).drew)
    have sB := preC.of (y1.bl hal)
    go_region_held3 (fun wx : World => wx.cell? ⟨w.heap.size, 1, none⟩ = some (.slice a0 p.pre0.length c0) ∧ wx.cell? ⟨w.heap.size, 2, none⟩ = some (.slice a1 p.pre1.length c1)) (first | with_reducible exact sA | with_reducible exact sB | with_reducible exact preC.of (y1.bl ((Bl.refl w1).alloc _).drew)) (first | (go_at_call 50; refine (containsI_any _ _ _ _ (by first | exact h0A | exact h1A | exact h0B | exact h1B)).mono ?_; rintro e w' ⟨rfl, rfl⟩))
    all_goals go_wp2
    all_goals go_meet
    all_goals exact ⟨rfl, (BoxAt.new w1 #[.bool (decide (2 ∈ p.pre1)), .bool (decide (1 ∈ p.pre1)), .bool (decide (2 ∈ p.pre0)), .bool (decide (1 ∈ p.pre0)), .int .i64 0] 47).bl (Bl.refl _).drew, y1.bl ((Bl.refl w1).alloc _).drew, z1.bl ((Bl.refl w1).alloc _).drew, (H1.alloc _).drew⟩
  case rest =>
    obtain ⟨rfl, k2, y2, z2, H2⟩ := hcut
    have hB1 : w.heap.size + 1 < w1.heap.size := hlt
    clear y1 z1
    generalize w1.heap.size = Bk at *
    replace k2 : BoxAt wc Bk (keyL (ofK p (aheadL p 0 0) 1)) 47 := by
      have e : keyL (ofK p (aheadL p 0 0) 1) = [.bool (decide (2 ∈ p.pre1)), .bool (decide (1 ∈ p.pre1)), .bool (decide (2 ∈ p.pre0)), .bool (decide (1 ∈ p.pre0)), .int .i64 0] := by
        rw [ahead_start]
        simp [keyL, ofK, told1, preL, met1]
      rw [e]
      exact k2
    have hneB : w.heap.size + 1 ≠ Bk := by omega
    have hleB : w.heap.size ≤ Bk := by omega
    have g3 := y2.cell 3 rfl
    clear hB1 hlt
    go_wp2
    go_loopw [57] (fun x wr => ∃ (i : Nat), i ≤ p.msgs.length ∧ x = .int .i64 i ∧ BoxAt wr Bk (keyL (ofK p (aheadL p i 0) 1)) 47 ∧ BoxAt wr (w.heap.size + 1) [.bool false, .bool false, .bool false, .bool false, .int .i64 0] 47 ∧ Bl w wr) (fun x _ => p.msgs.length - (intOf x).toNat)
    case atStart => exact ⟨0, by omega, rfl, k2, z2, H2⟩
    case round =>
      obtain ⟨i, hi, rfl, kr, zr, Hr⟩ := hrel
      by_cases hin : i < p.msgs.length
      · have HMI : Hid (p.msgs[i]? = some p.msgs[i]) := Lib.hid (List.getElem?_eq_getElem hin)
        have hlt := hs.each p.msgs[i] (List.getElem_mem hin)
        obtain ⟨b, o, u, rfl, hca0, hcb0, hu⟩ := hm.at i hin
        generalize p.msgs[i] = m at *
        obtain ⟨who, l⟩ := m
        simp only at hca0 hcb0 hu hlt
        have hca := Hr.cellq hca0
        have hcb := Hr.cellq hcb0
        obtain ⟨ua, uc, rfl⟩ := hu.form
        have mz := BoxAt.new wr #[.int .i64 who, .slice ua l.length uc] 68
        have hal : Bl wr (wr.alloc (.cells #[.int .i64 who, .slice ua l.length uc] 68)) := (Bl.refl wr).alloc _
        have ka := kr.bl hal
        have za := zr.bl hal
        have Ha := Hr.trans hal
        have hltk := kr.lt
        have hneM : wr.heap.size ≠ Bk := by omega
        go_wp2
        generalize wr.alloc (.cells #[.int .i64 who, .slice ua l.length uc] 68) = WA at mz ka za Ha ⊢
        generalize wr.heap.size = Bm at *
        clear hal
        obtain ⟨wo, hwo⟩ : ∃ wo : World, wo = wr := ⟨_, rfl⟩
        go_loopw [64] (fun x wq => ∃ (k : Nat), k ≤ l.length ∧ x = .int .i64 k ∧ BoxAt wq Bk (keyL (ofK p (aheadL p i k) 1)) 47 ∧ BoxAt wq (w.heap.size + 1) [.bool false, .bool false, .bool false, .bool false, .int .i64 0] 47 ∧ BoxAt wq Bm [.int .i64 who, .slice ua l.length uc] 68 ∧ Bl w wq) (fun x _ => l.length - (intOf x).toNat)
        case atStart => exact ⟨0, by omega, rfl, ka, za, mz, Ha⟩
        case round =>
          obtain ⟨k, hk, rfl, kq, zq, mq, Hq⟩ := hrel
          by_cases hkn : k < l.length
          · have HS := Lib.hid (ahead_succ p i k ⟨who, l⟩ HMI.out hkn)
            obtain ⟨b', o', e', hct⟩ : ∃ b' o', ua = some ⟨b', o', none⟩ ∧ wr.cell? ⟨b', o' + k, none⟩ = some (.int .i64 l[k]) := by
              obtain ⟨a', c', e, _, hc⟩ := hu.bl Hq
              injection e with e1 _ _
              obtain ⟨b', o', e2, h2⟩ := hc k hkn
              exact ⟨b', o', e1.trans e2, h2⟩
            subst e'
            have HO := Lib.hid (ofK_snoc p (aheadL p i k) 1 who l[k] (.inr rfl))
            have hbd := met_le p hs i k 2 7
            have HNN : Hid ((ofK p (aheadL p i k) 1).n = (met1 (aheadL p i k) 2 7 : Nat)) := Lib.hid rfl
            rw [← HS.out] at HO
            generalize l[k] = T at *
            generalize hK : ofK p (aheadL p i k) 1 = K at *
            clear hK
            obtain ⟨ks, ke, krs, kre, kn⟩ := K
            simp only at HNN HO
            have kq' : BoxAt wr Bk [.bool ks, .bool ke, .bool krs, .bool kre, .int .i64 kn] 47 := kq
            obtain ⟨q0, q1, q2, q3, q4⟩ := kq'.cells5
            have f0 := kq'.free 0
            have f4 := kq'.free 4
            have hltq := kq'.lt
            have m0 := mq.cell 0 rfl
            have hbn : 0 ≤ kn ∧ kn ≤ 10100 := by have := HNN.out; omega
            obtain ⟨hbn0, hbn1⟩ := hbn
            by_cases h7 : T = 7
            · have d7 : (T == 7) = true := by simp [h7]
              have HE : Hid (ofK p (aheadL p i (k + 1)) 1 = ⟨ks, ke, krs, kre, kn + 1⟩) := Lib.hid (by rw [HO.out, if_pos h7])
              clear h7 HO HS
              go_wp2
              go_roundw
              case rel => exact ⟨k + 1, by omega, by go_num, by rw [HE.out]; exact kq'.set 4 (.int .i64 (kn + 1)), zq.other (by show w.heap.size + 1 ≠ Bk; omega) _, mq.other (by show Bm ≠ Bk; omega) _, Hq.setCell (by show w.heap.size ≤ Bk; omega) _⟩
              case measure => simp [intOf]; omega
            · have d7 : (T == 7) = false := by simp [h7]
              by_cases h2 : T = 2
              · have d2 : (T == 2) = true := by simp [h2]
                by_cases hw : who = 1
                · have dw : (who == 1) = true := by simp [hw]
                  have HE : Hid (ofK p (aheadL p i (k + 1)) 1 = ⟨true, ke, krs, kre, kn⟩) := Lib.hid (by rw [HO.out, if_neg h7, if_pos ⟨h2, hw⟩])
                  clear h7 h2 hw HO HS
                  go_wp2
                  go_roundw
                  case rel => exact ⟨k + 1, by omega, by go_num, by rw [HE.out]; exact kq'.set 0 (.bool true), zq.other (by show w.heap.size + 1 ≠ Bk; omega) _, mq.other (by show Bm ≠ Bk; omega) _, Hq.setCell (by show w.heap.size ≤ Bk; omega) _⟩
                  case measure => simp [intOf]; omega
                · have dw : (who == 1) = false := by simp [hw]
                  have HE : Hid (ofK p (aheadL p i (k + 1)) 1 = ⟨ks, ke, krs, kre, kn⟩) := Lib.hid (by rw [HO.out, if_neg h7, if_neg (fun h => hw h.2)])
                  clear h7 h2 hw HO HS
                  go_wp2
                  go_roundw
                  case rel => exact ⟨k + 1, by omega, by go_num, by rw [HE.out]; exact kq', zq, mq, Hq⟩
                  case measure => simp [intOf]; omega
              · have d2 : (T == 2) = false := by simp [h2]
                have HE : Hid (ofK p (aheadL p i (k + 1)) 1 = ⟨ks, ke, krs, kre, kn⟩) := Lib.hid (by rw [HO.out, if_neg h7, if_neg (fun h => h2 h.1)])
                clear h7 h2 HO HS
                go_wp2
                go_roundw
                case rel => exact ⟨k + 1, by omega, by go_num, by rw [HE.out]; exact kq', zq, mq, Hq⟩
                case measure => simp [intOf]; omega
          · have HE : Hid (aheadL p i k = aheadL p (i + 1) 0) := Lib.hid (ahead_end p i ⟨who, l⟩ HMI.out k (by show l.length ≤ k; omega) 0 (.inr rfl))
            go_wp2
            go_roundw
            case rel => exact ⟨i + 1, by omega, by go_num, by rw [← HE.out]; exact kq, zq, Hq⟩
            case measure => simp [intOf]; omega
      · obtain rfl : i = p.msgs.length := by omega
        have HA : Hid (aheadL p p.msgs.length 0 = allL p) := Lib.hid (ahead_all p _ _ (Nat.le_refl _))
        rw [HA.out] at kr
        have HV : Hid (keyV (ofK p (allL p) 1) = .agg #[.bool (ofK p (allL p) 1).s, .bool (ofK p (allL p) 1).e, .bool (ofK p (allL p) 1).rs, .bool (ofK p (allL p) 1).re, .int .i64 (ofK p (allL p) 1).n]) := Lib.hid rfl
        generalize hK : ofK p (allL p) 1 = K at *
        have HKQ := Lib.hid hK
        clear hK
        obtain ⟨ks, ke, krs, kre, kn⟩ := K
        obtain ⟨q0, q1, q2, q3, q4⟩ := (show BoxAt wr Bk [.bool ks, .bool ke, .bool krs, .bool kre, .int .i64 kn] 47 from kr).cells5
        obtain ⟨g0, g1, g2, g3, g4⟩ := zr.cells5
        obtain ⟨f0, f1, f2, f3, f4⟩ : _ ∧ _ ∧ _ ∧ _ ∧ _ := ⟨zr.free 0, zr.free 1, zr.free 2, zr.free 3, zr.free 4⟩
        have hltz := zr.lt
        go_wp2
        have zf := ((((zr.set 0 (.bool ks)).set 1 (.bool ke)).set 2 (.bool krs)).set 3 (.bool kre)).set 4 (.int .i64 kn)
        obtain ⟨p0, p1, p2, p3, p4⟩ : _ ∧ _ ∧ _ ∧ _ ∧ _ := ⟨zf.cell 0 rfl, zf.cell 1 rfl, zf.cell 2 rfl, zf.cell 3 rfl, zf.cell 4 rfl⟩
        refine bodyPost_ret (v := .tuple #[.agg #[.bool ks, .bool ke, .bool krs, .bool kre, .int .i64 kn], .int .i64 0]) (by simp [results, Tryd.results25, go_sem, p0, p1, p2, p3, p4]) rfl ⟨by rw [HKQ.out]; rfl, ?_⟩
        exact ((((Bl.setCell Hr (by show w.heap.size ≤ w.heap.size + 1; omega) _).setCell (by show w.heap.size ≤ w.heap.size + 1; omega) _).setCell (by show w.heap.size ≤ w.heap.size + 1; omega) _).setCell (by show w.heap.size ≤ w.heap.size + 1; omega) _).setCell (by show w.heap.size ≤ w.heap.size + 1; omega) _
end Go.Proofs.YtkcmmcgbkihpfaaDoor
