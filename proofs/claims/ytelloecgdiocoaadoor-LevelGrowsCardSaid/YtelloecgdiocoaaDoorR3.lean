/- Walks: undertoneref07.sealing. -/
import Derived.Test.YtelloecgdiocoaaDoorR2
import Derived.Deep.DeepCutAuto
set_option linter.unusedSimpArgs false
set_option linter.unusedVariables false
namespace Go.Proofs.YtelloecgdiocoaaDoor
open Go.RowKit Go.Sort

set_option maxRecDepth 100000 in
set_option maxHeartbeats 4000000 in
theorem refSeal0_any (v : Value) (p : Pat) (w : World) (h : SP w v p) (hs : Small p) (msg at' : Int) (hmsg : 0 ≤ msg) (hat : 0 ≤ at') :
    Calls Tryd.prog 48 #[v, .int .i64 0, .int .i64 msg, .int .i64 at'] w fun e w' => e = .returned (.int .i64 (seal1 p (aheadL p msg.toNat at'.toNat) 0)) ∧ Bl w w' := by
  have hv := h
  have HS : Hid (seal1 p (aheadL p msg.toNat at'.toNat) 0 = (if ((decide (0 < met1 (aheadL p msg.toNat at'.toNat) 2 5) && !decide (0 < met1 (aheadL p msg.toNat at'.toNat) 2 3)) || (decide (0 < met1 (aheadL p msg.toNat at'.toNat) 2 6) && !decide (0 < met1 (aheadL p msg.toNat at'.toNat) 2 4))) = true then 5 else if decide (0 < met1 (aheadL p msg.toNat at'.toNat) 2 7) && !told1 p (aheadL p msg.toNat at'.toNat) 0 1 then 6 else 0)) := Lib.hid (by simp only [seal1, zero_not]; rfl)
  obtain ⟨v0, v1, vm, rfl, hn, h0, h1, hm⟩ := h
  obtain ⟨a0, c0, rfl⟩ := h0.form
  obtain ⟨a1, c1, rfl⟩ := h1.form
  obtain ⟨am, cm, rfl⟩ := hm.form
  clear h0 h1 hm
  go_enter Tryd.func48, Tryd.ntmps48
  have y0 := BoxAt.new w #[.string p.name, .slice a0 p.pre0.length c0, .slice a1 p.pre1.length c1, .slice am p.msgs.length cm] 43
  have H0 : Bl w (w.alloc (.cells #[.string p.name, .slice a0 p.pre0.length c0, .slice a1 p.pre1.length c1, .slice am p.msgs.length cm] 43)) := (Bl.refl w).alloc _
  go_upto_region 6 with fail
  generalize w.alloc (.cells #[.string p.name, .slice a0 p.pre0.length c0, .slice a1 p.pre1.length c1, .slice am p.msgs.length cm] 43) = W at y0 H0 ⊢
  go_cut [40] from 13 to 40 (fun x wx => x = .bool ((decide (0 < met1 (aheadL p msg.toNat at'.toNat) 2 5) && !decide (0 < met1 (aheadL p msg.toNat at'.toNat) 2 3)) || (decide (0 < met1 (aheadL p msg.toNat at'.toNat) 2 6) && !decide (0 < met1 (aheadL p msg.toNat at'.toNat) 2 4))) ∧ BoxAt wx w.heap.size [.string p.name, .slice a0 p.pre0.length c0, .slice a1 p.pre1.length c1, .slice am p.msgs.length cm] 43 ∧ Bl w wx)
  case first =>
    obtain ⟨g0, g1, g2, g3⟩ := y0.cells4
    cases h5 : decide (0 < met1 (aheadL p msg.toNat at'.toNat) 2 5)
    · have b5 := Lib.hid h5
      clear h5
      go_wp2_with fail
      refine (metZ_any _ p _ (hv.bl H0) hs 2 5 msg at' hmsg hat b5.out).mono ?_
      rintro e w1 ⟨rfl, hb1⟩
      have y1 := y0.bl hb1
      have H1 := H0.trans hb1
      clear g0 g1 g2 g3
      obtain ⟨g0, g1, g2, g3⟩ := y1.cells4
      cases h6 : decide (0 < met1 (aheadL p msg.toNat at'.toNat) 2 6)
      · have b6 := Lib.hid h6
        clear h6
        go_wp2_with fail
        refine (metZ_any _ p _ (hv.bl H1) hs 2 6 msg at' hmsg hat b6.out).mono ?_
        rintro e w2 ⟨rfl, hb2⟩
        have y2 := y1.bl hb2
        have H2 := H1.trans hb2
        clear g0 g1 g2 g3
        obtain ⟨g0, g1, g2, g3⟩ := y2.cells4
        go_wp2
        go_meet
        exact ⟨by rw [b5.out, b6.out]; rfl, y2, H2⟩
      · have b6 := Lib.hid h6
        clear h6
        go_wp2_with fail
        refine (metP_any _ p _ (hv.bl H1) hs 2 6 msg at' hmsg hat b6.out).mono ?_
        rintro e w2 ⟨n1, rfl, hn1, hb2⟩
        have q1 : ((n1 : Int) == 0) = false := by simp; omega
        have y2 := y1.bl hb2
        have H2 := H1.trans hb2
        clear g0 g1 g2 g3
        obtain ⟨g0, g1, g2, g3⟩ := y2.cells4
        cases h4 : decide (0 < met1 (aheadL p msg.toNat at'.toNat) 2 4)
        · have b4 := Lib.hid h4
          clear h4
          go_wp2_with fail
          refine (metZ_any _ p _ (hv.bl H2) hs 2 4 msg at' hmsg hat b4.out).mono ?_
          rintro e w3 ⟨rfl, hb3⟩
          have y3 := y2.bl hb3
          have H3 := H2.trans hb3
          clear g0 g1 g2 g3
          obtain ⟨g0, g1, g2, g3⟩ := y3.cells4
          go_wp2
          go_meet
          exact ⟨by rw [b5.out, b6.out, b4.out]; rfl, y3, H3⟩
        · have b4 := Lib.hid h4
          clear h4
          go_wp2_with fail
          refine (metP_any _ p _ (hv.bl H2) hs 2 4 msg at' hmsg hat b4.out).mono ?_
          rintro e w3 ⟨n2, rfl, hn2, hb3⟩
          have q2 : ((n2 : Int) == 0) = false := by simp; omega
          have y3 := y2.bl hb3
          have H3 := H2.trans hb3
          clear g0 g1 g2 g3
          obtain ⟨g0, g1, g2, g3⟩ := y3.cells4
          go_wp2
          go_meet
          exact ⟨by rw [b5.out, b6.out, b4.out]; rfl, y3, H3⟩
    · have b5 := Lib.hid h5
      clear h5
      go_wp2_with fail
      refine (metP_any _ p _ (hv.bl H0) hs 2 5 msg at' hmsg hat b5.out).mono ?_
      rintro e w1 ⟨n0, rfl, hn0, hb1⟩
      have q0 : ((n0 : Int) == 0) = false := by simp; omega
      have y1 := y0.bl hb1
      have H1 := H0.trans hb1
      clear g0 g1 g2 g3
      obtain ⟨g0, g1, g2, g3⟩ := y1.cells4
      cases h3 : decide (0 < met1 (aheadL p msg.toNat at'.toNat) 2 3)
      · have b3 := Lib.hid h3
        clear h3
        go_wp2_with fail
        refine (metZ_any _ p _ (hv.bl H1) hs 2 3 msg at' hmsg hat b3.out).mono ?_
        rintro e w2 ⟨rfl, hb2⟩
        have y2 := y1.bl hb2
        have H2 := H1.trans hb2
        clear g0 g1 g2 g3
        obtain ⟨g0, g1, g2, g3⟩ := y2.cells4
        go_wp2
        go_meet
        exact ⟨by rw [b5.out, b3.out]; rfl, y2, H2⟩
      · have b3 := Lib.hid h3
        clear h3
        go_wp2_with fail
        refine (metP_any _ p _ (hv.bl H1) hs 2 3 msg at' hmsg hat b3.out).mono ?_
        rintro e w2 ⟨n1, rfl, hn1, hb2⟩
        have q1 : ((n1 : Int) == 0) = false := by simp; omega
        have y2 := y1.bl hb2
        have H2 := H1.trans hb2
        clear g0 g1 g2 g3
        obtain ⟨g0, g1, g2, g3⟩ := y2.cells4
        cases h6 : decide (0 < met1 (aheadL p msg.toNat at'.toNat) 2 6)
        · have b6 := Lib.hid h6
          clear h6
          go_wp2_with fail
          refine (metZ_any _ p _ (hv.bl H2) hs 2 6 msg at' hmsg hat b6.out).mono ?_
          rintro e w3 ⟨rfl, hb3⟩
          have y3 := y2.bl hb3
          have H3 := H2.trans hb3
          clear g0 g1 g2 g3
          obtain ⟨g0, g1, g2, g3⟩ := y3.cells4
          go_wp2
          go_meet
          exact ⟨by rw [b5.out, b3.out, b6.out]; rfl, y3, H3⟩
        · have b6 := Lib.hid h6
          clear h6
          go_wp2_with fail
          refine (metP_any _ p _ (hv.bl H2) hs 2 6 msg at' hmsg hat b6.out).mono ?_
          rintro e w3 ⟨n2, rfl, hn2, hb3⟩
          have q2 : ((n2 : Int) == 0) = false := by simp; omega
          have y3 := y2.bl hb3
          have H3 := H2.trans hb3
          clear g0 g1 g2 g3
          obtain ⟨g0, g1, g2, g3⟩ := y3.cells4
          cases h4 : decide (0 < met1 (aheadL p msg.toNat at'.toNat) 2 4)
          · have b4 := Lib.hid h4
            clear h4
            go_wp2_with fail
            refine (metZ_any _ p _ (hv.bl H3) hs 2 4 msg at' hmsg hat b4.out).mono ?_
            rintro e w4 ⟨rfl, hb4⟩
            have y4 := y3.bl hb4
            have H4 := H3.trans hb4
            clear g0 g1 g2 g3
            obtain ⟨g0, g1, g2, g3⟩ := y4.cells4
            go_wp2
            go_meet
            exact ⟨by rw [b5.out, b3.out, b6.out, b4.out]; rfl, y4, H4⟩
          · have b4 := Lib.hid h4
            clear h4
            go_wp2_with fail
            refine (metP_any _ p _ (hv.bl H3) hs 2 4 msg at' hmsg hat b4.out).mono ?_
            rintro e w4 ⟨n3, rfl, hn3, hb4⟩
            have q3 : ((n3 : Int) == 0) = false := by simp; omega
            have y4 := y3.bl hb4
            have H4 := H3.trans hb4
            clear g0 g1 g2 g3
            obtain ⟨g0, g1, g2, g3⟩ := y4.cells4
            go_wp2
            go_meet
            exact ⟨by rw [b5.out, b3.out, b6.out, b4.out]; rfl, y4, H4⟩
  case rest =>
    clear y0 H0
    obtain ⟨rfl, y0, H0⟩ := hcut
    obtain ⟨g0, g1, g2, g3⟩ := y0.cells4
    cases hA : ((decide (0 < met1 (aheadL p msg.toNat at'.toNat) 2 5) && !decide (0 < met1 (aheadL p msg.toNat at'.toNat) 2 3)) || (decide (0 < met1 (aheadL p msg.toNat at'.toNat) 2 6) && !decide (0 < met1 (aheadL p msg.toNat at'.toNat) 2 4)))
    · have HA := Lib.hid hA
      clear hA
      cases h7 : decide (0 < met1 (aheadL p msg.toNat at'.toNat) 2 7)
      · have b7 := Lib.hid h7
        clear h7
        go_wp2_with fail
        refine (metZ_any _ p _ (hv.bl H0) hs 2 7 msg at' hmsg hat b7.out).mono ?_
        rintro e w1 ⟨rfl, hb1⟩
        have y1 := y0.bl hb1
        have H1 := H0.trans hb1
        clear g0 g1 g2 g3
        obtain ⟨g0, g1, g2, g3⟩ := y1.cells4
        have HR : Hid (seal1 p (aheadL p msg.toNat at'.toNat) 0 = 0) := Lib.hid (by rw [HS.out, HA.out, b7.out]; rfl)
        clear HS
        go_wp2
        go_ret
        exact ⟨ret_int (by rw [HR.out]), H1⟩
      · have b7 := Lib.hid h7
        clear h7
        go_wp2_with fail
        refine (metP_any _ p _ (hv.bl H0) hs 2 7 msg at' hmsg hat b7.out).mono ?_
        rintro e w1 ⟨n0, rfl, hn0, hb1⟩
        have q0 : ((n0 : Int) == 0) = false := by simp; omega
        have y1 := y0.bl hb1
        have H1 := H0.trans hb1
        clear g0 g1 g2 g3
        obtain ⟨g0, g1, g2, g3⟩ := y1.cells4
        go_wp2_with fail
        refine (told0_any _ p _ (hv.bl H1) hs 1 msg at' hmsg hat).mono ?_
        rintro e w2 ⟨rfl, hb2⟩
        cases ht : told1 p (aheadL p msg.toNat at'.toNat) 0 1
        · have HR : Hid (seal1 p (aheadL p msg.toNat at'.toNat) 0 = 6) := Lib.hid (by rw [HS.out, HA.out, b7.out, ht]; rfl)
          clear HS ht
          go_wp2
          go_ret
          exact ⟨ret_int (by rw [HR.out]), H1.trans hb2⟩
        · have HR : Hid (seal1 p (aheadL p msg.toNat at'.toNat) 0 = 0) := Lib.hid (by rw [HS.out, HA.out, b7.out, ht]; rfl)
          clear HS ht
          go_wp2
          go_ret
          exact ⟨ret_int (by rw [HR.out]), H1.trans hb2⟩
    · have HR : Hid (seal1 p (aheadL p msg.toNat at'.toNat) 0 = 5) := Lib.hid (by rw [HS.out, hA]; rfl)
      clear HS hA
      go_wp2
      go_ret
      exact ⟨ret_int (by rw [HR.out]), H0⟩

set_option maxRecDepth 100000 in
set_option maxHeartbeats 4000000 in
theorem refSeal1_any (v : Value) (p : Pat) (w : World) (h : SP w v p) (hs : Small p) (msg at' : Int) (hmsg : 0 ≤ msg) (hat : 0 ≤ at') :
    Calls Tryd.prog 48 #[v, .int .i64 1, .int .i64 msg, .int .i64 at'] w fun e w' => e = .returned (.int .i64 (seal1 p (aheadL p msg.toNat at'.toNat) 1)) ∧ Bl w w' := by
  have hv := h
  have HS : Hid (seal1 p (aheadL p msg.toNat at'.toNat) 1 = (if ((decide (0 < met1 (aheadL p msg.toNat at'.toNat) 2 4) && !decide (0 < met1 (aheadL p msg.toNat at'.toNat) 2 3)) || (decide (0 < met1 (aheadL p msg.toNat at'.toNat) 2 6) && !decide (0 < met1 (aheadL p msg.toNat at'.toNat) 2 5))) = true then 5 else if decide (0 < met1 (aheadL p msg.toNat at'.toNat) 2 7) && !told1 p (aheadL p msg.toNat at'.toNat) 1 1 then 6 else 0)) := Lib.hid (by simp only [seal1, zero_not]; rfl)
  obtain ⟨v0, v1, vm, rfl, hn, h0, h1, hm⟩ := h
  obtain ⟨a0, c0, rfl⟩ := h0.form
  obtain ⟨a1, c1, rfl⟩ := h1.form
  obtain ⟨am, cm, rfl⟩ := hm.form
  clear h0 h1 hm
  go_enter Tryd.func48, Tryd.ntmps48
  have y0 := BoxAt.new w #[.string p.name, .slice a0 p.pre0.length c0, .slice a1 p.pre1.length c1, .slice am p.msgs.length cm] 43
  have H0 : Bl w (w.alloc (.cells #[.string p.name, .slice a0 p.pre0.length c0, .slice a1 p.pre1.length c1, .slice am p.msgs.length cm] 43)) := (Bl.refl w).alloc _
  go_upto_region 6 with fail
  generalize w.alloc (.cells #[.string p.name, .slice a0 p.pre0.length c0, .slice a1 p.pre1.length c1, .slice am p.msgs.length cm] 43) = W at y0 H0 ⊢
  go_cut [40] from 13 to 40 (fun x wx => x = .bool ((decide (0 < met1 (aheadL p msg.toNat at'.toNat) 2 4) && !decide (0 < met1 (aheadL p msg.toNat at'.toNat) 2 3)) || (decide (0 < met1 (aheadL p msg.toNat at'.toNat) 2 6) && !decide (0 < met1 (aheadL p msg.toNat at'.toNat) 2 5))) ∧ BoxAt wx w.heap.size [.string p.name, .slice a0 p.pre0.length c0, .slice a1 p.pre1.length c1, .slice am p.msgs.length cm] 43 ∧ Bl w wx)
  case first =>
    obtain ⟨g0, g1, g2, g3⟩ := y0.cells4
    cases h4 : decide (0 < met1 (aheadL p msg.toNat at'.toNat) 2 4)
    · have b4 := Lib.hid h4
      clear h4
      go_wp2_with fail
      refine (metZ_any _ p _ (hv.bl H0) hs 2 4 msg at' hmsg hat b4.out).mono ?_
      rintro e w1 ⟨rfl, hb1⟩
      have y1 := y0.bl hb1
      have H1 := H0.trans hb1
      clear g0 g1 g2 g3
      obtain ⟨g0, g1, g2, g3⟩ := y1.cells4
      cases h6 : decide (0 < met1 (aheadL p msg.toNat at'.toNat) 2 6)
      · have b6 := Lib.hid h6
        clear h6
        go_wp2_with fail
        refine (metZ_any _ p _ (hv.bl H1) hs 2 6 msg at' hmsg hat b6.out).mono ?_
        rintro e w2 ⟨rfl, hb2⟩
        have y2 := y1.bl hb2
        have H2 := H1.trans hb2
        clear g0 g1 g2 g3
        obtain ⟨g0, g1, g2, g3⟩ := y2.cells4
        go_wp2
        go_meet
        exact ⟨by rw [b4.out, b6.out]; rfl, y2, H2⟩
      · have b6 := Lib.hid h6
        clear h6
        go_wp2_with fail
        refine (metP_any _ p _ (hv.bl H1) hs 2 6 msg at' hmsg hat b6.out).mono ?_
        rintro e w2 ⟨n1, rfl, hn1, hb2⟩
        have q1 : ((n1 : Int) == 0) = false := by simp; omega
        have y2 := y1.bl hb2
        have H2 := H1.trans hb2
        clear g0 g1 g2 g3
        obtain ⟨g0, g1, g2, g3⟩ := y2.cells4
        cases h5 : decide (0 < met1 (aheadL p msg.toNat at'.toNat) 2 5)
        · have b5 := Lib.hid h5
          clear h5
          go_wp2_with fail
          refine (metZ_any _ p _ (hv.bl H2) hs 2 5 msg at' hmsg hat b5.out).mono ?_
          rintro e w3 ⟨rfl, hb3⟩
          have y3 := y2.bl hb3
          have H3 := H2.trans hb3
          clear g0 g1 g2 g3
          obtain ⟨g0, g1, g2, g3⟩ := y3.cells4
          go_wp2
          go_meet
          exact ⟨by rw [b4.out, b6.out, b5.out]; rfl, y3, H3⟩
        · have b5 := Lib.hid h5
          clear h5
          go_wp2_with fail
          refine (metP_any _ p _ (hv.bl H2) hs 2 5 msg at' hmsg hat b5.out).mono ?_
          rintro e w3 ⟨n2, rfl, hn2, hb3⟩
          have q2 : ((n2 : Int) == 0) = false := by simp; omega
          have y3 := y2.bl hb3
          have H3 := H2.trans hb3
          clear g0 g1 g2 g3
          obtain ⟨g0, g1, g2, g3⟩ := y3.cells4
          go_wp2
          go_meet
          exact ⟨by rw [b4.out, b6.out, b5.out]; rfl, y3, H3⟩
    · have b4 := Lib.hid h4
      clear h4
      go_wp2_with fail
      refine (metP_any _ p _ (hv.bl H0) hs 2 4 msg at' hmsg hat b4.out).mono ?_
      rintro e w1 ⟨n0, rfl, hn0, hb1⟩
      have q0 : ((n0 : Int) == 0) = false := by simp; omega
      have y1 := y0.bl hb1
      have H1 := H0.trans hb1
      clear g0 g1 g2 g3
      obtain ⟨g0, g1, g2, g3⟩ := y1.cells4
      cases h3 : decide (0 < met1 (aheadL p msg.toNat at'.toNat) 2 3)
      · have b3 := Lib.hid h3
        clear h3
        go_wp2_with fail
        refine (metZ_any _ p _ (hv.bl H1) hs 2 3 msg at' hmsg hat b3.out).mono ?_
        rintro e w2 ⟨rfl, hb2⟩
        have y2 := y1.bl hb2
        have H2 := H1.trans hb2
        clear g0 g1 g2 g3
        obtain ⟨g0, g1, g2, g3⟩ := y2.cells4
        go_wp2
        go_meet
        exact ⟨by rw [b4.out, b3.out]; rfl, y2, H2⟩
      · have b3 := Lib.hid h3
        clear h3
        go_wp2_with fail
        refine (metP_any _ p _ (hv.bl H1) hs 2 3 msg at' hmsg hat b3.out).mono ?_
        rintro e w2 ⟨n1, rfl, hn1, hb2⟩
        have q1 : ((n1 : Int) == 0) = false := by simp; omega
        have y2 := y1.bl hb2
        have H2 := H1.trans hb2
        clear g0 g1 g2 g3
        obtain ⟨g0, g1, g2, g3⟩ := y2.cells4
        cases h6 : decide (0 < met1 (aheadL p msg.toNat at'.toNat) 2 6)
        · have b6 := Lib.hid h6
          clear h6
          go_wp2_with fail
          refine (metZ_any _ p _ (hv.bl H2) hs 2 6 msg at' hmsg hat b6.out).mono ?_
          rintro e w3 ⟨rfl, hb3⟩
          have y3 := y2.bl hb3
          have H3 := H2.trans hb3
          clear g0 g1 g2 g3
          obtain ⟨g0, g1, g2, g3⟩ := y3.cells4
          go_wp2
          go_meet
          exact ⟨by rw [b4.out, b3.out, b6.out]; rfl, y3, H3⟩
        · have b6 := Lib.hid h6
          clear h6
          go_wp2_with fail
          refine (metP_any _ p _ (hv.bl H2) hs 2 6 msg at' hmsg hat b6.out).mono ?_
          rintro e w3 ⟨n2, rfl, hn2, hb3⟩
          have q2 : ((n2 : Int) == 0) = false := by simp; omega
          have y3 := y2.bl hb3
          have H3 := H2.trans hb3
          clear g0 g1 g2 g3
          obtain ⟨g0, g1, g2, g3⟩ := y3.cells4
          cases h5 : decide (0 < met1 (aheadL p msg.toNat at'.toNat) 2 5)
          · have b5 := Lib.hid h5
            clear h5
            go_wp2_with fail
            refine (metZ_any _ p _ (hv.bl H3) hs 2 5 msg at' hmsg hat b5.out).mono ?_
            rintro e w4 ⟨rfl, hb4⟩
            have y4 := y3.bl hb4
            have H4 := H3.trans hb4
            clear g0 g1 g2 g3
            obtain ⟨g0, g1, g2, g3⟩ := y4.cells4
            go_wp2
            go_meet
            exact ⟨by rw [b4.out, b3.out, b6.out, b5.out]; rfl, y4, H4⟩
          · have b5 := Lib.hid h5
            clear h5
            go_wp2_with fail
            refine (metP_any _ p _ (hv.bl H3) hs 2 5 msg at' hmsg hat b5.out).mono ?_
            rintro e w4 ⟨n3, rfl, hn3, hb4⟩
            have q3 : ((n3 : Int) == 0) = false := by simp; omega
            have y4 := y3.bl hb4
            have H4 := H3.trans hb4
            clear g0 g1 g2 g3
            obtain ⟨g0, g1, g2, g3⟩ := y4.cells4
            go_wp2
            go_meet
            exact ⟨by rw [b4.out, b3.out, b6.out, b5.out]; rfl, y4, H4⟩
  case rest =>
    clear y0 H0
    obtain ⟨rfl, y0, H0⟩ := hcut
    obtain ⟨g0, g1, g2, g3⟩ := y0.cells4
    cases hA : ((decide (0 < met1 (aheadL p msg.toNat at'.toNat) 2 4) && !decide (0 < met1 (aheadL p msg.toNat at'.toNat) 2 3)) || (decide (0 < met1 (aheadL p msg.toNat at'.toNat) 2 6) && !decide (0 < met1 (aheadL p msg.toNat at'.toNat) 2 5)))
    · have HA := Lib.hid hA
      clear hA
      cases h7 : decide (0 < met1 (aheadL p msg.toNat at'.toNat) 2 7)
      · have b7 := Lib.hid h7
        clear h7
        go_wp2_with fail
        refine (metZ_any _ p _ (hv.bl H0) hs 2 7 msg at' hmsg hat b7.out).mono ?_
        rintro e w1 ⟨rfl, hb1⟩
        have y1 := y0.bl hb1
        have H1 := H0.trans hb1
        clear g0 g1 g2 g3
        obtain ⟨g0, g1, g2, g3⟩ := y1.cells4
        have HR : Hid (seal1 p (aheadL p msg.toNat at'.toNat) 1 = 0) := Lib.hid (by rw [HS.out, HA.out, b7.out]; rfl)
        clear HS
        go_wp2
        go_ret
        exact ⟨ret_int (by rw [HR.out]), H1⟩
      · have b7 := Lib.hid h7
        clear h7
        go_wp2_with fail
        refine (metP_any _ p _ (hv.bl H0) hs 2 7 msg at' hmsg hat b7.out).mono ?_
        rintro e w1 ⟨n0, rfl, hn0, hb1⟩
        have q0 : ((n0 : Int) == 0) = false := by simp; omega
        have y1 := y0.bl hb1
        have H1 := H0.trans hb1
        clear g0 g1 g2 g3
        obtain ⟨g0, g1, g2, g3⟩ := y1.cells4
        go_wp2_with fail
        refine (told1_any _ p _ (hv.bl H1) hs 1 msg at' hmsg hat).mono ?_
        rintro e w2 ⟨rfl, hb2⟩
        cases ht : told1 p (aheadL p msg.toNat at'.toNat) 1 1
        · have HR : Hid (seal1 p (aheadL p msg.toNat at'.toNat) 1 = 6) := Lib.hid (by rw [HS.out, HA.out, b7.out, ht]; rfl)
          clear HS ht
          go_wp2
          go_ret
          exact ⟨ret_int (by rw [HR.out]), H1.trans hb2⟩
        · have HR : Hid (seal1 p (aheadL p msg.toNat at'.toNat) 1 = 0) := Lib.hid (by rw [HS.out, HA.out, b7.out, ht]; rfl)
          clear HS ht
          go_wp2
          go_ret
          exact ⟨ret_int (by rw [HR.out]), H1.trans hb2⟩
    · have HR : Hid (seal1 p (aheadL p msg.toNat at'.toNat) 1 = 5) := Lib.hid (by rw [HS.out, hA]; rfl)
      clear HS hA
      go_wp2
      go_ret
      exact ⟨ret_int (by rw [HR.out]), H0⟩

theorem refSeal_any (v : Value) (p : Pat) (w : World) (h : SP w v p) (hs : Small p) (who msg at' : Int) (hw : who = 0 ∨ who = 1) (hmsg : 0 ≤ msg) (hat : 0 ≤ at') :
    Calls Tryd.prog 48 #[v, .int .i64 who, .int .i64 msg, .int .i64 at'] w fun e w' => e = .returned (.int .i64 (seal1 p (aheadL p msg.toNat at'.toNat) who)) ∧ Bl w w' := by
  rcases hw with rfl | rfl
  · exact refSeal0_any v p w h hs msg at' hmsg hat
  · exact refSeal1_any v p w h hs msg at' hmsg hat
end Go.Proofs.YtelloecgdiocoaaDoor
