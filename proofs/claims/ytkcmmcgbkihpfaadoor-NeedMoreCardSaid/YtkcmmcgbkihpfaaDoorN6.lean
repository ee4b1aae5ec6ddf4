/- Walks: undertoneref08.Of; need.Of whole. -/
import Derived.Test.YtkcmmcgbkihpfaaDoorN3
import Derived.Test.YtkcmmcgbkihpfaaDoorN5
import Derived.Deep.RegionHeld3
set_option linter.unusedSimpArgs false
set_option linter.unusedVariables false
namespace Go.Proofs.YtkcmmcgbkihpfaaDoor
open Go.RowKit Go.Sort

theorem needOf_any (v : Value) (p : Pat) (role : Int) (w : World) (h : SP w v p) :
    Calls Tryd.prog 25 #[v, .int .i64 role] w fun e w' => e = .returned (.tuple #[keyV (needK p role), .int .i64 (needE p role)]) ∧ Bl w w' := by
  cases hb : badRole role
  · have hr : role = 0 ∨ role = 1 := by
      simp only [badRole, Bool.or_eq_false_iff, decide_eq_false_iff_not] at hb
      omega
    have hE : needE p role = (checkV p).2.2 := by rw [needE, hb]; rfl
    by_cases he : (checkV p).2.2 = 0
    · have hK : needK p role = ofK p (allL p) role := by rw [needK, hE, if_pos he]
      rw [hK, hE, he]
      rcases hr with rfl | rfl
      · exact needOf0_ok v p w h he
      · exact needOf1_ok v p w h he
    · have hK : needK p role = zeroK := by rw [needK, hE, if_neg he]
      rw [hK, hE]
      exact needOf_err v p role w h hr he
  · have hE : needE p role = 1 := by rw [needE, hb]; rfl
    have hK : needK p role = zeroK := by rw [needK, hE]; rfl
    rw [hK, hE]
    exact needOf_bad v p role w h hb

theorem BoxAt.oth5 {w : World} {B C : Nat} {a b c d : Value} {T : TypeId} (h : BoxAt w C [a, b, c, d] T) (hn : C ≠ B) (x y z t u : Value) :
    (((((w.setCell ⟨B, 0, none⟩ x).setCell ⟨B, 1, none⟩ y).setCell ⟨B, 2, none⟩ z).setCell ⟨B, 3, none⟩ t).setCell ⟨B, 4, none⟩ u).cell? ⟨C, 0, none⟩ = some a ∧ (((((w.setCell ⟨B, 0, none⟩ x).setCell ⟨B, 1, none⟩ y).setCell ⟨B, 2, none⟩ z).setCell ⟨B, 3, none⟩ t).setCell ⟨B, 4, none⟩ u).cell? ⟨C, 1, none⟩ = some b ∧
    (((((w.setCell ⟨B, 0, none⟩ x).setCell ⟨B, 1, none⟩ y).setCell ⟨B, 2, none⟩ z).setCell ⟨B, 3, none⟩ t).setCell ⟨B, 4, none⟩ u).cell? ⟨C, 2, none⟩ = some c ∧ (((((w.setCell ⟨B, 0, none⟩ x).setCell ⟨B, 1, none⟩ y).setCell ⟨B, 2, none⟩ z).setCell ⟨B, 3, none⟩ t).setCell ⟨B, 4, none⟩ u).cell? ⟨C, 3, none⟩ = some d :=
  BoxAt.cells4 (((((h.other (a := ⟨B, 0, none⟩) hn x).other (a := ⟨B, 1, none⟩) hn y).other (a := ⟨B, 2, none⟩) hn z).other (a := ⟨B, 3, none⟩) hn t).other (a := ⟨B, 4, none⟩) hn u)

theorem toldAll_any (v : Value) (p : Pat) (w : World) (h : SP w v p) (hs : Small p) (hl : p.msgs.length ≤ 99) (who t : Int) (hw : who = 0 ∨ who = 1) :
    Calls Tryd.prog 54 #[v, .int .i64 who, .int .i64 t, .int .i64 99, .int .i64 0] w fun e w' => e = .returned (.bool (told1 p (allL p) who t)) ∧ Bl w w' := by
  have := told_any' v p w h hs who t 99 0 hw (by omega) (by omega)
  rw [show (99 : Int).toNat = 99 from rfl, show (0 : Int).toNat = 0 from rfl, ahead_all p 99 0 hl] at this
  exact this
theorem metAll_any (v : Value) (p : Pat) (w : World) (h : SP w v p) (hs : Small p) (hl : p.msgs.length ≤ 99) (who t : Int) :
    Calls Tryd.prog 56 #[v, .int .i64 who, .int .i64 t, .int .i64 99, .int .i64 0] w fun e w' => e = .returned (.int .i64 (met1 (allL p) who t)) ∧ Bl w w' := by
  have := met_any v p w h hs who t 99 0 (by omega) (by omega)
  rw [show (99 : Int).toNat = 99 from rfl, show (0 : Int).toNat = 0 from rfl, ahead_all p 99 0 hl] at this
  exact this

set_option maxRecDepth 100000 in
set_option maxHeartbeats 8000000 in
theorem refOf0_any (v : Value) (p : Pat) (w : World) (h : SP w v p) (hs : Small p) (hl : p.msgs.length ≤ 99) :
    Calls Tryd.prog 28 #[v, .int .i64 0] w fun e w' => e = .returned (keyV (ofK p (allL p) 0)) ∧ Bl w w' := by
  have hv := h
  obtain ⟨v0, v1, vm, rfl, hn, h0, h1, hm⟩ := h
  obtain ⟨a0, c0, rfl⟩ := h0.form
  obtain ⟨a1, c1, rfl⟩ := h1.form
  obtain ⟨am, cm, rfl⟩ := hm.form
  clear h0 h1 hm
  have x0 := (BoxAt.new w #[.string p.name, .slice a0 p.pre0.length c0, .slice a1 p.pre1.length c1, .slice am p.msgs.length cm] 37).alloc (.cells #[.bool false, .bool false, .bool false, .bool false, .int .i64 0] 52)
  have z0 := BoxAt.new (w.alloc (.cells #[.string p.name, .slice a0 p.pre0.length c0, .slice a1 p.pre1.length c1, .slice am p.msgs.length cm] 37)) #[.bool false, .bool false, .bool false, .bool false, .int .i64 0] 52
  have H0 : Bl w ((w.alloc (.cells #[.string p.name, .slice a0 p.pre0.length c0, .slice a1 p.pre1.length c1, .slice am p.msgs.length cm] 37)).alloc (.cells #[.bool false, .bool false, .bool false, .bool false, .int .i64 0] 52)) := ((Bl.refl w).alloc _).alloc _
  simp only [size_alloc] at z0
  go_enter Tryd.func28, Tryd.ntmps28
  go_wp2
  generalize (w.alloc (.cells #[.string p.name, .slice a0 p.pre0.length c0, .slice a1 p.pre1.length c1, .slice am p.msgs.length cm] 37)).alloc (.cells #[.bool false, .bool false, .bool false, .bool false, .int .i64 0] 52) = W at x0 z0 H0 ⊢
  have hv0 := hv.bl (Bl.drew H0)
  have s0 := (x0.bl (Bl.refl W).drew).cells4
  have y0 := x0.bl (Bl.refl W).drew
  have t0 := z0.bl (Bl.refl W).drew
  have G0 : Bl w W.drew := Bl.drew H0
  have hne5 : w.heap.size ≠ w.heap.size + 1 := by omega
  go_region_held3 (fun wx : World => wx.cell? ⟨w.heap.size, 0, none⟩ = some (.string p.name) ∧ wx.cell? ⟨w.heap.size, 1, none⟩ = some (.slice a0 p.pre0.length c0) ∧ wx.cell? ⟨w.heap.size, 2, none⟩ = some (.slice a1 p.pre1.length c1) ∧ wx.cell? ⟨w.heap.size, 3, none⟩ = some (.slice am p.msgs.length cm)) (first | with_reducible exact s5 | with_reducible exact s4 | with_reducible exact s3 | with_reducible exact s2 | with_reducible exact s1 | with_reducible exact s0 | with_reducible exact BoxAt.oth5 y5 hne5 _ _ _ _ _) (first | (go_at_call 56; refine (metAll_any _ p _ (hv.bl G4) hs hl 2 7).mono ?_; rintro e w5 ⟨rfl, hb5⟩; have y5 := y4.bl hb5; have s5 := y5.cells4; have t5 := t4.bl hb5; have G5 := G4.trans hb5; obtain ⟨k0, k1, k2, k3, k4⟩ := t5.cells5; have f0 := t5.free 0; have f1 := t5.free 1; have f2 := t5.free 2; have f3 := t5.free 3; have f4 := t5.free 4; have hlt5 := t5.lt) | (go_at_call 55; refine (refPre_any _ p _ (hv.bl G3) hs 1 1 (.inr rfl)).mono ?_; rintro e w4 ⟨rfl, hb4⟩; have y4 := y3.bl hb4; have s4 := y4.cells4; have t4 := t3.bl hb4; have G4 := G3.trans hb4) | (go_at_call 55; refine (refPre_any _ p _ (hv.bl G2) hs 1 2 (.inr rfl)).mono ?_; rintro e w3 ⟨rfl, hb3⟩; have y3 := y2.bl hb3; have s3 := y3.cells4; have t3 := t2.bl hb3; have G3 := G2.trans hb3) | (go_at_call 55; refine (refPre_any _ p _ (hv.bl G1) hs 0 1 (.inl rfl)).mono ?_; rintro e w2 ⟨rfl, hb2⟩; have y2 := y1.bl hb2; have s2 := y2.cells4; have t2 := t1.bl hb2; have G2 := G1.trans hb2) | (go_at_call 54; refine (toldAll_any _ p _ (hv.bl G0) hs hl 0 2 (.inl rfl)).mono ?_; rintro e w1 ⟨rfl, hb1⟩; have y1 := y0.bl hb1; have s1 := y1.cells4; have t1 := t0.bl hb1; have G1 := G0.trans hb1))
  all_goals go_wp2
  have zf := ((((t5.set 0 (.bool (told1 p (allL p) 0 2))).set 1 (.bool ((preL p 0).contains 1))).set 2 (.bool ((preL p 1).contains 2))).set 3 (.bool ((preL p 1).contains 1))).set 4 (.int .i64 (met1 (allL p) 2 7))
  obtain ⟨p0, p1, p2, p3, p4⟩ : _ ∧ _ ∧ _ ∧ _ ∧ _ := ⟨zf.cell 0 rfl, zf.cell 1 rfl, zf.cell 2 rfl, zf.cell 3 rfl, zf.cell 4 rfl⟩
  simp only [List.contains_eq_mem] at p0 p1 p2 p3 p4
  refine bodyPost_ret (v := keyV (ofK p (allL p) 0)) (by simp [results, Tryd.results28, go_sem, keyV, keyL, ofK, p0, p1, p2, p3, p4]) rfl ⟨rfl, ?_⟩
  exact ((((Bl.setCell G5 (by show w.heap.size ≤ w.heap.size + 1; omega) _).setCell (by show w.heap.size ≤ w.heap.size + 1; omega) _).setCell (by show w.heap.size ≤ w.heap.size + 1; omega) _).setCell (by show w.heap.size ≤ w.heap.size + 1; omega) _).setCell (by show w.heap.size ≤ w.heap.size + 1; omega) _

set_option maxRecDepth 100000 in
set_option maxHeartbeats 8000000 in
theorem refOf1_any (v : Value) (p : Pat) (w : World) (h : SP w v p) (hs : Small p) (hl : p.msgs.length ≤ 99) :
    Calls Tryd.prog 28 #[v, .int .i64 1] w fun e w' => e = .returned (keyV (ofK p (allL p) 1)) ∧ Bl w w' := by
  have hv := h
  obtain ⟨v0, v1, vm, rfl, hn, h0, h1, hm⟩ := h
  obtain ⟨a0, c0, rfl⟩ := h0.form
  obtain ⟨a1, c1, rfl⟩ := h1.form
  obtain ⟨am, cm, rfl⟩ := hm.form
  clear h0 h1 hm
  have x0 := (BoxAt.new w #[.string p.name, .slice a0 p.pre0.length c0, .slice a1 p.pre1.length c1, .slice am p.msgs.length cm] 37).alloc (.cells #[.bool false, .bool false, .bool false, .bool false, .int .i64 0] 52)
  have z0 := BoxAt.new (w.alloc (.cells #[.string p.name, .slice a0 p.pre0.length c0, .slice a1 p.pre1.length c1, .slice am p.msgs.length cm] 37)) #[.bool false, .bool false, .bool false, .bool false, .int .i64 0] 52
  have H0 : Bl w ((w.alloc (.cells #[.string p.name, .slice a0 p.pre0.length c0, .slice a1 p.pre1.length c1, .slice am p.msgs.length cm] 37)).alloc (.cells #[.bool false, .bool false, .bool false, .bool false, .int .i64 0] 52)) := ((Bl.refl w).alloc _).alloc _
  simp only [size_alloc] at z0
  go_enter Tryd.func28, Tryd.ntmps28
  go_wp2
  generalize (w.alloc (.cells #[.string p.name, .slice a0 p.pre0.length c0, .slice a1 p.pre1.length c1, .slice am p.msgs.length cm] 37)).alloc (.cells #[.bool false, .bool false, .bool false, .bool false, .int .i64 0] 52) = W at x0 z0 H0 ⊢
  have hv0 := hv.bl (Bl.drew H0)
  have s0 := (x0.bl (Bl.refl W).drew).cells4
  have y0 := x0.bl (Bl.refl W).drew
  have t0 := z0.bl (Bl.refl W).drew
  have G0 : Bl w W.drew := Bl.drew H0
  have hne5 : w.heap.size ≠ w.heap.size + 1 := by omega
  go_region_held3 (fun wx : World => wx.cell? ⟨w.heap.size, 0, none⟩ = some (.string p.name) ∧ wx.cell? ⟨w.heap.size, 1, none⟩ = some (.slice a0 p.pre0.length c0) ∧ wx.cell? ⟨w.heap.size, 2, none⟩ = some (.slice a1 p.pre1.length c1) ∧ wx.cell? ⟨w.heap.size, 3, none⟩ = some (.slice am p.msgs.length cm)) (first | with_reducible exact s5 | with_reducible exact s4 | with_reducible exact s3 | with_reducible exact s2 | with_reducible exact s1 | with_reducible exact s0 | with_reducible exact BoxAt.oth5 y5 hne5 _ _ _ _ _) (first | (go_at_call 56; refine (metAll_any _ p _ (hv.bl G4) hs hl 2 7).mono ?_; rintro e w5 ⟨rfl, hb5⟩; have y5 := y4.bl hb5; have s5 := y5.cells4; have t5 := t4.bl hb5; have G5 := G4.trans hb5; obtain ⟨k0, k1, k2, k3, k4⟩ := t5.cells5; have f0 := t5.free 0; have f1 := t5.free 1; have f2 := t5.free 2; have f3 := t5.free 3; have f4 := t5.free 4; have hlt5 := t5.lt) | (go_at_call 55; refine (refPre_any _ p _ (hv.bl G3) hs 0 1 (.inl rfl)).mono ?_; rintro e w4 ⟨rfl, hb4⟩; have y4 := y3.bl hb4; have s4 := y4.cells4; have t4 := t3.bl hb4; have G4 := G3.trans hb4) | (go_at_call 55; refine (refPre_any _ p _ (hv.bl G2) hs 0 2 (.inl rfl)).mono ?_; rintro e w3 ⟨rfl, hb3⟩; have y3 := y2.bl hb3; have s3 := y3.cells4; have t3 := t2.bl hb3; have G3 := G2.trans hb3) | (go_at_call 55; refine (refPre_any _ p _ (hv.bl G1) hs 1 1 (.inr rfl)).mono ?_; rintro e w2 ⟨rfl, hb2⟩; have y2 := y1.bl hb2; have s2 := y2.cells4; have t2 := t1.bl hb2; have G2 := G1.trans hb2) | (go_at_call 54; refine (toldAll_any _ p _ (hv.bl G0) hs hl 1 2 (.inr rfl)).mono ?_; rintro e w1 ⟨rfl, hb1⟩; have y1 := y0.bl hb1; have s1 := y1.cells4; have t1 := t0.bl hb1; have G1 := G0.trans hb1))
  all_goals go_wp2
  have zf := ((((t5.set 0 (.bool (told1 p (allL p) 1 2))).set 1 (.bool ((preL p 1).contains 1))).set 2 (.bool ((preL p 0).contains 2))).set 3 (.bool ((preL p 0).contains 1))).set 4 (.int .i64 (met1 (allL p) 2 7))
  obtain ⟨p0, p1, p2, p3, p4⟩ : _ ∧ _ ∧ _ ∧ _ ∧ _ := ⟨zf.cell 0 rfl, zf.cell 1 rfl, zf.cell 2 rfl, zf.cell 3 rfl, zf.cell 4 rfl⟩
  simp only [List.contains_eq_mem] at p0 p1 p2 p3 p4
  refine bodyPost_ret (v := keyV (ofK p (allL p) 1)) (by simp [results, Tryd.results28, go_sem, keyV, keyL, ofK, p0, p1, p2, p3, p4]) rfl ⟨rfl, ?_⟩
  exact ((((Bl.setCell G5 (by show w.heap.size ≤ w.heap.size + 1; omega) _).setCell (by show w.heap.size ≤ w.heap.size + 1; omega) _).setCell (by show w.heap.size ≤ w.heap.size + 1; omega) _).setCell (by show w.heap.size ≤ w.heap.size + 1; omega) _).setCell (by show w.heap.size ≤ w.heap.size + 1; omega) _

theorem refOf8_any (v : Value) (p : Pat) (role : Int) (hr : role = 0 ∨ role = 1) (w : World) (h : SP w v p) (hs : Small p) (hl : p.msgs.length ≤ 99) :
    Calls Tryd.prog 28 #[v, .int .i64 role] w fun e w' => e = .returned (keyV (ofK p (allL p) role)) ∧ Bl w w' := by
  rcases hr with rfl | rfl
  · exact refOf0_any v p w h hs hl
  · exact refOf1_any v p w h hs hl
end Go.Proofs.YtkcmmcgbkihpfaaDoor
