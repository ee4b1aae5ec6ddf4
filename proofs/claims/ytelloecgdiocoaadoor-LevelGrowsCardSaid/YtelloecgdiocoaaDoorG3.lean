/- Walks: Track.Sent. -/
import Derived.Test.YtelloecgdiocoaaDoorG2
set_option linter.unusedSimpArgs false
set_option linter.unusedVariables false
namespace Go.Proofs.YtelloecgdiocoaaDoor
open Go.RowKit Go.Sort

def Trk.sent (t : Trk) (f : Int) : Trk := if f = 0 then { t with l0 := t.auth 0 } else if f = 1 then { t with l1 := t.auth 1 } else t

set_option maxRecDepth 100000 in
set_option maxHeartbeats 8000000 in
theorem sent0_any (t : Trk) (w : World) : Calls Tryd.prog 27 #[trkV t, .int .i64 0] w fun e w' => e = .returned (trkV { t with l0 := t.auth 0 }) ∧ Bl w w' := by
  have y : BoxAt _ _ t.cells _ := (BoxAt.new w t.cells.toArray 54).alloc (.cells trk0.cells.toArray 54)
  have z : BoxAt _ _ trk0.cells _ := BoxAt.new (w.alloc (.cells t.cells.toArray 54)) trk0.cells.toArray 54
  have H : Bl w ((w.alloc (.cells t.cells.toArray 54)).alloc (.cells trk0.cells.toArray 54)) := ((Bl.refl w).alloc _).alloc _
  simp only [size_alloc] at z
  have HA := auth0_any t
  generalize t.auth 0 = au at *
  obtain ⟨m0, m1, m2, m3, m4, m5, m6, m7, l0, l1⟩ := t
  rw [trkV_eq]
  go_enter Tryd.func27, Tryd.ntmps27
  simp only [Trk.cells, trk0] at y z H
  go_wp2_with (first | (go_at_call 52; refine (lis_any 0 _).mono ?_; rintro e w1 ⟨rfl, rfl⟩) | fail)
  refine (HA _).mono ?_
  rintro e w1 ⟨rfl, hb1⟩
  have y1 := y.bl hb1
  have z1 := z.bl hb1
  have H1 := H.trans hb1
  clear y z H hb1 HA
  have yc := y1.cell 8 rfl
  have yf := y1.free 8
  obtain ⟨tn, htn⟩ : ∃ tn : Trk, tn = ⟨m0, m1, m2, m3, m4, m5, m6, m7, au, l1⟩ := ⟨_, rfl⟩
  have y2 : BoxAt (w1.setCell ⟨w.heap.size, 8, none⟩ (.int .i64 au)) w.heap.size tn.cells 54 := by rw [htn]; exact y1.set 8 (.int .i64 au)
  have HTN : Hid (trkV tn = trkV ⟨m0, m1, m2, m3, m4, m5, m6, m7, au, l1⟩) := Lib.hid (by rw [htn])
  clear htn
  have z2 : BoxAt (w1.setCell ⟨w.heap.size, 8, none⟩ (.int .i64 au)) (w.heap.size + 1) trk0.cells 54 := z1.other (by show w.heap.size + 1 ≠ w.heap.size; omega) _
  have H2 : Bl w (w1.setCell ⟨w.heap.size, 8, none⟩ (.int .i64 au)) := H1.setCell (Nat.le_refl _) _
  clear y1 z1 H1
  go_wp2_with (first | (refine wpList_load_row rfl 54 (.tmp 2) (by rfl) w.heap.size (by rfl) 54 _ (0, 0) _ y2 Tryd.underlying54 (by rfl) (by exact infoTrk) ?_) | (refine wpList_store_row rfl 54 (.tmp 4) (.tmp 13) (by rfl) (w.heap.size + 1) _ (by rfl) (by rfl) 54 _ z2 (by exact infoTrk) (by rfl) (Trk.one _) ?_))
  exact bodyPost_ret (v := trkV tn) (results_cell_row (by rfl) _ _ (w.heap.size + 1) 54 _ (0, 0) _ (by rfl) (setRow_heap _ _ _ _ _ _ z2) Tryd.underlying54 (by rfl) (by exact infoTrk)) rfl ⟨by rw [HTN.out], Bl.setRow H2 (by omega) _⟩

set_option maxRecDepth 100000 in
set_option maxHeartbeats 8000000 in
theorem sent1_any (t : Trk) (w : World) : Calls Tryd.prog 27 #[trkV t, .int .i64 1] w fun e w' => e = .returned (trkV { t with l1 := t.auth 1 }) ∧ Bl w w' := by
  have y : BoxAt _ _ t.cells _ := (BoxAt.new w t.cells.toArray 54).alloc (.cells trk0.cells.toArray 54)
  have z : BoxAt _ _ trk0.cells _ := BoxAt.new (w.alloc (.cells t.cells.toArray 54)) trk0.cells.toArray 54
  have H : Bl w ((w.alloc (.cells t.cells.toArray 54)).alloc (.cells trk0.cells.toArray 54)) := ((Bl.refl w).alloc _).alloc _
  simp only [size_alloc] at z
  have HA := auth1_any t
  generalize t.auth 1 = au at *
  obtain ⟨m0, m1, m2, m3, m4, m5, m6, m7, l0, l1⟩ := t
  rw [trkV_eq]
  go_enter Tryd.func27, Tryd.ntmps27
  simp only [Trk.cells, trk0] at y z H
  go_wp2_with (first | (go_at_call 52; refine (lis_any 1 _).mono ?_; rintro e w1 ⟨rfl, rfl⟩) | fail)
  refine (HA _).mono ?_
  rintro e w1 ⟨rfl, hb1⟩
  have y1 := y.bl hb1
  have z1 := z.bl hb1
  have H1 := H.trans hb1
  clear y z H hb1 HA
  have yc := y1.cell 9 rfl
  have yf := y1.free 9
  obtain ⟨tn, htn⟩ : ∃ tn : Trk, tn = ⟨m0, m1, m2, m3, m4, m5, m6, m7, l0, au⟩ := ⟨_, rfl⟩
  have y2 : BoxAt (w1.setCell ⟨w.heap.size, 9, none⟩ (.int .i64 au)) w.heap.size tn.cells 54 := by rw [htn]; exact y1.set 9 (.int .i64 au)
  have HTN : Hid (trkV tn = trkV ⟨m0, m1, m2, m3, m4, m5, m6, m7, l0, au⟩) := Lib.hid (by rw [htn])
  clear htn
  have z2 : BoxAt (w1.setCell ⟨w.heap.size, 9, none⟩ (.int .i64 au)) (w.heap.size + 1) trk0.cells 54 := z1.other (by show w.heap.size + 1 ≠ w.heap.size; omega) _
  have H2 : Bl w (w1.setCell ⟨w.heap.size, 9, none⟩ (.int .i64 au)) := H1.setCell (Nat.le_refl _) _
  clear y1 z1 H1
  go_wp2_with (first | (refine wpList_load_row rfl 54 (.tmp 2) (by rfl) w.heap.size (by rfl) 54 _ (0, 0) _ y2 Tryd.underlying54 (by rfl) (by exact infoTrk) ?_) | (refine wpList_store_row rfl 54 (.tmp 4) (.tmp 13) (by rfl) (w.heap.size + 1) _ (by rfl) (by rfl) 54 _ z2 (by exact infoTrk) (by rfl) (Trk.one _) ?_))
  exact bodyPost_ret (v := trkV tn) (results_cell_row (by rfl) _ _ (w.heap.size + 1) 54 _ (0, 0) _ (by rfl) (setRow_heap _ _ _ _ _ _ z2) Tryd.underlying54 (by rfl) (by exact infoTrk)) rfl ⟨by rw [HTN.out], Bl.setRow H2 (by omega) _⟩

set_option maxRecDepth 100000 in
set_option maxHeartbeats 8000000 in
theorem sentN_any (t : Trk) (f : Int) (hf : ¬ (f = 0 ∨ f = 1)) (w : World) : Calls Tryd.prog 27 #[trkV t, .int .i64 f] w fun e w' => e = .returned (trkV t) ∧ Bl w w' := by
  have df : decide (f = 0 ∨ f = 1) = false := by simpa using hf
  have HF := Lib.hid hf
  clear hf
  have hc := lis_any f
  rw [df] at hc
  clear df
  have y : BoxAt _ _ t.cells _ := (BoxAt.new w t.cells.toArray 54).alloc (.cells trk0.cells.toArray 54)
  have z : BoxAt _ _ trk0.cells _ := BoxAt.new (w.alloc (.cells t.cells.toArray 54)) trk0.cells.toArray 54
  have H : Bl w ((w.alloc (.cells t.cells.toArray 54)).alloc (.cells trk0.cells.toArray 54)) := ((Bl.refl w).alloc _).alloc _
  simp only [size_alloc] at z
  obtain ⟨m0, m1, m2, m3, m4, m5, m6, m7, l0, l1⟩ := t
  rw [trkV_eq]
  go_enter Tryd.func27, Tryd.ntmps27
  simp only [Trk.cells, trk0] at y z H
  go_wp2_with fail
  generalize (w.alloc (.cells #[.bool m0, .bool m1, .bool m2, .bool m3, .bool m4, .bool m5, .bool m6, .bool m7, .int .i64 l0, .int .i64 l1] 54)).alloc (.cells #[.bool false, .bool false, .bool false, .bool false, .bool false, .bool false, .bool false, .bool false, .int .i64 0, .int .i64 0] 54) = W at y z H ⊢
  obtain ⟨tn, htn⟩ : ∃ tn : Trk, tn = ⟨m0, m1, m2, m3, m4, m5, m6, m7, l0, l1⟩ := ⟨_, rfl⟩
  have y2 : BoxAt W w.heap.size tn.cells 54 := by rw [htn]; exact y
  have HTN : Hid (trkV tn = trkV ⟨m0, m1, m2, m3, m4, m5, m6, m7, l0, l1⟩) := Lib.hid (by rw [htn])
  clear htn y
  refine (hc _).mono ?_
  rintro e w1 ⟨rfl, rfl⟩
  go_wp2_with (first | (refine wpList_load_row rfl 54 (.tmp 2) (by rfl) w.heap.size (by rfl) 54 _ (0, 0) _ y2 Tryd.underlying54 (by rfl) (by exact infoTrk) ?_) | (refine wpList_store_row rfl 54 (.tmp 4) (.tmp 13) (by rfl) (w.heap.size + 1) _ (by rfl) (by rfl) 54 _ z (by exact infoTrk) (by rfl) (Trk.one _) ?_))
  exact bodyPost_ret (v := trkV tn) (results_cell_row (by rfl) _ _ (w.heap.size + 1) 54 _ (0, 0) _ (by rfl) (setRow_heap _ _ _ _ _ _ z) Tryd.underlying54 (by rfl) (by exact infoTrk)) rfl ⟨by rw [HTN.out]; rfl, Bl.setRow H (by omega) _⟩

theorem sent_any (t : Trk) (f : Int) (w : World) : Calls Tryd.prog 27 #[trkV t, .int .i64 f] w fun e w' => e = .returned (trkV (t.sent f)) ∧ Bl w w' := by
  by_cases h0 : f = 0
  · subst h0
    exact sent0_any t w
  · by_cases h1 : f = 1
    · subst h1
      exact sent1_any t w
    · have e1 : t.sent f = t := by rw [Trk.sent, if_neg h0, if_neg h1]
      rw [e1]
      exact sentN_any t f (by omega) w
end Go.Proofs.YtelloecgdiocoaaDoor
