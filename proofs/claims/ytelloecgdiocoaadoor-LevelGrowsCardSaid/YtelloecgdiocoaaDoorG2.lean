/- Walks: Track.Of, Track.Sent. -/
import Derived.Test.YtelloecgdiocoaaDoorG1
set_option linter.unusedSimpArgs false
set_option linter.unusedVariables false
namespace Go.Proofs.YtelloecgdiocoaaDoor
open Go.RowKit Go.Sort

def levV (a c : Int) : Value := .agg #[.int .i64 a, .int .i64 c]
def Trk.conf (t : Trk) (f : Int) : Int :=
  if (if f = 0 then t.m4 else t.m5) then if t.m3 then 3 + min (max (if f = 0 then t.l1 else t.l0) 0) 2 else 2 else if t.m3 then 1 else 0
def Trk.ofA (t : Trk) (f : Int) : Int := if f = 0 ∨ f = 1 then t.auth f else 0
def Trk.ofC (t : Trk) (f : Int) : Int := if f = 0 ∨ f = 1 then t.conf f else 0

set_option maxRecDepth 100000 in
set_option maxHeartbeats 8000000 in
theorem of0_any (t : Trk) (w : World) : Calls Tryd.prog 25 #[trkV t, .int .i64 0] w fun e w' => e = .returned (levV (t.auth 0) (t.conf 0)) ∧ Bl w w' := by
  have y : BoxAt _ _ t.cells _ := (BoxAt.new w t.cells.toArray 54).alloc (.cells #[.int .i64 0, .int .i64 0] 37)
  have z := BoxAt.new (w.alloc (.cells t.cells.toArray 54)) #[.int .i64 0, .int .i64 0] 37
  have H : Bl w ((w.alloc (.cells t.cells.toArray 54)).alloc (.cells #[.int .i64 0, .int .i64 0] 37)) := ((Bl.refl w).alloc _).alloc _
  simp only [size_alloc] at z
  have HC : Hid (t.conf 0 = if t.m4 then if t.m3 then 3 + min (max t.l1 0) 2 else 2 else if t.m3 then 1 else 0) := Lib.hid (by simp [Trk.conf])
  rw [HC.out]
  clear HC
  have HA := auth0_any t
  generalize t.auth 0 = au at *
  have HT := Lib.hid (rfl : t = t)
  obtain ⟨m0, m1, m2, m3, m4, m5, m6, m7, l0, l1⟩ := t
  rw [trkV_eq]
  go_enter Tryd.func25, Tryd.ntmps25
  have ix0 : ∀ (x y : Value) (w : World), (Instr.index 52 (.agg #[x, y]) (.int .i64 0)).run Tryd.prog w = .ok x w := fun x y w => by kernel_rfl
  simp only [Trk.cells] at y z H
  have y0 := y
  go_wp2_with (first | (go_at_call 52; refine (lis_any 0 _).mono ?_; rintro e w1 ⟨rfl, rfl⟩) | fail)
  refine (HA _).mono ?_
  rintro e w1 ⟨rfl, hb1⟩
  have y1 := y.bl hb1
  have z1 := z.bl hb1
  have H1 := H.trans hb1
  have hlt := z1.lt
  clear y y0 z H hb1 HA
  have yA := y1.alloc (.cells #[.int .i64 au, .int .i64 0] 37)
  have zA := z1.alloc (.cells #[.int .i64 au, .int .i64 0] 37)
  have xA := BoxAt.new w1 #[.int .i64 au, .int .i64 0] 37
  have HAl := H1.alloc (.cells #[.int .i64 au, .int .i64 0] 37)
  have c3 := yA.cell 3 rfl
  have c4 := yA.cell 4 rfl
  have c9 := yA.cell 9 rfl
  have z10 := z1.cell 0 rfl
  have z11 := z1.cell 1 rfl
  have zf0 := z1.free 0
  have zf1 := z1.free 1
  have hB1 : w.heap.size + 1 < w1.heap.size := hlt
  cases m4
  · cases m3
    · go_wp2
      have qf := ((z1.set 0 (.int .i64 au)).set 1 (.int .i64 (0))).alloc (.cells #[.int .i64 au, .int .i64 (0)] 37)
      have q0 := qf.cell 0 rfl
      have q1 := qf.cell 1 rfl
      exact bodyPost_ret (v := levV au (0)) (by simp [results, Tryd.results25, go_sem, q0, q1, levV]) rfl ⟨by simp, ((H1.setCell (by show w.heap.size ≤ w.heap.size + 1; omega) _).setCell (by show w.heap.size ≤ w.heap.size + 1; omega) _).alloc _⟩
    · go_wp2
      have qf := ((z1.set 0 (.int .i64 au)).set 1 (.int .i64 (1))).alloc (.cells #[.int .i64 au, .int .i64 (1)] 37)
      have q0 := qf.cell 0 rfl
      have q1 := qf.cell 1 rfl
      exact bodyPost_ret (v := levV au (1)) (by simp [results, Tryd.results25, go_sem, q0, q1, levV]) rfl ⟨by simp, ((H1.setCell (by show w.heap.size ≤ w.heap.size + 1; omega) _).setCell (by show w.heap.size ≤ w.heap.size + 1; omega) _).alloc _⟩
  · cases m3
    · go_wp2
      have qf := ((z1.set 0 (.int .i64 au)).set 1 (.int .i64 (2))).alloc (.cells #[.int .i64 au, .int .i64 (2)] 37)
      have q0 := qf.cell 0 rfl
      have q1 := qf.cell 1 rfl
      exact bodyPost_ret (v := levV au (2)) (by simp [results, Tryd.results25, go_sem, q0, q1, levV]) rfl ⟨by simp, ((H1.setCell (by show w.heap.size ≤ w.heap.size + 1; omega) _).setCell (by show w.heap.size ≤ w.heap.size + 1; omega) _).alloc _⟩
    · go_wp2
      have qf := ((z1.set 0 (.int .i64 au)).set 1 (.int .i64 (3 + min (max l1 0) 2))).alloc (.cells #[.int .i64 au, .int .i64 (3 + min (max l1 0) 2)] 37)
      have q0 := qf.cell 0 rfl
      have q1 := qf.cell 1 rfl
      exact bodyPost_ret (v := levV au (3 + min (max l1 0) 2)) (by simp [results, Tryd.results25, go_sem, q0, q1, levV]) rfl ⟨by simp, ((H1.setCell (by show w.heap.size ≤ w.heap.size + 1; omega) _).setCell (by show w.heap.size ≤ w.heap.size + 1; omega) _).alloc _⟩

set_option maxRecDepth 100000 in
set_option maxHeartbeats 8000000 in
theorem of1_any (t : Trk) (w : World) : Calls Tryd.prog 25 #[trkV t, .int .i64 1] w fun e w' => e = .returned (levV (t.auth 1) (t.conf 1)) ∧ Bl w w' := by
  have y : BoxAt _ _ t.cells _ := (BoxAt.new w t.cells.toArray 54).alloc (.cells #[.int .i64 0, .int .i64 0] 37)
  have z := BoxAt.new (w.alloc (.cells t.cells.toArray 54)) #[.int .i64 0, .int .i64 0] 37
  have H : Bl w ((w.alloc (.cells t.cells.toArray 54)).alloc (.cells #[.int .i64 0, .int .i64 0] 37)) := ((Bl.refl w).alloc _).alloc _
  simp only [size_alloc] at z
  have HC : Hid (t.conf 1 = if t.m5 then if t.m3 then 3 + min (max t.l0 0) 2 else 2 else if t.m3 then 1 else 0) := Lib.hid (by simp [Trk.conf])
  rw [HC.out]
  clear HC
  have HA := auth1_any t
  generalize t.auth 1 = au at *
  have HT := Lib.hid (rfl : t = t)
  obtain ⟨m0, m1, m2, m3, m4, m5, m6, m7, l0, l1⟩ := t
  rw [trkV_eq]
  go_enter Tryd.func25, Tryd.ntmps25
  have ix0 : ∀ (x y : Value) (w : World), (Instr.index 52 (.agg #[x, y]) (.int .i64 1)).run Tryd.prog w = .ok y w := fun x y w => by kernel_rfl
  simp only [Trk.cells] at y z H
  have y0 := y
  go_wp2_with (first | (go_at_call 52; refine (lis_any 1 _).mono ?_; rintro e w1 ⟨rfl, rfl⟩) | fail)
  refine (HA _).mono ?_
  rintro e w1 ⟨rfl, hb1⟩
  have y1 := y.bl hb1
  have z1 := z.bl hb1
  have H1 := H.trans hb1
  have hlt := z1.lt
  clear y y0 z H hb1 HA
  have yA := y1.alloc (.cells #[.int .i64 au, .int .i64 0] 37)
  have zA := z1.alloc (.cells #[.int .i64 au, .int .i64 0] 37)
  have xA := BoxAt.new w1 #[.int .i64 au, .int .i64 0] 37
  have HAl := H1.alloc (.cells #[.int .i64 au, .int .i64 0] 37)
  have c3 := yA.cell 3 rfl
  have c5 := yA.cell 5 rfl
  have c8 := yA.cell 8 rfl
  have z10 := z1.cell 0 rfl
  have z11 := z1.cell 1 rfl
  have zf0 := z1.free 0
  have zf1 := z1.free 1
  have hB1 : w.heap.size + 1 < w1.heap.size := hlt
  cases m5
  · cases m3
    · go_wp2
      have qf := ((z1.set 0 (.int .i64 au)).set 1 (.int .i64 (0))).alloc (.cells #[.int .i64 au, .int .i64 (0)] 37)
      have q0 := qf.cell 0 rfl
      have q1 := qf.cell 1 rfl
      exact bodyPost_ret (v := levV au (0)) (by simp [results, Tryd.results25, go_sem, q0, q1, levV]) rfl ⟨by simp, ((H1.setCell (by show w.heap.size ≤ w.heap.size + 1; omega) _).setCell (by show w.heap.size ≤ w.heap.size + 1; omega) _).alloc _⟩
    · go_wp2
      have qf := ((z1.set 0 (.int .i64 au)).set 1 (.int .i64 (1))).alloc (.cells #[.int .i64 au, .int .i64 (1)] 37)
      have q0 := qf.cell 0 rfl
      have q1 := qf.cell 1 rfl
      exact bodyPost_ret (v := levV au (1)) (by simp [results, Tryd.results25, go_sem, q0, q1, levV]) rfl ⟨by simp, ((H1.setCell (by show w.heap.size ≤ w.heap.size + 1; omega) _).setCell (by show w.heap.size ≤ w.heap.size + 1; omega) _).alloc _⟩
  · cases m3
    · go_wp2
      have qf := ((z1.set 0 (.int .i64 au)).set 1 (.int .i64 (2))).alloc (.cells #[.int .i64 au, .int .i64 (2)] 37)
      have q0 := qf.cell 0 rfl
      have q1 := qf.cell 1 rfl
      exact bodyPost_ret (v := levV au (2)) (by simp [results, Tryd.results25, go_sem, q0, q1, levV]) rfl ⟨by simp, ((H1.setCell (by show w.heap.size ≤ w.heap.size + 1; omega) _).setCell (by show w.heap.size ≤ w.heap.size + 1; omega) _).alloc _⟩
    · go_wp2
      have qf := ((z1.set 0 (.int .i64 au)).set 1 (.int .i64 (3 + min (max l0 0) 2))).alloc (.cells #[.int .i64 au, .int .i64 (3 + min (max l0 0) 2)] 37)
      have q0 := qf.cell 0 rfl
      have q1 := qf.cell 1 rfl
      exact bodyPost_ret (v := levV au (3 + min (max l0 0) 2)) (by simp [results, Tryd.results25, go_sem, q0, q1, levV]) rfl ⟨by simp, ((H1.setCell (by show w.heap.size ≤ w.heap.size + 1; omega) _).setCell (by show w.heap.size ≤ w.heap.size + 1; omega) _).alloc _⟩

set_option maxRecDepth 100000 in
set_option maxHeartbeats 8000000 in
theorem ofN_any (t : Trk) (f : Int) (hf : ¬ (f = 0 ∨ f = 1)) (w : World) : Calls Tryd.prog 25 #[trkV t, .int .i64 f] w fun e w' => e = .returned (levV 0 0) ∧ Bl w w' := by
  have df : decide (f = 0 ∨ f = 1) = false := by simpa using hf
  have HF := Lib.hid hf
  clear hf
  have z := BoxAt.new (w.alloc (.cells t.cells.toArray 54)) #[.int .i64 0, .int .i64 0] 37
  have H : Bl w ((w.alloc (.cells t.cells.toArray 54)).alloc (.cells #[.int .i64 0, .int .i64 0] 37)) := ((Bl.refl w).alloc _).alloc _
  simp only [size_alloc] at z
  obtain ⟨m0, m1, m2, m3, m4, m5, m6, m7, l0, l1⟩ := t
  rw [trkV_eq]
  go_enter Tryd.func25, Tryd.ntmps25
  simp only [Trk.cells] at z H
  have hc := lis_any f
  rw [df] at hc
  clear df
  go_wp2_with (first | (go_at_call 52; refine (hc _).mono ?_; rintro e w1 ⟨rfl, rfl⟩) | fail)
  have q0 := z.cell 0 rfl
  have q1 := z.cell 1 rfl
  exact bodyPost_ret (v := levV 0 0) (by simp [results, Tryd.results25, go_sem, q0, q1, levV]) rfl ⟨rfl, H⟩

theorem of_any' (t : Trk) (f : Int) (w : World) : Calls Tryd.prog 25 #[trkV t, .int .i64 f] w fun e w' => e = .returned (levV (t.ofA f) (t.ofC f)) ∧ Bl w w' := by
  by_cases h0 : f = 0
  · subst h0
    exact of0_any t w
  · by_cases h1 : f = 1
    · subst h1
      exact of1_any t w
    · have hn : ¬ (f = 0 ∨ f = 1) := by omega
      have e1 : t.ofA f = 0 := if_neg hn
      have e2 : t.ofC f = 0 := if_neg hn
      rw [e1, e2]
      exact ofN_any t f hn w
end Go.Proofs.YtelloecgdiocoaaDoor
