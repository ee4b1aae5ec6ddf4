/- Walks: level.is, Reach, Track.auth, Track.Mix. -/
import Derived.Test.YtelloecgdiocoaaDoorV8
set_option linter.unusedSimpArgs false
set_option linter.unusedVariables false
namespace Go.Proofs.YtelloecgdiocoaaDoor
open Go.RowKit Go.Sort

/-- what was met, and how far who sent last was known -/
structure Trk where
  m0 : Bool
  m1 : Bool
  m2 : Bool
  m3 : Bool
  m4 : Bool
  m5 : Bool
  m6 : Bool
  m7 : Bool
  l0 : Int
  l1 : Int
deriving DecidableEq

def Trk.cells (t : Trk) : List Value := [.bool t.m0, .bool t.m1, .bool t.m2, .bool t.m3, .bool t.m4, .bool t.m5, .bool t.m6, .bool t.m7, .int .i64 t.l0, .int .i64 t.l1]
def trkV (t : Trk) : Value := .agg #[.bool t.m0, .bool t.m1, .bool t.m2, .bool t.m3, .bool t.m4, .bool t.m5, .bool t.m6, .bool t.m7, .int .i64 t.l0, .int .i64 t.l1]
theorem trkV_eq (a b c d e f g h : Bool) (i j : Int) : trkV ⟨a, b, c, d, e, f, g, h, i, j⟩ = .agg #[.bool a, .bool b, .bool c, .bool d, .bool e, .bool f, .bool g, .bool h, .int .i64 i, .int .i64 j] := rfl
def Trk.put (t : Trk) (x : Int) : Trk :=
  if x = 1 then { t with m1 := true } else if x = 2 then { t with m2 := true } else if x = 3 then { t with m3 := true } else if x = 4 then { t with m4 := true }
  else if x = 5 then { t with m5 := true } else if x = 6 then { t with m6 := true } else if x = 7 then { t with m7 := true } else t
def Trk.mix (t : Trk) (l : List Int) : Trk := l.foldl Trk.put t
def Trk.auth (t : Trk) (f : Int) : Int := if (if f = 0 then t.m5 else t.m4) then 2 else if t.m6 then 1 else 0

theorem lis_any (x : Int) (w : World) : Calls Tryd.prog 52 #[.int .i64 x] w fun e w' => e = .returned (.bool (decide (x = 0 ∨ x = 1))) ∧ w' = w := by
  go_enter Tryd.func52, Tryd.ntmps52
  by_cases h0 : x = 0
  · subst h0
    go_wp2
    go_ret
    exact ⟨ret_bool (by simp), rfl⟩
  · have d0 : (x == 0) = false := by simpa using h0
    by_cases h1 : x = 1
    · subst h1
      go_wp2
      go_ret
      exact ⟨ret_bool (by simp), rfl⟩
    · have d1 : (x == 1) = false := by simpa using h1
      go_wp2
      go_ret
      exact ⟨ret_bool (by simp [h0, h1]), rfl⟩

theorem reach_any (a b c d : Int) (w : World) : Calls Tryd.prog 28 #[.agg #[.int .i64 a, .int .i64 b], .agg #[.int .i64 c, .int .i64 d]] w fun e w' => e = .returned (.bool (decide (c ≤ a) && decide (d ≤ b))) ∧ Bl w w' := by
  go_enter Tryd.func28, Tryd.ntmps28
  by_cases h : c ≤ a
  · have dh : decide (c ≤ a) = true := by simpa using h
    go_wp2
    go_ret
    exact ⟨ret_bool (by simp [h]), ((Bl.refl _).alloc _).alloc _⟩
  · have dh : decide (c ≤ a) = false := by simpa using h
    go_wp2
    go_ret
    exact ⟨ret_bool (by simp [h]), ((Bl.refl _).alloc _).alloc _⟩

set_option maxRecDepth 100000 in
set_option maxHeartbeats 4000000 in
theorem auth0_any (t : Trk) (w : World) : Calls Tryd.prog 53 #[trkV t, .int .i64 0] w fun e w' => e = .returned (.int .i64 (t.auth 0)) ∧ Bl w w' := by
  obtain ⟨m0, m1, m2, m3, m4, m5, m6, m7, l0, l1⟩ := t
  rw [trkV_eq]
  go_enter Tryd.func53, Tryd.ntmps53
  have ix0 : ∀ (x y : Value) (w : World), (Instr.index 52 (.agg #[x, y]) (.int .i64 0)).run Tryd.prog w = .ok x w := fun x y w => by kernel_rfl
  cases m5
  · cases m6
    · go_wp2
      go_ret
      exact ⟨ret_int (by simp [Trk.auth]), (Bl.refl _).alloc _⟩
    · go_wp2
      go_ret
      exact ⟨ret_int (by simp [Trk.auth]), (Bl.refl _).alloc _⟩
  · go_wp2
    go_ret
    exact ⟨ret_int (by simp [Trk.auth]), (Bl.refl _).alloc _⟩

set_option maxRecDepth 100000 in
set_option maxHeartbeats 4000000 in
theorem auth1_any (t : Trk) (w : World) : Calls Tryd.prog 53 #[trkV t, .int .i64 1] w fun e w' => e = .returned (.int .i64 (t.auth 1)) ∧ Bl w w' := by
  obtain ⟨m0, m1, m2, m3, m4, m5, m6, m7, l0, l1⟩ := t
  rw [trkV_eq]
  go_enter Tryd.func53, Tryd.ntmps53
  have ix0 : ∀ (x y : Value) (w : World), (Instr.index 52 (.agg #[x, y]) (.int .i64 1)).run Tryd.prog w = .ok y w := fun x y w => by kernel_rfl
  cases m4
  · cases m6
    · go_wp2
      go_ret
      exact ⟨ret_int (by simp [Trk.auth]), (Bl.refl _).alloc _⟩
    · go_wp2
      go_ret
      exact ⟨ret_int (by simp [Trk.auth]), (Bl.refl _).alloc _⟩
  · go_wp2
    go_ret
    exact ⟨ret_int (by simp [Trk.auth]), (Bl.refl _).alloc _⟩

theorem infoTrk : (Tryd.prog.info? 54).map (·.size) = some 10 := by kernel_rfl
theorem Trk.one (t : Trk) : t.cells.toArray.all (·.oneCell') = true := by simp [Trk.cells, Value.oneCell']
theorem trkV_cells (t : Trk) : trkV t = .agg t.cells.toArray := rfl
def trk0 : Trk := ⟨false, false, false, false, false, false, false, false, 0, 0⟩
theorem mix_step (t : Trk) (l : List Int) (k : Nat) (h : k < l.length) : t.mix (l.take (k + 1)) = (t.mix (l.take k)).put l[k] := by
  unfold Trk.mix; rw [List.take_succ_eq_append_getElem h, List.foldl_append]; rfl
theorem put_cells (t : Trk) (x : Nat) (h1 : 1 ≤ x) (h7 : x ≤ 7) : (t.put x).cells = t.cells.set x (.bool true) := by
  have hx : x = 1 ∨ x = 2 ∨ x = 3 ∨ x = 4 ∨ x = 5 ∨ x = 6 ∨ x = 7 := by omega
  rcases hx with rfl | rfl | rfl | rfl | rfl | rfl | rfl <;> rfl
theorem put_out (t : Trk) (x : Int) (h : ¬ (1 ≤ x ∧ x ≤ 7)) : t.put x = t := by
  unfold Trk.put
  repeat (rw [if_neg (by omega)])

set_option maxRecDepth 100000 in
set_option maxHeartbeats 8000000 in
theorem mix_any (t : Trk) (v : Value) (l : List Int) (w : World) (hv : SI w v l) : Calls Tryd.prog 26 #[trkV t, v] w fun e w' => e = .returned (trkV (t.mix l)) ∧ Bl w w' := by
  obtain ⟨a, c, rfl⟩ := hv.form
  have hlen := hv.len
  have y : BoxAt _ _ t.cells _ := (BoxAt.new w t.cells.toArray 54).alloc (.cells trk0.cells.toArray 54)
  have z : BoxAt _ _ trk0.cells _ := BoxAt.new (w.alloc (.cells t.cells.toArray 54)) trk0.cells.toArray 54
  have H : Bl w ((w.alloc (.cells t.cells.toArray 54)).alloc (.cells trk0.cells.toArray 54)) := ((Bl.refl w).alloc _).alloc _
  simp only [size_alloc] at z
  have HM0 : Hid (t.mix (l.take 0) = t) := Lib.hid (by simp [Trk.mix])
  have HMS : Hid (∀ k, (h : k < l.length) → t.mix (l.take (k + 1)) = (t.mix (l.take k)).put l[k]) := Lib.hid fun k h => mix_step t l k h
  have HML : Hid (t.mix (l.take l.length) = t.mix l) := Lib.hid (by rw [List.take_length])
  obtain ⟨m0, m1, m2, m3, m4, m5, m6, m7, l0, l1⟩ := t
  rw [trkV_eq]
  go_enter Tryd.func26, Tryd.ntmps26
  simp only [Trk.cells, trk0] at y z H
  go_wp2
  generalize (w.alloc (.cells #[.bool m0, .bool m1, .bool m2, .bool m3, .bool m4, .bool m5, .bool m6, .bool m7, .int .i64 l0, .int .i64 l1] 54)).alloc (.cells #[.bool false, .bool false, .bool false, .bool false, .bool false, .bool false, .bool false, .bool false, .int .i64 0, .int .i64 0] 54) = W at y z H ⊢
  generalize hT : (⟨m0, m1, m2, m3, m4, m5, m6, m7, l0, l1⟩ : Trk) = t at *
  go_loopw [9] (fun i wr => ∃ (k : Nat), k ≤ l.length ∧ i = .int .i64 k ∧ BoxAt wr w.heap.size (t.mix (l.take k)).cells 54 ∧ BoxAt wr (w.heap.size + 1) trk0.cells 54 ∧ Bl w wr) (fun i _ => l.length - (intOf i).toNat)
  case atStart => exact ⟨0, by omega, rfl, by rw [HM0.out, ← hT]; exact y, z, H⟩
  case round =>
    obtain ⟨k, hk, rfl, yr, zr, Hr⟩ := hrel
    by_cases hkn : k < l.length
    · have HX := Lib.hid (HMS.out k hkn)
      obtain ⟨b, o, e', hct⟩ : ∃ b o, a = some ⟨b, o, none⟩ ∧ wr.cell? ⟨b, o + k, none⟩ = some (.int .i64 l[k]) := by
        obtain ⟨a', c', e, _, hc⟩ := hv.bl Hr
        injection e with e1 _ _
        obtain ⟨b', o', e2, h2⟩ := hc k hkn
        exact ⟨b', o', e1.trans e2, h2⟩
      subst e'
      generalize l[k] = x at *
      by_cases h1 : 1 ≤ x
      · have d1 : decide (1 ≤ x) = true := by simpa using h1
        by_cases h7 : x ≤ 7
        · have d7 : decide (x ≤ 7) = true := by simpa using h7
          have HN : Hid (∀ n : Nat, x = n → BoxAt wr w.heap.size ((t.mix (l.take k)).cells) 54 → BoxAt (wr.setCell ⟨w.heap.size, n, none⟩ (.bool true)) w.heap.size (t.mix (l.take (k + 1))).cells 54) := Lib.hid fun n hn hb => by
            subst hn
            rw [HX.out, put_cells _ n (by omega) (by omega)]
            exact hb.set n _
          have hx : x = 1 ∨ x = 2 ∨ x = 3 ∨ x = 4 ∨ x = 5 ∨ x = 6 ∨ x = 7 := by omega
          clear h1 h7 HX
          generalize hTK : t.mix (l.take k) = tk at *
          clear hTK
          have yr0 := yr
          obtain ⟨n0, n1, n2, n3, n4, n5, n6, n7, q0, q1⟩ := tk
          simp only [Trk.cells] at yr
          have zN : ∀ n, BoxAt (wr.setCell ⟨w.heap.size, n, none⟩ (.bool true)) (w.heap.size + 1) trk0.cells 54 := fun n => zr.other (by show w.heap.size + 1 ≠ w.heap.size; omega) _
          have HB : ∀ n, Bl w (wr.setCell ⟨w.heap.size, n, none⟩ (.bool true)) := fun n => Hr.setCell (Nat.le_refl _) _
          rcases hx with rfl | rfl | rfl | rfl | rfl | rfl | rfl
          · have yc := yr.cell 1 rfl
            have yf := yr.free 1
            go_wp2
            go_roundw
            case rel => exact ⟨k + 1, by omega, by go_num, HN.out 1 rfl yr0, zN 1, HB 1⟩
            case measure => simp [intOf]; omega
          · have yc := yr.cell 2 rfl
            have yf := yr.free 2
            go_wp2
            go_roundw
            case rel => exact ⟨k + 1, by omega, by go_num, HN.out 2 rfl yr0, zN 2, HB 2⟩
            case measure => simp [intOf]; omega
          · have yc := yr.cell 3 rfl
            have yf := yr.free 3
            go_wp2
            go_roundw
            case rel => exact ⟨k + 1, by omega, by go_num, HN.out 3 rfl yr0, zN 3, HB 3⟩
            case measure => simp [intOf]; omega
          · have yc := yr.cell 4 rfl
            have yf := yr.free 4
            go_wp2
            go_roundw
            case rel => exact ⟨k + 1, by omega, by go_num, HN.out 4 rfl yr0, zN 4, HB 4⟩
            case measure => simp [intOf]; omega
          · have yc := yr.cell 5 rfl
            have yf := yr.free 5
            go_wp2
            go_roundw
            case rel => exact ⟨k + 1, by omega, by go_num, HN.out 5 rfl yr0, zN 5, HB 5⟩
            case measure => simp [intOf]; omega
          · have yc := yr.cell 6 rfl
            have yf := yr.free 6
            go_wp2
            go_roundw
            case rel => exact ⟨k + 1, by omega, by go_num, HN.out 6 rfl yr0, zN 6, HB 6⟩
            case measure => simp [intOf]; omega
          · have yc := yr.cell 7 rfl
            have yf := yr.free 7
            go_wp2
            go_roundw
            case rel => exact ⟨k + 1, by omega, by go_num, HN.out 7 rfl yr0, zN 7, HB 7⟩
            case measure => simp [intOf]; omega
        · have d7 : decide (x ≤ 7) = false := by simpa using h7
          have HN : Hid (t.mix (l.take (k + 1)) = t.mix (l.take k)) := Lib.hid (by rw [HX.out]; exact put_out _ _ (fun h => h7 h.2))
          go_wp2
          go_roundw
          case rel => exact ⟨k + 1, by omega, by go_num, by rw [HN.out]; exact yr, zr, Hr⟩
          case measure => simp [intOf]; omega
      · have d1 : decide (1 ≤ x) = false := by simpa using h1
        have HN : Hid (t.mix (l.take (k + 1)) = t.mix (l.take k)) := Lib.hid (by rw [HX.out]; exact put_out _ _ (fun h => h1 h.1))
        go_wp2
        go_roundw
        case rel => exact ⟨k + 1, by omega, by go_num, by rw [HN.out]; exact yr, zr, Hr⟩
        case measure => simp [intOf]; omega
    · obtain rfl : k = l.length := by omega
      rw [HML.out] at yr
      go_wp2_with (first | (refine wpList_load_row rfl 54 (.tmp 2) (by rfl) w.heap.size (by rfl) 54 _ (0, 0) _ yr Tryd.underlying54 (by rfl) (by exact infoTrk) ?_) | (refine wpList_store_row rfl 54 (.tmp 4) (.tmp 23) (by rfl) (w.heap.size + 1) _ (by rfl) (by rfl) 54 _ zr (by exact infoTrk) (by rfl) (Trk.one _) ?_))
      exact bodyPost_ret (v := trkV (t.mix l)) (results_cell_row (by rfl) _ _ (w.heap.size + 1) 54 _ (0, 0) _ (by rfl) (setRow_heap _ _ _ _ _ _ zr) Tryd.underlying54 (by rfl) (by exact infoTrk)) rfl ⟨by rw [hT], Bl.setRow Hr (by omega) _⟩
end Go.Proofs.YtelloecgdiocoaaDoor
