/- Walk: undertonelaw09.LevelGrows. -/
import Derived.Test.YtelloecgdiocoaaDoorL9g
import Derived.Deep.RegionHeld3
import Derived.Deep.DeepCutAuto
import Derived.Lib.QuietBelow
set_option linter.unusedSimpArgs false
set_option linter.unusedVariables false
namespace Go.Proofs.YtelloecgdiocoaaDoor
open Go.RowKit Go.Sort

section
variable {W w5 : World} {T : TypeId}
theorem boxA (h : Bl (W.alloc (.cells #[.int .i64 0, .int .i64 0] T)) w5) : BoxAt w5 W.heap.size [.int .i64 0, .int .i64 0] T := (BoxAt.new W #[.int .i64 0, .int .i64 0] T).bl h
theorem boxAA (h : Bl ((W.alloc (.cells #[.int .i64 0, .int .i64 0] T)).alloc (.cells #[.int .i64 0, .int .i64 0] T)) w5) : BoxAt w5 W.heap.size [.int .i64 0, .int .i64 0] T := ((BoxAt.new W #[.int .i64 0, .int .i64 0] T).alloc _).bl h
theorem boxAD (h : Bl (W.alloc (.cells #[.int .i64 0, .int .i64 0] T)).drew w5) : BoxAt w5 W.heap.size [.int .i64 0, .int .i64 0] T := (BoxAt.new W #[.int .i64 0, .int .i64 0] T).drew.bl h
theorem boxAAD (h : Bl ((W.alloc (.cells #[.int .i64 0, .int .i64 0] T)).alloc (.cells #[.int .i64 0, .int .i64 0] T)).drew w5) : BoxAt w5 W.heap.size [.int .i64 0, .int .i64 0] T := ((BoxAt.new W #[.int .i64 0, .int .i64 0] T).alloc _).drew.bl h
theorem unalD {o : Obj} (h : Bl (W.alloc o).drew w5) : Bl W.drew w5 := ⟨h.os, h.tape, h.output, Nat.le_trans (by show W.heap.size ≤ (W.alloc o).heap.size; rw [size_alloc]; omega) h.size, fun k hk => (h.block k (by show k < (W.alloc o).heap.size; rw [size_alloc]; exact Nat.lt_succ_of_lt hk)).trans (Below.heap_alloc W o k hk)⟩
theorem unalD2 {o o' : Obj} (h : Bl ((W.alloc o).alloc o').drew w5) : Bl W.drew w5 := unalD (unalD h)
theorem BoxAt.set2 {B : Nat} {p q : Value} (h : BoxAt W B [p, q] T) (a b : Value) : BoxAt ((W.setCell ⟨B, 0, none⟩ a).setCell ⟨B, 1, none⟩ b) B [a, b] T := (h.set 0 a).set 1 b
theorem unal {o : Obj} (h : Bl (W.alloc o) w5) : Bl W w5 := ((Bl.refl W).alloc o).trans h
theorem unal2 {o o' : Obj} (h : Bl ((W.alloc o).alloc o') w5) : Bl W w5 := (((Bl.refl W).alloc o).alloc o').trans h
theorem newA2 (W : World) (p q : Value) : BoxAt (W.alloc (.cells #[p, q] T)) W.heap.size [p, q] T := BoxAt.new W #[p, q] T
theorem newS2 (W : World) (c d : Addr) (x y p q : Value) : BoxAt (((W.setCell c x).setCell d y).alloc (.cells #[p, q] T)) W.heap.size [p, q] T := by
  have := BoxAt.new (T := T) ((W.setCell c x).setCell d y) #[p, q]
  rwa [show ((W.setCell c x).setCell d y).heap.size = W.heap.size by simp only [World.setCell, Array.size_modify]] at this
theorem newAA2 (W : World) (o : Obj) (p q : Value) : BoxAt ((W.alloc o).alloc (.cells #[p, q] T)) (W.heap.size + 1) [p, q] T := by
  have := BoxAt.new (T := T) (W.alloc o) #[p, q]
  rwa [size_alloc] at this
end

theorem ofA_mono (t : Trk) (l : List Int) (f : Int) : t.ofA f ≤ (t.mix l).ofA f := by
  rw [mix_all]
  obtain ⟨t0, t1, t2, t3, t4, t5, t6, t7, tl0, tl1⟩ := t
  simp only [Trk.ofA, Trk.auth]
  generalize l.contains 4 = c4
  generalize l.contains 5 = c5
  generalize l.contains 6 = c6
  by_cases hf : f = 0 ∨ f = 1
  · simp only [if_pos hf]
    by_cases h0 : f = 0
    · simp only [if_pos h0]
      cases t5 <;> cases c5 <;> cases t6 <;> cases c6 <;> simp
    · simp only [if_neg h0]
      cases t4 <;> cases c4 <;> cases t6 <;> cases c6 <;> simp
  · simp only [if_neg hf]
    exact Int.le_refl 0
theorem sentG0 (t : Trk) (f : Int) (hf : f = 0) (w : World) : Calls Tryd.prog 27 #[trkV t, .int .i64 f] w fun e w' => e = .returned (trkV ⟨t.m0, t.m1, t.m2, t.m3, t.m4, t.m5, t.m6, t.m7, t.ofA f, t.l1⟩) ∧ Bl w w' := by
  have := sent_any t f w
  subst hf
  rw [show t.sent 0 = ⟨t.m0, t.m1, t.m2, t.m3, t.m4, t.m5, t.m6, t.m7, t.ofA 0, t.l1⟩ by simp [Trk.sent, Trk.ofA]] at this
  exact this
theorem sentG1 (t : Trk) (f : Int) (hf : f = 1) (w : World) : Calls Tryd.prog 27 #[trkV t, .int .i64 f] w fun e w' => e = .returned (trkV ⟨t.m0, t.m1, t.m2, t.m3, t.m4, t.m5, t.m6, t.m7, t.l0, t.ofA f⟩) ∧ Bl w w' := by
  have := sent_any t f w
  subst hf
  rw [show t.sent 1 = ⟨t.m0, t.m1, t.m2, t.m3, t.m4, t.m5, t.m6, t.m7, t.l0, t.ofA 1⟩ by simp [Trk.sent, Trk.ofA]] at this
  exact this
theorem sentGn (t : Trk) (f : Int) (hf : ¬(f = 0 ∨ f = 1)) (w : World) : Calls Tryd.prog 27 #[trkV t, .int .i64 f] w fun e w' => e = .returned (trkV t) ∧ Bl w w' := by
  have := sent_any t f w
  rw [show t.sent f = t by unfold Trk.sent; rw [if_neg (fun h => hf (.inl h)), if_neg (fun h => hf (.inr h))]] at this
  exact this
theorem reachG (a b : Int) (w : World) : Calls Tryd.prog 28 #[.agg #[.int .i64 a, .int .i64 b], .agg #[.int .i64 a, .int .i64 b]] w fun e w' => e = .returned (.bool true) ∧ Bl w w' := by
  have := reach_any a b a b w
  simpa using this

set_option maxRecDepth 100000 in
set_option maxHeartbeats 8000000 in
theorem levelGrows_any (t : Trk) (v : Value) (l : List Int) (f : Int) (w : World) (hE : EnvB w) (hv : SI w v l) :
    Calls Tryd.prog 5 #[trkV t, v, .int .i64 f] w fun e w' => e = .returned (.bool true) ∧ Bl w w' := by
  have hq2 := eqI2
  have hqB := eqB8
  have hqT := eqTrk
  have hqL := eqLev
  obtain ⟨a, c, rfl⟩ := hv.form
  have hl := hv.len
  have x : BoxAt _ _ t.cells _ := BoxAt.new w t.cells.toArray 54
  have H : Bl w (w.alloc (.cells t.cells.toArray 54)) := (Bl.refl w).alloc _
  have cO := fun w => of_any' t f w
  have cM := fun w h => mix_any t (.slice a l.length c) l w h
  have hmono := ofA_mono t l f
  have hz : ¬(f = 0 ∨ f = 1) → t.ofA f = 0 ∧ t.ofC f = 0 := fun h => ⟨by rw [Trk.ofA, if_neg h], by rw [Trk.ofC, if_neg h]⟩
  have cS0 := sentG0 t f
  have cS1 := sentG1 t f
  have cSn := sentGn t f
  generalize hm : t.mix l = m at *
  have HMX := Lib.hid hm
  clear hm
  have cO2 := fun w => of_any' m f w
  have HAA := Lib.hid (rfl : t.ofA f = t.ofA f)
  generalize hA0 : t.ofA f = A0 at *
  generalize hA1 : t.ofC f = A1 at *
  generalize hB0 : m.ofA f = B0 at *
  generalize hB1 : m.ofC f = B1 at *
  have HA0 := Lib.hid hA0
  have HA1 := Lib.hid hA1
  have HB0 := Lib.hid hB0
  have HB1 := Lib.hid hB1
  clear hA0 hA1 hB0 hB1 HAA
  have HMONO := Lib.hid hmono
  have HZ := Lib.hid hz
  clear hmono hz
  obtain ⟨t0, t1, t2, t3, t4, t5, t6, t7, tl0, tl1⟩ := t
  obtain ⟨m0, m1, m2, m3, m4, m5, m6, m7, ml0, ml1⟩ := m
  simp only [trkV_eq] at cO cM cO2 cS0 cS1 cSn
  have HS0 := Lib.hid cS0
  have HS1 := Lib.hid cS1
  have HSn := Lib.hid cSn
  clear cS0 cS1 cSn
  unfold levV at cO cO2
  rw [trkV_eq]
  go_enter Tryd.func5, Tryd.ntmps5
  simp only [Trk.cells] at x H
  by_cases h30 : 30 < l.length
  · have d : decide ((30 : Int) < (l.length : Int)) = true := by simp; omega
    go_wp2_with fail
    refine (awake9_any _ (hE.bl H)).mono ?_
    rintro e w3 ⟨rfl, hb3⟩
    go_wp2
    go_ret
    exact ⟨rfl, H.trans hb3⟩
  · have d : decide ((30 : Int) < (l.length : Int)) = false := by simp; omega
    go_upto_region 3 with fail
    generalize w.alloc (.cells #[.bool t0, .bool t1, .bool t2, .bool t3, .bool t4, .bool t5, .bool t6, .bool t7, .int .i64 tl0, .int .i64 tl1] 54) = W at *
    go_cut [7, 8] from 14 to 22 (fun p q wx => ∃ n7 n8 : Nat, p = .pointer (some ⟨n7, 0, none⟩) ∧ q = .pointer (some ⟨n8, 0, none⟩) ∧ BoxAt wx n7 [.int .i64 A0, .int .i64 A1] 37 ∧ BoxAt wx n8 [.int .i64 B0, .int .i64 B1] 37 ∧ n7 ≠ n8 ∧
      BoxAt wx w.heap.size [.bool t0, .bool t1, .bool t2, .bool t3, .bool t4, .bool t5, .bool t6, .bool t7, .int .i64 tl0, .int .i64 tl1] 54 ∧ Bl w wx)
    case first =>
      have HD : Bl w W.drew := H.drew
      have xD := x.drew
      have lx0 := x.lt
      have sB : ∀ wx : World, Bl w wx → BoxAt wx w.heap.size [.bool t0, .bool t1, .bool t2, .bool t3, .bool t4, .bool t5, .bool t6, .bool t7, .int .i64 tl0, .int .i64 tl1] 54 → (wx.cell? ⟨w.heap.size, 0, none⟩ = some (.bool t0) ∧ wx.cell? ⟨w.heap.size, 1, none⟩ = some (.bool t1) ∧ wx.cell? ⟨w.heap.size, 2, none⟩ = some (.bool t2) ∧ wx.cell? ⟨w.heap.size, 3, none⟩ = some (.bool t3) ∧ wx.cell? ⟨w.heap.size, 4, none⟩ = some (.bool t4) ∧ wx.cell? ⟨w.heap.size, 5, none⟩ = some (.bool t5) ∧ wx.cell? ⟨w.heap.size, 6, none⟩ = some (.bool t6) ∧ wx.cell? ⟨w.heap.size, 7, none⟩ = some (.bool t7) ∧ wx.cell? ⟨w.heap.size, 8, none⟩ = some (.int .i64 tl0) ∧ wx.cell? ⟨w.heap.size, 9, none⟩ = some (.int .i64 tl1) ∧ (BoxAt wx w.heap.size [.bool t0, .bool t1, .bool t2, .bool t3, .bool t4, .bool t5, .bool t6, .bool t7, .int .i64 tl0, .int .i64 tl1] 54 ∧ Bl w wx)) := fun wx hb hx => ⟨hx.cell 0 rfl, hx.cell 1 rfl, hx.cell 2 rfl, hx.cell 3 rfl, hx.cell 4 rfl, hx.cell 5 rfl, hx.cell 6 rfl, hx.cell 7 rfl, hx.cell 8 rfl, hx.cell 9 rfl, hx, hb⟩
      go_region_held3 (fun wx : World => wx.cell? ⟨w.heap.size, 0, none⟩ = some (.bool t0) ∧ wx.cell? ⟨w.heap.size, 1, none⟩ = some (.bool t1) ∧ wx.cell? ⟨w.heap.size, 2, none⟩ = some (.bool t2) ∧ wx.cell? ⟨w.heap.size, 3, none⟩ = some (.bool t3) ∧ wx.cell? ⟨w.heap.size, 4, none⟩ = some (.bool t4) ∧ wx.cell? ⟨w.heap.size, 5, none⟩ = some (.bool t5) ∧ wx.cell? ⟨w.heap.size, 6, none⟩ = some (.bool t6) ∧ wx.cell? ⟨w.heap.size, 7, none⟩ = some (.bool t7) ∧ wx.cell? ⟨w.heap.size, 8, none⟩ = some (.int .i64 tl0) ∧ wx.cell? ⟨w.heap.size, 9, none⟩ = some (.int .i64 tl1) ∧ (BoxAt wx w.heap.size [.bool t0, .bool t1, .bool t2, .bool t3, .bool t4, .bool t5, .bool t6, .bool t7, .int .i64 tl0, .int .i64 tl1] 54 ∧ Bl w wx))
        (with_reducible exact sB _ (by (repeat' (first | with_reducible exact H6 | with_reducible exact H5 | with_reducible exact H4 | with_reducible exact H | with_reducible refine Bl.drew ?_ | with_reducible refine Bl.alloc ?_ _ | with_reducible refine Bl.setCell ?_ (by dsimp only; omega) _))) (by (repeat' (first | with_reducible exact x6 | with_reducible exact x5 | with_reducible exact x4 | with_reducible exact x | with_reducible refine BoxAt.drew ?_ | with_reducible refine BoxAt.alloc ?_ _ | with_reducible refine BoxAt.other ?_ (by dsimp only; omega) _))))
        (first
          | (go_at_call 25; with_reducible refine (cO _).mono ?_; rintro e w4 ⟨rfl, hb4⟩; have t4 : Bl W.drew w4 := (by first | with_reducible exact hb4 | with_reducible exact unalD hb4 | with_reducible exact unalD2 hb4); have H4 := HD.trans t4; have x4 := xD.bl t4; have lx4 := x4.lt; (try with_reducible have za4 := boxAD hb4); (try with_reducible have zb4 := boxAAD hb4); (try simp only [size_alloc] at za4); (try have l4a := za4.lt))
          | ((go_at_call 26; first | (with_reducible refine (cM _ (hv.bl H4)).mono ?_; rintro e w5 ⟨rfl, hb5⟩) | (with_reducible refine (cM _ (hv.bl (H4.alloc _))).mono ?_; rintro e w5 ⟨rfl, hb5⟩) | (with_reducible refine (cM _ (hv.bl ((H4.alloc _).alloc _))).mono ?_; rintro e w5 ⟨rfl, hb5⟩)); have t5 : Bl w4 w5 := (by first | with_reducible exact hb5 | with_reducible exact unal hb5 | with_reducible exact unal2 hb5); have H5 := H4.trans t5; have x5 := x4.bl t5; have lx5 := x5.lt; (try with_reducible have za5 := boxA hb5); (try with_reducible have zb5 := boxAA hb5); (try simp only [size_alloc] at za5); (try have l5a := za5.lt); (try have za4 := za4.bl t5); (try have l54 := za4.lt); (try have zb4 := zb4.bl t5))
          | (go_at_call 25; with_reducible refine (cO2 _).mono ?_; rintro e w6 ⟨rfl, hb6⟩; have t6 : Bl w5 w6 := (by first | with_reducible exact hb6 | with_reducible exact unal hb6 | with_reducible exact unal2 hb6); have H6 := H5.trans t6; have x6 := x5.bl t6; have lx6 := x6.lt; (try with_reducible have za6 := boxA hb6); (try with_reducible have zb6 := boxAA hb6); (try simp only [size_alloc] at za6); (try have za4 := za4.bl t6); (try have zb4 := zb4.bl t6); (try have za5 := za5.bl t6); (try have zb5 := zb5.bl t6); (try (have cea4 := za4.cell 0 rfl; have cfa4 := za4.cell 1 rfl; have fea4 := za4.free 0; have ffa4 := za4.free 1; have lta4 := za4.lt)); (try (have ceb4 := zb4.cell 0 rfl; have cfb4 := zb4.cell 1 rfl; have feb4 := zb4.free 0; have ffb4 := zb4.free 1; have ltb4 := zb4.lt)); (try (have cea5 := za5.cell 0 rfl; have cfa5 := za5.cell 1 rfl; have fea5 := za5.free 0; have ffa5 := za5.free 1; have lta5 := za5.lt)); (try (have ceb5 := zb5.cell 0 rfl; have cfb5 := zb5.cell 1 rfl; have feb5 := zb5.free 0; have ffb5 := zb5.free 1; have ltb5 := zb5.lt)); (try (have cea6 := za6.cell 0 rfl; have cfa6 := za6.cell 1 rfl; have fea6 := za6.free 0; have ffa6 := za6.free 1; have lta6 := za6.lt)); (try (have ceb6 := zb6.cell 0 rfl; have cfb6 := zb6.cell 1 rfl; have feb6 := zb6.free 0; have ffb6 := zb6.free 1; have ltb6 := zb6.lt)); (try have ne01 : W.heap.size ≠ w4.heap.size := by omega); (try have ne02 : W.heap.size ≠ w5.heap.size := by omega); (try have ne03 : W.heap.size ≠ w6.heap.size := by omega); (try have ne10 : w4.heap.size ≠ W.heap.size := by omega); (try have ne12 : w4.heap.size ≠ w5.heap.size := by omega); (try have ne13 : w4.heap.size ≠ w6.heap.size := by omega); (try have ne20 : w5.heap.size ≠ W.heap.size := by omega); (try have ne21 : w5.heap.size ≠ w4.heap.size := by omega); (try have ne23 : w5.heap.size ≠ w6.heap.size := by omega); (try have ne30 : w6.heap.size ≠ W.heap.size := by omega); (try have ne31 : w6.heap.size ≠ w4.heap.size := by omega); (try have ne32 : w6.heap.size ≠ w5.heap.size := by omega)))
      all_goals
        go_wp2_with fail
        go_meet
        refine ⟨_, _, rfl, rfl, ?fa, ?fb, ?fc, ?fd, ?fe⟩
        case fa => repeat' (first | with_reducible assumption | with_reducible exact newA2 _ _ _ | with_reducible exact newS2 _ _ _ _ _ _ _ | with_reducible exact newAA2 _ _ _ _ | with_reducible refine BoxAt.set2 (p := .int .i64 0) (q := .int .i64 0) ?_ _ _ | with_reducible refine BoxAt.alloc ?_ _ | with_reducible refine BoxAt.other ?_ (by dsimp only; omega) _)
        case fb => repeat' (first | with_reducible assumption | with_reducible exact newA2 _ _ _ | with_reducible exact newS2 _ _ _ _ _ _ _ | with_reducible exact newAA2 _ _ _ _ | with_reducible refine BoxAt.set2 (p := .int .i64 0) (q := .int .i64 0) ?_ _ _ | with_reducible refine BoxAt.alloc ?_ _ | with_reducible refine BoxAt.other ?_ (by dsimp only; omega) _)
        case fc => first | omega | assumption
        case fd => repeat' (first | with_reducible exact x6 | with_reducible refine BoxAt.alloc ?_ _ | with_reducible refine BoxAt.other ?_ (by dsimp only; omega) _)
        case fe => repeat' (first | with_reducible exact H6 | with_reducible refine Bl.alloc ?_ _ | with_reducible refine Bl.setCell ?_ (by dsimp only; omega) _)
    case rest =>
      obtain ⟨n7, n8, rfl, rfl, y7, y8, hne, x9, H9⟩ := hcut
      clear cO cM cO2 hne
      have cR := reachG A0 A1
      have dAB : decide (A0 ≤ B0) = true := decide_eq_true HMONO.out
      by_cases hf : f = 0 ∨ f = 1
      · rcases hf with rfl | rfl
        · have cS := HS0.out rfl
          obtain ⟨⟨g0, g1, g2, g3, g4⟩, g5, g6, g7, g8, g9⟩ : (_ ∧ _ ∧ _ ∧ _ ∧ _) ∧ _ ∧ _ ∧ _ ∧ _ ∧ _ := ⟨⟨x9.cell 0 rfl, x9.cell 1 rfl, x9.cell 2 rfl, x9.cell 3 rfl, x9.cell 4 rfl⟩, x9.cell 5 rfl, x9.cell 6 rfl, x9.cell 7 rfl, x9.cell 8 rfl, x9.cell 9 rfl⟩
          go_wp2_with fail
          refine (cS _).mono ?_
          rintro e w5 ⟨rfl, hb5⟩
          clear g0 g1 g2 g3 g4 g5 g6 g7 g8 g9
          have z := BoxAt.new w5 #[.bool t0, .bool t1, .bool t2, .bool t3, .bool t4, .bool t5, .bool t6, .bool t7, .int .i64 A0, .int .i64 tl1] 54
          have y7a := (y7.bl hb5).alloc (.cells #[.bool t0, .bool t1, .bool t2, .bool t3, .bool t4, .bool t5, .bool t6, .bool t7, .int .i64 A0, .int .i64 tl1] 54)
          have y8a := (y8.bl hb5).alloc (.cells #[.bool t0, .bool t1, .bool t2, .bool t3, .bool t4, .bool t5, .bool t6, .bool t7, .int .i64 A0, .int .i64 tl1] 54)
          have xa := (x9.bl hb5).alloc (.cells #[.bool t0, .bool t1, .bool t2, .bool t3, .bool t4, .bool t5, .bool t6, .bool t7, .int .i64 A0, .int .i64 tl1] 54)
          have Ha := (H9.trans hb5).alloc (.cells #[.bool t0, .bool t1, .bool t2, .bool t3, .bool t4, .bool t5, .bool t6, .bool t7, .int .i64 A0, .int .i64 tl1] 54)
          clear x9 y7 y8 H9 hb5
          go_upto_region 7 with fail
          generalize w5.alloc (.cells #[.bool t0, .bool t1, .bool t2, .bool t3, .bool t4, .bool t5, .bool t6, .bool t7, .int .i64 A0, .int .i64 tl1] 54) = W5 at *
          generalize w5.heap.size = B9 at *
          have p0 := cell_regrown (xa.cell 0 rfl)
          have p1 := cell_regrown (xa.cell 1 rfl)
          have p2 := cell_regrown (xa.cell 2 rfl)
          have p3 := cell_regrown (xa.cell 3 rfl)
          have p4 := cell_regrown (xa.cell 4 rfl)
          have p5 := cell_regrown (xa.cell 5 rfl)
          have p6 := cell_regrown (xa.cell 6 rfl)
          have p7 := cell_regrown (xa.cell 7 rfl)
          have p8 := cell_regrown (xa.cell 8 rfl)
          have p9 := cell_regrown (xa.cell 9 rfl)
          have q0 := cell_regrown (z.cell 0 rfl)
          have q1 := cell_regrown (z.cell 1 rfl)
          have q2 := cell_regrown (z.cell 2 rfl)
          have q3 := cell_regrown (z.cell 3 rfl)
          have q4 := cell_regrown (z.cell 4 rfl)
          have q5 := cell_regrown (z.cell 5 rfl)
          have q6 := cell_regrown (z.cell 6 rfl)
          have q7 := cell_regrown (z.cell 7 rfl)
          have q8 := cell_regrown (z.cell 8 rfl)
          have q9 := cell_regrown (z.cell 9 rfl)
          have r0 := cell_regrown (y7a.cell 0 rfl)
          have r1 := cell_regrown (y7a.cell 1 rfl)
          have s0 := cell_regrown (y8a.cell 0 rfl)
          have s1 := cell_regrown (y8a.cell 1 rfl)
          refine wp_region_quiet_below (by kernel_rfl) (by kernel_rfl) ?_
          repeat (go_big_quiet_step ((first
            | (go_at_call 28; with_reducible exact Calls.regrown_of (cR _))
            | (go_at_call 19; with_reducible exact Calls.regrown_of (awake9_any _ (hE.bl (Ha.trans (below_regrown W5 _ _))))))))
          refine wpQuiet_nil ?_
          intro wq hwq
          obtain ⟨pq, rfl⟩ := hwq
          have hbq := below_regrown W5 pq.d pq.os
          go_wp2
          go_ret
          exact ⟨rfl, Ha.trans hbq⟩
        · have cS := HS1.out rfl
          obtain ⟨⟨g0, g1, g2, g3, g4⟩, g5, g6, g7, g8, g9⟩ : (_ ∧ _ ∧ _ ∧ _ ∧ _) ∧ _ ∧ _ ∧ _ ∧ _ ∧ _ := ⟨⟨x9.cell 0 rfl, x9.cell 1 rfl, x9.cell 2 rfl, x9.cell 3 rfl, x9.cell 4 rfl⟩, x9.cell 5 rfl, x9.cell 6 rfl, x9.cell 7 rfl, x9.cell 8 rfl, x9.cell 9 rfl⟩
          go_wp2_with fail
          refine (cS _).mono ?_
          rintro e w5 ⟨rfl, hb5⟩
          clear g0 g1 g2 g3 g4 g5 g6 g7 g8 g9
          have z := BoxAt.new w5 #[.bool t0, .bool t1, .bool t2, .bool t3, .bool t4, .bool t5, .bool t6, .bool t7, .int .i64 tl0, .int .i64 A0] 54
          have y7a := (y7.bl hb5).alloc (.cells #[.bool t0, .bool t1, .bool t2, .bool t3, .bool t4, .bool t5, .bool t6, .bool t7, .int .i64 tl0, .int .i64 A0] 54)
          have y8a := (y8.bl hb5).alloc (.cells #[.bool t0, .bool t1, .bool t2, .bool t3, .bool t4, .bool t5, .bool t6, .bool t7, .int .i64 tl0, .int .i64 A0] 54)
          have xa := (x9.bl hb5).alloc (.cells #[.bool t0, .bool t1, .bool t2, .bool t3, .bool t4, .bool t5, .bool t6, .bool t7, .int .i64 tl0, .int .i64 A0] 54)
          have Ha := (H9.trans hb5).alloc (.cells #[.bool t0, .bool t1, .bool t2, .bool t3, .bool t4, .bool t5, .bool t6, .bool t7, .int .i64 tl0, .int .i64 A0] 54)
          clear x9 y7 y8 H9 hb5
          go_upto_region 7 with fail
          generalize w5.alloc (.cells #[.bool t0, .bool t1, .bool t2, .bool t3, .bool t4, .bool t5, .bool t6, .bool t7, .int .i64 tl0, .int .i64 A0] 54) = W5 at *
          generalize w5.heap.size = B9 at *
          have p0 := cell_regrown (xa.cell 0 rfl)
          have p1 := cell_regrown (xa.cell 1 rfl)
          have p2 := cell_regrown (xa.cell 2 rfl)
          have p3 := cell_regrown (xa.cell 3 rfl)
          have p4 := cell_regrown (xa.cell 4 rfl)
          have p5 := cell_regrown (xa.cell 5 rfl)
          have p6 := cell_regrown (xa.cell 6 rfl)
          have p7 := cell_regrown (xa.cell 7 rfl)
          have p8 := cell_regrown (xa.cell 8 rfl)
          have p9 := cell_regrown (xa.cell 9 rfl)
          have q0 := cell_regrown (z.cell 0 rfl)
          have q1 := cell_regrown (z.cell 1 rfl)
          have q2 := cell_regrown (z.cell 2 rfl)
          have q3 := cell_regrown (z.cell 3 rfl)
          have q4 := cell_regrown (z.cell 4 rfl)
          have q5 := cell_regrown (z.cell 5 rfl)
          have q6 := cell_regrown (z.cell 6 rfl)
          have q7 := cell_regrown (z.cell 7 rfl)
          have q8 := cell_regrown (z.cell 8 rfl)
          have q9 := cell_regrown (z.cell 9 rfl)
          have r0 := cell_regrown (y7a.cell 0 rfl)
          have r1 := cell_regrown (y7a.cell 1 rfl)
          have s0 := cell_regrown (y8a.cell 0 rfl)
          have s1 := cell_regrown (y8a.cell 1 rfl)
          refine wp_region_quiet_below (by kernel_rfl) (by kernel_rfl) ?_
          repeat (go_big_quiet_step ((first
            | (go_at_call 28; with_reducible exact Calls.regrown_of (cR _))
            | (go_at_call 19; with_reducible exact Calls.regrown_of (awake9_any _ (hE.bl (Ha.trans (below_regrown W5 _ _))))))))
          refine wpQuiet_nil ?_
          intro wq hwq
          obtain ⟨pq, rfl⟩ := hwq
          have hbq := below_regrown W5 pq.d pq.os
          go_wp2
          go_ret
          exact ⟨rfl, Ha.trans hbq⟩
      · have cS := HSn.out hf
        obtain ⟨hz0, hz1⟩ := HZ.out hf
        subst hz0 hz1
        have d0 : (f != 0) = true := by simp; omega
        have d1 : (f != 1) = true := by simp; omega
        clear hf
        have p0 := cell_regrown (x9.cell 0 rfl)
        have p1 := cell_regrown (x9.cell 1 rfl)
        have p2 := cell_regrown (x9.cell 2 rfl)
        have p3 := cell_regrown (x9.cell 3 rfl)
        have p4 := cell_regrown (x9.cell 4 rfl)
        have p5 := cell_regrown (x9.cell 5 rfl)
        have p6 := cell_regrown (x9.cell 6 rfl)
        have p7 := cell_regrown (x9.cell 7 rfl)
        have p8 := cell_regrown (x9.cell 8 rfl)
        have p9 := cell_regrown (x9.cell 9 rfl)
        have r0 := cell_regrown (y7.cell 0 rfl)
        have r1 := cell_regrown (y7.cell 1 rfl)
        go_upto_region 5 with fail
        refine wp_region_quiet_below (by kernel_rfl) (by kernel_rfl) ?_
        repeat (go_big_quiet_step ((first
          | (go_at_call 27; with_reducible exact Calls.regrown_of (cS _))
          | (go_at_call 19; with_reducible exact Calls.regrown_of (awake9_any _ (hE.bl (H9.trans (below_regrown wc _ _))))))))
        refine wpQuiet_nil ?_
        intro wq hwq
        obtain ⟨pq, rfl⟩ := hwq
        have hbq := below_regrown wc pq.d pq.os
        go_wp2
        go_ret
        exact ⟨rfl, H9.trans hbq⟩
end Go.Proofs.YtelloecgdiocoaaDoor
