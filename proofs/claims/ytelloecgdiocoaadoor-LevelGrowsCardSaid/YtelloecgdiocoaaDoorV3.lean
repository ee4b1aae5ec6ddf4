/- Walks: valid's state: token. -/
import Derived.Test.YtelloecgdiocoaaDoorV2
set_option linter.unusedSimpArgs false
set_option linter.unusedVariables false
namespace Go.Proofs.YtelloecgdiocoaaDoor
open Go.RowKit Go.Sort

/-- of the old blocks none but B has turned -/
structure OB (B : Nat) (w w' : World) : Prop where
  below : Below B w w'
  same : ∀ b, b < w.heap.size → b ≠ B → w'.heap[b]? = w.heap[b]?
theorem OB.refl (B : Nat) (w : World) : OB B w w := ⟨Below.refl _ _, fun _ _ _ => rfl⟩
theorem OB.ofBl {B : Nat} {w w' : World} (h : Bl w w') (hB : B < w.heap.size) : OB B w w' := ⟨Below.mono h (Nat.le_of_lt hB), fun b hb _ => Below.block h b hb⟩
theorem OB.set {B : Nat} {w w' : World} (h : OB B w w') (i : Nat) (x : Value) : OB B w (w'.setCell ⟨B, i, none⟩ x) := ⟨Below.setCell h.below (Nat.le_refl _) x, fun b hb hn => by
  rw [← h.same b hb hn]
  simp only [World.setCell, Array.getElem?_modify]
  rw [if_neg (fun e => hn (by simpa using e.symm))]⟩
theorem OB.trans {B : Nat} {w w1 w2 : World} (h : OB B w w1) (k : OB B w1 w2) : OB B w w2 := ⟨Below.trans h.below k.below, fun b hb hn => (k.same b (Nat.lt_of_lt_of_le hb h.below.size) hn).trans (h.same b hb hn)⟩
theorem BoxAt.ob {B C : Nat} {w w' : World} {vs : List Value} {T : TypeId} (h : BoxAt w C vs T) (k : OB B w w') (hn : C ≠ B) : BoxAt w' C vs T := (k.same C h.lt hn).trans h

set_option maxRecDepth 100000 in
set_option maxHeartbeats 4000000 in
theorem tok01_any (s : St) (B : Nat) (w : World) (hb : BoxAt w B (stV s) 106) :
    Calls Tryd.prog 95 #[.pointer (some ⟨B, 0, none⟩), .int .i64 0, .int .i64 1] w fun e w' => e = .returned (.int .i64 (tokS s 0 1).1) ∧ BoxAt w' B (stV (tokS s 0 1).2) 106 ∧ OB B w w' := by
  obtain ⟨z0, e0, s0, z1, e1, s1, m0, m1, m2, m3, m4, m5, m6, m7, mode, keyed⟩ := s
  go_enter Tryd.func95, Tryd.ntmps95
  have c1 := hb.cell 1 rfl
  have hlt := hb.lt
  cases e0
  · go_wp2_with fail
    refine (sealing_any ⟨z0, false, s0, z1, e1, s1, m0, m1, m2, m3, m4, m5, m6, m7, mode, keyed⟩ 0 (.inl rfl) B w hb).mono ?_
    rintro e w1 ⟨rfl, hb1⟩
    have x1 := hb.bl hb1
    have d1 := x1.cell 1 rfl
    have d14 := x1.cell 14 rfl
    have d15 := x1.cell 15 rfl
    have f1 := x1.free 1
    have f15 := x1.free 15
    have hlt1 := x1.lt
    have hbB : OB B w w1 := OB.ofBl hb1 hlt
    generalize hr : sealS ⟨z0, false, s0, z1, e1, s1, m0, m1, m2, m3, m4, m5, m6, m7, mode, keyed⟩ 0 = r
    have HR := Lib.hid hr
    clear hr
    cases keyed
    · go_wp2
      go_ret
      exact ⟨ret_int (by simp [tokS, hasS]), by simpa [tokS, hasS, hasSet, stV] using (x1.set 1 (.bool true)).set 15 (.bool mode), (hbB.set _ _).set _ _⟩
    · go_wp2
      go_ret
      exact ⟨ret_int (by simp [tokS, hasS]), by simpa [tokS, hasS, hasSet, stV] using (x1.set 1 (.bool true)).set 15 (.bool true), (hbB.set _ _).set _ _⟩
  · go_wp2
    go_ret
    exact ⟨rfl, hb, OB.refl _ _⟩

set_option maxRecDepth 100000 in
set_option maxHeartbeats 4000000 in
theorem tok02_any (s : St) (B : Nat) (w : World) (hb : BoxAt w B (stV s) 106) :
    Calls Tryd.prog 95 #[.pointer (some ⟨B, 0, none⟩), .int .i64 0, .int .i64 2] w fun e w' => e = .returned (.int .i64 (tokS s 0 2).1) ∧ BoxAt w' B (stV (tokS s 0 2).2) 106 ∧ OB B w w' := by
  obtain ⟨z0, e0, s0, z1, e1, s1, m0, m1, m2, m3, m4, m5, m6, m7, mode, keyed⟩ := s
  go_enter Tryd.func95, Tryd.ntmps95
  have c2 := hb.cell 2 rfl
  have hlt := hb.lt
  cases s0
  · go_wp2_with fail
    refine (sealing_any ⟨z0, e0, false, z1, e1, s1, m0, m1, m2, m3, m4, m5, m6, m7, mode, keyed⟩ 0 (.inl rfl) B w hb).mono ?_
    rintro e w1 ⟨rfl, hb1⟩
    have x1 := hb.bl hb1
    have d2 := x1.cell 2 rfl
    have d14 := x1.cell 14 rfl
    have d15 := x1.cell 15 rfl
    have f2 := x1.free 2
    have f15 := x1.free 15
    have hlt1 := x1.lt
    have hbB : OB B w w1 := OB.ofBl hb1 hlt
    generalize hr : sealS ⟨z0, e0, false, z1, e1, s1, m0, m1, m2, m3, m4, m5, m6, m7, mode, keyed⟩ 0 = r
    have HR := Lib.hid hr
    clear hr
    cases keyed
    · go_wp2
      go_ret
      exact ⟨ret_int (by simp [tokS, hasS]), by simpa [tokS, hasS, hasSet, stV] using (x1.set 2 (.bool true)).set 15 (.bool false), (hbB.set _ _).set _ _⟩
    · by_cases h0 : 0 < r
      · have hd : decide (0 < r) = true := by simpa using h0
        go_wp2
        go_ret
        exact ⟨ret_int (by simp [tokS, hasS, HR.out, (show 0 < r by omega)]), by simpa [tokS, hasS, HR.out, (show 0 < r by omega)] using x1, hbB⟩
      · have hd : decide (0 < r) = false := by simpa using h0
        go_wp2
        go_ret
        exact ⟨ret_int (by simp [tokS, hasS, HR.out, (show ¬ 0 < r by omega)]), by simpa [tokS, hasS, hasSet, stV, HR.out, (show ¬ 0 < r by omega)] using (x1.set 2 (.bool true)).set 15 (.bool true), (hbB.set _ _).set _ _⟩
  · go_wp2
    go_ret
    exact ⟨rfl, hb, OB.refl _ _⟩

set_option maxRecDepth 100000 in
set_option maxHeartbeats 4000000 in
theorem tok11_any (s : St) (B : Nat) (w : World) (hb : BoxAt w B (stV s) 106) :
    Calls Tryd.prog 95 #[.pointer (some ⟨B, 0, none⟩), .int .i64 1, .int .i64 1] w fun e w' => e = .returned (.int .i64 (tokS s 1 1).1) ∧ BoxAt w' B (stV (tokS s 1 1).2) 106 ∧ OB B w w' := by
  obtain ⟨z0, e0, s0, z1, e1, s1, m0, m1, m2, m3, m4, m5, m6, m7, mode, keyed⟩ := s
  go_enter Tryd.func95, Tryd.ntmps95
  have c4 := hb.cell 4 rfl
  have hlt := hb.lt
  cases e1
  · go_wp2_with fail
    refine (sealing_any ⟨z0, e0, s0, z1, false, s1, m0, m1, m2, m3, m4, m5, m6, m7, mode, keyed⟩ 1 (.inr rfl) B w hb).mono ?_
    rintro e w1 ⟨rfl, hb1⟩
    have x1 := hb.bl hb1
    have d4 := x1.cell 4 rfl
    have d14 := x1.cell 14 rfl
    have d15 := x1.cell 15 rfl
    have f4 := x1.free 4
    have f15 := x1.free 15
    have hlt1 := x1.lt
    have hbB : OB B w w1 := OB.ofBl hb1 hlt
    generalize hr : sealS ⟨z0, e0, s0, z1, false, s1, m0, m1, m2, m3, m4, m5, m6, m7, mode, keyed⟩ 1 = r
    have HR := Lib.hid hr
    clear hr
    cases keyed
    · go_wp2
      go_ret
      exact ⟨ret_int (by simp [tokS, hasS]), by simpa [tokS, hasS, hasSet, stV] using (x1.set 4 (.bool true)).set 15 (.bool mode), (hbB.set _ _).set _ _⟩
    · go_wp2
      go_ret
      exact ⟨ret_int (by simp [tokS, hasS]), by simpa [tokS, hasS, hasSet, stV] using (x1.set 4 (.bool true)).set 15 (.bool true), (hbB.set _ _).set _ _⟩
  · go_wp2
    go_ret
    exact ⟨rfl, hb, OB.refl _ _⟩

set_option maxRecDepth 100000 in
set_option maxHeartbeats 4000000 in
theorem tok12_any (s : St) (B : Nat) (w : World) (hb : BoxAt w B (stV s) 106) :
    Calls Tryd.prog 95 #[.pointer (some ⟨B, 0, none⟩), .int .i64 1, .int .i64 2] w fun e w' => e = .returned (.int .i64 (tokS s 1 2).1) ∧ BoxAt w' B (stV (tokS s 1 2).2) 106 ∧ OB B w w' := by
  obtain ⟨z0, e0, s0, z1, e1, s1, m0, m1, m2, m3, m4, m5, m6, m7, mode, keyed⟩ := s
  go_enter Tryd.func95, Tryd.ntmps95
  have c5 := hb.cell 5 rfl
  have hlt := hb.lt
  cases s1
  · go_wp2_with fail
    refine (sealing_any ⟨z0, e0, s0, z1, e1, false, m0, m1, m2, m3, m4, m5, m6, m7, mode, keyed⟩ 1 (.inr rfl) B w hb).mono ?_
    rintro e w1 ⟨rfl, hb1⟩
    have x1 := hb.bl hb1
    have d5 := x1.cell 5 rfl
    have d14 := x1.cell 14 rfl
    have d15 := x1.cell 15 rfl
    have f5 := x1.free 5
    have f15 := x1.free 15
    have hlt1 := x1.lt
    have hbB : OB B w w1 := OB.ofBl hb1 hlt
    generalize hr : sealS ⟨z0, e0, s0, z1, e1, false, m0, m1, m2, m3, m4, m5, m6, m7, mode, keyed⟩ 1 = r
    have HR := Lib.hid hr
    clear hr
    cases keyed
    · go_wp2
      go_ret
      exact ⟨ret_int (by simp [tokS, hasS]), by simpa [tokS, hasS, hasSet, stV] using (x1.set 5 (.bool true)).set 15 (.bool false), (hbB.set _ _).set _ _⟩
    · by_cases h0 : 0 < r
      · have hd : decide (0 < r) = true := by simpa using h0
        go_wp2
        go_ret
        exact ⟨ret_int (by simp [tokS, hasS, HR.out, (show 0 < r by omega)]), by simpa [tokS, hasS, HR.out, (show 0 < r by omega)] using x1, hbB⟩
      · have hd : decide (0 < r) = false := by simpa using h0
        go_wp2
        go_ret
        exact ⟨ret_int (by simp [tokS, hasS, HR.out, (show ¬ 0 < r by omega)]), by simpa [tokS, hasS, hasSet, stV, HR.out, (show ¬ 0 < r by omega)] using (x1.set 5 (.bool true)).set 15 (.bool true), (hbB.set _ _).set _ _⟩
  · go_wp2
    go_ret
    exact ⟨rfl, hb, OB.refl _ _⟩
end Go.Proofs.YtelloecgdiocoaaDoor
