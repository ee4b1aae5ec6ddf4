/- What the frames of the level laws need besides: a level, a track, tokens as arguments. -/
import Derived.Test.YtelloecgdiocoaaDoorFrameN
import Derived.Test.YtelloecgdiocoaaDoorG2
set_option linter.unusedSimpArgs false
set_option linter.unusedVariables false
namespace Go.Proofs.YtelloecgdiocoaaDoor
open Go.ChangeShapes Go.WideShapes Go.ChangeAt Go.RowKit

section
variable {H : Type} {enc : TypeId × Value → H} {W : World}
theorem cells_lev : Tryd.prog.cellsOf 37 = 2 := by kernel_rfl
theorem cells_trk : Tryd.prog.cellsOf 54 = 10 := by kernel_rfl
theorem cells_b8 : Tryd.prog.cellsOf 51 = 8 := by kernel_rfl
theorem cells_i2 : Tryd.prog.cellsOf 52 = 2 := by kernel_rfl
set_option maxRecDepth 100000 in
theorem open_lev {base : Nat} {sp : Nat → Bool} {held : Bool} {v : Value} {d : DataW H} {ps : List MemPlace} (hval : Value.okWide Tryd.prog W .any base 37 v) (h : DataW.Trod enc Tryd.prog W 0 sp held 37 v d ps) :
    ∃ a b, v = levV a b := by
  obtain ⟨cs, rfl, hcs⟩ := okWide_struct Tryd.underlying37 hval
  obtain ⟨fuel, h⟩ := h
  obtain ⟨xs, n, _, hx, hl, hxl, hf⟩ := DataW.trod_struct Tryd.underlying37 h
  rw [cells_lev] at hcs
  obtain ⟨cs⟩ := cs
  match cs, hcs with
  | [c0, c1], _ =>
    match xs, hxl with
    | [y0, y1], _ =>
      have f0 : DataW.trod enc Tryd.prog W 0 sp held n 3 [c0] = some y0 := by have := hf 0 _ rfl; simpa [cells_int, Value.cells] using this
      have f1 : DataW.trod enc Tryd.prog W 0 sp held n 3 [c1] = some y1 := by have := hf 1 _ rfl; simpa [cells_int, Value.cells] using this
      obtain ⟨z0, e0, _, _⟩ := DataW.trod_int Tryd.underlying3 f0
      obtain ⟨z1, e1, _, _⟩ := DataW.trod_int Tryd.underlying3 f1
      simp only [List.cons.injEq, and_true] at e0 e1
      subst e0 e1
      exact ⟨z0, z1, rfl⟩
set_option maxRecDepth 100000 in
theorem open_trk {base : Nat} {sp : Nat → Bool} {held : Bool} {v : Value} {d : DataW H} {ps : List MemPlace} (hval : Value.okWide Tryd.prog W .any base 54 v) (h : DataW.Trod enc Tryd.prog W 0 sp held 54 v d ps) :
    ∃ t, v = trkV t := by
  obtain ⟨cs, rfl, hcs⟩ := okWide_struct Tryd.underlying54 hval
  obtain ⟨fuel, h⟩ := h
  obtain ⟨xs, n, _, hx, hl, hxl, hf⟩ := DataW.trod_struct Tryd.underlying54 h
  rw [cells_trk] at hcs
  obtain ⟨cs⟩ := cs
  match cs, hcs with
  | [c0, c1, c2, c3, c4, c5, c6, c7, c8, c9], _ =>
    match xs, hxl with
    | [y0, y1], _ =>
      have f0 : DataW.trod enc Tryd.prog W 0 sp held n 51 [c0, c1, c2, c3, c4, c5, c6, c7] = some y0 := by have := hf 0 _ rfl; simpa [cells_b8, Value.cells] using this
      have f1 : DataW.trod enc Tryd.prog W 0 sp held n 52 [c8, c9] = some y1 := by have := hf 1 _ rfl; simpa [cells_b8, cells_i2, Value.cells] using this
      clear hf hval h hl hx
      obtain ⟨zs, m, _, _, _, hzl, hzf⟩ := DataW.trod_array Tryd.underlying51 f0
      obtain ⟨us, k, _, _, _, hul, huf⟩ := DataW.trod_array Tryd.underlying52 f1
      clear f0 f1
      match zs, hzl with
      | [z0, z1, z2, z3, z4, z5, z6, z7], _ =>
        match us, hul with
        | [u0, u1], _ =>
          have g0 : DataW.trod enc Tryd.prog W 0 sp held m 4 [c0] = some z0 := by have := hzf 0 (by omega); simpa [cells_bool] using this
          have g1 : DataW.trod enc Tryd.prog W 0 sp held m 4 [c1] = some z1 := by have := hzf 1 (by omega); simpa [cells_bool] using this
          have g2 : DataW.trod enc Tryd.prog W 0 sp held m 4 [c2] = some z2 := by have := hzf 2 (by omega); simpa [cells_bool] using this
          have g3 : DataW.trod enc Tryd.prog W 0 sp held m 4 [c3] = some z3 := by have := hzf 3 (by omega); simpa [cells_bool] using this
          have g4 : DataW.trod enc Tryd.prog W 0 sp held m 4 [c4] = some z4 := by have := hzf 4 (by omega); simpa [cells_bool] using this
          have g5 : DataW.trod enc Tryd.prog W 0 sp held m 4 [c5] = some z5 := by have := hzf 5 (by omega); simpa [cells_bool] using this
          have g6 : DataW.trod enc Tryd.prog W 0 sp held m 4 [c6] = some z6 := by have := hzf 6 (by omega); simpa [cells_bool] using this
          have g7 : DataW.trod enc Tryd.prog W 0 sp held m 4 [c7] = some z7 := by have := hzf 7 (by omega); simpa [cells_bool] using this
          have h0 : DataW.trod enc Tryd.prog W 0 sp held k 3 [c8] = some u0 := by have := huf 0 (by omega); simpa [cells_int] using this
          have h1 : DataW.trod enc Tryd.prog W 0 sp held k 3 [c9] = some u1 := by have := huf 1 (by omega); simpa [cells_int] using this
          clear hzf huf
          obtain ⟨b0, e0, _⟩ := DataW.trod_bool Tryd.underlying4 g0
          obtain ⟨b1, e1, _⟩ := DataW.trod_bool Tryd.underlying4 g1
          obtain ⟨b2, e2, _⟩ := DataW.trod_bool Tryd.underlying4 g2
          obtain ⟨b3, e3, _⟩ := DataW.trod_bool Tryd.underlying4 g3
          obtain ⟨b4, e4, _⟩ := DataW.trod_bool Tryd.underlying4 g4
          obtain ⟨b5, e5, _⟩ := DataW.trod_bool Tryd.underlying4 g5
          obtain ⟨b6, e6, _⟩ := DataW.trod_bool Tryd.underlying4 g6
          obtain ⟨b7, e7, _⟩ := DataW.trod_bool Tryd.underlying4 g7
          obtain ⟨i0, e8, _, _⟩ := DataW.trod_int Tryd.underlying3 h0
          obtain ⟨i1, e9, _, _⟩ := DataW.trod_int Tryd.underlying3 h1
          simp only [List.cons.injEq, and_true] at e0 e1 e2 e3 e4 e5 e6 e7 e8 e9
          subst e0 e1 e2 e3 e4 e5 e6 e7 e8 e9
          exact ⟨⟨b0, b1, b2, b3, b4, b5, b6, b7, i0, i1⟩, rfl⟩
set_option maxRecDepth 100000 in
theorem open_toks {base : Nat} {sp : Nat → Bool} {held : Bool} {v : Value} {d : DataW H} {ps : List MemPlace} (hval : Value.okWide Tryd.prog W .any base 24 v) (h : DataW.Trod enc Tryd.prog W 0 sp held 24 v d ps) (hz : within d 24) :
    ∃ l, SI W v l := by
  obtain ⟨a, len, cap, rfl⟩ := okWide_slice Tryd.underlying24 hval
  obtain ⟨fuel, h⟩ := h
  obtain ⟨u, l, e, hs⟩ := open_row h hz
  simp only [Value.cells, List.cons.injEq, and_true] at e
  exact ⟨l, by rw [e]; exact hs⟩
end
end Go.Proofs.YtelloecgdiocoaaDoor
