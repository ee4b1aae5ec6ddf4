/- A pattern that comes in as an argument, opened: the reading of the value gives a pattern in this text's own words. -/
import Derived.Test.YtelloecgdiocoaaDoorProg
import Derived.Test.YtelloecgdiocoaaDoorRep
import Derived.ProofKit
import Derived.OpenShut
import Derived.Deep.SlicePairs
import Derived.Lib.LaidU8
set_option linter.unusedSimpArgs false
set_option linter.unusedVariables false
namespace Go.Proofs.YtelloecgdiocoaaDoor
open Go.ChangeShapes Go.WideShapes Go.ChangeAt Go.RowKit

theorem spot {w : World} {a : Addr} {v : Value} (h : w.cell? (a.add 0) = some v) : ∃ b o, a = ⟨b, o, none⟩ := by
  obtain ⟨b, o, s⟩ := a
  cases s with
  | none => exact ⟨_, _, rfl⟩
  | some x =>
    unfold World.cell? at h
    simp only [Addr.add, if_true] at h
    split at h <;> simp at h
theorem add_at (b o j : Nat) : (⟨b, o, none⟩ : Addr).add j = ⟨b, o + j, none⟩ := by
  unfold Addr.add
  split
  · rename_i h; subst h; rfl
  · rfl

def within {H : Type} (d : DataW H) (t : TypeId) : Prop := ∀ n ∈ d.weights Tryd.prog t, n ≤ 140737488351232

section
variable {H : Type} {enc : TypeId × Value → H} {W : World} {base : Nat} {sp : Nat → Bool} {held : Bool}
theorem bytes_int : Tryd.prog.bytesOf 3 = 8 := by kernel_rfl
theorem cells_int : Tryd.prog.cellsOf 3 = 1 := by kernel_rfl
theorem cells_msg : Tryd.prog.cellsOf 65 = 2 := by kernel_rfl
theorem cells_row : Tryd.prog.cellsOf 24 = 1 := by kernel_rfl
theorem cells_pat : Tryd.prog.cellsOf 29 = 4 := by kernel_rfl
theorem cells_str : Tryd.prog.cellsOf 9 = 1 := by kernel_rfl
theorem cells_two : Tryd.prog.cellsOf 26 = 2 := by kernel_rfl
theorem cells_msgs : Tryd.prog.cellsOf 27 = 1 := by kernel_rfl
theorem bytes_msg : Tryd.prog.bytesOf 65 = 32 := by kernel_rfl

/-- a row of tokens -/
theorem open_row {fuel : Nat} {cs : List Value} {x : DataW H × List MemPlace} (h : DataW.trod enc Tryd.prog W base sp held fuel 24 cs = some x) (hz : within x.1 24) :
    ∃ v l, cs = [v] ∧ SI W v l := by
  rcases open_ints Tryd.underlying24 Tryd.underlying3 cells_int h with ⟨rfl, rfl⟩ | ⟨a, len, cap, zs, rfl, _, hlc, hcm, hzl, rfl, hc, _⟩
  · exact ⟨_, [], rfl, SI.nil W⟩
  · have hlz : len ≤ zs.length := by rw [hzl]; split <;> omega
    have hw := hz ((((lits .i64 (zs.take len) : List (DataW H))).length + ((lits .i64 (zs.drop len) : List (DataW H))).length) * Tryd.prog.bytesOf 3) (by simp [DataW.weights, Tryd.underlying24])
    rw [bytes_int] at hw
    simp [lits] at hw
    have hl : (zs.take len).length = len := by simp; omega
    refine ⟨_, zs.take len, rfl, some a, cap, by rw [hl], ⟨by rw [hl]; omega, by rw [hl]; exact hlc⟩, fun j hj => ?_⟩
    rw [hl] at hj
    obtain ⟨b, o, rfl⟩ := spot (hc 0 (by omega))
    have hcj := hc j (by omega)
    refine ⟨b, o, rfl, ?_⟩
    rw [add_at] at hcj
    rw [hcj]
    simp [List.getD_eq_getElem?_getD, List.getElem?_eq_getElem (show j < zs.length by omega)]

theorem weights_all {l : List (DataW H)} {e : TypeId} {d : DataW H} (hd : d ∈ l) {n : Nat} (hn : n ∈ d.weights Tryd.prog e) : n ∈ DataW.weightsAll Tryd.prog e l := by
  induction l with
  | nil => simp at hd
  | cons x l ih =>
    simp only [DataW.weightsAll, List.mem_append]
    rcases List.mem_cons.1 hd with h | h
    · exact .inl (h ▸ hn)
    · exact .inr (ih h)

set_option maxRecDepth 100000 in
/-- a row of messages -/
theorem open_msgs {fuel : Nat} {cs : List Value} {x : DataW H × List MemPlace} (h : DataW.trod enc Tryd.prog W base sp held fuel 27 cs = some x) (hz : within x.1 27) :
    ∃ v l, cs = [v] ∧ SM W v l := by
  rcases Go.Deep.open_slice_pairs Tryd.underlying27 Tryd.underlying65 cells_msg rfl rfl cells_int cells_row h with ⟨rfl, rfl⟩ | ⟨a, len, cap, m, n, V0, V1, D0, D1, P0, P1, rfl, _, hlc, hcm, hm, rfl, hc⟩
  · exact ⟨_, [], rfl, SM.nil W⟩
  · have hlm : len ≤ m := by rw [hm]; split <;> omega
    have hw := hz ((((List.range len).map fun i => (.agg [D0 i, D1 i] : DataW H)).length + ((List.range (m - len)).map fun j => (.agg [D0 (len + j), D1 (len + j)] : DataW H)).length) * Tryd.prog.bytesOf 65) (by simp [DataW.weights, Tryd.underlying27])
    rw [bytes_msg] at hw
    simp at hw
    have each : ∀ i, i < len → ∃ q : Int × List Int, V0 i = .int .i64 q.1 ∧ SI W (V1 i) q.2 := by
      intro i hi
      obtain ⟨_, _, h0, h1⟩ := hc i (by omega)
      obtain ⟨z, hz0, _, _⟩ := DataW.trod_int Tryd.underlying3 h0
      have hwi : within (D1 i) 24 := by
        intro k hk
        refine hz k ?_
        simp only [DataW.weights, Tryd.underlying27, List.mem_cons, List.mem_append]
        refine .inr (.inl (weights_all (List.mem_map.2 ⟨i, List.mem_range.2 hi, rfl⟩) ?_))
        simp only [DataW.weights, Tryd.underlying65, DataW.weightsEach, List.map_cons, List.map_nil, List.mem_append]
        exact .inr (.inl hk)
      obtain ⟨v, l, hv, hs⟩ := open_row h1 hwi
      simp only [List.cons.injEq, and_true] at hz0 hv
      exact ⟨(z, l), hz0, by rw [hv]; exact hs⟩
    obtain ⟨q, hq⟩ := Go.Deep.choose_lt each
    refine ⟨_, (List.range len).map (fun i => ⟨(q i).1, (q i).2⟩), rfl, some a, cap, by simp, ⟨by simp; omega, by simpa using hlc⟩, fun j hj => ?_⟩
    simp only [List.length_map, List.length_range] at hj
    obtain ⟨b, o, rfl⟩ := spot (by have := (hc 0 (by omega)).1; simpa using this)
    obtain ⟨g0, g1, _, _⟩ := hc j (by omega)
    obtain ⟨e0, e1⟩ := hq j hj
    rw [add_at] at g0 g1
    refine ⟨b, o, V1 j, rfl, ?_, ?_, ?_⟩
    · rw [g0, e0]; simp
    · rw [← Nat.add_assoc] at g1; exact g1
    · simpa using e1

set_option maxRecDepth 100000 in
/-- a pattern -/
theorem open_pat {v : Value} {d : DataW H} {ps : List MemPlace} (hval : Value.okWide Tryd.prog W .any base 29 v) (h : DataW.Trod enc Tryd.prog W 0 sp held 29 v d ps) (hz : within d 29) :
    ∃ p, SP W v p := by
  obtain ⟨cs, rfl, hcs⟩ := okWide_struct Tryd.underlying29 hval
  obtain ⟨fuel, h⟩ := h
  obtain ⟨xs, n, _, hx, hl, hxl, hf⟩ := DataW.trod_struct Tryd.underlying29 h
  rw [cells_pat] at hcs
  obtain ⟨cs⟩ := cs
  match cs, hcs with
  | [c0, c1, c2, c3], _ =>
    match xs, hxl with
    | [y0, y1, y2], _ =>
      have f0 : DataW.trod enc Tryd.prog W 0 sp held n 9 [c0] = some y0 := by have := hf 0 _ rfl; simpa [cells_str, Value.cells] using this
      have f1 : DataW.trod enc Tryd.prog W 0 sp held n 26 [c1, c2] = some y1 := by have := hf 1 _ rfl; simpa [cells_two, Value.cells] using this
      have f2 : DataW.trod enc Tryd.prog W 0 sp held n 27 [c3] = some y2 := by have := hf 2 _ rfl; simpa [cells_msgs, Value.cells] using this
      clear hf hval h hl
      obtain ⟨rfl, rfl⟩ : d = .agg [y0.1, y1.1, y2.1] ∧ ps = y0.2 ++ (y1.2 ++ y2.2) := by simpa using hx
      clear hx
      obtain ⟨s, hs, hy0, hsm⟩ := DataW.trod_string Tryd.underlying9 f0
      obtain ⟨zs, m, _, hy1, _, hzl, hzf⟩ := DataW.trod_array Tryd.underlying26 f1
      have hz' : ∀ k, (k ∈ y0.1.weights Tryd.prog 9 ∨ k ∈ y1.1.weights Tryd.prog 26 ∨ k ∈ y2.1.weights Tryd.prog 27) → k ≤ 140737488351232 := by
        intro k hk
        refine hz k ?_
        simp only [DataW.weights, Tryd.underlying29, DataW.weightsEach, List.map_cons, List.map_nil, List.mem_append]
        rcases hk with hk | hk | hk
        · exact .inl hk
        · exact .inr (.inl hk)
        · exact .inr (.inr (.inl hk))
      clear hz
      match zs, hzl with
      | [z0, z1], _ =>
        have g0 : DataW.trod enc Tryd.prog W 0 sp held m 24 [c1] = some z0 := by have := hzf 0 (by omega); simpa [cells_row] using this
        have g1 : DataW.trod enc Tryd.prog W 0 sp held m 24 [c2] = some z1 := by have := hzf 1 (by omega); simpa [cells_row] using this
        have w1 : ∀ k, (k ∈ z0.1.weights Tryd.prog 24 ∨ k ∈ z1.1.weights Tryd.prog 24) → k ≤ 140737488351232 := by
          intro k hk
          refine hz' k (.inr (.inl ?_))
          rw [hy1]
          simp only [DataW.weights, Tryd.underlying26, DataW.weightsAll, List.map_cons, List.map_nil, List.mem_append]
          rcases hk with hk | hk
          · exact .inl hk
          · exact .inr (.inl hk)
        obtain ⟨v0, l0, e0, hs0⟩ := open_row g0 (fun k hk => w1 k (.inl hk))
        obtain ⟨v1, l1, e1, hs1⟩ := open_row g1 (fun k hk => w1 k (.inr hk))
        obtain ⟨vm, ms, em, hsm'⟩ := open_msgs f2 (fun k hk => hz' k (.inr (.inr hk)))
        simp only [List.cons.injEq, and_true] at hs e0 e1 em
        subst hs e0 e1 em
        have hsz := hz' s.data.toList.length (.inl (by rw [hy0]; simp [DataW.weights]))
        exact ⟨⟨s, l0, l1, ms⟩, _, _, _, rfl, hsz, hs0, hs1, hsm'⟩
end
end Go.Proofs.YtelloecgdiocoaaDoor
