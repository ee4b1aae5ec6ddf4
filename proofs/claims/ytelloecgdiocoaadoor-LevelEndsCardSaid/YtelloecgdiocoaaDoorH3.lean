/- Walks: undertoneref06.Names, undertoneref09.Table. -/
import Derived.Test.YtelloecgdiocoaaDoorB3
import Derived.Test.YtelloecgdiocoaaDoorG4
set_option linter.unusedSimpArgs false
set_option linter.unusedVariables false
namespace Go.Proofs.YtelloecgdiocoaaDoor
open Go.RowKit Go.Sort

def nameVals : Array Value := #[.string ⟨#[78]⟩, .string ⟨#[75]⟩, .string ⟨#[88]⟩, .string ⟨#[78, 78]⟩, .string ⟨#[78, 75]⟩, .string ⟨#[78, 88]⟩, .string ⟨#[88, 78]⟩, .string ⟨#[88, 75]⟩, .string ⟨#[88, 88]⟩, .string ⟨#[75, 78]⟩, .string ⟨#[75, 75]⟩, .string ⟨#[75, 88]⟩, .string ⟨#[73, 78]⟩, .string ⟨#[73, 75]⟩, .string ⟨#[73, 88]⟩]
set_option maxRecDepth 100000 in
set_option maxHeartbeats 2000000 in
theorem refNames_any (w : World) :
    Calls Tryd.prog 15 #[] w fun e w' => ∃ v, e = .returned v ∧ SS w' v bNames ∧ Bl w w' := by
  have hs : SS (w.alloc (.cells nameVals 9)) (.slice (some ⟨w.heap.size, 0, none⟩) 15 15) bNames := SS.ofCells w bNames 9 (by decide)
  have hb : Bl w (w.alloc (.cells nameVals 9)) := (Bl.refl w).alloc _
  go_enter Tryd.func15, Tryd.ntmps15
  go_wp2
  go_ret
  exact ⟨_, rfl, hs, hb⟩

/-- the levels of each base pattern, as the table has them -/
def refTab : List (List Int) := [[0, 2], [1, 2], [1, 2], [0, 0, 0, 1, 0, 1], [0, 2, 2, 1, 0, 5], [0, 0, 2, 1, 0, 5], [0, 0, 0, 1, 2, 1, 0, 5], [0, 2, 2, 1, 2, 5, 2, 5], [0, 0, 2, 1, 2, 5, 2, 5], [0, 0, 0, 3, 2, 1, 0, 5], [1, 2, 2, 4, 2, 5, 2, 5], [0, 0, 2, 3, 2, 5, 2, 5], [0, 0, 0, 3, 2, 1, 0, 5], [1, 2, 2, 4, 2, 5, 2, 5], [0, 0, 2, 3, 2, 5, 2, 5]]
theorem SI.ofCells (w : World) (l : List Int) (T : TypeId) (hl : l.length ≤ 17592186043904) : SI (w.alloc (.cells (l.map (Value.int .i64)).toArray T)) (.slice (some ⟨w.heap.size, 0, none⟩) l.length l.length) l := by
  refine ⟨_, _, rfl, ⟨hl, Nat.le_refl _⟩, fun j hj => ⟨w.heap.size, 0, rfl, ?_⟩⟩
  rw [Nat.zero_add]
  exact (BoxAt.new w (l.map (Value.int .i64)).toArray T).cell j (by simp [hj])

set_option maxRecDepth 100000 in
set_option maxHeartbeats 2000000 in
theorem refTab0 (w : World) :
    Calls Tryd.prog 16 #[.string ⟨#[78]⟩] w fun e w' => ∃ v, e = .returned v ∧ SI w' v [0, 2] ∧ Bl w w' := by
  have hs := SI.ofCells w [0, 2] 3 (by decide)
  have hb : Bl w (w.alloc (.cells (([0, 2] : List Int).map (Value.int .i64)).toArray 3)) := (Bl.refl w).alloc _
  go_enter Tryd.func16, Tryd.ntmps16
  go_wp2
  go_ret
  exact ⟨_, rfl, hs, hb⟩

set_option maxRecDepth 100000 in
set_option maxHeartbeats 2000000 in
theorem refTab1 (w : World) :
    Calls Tryd.prog 16 #[.string ⟨#[75]⟩] w fun e w' => ∃ v, e = .returned v ∧ SI w' v [1, 2] ∧ Bl w w' := by
  have hs := SI.ofCells w [1, 2] 3 (by decide)
  have hb : Bl w (w.alloc (.cells (([1, 2] : List Int).map (Value.int .i64)).toArray 3)) := (Bl.refl w).alloc _
  go_enter Tryd.func16, Tryd.ntmps16
  go_wp2
  go_ret
  exact ⟨_, rfl, hs, hb⟩

set_option maxRecDepth 100000 in
set_option maxHeartbeats 2000000 in
theorem refTab2 (w : World) :
    Calls Tryd.prog 16 #[.string ⟨#[88]⟩] w fun e w' => ∃ v, e = .returned v ∧ SI w' v [1, 2] ∧ Bl w w' := by
  have hs := SI.ofCells w [1, 2] 3 (by decide)
  have hb : Bl w (w.alloc (.cells (([1, 2] : List Int).map (Value.int .i64)).toArray 3)) := (Bl.refl w).alloc _
  go_enter Tryd.func16, Tryd.ntmps16
  go_wp2
  go_ret
  exact ⟨_, rfl, hs, hb⟩

set_option maxRecDepth 100000 in
set_option maxHeartbeats 2000000 in
theorem refTab3 (w : World) :
    Calls Tryd.prog 16 #[.string ⟨#[78, 78]⟩] w fun e w' => ∃ v, e = .returned v ∧ SI w' v [0, 0, 0, 1, 0, 1] ∧ Bl w w' := by
  have hs := SI.ofCells w [0, 0, 0, 1, 0, 1] 3 (by decide)
  have hb : Bl w (w.alloc (.cells (([0, 0, 0, 1, 0, 1] : List Int).map (Value.int .i64)).toArray 3)) := (Bl.refl w).alloc _
  go_enter Tryd.func16, Tryd.ntmps16
  go_wp2
  go_ret
  exact ⟨_, rfl, hs, hb⟩

set_option maxRecDepth 100000 in
set_option maxHeartbeats 2000000 in
theorem refTab4 (w : World) :
    Calls Tryd.prog 16 #[.string ⟨#[78, 75]⟩] w fun e w' => ∃ v, e = .returned v ∧ SI w' v [0, 2, 2, 1, 0, 5] ∧ Bl w w' := by
  have hs := SI.ofCells w [0, 2, 2, 1, 0, 5] 3 (by decide)
  have hb : Bl w (w.alloc (.cells (([0, 2, 2, 1, 0, 5] : List Int).map (Value.int .i64)).toArray 3)) := (Bl.refl w).alloc _
  go_enter Tryd.func16, Tryd.ntmps16
  go_wp2
  go_ret
  exact ⟨_, rfl, hs, hb⟩

set_option maxRecDepth 100000 in
set_option maxHeartbeats 2000000 in
theorem refTab5 (w : World) :
    Calls Tryd.prog 16 #[.string ⟨#[78, 88]⟩] w fun e w' => ∃ v, e = .returned v ∧ SI w' v [0, 0, 2, 1, 0, 5] ∧ Bl w w' := by
  have hs := SI.ofCells w [0, 0, 2, 1, 0, 5] 3 (by decide)
  have hb : Bl w (w.alloc (.cells (([0, 0, 2, 1, 0, 5] : List Int).map (Value.int .i64)).toArray 3)) := (Bl.refl w).alloc _
  go_enter Tryd.func16, Tryd.ntmps16
  go_wp2
  go_ret
  exact ⟨_, rfl, hs, hb⟩

set_option maxRecDepth 100000 in
set_option maxHeartbeats 2000000 in
theorem refTab6 (w : World) :
    Calls Tryd.prog 16 #[.string ⟨#[88, 78]⟩] w fun e w' => ∃ v, e = .returned v ∧ SI w' v [0, 0, 0, 1, 2, 1, 0, 5] ∧ Bl w w' := by
  have hs := SI.ofCells w [0, 0, 0, 1, 2, 1, 0, 5] 3 (by decide)
  have hb : Bl w (w.alloc (.cells (([0, 0, 0, 1, 2, 1, 0, 5] : List Int).map (Value.int .i64)).toArray 3)) := (Bl.refl w).alloc _
  go_enter Tryd.func16, Tryd.ntmps16
  go_wp2
  go_ret
  exact ⟨_, rfl, hs, hb⟩

set_option maxRecDepth 100000 in
set_option maxHeartbeats 2000000 in
theorem refTab7 (w : World) :
    Calls Tryd.prog 16 #[.string ⟨#[88, 75]⟩] w fun e w' => ∃ v, e = .returned v ∧ SI w' v [0, 2, 2, 1, 2, 5, 2, 5] ∧ Bl w w' := by
  have hs := SI.ofCells w [0, 2, 2, 1, 2, 5, 2, 5] 3 (by decide)
  have hb : Bl w (w.alloc (.cells (([0, 2, 2, 1, 2, 5, 2, 5] : List Int).map (Value.int .i64)).toArray 3)) := (Bl.refl w).alloc _
  go_enter Tryd.func16, Tryd.ntmps16
  go_wp2
  go_ret
  exact ⟨_, rfl, hs, hb⟩

set_option maxRecDepth 100000 in
set_option maxHeartbeats 2000000 in
theorem refTab8 (w : World) :
    Calls Tryd.prog 16 #[.string ⟨#[88, 88]⟩] w fun e w' => ∃ v, e = .returned v ∧ SI w' v [0, 0, 2, 1, 2, 5, 2, 5] ∧ Bl w w' := by
  have hs := SI.ofCells w [0, 0, 2, 1, 2, 5, 2, 5] 3 (by decide)
  have hb : Bl w (w.alloc (.cells (([0, 0, 2, 1, 2, 5, 2, 5] : List Int).map (Value.int .i64)).toArray 3)) := (Bl.refl w).alloc _
  go_enter Tryd.func16, Tryd.ntmps16
  go_wp2
  go_ret
  exact ⟨_, rfl, hs, hb⟩

set_option maxRecDepth 100000 in
set_option maxHeartbeats 2000000 in
theorem refTab9 (w : World) :
    Calls Tryd.prog 16 #[.string ⟨#[75, 78]⟩] w fun e w' => ∃ v, e = .returned v ∧ SI w' v [0, 0, 0, 3, 2, 1, 0, 5] ∧ Bl w w' := by
  have hs := SI.ofCells w [0, 0, 0, 3, 2, 1, 0, 5] 3 (by decide)
  have hb : Bl w (w.alloc (.cells (([0, 0, 0, 3, 2, 1, 0, 5] : List Int).map (Value.int .i64)).toArray 3)) := (Bl.refl w).alloc _
  go_enter Tryd.func16, Tryd.ntmps16
  go_wp2
  go_ret
  exact ⟨_, rfl, hs, hb⟩

set_option maxRecDepth 100000 in
set_option maxHeartbeats 2000000 in
theorem refTab10 (w : World) :
    Calls Tryd.prog 16 #[.string ⟨#[75, 75]⟩] w fun e w' => ∃ v, e = .returned v ∧ SI w' v [1, 2, 2, 4, 2, 5, 2, 5] ∧ Bl w w' := by
  have hs := SI.ofCells w [1, 2, 2, 4, 2, 5, 2, 5] 3 (by decide)
  have hb : Bl w (w.alloc (.cells (([1, 2, 2, 4, 2, 5, 2, 5] : List Int).map (Value.int .i64)).toArray 3)) := (Bl.refl w).alloc _
  go_enter Tryd.func16, Tryd.ntmps16
  go_wp2
  go_ret
  exact ⟨_, rfl, hs, hb⟩

set_option maxRecDepth 100000 in
set_option maxHeartbeats 2000000 in
theorem refTab11 (w : World) :
    Calls Tryd.prog 16 #[.string ⟨#[75, 88]⟩] w fun e w' => ∃ v, e = .returned v ∧ SI w' v [0, 0, 2, 3, 2, 5, 2, 5] ∧ Bl w w' := by
  have hs := SI.ofCells w [0, 0, 2, 3, 2, 5, 2, 5] 3 (by decide)
  have hb : Bl w (w.alloc (.cells (([0, 0, 2, 3, 2, 5, 2, 5] : List Int).map (Value.int .i64)).toArray 3)) := (Bl.refl w).alloc _
  go_enter Tryd.func16, Tryd.ntmps16
  go_wp2
  go_ret
  exact ⟨_, rfl, hs, hb⟩

set_option maxRecDepth 100000 in
set_option maxHeartbeats 2000000 in
theorem refTab12 (w : World) :
    Calls Tryd.prog 16 #[.string ⟨#[73, 78]⟩] w fun e w' => ∃ v, e = .returned v ∧ SI w' v [0, 0, 0, 3, 2, 1, 0, 5] ∧ Bl w w' := by
  have hs := SI.ofCells w [0, 0, 0, 3, 2, 1, 0, 5] 3 (by decide)
  have hb : Bl w (w.alloc (.cells (([0, 0, 0, 3, 2, 1, 0, 5] : List Int).map (Value.int .i64)).toArray 3)) := (Bl.refl w).alloc _
  go_enter Tryd.func16, Tryd.ntmps16
  go_wp2
  go_ret
  exact ⟨_, rfl, hs, hb⟩

set_option maxRecDepth 100000 in
set_option maxHeartbeats 2000000 in
theorem refTab13 (w : World) :
    Calls Tryd.prog 16 #[.string ⟨#[73, 75]⟩] w fun e w' => ∃ v, e = .returned v ∧ SI w' v [1, 2, 2, 4, 2, 5, 2, 5] ∧ Bl w w' := by
  have hs := SI.ofCells w [1, 2, 2, 4, 2, 5, 2, 5] 3 (by decide)
  have hb : Bl w (w.alloc (.cells (([1, 2, 2, 4, 2, 5, 2, 5] : List Int).map (Value.int .i64)).toArray 3)) := (Bl.refl w).alloc _
  go_enter Tryd.func16, Tryd.ntmps16
  go_wp2
  go_ret
  exact ⟨_, rfl, hs, hb⟩

set_option maxRecDepth 100000 in
set_option maxHeartbeats 2000000 in
theorem refTab14 (w : World) :
    Calls Tryd.prog 16 #[.string ⟨#[73, 88]⟩] w fun e w' => ∃ v, e = .returned v ∧ SI w' v [0, 0, 2, 3, 2, 5, 2, 5] ∧ Bl w w' := by
  have hs := SI.ofCells w [0, 0, 2, 3, 2, 5, 2, 5] 3 (by decide)
  have hb : Bl w (w.alloc (.cells (([0, 0, 2, 3, 2, 5, 2, 5] : List Int).map (Value.int .i64)).toArray 3)) := (Bl.refl w).alloc _
  go_enter Tryd.func16, Tryd.ntmps16
  go_wp2
  go_ret
  exact ⟨_, rfl, hs, hb⟩

theorem fifteen (k : Nat) (hk : k < 15) : k = 0 ∨ k = 1 ∨ k = 2 ∨ k = 3 ∨ k = 4 ∨ k = 5 ∨ k = 6 ∨ k = 7 ∨ k = 8 ∨ k = 9 ∨ k = 10 ∨ k = 11 ∨ k = 12 ∨ k = 13 ∨ k = 14 := by omega
theorem refTab_any (k : Nat) (hk : k < bNames.length) (x : ByteArray) (l : List Int) (hx : bNames[k] = x) (hl : refTab.getD k [] = l) (w : World) :
    Calls Tryd.prog 16 #[.string x] w fun e w' => ∃ v, e = .returned v ∧ SI w' v l ∧ Bl w w' := by
  subst hx hl
  rcases fifteen k hk with rfl | rfl | rfl | rfl | rfl | rfl | rfl | rfl | rfl | rfl | rfl | rfl | rfl | rfl | rfl
  · exact refTab0 w
  · exact refTab1 w
  · exact refTab2 w
  · exact refTab3 w
  · exact refTab4 w
  · exact refTab5 w
  · exact refTab6 w
  · exact refTab7 w
  · exact refTab8 w
  · exact refTab9 w
  · exact refTab10 w
  · exact refTab11 w
  · exact refTab12 w
  · exact refTab13 w
  · exact refTab14 w
end Go.Proofs.YtelloecgdiocoaaDoor
