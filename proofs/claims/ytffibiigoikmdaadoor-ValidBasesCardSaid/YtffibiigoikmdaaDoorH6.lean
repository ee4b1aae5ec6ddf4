/- Walk: undertoneref06.Names, by itself. -/
import Derived.Test.YtffibiigoikmdaaDoorB3
set_option linter.unusedSimpArgs false
set_option linter.unusedVariables false
namespace Go.Proofs.YtffibiigoikmdaaDoor
open Go.RowKit Go.Sort
def nameVals : Array Value := #[.string ⟨#[78]⟩, .string ⟨#[75]⟩, .string ⟨#[88]⟩, .string ⟨#[78, 78]⟩, .string ⟨#[78, 75]⟩, .string ⟨#[78, 88]⟩, .string ⟨#[88, 78]⟩, .string ⟨#[88, 75]⟩, .string ⟨#[88, 88]⟩, .string ⟨#[75, 78]⟩, .string ⟨#[75, 75]⟩, .string ⟨#[75, 88]⟩, .string ⟨#[73, 78]⟩, .string ⟨#[73, 75]⟩, .string ⟨#[73, 88]⟩]
set_option maxRecDepth 100000 in
set_option maxHeartbeats 2000000 in
theorem refNames_any (w : World) :
    Calls Tryd.prog 8 #[] w fun e w' => ∃ v, e = .returned v ∧ SS w' v bNames ∧ Bl w w' := by
  have hs : SS (w.alloc (.cells nameVals 9)) (.slice (some ⟨w.heap.size, 0, none⟩) 15 15) bNames := SS.ofCells w bNames 9 (by decide)
  have hb : Bl w (w.alloc (.cells nameVals 9)) := (Bl.refl w).alloc _
  go_enter Tryd.func8, Tryd.ntmps8
  go_wp2
  go_ret
  exact ⟨_, rfl, hs, hb⟩

end Go.Proofs.YtffibiigoikmdaaDoor
