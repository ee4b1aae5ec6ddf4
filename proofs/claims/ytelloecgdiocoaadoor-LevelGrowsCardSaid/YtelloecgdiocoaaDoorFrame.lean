/- What the frames of the token laws share: a world that holds the listed tables. -/
import Derived.Test.YtelloecgdiocoaaDoorRows
import Derived.Test.YtelloecgdiocoaaDoorCards
import Derived.Test.YtelloecgdiocoaaDoorTie
import Derived.Test.YtelloecgdiocoaaDoorRep
import Derived.WalkKit
import Derived.ProofKit
import Derived.OpenShut
import Derived.Deep.DeepHandedRow
import Derived.Lib.LaidTab
set_option linter.unusedSimpArgs false
set_option linter.unusedVariables false
namespace Go.Proofs.YtelloecgdiocoaaDoor
open Go.ChangeShapes Go.WideShapes Go.ChangeAt Go.RowKit

theorem own : ownKnob Tryd.prog.godebug = none := by kernel_rfl
theorem laidOut : laidOutB Tryd.prog = true := by kernel_rfl

def u8s (l : List Int) : List Value := l.map (Value.int .u8)
def firstCells : Array Value := (u8s (List.replicate 128 240 ++ List.replicate 66 241 ++ List.replicate 30 2 ++ [19] ++ List.replicate 12 3 ++ [35, 3, 3, 52, 4, 4, 4, 68] ++ List.replicate 11 241)).toArray
def acceptCells : Array Value := (u8s ([128, 191, 160, 191, 128, 159, 144, 191, 128, 143] ++ List.replicate 22 0)).toArray
def putCells (cs : Array Value) : Obj → Obj
  | .cells _ t frozen => .cells cs t frozen
  | o => o
/-- the settled world, the two tables holding what their initialisers lay -/
noncomputable def laidWorld (os : Os) : World :=
  { World.holding Tryd.prog os ⟨#[], #[], []⟩ with heap := ((World.holding Tryd.prog os ⟨#[], #[], []⟩).heap.modify 2 (putCells firstCells)).modify 3 (putCells acceptCells) }

/-- The row's post from 'Below': the arguments read behind the call as they did, old memory has not turned. -/
theorem post_of_below {H : Type} {enc : TypeId × Value → H} {P : Program} {f : Func} {s : ChangeSpec} {fresh handsOn : Bool} {W W' : World} {args : Array Value} {v : Value} {ds gs : List (DataW H)} {before pa pv : List MemPlace}
    (hW : DataW.Whole enc P f.params.toList s.vars false W args.toList ds gs before)
    (hres : ∀ (b : Nat) (sp : Nat → Bool) (hd : Bool), DataW.TrodAll enc P W' b sp hd f.resultTypes.toList (v.resultList f.resultTypes.size) (s.fn H (ds ++ gs)).results [])
    (hargs : DataW.TrodAll enc P W' 0 (fun b => decide (b < W.heap.size)) true f.params.toList args.toList (s.fn H (ds ++ gs)).args pa)
    (hvars : DataW.TrodVars enc P W' (fun b => decide (b < W.heap.size)) s.vars (s.fn H (ds ++ gs)).vars pv)
    (hps : before = pa ++ pv) (hb : Below W.heap.size W W') :
    s.post enc P f false fresh handsOn false W args v W' := by
  refine ⟨ds, gs, before, [], pa, pv, hW, hres _ _ _, hargs, hvars, World.keptBut_mono (fun p hp => ⟨hp, ?_⟩) (hb.frame _), fun h => by cases h⟩
  rw [hps, List.mem_append] at hp
  exact Or.inr hp
end Go.Proofs.YtelloecgdiocoaaDoor
