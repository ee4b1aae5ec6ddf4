/- Walks: undertoneref07.Check. -/
import Derived.Test.YtffibiigoikmdaaDoorR4
import Derived.Lib.QuietBelow
set_option linter.unusedSimpArgs false
set_option linter.unusedVariables false
namespace Go.Proofs.YtffibiigoikmdaaDoor
open Go.RowKit Go.Sort

theorem beq_turn (a b : Int) : (a == b) = decide (b = a) := by
  by_cases h : a = b
  · subst h; simp
  · have h' : ¬ b = a := fun e => h e.symm
    simp [h, h']

def refF (p : Pat) (x : Option (Int × Nat)) : Int × Nat × Int :=
  match x with
  | some (r, k) => (r, k, 13)
  | none => if 0 < endR p then (endR p, p.msgs.length, 13) else (0, 0, 0)
theorem refR_F (p : Pat) : refR p = refF p (refM p [] (-1) 0 p.msgs) := rfl
def endRB (p : Pat) (who : Int) : Bool := (decide (1 < p.msgs.length) || decide ((p.msgs.headD ⟨0, []⟩).who = who)) && decide (0 < seal1 p (allL p) who)
def endRF (p : Pat) : Nat → Int
  | 0 => if endRB p 0 then seal1 p (allL p) 0 else if endRB p 1 then seal1 p (allL p) 1 else 0
  | 1 => if endRB p 1 then seal1 p (allL p) 1 else 0
  | _ => 0
theorem endR_F (p : Pat) (h : key1 p (allL p) = true) : endR p = endRF p 0 := by
  rw [endR, h]
  rfl
theorem more_end (p : Pat) (i : Nat) (m : Msg) (hi : p.msgs[i]? = some m) : more (aheadL p i 0) m = aheadL p i m.t.length := by
  rw [ahead_zero p i m hi, ahead_end p i m hi m.t.length (Nat.le_refl _) 0 (.inr rfl)]

end Go.Proofs.YtffibiigoikmdaaDoor
