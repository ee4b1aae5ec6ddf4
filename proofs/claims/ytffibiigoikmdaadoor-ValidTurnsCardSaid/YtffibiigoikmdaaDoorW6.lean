/- Walks: undertoneref05.Right: what the reference says of a pattern is what the program says. -/
import Derived.Test.YtffibiigoikmdaaDoorW4
set_option linter.unusedSimpArgs false
set_option linter.unusedVariables false
namespace Go.Proofs.YtffibiigoikmdaaDoor
open Go.RowKit

theorem rightB_name {p : Pat} (h : p.name.data.toList.all okByte = false) : rightB p = false := by simp [rightB, namedB, h]
theorem rightB_pre0 {p : Pat} (h : toldB p.pre0 = false) : rightB p = false := by simp [rightB, h]
theorem rightB_pre1 {p : Pat} (h : toldB p.pre1 = false) : rightB p = false := by simp [rightB, h]
theorem rightB_msg {p : Pat} {k : Nat} (hk : k < p.msgs.length) (h : badMsg p.msgs[k] = true) : rightB p = false := by
  have : p.msgs.any badMsg = true := List.any_eq_true.2 ⟨_, List.getElem_mem hk, h⟩
  simp [rightB, this]
theorem rightB_end {p : Pat} (hn : p.name.data.toList.all okByte = true) (h0 : toldB p.pre0 = true) (h1 : toldB p.pre1 = true) {k : Nat} (hk : p.msgs.length ≤ k) (h : ∀ m ∈ p.msgs.take k, badMsg m = false) :
    rightB p = (decide (1 ≤ p.name.size) && decide (p.name.size ≤ 20) && decide (1 ≤ p.msgs.length) && decide (p.msgs.length ≤ 6)) := by
  rw [List.take_of_length_le hk] at h
  have h2 : p.msgs.any badMsg = false := by rw [List.any_eq_false]; intro m hm; simp [h m hm]
  simp [rightB, namedB, hn, h0, h1, h2]
theorem told_two {x y : Int} : toldB [x, y] = (decide (x = 1) && decide (y = 2)) := by
  rw [Bool.eq_iff_iff]; simp [toldB]
theorem told_one {x : Int} : toldB [x] = (decide (x = 1) || decide (x = 2)) := by
  rw [Bool.eq_iff_iff]; simp [toldB]
theorem told_more {x y z : Int} {r : List Int} : toldB (x :: y :: z :: r) = false := by simp [toldB]
theorem tokName_bad {t : Int} : (tokName t = ⟨#[63]⟩) ↔ badTok t = true := by
  unfold tokName badTok
  simp only [Bool.or_eq_true, decide_eq_true_eq]
  repeat' split
  all_goals first
    | (constructor
       · intro h; exact absurd h (by decide)
       · intro h; omega)
    | (constructor
       · intro _; omega
       · intro _; rfl)

theorem q63 : (⟨#[63]⟩ : ByteArray).toList = [63] := by rw [ByteArray.toList_eq]

end Go.Proofs.YtffibiigoikmdaaDoor
