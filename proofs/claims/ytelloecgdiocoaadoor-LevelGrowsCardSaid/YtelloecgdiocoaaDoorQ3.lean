/- How a count of tokens grows, token by token: plain lemmas, no program. -/
import Derived.Test.YtelloecgdiocoaaDoorQ2
import Derived.Test.YtelloecgdiocoaaDoorText
set_option linter.unusedSimpArgs false
set_option linter.unusedVariables false
namespace Go.Proofs.YtelloecgdiocoaaDoor
open Go.RowKit

theorem met1_le (L : List (Int × Int)) (who t : Int) : met1 L who t ≤ L.length := List.countP_le_length
theorem flat_len (ms : List Msg) (h : ∀ m ∈ ms, m.t.length ≤ 100) : (ms.flatMap (fun m => m.t.map (fun t => (m.who, t)))).length ≤ 100 * ms.length := by
  induction ms with
  | nil => simp
  | cons m r ih =>
    have h1 := h m (by simp)
    have h2 := ih (fun x hx => h x (by simp [hx]))
    simp only [List.flatMap_cons, List.length_append, List.length_map, List.length_cons]
    omega
theorem ahead_len (p : Pat) (hs : Small p) (i k : Nat) : (aheadL p i k).length ≤ 10100 := by
  unfold aheadL
  have h1 := flat_len (p.msgs.take i) (fun m hm => hs.each m (List.mem_of_mem_take hm))
  have h2 : (p.msgs.take i).length ≤ 100 := by rw [List.length_take]; have := hs.msgs; omega
  rw [List.length_append]
  cases hi : p.msgs[i]? with
  | none => simp only [List.length_nil]; omega
  | some m =>
    have := hs.each m (List.mem_of_getElem? hi)
    simp only [List.length_map, List.length_take]
    omega
theorem met_le (p : Pat) (hs : Small p) (i k : Nat) (who t : Int) : met1 (aheadL p i k) who t ≤ 10100 := Nat.le_trans (met1_le _ _ _) (ahead_len p hs i k)

/-- what has been counted at a message's head, and inside it -/
def curL (p : Pat) (msg at' i : Nat) : List (Int × Int) := if i ≤ msg then aheadL p i 0 else aheadL p msg at'
def innL (p : Pat) (msg at' i k : Nat) : List (Int × Int) := if i < msg then aheadL p i k else aheadL p i (min k at')
theorem cur_zero (p : Pat) (msg at' : Nat) : curL p msg at' 0 = [] := by
  unfold curL
  rw [if_pos (Nat.zero_le _), ahead_start]
theorem cur_inn (p : Pat) (msg at' i : Nat) (h : i ≤ msg) : innL p msg at' i 0 = curL p msg at' i := by
  unfold curL innL
  rw [if_pos h, Nat.zero_min, ite_self]
theorem cur_last (p : Pat) (msg at' i : Nat) (h : msg < i) : curL p msg at' i = aheadL p msg at' := by
  unfold curL
  rw [if_neg (by omega)]
theorem cur_end (p : Pat) (msg at' i : Nat) (h : i ≤ msg) (hl : p.msgs.length ≤ i) : curL p msg at' i = aheadL p msg at' := by
  unfold curL
  rw [if_pos h, ahead_all p i 0 hl, ahead_all p msg at' (by omega)]
theorem inn_end (p : Pat) (msg at' i k : Nat) (m : Msg) (hi : p.msgs[i]? = some m) (h : i ≤ msg) (hk : m.t.length ≤ k) : innL p msg at' i k = curL p msg at' (i + 1) := by
  unfold curL innL
  by_cases hlt : i < msg
  · rw [if_pos hlt, if_pos (by omega), ahead_end p i m hi k hk 0 (.inr rfl)]
  · obtain rfl : i = msg := by omega
    rw [if_neg hlt, if_neg (by omega)]
    unfold aheadL
    rw [hi]
    simp only
    by_cases h2 : k ≤ at'
    · rw [Nat.min_eq_left h2, show m.t.take k = m.t from List.take_of_length_le hk, show m.t.take at' = m.t from List.take_of_length_le (by omega)]
    · rw [Nat.min_eq_right (by omega)]
theorem inn_step (p : Pat) (msg at' i k : Nat) (m : Msg) (who t : Int) (hi : p.msgs[i]? = some m) (h : i ≤ msg) (hk : k < m.t.length) :
    met1 (innL p msg at' i (k + 1)) who t = met1 (innL p msg at' i k) who t + (if (i < msg ∨ k < at') ∧ m.t[k] = t ∧ (who = 2 ∨ m.who = who) then 1 else 0) := by
  unfold innL
  by_cases hlt : i < msg
  · rw [if_pos hlt, if_pos hlt, ahead_succ p i k m hi hk, met1_snoc]
    simp [hlt]
  · rw [if_neg hlt, if_neg hlt]
    by_cases h2 : k < at'
    · rw [Nat.min_eq_left (by omega), Nat.min_eq_left (by omega), ahead_succ p i k m hi hk, met1_snoc]
      simp [h2]
    · rw [Nat.min_eq_right (by omega), Nat.min_eq_right (by omega), if_neg (by omega)]
      rfl
end Go.Proofs.YtelloecgdiocoaaDoor
