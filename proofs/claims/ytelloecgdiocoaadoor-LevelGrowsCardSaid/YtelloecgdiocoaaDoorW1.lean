/- Walks: token.names, token.Name, undertoneref05.name, slices.Equal of ints, told. -/
import Derived.Test.YtelloecgdiocoaaDoorProg
import Derived.Test.YtelloecgdiocoaaDoorRep
import Derived.Deep.QuietTactic
import Derived.BigQuiet
set_option linter.unusedSimpArgs false
set_option linter.unusedVariables false
namespace Go.Proofs.YtelloecgdiocoaaDoor
open Go.RowKit

def bs (l : List UInt8) : ByteArray := ⟨l.toArray⟩

/-- A token's text, as bytes. -/
def tokName (t : Int) : ByteArray :=
  if t = 1 then ⟨#[101]⟩ else if t = 2 then ⟨#[115]⟩ else if t = 3 then ⟨#[101, 101]⟩ else if t = 4 then ⟨#[101, 115]⟩
  else if t = 5 then ⟨#[115, 101]⟩ else if t = 6 then ⟨#[115, 115]⟩ else if t = 7 then ⟨#[112, 115, 107]⟩ else ⟨#[63]⟩

def namesVal : Value := .agg #[.string ⟨#[63]⟩, .string ⟨#[101]⟩, .string ⟨#[115]⟩, .string ⟨#[101, 101]⟩, .string ⟨#[101, 115]⟩, .string ⟨#[115, 101]⟩, .string ⟨#[115, 115]⟩, .string ⟨#[112, 115, 107]⟩]

set_option maxHeartbeats 400000 in
theorem names_any (w : World) : Calls Tryd.prog 89 #[] w fun e w' => e = .returned namesVal ∧ Bl w w' := by
  go_enter Tryd.func89, Tryd.ntmps89
  go_wp2
  exact bodyPost_ret (v := namesVal) (by simp [results, Tryd.results89, go_sem, namesVal]) rfl ⟨rfl, (Bl.refl _).alloc _⟩

set_option maxHeartbeats 400000 in
theorem refname_any (t : Int) (w : World) : Calls Tryd.prog 45 #[.int .i64 t] w fun e w' => e = .returned (.string (tokName t)) ∧ w = w' := by
  go_enter Tryd.func45, Tryd.ntmps45
  go_wp2
  all_goals (go_ret; refine ⟨ret_str ?_, rfl⟩; simp_all [tokName])

set_option maxHeartbeats 400000 in
theorem equal_any (v0 v1 : Value) (l0 l1 : List Int) (w : World) (h0 : SI w v0 l0) (h1 : SI w v1 l1) :
    Calls Tryd.prog 64 #[v0, v1] w fun e w' => e = .returned (.bool (decide (l0 = l1))) ∧ Dr w w' := by
  obtain ⟨a0, c0, rfl, hl0, hc0⟩ := h0
  obtain ⟨a1, c1, rfl, hl1, hc1⟩ := h1
  by_cases hl : l0.length = l1.length
  · have hd : ((l0.length : Int) != (l1.length : Int)) = false := by simp [hl]
    have hle : l1.length ≤ l0.length ∧ l0.length ≤ l1.length := by omega
    obtain ⟨hle1, hle2⟩ := hle
    have HL : Hid (l0.length = l1.length) := hl
    clear hl
    go_enter Tryd.func64, Tryd.ntmps64
    go_wp2
    go_loopw [13] (fun i wr => ∃ k : Nat, k ≤ l0.length ∧ i = .int .i64 k ∧ l0.take k = l1.take k ∧ Dr w wr) (fun i _ => l0.length - (intOf i).toNat)
    case atStart => exact ⟨0, by omega, rfl, rfl, Dr.refl _⟩
    case round =>
      obtain ⟨k, hk, rfl, hpre, n0, rfl⟩ := hrel
      by_cases hkn : k < l0.length
      · obtain ⟨b, o, rfl, hca⟩ := hc0 k hkn
        obtain ⟨b', o', rfl, hcb⟩ := hc1 k (by omega)
        have hk1 : k < l1.length := by omega
        have hP : Hid (l0.take k = l1.take k) := hpre
        clear hpre
        go_wp2
        go_quiet (fail)
        go_wp2
        · go_ret
          have hne : (l0[k] != l1[k]) = true := by assumption
          exact ⟨ret_bool (by have := ne_of_at hkn hk1 (by simpa using hne); simp [this]), Dr.step ⟨n0, rfl⟩ _⟩
        · go_roundw
          case rel => exact ⟨k + 1, by omega, by go_num, take_step hP.out hkn hk1 (by simpa using (show (l0[k] != l1[k]) = false by assumption)), ⟨_, rfl⟩⟩
          case measure => simp [intOf]; omega
      · go_wp2
        go_ret
        refine ⟨ret_bool ?_, n0, rfl⟩
        have := HL.out
        rw [List.take_of_length_le (by omega), List.take_of_length_le (by omega)] at hpre
        simp [hpre]
  · have hd : ((l0.length : Int) != (l1.length : Int)) = true := by simp; omega
    go_enter Tryd.func64, Tryd.ntmps64
    go_wp2
    go_ret
    exact ⟨ret_bool (by symm; simp; intro h; exact hl (by rw [h])), Dr.refl _⟩

end Go.Proofs.YtelloecgdiocoaaDoor
