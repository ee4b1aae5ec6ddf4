/- Walks: slices.IndexFunc and ContainsFunc of ints and of messages, at whatever function value pays its predicate. -/
import Derived.Test.YtelloecgdiocoaaDoorW1
set_option linter.unusedSimpArgs false
set_option linter.unusedVariables false
namespace Go.Proofs.YtelloecgdiocoaaDoor
open Go.RowKit

/-- What a function value must do: for every int it returns p of it, in every later world. -/
structure Pays (g : Nat) (cap : Array Value) (p : Int → Bool) (w : World) : Prop where
  enters : ∀ (args : Array Value) (W : World), (callFunc g args).run Tryd.prog W = .ok (.enter g args) W
  calls : ∀ (x : Int) (W : World), Bl w W → Calls Tryd.prog g (#[.int .i64 x] ++ cap) W fun e W' => e = .returned (.bool (p x)) ∧ Bl W W'

/-- The same of a message. -/
structure PaysM (g : Nat) (cap : Array Value) (p : Msg → Bool) (w : World) : Prop where
  enters : ∀ (args : Array Value) (W : World), (callFunc g args).run Tryd.prog W = .ok (.enter g args) W
  calls : ∀ (m : Msg) (v : Value) (W : World), Bl w W → SI W v m.t → Calls Tryd.prog g (#[.agg #[.int .i64 m.who, v]] ++ cap) W fun e W' => e = .returned (.bool (p m)) ∧ Bl W W'

theorem Pays.bl {g : Nat} {cap : Array Value} {p : Int → Bool} {w w' : World} (h : Pays g cap p w) (hb : Bl w w') : Pays g cap p w' :=
  ⟨h.enters, fun x W hW => h.calls x W (hb.trans hW)⟩
theorem PaysM.bl {g : Nat} {cap : Array Value} {p : Msg → Bool} {w w' : World} (h : PaysM g cap p w) (hb : Bl w w') : PaysM g cap p w' :=
  ⟨h.enters, fun x v W hW => h.calls x v W (hb.trans hW)⟩

def idxP {α : Type} (p : α → Bool) (l : List α) : Int := if l.any p then (l.findIdx p : Int) else -1
theorem idxP_hit {α : Type} {p : α → Bool} {l : List α} {k : Nat} (hk : k < l.length) (hpre : ∀ x ∈ l.take k, p x = false) (h : p l[k] = true) : idxP p l = k := by
  have h1 : l.any p = true := List.any_eq_true.2 ⟨l[k], List.getElem_mem hk, h⟩
  have h2 : l.findIdx p = k := by
    rw [List.findIdx_eq hk]
    refine ⟨h, fun j hj => ?_⟩
    have := hpre l[j] (by rw [List.mem_take_iff_getElem]; exact ⟨j, by omega, rfl⟩)
    simpa using this
  simp [idxP, h1, h2]
theorem idxP_none {α : Type} {p : α → Bool} {l : List α} {k : Nat} (hk : l.length ≤ k) (hpre : ∀ x ∈ l.take k, p x = false) : idxP p l = -1 := by
  rw [List.take_of_length_le hk] at hpre
  have h1 : l.any p = false := by rw [List.any_eq_false]; intro x hx; simp [hpre x hx]
  simp [idxP, h1]
theorem idxP_ge {α : Type} (p : α → Bool) (l : List α) : decide (0 ≤ idxP p l) = l.any p := by
  unfold idxP
  cases h : l.any p
  · simp
  · simp
theorem take_all_step {α : Type} {p : α → Bool} {l : List α} {k : Nat} (hk : k < l.length) (hpre : ∀ x ∈ l.take k, p x = false) (h : p l[k] = false) : ∀ x ∈ l.take (k + 1), p x = false := by
  rw [List.take_succ_eq_append_getElem hk]
  intro x hx
  rcases List.mem_append.1 hx with hx | hx
  · exact hpre x hx
  · simp at hx; rw [hx]; exact h

set_option maxRecDepth 100000 in
set_option maxHeartbeats 400000 in
theorem indexFunc_any (g : Nat) (cap : Array Value) (p : Int → Bool) (v : Value) (l : List Int) (w : World) (h : SI w v l) (hf : Pays g cap p w) :
    Calls Tryd.prog 80 #[v, .func (.func g) #[] cap] w fun e w' => e = .returned (.int .i64 (idxP p l)) ∧ Bl w w' := by
  obtain ⟨a, c, rfl, hl, hc⟩ := h
  have he := hf.enters
  go_enter Tryd.func80, Tryd.ntmps80
  go_wp2
  go_loopw [8] (fun i wr => ∃ k : Nat, k ≤ l.length ∧ i = .int .i64 k ∧ Hid (∀ x ∈ l.take k, p x = false) ∧ Bl w wr) (fun i _ => l.length - (intOf i).toNat)
  case atStart => exact ⟨0, by omega, rfl, by simp [Hid], Bl.refl _⟩
  case round =>
    obtain ⟨k, hk, rfl, hpre, hb⟩ := hrel
    by_cases hkn : k < l.length
    · obtain ⟨b, o, rfl, hca⟩ := hc k hkn
      have ha := hb.cellq hca
      go_wp2_with fail
      refine (hf.calls _ _ hb).mono ?_
      rintro e W ⟨rfl, hb2⟩
      go_wp2
      · go_ret
        exact ⟨ret_int (idxP_hit hkn hpre.out ‹_›).symm, hb.trans hb2⟩
      · go_roundw
        case rel => exact ⟨k + 1, by omega, by go_num, take_all_step hkn hpre.out ‹_›, hb.trans hb2⟩
        case measure => simp [intOf]; omega
    · go_wp2
      go_ret
      exact ⟨ret_int (idxP_none (by omega) hpre.out).symm, hb⟩

set_option maxRecDepth 100000 in
set_option maxHeartbeats 400000 in
theorem containsFunc_any (g : Nat) (cap : Array Value) (p : Int → Bool) (v : Value) (l : List Int) (w : World) (h : SI w v l) (hf : Pays g cap p w) :
    Calls Tryd.prog 56 #[v, .func (.func g) #[] cap] w fun e w' => e = .returned (.bool (l.any p)) ∧ Bl w w' := by
  go_enter Tryd.func56, Tryd.ntmps56
  go_wp2_with fail
  refine (indexFunc_any _ _ _ _ _ _ h hf).mono ?_
  rintro e W ⟨rfl, hb2⟩
  go_wp2
  go_ret
  exact ⟨ret_bool (idxP_ge p l), hb2⟩

set_option maxRecDepth 100000 in
set_option maxHeartbeats 400000 in
theorem indexFuncM_any (g : Nat) (cap : Array Value) (p : Msg → Bool) (v : Value) (l : List Msg) (w : World) (h : SM w v l) (hf : PaysM g cap p w) :
    Calls Tryd.prog 81 #[v, .func (.func g) #[] cap] w fun e w' => e = .returned (.int .i64 (idxP p l)) ∧ Bl w w' := by
  obtain ⟨a, c, rfl, hl, hc⟩ := h
  have he := hf.enters
  go_enter Tryd.func81, Tryd.ntmps81
  go_wp2
  go_loopw [8] (fun i wr => ∃ k : Nat, k ≤ l.length ∧ i = .int .i64 k ∧ Hid (∀ x ∈ l.take k, p x = false) ∧ Bl w wr) (fun i _ => l.length - (intOf i).toNat)
  case atStart => exact ⟨0, by omega, rfl, by simp [Hid], Bl.refl _⟩
  case round =>
    obtain ⟨k, hk, rfl, hpre, hb⟩ := hrel
    by_cases hkn : k < l.length
    · obtain ⟨b, o, u, rfl, hca, hcb, hu⟩ := hc k hkn
      have ha := hb.cellq hca
      have ha' := hb.cellq hcb
      go_wp2_with fail
      refine (hf.calls l[k] _ _ hb (hu.bl hb)).mono ?_
      rintro e W ⟨rfl, hb2⟩
      go_wp2
      · go_ret
        exact ⟨ret_int (idxP_hit hkn hpre.out ‹_›).symm, hb.trans hb2⟩
      · go_roundw
        case rel => exact ⟨k + 1, by omega, by go_num, take_all_step hkn hpre.out ‹_›, hb.trans hb2⟩
        case measure => simp [intOf]; omega
    · go_wp2
      go_ret
      exact ⟨ret_int (idxP_none (by omega) hpre.out).symm, hb⟩

set_option maxRecDepth 100000 in
set_option maxHeartbeats 400000 in
theorem containsFuncM_any (g : Nat) (cap : Array Value) (p : Msg → Bool) (v : Value) (l : List Msg) (w : World) (h : SM w v l) (hf : PaysM g cap p w) :
    Calls Tryd.prog 61 #[v, .func (.func g) #[] cap] w fun e w' => e = .returned (.bool (l.any p)) ∧ Bl w w' := by
  go_enter Tryd.func61, Tryd.ntmps61
  go_wp2_with fail
  refine (indexFuncM_any _ _ _ _ _ _ h hf).mono ?_
  rintro e W ⟨rfl, hb2⟩
  go_wp2
  go_ret
  exact ⟨ret_bool (idxP_ge p l), hb2⟩

end Go.Proofs.YtelloecgdiocoaaDoor
