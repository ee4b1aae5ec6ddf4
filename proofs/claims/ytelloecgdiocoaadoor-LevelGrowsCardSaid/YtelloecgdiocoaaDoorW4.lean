/- Walks: token.Right, Few, token.Same, undertoneref05.rows, msgs, Same, Right. -/
import Derived.Test.YtelloecgdiocoaaDoorW3
set_option linter.unusedSimpArgs false
set_option linter.unusedVariables false
namespace Go.Proofs.YtelloecgdiocoaaDoor
open Go.RowKit

def rightB (p : Pat) : Bool := namedB p.name && toldB p.pre0 && toldB p.pre1 && decide (1 ≤ p.msgs.length) && decide (p.msgs.length ≤ 6) && !p.msgs.any badMsg

/-- A box of four cells. -/
structure Box4 (w : World) (b : Nat) (v0 v1 v2 v3 : Value) : Prop where
  c0 : w.cell? ⟨b, 0, none⟩ = some v0
  c1 : w.cell? ⟨b, 1, none⟩ = some v1
  c2 : w.cell? ⟨b, 2, none⟩ = some v2
  c3 : w.cell? ⟨b, 3, none⟩ = some v3
theorem Box4.of (w : World) (v0 v1 v2 v3 : Value) (T : TypeId) : Box4 (w.alloc (.cells #[v0, v1, v2, v3] T)) w.heap.size v0 v1 v2 v3 :=
  ⟨by simp [go_sem], by simp [go_sem], by simp [go_sem], by simp [go_sem]⟩
theorem Box4.bl {w w1 : World} {b : Nat} {v0 v1 v2 v3 : Value} (h : Box4 w b v0 v1 v2 v3) (hb : Bl w w1) : Box4 w1 b v0 v1 v2 v3 :=
  ⟨hb.cellq h.c0, hb.cellq h.c1, hb.cellq h.c2, hb.cellq h.c3⟩

set_option maxRecDepth 100000 in
set_option maxHeartbeats 1000000 in
theorem right_any (v : Value) (p : Pat) (w : World) (h : SP w v p) :
    Calls Tryd.prog 32 #[v] w fun e w' => e = .returned (.bool (rightB p)) ∧ Bl w w' := by
  obtain ⟨name, pre0, pre1, msgs⟩ := p
  obtain ⟨v0, v1, vm, rfl, hn, h0, h1, hm⟩ := h
  simp only at hn h0 h1 hm
  obtain ⟨am, cm, hv, hl, hc⟩ := hm
  have hm : SM w vm msgs := ⟨am, cm, hv, hl, hc⟩
  subst hv
  clear hc
  go_enter Tryd.func32, Tryd.ntmps32
  go_wp2_with fail
  refine (named_any _ _ hn).mono ?_
  rintro e w1 ⟨rfl, hb1⟩
  have hbox := ((Box4.of w _ _ _ _ 29).bl ((Bl.refl _).alloc _)).bl hb1
  have hcl : w1.cell? ⟨w.heap.size + 1, 0, none⟩ = some (.func (.func 57) #[] #[]) := hb1.cellq (by simp [go_sem])
  have H : Bl w w1 := (((Bl.refl w).alloc _).alloc _).trans hb1
  clear hb1
  cases hN : namedB name
  · go_wp2
    go_ret
    exact ⟨ret_bool (by simp [rightB, hN]), H⟩
  · obtain ⟨c0, c1, c2, c3⟩ := id hbox
    go_wp2_with fail
    refine (told_any _ _ _ (h0.bl H)).mono ?_
    rintro e w2 ⟨rfl, hb2⟩
    clear c0 c1 c2 c3
    replace hbox := hbox.bl hb2
    replace hcl := hb2.cellq hcl
    replace H := H.trans hb2
    clear hb2
    cases hT : toldB pre0
    · go_wp2
      go_ret
      exact ⟨ret_bool (by simp [rightB, hN, hT]), H⟩
    · obtain ⟨c0, c1, c2, c3⟩ := id hbox
      go_wp2_with fail
      refine (told_any _ _ _ (h1.bl H)).mono ?_
      rintro e w3 ⟨rfl, hb3⟩
      clear c0 c1 c2 c3
      replace hbox := hbox.bl hb3
      replace hcl := hb3.cellq hcl
      replace H := H.trans hb3
      clear hb3
      cases hT1 : toldB pre1
      · go_wp2
        go_ret
        exact ⟨ret_bool (by simp [rightB, hN, hT1]), H⟩
      · obtain ⟨c0, c1, c2, c3⟩ := id hbox
        go_wp2_with fail
        · refine (containsFuncM_any _ _ badMsg _ _ _ (hm.bl H) (right2_pays _ _ hcl)).mono ?_
          rintro e w4 ⟨rfl, hb4⟩
          go_wp2
          go_ret
          exact ⟨ret_bool (by have := ‹1 ≤ (msgs.length : Int)›; have := ‹(msgs.length : Int) ≤ 6›; unfold rightB; simp only [hN, hT, hT1, Bool.true_and]; rw [decide_eq_true (by omega), decide_eq_true (by omega)]; rfl), H.trans hb4⟩
        all_goals
          go_ret
          exact ⟨ret_bool (by unfold rightB; simp only [hN, hT, hT1, Bool.true_and]; first | (rw [decide_eq_false (show ¬ 1 ≤ msgs.length by omega)]; rfl) | rw [decide_eq_false (show ¬ msgs.length ≤ 6 by omega), Bool.and_false]; rfl), H⟩

/-- 'Few': a pattern that may be gone through. -/
def fewB (p : Pat) : Bool := (p.msgs.take 11).all (fun m => decide (m.t.length ≤ 20)) && decide (p.msgs.length ≤ 10) && decide (p.name.size ≤ 40) && decide (p.pre0.length ≤ 5) && decide (p.pre1.length ≤ 5)

theorem fewB_long {p : Pat} {k : Nat} (hk : k < p.msgs.length) (h10 : k ≤ 10) (h : 20 < (p.msgs[k]).t.length) : fewB p = false := by
  have : (p.msgs.take 11).all (fun m => decide (m.t.length ≤ 20)) = false := by
    rw [List.all_eq_false]
    exact ⟨p.msgs[k], by rw [List.mem_take_iff_getElem]; exact ⟨k, by omega, rfl⟩, by simp; omega⟩
  simp [fewB, this]
theorem fewB_many {p : Pat} (h : 10 < p.msgs.length) : fewB p = false := by
  have : decide (p.msgs.length ≤ 10) = false := by simp; omega
  simp [fewB, this]
theorem fewB_end {p : Pat} {k : Nat} (hk : p.msgs.length ≤ k) (h : (p.msgs.take k).all (fun m => decide (m.t.length ≤ 20)) = true) :
    fewB p = (decide (p.msgs.length ≤ 10) && decide (p.name.size ≤ 40) && decide (p.pre0.length ≤ 5) && decide (p.pre1.length ≤ 5)) := by
  rw [List.take_of_length_le hk] at h
  by_cases h10 : p.msgs.length ≤ 10
  · rw [fewB, List.take_of_length_le (by omega), h]; rfl
  · rw [fewB_many (by omega), decide_eq_false h10]; rfl

set_option maxRecDepth 100000 in
set_option maxHeartbeats 1000000 in
theorem few_any (v : Value) (p : Pat) (w : World) (h : SP w v p) :
    Calls Tryd.prog 20 #[v] w fun e w' => e = .returned (.bool (fewB p)) ∧ Bl w w' := by
  obtain ⟨name, pre0, pre1, ms⟩ := p
  obtain ⟨v0, v1, vm, rfl, hn, h0, h1, hm⟩ := h
  simp only at hn h0 h1 hm
  obtain ⟨a0, c0, rfl, hl0, hc0⟩ := h0
  obtain ⟨a1, c1, rfl, hl1, hc1⟩ := h1
  obtain ⟨am, cm, rfl, hlm, hcm⟩ := hm
  go_enter Tryd.func20, Tryd.ntmps20
  go_wp2
  go_loop [3] (fun i => ∃ k : Nat, k ≤ ms.length ∧ k ≤ 11 ∧ i = .int .i64 k ∧ Hid ((ms.take k).all (fun m => decide (m.t.length ≤ 20)) = true)) (fun i => ms.length - (intOf i).toNat)
  case atStart => exact ⟨0, by omega, by omega, rfl, rfl⟩
  case round =>
    obtain ⟨k, hk, hk11, rfl, hpre⟩ := hrel
    by_cases hkn : k < ms.length
    · obtain ⟨b, o, u, rfl, hca, hcb, hu⟩ := hcm k hkn
      obtain ⟨a, c, rfl, hl, hc⟩ := hu
      have hb : b < w.heap.size := lt_of_cell hca
      go_wp2
      · have h1 : (k : Int) ≤ 10 := by assumption
        have h2 : 20 < ((ms[k]).t.length : Int) := by assumption
        go_ret
        exact ⟨ret_bool (fewB_long (p := ⟨name, pre0, pre1, ms⟩) hkn (by omega) (by show 20 < ((ms[k]).t).length; omega)).symm, (Bl.refl _).alloc _⟩
      · have h2 : ((ms[k]).t.length : Int) ≤ 20 := by assumption
        go_round
        case rel => exact ⟨k + 1, by omega, by omega, by go_num, by rw [List.take_succ_eq_append_getElem hkn]; simp only [Hid, List.all_append, hpre.out]; simp; omega⟩
        case measure => simp [intOf]; omega
      · go_ret
        exact ⟨ret_bool (fewB_many (p := ⟨name, pre0, pre1, ms⟩) (by show 10 < ms.length; omega)).symm, (Bl.refl _).alloc _⟩
    · have HE := Lib.hid (fewB_end (p := ⟨name, pre0, pre1, ms⟩) (k := k) (by show ms.length ≤ k; omega) hpre.out)
      go_wp2
      all_goals (go_ret; refine ⟨ret_bool ?_, (Bl.refl _).alloc _⟩; rw [HE.out, Bool.eq_iff_iff]; simp only [Bool.and_eq_true, decide_eq_true_eq, Bool.false_eq_true, false_iff, true_iff]; omega)

def sameT (l m : List Int) : Bool := decide (l = m)

/-- Two patterns are the same. -/
def sameB (p q : Pat) : Bool := decide (p.name = q.name) && decide (p.pre0 = q.pre0) && decide (p.pre1 = q.pre1) && decide (p.msgs = q.msgs)
theorem sameB_iff (p q : Pat) : sameB p q = decide (p = q) := by
  cases p; cases q
  rw [Bool.eq_iff_iff]
  simp [sameB, and_assoc]

theorem str_ne {a b : ByteArray} (h : ¬ a.toList = b.toList) : decide (a = b) = false := by
  rw [decide_eq_false_iff_not]
  intro e
  exact h (by rw [e])
theorem str_of {a b : ByteArray} (h : a.toList = b.toList) : a = b := by
  rw [ByteArray.toList_eq, ByteArray.toList_eq] at h
  exact ByteArray.ext (Array.ext' h)

end Go.Proofs.YtelloecgdiocoaaDoor
