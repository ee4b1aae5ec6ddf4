/- Walks: token.Right, Few, token.Same, undertoneref05.rows, msgs, Same, Right. -/
import Derived.Test.YtkcmmcgbkihpfaaDoorW3
set_option linter.unusedSimpArgs false
set_option linter.unusedVariables false
namespace Go.Proofs.YtkcmmcgbkihpfaaDoor
open Go.RowKit

def rightB (p : Pat) : Bool := namedB p.name && toldB p.pre0 && toldB p.pre1 && decide (1 ≤ p.msgs.length) && decide (p.msgs.length ≤ 6) && !p.msgs.any badMsg

/-- A box of four cells. -/
structure Box4 (w : World) (b : Nat) (v0 v1 v2 v3 : Value) : Prop where
  c0 : w.cell? ⟨b, 0, none⟩ = some v0
  c1 : w.cell? ⟨b, 1, none⟩ = some v1
  c2 : w.cell? ⟨b, 2, none⟩ = some v2
  c3 : w.cell? ⟨b, 3, none⟩ = some v3
theorem Box4.of (w : World) (v0 v1 v2 v3 : Value) (T : TypeId) : Box4 (w.alloc (.cells #[v0, v1, v2, v3] T)) w.heap.size v0 v1 v2 v3 :=
  ⟨by simp [go_sem], by simp [go_sem], by simp [go_sem], by simp [go_sem]⟩
theorem Box4.bl {w w1 : World} {b : Nat} {v0 v1 v2 v3 : Value} (h : Box4 w b v0 v1 v2 v3) (hb : Bl w w1) : Box4 w1 b v0 v1 v2 v3 :=
  ⟨hb.cellq h.c0, hb.cellq h.c1, hb.cellq h.c2, hb.cellq h.c3⟩

set_option maxRecDepth 100000 in
set_option maxHeartbeats 1000000 in
theorem right_any (v : Value) (p : Pat) (w : World) (h : SP w v p) :
    Calls Tryd.prog 36 #[v] w fun e w' => e = .returned (.bool (rightB p)) ∧ Bl w w' := by
  obtain ⟨name, pre0, pre1, msgs⟩ := p
  obtain ⟨v0, v1, vm, rfl, hn, h0, h1, hm⟩ := h
  simp only at hn h0 h1 hm
  obtain ⟨am, cm, hv, hl, hc⟩ := hm
  have hm : SM w vm msgs := ⟨am, cm, hv, hl, hc⟩
  subst hv
  clear hc
  go_enter Tryd.func36, Tryd.ntmps36
  go_wp2_with fail
  refine (named_any _ _ hn).mono ?_
  rintro e w1 ⟨rfl, hb1⟩
  have hbox := ((Box4.of w _ _ _ _ 29).bl ((Bl.refl _).alloc _)).bl hb1
  have hcl : w1.cell? ⟨w.heap.size + 1, 0, none⟩ = some (.func (.func 61) #[] #[]) := hb1.cellq (by simp [go_sem])
  have H : Bl w w1 := (((Bl.refl w).alloc _).alloc _).trans hb1
  clear hb1
  cases hN : namedB name
  · go_wp2
    go_ret
    exact ⟨ret_bool (by simp [rightB, hN]), H⟩
  · obtain ⟨c0, c1, c2, c3⟩ := id hbox
    go_wp2_with fail
    refine (told_any _ _ _ (h0.bl H)).mono ?_
    rintro e w2 ⟨rfl, hb2⟩
    clear c0 c1 c2 c3
    replace hbox := hbox.bl hb2
    replace hcl := hb2.cellq hcl
    replace H := H.trans hb2
    clear hb2
    cases hT : toldB pre0
    · go_wp2
      go_ret
      exact ⟨ret_bool (by simp [rightB, hN, hT]), H⟩
    · obtain ⟨c0, c1, c2, c3⟩ := id hbox
      go_wp2_with fail
      refine (told_any _ _ _ (h1.bl H)).mono ?_
      rintro e w3 ⟨rfl, hb3⟩
      clear c0 c1 c2 c3
      replace hbox := hbox.bl hb3
      replace hcl := hb3.cellq hcl
      replace H := H.trans hb3
      clear hb3
      cases hT1 : toldB pre1
      · go_wp2
        go_ret
        exact ⟨ret_bool (by simp [rightB, hN, hT1]), H⟩
      · obtain ⟨c0, c1, c2, c3⟩ := id hbox
        go_wp2_with fail
        · refine (containsFuncM_any _ _ badMsg _ _ _ (hm.bl H) (right2_pays _ _ hcl)).mono ?_
          rintro e w4 ⟨rfl, hb4⟩
          go_wp2
          go_ret
          exact ⟨ret_bool (by have := ‹1 ≤ (msgs.length : Int)›; have := ‹(msgs.length : Int) ≤ 6›; unfold rightB; simp only [hN, hT, hT1, Bool.true_and]; rw [decide_eq_true (by omega), decide_eq_true (by omega)]; rfl), H.trans hb4⟩
        all_goals
          go_ret
          exact ⟨ret_bool (by unfold rightB; simp only [hN, hT, hT1, Bool.true_and]; first | (rw [decide_eq_false (show ¬ 1 ≤ msgs.length by omega)]; rfl) | rw [decide_eq_false (show ¬ msgs.length ≤ 6 by omega), Bool.and_false]; rfl), H⟩

/-- 'Few': a pattern that may be gone through. -/
def fewB (p : Pat) : Bool := (p.msgs.take 11).all (fun m => decide (m.t.length ≤ 20)) && decide (p.msgs.length ≤ 10) && decide (p.name.size ≤ 40) && decide (p.pre0.length ≤ 5) && decide (p.pre1.length ≤ 5)

theorem fewB_long {p : Pat} {k : Nat} (hk : k < p.msgs.length) (h10 : k ≤ 10) (h : 20 < (p.msgs[k]).t.length) : fewB p = false := by
  have : (p.msgs.take 11).all (fun m => decide (m.t.length ≤ 20)) = false := by
    rw [List.all_eq_false]
    exact ⟨p.msgs[k], by rw [List.mem_take_iff_getElem]; exact ⟨k, by omega, rfl⟩, by simp; omega⟩
  simp [fewB, this]
theorem fewB_many {p : Pat} (h : 10 < p.msgs.length) : fewB p = false := by
  have : decide (p.msgs.length ≤ 10) = false := by simp; omega
  simp [fewB, this]
theorem fewB_end {p : Pat} {k : Nat} (hk : p.msgs.length ≤ k) (h : (p.msgs.take k).all (fun m => decide (m.t.length ≤ 20)) = true) :
    fewB p = (decide (p.msgs.length ≤ 10) && decide (p.name.size ≤ 40) && decide (p.pre0.length ≤ 5) && decide (p.pre1.length ≤ 5)) := by
  rw [List.take_of_length_le hk] at h
  by_cases h10 : p.msgs.length ≤ 10
  · rw [fewB, List.take_of_length_le (by omega), h]; rfl
  · rw [fewB_many (by omega), decide_eq_false h10]; rfl

set_option maxRecDepth 100000 in
set_option maxHeartbeats 1000000 in
theorem few_any (v : Value) (p : Pat) (w : World) (h : SP w v p) :
    Calls Tryd.prog 21 #[v] w fun e w' => e = .returned (.bool (fewB p)) ∧ Bl w w' := by
  obtain ⟨name, pre0, pre1, ms⟩ := p
  obtain ⟨v0, v1, vm, rfl, hn, h0, h1, hm⟩ := h
  simp only at hn h0 h1 hm
  obtain ⟨a0, c0, rfl, hl0, hc0⟩ := h0
  obtain ⟨a1, c1, rfl, hl1, hc1⟩ := h1
  obtain ⟨am, cm, rfl, hlm, hcm⟩ := hm
  go_enter Tryd.func21, Tryd.ntmps21
  go_wp2
  go_loop [3] (fun i => ∃ k : Nat, k ≤ ms.length ∧ k ≤ 11 ∧ i = .int .i64 k ∧ Hid ((ms.take k).all (fun m => decide (m.t.length ≤ 20)) = true)) (fun i => ms.length - (intOf i).toNat)
  case atStart => exact ⟨0, by omega, by omega, rfl, rfl⟩
  case round =>
    obtain ⟨k, hk, hk11, rfl, hpre⟩ := hrel
    by_cases hkn : k < ms.length
    · obtain ⟨b, o, u, rfl, hca, hcb, hu⟩ := hcm k hkn
      obtain ⟨a, c, rfl, hl, hc⟩ := hu
      have hb : b < w.heap.size := lt_of_cell hca
      go_wp2
      · have h1 : (k : Int) ≤ 10 := by assumption
        have h2 : 20 < ((ms[k]).t.length : Int) := by assumption
        go_ret
        exact ⟨ret_bool (fewB_long (p := ⟨name, pre0, pre1, ms⟩) hkn (by omega) (by show 20 < ((ms[k]).t).length; omega)).symm, (Bl.refl _).alloc _⟩
      · have h2 : ((ms[k]).t.length : Int) ≤ 20 := by assumption
        go_round
        case rel => exact ⟨k + 1, by omega, by omega, by go_num, by rw [List.take_succ_eq_append_getElem hkn]; simp only [Hid, List.all_append, hpre.out]; simp; omega⟩
        case measure => simp [intOf]; omega
      · go_ret
        exact ⟨ret_bool (fewB_many (p := ⟨name, pre0, pre1, ms⟩) (by show 10 < ms.length; omega)).symm, (Bl.refl _).alloc _⟩
    · have HE := Lib.hid (fewB_end (p := ⟨name, pre0, pre1, ms⟩) (k := k) (by show ms.length ≤ k; omega) hpre.out)
      go_wp2
      all_goals (go_ret; refine ⟨ret_bool ?_, (Bl.refl _).alloc _⟩; rw [HE.out, Bool.eq_iff_iff]; simp only [Bool.and_eq_true, decide_eq_true_eq, Bool.false_eq_true, false_iff, true_iff]; omega)

def sameT (l m : List Int) : Bool := decide (l = m)

set_option maxRecDepth 100000 in
set_option maxHeartbeats 1000000 in
theorem msgs_any (v0 v1 : Value) (l0 l1 : List Msg) (w : World) (h0 : SM w v0 l0) (h1 : SM w v1 l1) :
    Calls Tryd.prog 47 #[v0, v1] w fun e w' => e = .returned (.bool (decide (l0 = l1))) ∧ Dr w w' := by
  obtain ⟨a0, c0, rfl, hl0, hc0⟩ := h0
  obtain ⟨a1, c1, rfl, hl1, hc1⟩ := h1
  by_cases hl : l0.length = l1.length
  · have hd : ((l0.length : Int) != (l1.length : Int)) = false := by simp [hl]
    have hle : l1.length ≤ l0.length ∧ l0.length ≤ l1.length := by omega
    obtain ⟨hle1, hle2⟩ := hle
    have HL : Hid (l0.length = l1.length) := hl
    clear hl
    go_enter Tryd.func47, Tryd.ntmps47
    go_wp2
    go_loopw [5] (fun i wr => ∃ k : Nat, k ≤ l0.length ∧ i = .int .i64 k ∧ Hid (l0.take k = l1.take k) ∧ Dr w wr) (fun i _ => l0.length - (intOf i).toNat)
    case atStart => exact ⟨0, by omega, rfl, rfl, Dr.refl _⟩
    case round =>
      obtain ⟨k, hk, rfl, hP, hD⟩ := hrel
      by_cases hkn : k < l0.length
      · obtain ⟨b, o, u, rfl, hca, hcb, hu⟩ := hc0 k hkn
        obtain ⟨b', o', u', rfl, hca', hcb', hu'⟩ := hc1 k (by omega)
        have hk1 : k < l1.length := by omega
        replace hca := hD.bl.cellq hca
        replace hcb := hD.bl.cellq hcb
        replace hca' := hD.bl.cellq hca'
        replace hcb' := hD.bl.cellq hcb'
        clear hc0 hc1
        generalize hm : l0[k] = m at *
        generalize hm' : l1[k] = m' at *
        have HM := Lib.hid hm
        have HM' := Lib.hid hm'
        clear hm hm'
        by_cases hw : m.who = m'.who
        · have hb1 : (m.who != m'.who) = false := by simp [hw]
          have HW := Lib.hid hw
          clear hw
          go_wp2
          go_quiet ((go_at_call 46; exact Calls.quiet_of (rows_any _ _ m.t m'.t _ (hu.bl (hD.bl.drewN _)) (hu'.bl (hD.bl.drewN _)))))
          go_wp2
          · have ht0 : (!decide (m.t = m'.t)) = true := by assumption
            have ht : decide (m.t = m'.t) = false := by simpa using ht0
            go_ret
            exact ⟨ret_bool (by have := ne_of_at hkn hk1 (by rw [HM.out, HM'.out]; intro e; rw [e] at ht; simp at ht); simp [this]), hD.step _⟩
          · have ht0 : (!decide (m.t = m'.t)) = false := by assumption
            have ht : decide (m.t = m'.t) = true := by simpa using ht0
            go_roundw
            case rel => exact ⟨k + 1, by omega, by go_num, take_step hP.out hkn hk1 (by rw [HM.out, HM'.out]; cases m; cases m'; simp at ht HW; simp [ht]; exact HW.out), hD.step _⟩
            case measure => simp [intOf]; omega
        · have hb1 : (m.who != m'.who) = true := by simp [hw]
          go_wp2
          go_quiet (fail)
          go_wp2
          go_ret
          exact ⟨ret_bool (by have := ne_of_at hkn hk1 (by rw [HM.out, HM'.out]; intro e; exact hw (by rw [e])); simp [this]), hD.step _⟩
      · go_wp2
        go_ret
        refine ⟨ret_bool ?_, hD⟩
        have := HL.out
        have hpre := hP.out
        rw [List.take_of_length_le (by omega), List.take_of_length_le (by omega)] at hpre
        simp [hpre]
  · have hd : ((l0.length : Int) != (l1.length : Int)) = true := by simp; omega
    go_enter Tryd.func47, Tryd.ntmps47
    go_wp2
    go_ret
    exact ⟨ret_bool (by symm; simp; intro h; exact hl (by rw [h])), Dr.refl _⟩


/-- Two patterns are the same. -/
def sameB (p q : Pat) : Bool := decide (p.name = q.name) && decide (p.pre0 = q.pre0) && decide (p.pre1 = q.pre1) && decide (p.msgs = q.msgs)
theorem sameB_iff (p q : Pat) : sameB p q = decide (p = q) := by
  cases p; cases q
  rw [Bool.eq_iff_iff]
  simp [sameB, and_assoc]

theorem str_ne {a b : ByteArray} (h : ¬ a.toList = b.toList) : decide (a = b) = false := by
  rw [decide_eq_false_iff_not]
  intro e
  exact h (by rw [e])
theorem str_of {a b : ByteArray} (h : a.toList = b.toList) : a = b := by
  rw [ByteArray.toList_eq, ByteArray.toList_eq] at h
  exact ByteArray.ext (Array.ext' h)

set_option maxRecDepth 100000 in
set_option maxHeartbeats 1000000 in
theorem refSame_any (v u : Value) (p q : Pat) (w : World) (h : SP w v p) (h' : SP w u q) :
    Calls Tryd.prog 22 #[v, u] w fun e w' => e = .returned (.bool (sameB p q)) ∧ Bl w w' := by
  obtain ⟨name, pre0, pre1, ms⟩ := p
  obtain ⟨name', pre0', pre1', ms'⟩ := q
  obtain ⟨v0, v1, vm, rfl, hn, h0, h1, hm⟩ := h
  obtain ⟨u0, u1, um, rfl, hn', h0', h1', hm'⟩ := h'
  simp only at hn h0 h1 hm hn' h0' h1' hm'
  have b0 : Bl w ((w.alloc (.cells #[.string name, v0, v1, vm] 37)).alloc (.cells #[.string name', u0, u1, um] 37)) := ((Bl.refl w).alloc _).alloc _
  have hbox := (Box4.of w (.string name) v0 v1 vm 37).bl ((Bl.refl _).alloc (.cells #[.string name', u0, u1, um] 37))
  have hbox' := Box4.of (w.alloc (.cells #[.string name, v0, v1, vm] 37)) (.string name') u0 u1 um 37
  rw [size_alloc] at hbox'
  go_enter Tryd.func22, Tryd.ntmps22
  by_cases hN : name = name'
  · subst hN
    go_wp2_with fail
    refine (rows_any _ _ _ _ _ (h0.bl b0) (h0'.bl b0)).mono ?_
    rintro e w1 ⟨rfl, hd1⟩
    have H : Bl w w1 := b0.trans hd1.bl
    replace hbox := hbox.bl hd1.bl
    replace hbox' := hbox'.bl hd1.bl
    clear hd1 b0
    cases hT : decide (pre0 = pre0')
    · go_wp2
      go_ret
      exact ⟨ret_bool (by simp only [sameB, hT, Bool.and_false, Bool.false_and]), H⟩
    · obtain ⟨c0, c1, c2, c3⟩ := id hbox
      obtain ⟨e0, e1, e2, e3⟩ := id hbox'
      go_wp2_with fail
      refine (rows_any _ _ _ _ _ (h1.bl H) (h1'.bl H)).mono ?_
      rintro e w2 ⟨rfl, hd2⟩
      clear c0 c1 c2 c3 e0 e1 e2 e3
      replace H : Bl w w2 := H.trans hd2.bl
      replace hbox := hbox.bl hd2.bl
      replace hbox' := hbox'.bl hd2.bl
      clear hd2
      cases hT1 : decide (pre1 = pre1')
      · go_wp2
        go_ret
        exact ⟨ret_bool (by simp only [sameB, hT1, Bool.and_false, Bool.false_and]), H⟩
      · obtain ⟨c0, c1, c2, c3⟩ := id hbox
        obtain ⟨e0, e1, e2, e3⟩ := id hbox'
        go_wp2_with fail
        refine (msgs_any _ _ _ _ _ (hm.bl H) (hm'.bl H)).mono ?_
        rintro e w3 ⟨rfl, hd3⟩
        go_wp2
        go_ret
        exact ⟨ret_bool (by simp only [sameB, hT, hT1, decide_true, Bool.true_and]), H.trans hd3.bl⟩
  · have hN' : ¬ name.toList = name'.toList := fun e => hN (str_of e)
    go_wp2
    go_ret
    exact ⟨ret_bool (by simp only [sameB, decide_eq_false hN, Bool.false_and]), b0⟩

end Go.Proofs.YtkcmmcgbkihpfaaDoor
