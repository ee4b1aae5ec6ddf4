/- Walks: token.Same, undertoneref05.Right. -/
import Derived.Test.YtelloecgdiocoaaDoorW4
set_option linter.unusedSimpArgs false
set_option linter.unusedVariables false
namespace Go.Proofs.YtelloecgdiocoaaDoor
open Go.RowKit

set_option maxRecDepth 100000 in
set_option maxHeartbeats 1000000 in
theorem sameMsg_any (v u : Value) (m n : Msg) (w : World) (h : SI w v m.t) (h' : SI w u n.t) :
    Calls Tryd.prog 63 #[.agg #[.int .i64 m.who, v], .agg #[.int .i64 n.who, u]] w fun e w' => e = .returned (.bool (decide (m = n))) ∧ Bl w w' := by
  obtain ⟨who, t⟩ := m
  obtain ⟨who', t'⟩ := n
  simp only at h h'
  have b0 : Bl w ((w.alloc (.cells #[.int .i64 who, v] 65)).alloc (.cells #[.int .i64 who', u] 65)) := ((Bl.refl w).alloc _).alloc _
  go_enter Tryd.func63, Tryd.ntmps63
  by_cases hw : who = who'
  · subst hw
    go_wp2_with fail
    refine (equal_any _ _ _ _ _ (h.bl b0) (h'.bl b0)).mono ?_
    rintro e w1 ⟨rfl, hd1⟩
    go_wp2
    go_ret
    exact ⟨ret_bool (by rw [Bool.eq_iff_iff]; simp), b0.trans hd1.bl⟩
  · have hb : (who == who') = false := by simpa using hw
    go_wp2
    go_ret
    exact ⟨ret_bool (by symm; simp [hw]), b0⟩

theorem two_new (w : World) (x y : Value) (T : TypeId) : (w.alloc (.cells #[x, y] T)).cell? ⟨w.heap.size, 0, none⟩ = some x ∧ (w.alloc (.cells #[x, y] T)).cell? ⟨w.heap.size, 1, none⟩ = some y :=
  ⟨by simp [go_sem], by simp [go_sem]⟩

set_option maxRecDepth 100000 in
set_option maxHeartbeats 2000000 in
theorem equalFunc_any (v0 v1 : Value) (l0 l1 : List Msg) (w : World) (h0 : SM w v0 l0) (h1 : SM w v1 l1) :
    Calls Tryd.prog 65 #[v0, v1, .func (.func 63) #[] #[]] w fun e w' => e = .returned (.bool (decide (l0 = l1))) ∧ Bl w w' := by
  obtain ⟨a0, c0, rfl, hl0, hc0⟩ := h0
  obtain ⟨a1, c1, rfl, hl1, hc1⟩ := h1
  by_cases hl : l0.length = l1.length
  · have hd : ((l0.length : Int) != (l1.length : Int)) = false := by simp [hl]
    have hle : l1.length ≤ l0.length ∧ l0.length ≤ l1.length := by omega
    obtain ⟨hle1, hle2⟩ := hle
    have HL : Hid (l0.length = l1.length) := hl
    clear hl
    go_enter Tryd.func65, Tryd.ntmps65
    go_wp2
    go_loopw [17] (fun i wr => ∃ k : Nat, k ≤ l0.length ∧ i = .int .i64 k ∧ Hid (l0.take k = l1.take k) ∧ Bl w wr) (fun i _ => l0.length - (intOf i).toNat)
    case atStart => exact ⟨0, by omega, rfl, rfl, Bl.refl _⟩
    case round =>
      obtain ⟨k, hk, rfl, hP, hb⟩ := hrel
      by_cases hkn : k < l0.length
      · obtain ⟨b, o, u, rfl, hca, hcb, hu⟩ := hc0 k hkn
        obtain ⟨b', o', u', rfl, hca', hcb', hu'⟩ := hc1 k (by omega)
        have hk1 : k < l1.length := by omega
        replace hca := hb.cellq hca
        replace hcb := hb.cellq hcb
        replace hca' := hb.cellq hca'
        replace hcb' := hb.cellq hcb'
        have hlt := lt_of_cell hca
        have hlt' := lt_of_cell hca'
        clear hc0 hc1
        generalize hm : l0[k] = m at *
        generalize hm' : l1[k] = m' at *
        have HM := Lib.hid hm
        have HM' := Lib.hid hm'
        clear hm hm'
        obtain ⟨ua, uc, rfl⟩ := hu.form
        obtain ⟨ua', uc', rfl⟩ := hu'.form
        have b1 : Bl w ((wr.alloc (.cells #[.int .i64 m.who, .slice ua m.t.length uc] 65)).alloc (.cells #[.int .i64 m'.who, .slice ua' m'.t.length uc'] 65)) := (hb.alloc _).alloc _
        go_wp2_with fail
        refine (sameMsg_any _ _ m m' _ (hu.bl b1) (hu'.bl b1)).mono ?_
        rintro e w1 ⟨rfl, hb1⟩
        go_wp2
        · have ht0 : (!decide (m = m')) = true := by assumption
          go_ret
          exact ⟨ret_bool (by have := ne_of_at hkn hk1 (by rw [HM.out, HM'.out]; simpa using ht0); simp [this]), b1.trans hb1⟩
        · have ht0 : (!decide (m = m')) = false := by assumption
          go_roundw
          case rel => exact ⟨k + 1, by omega, by go_num, take_step hP.out hkn hk1 (by rw [HM.out, HM'.out]; simpa using ht0), b1.trans hb1⟩
          case measure => simp [intOf]; omega
      · go_wp2
        go_ret
        refine ⟨ret_bool ?_, hb⟩
        have := HL.out
        have hpre := hP.out
        rw [List.take_of_length_le (by omega), List.take_of_length_le (by omega)] at hpre
        simp [hpre]
  · have hd : ((l0.length : Int) != (l1.length : Int)) = true := by simp; omega
    go_enter Tryd.func65, Tryd.ntmps65
    go_wp2
    go_ret
    exact ⟨ret_bool (by symm; simp; intro h; exact hl (by rw [h])), Bl.refl _⟩

set_option maxRecDepth 100000 in
set_option maxHeartbeats 1000000 in
theorem same_any (v u : Value) (p q : Pat) (w : World) (h : SP w v p) (h' : SP w u q) :
    Calls Tryd.prog 36 #[v, u] w fun e w' => e = .returned (.bool (sameB p q)) ∧ Bl w w' := by
  obtain ⟨name, pre0, pre1, ms⟩ := p
  obtain ⟨name', pre0', pre1', ms'⟩ := q
  obtain ⟨v0, v1, vm, rfl, hn, h0, h1, hm⟩ := h
  obtain ⟨u0, u1, um, rfl, hn', h0', h1', hm'⟩ := h'
  simp only at hn h0 h1 hm hn' h0' h1' hm'
  have b0 : Bl w ((w.alloc (.cells #[.string name, v0, v1, vm] 29)).alloc (.cells #[.string name', u0, u1, um] 29)) := ((Bl.refl w).alloc _).alloc _
  have hbox := (Box4.of w (.string name) v0 v1 vm 29).bl ((Bl.refl _).alloc (.cells #[.string name', u0, u1, um] 29))
  have hbox' := Box4.of (w.alloc (.cells #[.string name, v0, v1, vm] 29)) (.string name') u0 u1 um 29
  rw [size_alloc] at hbox'
  go_enter Tryd.func36, Tryd.ntmps36
  by_cases hN : name = name'
  · subst hN
    go_wp2_with fail
    refine (equal_any _ _ _ _ _ (h0.bl b0) (h0'.bl b0)).mono ?_
    rintro e w1 ⟨rfl, hd1⟩
    have H : Bl w w1 := b0.trans hd1.bl
    replace hbox := hbox.bl hd1.bl
    replace hbox' := hbox'.bl hd1.bl
    clear hd1 b0
    cases hT : decide (pre0 = pre0')
    · go_wp2
      go_ret
      exact ⟨ret_bool (by simp only [sameB, hT, Bool.and_false, Bool.false_and]), H⟩
    · obtain ⟨c0, c1, c2, c3⟩ := id hbox
      obtain ⟨e0, e1, e2, e3⟩ := id hbox'
      go_wp2_with fail
      refine (equal_any _ _ _ _ _ (h1.bl H) (h1'.bl H)).mono ?_
      rintro e w2 ⟨rfl, hd2⟩
      clear c0 c1 c2 c3 e0 e1 e2 e3
      replace H : Bl w w2 := H.trans hd2.bl
      replace hbox := hbox.bl hd2.bl
      replace hbox' := hbox'.bl hd2.bl
      clear hd2
      cases hT1 : decide (pre1 = pre1')
      · go_wp2
        go_ret
        exact ⟨ret_bool (by simp only [sameB, hT1, Bool.and_false, Bool.false_and]), H⟩
      · obtain ⟨c0, c1, c2, c3⟩ := id hbox
        obtain ⟨e0, e1, e2, e3⟩ := id hbox'
        go_wp2_with fail
        refine (equalFunc_any _ _ _ _ _ (hm.bl H) (hm'.bl H)).mono ?_
        rintro e w3 ⟨rfl, hd3⟩
        go_wp2
        go_ret
        exact ⟨ret_bool (by simp only [sameB, hT, hT1, decide_true, Bool.true_and]), H.trans hd3⟩
  · have hN' : ¬ name.toList = name'.toList := fun e => hN (str_of e)
    go_wp2
    go_ret
    exact ⟨ret_bool (by simp only [sameB, decide_eq_false hN, Bool.false_and]), b0⟩

end Go.Proofs.YtelloecgdiocoaaDoor
