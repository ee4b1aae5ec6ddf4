/- Walks: valid's OneWay, and its state: the end. -/
import Derived.Test.YtelloecgdiocoaaDoorV6
set_option linter.unusedSimpArgs false
set_option linter.unusedVariables false
namespace Go.Proofs.YtelloecgdiocoaaDoor
open Go.RowKit Go.Sort

set_option maxHeartbeats 1000000 in
theorem oneWay_any (v : Value) (p : Pat) (w : World) (h : SP w v p) :
    Calls Tryd.prog 44 #[v] w fun e w' => e = .returned (.bool (decide (p.msgs.length = 1))) ∧ Bl w w' := by
  obtain ⟨name, pre0, pre1, ms⟩ := p
  obtain ⟨v0, v1, vm, rfl, hn, h0, h1, hm⟩ := h
  simp only at hn h0 h1 hm
  obtain ⟨am, cm, rfl⟩ := hm.form
  have hlm := hm.len
  go_enter Tryd.func44, Tryd.ntmps44
  go_wp2
  go_ret
  exact ⟨ret_bool (by rw [Bool.eq_iff_iff]; simp; omega), (Bl.refl _).alloc _⟩

/-- the first message's sender -/
theorem SM.head {w : World} {a : Option Addr} {n c : Nat} {l : List Msg} (h : SM w (.slice a n c) l) (hl : 0 < l.length) : ∃ b o, a = some ⟨b, o, none⟩ ∧ w.cell? ⟨b, o, none⟩ = some (.int .i64 (l.headD ⟨0, []⟩).who) := by
  obtain ⟨a', c', e, _, hc⟩ := h
  injection e with e1 _ _
  obtain ⟨b, o, u, ha, h1, _⟩ := hc 0 hl
  refine ⟨b, o, e1.trans ha, ?_⟩
  simp only [Nat.zero_mul, Nat.add_zero] at h1
  rw [h1]
  cases l with
  | nil => simp at hl
  | cons m r => rfl

def endB (s : St) (p : Pat) (who : Int) : Bool := (decide (p.msgs.length ≠ 1) || decide ((p.msgs.headD ⟨0, []⟩).who = who)) && decide (0 < sealS s who)
def endF (s : St) (p : Pat) : Nat → Int
  | 0 => if endB s p 0 then sealS s 0 else if endB s p 1 then sealS s 1 else 0
  | 1 => if endB s p 1 then sealS s 1 else 0
  | _ => 0

set_option maxRecDepth 100000 in
set_option maxHeartbeats 4000000 in
theorem end_any (s : St) (p : Pat) (v : Value) (hp : 1 ≤ p.msgs.length) (B : Nat) (w : World) (hb : BoxAt w B (stV s) 106) (hv : SP w v p) :
    Calls Tryd.prog 75 #[.pointer (some ⟨B, 0, none⟩), v] w fun e w' => e = .returned (.int .i64 (endS s p)) ∧ Bl w w' := by
  obtain ⟨name, pre0, pre1, ms⟩ := p
  have hv0 := hv
  obtain ⟨v0, v1, vm, rfl, hn, h0, h1, hm⟩ := hv
  simp only at hn h0 h1 hm hp
  obtain ⟨a0, c0, rfl⟩ := h0.form
  obtain ⟨a1, c1, rfl⟩ := h1.form
  obtain ⟨am, cm, rfl⟩ := hm.form
  have hlm := hm.len
  clear h0 h1
  go_enter Tryd.func75, Tryd.ntmps75
  have y := BoxAt.new w #[.string name, .slice a0 pre0.length c0, .slice a1 pre1.length c1, .slice am ms.length cm] 29
  have x := hb.alloc (.cells #[.string name, .slice a0 pre0.length c0, .slice a1 pre1.length c1, .slice am ms.length cm] 29)
  have H : Bl w (w.alloc (.cells #[.string name, .slice a0 pre0.length c0, .slice a1 pre1.length c1, .slice am ms.length cm] 29)) := (Bl.refl w).alloc _
  have k15 := hb.cell 15 rfl
  have hlt := hb.lt
  cases hkd : s.keyed
  · rw [hkd] at k15
    have HZ : Hid (endS s ⟨name, pre0, pre1, ms⟩ = 7) := Lib.hid (by rw [endS, hkd]; rfl)
    clear hkd
    go_wp2
    go_ret
    exact ⟨ret_int (by rw [HZ.out]), H⟩
  · rw [hkd] at k15
    have HZ : Hid (endS s ⟨name, pre0, pre1, ms⟩ = endF s ⟨name, pre0, pre1, ms⟩ 0) := Lib.hid (by rw [endS, hkd]; rfl)
    clear hkd
    go_wp2
    generalize w.alloc (.cells #[.string name, .slice a0 pre0.length c0, .slice a1 pre1.length c1, .slice am ms.length cm] 29) = W at x y H ⊢
    go_loopw [12] (fun i wr => ∃ (k : Nat), k ≤ 2 ∧ i = .int .i64 k ∧ Bl w wr ∧ BoxAt wr w.heap.size [.string name, .slice a0 pre0.length c0, .slice a1 pre1.length c1, .slice am ms.length cm] 29 ∧
      Hid (endS s ⟨name, pre0, pre1, ms⟩ = endF s ⟨name, pre0, pre1, ms⟩ k)) (fun i _ => 2 - (intOf i).toNat)
    case atStart => exact ⟨0, by omega, rfl, H, y, HZ⟩
    case round =>
      obtain ⟨k, hk, rfl, Hr, yr, HL⟩ := hrel
      by_cases hk2 : k < 2
      · have hvr := hv0.bl Hr
        obtain ⟨y0, y1, y2, y3⟩ : _ ∧ _ ∧ _ ∧ _ := ⟨yr.cell 0 rfl, yr.cell 1 rfl, yr.cell 2 rfl, yr.cell 3 rfl⟩
        go_wp2_with fail
        refine (oneWay_any _ _ _ hvr).mono ?_
        rintro e w1 ⟨rfl, hb1⟩
        have yr1 := yr.bl hb1
        have Hr1 := Hr.trans hb1
        obtain ⟨y0, y1, y2, y3⟩ : _ ∧ _ ∧ _ ∧ _ := ⟨yr1.cell 0 rfl, yr1.cell 1 rfl, yr1.cell 2 rfl, yr1.cell 3 rfl⟩
        have hxr := hb.bl Hr1
        have hwk : (k : Int) = 0 ∨ (k : Int) = 1 := by omega
        have HK : Hid (endF s ⟨name, pre0, pre1, ms⟩ k = if endB s ⟨name, pre0, pre1, ms⟩ k then sealS s k else endF s ⟨name, pre0, pre1, ms⟩ (k + 1)) := Lib.hid (by
          rcases (show k = 0 ∨ k = 1 by omega) with rfl | rfl
          · rfl
          · rfl)
        by_cases h1 : ms.length = 1
        · have hd : decide (ms.length = 1) = true := by simpa using h1
          obtain ⟨b, o, rfl, hca⟩ := hm.head (by omega)
          replace hca := Hr1.cellq hca
          generalize hw0 : (ms.headD ⟨0, []⟩).who = who0 at *
          have HW0 := Lib.hid hw0
          have hpos : (0 : Int) < (ms.length : Int) := by omega
          have HD1 := Lib.hid hd
          rw [hd]
          by_cases hw : who0 = (k : Int)
          · have hne : (who0 != (k : Int)) = false := by simpa using hw
            have HB : Hid (endB s ⟨name, pre0, pre1, ms⟩ k = decide (0 < sealS s k)) := Lib.hid (by
              unfold endB
              rw [HW0.out, decide_eq_true hw]
              simp)
            clear hw h1 hd hw0
            go_wp2_with fail
            refine (sealing_any s k hwk B w1 hxr).mono ?_
            rintro e w2 ⟨rfl, hb2⟩
            generalize hs : sealS s k = r at *
            by_cases hr : 0 < r
            · have hdr : decide (0 < r) = true := by simpa using hr
              have HE : Hid (endS s ⟨name, pre0, pre1, ms⟩ = r) := Lib.hid (by rw [HL.out, HK.out, HB.out, hdr]; rfl)
              clear HK hs
              go_wp2
              go_ret
              exact ⟨ret_int (by rw [HE.out]), Hr1.trans hb2⟩
            · have hdr : decide (0 < r) = false := by simpa using hr
              have HE : Hid (endS s ⟨name, pre0, pre1, ms⟩ = endF s ⟨name, pre0, pre1, ms⟩ (k + 1)) := Lib.hid (by rw [HL.out, HK.out, HB.out, hdr]; rfl)
              clear HK hs
              go_wp2
              go_roundw
              case rel => exact ⟨k + 1, by omega, by go_num, Hr1.trans hb2, yr1.bl hb2, HE⟩
              case measure => simp [intOf]; omega
          · have hne : (who0 != (k : Int)) = true := by simpa using hw
            have HB : Hid (endB s ⟨name, pre0, pre1, ms⟩ k = false) := Lib.hid (by
              unfold endB
              rw [HW0.out, decide_eq_false hw]
              simp [HD1.out, h1])
            have HE : Hid (endS s ⟨name, pre0, pre1, ms⟩ = endF s ⟨name, pre0, pre1, ms⟩ (k + 1)) := Lib.hid (by rw [HL.out, HK.out, HB.out]; rfl)
            clear hw h1 hd HK hw0
            go_wp2
            go_roundw
            case rel => exact ⟨k + 1, by omega, by go_num, Hr1, yr1, HE⟩
            case measure => simp [intOf]; omega
        · have hd : decide (ms.length = 1) = false := by simpa using h1
          have HB : Hid (endB s ⟨name, pre0, pre1, ms⟩ k = decide (0 < sealS s k)) := Lib.hid (by
            unfold endB
            simp [h1])
          rw [hd]
          clear hm hd h1
          go_wp2_with fail
          refine (sealing_any s k hwk B w1 hxr).mono ?_
          rintro e w2 ⟨rfl, hb2⟩
          generalize hs : sealS s k = r at *
          by_cases hr : 0 < r
          · have hdr : decide (0 < r) = true := by simpa using hr
            have HE : Hid (endS s ⟨name, pre0, pre1, ms⟩ = r) := Lib.hid (by rw [HL.out, HK.out, HB.out, hdr]; rfl)
            clear HK hs
            go_wp2
            go_ret
            exact ⟨ret_int (by rw [HE.out]), Hr1.trans hb2⟩
          · have hdr : decide (0 < r) = false := by simpa using hr
            have HE : Hid (endS s ⟨name, pre0, pre1, ms⟩ = endF s ⟨name, pre0, pre1, ms⟩ (k + 1)) := Lib.hid (by rw [HL.out, HK.out, HB.out, hdr]; rfl)
            clear HK hs
            go_wp2
            go_roundw
            case rel => exact ⟨k + 1, by omega, by go_num, Hr1.trans hb2, yr1.bl hb2, HE⟩
            case measure => simp [intOf]; omega
      · have HE : Hid (endS s ⟨name, pre0, pre1, ms⟩ = 0) := Lib.hid (by
          rw [HL.out, show k = 2 by omega]
          rfl)
        go_wp2
        go_ret
        exact ⟨ret_int (by rw [HE.out]), Hr⟩
end Go.Proofs.YtelloecgdiocoaaDoor
