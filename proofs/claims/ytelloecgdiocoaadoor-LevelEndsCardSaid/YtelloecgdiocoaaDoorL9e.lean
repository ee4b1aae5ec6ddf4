/- Walk: undertonelaw09.LevelEnds. -/
import Derived.Test.YtelloecgdiocoaaDoorL9d
set_option linter.unusedSimpArgs false
set_option linter.unusedVariables false
namespace Go.Proofs.YtelloecgdiocoaaDoor
open Go.RowKit Go.Sort

theorem wrap_small {a : Int} (h0 : 0 ≤ a) (h1 : a ≤ 100000) : wrap64 a = a := by unfold wrap64; omega
/-- a message behind the handshake -/
def stp (p : Pat) (x : Trk × Int) : Trk × Int := (x.1.sent x.2, nextW p x.2)
theorem stp_at (p : Pat) (k : Nat) (h : p.msgs.length ≤ k) : trkAt p (k + 1) = stp p (trkAt p k) := by
  have e : mixAt p k (trkAt p k).1 = (trkAt p k).1 := if_neg (by omega)
  show ((mixAt p k (trkAt p k).1).sent (trkAt p k).2, nextW p (trkAt p k).2) = _
  rw [e]
  rfl
theorem trk_two (p : Pat) (h : stp p (stp p (trkAt p (p.msgs.length + 2))) = trkAt p (p.msgs.length + 2)) : ∀ i, trkAt p (p.msgs.length + 2 + i + 2) = trkAt p (p.msgs.length + 2 + i)
  | 0 => by rw [Nat.add_zero, stp_at p _ (by omega), stp_at p _ (by omega), h]
  | i + 1 => by
    have ih := trk_two p h i
    rw [show p.msgs.length + 2 + (i + 1) + 2 = (p.msgs.length + 2 + i + 2) + 1 by omega, stp_at p _ (by omega), ih, ← stp_at p _ (by omega)]
    rfl
theorem lev_two (p : Pat) (h : stp p (stp p (trkAt p (p.msgs.length + 2))) = trkAt p (p.msgs.length + 2)) (j : Nat) (hj : p.msgs.length + 4 ≤ j) : levAt p j = levAt p (j - 2) := by
  obtain ⟨i, rfl⟩ : ∃ i, j = p.msgs.length + 2 + i + 2 := ⟨j - (p.msgs.length + 4), by omega⟩
  have e1 : ∀ k, p.msgs.length ≤ k → levAt p k = ((trkAt p k).1.ofA (trkAt p k).2, (trkAt p k).1.ofC (trkAt p k).2) := fun k hk => by
    have e : mixAt p k (trkAt p k).1 = (trkAt p k).1 := if_neg (by omega)
    unfold levAt
    rw [e]
  rw [e1 _ (by omega), e1 _ (by omega), trk_two p h i]
  rfl
/-- behind name k's handshake the levels stay as they are -/
def okEnd (k : Nat) : Bool :=
  let p := baseP (bNames.getD k ByteArray.empty)
  decide (baseE (bNames.getD k ByteArray.empty) = 0) && decide (p.msgs.length ≤ 3) && decide ((checkV p).2.2 = 0) && decide (stp p (stp p (trkAt p (p.msgs.length + 2))) = trkAt p (p.msgs.length + 2))
theorem okEnd_all : (List.range 15).all okEnd = true := by decide +kernel
theorem okEnd_parts (k r : Nat) (hk : k < 15) (hr : r < 9) (x : ByteArray) (hx : bNames.getD k ByteArray.empty = x) (p : Pat) (hp : baseP x = p) (L : List (Int × Int)) (hL : tabL p ((p.msgs.length + 4 + r : Nat) : Int) = L) :
    baseE x = 0 ∧ p.msgs.length ≤ 3 ∧ tabE p ((p.msgs.length + 4 + r : Nat) : Int) = 0 ∧ L.length = p.msgs.length + 4 + r ∧ ∀ j, (hj : j < L.length) → p.msgs.length + 4 ≤ j → L[j] = L[j - 2] := by
  have h := List.all_eq_true.1 okEnd_all k (List.mem_range.2 hk)
  simp only [okEnd] at h
  subst hx hp
  simp only [Bool.and_eq_true, decide_eq_true_eq] at h
  obtain ⟨⟨⟨h0, h3⟩, h1⟩, h2⟩ := h
  generalize baseP (bNames.getD k ByteArray.empty) = p at *
  have hT : tabE p ((p.msgs.length + 4 + r : Nat) : Int) = 0 := by
    unfold tabE
    rw [h1, if_neg (by omega)]
  have hL2 : L.length = p.msgs.length + 4 + r := by
    rw [← hL]; unfold tabL; rw [if_pos hT, levs_len]; omega
  refine ⟨h0, h3, hT, hL2, fun j hj hn => ?_⟩
  subst hL
  rw [tab_at hT, tab_at hT]
  exact lev_two p h2 j hn

set_option maxRecDepth 100000 in
set_option maxHeartbeats 8000000 in
theorem levelEnds_any (m : Int) (w : World) (hE : EnvB w) (hm0 : 0 ≤ m) (hm1 : m ≤ 255) :
    Calls Tryd.prog 9 #[.int .u8 m] w fun e w' => e = .returned (.bool true) ∧ Bl w w' := by
  have hq := eqLev
  obtain ⟨r, hr9, hrm⟩ : ∃ r : Nat, r < 9 ∧ m % 9 = (r : Int) := ⟨(m % 9).toNat, by omega, by omega⟩
  go_enter Tryd.func9, Tryd.ntmps9
  go_wp2_with fail
  refine (refNames_any w).mono ?_
  rintro e w1 ⟨v, rfl, hss, hb1⟩
  obtain ⟨sa, sc, hse, hlen, hc⟩ := id hss
  have h15 : bNames.length = 15 := rfl
  rw [h15] at hse
  subst hse
  go_wp2_with fail
  go_loopw [13] (fun i wr => ∃ k : Nat, k ≤ 15 ∧ i = .int .i64 k ∧ Bl w1 wr ∧ Bl w wr) (fun i _ => 15 - (intOf i).toNat)
  case atStart => exact ⟨0, by omega, rfl, Bl.refl _, hb1⟩
  case round =>
    obtain ⟨k, hk, rfl, H1r, Hr⟩ := hrel
    by_cases hkn : k < 15
    · obtain ⟨b, o, rfl, hca⟩ := hc k (by rw [h15]; omega)
      have hcr := H1r.cellq hca
      have HX : Hid (bNames[k]'(by rw [h15]; omega) = bNames.getD k ByteArray.empty) := Lib.hid (by rw [List.getD_eq_getElem?_getD, List.getElem?_eq_getElem (by rw [h15]; omega)]; rfl)
      rw [HX.out] at hcr
      have HP := Lib.hid (okEnd_parts k r hkn hr9 _ rfl _ rfl _ rfl)
      generalize bNames.getD k ByteArray.empty = x at *
      have HEx := HP.out.1
      go_wp2_with fail
      have cB := base_any x wr (hE.bl Hr)
      rw [HEx] at cB
      refine cB.mono ?_
      rintro e w3 ⟨pv, rfl, hs, hb3⟩
      generalize hpp : baseP x = p at *
      have hs0 := hs
      obtain ⟨v0, v1, vm, rfl, _, h0, h1, hm⟩ := hs
      obtain ⟨a0, c0, rfl⟩ := h0.form
      obtain ⟨a1, c1, rfl⟩ := h1.form
      obtain ⟨am, cm, rfl⟩ := hm.form
      clear h0 h1 hm cB
      have y3 := BoxAt.new w3 #[.string p.name, .slice a0 p.pre0.length c0, .slice a1 p.pre1.length c1, .slice am p.msgs.length cm] 29
      have al3 : Bl w3 (w3.alloc (.cells #[.string p.name, .slice a0 p.pre0.length c0, .slice a1 p.pre1.length c1, .slice am p.msgs.length cm] 29)) := (Bl.refl w3).alloc _
      have hs3 := hs0.bl al3
      have b13 : Bl wr (w3.alloc (.cells #[.string p.name, .slice a0 p.pre0.length c0, .slice a1 p.pre1.length c1, .slice am p.msgs.length cm] 29)) := hb3.trans al3
      have HT0 := HP.out.2.2.1
      have HTj := HP.out.2.2.2.2
      have HTn := HP.out.2.2.2.1
      have hp3 := HP.out.2.1
      have HJ := Lib.hid HTj
      clear HTj HP HX hcr
      have cTab := fun u w h => table_any u p ((p.msgs.length + 4 + r : Nat) : Int) w h
      rw [HT0] at cTab
      clear HT0 HEx
      generalize tabL p ((p.msgs.length + 4 + r : Nat) : Int) = L at *
      have hlL : L.length ≤ 16 := by omega
      have q4 : ((p.msgs.length + 4 + r : Nat) : Int) = (p.msgs.length : Int) + 4 + (r : Int) := by omega
      rw [q4] at cTab
      have HLN := Lib.hid HTn
      clear q4 HTn
      go_wp2_with fail
      refine (cTab _ _ hs3).mono ?_
      rintro e w4 ⟨lv, rfl, hl, hb4⟩
      obtain ⟨la, lc, rfl⟩ := hl.form
      have b14 := b13.trans hb4
      clear cTab
      go_wp2_with fail
      go_loopw [10] (fun i wq => ∃ j : Nat, j ≤ L.length ∧ p.msgs.length + 4 ≤ j ∧ i = .int .i64 j ∧ Bl w4 wq ∧ Bl wr wq) (fun i _ => L.length - (intOf i).toNat)
      case atStart => exact ⟨p.msgs.length + 4, by have := HLN.out; omega, Nat.le_refl _, by simp, Bl.refl _, b14⟩
      case round =>
        obtain ⟨j, hj, hj4, rfl, H4q, Hrq⟩ := hrel
        by_cases hjn : j < L.length
        · have dj : decide ((j : Int) < (L.length : Int)) = true := by simp; omega
          have HZ := Lib.hid (HJ.out j hjn hj4)
          obtain ⟨b', o', e1, ca0, ca1⟩ : ∃ b o, la = some ⟨b, o, none⟩ ∧ wr.cell? ⟨b, o + j * 2, none⟩ = some (.int .i64 L[j].1) ∧ wr.cell? ⟨b, o + j * 2 + 1, none⟩ = some (.int .i64 L[j].2) := by
            obtain ⟨a', c', e, _, hc⟩ := hl.bl H4q
            injection e with e1 _ _
            obtain ⟨b', o', e2, h2⟩ := hc j hjn
            exact ⟨b', o', e1.trans e2, h2⟩
          subst e1
          obtain ⟨b2, o2, e1, cb0, cb1⟩ : ∃ b2 o2, some ⟨b', o', none⟩ = some (⟨b2, o2, none⟩ : Addr) ∧ wr.cell? ⟨b2, o2 + (j - 2) * 2, none⟩ = some (.int .i64 L[j - 2].1) ∧ wr.cell? ⟨b2, o2 + (j - 2) * 2 + 1, none⟩ = some (.int .i64 L[j - 2].2) := by
            obtain ⟨a', c', e, _, hc⟩ := hl.bl H4q
            injection e with e1 _ _
            obtain ⟨b', o', e2, h2⟩ := hc (j - 2) (by omega)
            exact ⟨b', o', e1.trans e2, h2⟩
          injection e1 with e1
          injection e1 with e1 e2 _
          subst e1 e2
          rw [HZ.out] at ca0 ca1
          clear HZ
          generalize L[j - 2] = z at *
          obtain ⟨z0, z1⟩ := z
          simp only at ca0 ca1 cb0 cb1
          obtain ⟨i, rfl⟩ : ∃ i, j = i + 2 := ⟨j - 2, by omega⟩
          have hji : i + 2 ≤ 16 := by omega
          have wj : wrap64 (((i + 2 : Nat) : Int) - 2) = (i : Int) := (wrap_small (by omega) (by omega)).trans (by omega)
          simp only [Nat.add_sub_cancel] at cb0 cb1
          have ga0 := cell_regrown ca0
          have ga1 := cell_regrown ca1
          have gb0 := cell_regrown cb0
          have gb1 := cell_regrown cb1
          go_upto_region 12 with fail
          refine wp_region_quiet_below (by kernel_rfl) (by kernel_rfl) ?_
          repeat (go_big_quiet_step (fail))
          refine wpQuiet_nil ?_
          intro wq hwq
          obtain ⟨pq, rfl⟩ := hwq
          have hbq := below_regrown wr pq.d pq.os
          go_wp2
          go_roundw
          case rel => clear wj; exact ⟨i + 2 + 1, by omega, by omega, by go_num, H4q.trans hbq, Hrq.trans hbq⟩
          case measure => clear wj; simp [intOf]; omega
        · have dj : decide ((j : Int) < (L.length : Int)) = false := by simp; omega
          go_wp2_with fail
          go_roundw
          case rel => exact ⟨k + 1, by omega, by go_num, H1r.trans Hrq, Hr.trans Hrq⟩
          case measure => simp [intOf]; omega
    · obtain rfl : k = 15 := by omega
      go_wp2_with fail
      refine (awake9_any wr (hE.bl Hr)).mono ?_
      rintro e w4 ⟨rfl, hb4⟩
      go_wp2
      go_ret
      exact ⟨rfl, Hr.trans hb4⟩
end Go.Proofs.YtelloecgdiocoaaDoor
