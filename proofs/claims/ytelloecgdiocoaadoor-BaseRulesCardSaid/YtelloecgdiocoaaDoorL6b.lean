/- Walk: undertonelaw06.BaseRules. -/
import Derived.Test.YtelloecgdiocoaaDoorL6a
set_option linter.unusedSimpArgs false
set_option linter.unusedVariables false
namespace Go.Proofs.YtelloecgdiocoaaDoor
open Go.RowKit Go.Sort

/-- name j's pattern: the initiator first, and all in turn; no psk -/
def okRule (j : Nat) : Bool :=
  let x := bNames.getD j ByteArray.empty
  let p := baseP x
  decide (baseE x = 0) && rightB p && decide (p.name = x) && (List.range p.msgs.length).all (fun i => decide ((p.msgs.getD i ⟨0, []⟩).who = ((i % 2 : Nat) : Int)) && (p.msgs.getD i ⟨0, []⟩).t.all (fun t => decide (t ≠ 7)))
theorem okRule_all : (List.range 15).all okRule = true := by decide +kernel
theorem okRule_parts (j : Nat) (hj : j < 15) (x : ByteArray) (hx : bNames.getD j ByteArray.empty = x) (p : Pat) (hp : baseP x = p) :
    baseE x = 0 ∧ rightB p = true ∧ p.name = x ∧ ∀ i, (hi : i < p.msgs.length) → p.msgs[i].who = ((i % 2 : Nat) : Int) ∧ ∀ k, (hk : k < p.msgs[i].t.length) → p.msgs[i].t[k] ≠ 7 := by
  have h := List.all_eq_true.1 okRule_all j (List.mem_range.2 hj)
  simp only [okRule] at h
  subst hx hp
  simp only [Bool.and_eq_true, decide_eq_true_eq] at h
  obtain ⟨⟨⟨h0, h1⟩, h2⟩, h3⟩ := h
  refine ⟨h0, h1, h2, fun i hi => ?_⟩
  have h4 := List.all_eq_true.1 h3 i (List.mem_range.2 hi)
  rw [List.getD_eq_getElem?_getD, List.getElem?_eq_getElem hi] at h4
  simp only [Option.getD_some, Bool.and_eq_true, decide_eq_true_eq] at h4
  exact ⟨h4.1, fun k hk => by simpa using List.all_eq_true.1 h4.2 _ (List.getElem_mem hk)⟩

set_option maxRecDepth 100000 in
set_option maxHeartbeats 8000000 in
theorem baseRules_any (m : Int) (w : World) (hE : Env w) (hm0 : 0 ≤ m) (hm1 : m ≤ 255) :
    Calls Tryd.prog 12 #[.int .u8 m] w fun e w' => e = .returned (.bool true) ∧ Bl w w' := by
  obtain ⟨j, hj, hjm⟩ : ∃ j : Nat, j < 15 ∧ m % 15 = (j : Int) := ⟨(m % 15).toNat, by omega, by omega⟩
  go_enter Tryd.func12, Tryd.ntmps12
  go_wp2_with fail
  refine (bnames_any w).mono ?_
  rintro e w1 ⟨v, rfl, hss, hb1⟩
  obtain ⟨sa, sc, hse, hlen, hc⟩ := id hss
  have h15 : bNames.length = 15 := rfl
  obtain ⟨b, o, rfl, hca⟩ := hc j (by rw [h15]; omega)
  rw [h15] at hse
  subst hse
  have HX : Hid (bNames[j]'(by rw [h15]; omega) = bNames.getD j ByteArray.empty) := Lib.hid (by rw [List.getD_eq_getElem?_getD, List.getElem?_eq_getElem (by rw [h15]; omega)]; rfl)
  rw [HX.out] at hca
  have HP := Lib.hid (okRule_parts j hj _ rfl _ rfl)
  generalize bNames.getD j ByteArray.empty = x at *
  have hE0 := HP.out.1
  have cB := base_any x w1 (hE.bl hb1).b
  rw [hE0] at cB
  clear hE0 HX hc hss
  go_wp2_with fail
  refine cB.mono ?_
  rintro e w3 ⟨pv, rfl, hs, hb3⟩
  have hca3 := hb3.cellq hca
  generalize hpp : baseP x = p at *
  obtain ⟨_, hrt, hnm, hms⟩ := HP.out
  have HRT := Lib.hid hrt
  have HMS := Lib.hid hms
  clear hrt hms HP cB hpp hca
  subst hnm
  have hs0 := hs
  obtain ⟨v0, v1, vm, rfl, _, h0, h1, hm⟩ := hs
  obtain ⟨a0, c0, rfl⟩ := h0.form
  obtain ⟨a1, c1, rfl⟩ := h1.form
  obtain ⟨am, cm, rfl⟩ := hm.form
  clear h0 h1
  have y3 := BoxAt.new w3 #[.string p.name, .slice a0 p.pre0.length c0, .slice a1 p.pre1.length c1, .slice am p.msgs.length cm] 29
  have al3 : Bl w3 (w3.alloc (.cells #[.string p.name, .slice a0 p.pre0.length c0, .slice a1 p.pre1.length c1, .slice am p.msgs.length cm] 29)) := (Bl.refl w3).alloc _
  have hs3 := hs0.bl al3
  have hm3 := hm.bl al3
  have hca4 := al3.cellq hca3
  have H3 := (hb1.trans hb3).trans al3
  clear hs0 hm hca3
  have hmlen := hm3.len
  go_wp2_with fail
  refine (rightBB_any _ p _ hs3 true HRT.out).mono ?_
  rintro e w4 ⟨rfl, hb4⟩
  have y4 := y3.bl hb4
  have hm4 := hm3.bl hb4
  have hca5 := hb4.cellq hca4
  have H4 := H3.trans hb4
  have hlt4 : w3.heap.size < w4.heap.size := y4.lt
  generalize w3.heap.size = B at *
  clear y3 hm3 hca4 H3 al3 hs3 hb4
  obtain ⟨g0, g1, g2, g3⟩ : _ ∧ _ ∧ _ ∧ _ := ⟨y4.cell 0 rfl, y4.cell 1 rfl, y4.cell 2 rfl, y4.cell 3 rfl⟩
  go_wp2_with fail
  go_loopw [34] (fun i wr => ∃ i' : Nat, i' ≤ p.msgs.length ∧ i = .int .i64 i' ∧ Bl w4 wr ∧ Bl w wr) (fun i _ => p.msgs.length - (intOf i).toNat)
  case atStart => exact ⟨0, by omega, rfl, Bl.refl _, H4⟩
  case round =>
    obtain ⟨i, hi, rfl, H4r, Hr⟩ := hrel
    by_cases hil : i < p.msgs.length
    · have di : decide ((i : Int) < (p.msgs.length : Int)) = true := by simp; omega
      obtain ⟨hw, ht⟩ := HMS.out i hil
      have HT := Lib.hid ht
      obtain ⟨bb, oo, u, rfl, hc0, hc1, hu⟩ := (hm4.bl H4r).at i hil
      rw [hw] at hc0
      clear hw ht
      generalize p.msgs[i].t = l at *
      obtain ⟨ua, uc, rfl⟩ := hu.form
      have hul := hu.len
      have z := BoxAt.new wr #[.int .i64 ((i % 2 : Nat) : Int), .slice ua l.length uc] 65
      have al : Bl wr (wr.alloc (.cells #[.int .i64 ((i % 2 : Nat) : Int), .slice ua l.length uc] 65)) := (Bl.refl wr).alloc _
      have hua := hu.bl al
      have H4a := H4r.trans al
      have Hra := Hr.trans al
      go_wp2_with fail
      go_loopw [47] (fun k wq => ∃ k' : Nat, k' ≤ l.length ∧ k = .int .i64 k' ∧ Bl (wr.alloc (.cells #[.int .i64 ((i % 2 : Nat) : Int), .slice ua l.length uc] 65)) wq) (fun k _ => l.length - (intOf k).toNat)
      case atStart => exact ⟨0, by omega, rfl, Bl.refl _⟩
      case round =>
        obtain ⟨k, hk, rfl, Hq⟩ := hrel
        by_cases hkl : k < l.length
        · have dk : decide ((k : Int) < (l.length : Int)) = true := by simp; omega
          have h7 := HT.out k hkl
          obtain ⟨b', o', e', hct⟩ : ∃ b' o', ua = some ⟨b', o', none⟩ ∧ wr.cell? ⟨b', o' + k, none⟩ = some (.int .i64 l[k]) := by
            obtain ⟨a', c', e, _, hc⟩ := hua.bl Hq
            injection e with e1 _ _
            obtain ⟨b', o', e2, h2⟩ := hc k hkl
            exact ⟨b', o', e1.trans e2, h2⟩
          subst e'
          generalize l[k] = t at *
          have d7 : (t == 7) = false := by simpa using h7
          clear h7
          go_wp2_with fail
          go_roundw
          case rel => exact ⟨k + 1, by omega, by go_num, Hq⟩
          case measure => simp [intOf]; omega
        · have dk : decide ((k : Int) < (l.length : Int)) = false := by simp; omega
          go_wp2_with fail
          go_roundw
          case rel => exact ⟨i + 1, by omega, by go_num, H4a.trans Hq, Hra.trans Hq⟩
          case measure => simp [intOf]; omega
    · have di : decide ((i : Int) < (p.msgs.length : Int)) = false := by simp; omega
      have q0 := cell_regrown ((y4.bl H4r).cell 0 rfl)
      have q1 := cell_regrown (H4r.cellq hca5)
      go_upto_region 19 with fail
      refine wp_region_quiet_below (by kernel_rfl) (by kernel_rfl) ?_
      repeat (go_big_quiet_step ((go_at_call 30; with_reducible exact Calls.regrown_of (awake6_any _ (hE.bl (Hr.trans (below_regrown wr _ _)))))))
      refine wpQuiet_nil ?_
      intro wq hwq
      obtain ⟨pq, rfl⟩ := hwq
      have hbq := below_regrown wr pq.d pq.os
      go_wp2
      go_ret
      exact ⟨rfl, Hr.trans hbq⟩
end Go.Proofs.YtelloecgdiocoaaDoor
