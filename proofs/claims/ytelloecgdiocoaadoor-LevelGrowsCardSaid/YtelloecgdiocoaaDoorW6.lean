/- Walks: undertoneref05.Right: what the reference says of a pattern is what the program says. -/
import Derived.Test.YtelloecgdiocoaaDoorW4
set_option linter.unusedSimpArgs false
set_option linter.unusedVariables false
namespace Go.Proofs.YtelloecgdiocoaaDoor
open Go.RowKit

theorem rightB_name {p : Pat} (h : p.name.data.toList.all okByte = false) : rightB p = false := by simp [rightB, namedB, h]
theorem rightB_pre0 {p : Pat} (h : toldB p.pre0 = false) : rightB p = false := by simp [rightB, h]
theorem rightB_pre1 {p : Pat} (h : toldB p.pre1 = false) : rightB p = false := by simp [rightB, h]
theorem rightB_msg {p : Pat} {k : Nat} (hk : k < p.msgs.length) (h : badMsg p.msgs[k] = true) : rightB p = false := by
  have : p.msgs.any badMsg = true := List.any_eq_true.2 ⟨_, List.getElem_mem hk, h⟩
  simp [rightB, this]
theorem rightB_end {p : Pat} (hn : p.name.data.toList.all okByte = true) (h0 : toldB p.pre0 = true) (h1 : toldB p.pre1 = true) {k : Nat} (hk : p.msgs.length ≤ k) (h : ∀ m ∈ p.msgs.take k, badMsg m = false) :
    rightB p = (decide (1 ≤ p.name.size) && decide (p.name.size ≤ 20) && decide (1 ≤ p.msgs.length) && decide (p.msgs.length ≤ 6)) := by
  rw [List.take_of_length_le hk] at h
  have h2 : p.msgs.any badMsg = false := by rw [List.any_eq_false]; intro m hm; simp [h m hm]
  simp [rightB, namedB, hn, h0, h1, h2]
theorem told_two {x y : Int} : toldB [x, y] = (decide (x = 1) && decide (y = 2)) := by
  rw [Bool.eq_iff_iff]; simp [toldB]
theorem told_one {x : Int} : toldB [x] = (decide (x = 1) || decide (x = 2)) := by
  rw [Bool.eq_iff_iff]; simp [toldB]
theorem told_more {x y z : Int} {r : List Int} : toldB (x :: y :: z :: r) = false := by simp [toldB]
theorem tokName_bad {t : Int} : (tokName t = ⟨#[63]⟩) ↔ badTok t = true := by
  unfold tokName badTok
  simp only [Bool.or_eq_true, decide_eq_true_eq]
  repeat' split
  all_goals first
    | (constructor
       · intro h; exact absurd h (by decide)
       · intro h; omega)
    | (constructor
       · intro _; omega
       · intro _; rfl)

theorem q63 : (⟨#[63]⟩ : ByteArray).toList = [63] := by rw [ByteArray.toList_eq]

set_option maxRecDepth 100000 in
set_option maxHeartbeats 4000000 in
theorem refRight_any (v : Value) (p : Pat) (w : World) (h : SP w v p) :
    Calls Tryd.prog 22 #[v] w fun e w' => e = .returned (.bool (rightB p)) ∧ Bl w w' := by
  obtain ⟨name, pre0, pre1, ms⟩ := p
  obtain ⟨v0, v1, vm, rfl, hn, h0, h1, hm⟩ := h
  simp only at hn h0 h1 hm
  obtain ⟨a0, c0, rfl⟩ := h0.form
  obtain ⟨a1, c1, rfl⟩ := h1.form
  obtain ⟨am, cm, rfl⟩ := hm.form
  have hlm := hm.len
  go_enter Tryd.func22, Tryd.ntmps22
  go_wp2
  have hbox := Box4.of w (.string name) (.slice a0 pre0.length c0) (.slice a1 pre1.length c1) (.slice am ms.length cm) 43
  have H : Bl w (w.alloc (.cells #[.string name, .slice a0 pre0.length c0, .slice a1 pre1.length c1, .slice am ms.length cm] 43)) := (Bl.refl _).alloc _
  generalize w.alloc (.cells #[.string name, .slice a0 pre0.length c0, .slice a1 pre1.length c1, .slice am ms.length cm] 43) = W at hbox H ⊢
  generalize w.heap.size = B at hbox ⊢
  obtain ⟨b0, b1, b2, b3⟩ := id hbox
  go_loop [3] (fun i => ∃ k : Nat, k ≤ name.size ∧ i = .int .i64 k ∧ Hid ((name.data.toList.take k).all okByte = true)) (fun i => name.size - (intOf i).toNat)
  case atStart => exact ⟨0, by omega, rfl, by simp [Hid]⟩
  case round =>
    obtain ⟨k, hk, rfl, hpre⟩ := hrel
    by_cases hkn : k < name.size
    · by_cases hok : okByte (name[k]'hkn) = true
      · have HS := Lib.hid (all_take_step hkn hpre.out hok)
        simp only [okByte, Bool.or_eq_true, Bool.and_eq_true, decide_eq_true_eq] at hok
        obtain ⟨c, hc⟩ : ∃ c, (name[k]'hkn).toNat = c := ⟨_, rfl⟩
        rw [hc] at hok
        rcases hok with ((⟨h1, h2⟩ | ⟨h1, h2⟩) | ⟨h1, h2⟩) | h1
        · go_wp2
          go_round
          case rel => exact ⟨k + 1, by omega, by go_num, HS⟩
          case measure => simp [intOf]; omega
        · go_wp2
          go_round
          case rel => exact ⟨k + 1, by omega, by go_num, HS⟩
          case measure => simp [intOf]; omega
        · go_wp2
          go_round
          case rel => exact ⟨k + 1, by omega, by go_num, HS⟩
          case measure => simp [intOf]; omega
        · subst h1
          go_wp2
          go_round
          case rel => exact ⟨k + 1, by omega, by go_num, HS⟩
          case measure => simp [intOf]; omega
      · have hno : okByte (name[k]'hkn) = false := by simpa using hok
        have HF := Lib.hid (rightB_name (p := ⟨name, pre0, pre1, ms⟩) (not_all_at hkn hno))
        simp only [okByte, Bool.or_eq_false_iff, Bool.and_eq_false_iff, decide_eq_false_iff_not] at hno
        obtain ⟨c, hc⟩ : ∃ c, (name[k]'hkn).toNat = c := ⟨_, rfl⟩
        rw [hc] at hno
        have h43 : ((c : Int) != 43) = true := by simp; omega
        rcases (show c < 43 ∨ (43 < c ∧ c < 48) ∨ (57 < c ∧ c < 65) ∨ (90 < c ∧ c < 97) ∨ 122 < c by omega) with h | ⟨h, h'⟩ | ⟨h, h'⟩ | ⟨h, h'⟩ | h
        all_goals
          clear hno hok
          have d1 : 57 < c → decide ((c : Int) ≤ 57) = false := fun _ => by simp; omega
          have d2 : 90 < c → decide ((c : Int) ≤ 90) = false := fun _ => by simp; omega
          have d3 : 122 < c → decide ((c : Int) ≤ 122) = false := fun _ => by simp; omega
          first | replace d1 := d1 (by omega) | clear d1
          first | replace d2 := d2 (by omega) | clear d2
          first | replace d3 := d3 (by omega) | clear d3
          go_wp2
          go_ret
          exact ⟨ret_bool HF.out.symm, H⟩
    · have hall : name.data.toList.all okByte = true := by
        have := hpre.out
        rwa [List.take_of_length_le (by simp; omega)] at this
      have HA := Lib.hid hall
      clear hall hpre
      go_wp2
      go_loop [5] (fun i => ∃ j : Nat, j ≤ 2 ∧ i = .int .i64 j ∧ Hid (1 ≤ j → toldB pre0 = true) ∧ Hid (2 ≤ j → toldB pre1 = true)) (fun i => 2 - (intOf i).toNat)
      case atStart => exact ⟨0, by omega, rfl, by intro h; omega, by intro h; omega⟩
      case round =>
        obtain ⟨j, hj, rfl, hp0, hp1⟩ := hrel
        rcases (show j = 0 ∨ j = 1 ∨ j = 2 by omega) with rfl | rfl | rfl
        · have h0' := h0.bl H
          obtain ⟨_, _, e, _, hc0⟩ := id h0'
          injection e with e1 e2 e3
          subst e1 e3
          clear e2
          rcases pre0 with _ | ⟨x, _ | ⟨y, _ | ⟨z, r⟩⟩⟩
          · go_wp2
            go_round
            case rel => exact ⟨1, by omega, rfl, fun _ => rfl, by intro h; omega⟩
            case measure => simp [intOf]
          · obtain ⟨b, o, rfl, hca⟩ := hc0 0 (by simp)
            simp only [Nat.add_zero, List.getElem_cons_zero] at hca
            by_cases hx : x = 1
            · subst hx
              go_wp2
              go_round
              case rel => exact ⟨1, by omega, rfl, fun _ => by decide, by intro h; omega⟩
              case measure => simp [intOf]
            · have hx1 : (x != 1) = true := by simpa using hx
              by_cases hy : x = 2
              · subst hy
                go_wp2
                go_round
                case rel => exact ⟨1, by omega, rfl, fun _ => by decide, by intro h; omega⟩
                case measure => simp [intOf]
              · have hx2 : (x != 2) = true := by simpa using hy
                have HT := Lib.hid (show toldB [x] = false by rw [told_one]; simp; omega)
                go_wp2
                go_ret
                exact ⟨ret_bool (rightB_pre0 (p := ⟨name, _, pre1, ms⟩) (by exact HT.out)).symm, H⟩
          · obtain ⟨b, o, rfl, hca⟩ := hc0 0 (by simp)
            obtain ⟨b', o', e, hcb⟩ := hc0 1 (by simp)
            obtain ⟨rfl, rfl⟩ : b = b' ∧ o = o' := by simpa using e
            clear e
            simp only [Nat.add_zero, List.getElem_cons_zero, List.getElem_cons_succ] at hca hcb
            by_cases hx : x = 1
            · subst hx
              by_cases hy : y = 2
              · subst hy
                go_wp2
                go_round
                case rel => exact ⟨1, by omega, rfl, fun _ => by decide, by intro h; omega⟩
                case measure => simp [intOf]
              · have hx2 : (y != 2) = true := by simpa using hy
                have HT := Lib.hid (show toldB [1, y] = false by rw [told_two]; simp; omega)
                go_wp2
                go_ret
                exact ⟨ret_bool (rightB_pre0 (p := ⟨name, _, pre1, ms⟩) (by exact HT.out)).symm, H⟩
            · have hx1 : (x != 1) = true := by simpa using hx
              have HT := Lib.hid (show toldB [x, y] = false by rw [told_two]; simp; omega)
              go_wp2
              go_ret
              exact ⟨ret_bool (rightB_pre0 (p := ⟨name, _, pre1, ms⟩) (by exact HT.out)).symm, H⟩
          · have hlen : 2 < (x :: y :: z :: r).length := by simp
            go_wp2
            go_ret
            exact ⟨ret_bool (rightB_pre0 (p := ⟨name, _, pre1, ms⟩) told_more).symm, H⟩
        · have h0' := h1.bl H
          obtain ⟨_, _, e, _, hc0⟩ := id h0'
          injection e with e1 e2 e3
          subst e1 e3
          clear e2
          rcases pre1 with _ | ⟨x, _ | ⟨y, _ | ⟨z, r⟩⟩⟩
          · go_wp2
            go_round
            case rel => exact ⟨2, by omega, rfl, fun _ => hp0.out (by omega), fun _ => rfl⟩
            case measure => simp [intOf]
          · obtain ⟨b, o, rfl, hca⟩ := hc0 0 (by simp)
            simp only [Nat.add_zero, List.getElem_cons_zero] at hca
            by_cases hx : x = 1
            · subst hx
              go_wp2
              go_round
              case rel => exact ⟨2, by omega, rfl, fun _ => hp0.out (by omega), fun _ => by decide⟩
              case measure => simp [intOf]
            · have hx1 : (x != 1) = true := by simpa using hx
              by_cases hy : x = 2
              · subst hy
                go_wp2
                go_round
                case rel => exact ⟨2, by omega, rfl, fun _ => hp0.out (by omega), fun _ => by decide⟩
                case measure => simp [intOf]
              · have hx2 : (x != 2) = true := by simpa using hy
                have HT := Lib.hid (show toldB [x] = false by rw [told_one]; simp; omega)
                go_wp2
                go_ret
                exact ⟨ret_bool (rightB_pre1 (p := ⟨name, pre0, _, ms⟩) (by exact HT.out)).symm, H⟩
          · obtain ⟨b, o, rfl, hca⟩ := hc0 0 (by simp)
            obtain ⟨b', o', e, hcb⟩ := hc0 1 (by simp)
            obtain ⟨rfl, rfl⟩ : b = b' ∧ o = o' := by simpa using e
            clear e
            simp only [Nat.add_zero, List.getElem_cons_zero, List.getElem_cons_succ] at hca hcb
            by_cases hx : x = 1
            · subst hx
              by_cases hy : y = 2
              · subst hy
                go_wp2
                go_round
                case rel => exact ⟨2, by omega, rfl, fun _ => hp0.out (by omega), fun _ => by decide⟩
                case measure => simp [intOf]
              · have hx2 : (y != 2) = true := by simpa using hy
                have HT := Lib.hid (show toldB [1, y] = false by rw [told_two]; simp; omega)
                go_wp2
                go_ret
                exact ⟨ret_bool (rightB_pre1 (p := ⟨name, pre0, _, ms⟩) (by exact HT.out)).symm, H⟩
            · have hx1 : (x != 1) = true := by simpa using hx
              have HT := Lib.hid (show toldB [x, y] = false by rw [told_two]; simp; omega)
              go_wp2
              go_ret
              exact ⟨ret_bool (rightB_pre1 (p := ⟨name, pre0, _, ms⟩) (by exact HT.out)).symm, H⟩
          · have hlen : 2 < (x :: y :: z :: r).length := by simp
            go_wp2
            go_ret
            exact ⟨ret_bool (rightB_pre1 (p := ⟨name, pre0, _, ms⟩) told_more).symm, H⟩
        · have HP0 := Lib.hid (hp0.out (by omega))
          have HP1 := Lib.hid (hp1.out (by omega))
          clear hp0 hp1
          go_wp2
          go_loopw [7] (fun i wr => ∃ n : Nat, n ≤ ms.length ∧ i = .int .i64 n ∧ Hid (∀ m ∈ ms.take n, badMsg m = false) ∧ Bl W wr) (fun i _ => ms.length - (intOf i).toNat)
          case atStart => exact ⟨0, by omega, rfl, by simp [Hid], Bl.refl _⟩
          case round =>
            obtain ⟨n, hnn, rfl, hgood, hb⟩ := hrel
            have bx := hbox.bl hb
            obtain ⟨q0, q1, q2, q3⟩ := bx
            clear b0 b1 b2 b3
            by_cases hkm : n < ms.length
            · obtain ⟨_, _, e, _, hc⟩ := id hm
              injection e with e1 e2 e3
              subst e1 e3
              clear e2
              obtain ⟨b, o, u, rfl, hca, hcb, hu⟩ := hc n hkm
              replace hca := (H.trans hb).cellq hca
              replace hcb := (H.trans hb).cellq hcb
              replace hu := hu.bl (H.trans hb)
              clear hc
              obtain ⟨ua, uc, hue, hul, huc⟩ := hu
              subst hue
              have hlt := lt_of_cell hca
              generalize hmm : ms[n] = m at *
              have HM := Lib.hid hmm
              clear hmm
              obtain ⟨who, tk⟩ := m
              simp only at hca hcb huc hul
              by_cases hwo : who = 0 ∨ who = 1
              · by_cases hl : 1 ≤ tk.length ∧ tk.length ≤ 12
                · obtain ⟨hl1, hl2⟩ := hl
                  have HB := Lib.hid (show badMsg ⟨who, tk⟩ = tk.any badTok by rcases hwo with rfl | rfl <;> (unfold badMsg; rw [decide_eq_false (show ¬ tk.length < 1 by omega), decide_eq_false (show ¬ 12 < tk.length by omega)]; simp))
                  have d1 : decide ((tk.length : Int) < 1) = false := by simp; omega
                  have d2 : decide (12 < (tk.length : Int)) = false := by simp; omega
                  rcases hwo with rfl | rfl
                  all_goals
                    go_wp2
                    go_loop [9] (fun i => ∃ j : Nat, j ≤ tk.length ∧ i = .int .i64 j ∧ Hid (∀ x ∈ tk.take j, badTok x = false)) (fun i => tk.length - (intOf i).toNat)
                    case atStart => exact ⟨0, by omega, rfl, by simp [Hid]⟩
                    case round =>
                      obtain ⟨j, hj, rfl, hok⟩ := hrel
                      by_cases hjn : j < tk.length
                      · obtain ⟨b', o', rfl, hcx⟩ := huc j hjn
                        have hlt' := lt_of_cell hcx
                        generalize hx : tk[j] = x at *
                        have HX := Lib.hid hx
                        clear hx
                        cases hbt : badTok x
                        · have hne0 : ¬ (tokName x).toList = [63] := fun e => by
                            have := tokName_bad.1 (str_of (b := ⟨#[63]⟩) (by rw [e, q63]))
                            rw [hbt] at this
                            cases this
                          have hne : ((tokName x).toList == [63]) = false := by simpa using hne0
                          clear hne0
                          go_wp2_with (go_at_call 45; refine (refname_any _ _).mono ?_; rintro e w1 ⟨rfl, rfl⟩)
                          refine ⟨⟨j + 1, by omega, by go_num, take_all_step hjn hok.out (by rw [HX.out]; exact hbt)⟩, ?_⟩
                          simp [intOf]; omega
                        · have hne : ((tokName x).toList == [63]) = true := by rw [tokName_bad.2 hbt, q63]; rfl
                          go_wp2_with (go_at_call 45; refine (refname_any _ _).mono ?_; rintro e w1 ⟨rfl, rfl⟩)
                          go_ret
                          exact ⟨ret_bool (rightB_msg (p := ⟨name, pre0, pre1, ms⟩) hkm (by show badMsg ms[n] = true; rw [HM.out, HB.out]; exact List.any_eq_true.2 ⟨_, List.getElem_mem hjn, by rw [HX.out]; exact hbt⟩)).symm, (H.trans hb).alloc _⟩
                      · go_wp2
                        go_roundw
                        case rel => exact ⟨n + 1, by omega, by go_num, take_all_step hkm hgood.out (by
                          rw [HM.out, HB.out, List.any_eq_false]
                          have := hok.out
                          rw [List.take_of_length_le (by omega)] at this
                          intro y hy
                          simp [this y hy]), hb.alloc _⟩
                        case measure => simp [intOf]; omega
                · have HB := Lib.hid (show badMsg ⟨who, tk⟩ = true by
                    unfold badMsg
                    simp only [Bool.or_eq_true, decide_eq_true_eq]
                    omega)
                  rcases (show tk.length < 1 ∨ 12 < tk.length by omega) with h | h
                  all_goals
                    clear hl
                    rcases hwo with rfl | rfl
                    all_goals
                      go_wp2
                      go_ret
                      exact ⟨ret_bool (rightB_msg (p := ⟨name, pre0, pre1, ms⟩) hkm (by show badMsg ms[n] = true; rw [HM.out, HB.out])).symm, (H.trans hb).alloc _⟩
              · have HB := Lib.hid (show badMsg ⟨who, tk⟩ = true by
                  unfold badMsg
                  simp only [Bool.or_eq_true, decide_eq_true_eq]
                  omega)
                have hw0 : (who != 0) = true := by simp; omega
                have hw1 : (who != 1) = true := by simp; omega
                clear hwo
                go_wp2
                go_ret
                exact ⟨ret_bool (rightB_msg (p := ⟨name, pre0, pre1, ms⟩) hkm (by show badMsg ms[n] = true; rw [HM.out, HB.out])).symm, (H.trans hb).alloc _⟩
            · have HE := Lib.hid (rightB_end (p := ⟨name, pre0, pre1, ms⟩) HA.out HP0.out HP1.out (k := n) (by show ms.length ≤ n; omega) hgood.out)
              go_wp2
              all_goals
                go_ret
                refine ⟨ret_bool ?_, H.trans hb⟩
                rw [HE.out, Bool.eq_iff_iff]
                simp only [Bool.and_eq_true, decide_eq_true_eq, Bool.false_eq_true, false_iff, true_iff]
                omega

end Go.Proofs.YtelloecgdiocoaaDoor
