/- Walks: undertoneref05.line and Print. -/
import Derived.Test.YtkcmmcgbkihpfaaDoorText
import Derived.Test.YtkcmmcgbkihpfaaDoorOwn
set_option linter.unusedSimpArgs false
set_option linter.unusedVariables false
namespace Go.Proofs.YtkcmmcgbkihpfaaDoor
open Go.RowKit

set_option maxRecDepth 100000 in
set_option maxHeartbeats 1000000 in
theorem refLine_any (who : Int) (v : Value) (l : List Int) (w : World) (h : SI w v l) (hl : l.length ≤ 1000000) :
    Calls Tryd.prog 45 #[.int .i64 who, v] w fun e w' => e = .returned (.string (lineT who l)) ∧ w = w' := by
  obtain ⟨a, c, rfl, hl0, hc⟩ := h
  go_enter Tryd.func45, Tryd.ntmps45
  by_cases hw : who = 1
  · subst hw
    go_wp2
    go_loop [5, 6] (fun s i => ∃ k : Nat, k ≤ l.length ∧ i = .int .i64 k ∧ s = .string (accT 1 l k)) (fun _ i => l.length - (intOf i).toNat)
    case atStart => exact ⟨0, by omega, rfl, rfl⟩
    case round =>
      obtain ⟨k, hk, rfl, rfl⟩ := hrel
      have hsz := acc_size 1 l k
      by_cases hkn : k < l.length
      · obtain ⟨b, o, rfl, hca⟩ := hc k hkn
        have hts := tok_size l[k]
        have HG := Lib.hid (show l.getD k 0 = l[k] by simp [List.getD_eq_getElem?_getD, hkn])
        by_cases h0 : 0 < k
        · go_wp2_with (go_at_call 44; refine (refname_any _ _).mono ?_; rintro e w1 ⟨rfl, rfl⟩)
          go_round
          case rel => exact ⟨k + 1, by omega, by go_num, by rw [accT, if_neg (by omega), HG.out]⟩
          case measure => simp [intOf]; omega
        · have hk0 : k ≤ 0 := by omega
          clear h0
          go_wp2_with (go_at_call 44; refine (refname_any _ _).mono ?_; rintro e w1 ⟨rfl, rfl⟩)
          go_round
          case rel => exact ⟨k + 1, by omega, by go_num, by rw [accT, if_pos (by omega), HG.out]⟩
          case measure => simp [intOf]; omega
      · obtain rfl : k = l.length := by omega
        go_wp2
        go_ret
        exact ⟨ret_str (acc_all _ _), rfl⟩
  · have hwb : (who == 1) = false := by simpa using hw
    go_wp2
    go_loop [5, 6] (fun s i => ∃ k : Nat, k ≤ l.length ∧ i = .int .i64 k ∧ s = .string (accT who l k)) (fun _ i => l.length - (intOf i).toNat)
    case atStart => exact ⟨0, by omega, rfl, by rw [accT, arrowT, if_neg hw]⟩
    case round =>
      obtain ⟨k, hk, rfl, rfl⟩ := hrel
      have hsz := acc_size who l k
      by_cases hkn : k < l.length
      · obtain ⟨b, o, rfl, hca⟩ := hc k hkn
        have hts := tok_size l[k]
        have HG := Lib.hid (show l.getD k 0 = l[k] by simp [List.getD_eq_getElem?_getD, hkn])
        by_cases h0 : 0 < k
        · go_wp2_with (go_at_call 44; refine (refname_any _ _).mono ?_; rintro e w1 ⟨rfl, rfl⟩)
          go_round
          case rel => exact ⟨k + 1, by omega, by go_num, by rw [accT, if_neg (by omega), HG.out]⟩
          case measure => simp [intOf]; omega
        · have hk0 : k ≤ 0 := by omega
          clear h0
          go_wp2_with (go_at_call 44; refine (refname_any _ _).mono ?_; rintro e w1 ⟨rfl, rfl⟩)
          go_round
          case rel => exact ⟨k + 1, by omega, by go_num, by rw [accT, if_pos (by omega), HG.out]⟩
          case measure => simp [intOf]; omega
      · obtain rfl : k = l.length := by omega
        go_wp2
        go_ret
        exact ⟨ret_str (acc_all _ _), rfl⟩


theorem drawn_bl {w W : World} (h : Bl w W) (n : Nat) : Bl w (W.drewN n) := h.drewN n

set_option maxRecDepth 100000 in
set_option maxHeartbeats 2000000 in
theorem refPrint_any (v : Value) (p : Pat) (w : World) (h : SP w v p) (hs : Small p) :
    Calls Tryd.prog 20 #[v] w fun e w' => e = .returned (.string (printT p)) ∧ Bl w w' := by
  obtain ⟨name, pre0, pre1, ms⟩ := p
  obtain ⟨v0, v1, vm, rfl, hn, h0, h1, hm⟩ := h
  simp only at hn h0 h1 hm
  have hs0 := hs.pre0
  have hs1 := hs.pre1
  have hsm := hs.msgs
  have hsn := hs.name
  simp only at hs0 hs1 hsm hsn
  obtain ⟨a0, c0, rfl⟩ := h0.form
  obtain ⟨a1, c1, rfl⟩ := h1.form
  obtain ⟨am, cm, rfl⟩ := hm.form
  have hso0 := opt_size 0 pre0 hs0
  have hso1 := opt_size 1 pre1 hs1
  go_enter Tryd.func20, Tryd.ntmps20
  go_wp2
  have x1 := BoxAt.new w #[.string name, .slice a0 pre0.length c0, .slice a1 pre1.length c1, .slice am ms.length cm] 37
  have H : Bl w (w.alloc (.cells #[.string name, .slice a0 pre0.length c0, .slice a1 pre1.length c1, .slice am ms.length cm] 37)) := (Bl.refl _).alloc _
  generalize w.alloc (.cells #[.string name, .slice a0 pre0.length c0, .slice a1 pre1.length c1, .slice am ms.length cm] 37) = W at x1 H ⊢
  generalize w.heap.size = B at x1 ⊢
  have b0 := x1.cell 0 rfl
  have b1 := x1.cell 1 rfl
  have b2 := x1.cell 2 rfl
  have b3 := x1.cell 3 rfl
  have hz0 := accP_size ⟨name, pre0, pre1, ms⟩ hs 0
  have hz1 := accP_size ⟨name, pre0, pre1, ms⟩ hs 1
  have hz2 := accP_size ⟨name, pre0, pre1, ms⟩ hs 2
  go_loop [3, 4] (fun s i => ∃ j : Nat, j ≤ 2 ∧ i = .int .i64 j ∧ s = .string (accP ⟨name, pre0, pre1, ms⟩ j)) (fun _ i => 2 - (intOf i).toNat)
  case atStart => exact ⟨0, by omega, rfl, rfl⟩
  case round =>
    obtain ⟨j, hj, rfl, rfl⟩ := hrel
    rcases (show j = 0 ∨ j = 1 ∨ j = 2 by omega) with rfl | rfl | rfl
    · by_cases hp : pre0 = []
      · subst hp
        go_wp2
        go_round
        case rel => exact ⟨1, by omega, rfl, congrArg Value.string (by show accP _ 0 = accP _ 0 ++ optT 0 []; rw [optT, if_pos rfl, ba_nil])⟩
        case measure => simp [intOf]
      · have hlp : 0 < pre0.length := List.length_pos_iff.2 hp
        have HO := Lib.hid (show accP ⟨name, pre0, pre1, ms⟩ 0 ++ lineT 0 pre0 = accP ⟨name, pre0, pre1, ms⟩ 1 by rw [accP, accP, optT, if_neg hp])
        have hsz := line_size 0 pre0
        go_wp2_with (go_at_call 45; refine (refLine_any _ _ pre0 _ (h0.bl H) (by omega)).mono ?_; rintro e w1 ⟨rfl, rfl⟩)
        go_round
        case rel => exact ⟨1, by omega, rfl, by rw [HO.out]⟩
        case measure => simp [intOf]
    · by_cases hp : pre1 = []
      · subst hp
        go_wp2
        go_round
        case rel => exact ⟨2, by omega, rfl, congrArg Value.string (by show accP _ 1 = accP _ 1 ++ optT 1 []; rw [optT, if_pos rfl, ba_nil])⟩
        case measure => simp [intOf]
      · have hlp : 0 < pre1.length := List.length_pos_iff.2 hp
        have HO := Lib.hid (show accP ⟨name, pre0, pre1, ms⟩ 1 ++ lineT 1 pre1 = accP ⟨name, pre0, pre1, ms⟩ 2 by
          show _ = accP ⟨name, pre0, pre1, ms⟩ 1 ++ optT 1 pre1
          rw [optT, if_neg hp])
        have hsz := line_size 1 pre1
        go_wp2_with (go_at_call 45; refine (refLine_any _ _ pre1 _ (h1.bl H) (by omega)).mono ?_; rintro e w1 ⟨rfl, rfl⟩)
        go_round
        case rel => exact ⟨2, by omega, rfl, by rw [HO.out]⟩
        case measure => simp [intOf]
    · have hfin : (pre0 = [] ∧ pre1 = [] ∧ accP ⟨name, pre0, pre1, ms⟩ 2 = headT ⟨name, pre0, pre1, ms⟩) ∨ (0 < pre0.length + pre1.length ∧ accP ⟨name, pre0, pre1, ms⟩ 2 ++ ⟨#[46, 46, 46, 10]⟩ = headT ⟨name, pre0, pre1, ms⟩) := by
        by_cases hp : pre0 = [] ∧ pre1 = []
        · refine .inl ⟨hp.1, hp.2, ?_⟩
          rw [← accP_head, dotsT, if_pos hp, ba_nil]
        · refine .inr ⟨?_, ?_⟩
          · rcases Nat.eq_zero_or_pos (pre0.length + pre1.length) with h | h
            · exact absurd ⟨List.length_eq_zero_iff.1 (by omega), List.length_eq_zero_iff.1 (by omega)⟩ hp
            · exact h
          · rw [← accP_head, dotsT, if_neg hp]
      rcases hfin with ⟨rfl, rfl, hfin⟩ | ⟨hpos, hfin⟩
      · have HF := Lib.hid hfin
        clear hfin
        go_wp2
        go_loopw [3, 5] (fun s i wr => ∃ k : Nat, k ≤ ms.length ∧ i = .int .i64 k ∧ s = .string (msgsT (headT ⟨name, [], [], ms⟩) (ms.take k)) ∧ Dr W wr) (fun _ i _ => ms.length - (intOf i).toNat)
        case atStart => exact ⟨0, by omega, rfl, by rw [HF.out]; rfl, Dr.refl _⟩
        case round =>
          obtain ⟨k, hk, rfl, rfl, hD⟩ := hrel
          have hsk := msgsT_size_take _ hs k
          simp only at hsk
          clear b0 b1 b2 b3
          have b3 := hD.bl.cellq (x1.cell 3 rfl)
          by_cases hkn : k < ms.length
          · obtain ⟨_, _, e, _, hc⟩ := id hm
            injection e with e1 e2 e3
            subst e1 e3
            clear e2
            obtain ⟨b, o, u, rfl, hca, hcb, hu⟩ := hc k hkn
            replace hca := (H.trans hD.bl).cellq hca
            replace hcb := (H.trans hD.bl).cellq hcb
            replace hu := hu.bl (H.trans hD.bl)
            have hlt := lt_of_cell hca
            have hme := hs.each ms[k] (List.getElem_mem hkn)
            have hst := msgsT_take (headT ⟨name, [], [], ms⟩) ms k hkn
            clear hc
            generalize hmm : ms[k] = m at *
            have HM := Lib.hid hmm
            have HT := Lib.hid hst
            clear hmm hst
            have hls := line_size m.who m.t
            go_wp2
            go_quiet ((go_at_call 45; exact Calls.quiet_of_same ((refLine_any _ _ m.t _ (hu.bl ((Bl.refl _).drewN _)) (by omega)).mono fun _ _ h => ⟨h.1, h.2.symm⟩)))
            go_wp2
            go_roundw
            case rel => exact ⟨k + 1, by omega, by go_num, by rw [HT.out], hD.step _⟩
            case measure => simp [intOf]; omega
          · go_wp2
            go_ret
            exact ⟨ret_str (by rw [printT, List.take_of_length_le (by omega)]), H.trans hD.bl⟩

      · have HF := Lib.hid hfin
        clear hfin
        go_wp2
        go_loopw [3, 5] (fun s i wr => ∃ k : Nat, k ≤ ms.length ∧ i = .int .i64 k ∧ s = .string (msgsT (headT ⟨name, pre0, pre1, ms⟩) (ms.take k)) ∧ Dr W wr) (fun _ i _ => ms.length - (intOf i).toNat)
        case atStart => exact ⟨0, by omega, rfl, by rw [HF.out]; rfl, Dr.refl _⟩
        case round =>
          obtain ⟨k, hk, rfl, rfl, hD⟩ := hrel
          have hsk := msgsT_size_take _ hs k
          simp only at hsk
          clear b0 b1 b2 b3
          have b3 := hD.bl.cellq (x1.cell 3 rfl)
          by_cases hkn : k < ms.length
          · obtain ⟨_, _, e, _, hc⟩ := id hm
            injection e with e1 e2 e3
            subst e1 e3
            clear e2
            obtain ⟨b, o, u, rfl, hca, hcb, hu⟩ := hc k hkn
            replace hca := (H.trans hD.bl).cellq hca
            replace hcb := (H.trans hD.bl).cellq hcb
            replace hu := hu.bl (H.trans hD.bl)
            have hlt := lt_of_cell hca
            have hme := hs.each ms[k] (List.getElem_mem hkn)
            have hst := msgsT_take (headT ⟨name, pre0, pre1, ms⟩) ms k hkn
            clear hc
            generalize hmm : ms[k] = m at *
            have HM := Lib.hid hmm
            have HT := Lib.hid hst
            clear hmm hst
            have hls := line_size m.who m.t
            go_wp2
            go_quiet ((go_at_call 45; exact Calls.quiet_of_same ((refLine_any _ _ m.t _ (hu.bl ((Bl.refl _).drewN _)) (by omega)).mono fun _ _ h => ⟨h.1, h.2.symm⟩)))
            go_wp2
            go_roundw
            case rel => exact ⟨k + 1, by omega, by go_num, by rw [HT.out], hD.step _⟩
            case measure => simp [intOf]; omega
          · go_wp2
            go_ret
            exact ⟨ret_str (by rw [printT, List.take_of_length_le (by omega)]), H.trans hD.bl⟩

end Go.Proofs.YtkcmmcgbkihpfaaDoor
