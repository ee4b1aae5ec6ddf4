/- Walks: token.Print. -/
import Derived.Test.YtelloecgdiocoaaDoorW10
import Derived.Test.YtelloecgdiocoaaDoorW8
set_option linter.unusedSimpArgs false
set_option linter.unusedVariables false
namespace Go.Proofs.YtelloecgdiocoaaDoor
open Go.RowKit

theorem preIdx0 (x0 x1 : Value) (w : World) : (Instr.index 26 (.agg #[x0, x1]) (.int .i64 0)).run Tryd.prog w = .ok x0 w := by kernel_rfl
theorem preIdx1 (x0 x1 : Value) (w : World) : (Instr.index 26 (.agg #[x0, x1]) (.int .i64 1)).run Tryd.prog w = .ok x1 w := by kernel_rfl

theorem told_small {l : List Int} (h : toldB l = true) : l.length ≤ 2 := by
  simp only [toldB, Bool.or_eq_true, decide_eq_true_eq] at h
  rcases h with ((h | h) | h) | h <;> subst h <;> decide
structure RightP (p : Pat) : Prop where
  named : namedB p.name = true
  t0 : toldB p.pre0 = true
  t1 : toldB p.pre1 = true
  lo : 1 ≤ p.msgs.length
  hi : p.msgs.length ≤ 6
  msgs : ∀ m ∈ p.msgs, badMsg m = false
theorem right_iff (p : Pat) : rightB p = true ↔ RightP p := by
  constructor
  · intro h
    simp only [rightB, Bool.and_eq_true, decide_eq_true_eq, Bool.not_eq_true', List.any_eq_false] at h
    obtain ⟨⟨⟨⟨⟨h1, h2⟩, h3⟩, h4⟩, h5⟩, h6⟩ := h
    exact ⟨h1, h2, h3, h4, h5, fun m hm => by simpa using h6 m hm⟩
  · intro h
    simp only [rightB, Bool.and_eq_true, decide_eq_true_eq, Bool.not_eq_true', List.any_eq_false]
    exact ⟨⟨⟨⟨⟨h.named, h.t0⟩, h.t1⟩, h.lo⟩, h.hi⟩, fun m hm => by simp [h.msgs m hm]⟩
structure GoodMsg (m : Msg) : Prop where
  who : m.who = 0 ∨ m.who = 1
  lo : 1 ≤ m.t.length
  hi : m.t.length ≤ 12
  tok : ∀ t ∈ m.t, 1 ≤ t ∧ t ≤ 7
theorem good_of {m : Msg} (h : badMsg m = false) : GoodMsg m := by
  simp only [badMsg, Bool.or_eq_false_iff, decide_eq_false_iff_not, List.any_eq_false] at h
  obtain ⟨⟨⟨⟨h1, h2⟩, h3⟩, h4⟩, h5⟩ := h
  refine ⟨by omega, by omega, by omega, fun t ht => ?_⟩
  have := h5 t ht
  simp only [badTok, Bool.or_eq_true, decide_eq_true_eq] at this
  omega
theorem RightP.small {p : Pat} (h : RightP p) : Small p := by
  have hn := h.named
  simp only [namedB, Bool.and_eq_true, decide_eq_true_eq] at hn
  have h0 := told_small h.t0
  have h1 := told_small h.t1
  have h2 := h.hi
  exact ⟨by omega, by omega, by omega, by omega, fun m hm => by have := (good_of (h.msgs m hm)).hi; omega⟩

theorem opt_pos (who : Int) (l : List Int) (h : l ≠ []) : 0 < (optT who l).size := by
  rw [optT, if_neg h, lineT]
  simp only [ByteArray.size_append]
  have := arrow_size who
  omega

set_option maxRecDepth 100000 in
set_option maxHeartbeats 2000000 in
theorem print_no (v : Value) (p : Pat) (w : World) (h : SP w v p) (hr : rightB p = false) :
    Calls Tryd.prog 34 #[v] w fun e w' => e = .returned (.tuple #[.string ⟨#[]⟩, .int .i64 1]) ∧ Bl w w' := by
  obtain ⟨name, pre0, pre1, ms⟩ := p
  have h' := h
  obtain ⟨v0, v1, vm, rfl, hn, h0, h1, hm⟩ := h
  go_enter Tryd.func34, Tryd.ntmps34
  go_wp2_with fail
  refine (right_any _ _ _ (h'.bl ((Bl.refl _).alloc _))).mono ?_
  rintro e w1 ⟨rfl, hb1⟩
  go_wp2
  go_ret2
  exact ⟨rfl, ((Bl.refl _).alloc _).trans hb1⟩

def accQ (p : Pat) : Nat → ByteArray
  | 0 => ⟨#[]⟩
  | 1 => optT 0 p.pre0
  | _ => optT 0 p.pre0 ++ optT 1 p.pre1
theorem accQ_size (p : Pat) (h : Small p) (j : Nat) : (accQ p j).size ≤ 1100 := by
  have h0 := opt_size 0 p.pre0 h.pre0
  have h1 := opt_size 1 p.pre1 h.pre1
  match j with
  | 0 => show (0 : Nat) ≤ 1100; omega
  | 1 => simp only [accQ]; omega
  | _ + 2 => simp only [accQ, ByteArray.size_append]; omega

set_option maxRecDepth 100000 in
set_option maxHeartbeats 4000000 in
theorem print_yes (v : Value) (p : Pat) (w : World) (h : SP w v p) (hr : rightB p = true) :
    Calls Tryd.prog 34 #[v] w fun e w' => e = .returned (.tuple #[.string (printT p), .int .i64 0]) ∧ Bl w w' := by
  have hR := (right_iff p).1 hr
  have hs := hR.small
  obtain ⟨name, pre0, pre1, ms⟩ := p
  have h' := h
  obtain ⟨v0, v1, vm, rfl, hn, h0, h1, hm⟩ := h
  have hs0 := hs.pre0
  have hs1 := hs.pre1
  have hsm := hs.msgs
  have hsn := hs.name
  simp only at hn h0 h1 hm hs0 hs1 hsm hsn
  obtain ⟨a0, c0, rfl⟩ := h0.form
  obtain ⟨a1, c1, rfl⟩ := h1.form
  obtain ⟨am, cm, rfl⟩ := hm.form
  have ip0 := fun x0 x1 w => preIdx0 x0 x1 w
  have ip1 := fun x0 x1 w => preIdx1 x0 x1 w
  have hz0 := accQ_size ⟨name, pre0, pre1, ms⟩ hs 0
  have hz1 := accQ_size ⟨name, pre0, pre1, ms⟩ hs 1
  have hz2 := accQ_size ⟨name, pre0, pre1, ms⟩ hs 2
  have hHd := head_size ⟨name, pre0, pre1, ms⟩ hs
  have HR := Lib.hid hR
  clear hR
  go_enter Tryd.func34, Tryd.ntmps34
  go_wp2_with fail
  refine (right_any _ _ _ (h'.bl ((Bl.refl _).alloc _))).mono ?_
  rintro e W ⟨rfl, hb1⟩
  have x1 := (BoxAt.new w #[.string name, .slice a0 pre0.length c0, .slice a1 pre1.length c1, .slice am ms.length cm] 29).bl hb1
  have H : Bl w W := ((Bl.refl w).alloc _).trans hb1
  clear hb1
  generalize w.heap.size = B at x1 ⊢
  have b0 := x1.cell 0 rfl
  have b1 := x1.cell 1 rfl
  have b2 := x1.cell 2 rfl
  have b3 := x1.cell 3 rfl
  go_wp2
  go_loopw [4, 15] (fun s i wr => ∃ j : Nat, (j = 0 ∧ i = .int .i64 0 ∨ j = 1 ∧ i = .int .i64 1 ∨ j = 2 ∧ i = .int .i64 2) ∧ s = .string (accQ ⟨name, pre0, pre1, ms⟩ j) ∧ Bl W wr) (fun _ i _ => 2 - (intOf i).toNat)
  case atStart => exact ⟨0, .inl ⟨rfl, rfl⟩, rfl, Bl.refl _⟩
  case round =>
    obtain ⟨j, hj, rfl, hb⟩ := hrel
    rcases hj with ⟨rfl, rfl⟩ | ⟨rfl, rfl⟩ | ⟨rfl, rfl⟩
    · by_cases hp : pre0 = []
      · subst hp
        go_wp2
        go_roundw
        case rel => exact ⟨1, .inr (.inl ⟨rfl, rfl⟩), congrArg Value.string (by show accQ _ 0 = optT 0 []; rw [optT, if_pos rfl]; rfl), hb⟩
        case measure => simp [intOf]
      · have hlp : 0 < pre0.length := List.length_pos_iff.2 hp
        have HO := Lib.hid (show accQ ⟨name, pre0, pre1, ms⟩ 0 ++ lineT 0 pre0 = accQ ⟨name, pre0, pre1, ms⟩ 1 by simp only [accQ, optT, if_neg hp, nil_ba])
        have hsz := line_size 0 pre0
        go_wp2_with fail
        refine (line_any _ _ pre0 _ (h0.bl (H.trans hb)) (by omega) hp (.inl rfl)).mono ?_
        rintro e w1 ⟨rfl, hb1⟩
        go_wp2
        go_roundw
        case rel => exact ⟨1, .inr (.inl ⟨rfl, rfl⟩), by rw [HO.out], hb.trans hb1⟩
        case measure => simp [intOf]
    · by_cases hp : pre1 = []
      · subst hp
        go_wp2
        go_roundw
        case rel => exact ⟨2, .inr (.inr ⟨rfl, rfl⟩), congrArg Value.string (by show accQ _ 1 = accQ _ 1 ++ optT 1 []; rw [optT, if_pos rfl, ba_nil]), hb⟩
        case measure => simp [intOf]
      · have hlp : 0 < pre1.length := List.length_pos_iff.2 hp
        have HO := Lib.hid (show accQ ⟨name, pre0, pre1, ms⟩ 1 ++ lineT 1 pre1 = accQ ⟨name, pre0, pre1, ms⟩ 2 by
          show _ = accQ ⟨name, pre0, pre1, ms⟩ 1 ++ optT 1 pre1
          rw [optT, if_neg hp])
        have hsz := line_size 1 pre1
        go_wp2_with fail
        refine (line_any _ _ pre1 _ (h1.bl (H.trans hb)) (by omega) hp (.inr rfl)).mono ?_
        rintro e w1 ⟨rfl, hb1⟩
        go_wp2
        go_roundw
        case rel => exact ⟨2, .inr (.inr ⟨rfl, rfl⟩), by rw [HO.out], hb.trans hb1⟩
        case measure => simp [intOf]
    · have hfin : ((accQ ⟨name, pre0, pre1, ms⟩ 2).toList.isEmpty = true ∧ name ++ ⟨#[58, 10]⟩ ++ accQ ⟨name, pre0, pre1, ms⟩ 2 = headT ⟨name, pre0, pre1, ms⟩) ∨ ((accQ ⟨name, pre0, pre1, ms⟩ 2).toList.isEmpty = false ∧ name ++ ⟨#[58, 10]⟩ ++ (accQ ⟨name, pre0, pre1, ms⟩ 2 ++ ⟨#[46, 46, 46, 10]⟩) = headT ⟨name, pre0, pre1, ms⟩) := by
        rw [ByteArray.toList_eq]
        by_cases hp : pre0 = [] ∧ pre1 = []
        · refine .inl ⟨?_, ?_⟩
          · obtain ⟨rfl, rfl⟩ := hp
            simp [accQ, optT, ba_nil]
          · rw [headT, dotsT, if_pos hp, ba_nil]; rfl
        · refine .inr ⟨?_, ?_⟩
          · have : 0 < (accQ ⟨name, pre0, pre1, ms⟩ 2).size := by
              simp only [accQ, ByteArray.size_append]
              by_cases h0 : pre0 = []
              · have := opt_pos 1 pre1 (fun e => hp ⟨h0, e⟩); omega
              · have := opt_pos 0 pre0 h0; omega
            rw [Bool.eq_false_iff]
            intro e
            rw [List.isEmpty_iff] at e
            have h2 := congrArg List.length e
            simp only [List.length_nil, Array.length_toList] at h2
            have h3 : (accQ ⟨name, pre0, pre1, ms⟩ 2).data.size = (accQ ⟨name, pre0, pre1, ms⟩ 2).size := rfl
            omega
          · rw [headT, dotsT, if_neg hp]; rfl
      rcases hfin with ⟨hemp, hfin⟩ | ⟨hemp, hfin⟩
      · have HF := Lib.hid hfin
        clear hfin
        obtain ⟨r0, r1, r2, r3⟩ : wr.cell? ⟨B, 0, none⟩ = _ ∧ wr.cell? ⟨B, 1, none⟩ = _ ∧ wr.cell? ⟨B, 2, none⟩ = _ ∧ wr.cell? ⟨B, 3, none⟩ = _ := ⟨hb.cellq b0, hb.cellq b1, hb.cellq b2, hb.cellq b3⟩
        go_wp2
        go_loopw [7, 40] (fun s i wr => ∃ k : Nat, k ≤ ms.length ∧ i = .int .i64 k ∧ s = .string (msgsT (headT ⟨name, pre0, pre1, ms⟩) (ms.take k)) ∧ Bl W wr) (fun _ i _ => ms.length - (intOf i).toNat)
        case atStart => exact ⟨0, by omega, rfl, by rw [HF.out]; rfl, hb⟩
        case round =>
          obtain ⟨k, hk, rfl, rfl, hbk⟩ := hrel
          have hsk := msgsT_size_take _ hs k
          simp only at hsk
          by_cases hkn : k < ms.length
          · obtain ⟨_, _, e, _, hc⟩ := id hm
            injection e with e1 e2 e3
            subst e1 e3
            clear e2
            obtain ⟨b, o, u, rfl, hca, hcb, hu⟩ := hc k hkn
            replace hca := (H.trans hbk).cellq hca
            replace hcb := (H.trans hbk).cellq hcb
            replace hu := hu.bl (H.trans hbk)
            have hlt := lt_of_cell hca
            have hG := good_of (HR.out.msgs ms[k] (List.getElem_mem hkn))
            have hst := msgsT_take (headT ⟨name, pre0, pre1, ms⟩) ms k hkn
            clear hc
            generalize hmm : ms[k] = m at *
            have HM := Lib.hid hmm
            have HT := Lib.hid hst
            clear hmm hst
            have hls := line_size m.who m.t
            have hlo := hG.lo
            have hhi := hG.hi
            have hmne : m.t ≠ [] := fun e => by rw [e] at hlo; simp at hlo
            have HG := Lib.hid hG.who
            clear hG
            obtain ⟨ua, uc, hue⟩ := hu.form
            subst hue
            go_wp2_with fail
            refine (line_any _ _ m.t _ (hu.bl ((Bl.refl _).alloc _)) (by omega) hmne HG.out).mono ?_
            rintro e w1 ⟨rfl, hb1⟩
            go_wp2
            go_roundw
            case rel => exact ⟨k + 1, by omega, by go_num, by rw [HT.out], (hbk.alloc _).trans hb1⟩
            case measure => simp [intOf]; omega
          · go_wp2
            go_ret2
            exact ⟨ret_strint (by rw [printT, List.take_of_length_le (by omega)]), H.trans hbk⟩
      · have HF := Lib.hid hfin
        clear hfin
        obtain ⟨r0, r1, r2, r3⟩ : wr.cell? ⟨B, 0, none⟩ = _ ∧ wr.cell? ⟨B, 1, none⟩ = _ ∧ wr.cell? ⟨B, 2, none⟩ = _ ∧ wr.cell? ⟨B, 3, none⟩ = _ := ⟨hb.cellq b0, hb.cellq b1, hb.cellq b2, hb.cellq b3⟩
        go_wp2
        go_loopw [7, 40] (fun s i wr => ∃ k : Nat, k ≤ ms.length ∧ i = .int .i64 k ∧ s = .string (msgsT (headT ⟨name, pre0, pre1, ms⟩) (ms.take k)) ∧ Bl W wr) (fun _ i _ => ms.length - (intOf i).toNat)
        case atStart => exact ⟨0, by omega, rfl, by rw [HF.out]; rfl, hb⟩
        case round =>
          obtain ⟨k, hk, rfl, rfl, hbk⟩ := hrel
          have hsk := msgsT_size_take _ hs k
          simp only at hsk
          by_cases hkn : k < ms.length
          · obtain ⟨_, _, e, _, hc⟩ := id hm
            injection e with e1 e2 e3
            subst e1 e3
            clear e2
            obtain ⟨b, o, u, rfl, hca, hcb, hu⟩ := hc k hkn
            replace hca := (H.trans hbk).cellq hca
            replace hcb := (H.trans hbk).cellq hcb
            replace hu := hu.bl (H.trans hbk)
            have hlt := lt_of_cell hca
            have hG := good_of (HR.out.msgs ms[k] (List.getElem_mem hkn))
            have hst := msgsT_take (headT ⟨name, pre0, pre1, ms⟩) ms k hkn
            clear hc
            generalize hmm : ms[k] = m at *
            have HM := Lib.hid hmm
            have HT := Lib.hid hst
            clear hmm hst
            have hls := line_size m.who m.t
            have hlo := hG.lo
            have hhi := hG.hi
            have hmne : m.t ≠ [] := fun e => by rw [e] at hlo; simp at hlo
            have HG := Lib.hid hG.who
            clear hG
            obtain ⟨ua, uc, hue⟩ := hu.form
            subst hue
            go_wp2_with fail
            refine (line_any _ _ m.t _ (hu.bl ((Bl.refl _).alloc _)) (by omega) hmne HG.out).mono ?_
            rintro e w1 ⟨rfl, hb1⟩
            go_wp2
            go_roundw
            case rel => exact ⟨k + 1, by omega, by go_num, by rw [HT.out], (hbk.alloc _).trans hb1⟩
            case measure => simp [intOf]; omega
          · go_wp2
            go_ret2
            exact ⟨ret_strint (by rw [printT, List.take_of_length_le (by omega)]), H.trans hbk⟩

end Go.Proofs.YtelloecgdiocoaaDoor
