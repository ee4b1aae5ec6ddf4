/- Walks: valid.Check. -/
import Derived.Test.YtelloecgdiocoaaDoorV8
import Derived.IntWalk
set_option linter.unusedSimpArgs false
set_option linter.unusedVariables false
namespace Go.Proofs.YtelloecgdiocoaaDoor
open Go.RowKit Go.Sort

def checkV (p : Pat) : Int × Nat × Int := if rightB p then chkR p else (0, 0, 1)
/-- whose the message ahead is -/
def prevW (ms : List Msg) (k : Nat) : Int := match k with | 0 => -1 | j + 1 => (ms.getD j ⟨0, []⟩).who
def chkF (s : St) (p : Pat) (x : Option (Int × Nat) × St) : Int × Nat × Int :=
  match x with
  | (some (r, k), _) => (r, k, 13)
  | (none, s) => if 0 < endS s p then (endS s p, p.msgs.length, 13) else (0, 0, 0)
theorem ret_three {a a' b b' c c' : Int} (ha : a = a') (hb : b = b') (hc : c = c') : Ending.returned (.tuple #[.int .i64 a, .int .i64 b, .int .i64 c]) = .returned (.tuple #[.int .i64 a', .int .i64 b', .int .i64 c']) := by rw [ha, hb, hc]
theorem good_msg {m : Msg} (h : badMsg m = false) : (m.who = 0 ∨ m.who = 1) ∧ ∀ t ∈ m.t, 1 ≤ t ∧ t ≤ 7 := by
  simp only [badMsg, Bool.or_eq_false_iff, decide_eq_false_iff_not, List.any_eq_false] at h
  obtain ⟨⟨⟨⟨h1, h2⟩, h3⟩, h4⟩, h5⟩ := h
  refine ⟨by omega, fun t ht => ?_⟩
  have := h5 t ht
  simp only [badTok, Bool.or_eq_true, decide_eq_true_eq, not_or] at this
  omega
theorem right_parts {p : Pat} (h : rightB p = true) : toldB p.pre0 = true ∧ toldB p.pre1 = true ∧ 1 ≤ p.msgs.length ∧ p.msgs.length ≤ 6 ∧ okMsgs p.msgs := by
  simp only [rightB, Bool.and_eq_true, decide_eq_true_eq, Bool.not_eq_true', List.any_eq_false] at h
  obtain ⟨⟨⟨⟨⟨h1, h2⟩, h3⟩, h4⟩, h5⟩, h6⟩ := h
  exact ⟨h2, h3, h4, h5, fun m hm => good_msg (by simpa using h6 m hm)⟩
theorem SM.at {w : World} {a : Option Addr} {n c : Nat} {l : List Msg} (h : SM w (.slice a n c) l) (j : Nat) (hj : j < l.length) :
    ∃ b o u, a = some ⟨b, o, none⟩ ∧ w.cell? ⟨b, o + j * 2, none⟩ = some (.int .i64 l[j].who) ∧ w.cell? ⟨b, o + j * 2 + 1, none⟩ = some u ∧ SI w u l[j].t := by
  obtain ⟨a', c', e, _, hc⟩ := h
  injection e with e1 _ _
  obtain ⟨b, o, u, ha, h1⟩ := hc j hj
  exact ⟨b, o, u, e1.trans ha, h1⟩

set_option maxRecDepth 100000 in
set_option maxHeartbeats 4000000 in
theorem check_any (v : Value) (p : Pat) (w : World) (h : SP w v p) :
    Calls Tryd.prog 43 #[v] w fun e w' => e = .returned (.tuple #[.int .i64 (checkV p).1, .int .i64 (checkV p).2.1, .int .i64 (checkV p).2.2]) ∧ Bl w w' := by
  have HC : Hid (rightB p = true → checkV p = chkF (beginS p) p (chkL (beginS p) (-1) 0 p.msgs)) := Lib.hid (fun hr => by rw [checkV, if_pos hr]; rfl)
  have HN : Hid (rightB p = false → checkV p = (0, 0, 1)) := Lib.hid (fun hr => by rw [checkV, hr]; rfl)
  have HP : Hid (rightB p = true → toldB p.pre0 = true ∧ toldB p.pre1 = true ∧ 1 ≤ p.msgs.length ∧ p.msgs.length ≤ 6 ∧ okMsgs p.msgs) := Lib.hid right_parts
  have hv0 := h
  obtain ⟨name, pre0, pre1, ms⟩ := p
  obtain ⟨v0, v1, vm, rfl, hn, h0, h1, hm⟩ := h
  simp only at hn h0 h1 hm HP
  obtain ⟨a0, c0, rfl⟩ := h0.form
  obtain ⟨a1, c1, rfl⟩ := h1.form
  obtain ⟨am, cm, rfl⟩ := hm.form
  have hlm := hm.len
  clear h0 h1
  go_enter Tryd.func43, Tryd.ntmps43
  have y := BoxAt.new w #[.string name, .slice a0 pre0.length c0, .slice a1 pre1.length c1, .slice am ms.length cm] 29
  have H : Bl w (w.alloc (.cells #[.string name, .slice a0 pre0.length c0, .slice a1 pre1.length c1, .slice am ms.length cm] 29)) := (Bl.refl w).alloc _
  go_wp2_with fail
  refine (right_any _ _ _ (hv0.bl H)).mono ?_
  rintro e w1 ⟨rfl, hb1⟩
  have y1 := y.bl hb1
  have H1 := H.trans hb1
  have g0 := y1.cell 0 rfl
  have g1 := y1.cell 1 rfl
  have g2 := y1.cell 2 rfl
  have g3 := y1.cell 3 rfl
  cases hr : rightB ⟨name, pre0, pre1, ms⟩
  · have HE := Lib.hid (HN.out hr)
    clear HC HN HP hr
    go_wp2
    go_ret3
    exact ⟨by rw [HE.out]; rfl, H1⟩
  · obtain ⟨ht0, ht1, hl1, hl6, hok⟩ := HP.out hr
    have HE := Lib.hid (HC.out hr)
    have HOK := Lib.hid hok
    clear HC HN HP hr hok
    go_wp2_with fail
    refine (begin_any _ _ _ (hv0.bl H1) ht0 ht1).mono ?_
    rintro e w2 ⟨rfl, hb2⟩
    have y2 := y1.bl hb2
    have H2 := H1.trans hb2
    clear g0 g1 g2 g3
    have g3 := y2.cell 3 rfl
    have hlt2 := y2.lt
    generalize beginS ⟨name, pre0, pre1, ms⟩ = sB at *
    obtain ⟨z0, e0, s0, z1', e1, s1, m0, m1, m2, m3, m4, m5, m6, m7, mode, keyed⟩ := sB
    unfold stV
    go_wp2
    have x3 := BoxAt.new w2 #[.bool z0, .bool e0, .bool s0, .bool z1', .bool e1, .bool s1, .bool m0, .bool m1, .bool m2, .bool m3, .bool m4, .bool m5, .bool m6, .bool m7, .bool mode, .bool keyed] 106
    have hw3 : Bl w2 (w2.alloc (.cells #[.bool z0, .bool e0, .bool s0, .bool z1', .bool e1, .bool s1, .bool m0, .bool m1, .bool m2, .bool m3, .bool m4, .bool m5, .bool m6, .bool m7, .bool mode, .bool keyed] 106)) := (Bl.refl w2).alloc _
    have y3 := y2.bl hw3
    have H3 := H2.trans hw3
    have hle : w.heap.size < w2.heap.size := hlt2
    clear g3 y y1 y2
    generalize w2.alloc (.cells #[.bool z0, .bool e0, .bool s0, .bool z1', .bool e1, .bool s1, .bool m0, .bool m1, .bool m2, .bool m3, .bool m4, .bool m5, .bool m6, .bool m7, .bool mode, .bool keyed] 106) = W at x3 y3 H3 ⊢
    replace x3 : BoxAt W w2.heap.size (stV ⟨z0, e0, s0, z1', e1, s1, m0, m1, m2, m3, m4, m5, m6, m7, mode, keyed⟩) 106 := x3
    generalize hB : w2.heap.size = B at *
    have hneB : w.heap.size ≠ B := by omega
    have hleB : w.heap.size ≤ B := by omega
    generalize (⟨z0, e0, s0, z1', e1, s1, m0, m1, m2, m3, m4, m5, m6, m7, mode, keyed⟩ : St) = sB at *
    have hm3 := hm.bl H3
    have hxW := x3
    clear hB hw3 hb2 hb1 hlt2
    go_loopw [18] (fun i wr => ∃ (k : Nat) (sk : St), k ≤ ms.length ∧ i = .int .i64 k ∧ BoxAt wr B (stV sk) 106 ∧ BoxAt wr w.heap.size [.string name, .slice a0 pre0.length c0, .slice a1 pre1.length c1, .slice am ms.length cm] 29 ∧ OB B W wr ∧
        Hid (checkV ⟨name, pre0, pre1, ms⟩ = chkF sB ⟨name, pre0, pre1, ms⟩ (chkL sk (prevW ms k) k (ms.drop k)))) (fun i _ => ms.length - (intOf i).toNat)
    case atStart => exact ⟨0, sB, by omega, rfl, x3, y3, OB.refl _ _, Lib.hid (by rw [HE.out]; rfl)⟩
    case round =>
      obtain ⟨k, sk, hk, rfl, xr, yr, hor, HL⟩ := hrel
      have Hr : Bl w wr := Below.trans H3 (Below.mono hor.below hleB)
      have hmr := hm3.ob hxW hor
      have hltr := xr.lt
      by_cases hkn : k < ms.length
      · obtain ⟨hwho, htok⟩ := HOK.out ms[k] (List.getElem_mem hkn)
        have HD := Lib.hid (List.drop_eq_getElem_cons hkn)
        have HPV : Hid (prevW ms (k + 1) = ms[k].who) := Lib.hid (by simp [prevW, hkn])
        obtain ⟨b, o, u, rfl, hca, hcb, hu⟩ := hmr.at k hkn
        generalize ms[k] = m at *
        obtain ⟨who, l⟩ := m
        simp only at hwho htok hca hcb hu HPV
        obtain ⟨ua, uc, rfl⟩ := hu.form
        have HNX : Hid (chkL sk (prevW ms k) k (ms.drop k) = if prevW ms k = who then (some (1, k), sk) else if 0 < (msgS sk ⟨who, l⟩).1 then (some ((msgS sk ⟨who, l⟩).1, k), (msgS sk ⟨who, l⟩).2) else chkL (msgS sk ⟨who, l⟩).2 who (k + 1) (ms.drop (k + 1))) := Lib.hid (by rw [HD.out, chkL])
        have hal : Bl wr (wr.alloc (.cells #[.int .i64 who, .slice ua l.length uc] 65)) := (Bl.refl wr).alloc _
        have z4 := BoxAt.new wr #[.int .i64 who, .slice ua l.length uc] 65
        have x4 := xr.bl hal
        have y4 := yr.bl hal
        have hu4 := hu.bl hal
        go_wp2
        generalize hWA : wr.alloc (.cells #[.int .i64 who, .slice ua l.length uc] 65) = WA at hal z4 x4 y4 hu4 ⊢
        go_cut [36] from 23 to 36 (fun p wx => p = .bool (decide (prevW ms k = who)) ∧ Dr WA wx)
        case first =>
          by_cases hk0 : k = 0
          · have hne : prevW ms k ≠ who := by rw [hk0]; simp only [prevW]; omega
            have hg : decide (0 < (k : Int)) = false := by simp; omega
            have hg' : decide (0 < k) = false := by simp; omega
            have HNE := Lib.hid (decide_eq_false hne)
            clear hk0 hne
            go_quiet (fail)
            go_wp2
            go_meet
            exact ⟨by rw [HNE.out], _, rfl⟩
          · obtain ⟨b', o', u', e', hpa, _, _⟩ := (hmr.bl hal).at (k - 1) (by omega)
            injection e' with e'
            injection e' with e1 e2 _
            subst e1 e2
            have hg : decide (0 < (k : Int)) = true := by simp; omega
            have hg' : decide (0 < k) = true := by simp; omega
            have hw1 : IntKind.i64.wrap ((k : Int) - 1) = (k : Int) - 1 := IntWalk.i64_in _ (by omega)
            have hw2 : (1 : Int) ≤ (k : Int) := by omega
            have hw0 : (0 : Int) ≤ (k : Int) - 1 := by omega
            have hw3 : ((k : Int) - 1).toNat = k - 1 := by omega
            have hw4 : (k : Int) - 1 < (ms.length : Int) := by omega
            have HPW : Hid (prevW ms k = ms[k - 1].who) := Lib.hid (by
              obtain ⟨j, rfl⟩ : ∃ j, k = j + 1 := ⟨k - 1, by omega⟩
              simp [prevW, show j < ms.length by omega])
            have y43 := y4.cell 3 rfl
            have z40 := z4.cell 0 rfl
            go_quiet (fail)
            go_wp2
            go_meet
            exact ⟨by rw [HPW.out]; rfl, _, rfl⟩
        case rest =>
          obtain ⟨rfl, hdr⟩ := hcut
          have hbc := hdr.bl
          have z5 := z4.bl hbc
          have x5 := x4.bl hbc
          have y5 := y4.bl hbc
          have hu5 := hu4.bl hbc
          have ho5 : OB B W wc := hor.trans (OB.ofBl (hal.trans hbc) hltr)
          have H5 : Bl w wc := Below.trans H3 (Below.mono ho5.below hleB)
          clear hdr hbc hal z4 x4 y4 hu4 hWA
          have z50 := z5.cell 0 rfl
          have z51 := z5.cell 1 rfl
          by_cases hpv : prevW ms k = who
          · have hd : decide (prevW ms k = who) = true := by simpa using hpv
            have HR : Hid (checkV ⟨name, pre0, pre1, ms⟩ = (1, k, 13)) := Lib.hid (by
              rw [HL.out, HNX.out, if_pos hpv]; rfl)
            clear HNX HL
            go_wp2
            go_ret3
            exact ⟨by rw [HR.out]; rfl, H5⟩
          · have hd : decide (prevW ms k = who) = false := by simpa using hpv
            have HR : Hid (checkV ⟨name, pre0, pre1, ms⟩ = chkF sB ⟨name, pre0, pre1, ms⟩ (if 0 < (msgS sk ⟨who, l⟩).1 then (some ((msgS sk ⟨who, l⟩).1, k), (msgS sk ⟨who, l⟩).2) else chkL (msgS sk ⟨who, l⟩).2 who (k + 1) (ms.drop (k + 1)))) := Lib.hid (by
              rw [HL.out, HNX.out, if_neg hpv])
            clear HNX HL
            go_wp2_with fail
            refine (message_any sk ⟨who, l⟩ _ hwho htok B wc x5 hu5).mono ?_
            rintro e w6 ⟨rfl, x6, ho6⟩
            generalize msgS sk ⟨who, l⟩ = q at *
            obtain ⟨r, s2⟩ := q
            simp only at x6 HR ⊢
            have ho7 := ho5.trans ho6
            have y6 := y5.ob ho6 hneB
            have H6 : Bl w w6 := Below.trans H3 (Below.mono ho7.below hleB)
            by_cases hr : 0 < r
            · have hdr : decide (0 < r) = true := by simpa using hr
              have HZ : Hid (checkV ⟨name, pre0, pre1, ms⟩ = (r, k, 13)) := Lib.hid (by rw [HR.out, if_pos hr]; rfl)
              clear HR
              go_wp2
              go_ret3
              exact ⟨by rw [HZ.out]; rfl, H6⟩
            · have hdr : decide (0 < r) = false := by simpa using hr
              have HZ : Hid (checkV ⟨name, pre0, pre1, ms⟩ = chkF sB ⟨name, pre0, pre1, ms⟩ (chkL s2 (prevW ms (k + 1)) (k + 1) (ms.drop (k + 1)))) := Lib.hid (by rw [HR.out, if_neg hr, HPV.out])
              clear HR
              go_wp2
              go_roundw
              case rel => exact ⟨k + 1, s2, by omega, by go_num, x6, y6, ho7, HZ⟩
              case measure => simp [intOf]; omega
      · have HM : Hid (checkV ⟨name, pre0, pre1, ms⟩ = chkF sB ⟨name, pre0, pre1, ms⟩ (none, sk)) := Lib.hid (by
          rw [HL.out, List.drop_eq_nil_of_le (by omega)]
          rfl)
        clear HL
        have y3' := yr.cell 3 rfl
        obtain ⟨g0, g1, g2⟩ : _ ∧ _ ∧ _ := ⟨yr.cell 0 rfl, yr.cell 1 rfl, yr.cell 2 rfl⟩
        go_wp2_with fail
        refine (end_any sk ⟨name, pre0, pre1, ms⟩ _ hl1 B wr xr (hv0.bl Hr)).mono ?_
        rintro e w6 ⟨rfl, hb6⟩
        have y6 := yr.bl hb6
        have H6 := Hr.trans hb6
        have g3 := y6.cell 3 rfl
        generalize hes : endS sk ⟨name, pre0, pre1, ms⟩ = r at *
        have HES := Lib.hid hes
        clear hes y3' g0 g1 g2
        by_cases hr : 0 < r
        · have hdr : decide (0 < r) = true := by simpa using hr
          have HZ : Hid (checkV ⟨name, pre0, pre1, ms⟩ = (r, ms.length, 13)) := Lib.hid (by rw [HM.out, chkF]; simp only [HES.out, if_pos hr])
          clear HM
          go_wp2
          go_quiet (fail)
          go_wp2
          go_ret3
          exact ⟨by rw [HZ.out]; rfl, H6.drewN _⟩
        · have hdr : decide (0 < r) = false := by simpa using hr
          have HZ : Hid (checkV ⟨name, pre0, pre1, ms⟩ = (0, 0, 0)) := Lib.hid (by rw [HM.out, chkF]; simp only [HES.out, if_neg hr])
          clear HM
          go_wp2
          go_ret3
          exact ⟨by rw [HZ.out]; rfl, H6⟩
end Go.Proofs.YtelloecgdiocoaaDoor
