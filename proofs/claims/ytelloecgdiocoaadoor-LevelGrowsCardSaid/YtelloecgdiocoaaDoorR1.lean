/- Walk: undertoneref07.Met. -/
import Derived.Test.YtelloecgdiocoaaDoorQ3
import Derived.Test.YtelloecgdiocoaaDoorProg
import Derived.Test.YtelloecgdiocoaaDoorOwn
import Derived.Test.YtelloecgdiocoaaDoorV9
set_option linter.unusedSimpArgs false
set_option linter.unusedVariables false
namespace Go.Proofs.YtelloecgdiocoaaDoor
open Go.RowKit Go.Sort

set_option maxRecDepth 100000 in
set_option maxHeartbeats 4000000 in
theorem met_any (v : Value) (p : Pat) (w : World) (h : SP w v p) (hs : Small p) (who t msg at' : Int) (hmsg : 0 ≤ msg) (hat : 0 ≤ at') :
    Calls Tryd.prog 77 #[v, .int .i64 who, .int .i64 t, .int .i64 msg, .int .i64 at'] w fun e w' => e = .returned (.int .i64 (met1 (aheadL p msg.toNat at'.toNat) who t)) ∧ Bl w w' := by
  have HLE : Hid (∀ i k, met1 (innL p msg.toNat at'.toNat i k) who t ≤ 10100) := Lib.hid (fun i k => by unfold innL; split <;> exact met_le p hs _ _ _ _)
  have HEA := Lib.hid hs.each
  have hlm := hs.msgs
  have HC0 := Lib.hid (cur_zero p msg.toNat at'.toNat)
  have HCI := Lib.hid (cur_inn p msg.toNat at'.toNat)
  have HCL := Lib.hid (cur_last p msg.toNat at'.toNat)
  have HCE := Lib.hid (cur_end p msg.toNat at'.toNat)
  have HIE := Lib.hid (inn_end p msg.toNat at'.toNat)
  have HST := Lib.hid (fun i k m => inn_step p msg.toNat at'.toNat i k m who t)
  clear hs
  obtain ⟨v0, v1, vm, rfl, hn, h0, h1, hm⟩ := h
  obtain ⟨a0, c0, rfl⟩ := h0.form
  obtain ⟨a1, c1, rfl⟩ := h1.form
  obtain ⟨am, cm, rfl⟩ := hm.form
  clear h0 h1
  go_enter Tryd.func77, Tryd.ntmps77
  have y := BoxAt.new w #[.string p.name, .slice a0 p.pre0.length c0, .slice a1 p.pre1.length c1, .slice am p.msgs.length cm] 43
  have H : Bl w (w.alloc (.cells #[.string p.name, .slice a0 p.pre0.length c0, .slice a1 p.pre1.length c1, .slice am p.msgs.length cm] 43)) := (Bl.refl w).alloc _
  go_wp2
  generalize w.alloc (.cells #[.string p.name, .slice a0 p.pre0.length c0, .slice a1 p.pre1.length c1, .slice am p.msgs.length cm] 43) = W at y H ⊢
  go_loopw [11, 12] (fun n i wr => ∃ (i' : Nat), i' ≤ p.msgs.length ∧ i = .int .i64 i' ∧ n = .int .i64 (met1 (curL p msg.toNat at'.toNat i') who t : Nat) ∧ BoxAt wr w.heap.size [.string p.name, .slice a0 p.pre0.length c0, .slice a1 p.pre1.length c1, .slice am p.msgs.length cm] 43 ∧ Bl w wr) (fun _ i _ => p.msgs.length - (intOf i).toNat)
  case atStart => exact ⟨0, by omega, rfl, by rw [HC0.out]; rfl, y, H⟩
  case round =>
    obtain ⟨i, hi, rfl, rfl, yr, Hr⟩ := hrel
    have y3 := yr.cell 3 rfl
    by_cases hin : i < p.msgs.length
    · have dlt : decide ((i : Int) < (p.msgs.length : Int)) = true := by simp; omega
      by_cases hle : (i : Int) ≤ msg
      · have dle : decide ((i : Int) ≤ msg) = true := by simp [hle]
        have hle' : i ≤ msg.toNat := by omega
        have HI0 := Lib.hid (HCI.out i hle')
        have hmr := hm.bl Hr
        obtain ⟨b, o, u, rfl, hca, hcb, hu⟩ := hmr.at i hin
        have HMI : Hid (p.msgs[i]? = some p.msgs[i]) := Lib.hid (List.getElem?_eq_getElem hin)
        have hlen := HEA.out p.msgs[i] (List.getElem_mem hin)
        have HSI := Lib.hid (fun k => HST.out i k p.msgs[i] HMI.out hle')
        have HEI := Lib.hid (fun k => HIE.out i k p.msgs[i] HMI.out hle')
        clear HST HIE HMI hmr
        generalize p.msgs[i] = m at *
        obtain ⟨from', l⟩ := m
        simp only at hca hcb hu hlen HSI HEI
        obtain ⟨ua, uc, rfl⟩ := hu.form
        go_wp2
        obtain ⟨wo, hwo⟩ : ∃ wo : World, wo = wr := ⟨_, rfl⟩
        go_loopw [11, 13] (fun n j wq => ∃ (k : Nat), k ≤ l.length ∧ j = .int .i64 k ∧ n = .int .i64 (met1 (innL p msg.toNat at'.toNat i k) who t : Nat) ∧ wq = wr) (fun _ j _ => l.length - (intOf j).toNat)
        case atStart => exact ⟨0, by omega, rfl, by rw [HI0.out], rfl⟩
        case round =>
          obtain ⟨k, hk, rfl, rfl, rfl⟩ := hrel
          by_cases hkn : k < l.length
          · have HS := Lib.hid (HSI.out k hkn)
            have hbd := HLE.out i k
            obtain ⟨b', o', e', hct⟩ : ∃ b' o', ua = some ⟨b', o', none⟩ ∧ wr.cell? ⟨b', o' + k, none⟩ = some (.int .i64 l[k]) := by
              obtain ⟨a', c', e, _, hc⟩ := hu
              injection e with e1 _ _
              obtain ⟨b', o', e2, h2⟩ := hc k hkn
              exact ⟨b', o', e1.trans e2, h2⟩
            subst e'
            generalize hx : l[k] = x at *
            clear hx
            by_cases h1 : (i : Int) < msg
            · have d1 : decide ((i : Int) < msg) = true := by simp [h1]
              have h1' : i < msg.toNat := by omega
              by_cases h3 : x = t
              · have d3 : (x == t) = true := by simp [h3]
                have H3 := Lib.hid h3
                clear h3
                by_cases h4 : who = 2
                · have d4 : (who == 2) = true := by simp [h4]
                  have H4 := Lib.hid h4
                  clear h4
                  have HN : Hid (met1 (innL p msg.toNat at'.toNat i (k + 1)) who t = met1 (innL p msg.toNat at'.toNat i k) who t + 1) := Lib.hid (by rw [HS.out]; simp [h1', H3.out, H4.out])
                  clear HS
                  go_wp2
                  go_roundw
                  case rel => exact ⟨k + 1, by omega, by go_num, by rw [HN.out]; go_num, by trivial⟩
                  case measure => simp [intOf]; omega
                · have d4 : (who == 2) = false := by simp [h4]
                  have H4 := Lib.hid h4
                  clear h4
                  by_cases h5 : from' = who
                  · have d5 : (from' == who) = true := by simp [h5]
                    have H5 := Lib.hid h5
                    clear h5
                    have HN : Hid (met1 (innL p msg.toNat at'.toNat i (k + 1)) who t = met1 (innL p msg.toNat at'.toNat i k) who t + 1) := Lib.hid (by rw [HS.out]; simp [h1', H3.out, H5.out])
                    clear HS
                    go_wp2
                    go_roundw
                    case rel => exact ⟨k + 1, by omega, by go_num, by rw [HN.out]; go_num, by trivial⟩
                    case measure => simp [intOf]; omega
                  · have d5 : (from' == who) = false := by simp [h5]
                    have H5 := Lib.hid h5
                    clear h5
                    have HN : Hid (met1 (innL p msg.toNat at'.toNat i (k + 1)) who t = met1 (innL p msg.toNat at'.toNat i k) who t) := Lib.hid (by rw [HS.out]; simp [H4.out, H5.out, H3.out])
                    clear HS
                    go_wp2
                    go_roundw
                    case rel => exact ⟨k + 1, by omega, by go_num, by rw [HN.out], by trivial⟩
                    case measure => simp [intOf]; omega
              · have d3 : (x == t) = false := by simp [h3]
                have H3 := Lib.hid h3
                clear h3
                have HN : Hid (met1 (innL p msg.toNat at'.toNat i (k + 1)) who t = met1 (innL p msg.toNat at'.toNat i k) who t) := Lib.hid (by rw [HS.out]; simp [H3.out, H3.out, H3.out])
                clear HS
                go_wp2
                go_roundw
                case rel => exact ⟨k + 1, by omega, by go_num, by rw [HN.out], by trivial⟩
                case measure => simp [intOf]; omega
            · have d1 : decide ((i : Int) < msg) = false := by simp [h1]
              have h1' : ¬ i < msg.toNat := by omega
              by_cases h2 : (k : Int) < at'
              · have d2 : decide ((k : Int) < at') = true := by simp [h2]
                have h2' : k < at'.toNat := by omega
                by_cases h3 : x = t
                · have d3 : (x == t) = true := by simp [h3]
                  have H3 := Lib.hid h3
                  clear h3
                  by_cases h4 : who = 2
                  · have d4 : (who == 2) = true := by simp [h4]
                    have H4 := Lib.hid h4
                    clear h4
                    have HN : Hid (met1 (innL p msg.toNat at'.toNat i (k + 1)) who t = met1 (innL p msg.toNat at'.toNat i k) who t + 1) := Lib.hid (by rw [HS.out]; simp [h2', H3.out, H4.out])
                    clear HS
                    go_wp2
                    go_roundw
                    case rel => exact ⟨k + 1, by omega, by go_num, by rw [HN.out]; go_num, by trivial⟩
                    case measure => simp [intOf]; omega
                  · have d4 : (who == 2) = false := by simp [h4]
                    have H4 := Lib.hid h4
                    clear h4
                    by_cases h5 : from' = who
                    · have d5 : (from' == who) = true := by simp [h5]
                      have H5 := Lib.hid h5
                      clear h5
                      have HN : Hid (met1 (innL p msg.toNat at'.toNat i (k + 1)) who t = met1 (innL p msg.toNat at'.toNat i k) who t + 1) := Lib.hid (by rw [HS.out]; simp [h2', H3.out, H5.out])
                      clear HS
                      go_wp2
                      go_roundw
                      case rel => exact ⟨k + 1, by omega, by go_num, by rw [HN.out]; go_num, by trivial⟩
                      case measure => simp [intOf]; omega
                    · have d5 : (from' == who) = false := by simp [h5]
                      have H5 := Lib.hid h5
                      clear h5
                      have HN : Hid (met1 (innL p msg.toNat at'.toNat i (k + 1)) who t = met1 (innL p msg.toNat at'.toNat i k) who t) := Lib.hid (by rw [HS.out]; simp [H4.out, H5.out, H3.out])
                      clear HS
                      go_wp2
                      go_roundw
                      case rel => exact ⟨k + 1, by omega, by go_num, by rw [HN.out], by trivial⟩
                      case measure => simp [intOf]; omega
                · have d3 : (x == t) = false := by simp [h3]
                  have H3 := Lib.hid h3
                  clear h3
                  have HN : Hid (met1 (innL p msg.toNat at'.toNat i (k + 1)) who t = met1 (innL p msg.toNat at'.toNat i k) who t) := Lib.hid (by rw [HS.out]; simp [H3.out, H3.out, H3.out])
                  clear HS
                  go_wp2
                  go_roundw
                  case rel => exact ⟨k + 1, by omega, by go_num, by rw [HN.out], by trivial⟩
                  case measure => simp [intOf]; omega
              · have d2 : decide ((k : Int) < at') = false := by simp [h2]
                have h2' : ¬ k < at'.toNat := by omega
                have HN : Hid (met1 (innL p msg.toNat at'.toNat i (k + 1)) who t = met1 (innL p msg.toNat at'.toNat i k) who t) := Lib.hid (by rw [HS.out]; simp [h1', h2', h2'])
                clear HS
                go_wp2
                go_roundw
                case rel => exact ⟨k + 1, by omega, by go_num, by rw [HN.out], by trivial⟩
                case measure => simp [intOf]; omega
          · have HN : Hid (met1 (innL p msg.toNat at'.toNat i k) who t = met1 (curL p msg.toNat at'.toNat (i + 1)) who t) := Lib.hid (by rw [HEI.out k (by omega)])
            have dk : decide ((k : Int) < (l.length : Int)) = false := by simp; omega
            have hbd := HLE.out i k
            go_wp2
            go_roundw
            case rel => exact ⟨i + 1, by omega, by go_num, by rw [HN.out], yr, Hr⟩
            case measure => simp [intOf]; omega
      · have dle : decide ((i : Int) ≤ msg) = false := by simp; omega
        have HN : Hid (met1 (curL p msg.toNat at'.toNat i) who t = met1 (aheadL p msg.toNat at'.toNat) who t) := Lib.hid (by rw [HCL.out i (by omega)])
        go_wp2
        go_ret
        exact ⟨ret_int (by rw [HN.out]), Hr⟩
    · have dlt : decide ((i : Int) < (p.msgs.length : Int)) = false := by simp; omega
      have HN : Hid (met1 (curL p msg.toNat at'.toNat i) who t = met1 (aheadL p msg.toNat at'.toNat) who t) := Lib.hid (by
        by_cases hle : i ≤ msg.toNat
        · rw [HCE.out i hle (by omega)]
        · rw [HCL.out i (by omega)])
      go_wp2
      go_ret
      exact ⟨ret_int (by rw [HN.out]), Hr⟩
end Go.Proofs.YtelloecgdiocoaaDoor
