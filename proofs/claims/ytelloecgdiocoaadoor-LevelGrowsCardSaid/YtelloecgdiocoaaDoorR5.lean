/- Walks: undertoneref07.Check. -/
import Derived.Test.YtelloecgdiocoaaDoorR4
import Derived.Lib.QuietBelow
set_option linter.unusedSimpArgs false
set_option linter.unusedVariables false
namespace Go.Proofs.YtelloecgdiocoaaDoor
open Go.RowKit Go.Sort

theorem beq_turn (a b : Int) : (a == b) = decide (b = a) := by
  by_cases h : a = b
  · subst h; simp
  · have h' : ¬ b = a := fun e => h e.symm
    simp [h, h']

def refF (p : Pat) (x : Option (Int × Nat)) : Int × Nat × Int :=
  match x with
  | some (r, k) => (r, k, 13)
  | none => if 0 < endR p then (endR p, p.msgs.length, 13) else (0, 0, 0)
theorem refR_F (p : Pat) : refR p = refF p (refM p [] (-1) 0 p.msgs) := rfl
theorem keyB_any (v : Value) (p : Pat) (w : World) (h : SP w v p) (hs : Small p) (i k : Nat) (b : Bool) (hb : key1 p (aheadL p i k) = b) :
    Calls Tryd.prog 47 #[v, .int .i64 i, .int .i64 k] w fun e w' => e = .returned (.bool b) ∧ Bl w w' := by
  rw [← hb]
  exact keyN_any v p w h hs i k
theorem sealR_any (v : Value) (p : Pat) (w : World) (h : SP w v p) (hs : Small p) (who : Int) (i k : Nat) (hw : who = 0 ∨ who = 1) (r : Int) (hr : seal1 p (aheadL p i k) who = r) :
    Calls Tryd.prog 48 #[v, .int .i64 who, .int .i64 i, .int .i64 k] w fun e w' => e = .returned (.int .i64 r) ∧ Bl w w' := by
  rw [← hr]
  exact refSealN_any v p w h hs who i k hw

def endRB (p : Pat) (who : Int) : Bool := (decide (1 < p.msgs.length) || decide ((p.msgs.headD ⟨0, []⟩).who = who)) && decide (0 < seal1 p (allL p) who)
def endRF (p : Pat) : Nat → Int
  | 0 => if endRB p 0 then seal1 p (allL p) 0 else if endRB p 1 then seal1 p (allL p) 1 else 0
  | 1 => if endRB p 1 then seal1 p (allL p) 1 else 0
  | _ => 0
theorem endR_F (p : Pat) (h : key1 p (allL p) = true) : endR p = endRF p 0 := by
  rw [endR, h]
  rfl
theorem more_end (p : Pat) (i : Nat) (m : Msg) (hi : p.msgs[i]? = some m) : more (aheadL p i 0) m = aheadL p i m.t.length := by
  rw [ahead_zero p i m hi, ahead_end p i m hi m.t.length (Nat.le_refl _) 0 (.inr rfl)]

set_option maxRecDepth 100000 in
set_option maxHeartbeats 8000000 in
theorem refCheck_any (v : Value) (p : Pat) (w : World) (h : SP w v p) (hs : Small p) (ho : okMsgs p.msgs) (hl1 : 1 ≤ p.msgs.length) :
    Calls Tryd.prog 23 #[v] w fun e w' => e = .returned (.tuple #[.int .i64 (refR p).1, .int .i64 (refR p).2.1, .int .i64 (refR p).2.2]) ∧ Bl w w' := by
  have hv := h
  have HR0 := Lib.hid (refR_F p)
  have HOK := Lib.hid ho
  have hlm := hs.msgs
  clear ho
  obtain ⟨v0, v1, vm, rfl, hn, h0, h1', hm⟩ := h
  obtain ⟨a0, c0, rfl⟩ := h0.form
  obtain ⟨a1, c1, rfl⟩ := h1'.form
  obtain ⟨am, cm, rfl⟩ := hm.form
  clear h0 h1'
  have y := BoxAt.new w #[.string p.name, .slice a0 p.pre0.length c0, .slice a1 p.pre1.length c1, .slice am p.msgs.length cm] 43
  have H : Bl w (w.alloc (.cells #[.string p.name, .slice a0 p.pre0.length c0, .slice a1 p.pre1.length c1, .slice am p.msgs.length cm] 43)) := (Bl.refl w).alloc _
  go_enter Tryd.func23, Tryd.ntmps23
  go_wp2
  generalize w.alloc (.cells #[.string p.name, .slice a0 p.pre0.length c0, .slice a1 p.pre1.length c1, .slice am p.msgs.length cm] 43) = W at y H ⊢
  go_loopw [5] (fun x wr => ∃ (i : Nat), i ≤ p.msgs.length ∧ x = .int .i64 i ∧ BoxAt wr w.heap.size [.string p.name, .slice a0 p.pre0.length c0, .slice a1 p.pre1.length c1, .slice am p.msgs.length cm] 43 ∧ Bl w wr ∧
      Hid (refR p = refF p (refM p (aheadL p i 0) (prevW p.msgs i) i (p.msgs.drop i)))) (fun x _ => p.msgs.length - (intOf x).toNat)
  case atStart => exact ⟨0, by omega, rfl, y, H, Lib.hid (by rw [HR0.out, ahead_start]; rfl)⟩
  case round =>
    obtain ⟨i, hi, rfl, yr, Hr, HL⟩ := hrel
    obtain ⟨g0, g1, g2, g3⟩ := yr.cells4
    by_cases hin : i < p.msgs.length
    · have HMI : Hid (p.msgs[i]? = some p.msgs[i]) := Lib.hid (List.getElem?_eq_getElem hin)
      obtain ⟨hwho, htok⟩ := HOK.out p.msgs[i] (List.getElem_mem hin)
      have HD := Lib.hid (List.drop_eq_getElem_cons hin)
      have HPV : Hid (prevW p.msgs (i + 1) = p.msgs[i].who) := Lib.hid (by simp [prevW, hin])
      have hlt := hs.each p.msgs[i] (List.getElem_mem hin)
      obtain ⟨b, o, u, rfl, hca, hcb, hu⟩ := (hm.bl Hr).at i hin
      generalize p.msgs[i] = m at *
      obtain ⟨who, l⟩ := m
      simp only at hwho htok hca hcb hu HPV hlt
      obtain ⟨ua, uc, rfl⟩ := hu.form
      have HTOK := Lib.hid htok
      clear htok
      have HNX : Hid (refM p (aheadL p i 0) (prevW p.msgs i) i (p.msgs.drop i) = if prevW p.msgs i = who then some (1, i) else if 0 < refL p (aheadL p i 0) who l then some (refL p (aheadL p i 0) who l, i)
          else if key1 p (aheadL p i l.length) && decide (0 < seal1 p (aheadL p i l.length) who) then some (seal1 p (aheadL p i l.length) who, i) else refM p (aheadL p (i + 1) 0) who (i + 1) (p.msgs.drop (i + 1))) := Lib.hid (by
        rw [HD.out, refM]
        rw [more_end p i ⟨who, l⟩ HMI.out, ← ahead_end p i ⟨who, l⟩ HMI.out l.length (Nat.le_refl _) 0 (.inr rfl)])
      go_wp2
      go_cut [35] from 18 to 35 (fun x wx => x = .bool (decide (prevW p.msgs i = who)) ∧ Dr wr wx)
      case first =>
        by_cases hk0 : i = 0
        · have hne : prevW p.msgs i ≠ who := by rw [hk0]; simp only [prevW]; omega
          have hg : decide (0 < (i : Int)) = false := by simp; omega
          have hg' : decide (0 < i) = false := by simp; omega
          have HNE := Lib.hid (decide_eq_false hne)
          clear hk0 hne
          go_quiet (fail)
          go_wp2
          go_meet
          exact ⟨by rw [HNE.out], _, rfl⟩
        · obtain ⟨b', o', u', e', hpa, _, _⟩ := (hm.bl Hr).at (i - 1) (by omega)
          injection e' with e'
          injection e' with e1 e2 _
          subst e1 e2
          have hg : decide (0 < (i : Int)) = true := by simp; omega
          have hg' : decide (0 < i) = true := by simp; omega
          have hw1 : IntKind.i64.wrap ((i : Int) - 1) = (i : Int) - 1 := IntWalk.i64_in _ (by omega)
          have hw2 : (1 : Int) ≤ (i : Int) := by omega
          have hw0 : (0 : Int) ≤ (i : Int) - 1 := by omega
          have hw3 : ((i : Int) - 1).toNat = i - 1 := by omega
          have hw4 : (i : Int) - 1 < (p.msgs.length : Int) := by omega
          have HPW : Hid (prevW p.msgs i = p.msgs[i - 1].who) := Lib.hid (by
            obtain ⟨j, rfl⟩ : ∃ j, i = j + 1 := ⟨i - 1, by omega⟩
            simp [prevW, show j < p.msgs.length by omega])
          go_quiet (fail)
          go_wp2
          go_meet
          exact ⟨by rw [HPW.out]; exact congrArg Value.bool (beq_turn _ _), _, rfl⟩
      case rest =>
        obtain ⟨rfl, hdr⟩ := hcut
        have hbc := hdr.bl
        have yc := yr.bl hbc
        have Hc := Hr.trans hbc
        replace hca := hbc.cellq hca
        replace hcb := hbc.cellq hcb
        replace hu := hu.bl hbc
        clear hdr hbc g0 g1 g2 g3 yr Hr
        obtain ⟨g0, g1, g2, g3⟩ := yc.cells4
        generalize hq : decide (prevW p.msgs i = who) = q at *
        have HPQ := Lib.hid hq
        clear hq
        cases q
        rotate_left
        · have HR : Hid (refR p = (1, i, 13)) := Lib.hid (by rw [HL.out, HNX.out, if_pos (of_decide_eq_true HPQ.out)]; rfl)
          clear HNX HL
          go_wp2
          go_ret3
          exact ⟨by rw [HR.out]; rfl, Hc⟩
        · have HQ : Hid (refR p = refF p (if 0 < refL p (aheadL p i 0) who l then some (refL p (aheadL p i 0) who l, i)
              else if key1 p (aheadL p i l.length) && decide (0 < seal1 p (aheadL p i l.length) who) then some (seal1 p (aheadL p i l.length) who, i) else refM p (aheadL p (i + 1) 0) who (i + 1) (p.msgs.drop (i + 1)))) := Lib.hid (by rw [HL.out, HNX.out, if_neg (of_decide_eq_false HPQ.out)])
          clear HNX HL
          go_wp2
          obtain ⟨wo, hwo⟩ : ∃ wo : World, wo = wc := ⟨_, rfl⟩
          go_loopw [6] (fun x wr => ∃ (k : Nat), k ≤ l.length ∧ x = .int .i64 k ∧ BoxAt wr w.heap.size [.string p.name, .slice a0 p.pre0.length c0, .slice a1 p.pre1.length c1, .slice (some ⟨b, o, none⟩) p.msgs.length cm] 43 ∧ Bl wc wr ∧
              Hid (refL p (aheadL p i 0) who l = refL p (aheadL p i k) who (l.drop k))) (fun x _ => l.length - (intOf x).toNat)
          case atStart => exact ⟨0, by omega, rfl, yc, Bl.refl _, Lib.hid rfl⟩
          case round =>
            obtain ⟨k, hk, rfl, yq, Hq, HLL⟩ := hrel
            have HqW := Hc.trans Hq
            have qca := Hq.cellq hca
            have qcb := Hq.cellq hcb
            clear g0 g1 g2 g3
            obtain ⟨g0, g1, g2, g3⟩ := yq.cells4
            by_cases hkn : k < l.length
            · have hdk : decide ((k : Int) < (l.length : Int)) = true := by simp; omega
              obtain ⟨ht1, ht7⟩ := HTOK.out l[k] (List.getElem_mem hkn)
              have HLK : Hid (l[k]? = some l[k]) := Lib.hid (List.getElem?_eq_getElem hkn)
              have HDR : Hid (refL p (aheadL p i k) who (l.drop k) = if 0 < one1 p (aheadL p i k) who l[k] then one1 p (aheadL p i k) who l[k] else refL p (aheadL p i (k + 1)) who (l.drop (k + 1))) := Lib.hid (by
                rw [List.drop_eq_getElem_cons hkn, refL, ahead_succ p i k ⟨who, l⟩ HMI.out hkn])
              generalize l[k] = T at *
              go_wp2_with fail
              refine (one_any _ p _ (hv.bl HqW) hs i k who T l HMI.out HLK.out hwho ht1 ht7).mono ?_
              rintro e w1 ⟨rfl, hb1⟩
              generalize one1 p (aheadL p i k) who T = r at *
              by_cases hr : 0 < r
              · have hdr : decide (0 < r) = true := by simpa using hr
                have HE : Hid (refL p (aheadL p i 0) who l = r) := Lib.hid (by rw [HLL.out, HDR.out, if_pos hr])
                have HR : Hid (refR p = (r, i, 13)) := Lib.hid (by rw [HQ.out, HE.out, if_pos hr]; rfl)
                clear HE HDR HLL HQ
                go_wp2
                go_ret3
                exact ⟨by rw [HR.out]; rfl, HqW.trans hb1⟩
              · have hdr : decide (0 < r) = false := by simpa using hr
                have HE : Hid (refL p (aheadL p i 0) who l = refL p (aheadL p i (k + 1)) who (l.drop (k + 1))) := Lib.hid (by rw [HLL.out, HDR.out, if_neg hr])
                clear HDR HLL
                go_wp2
                go_roundw
                case rel => exact ⟨k + 1, by omega, by go_num, yq.bl hb1, Hq.trans hb1, HE⟩
                case measure => simp [intOf]; omega
            · have hdk : decide ((k : Int) < (l.length : Int)) = false := by simp; omega
              have HE : Hid (refL p (aheadL p i 0) who l = 0) := Lib.hid (by
                rw [HLL.out, List.drop_eq_nil_of_le (by omega)]
                rfl)
              have HS : Hid (refR p = refF p (if key1 p (aheadL p i l.length) && decide (0 < seal1 p (aheadL p i l.length) who) then some (seal1 p (aheadL p i l.length) who, i) else refM p (aheadL p (i + 1) 0) who (i + 1) (p.msgs.drop (i + 1)))) := Lib.hid (by
                rw [HQ.out, HE.out, if_neg (by omega)])
              clear HQ HLL HE
              have hsn := seal_nonneg (stOf p (aheadL p i l.length)) who
              rw [← seal_same p _ who hwho] at hsn
              go_wp2
              have g3' := cell_regrown g3
              have g0' := cell_regrown g0
              have g1' := cell_regrown g1
              have g2' := cell_regrown g2
              have qca' := cell_regrown qca
              cases hkey : key1 p (aheadL p i l.length)
              · have HKEY := Lib.hid hkey
                clear hkey
                refine wp_region_quiet_below (by kernel_rfl) (by kernel_rfl) ?_
                repeat (go_big_quiet_step ((go_at_call 47; exact Calls.regrown_of (keyB_any _ p _ (hv.bl (HqW.trans (below_regrown wr _ _))) hs i l.length false HKEY.out))))
                refine wpQuiet_nil ?_
                intro wq hwq
                obtain ⟨pq, rfl⟩ := hwq
                have hbq := below_regrown wr pq.d pq.os
                clear g0' g1' g2' g3' qca'
                generalize grow (redrawn wr pq.d) pq.os = wq at *
                have HE : Hid (refR p = refF p (refM p (aheadL p (i + 1) 0) (prevW p.msgs (i + 1)) (i + 1) (p.msgs.drop (i + 1)))) := Lib.hid (by rw [HS.out, HKEY.out, HPV.out]; rfl)
                clear HS
                go_wp2
                go_roundw
                case rel => exact ⟨i + 1, by omega, by go_num, yq.bl hbq, HqW.trans hbq, HE⟩
                case measure => simp [intOf]; omega
              · have HKEY := Lib.hid hkey
                clear hkey
                generalize hsr : seal1 p (aheadL p i l.length) who = r at *
                have HSR := Lib.hid hsr
                clear hsr
                refine wp_region_quiet_below (by kernel_rfl) (by kernel_rfl) ?_
                repeat (go_big_quiet_step ((first | (go_at_call 47; exact Calls.regrown_of (keyB_any _ p _ (hv.bl (HqW.trans (below_regrown wr _ _))) hs i l.length true HKEY.out)) | (go_at_call 48; exact Calls.regrown_of (sealR_any _ p _ (hv.bl (HqW.trans (below_regrown wr _ _))) hs who i l.length hwho r HSR.out)))))
                refine wpQuiet_nil ?_
                intro wq hwq
                obtain ⟨pq, rfl⟩ := hwq
                have hbq := below_regrown wr pq.d pq.os
                clear g0' g1' g2' g3' qca'
                have qcq := Bl.cellq hbq qca
                generalize grow (redrawn wr pq.d) pq.os = wq at *
                clear g0 g1 g2 g3
                have yqq := yq.bl hbq
                have Hqq := HqW.trans hbq
                obtain ⟨g0, g1, g2, g3⟩ := yqq.cells4
                by_cases hr : 0 < r
                · have hdr : decide (0 < r) = true := by simpa using hr
                  have HE : Hid (refR p = (r, i, 13)) := Lib.hid (by rw [HS.out, HKEY.out, hdr]; rfl)
                  clear HS
                  go_wp2
                  have g3' := cell_regrown g3
                  have g0' := cell_regrown g0
                  have g1' := cell_regrown g1
                  have g2' := cell_regrown g2
                  have qca' := cell_regrown qcq
                  refine wp_region_quiet_below (by kernel_rfl) (by kernel_rfl) ?_
                  repeat (go_big_quiet_step ((go_at_call 48; exact Calls.regrown_of (sealR_any _ p _ (hv.bl (Hqq.trans (below_regrown wq _ _))) hs who i l.length hwho r HSR.out))))
                  refine wpQuiet_nil ?_
                  intro wz hwz
                  obtain ⟨pz, rfl⟩ := hwz
                  have hbz := below_regrown wq pz.d pz.os
                  clear g0' g1' g2' g3' qca'
                  generalize grow (redrawn wq pz.d) pz.os = wz at *
                  go_wp2
                  go_ret3
                  exact ⟨by rw [HE.out]; rfl, Hqq.trans hbz⟩
                · have hdr : decide (0 < r) = false := by simpa using hr
                  have HE : Hid (refR p = refF p (refM p (aheadL p (i + 1) 0) (prevW p.msgs (i + 1)) (i + 1) (p.msgs.drop (i + 1)))) := Lib.hid (by rw [HS.out, HKEY.out, HPV.out, hdr]; rfl)
                  clear HS
                  go_wp2
                  go_roundw
                  case rel => exact ⟨i + 1, by omega, by go_num, yqq, Hqq, HE⟩
                  case measure => simp [intOf]; omega
    · obtain rfl : i = p.msgs.length := by omega
      have HAL : Hid (aheadL p p.msgs.length 0 = allL p) := Lib.hid (ahead_all p _ _ (Nat.le_refl _))
      have HE0 : Hid (refR p = if 0 < endR p then (endR p, p.msgs.length, 13) else (0, 0, 0)) := Lib.hid (by
        rw [HL.out, List.drop_eq_nil_of_le (Nat.le_refl _)]
        rfl)
      clear HL
      cases hkey : key1 p (allL p)
      · have HE : Hid (refR p = (7, p.msgs.length, 13)) := Lib.hid (by
          have : endR p = 7 := by rw [endR, hkey]; rfl
          rw [HE0.out, this]
          rfl)
        have HKEY : Hid (key1 p (aheadL p p.msgs.length 0) = false) := Lib.hid (by rw [HAL.out, hkey])
        clear hkey HE0
        go_wp2_with fail
        refine (keyB_any _ p _ (hv.bl Hr) hs p.msgs.length 0 false HKEY.out).mono ?_
        rintro e w1 ⟨rfl, hb1⟩
        go_wp2
        go_ret3
        exact ⟨by rw [HE.out]; rfl, Hr.trans hb1⟩
      · have HE : Hid (endR p = endRF p 0) := Lib.hid (endR_F p hkey)
        have HKEY : Hid (key1 p (aheadL p p.msgs.length 0) = true) := Lib.hid (by rw [HAL.out, hkey])
        clear hkey
        go_wp2_with fail
        refine (keyB_any _ p _ (hv.bl Hr) hs p.msgs.length 0 true HKEY.out).mono ?_
        rintro e w1 ⟨rfl, hb1⟩
        have y1 := yr.bl hb1
        have H1 := Hr.trans hb1
        clear g0 g1 g2 g3
        go_wp2
        go_loopw [10] (fun x wq => ∃ (k : Nat), k ≤ 2 ∧ x = .int .i64 k ∧ BoxAt wq w.heap.size [.string p.name, .slice a0 p.pre0.length c0, .slice a1 p.pre1.length c1, .slice am p.msgs.length cm] 43 ∧ Bl w wq ∧ Hid (endR p = endRF p k)) (fun x _ => 2 - (intOf x).toNat)
        case atStart => exact ⟨0, by omega, rfl, y1, H1, HE⟩
        case round =>
          obtain ⟨k, hk, rfl, yq, Hq, HEK⟩ := hrel
          obtain ⟨g0, g1, g2, g3⟩ := yq.cells4
          by_cases hk2 : k < 2
          · have hwk : (k : Int) = 0 ∨ (k : Int) = 1 := by omega
            have HK : Hid (endRF p k = if endRB p k then seal1 p (allL p) k else endRF p (k + 1)) := Lib.hid (by
              rcases (show k = 0 ∨ k = 1 by omega) with rfl | rfl
              · rfl
              · rfl)
            have hsn : 0 ≤ seal1 p (allL p) k := by
              have := seal_nonneg (stOf p (allL p)) k
              rw [← seal_same p _ k hwk] at this
              exact this
            have HSR : Hid (seal1 p (aheadL p p.msgs.length 0) k = seal1 p (allL p) k) := Lib.hid (by rw [HAL.out])
            generalize hsr : seal1 p (allL p) k = r at *
            have HSQ := Lib.hid hsr
            clear hsr
            cases hdo : (decide (1 < p.msgs.length) || decide ((p.msgs.headD ⟨0, []⟩).who = (k : Int)))
            · have HN : Hid (endR p = endRF p (k + 1)) := Lib.hid (by
                have : endRB p k = false := by rw [endRB, hdo]; rfl
                rw [HEK.out, HK.out, this]
                rfl)
              rw [Bool.or_eq_false_iff] at hdo
              obtain ⟨hd1, hd2⟩ := hdo
              have hn1 : p.msgs.length = 1 := by have := of_decide_eq_false hd1; omega
              have hd1' : decide (1 < (p.msgs.length : Int)) = false := by simp; omega
              obtain ⟨b, o, rfl, hca⟩ := (hm.bl Hq).head (by omega)
              have hpos : 0 < p.msgs.length := by omega
              have hpos' : (0 : Int) < (p.msgs.length : Int) := by omega
              have HW : Hid ((p.msgs.headD ⟨0, []⟩).who ≠ (k : Int)) := Lib.hid (of_decide_eq_false hd2)
              generalize (p.msgs.headD ⟨0, []⟩).who = who0 at *
              have hd3 : (who0 == (k : Int)) = false := by simpa using HW.out
              clear hd2 hn1 HK HEK
              go_wp2
              go_roundw
              case rel => exact ⟨k + 1, by omega, by go_num, yq, Hq, HN⟩
              case measure => simp [intOf]; omega
            · have HN : Hid (endR p = if 0 < r then r else endRF p (k + 1)) := Lib.hid (by
                have : endRB p k = decide (0 < r) := by rw [endRB, hdo, HSQ.out]; rfl
                rw [HEK.out, HK.out, this]
                by_cases hr : 0 < r
                · simp [hr]
                · simp [hr])
              clear HK HEK
              by_cases hn1 : 1 < p.msgs.length
              · have hd1' : decide (1 < (p.msgs.length : Int)) = true := by simp; omega
                have hd1 : decide (1 < p.msgs.length) = true := by simp; omega
                clear hdo
                go_wp2_with fail
                refine (sealR_any _ p _ (hv.bl Hq) hs k p.msgs.length 0 hwk r HSR.out).mono ?_
                rintro e w2 ⟨rfl, hb2⟩
                have y2 := yq.bl hb2
                have H2 := Hq.trans hb2
                clear g0 g1 g2 g3
                obtain ⟨g0, g1, g2, g3⟩ := y2.cells4
                by_cases hr : 0 < r
                · have hdr : decide (0 < r) = true := by simpa using hr
                  have HE : Hid (refR p = (r, p.msgs.length, 13)) := Lib.hid (by
                    have e : endR p = r := by rw [HN.out, if_pos hr]
                    rw [HE0.out, e, if_pos hr])
                  clear HN HE0
                  go_wp2_with fail
                  refine (sealR_any _ p _ (hv.bl H2) hs k p.msgs.length 0 hwk r HSR.out).mono ?_
                  rintro e w3 ⟨rfl, hb3⟩
                  have y3 := y2.bl hb3
                  clear g0 g1 g2 g3
                  obtain ⟨g0, g1, g2, g3⟩ := y3.cells4
                  go_wp2
                  go_ret3
                  exact ⟨by rw [HE.out]; rfl, H2.trans hb3⟩
                · have hdr : decide (0 < r) = false := by simpa using hr
                  have HE : Hid (endR p = endRF p (k + 1)) := Lib.hid (by rw [HN.out, if_neg hr])
                  clear HN
                  go_wp2
                  go_roundw
                  case rel => exact ⟨k + 1, by omega, by go_num, y2, H2, HE⟩
                  case measure => simp [intOf]; omega
              · have hd1' : decide (1 < (p.msgs.length : Int)) = false := by simp; omega
                have hd1 : decide (1 < p.msgs.length) = false := by simp; omega
                rw [hd1, Bool.false_or] at hdo
                obtain ⟨b, o, rfl, hca⟩ := (hm.bl Hq).head (by omega)
                have hpos : 0 < p.msgs.length := by omega
                have hpos' : (0 : Int) < (p.msgs.length : Int) := by omega
                have HW : Hid ((p.msgs.headD ⟨0, []⟩).who = (k : Int)) := Lib.hid (of_decide_eq_true hdo)
                generalize (p.msgs.headD ⟨0, []⟩).who = who0 at *
                have hd3 : (who0 == (k : Int)) = true := by simpa using HW.out
                clear hdo
                go_wp2_with fail
                refine (sealR_any _ p _ (hv.bl Hq) hs k p.msgs.length 0 hwk r HSR.out).mono ?_
                rintro e w2 ⟨rfl, hb2⟩
                have y2 := yq.bl hb2
                have H2 := Hq.trans hb2
                clear g0 g1 g2 g3
                obtain ⟨g0, g1, g2, g3⟩ := y2.cells4
                by_cases hr : 0 < r
                · have hdr : decide (0 < r) = true := by simpa using hr
                  have HE : Hid (refR p = (r, p.msgs.length, 13)) := Lib.hid (by
                    have e : endR p = r := by rw [HN.out, if_pos hr]
                    rw [HE0.out, e, if_pos hr])
                  clear HN HE0
                  go_wp2_with fail
                  refine (sealR_any _ p _ (hv.bl H2) hs k p.msgs.length 0 hwk r HSR.out).mono ?_
                  rintro e w3 ⟨rfl, hb3⟩
                  have y3 := y2.bl hb3
                  clear g0 g1 g2 g3
                  obtain ⟨g0, g1, g2, g3⟩ := y3.cells4
                  go_wp2
                  go_ret3
                  exact ⟨by rw [HE.out]; rfl, H2.trans hb3⟩
                · have hdr : decide (0 < r) = false := by simpa using hr
                  have HE : Hid (endR p = endRF p (k + 1)) := Lib.hid (by rw [HN.out, if_neg hr])
                  clear HN
                  go_wp2
                  go_roundw
                  case rel => exact ⟨k + 1, by omega, by go_num, y2, H2, HE⟩
                  case measure => simp [intOf]; omega
          · obtain rfl : k = 2 := by omega
            have HZ : Hid (refR p = (0, 0, 0)) := Lib.hid (by
              rw [HE0.out, HEK.out]
              rfl)
            go_wp2
            go_ret3
            exact ⟨by rw [HZ.out]; rfl, Hq⟩
end Go.Proofs.YtelloecgdiocoaaDoor
