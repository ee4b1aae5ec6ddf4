/- The card of LevelMessages: for every argument, wherever the listed tables are as laid, the law returns true. -/
import Derived.Test.YtelloecgdiocoaaDoorG4
import Derived.Test.YtelloecgdiocoaaDoorQ2
import Derived.Test.YtelloecgdiocoaaDoorR2
import Derived.Lib.QuietBelow
import Derived.Test.YtelloecgdiocoaaDoorL9c
import Derived.Test.YtelloecgdiocoaaDoorR5
import Derived.Test.YtelloecgdiocoaaDoorW7
import Derived.Test.YtelloecgdiocoaaDoorFrameN
set_option linter.unusedSimpArgs false
set_option linter.unusedVariables false
namespace Go.Proofs.YtelloecgdiocoaaDoor
open Go.RowKit

/-- whose message number k is -/
def sendR (p : Pat) (k : Nat) : Int := if p.msgs.length = 1 ∨ k % 2 = 0 then firstW p else 1 - firstW p
def met9 (p : Pat) (t : Int) (k : Nat) : Bool := decide (0 < met1 (aheadL p (k + 1) 0) 2 t)
def authR (p : Pat) (k : Nat) : Int := if met9 p (if sendR p k = 1 then 4 else 5) k then 2 else if met9 p 6 k then 1 else 0
/-- what the reference's loop has, i messages looked at -/
def confU (p : Pat) (k : Nat) : Nat → Int
  | 0 => 3
  | i + 1 => if sendR p i = sendR p k then confU p k i else 3 + authR p i
def confR (p : Pat) (k : Nat) : Int :=
  if met9 p 3 k && met9 p (if sendR p k = 1 then 5 else 4) k then confU p k k
  else if met9 p (if sendR p k = 1 then 5 else 4) k then 2 else if met9 p 3 k then 1 else 0
/-- how far one of both was known who sent last, of the first k messages -/
def lastR (p : Pat) (who : Int) : Nat → Int
  | 0 => 0
  | k + 1 => if sendR p k = who then authR p k else lastR p who k

theorem firstW_ok {p : Pat} (h : rightB p = true) : firstW p = 0 ∨ firstW p = 1 := from_ok h 0
theorem sendR_ok {p : Pat} (h : rightB p = true) (k : Nat) : sendR p k = 0 ∨ sendR p k = 1 := by
  have := firstW_ok h
  unfold sendR
  split <;> omega
theorem authR_le (p : Pat) (k : Nat) : 0 ≤ authR p k ∧ authR p k ≤ 2 := by
  unfold authR
  split
  · omega
  · split <;> omega
theorem lastR_le (p : Pat) (who : Int) (k : Nat) : 0 ≤ lastR p who k ∧ lastR p who k ≤ 2 := by
  induction k with
  | zero => simp [lastR]
  | succ k ih =>
    rw [lastR]
    split
    · exact authR_le p k
    · exact ih
theorem sendR_next (p : Pat) (k : Nat) : nextW p (sendR p k) = sendR p (k + 1) := by
  unfold nextW sendR
  by_cases h : p.msgs.length = 1
  · simp [h]
  · by_cases hk : k % 2 = 0
    · have : ¬ (k + 1) % 2 = 0 := by omega
      simp [h, hk, this]
    · have : (k + 1) % 2 = 0 := by omega
      simp [h, hk, this]
      omega
theorem send_same (p : Pat) : ∀ k, (trkAt p k).2 = sendR p k
  | 0 => by simp [trkAt, sendR]
  | k + 1 => by rw [trkAt]; show nextW p (trkAt p k).2 = _; rw [send_same p k, sendR_next]

theorem put_ms (t : Trk) (x : Int) : (t.put x).m3 = (t.m3 || decide (x = 3)) ∧ (t.put x).m4 = (t.m4 || decide (x = 4)) ∧ (t.put x).m5 = (t.m5 || decide (x = 5)) ∧ (t.put x).m6 = (t.m6 || decide (x = 6)) ∧ (t.put x).l0 = t.l0 ∧ (t.put x).l1 = t.l1 := by
  unfold Trk.put
  by_cases h1 : x = 1
  · subst h1; simp
  by_cases h2 : x = 2
  · subst h2; simp
  by_cases h3 : x = 3
  · subst h3; simp
  by_cases h4 : x = 4
  · subst h4; simp
  by_cases h5 : x = 5
  · subst h5; simp
  by_cases h6 : x = 6
  · subst h6; simp
  by_cases h7 : x = 7
  · subst h7; simp
  simp [h1, h2, h3, h4, h5, h6, h7]
theorem mix_ms (l : List Int) : ∀ (t : Trk), (t.mix l).m3 = (t.m3 || l.contains 3) ∧ (t.mix l).m4 = (t.m4 || l.contains 4) ∧ (t.mix l).m5 = (t.m5 || l.contains 5) ∧ (t.mix l).m6 = (t.m6 || l.contains 6) ∧ (t.mix l).l0 = t.l0 ∧ (t.mix l).l1 = t.l1 := by
  induction l with
  | nil => intro t; simp [Trk.mix]
  | cons x l ih =>
    intro t
    have e : t.mix (x :: l) = (t.put x).mix l := rfl
    obtain ⟨a3, a4, a5, a6, a0, a1⟩ := ih (t.put x)
    obtain ⟨b3, b4, b5, b6, b0, b1⟩ := put_ms t x
    have hc : ∀ n : Int, (x :: l).contains n = (decide (x = n) || l.contains n) := by
      intro n
      rw [List.contains_cons]
      congr 1
      rw [Bool.eq_iff_iff, beq_iff_eq, decide_eq_true_eq]
      exact ⟨fun h => h.symm, fun h => h.symm⟩
    rw [e, a3, a4, a5, a6, a0, a1, b3, b4, b5, b6, b0, b1, hc, hc, hc, hc]
    simp only [Bool.or_assoc, and_self]
theorem met1_more (L : List (Int × Int)) (m : Msg) (t : Int) : decide (0 < met1 (more L m) 2 t) = (decide (0 < met1 L 2 t) || m.t.contains t) := by
  unfold more met1
  rw [List.countP_append]
  rw [Bool.eq_iff_iff]
  rw [Bool.or_eq_true, decide_eq_true_eq, decide_eq_true_eq, List.contains_iff_mem]
  have : 0 < List.countP (fun q : Int × Int => decide (q.2 = t) && (decide ((2 : Int) = 2) || decide (q.1 = 2))) (m.t.map fun t => (m.who, t)) ↔ t ∈ m.t := by
    rw [List.countP_pos_iff]
    constructor
    · rintro ⟨q, hq, h⟩
      obtain ⟨u, hu, rfl⟩ := List.mem_map.1 hq
      simp at h
      rw [← h]; exact hu
    · intro h
      exact ⟨(m.who, t), List.mem_map.2 ⟨t, h, rfl⟩, by simp⟩
  rw [← this]
  omega
/-- what is met, of the four tokens that levels ask for, as these tell -/
def MetIs (t : Trk) (L : List (Int × Int)) : Prop := t.m3 = decide (0 < met1 L 2 3) ∧ t.m4 = decide (0 < met1 L 2 4) ∧ t.m5 = decide (0 < met1 L 2 5) ∧ t.m6 = decide (0 < met1 L 2 6)
theorem mixAt_met (p : Pat) (k : Nat) (t : Trk) (h : MetIs t (aheadL p k 0)) : MetIs (mixAt p k t) (aheadL p (k + 1) 0) := by
  unfold mixAt
  by_cases hk : k < p.msgs.length
  · rw [if_pos hk]
    have hm : p.msgs[k]? = some (p.msgs.getD k ⟨0, []⟩) := by simp [List.getD, List.getElem?_eq_getElem hk]
    generalize p.msgs.getD k ⟨0, []⟩ = m at *
    rw [← ahead_zero p k m hm]
    obtain ⟨a3, a4, a5, a6, _, _⟩ := mix_ms m.t t
    obtain ⟨h3, h4, h5, h6⟩ := h
    exact ⟨by rw [a3, met1_more, h3], by rw [a4, met1_more, h4], by rw [a5, met1_more, h5], by rw [a6, met1_more, h6]⟩
  · rw [if_neg hk]
    rw [ahead_all p k 0 (by omega)] at h
    rw [ahead_all p (k + 1) 0 (by omega)]
    exact h
theorem mixAt_last (p : Pat) (k : Nat) (t : Trk) : (mixAt p k t).l0 = t.l0 ∧ (mixAt p k t).l1 = t.l1 := by
  unfold mixAt
  split
  · have := mix_ms (p.msgs.getD k ⟨0, []⟩).t t
    exact ⟨this.2.2.2.2.1, this.2.2.2.2.2⟩
  · exact ⟨rfl, rfl⟩
theorem auth_of {p : Pat} {k : Nat} {t : Trk} (hw : sendR p k = 0 ∨ sendR p k = 1) (h : MetIs t (aheadL p (k + 1) 0)) : t.auth (sendR p k) = authR p k := by
  obtain ⟨h3, h4, h5, h6⟩ := h
  unfold Trk.auth authR met9
  rw [h4, h5, h6]
  rcases hw with e | e <;> rw [e] <;> simp
theorem trk_same {p : Pat} (hr : rightB p = true) (k : Nat) : MetIs (trkAt p k).1 (aheadL p k 0) ∧ (trkAt p k).1.l0 = lastR p 0 k ∧ (trkAt p k).1.l1 = lastR p 1 k := by
  induction k with
  | zero =>
    rw [ahead_start]
    exact ⟨⟨rfl, rfl, rfl, rfl⟩, rfl, rfl⟩
  | succ k ih =>
    obtain ⟨hm, h0, h1⟩ := ih
    have hm' := mixAt_met p k _ hm
    obtain ⟨q0, q1⟩ := mixAt_last p k (trkAt p k).1
    have ha := auth_of (sendR_ok hr k) hm'
    have e : trkAt p (k + 1) = ((mixAt p k (trkAt p k).1).sent (trkAt p k).2, nextW p (trkAt p k).2) := rfl
    rw [e, send_same]
    rw [h0] at q0
    rw [h1] at q1
    generalize mixAt p k (trkAt p k).1 = t at *
    simp only [lastR]
    unfold Trk.sent
    rcases sendR_ok hr k with hs | hs
    · rw [hs] at ha ⊢
      exact ⟨hm', by simp [ha], by simp [q1]⟩
    · rw [hs] at ha ⊢
      exact ⟨hm', by simp [q0], by simp [ha]⟩
theorem confU_last {p : Pat} (hr : rightB p = true) (k : Nat) : ∀ i, confU p k i = 3 + lastR p (1 - sendR p k) i
  | 0 => by simp [confU, lastR]
  | i + 1 => by
    rw [confU, lastR, confU_last hr k i]
    have h1 := sendR_ok hr i
    have h2 := sendR_ok hr k
    by_cases h : sendR p i = sendR p k
    · rw [if_pos h, if_neg (by omega)]
    · rw [if_neg h, if_pos (by omega)]
theorem lev_same {p : Pat} (hr : rightB p = true) (k : Nat) : levAt p k = (authR p k, confR p k) := by
  obtain ⟨hm, h0, h1⟩ := trk_same hr k
  have hm' := mixAt_met p k _ hm
  obtain ⟨q0, q1⟩ := mixAt_last p k (trkAt p k).1
  have hs := sendR_ok hr k
  have ha := auth_of hs hm'
  have hc := confU_last hr k k
  have hb0 := lastR_le p 0 k
  have hb1 := lastR_le p 1 k
  unfold levAt
  rw [send_same]
  rw [h0] at q0
  rw [h1] at q1
  generalize mixAt p k (trkAt p k).1 = t at *
  obtain ⟨m3, m4, m5, m6⟩ := hm'
  unfold Trk.ofA Trk.ofC
  rw [if_pos hs, if_pos hs, ha]
  congr 1
  unfold Trk.conf confR met9
  rw [m3, m4, m5, q0, q1, hc]
  rcases hs with e | e
  · rw [e]
    have : min (max (lastR p 1 k) 0) 2 = lastR p 1 k := by omega
    simp only [if_true, if_neg (show ¬ ((0 : Int) = 1) by omega), this]
    generalize decide (0 < met1 (aheadL p (k + 1) 0) 2 3) = b3
    generalize decide (0 < met1 (aheadL p (k + 1) 0) 2 4) = b4
    cases b3 <;> cases b4 <;> simp
  · rw [e]
    have : min (max (lastR p 0 k) 0) 2 = lastR p 0 k := by omega
    simp only [if_true, if_neg (show ¬ ((1 : Int) = 0) by omega), this]
    generalize decide (0 < met1 (aheadL p (k + 1) 0) 2 3) = b3
    generalize decide (0 < met1 (aheadL p (k + 1) 0) 2 5) = b5
    cases b3 <;> cases b5 <;> simp
end Go.Proofs.YtelloecgdiocoaaDoor

set_option linter.unusedSimpArgs false
set_option linter.unusedVariables false
namespace Go.Proofs.YtelloecgdiocoaaDoor
open Go.RowKit Go.Sort

set_option maxRecDepth 100000 in
set_option maxHeartbeats 2000000 in
theorem sender9_any (v : Value) (p : Pat) (w : World) (h : SP w v p) (hr : rightB p = true) (k : Nat) (hk : k ≤ 100) :
    Calls Tryd.prog 49 #[v, .int .i64 (k : Int)] w fun e w' => e = .returned (.int .i64 (sendR p k)) ∧ Bl w w' := by
  obtain ⟨_, _, hl1, hl6, _⟩ := right_parts hr
  have HS : Hid (sendR p k = if p.msgs.length = 1 ∨ k % 2 = 0 then p.msgs[0].who else 1 - p.msgs[0].who) := Lib.hid (by
    unfold sendR firstW; simp [List.getD, List.getElem?_eq_getElem (show 0 < p.msgs.length by omega)])
  have HF := firstW_ok hr
  rw [show firstW p = p.msgs[0].who by unfold firstW; simp [List.getD, List.getElem?_eq_getElem (show 0 < p.msgs.length by omega)]] at HF
  obtain ⟨v0, v1, vm, rfl, hn, h0, h1, hm⟩ := h
  obtain ⟨a0, c0, rfl⟩ := h0.form
  obtain ⟨a1, c1, rfl⟩ := h1.form
  obtain ⟨am, cm, rfl⟩ := hm.form
  obtain ⟨b, o, u, rfl, hca, _, _⟩ := hm.at 0 (by omega)
  rw [Nat.zero_mul, Nat.add_zero] at hca
  clear hm h0 h1
  generalize p.msgs[0].who = f at *
  have HW : Hid (wrap64 (1 - f) = 1 - f) := Lib.hid (by rcases HF with h | h <;> rw [h] <;> decide +kernel)
  clear HF
  have hlt : decide ((0 : Int) < (p.msgs.length : Int)) = true := by simp; omega
  have H : Bl w (w.alloc (.cells #[.string p.name, .slice a0 p.pre0.length c0, .slice a1 p.pre1.length c1, .slice (some ⟨b, o, none⟩) p.msgs.length cm] 43)) := (Bl.refl w).alloc _
  have hcb := H.cellq hca
  go_enter Tryd.func49, Tryd.ntmps49
  by_cases e1 : p.msgs.length = 1
  · have d1 : ((p.msgs.length : Int) == 1) = true := by simp; omega
    have HR : Hid (sendR p k = f) := Lib.hid (by rw [HS.out]; simp [e1])
    clear HS e1
    go_wp2
    go_ret
    exact ⟨ret_int (by rw [HR.out]), H⟩
  · have d1 : ((p.msgs.length : Int) == 1) = false := by simp; omega
    by_cases e2 : k % 2 = 0
    · have HR : Hid (sendR p k = f) := Lib.hid (by rw [HS.out]; simp [e2])
      have d2 : ((k : Int) % 2 == 0) = true := by simp; omega
      clear HS e1
      go_wp2
      go_ret
      exact ⟨ret_int (by rw [HR.out]), H⟩
    · have HR : Hid (sendR p k = 1 - f) := Lib.hid (by rw [HS.out]; simp [e1, e2])
      have d2 : ((k : Int) % 2 == 0) = false := by simp; omega
      clear HS e1
      go_wp2
      go_ret
      exact ⟨ret_int (by rw [HR.out, HW.out]), H⟩

set_option maxRecDepth 100000 in
set_option maxHeartbeats 2000000 in
theorem met9_any (v : Value) (p : Pat) (w : World) (h : SP w v p) (hs : Small p) (t : Int) (k : Nat) (hk : k ≤ 100) :
    Calls Tryd.prog 51 #[v, .int .i64 t, .int .i64 (k : Int)] w fun e w' => e = .returned (.bool (met9 p t k)) ∧ Bl w w' := by
  have hv := h
  have HM : Hid (met9 p t k = decide (0 < met1 (aheadL p (k + 1) 0) 2 t)) := Lib.hid rfl
  obtain ⟨v0, v1, vm, rfl, hn, h0, h1, hm⟩ := h
  obtain ⟨a0, c0, rfl⟩ := h0.form
  obtain ⟨a1, c1, rfl⟩ := h1.form
  obtain ⟨am, cm, rfl⟩ := hm.form
  clear h0 h1 hm
  have H : Bl w (w.alloc (.cells #[.string p.name, .slice a0 p.pre0.length c0, .slice a1 p.pre1.length c1, .slice am p.msgs.length cm] 43)) := (Bl.refl w).alloc _
  have hv2 := hv.bl H
  go_enter Tryd.func51, Tryd.ntmps51
  go_wp2_with fail
  refine (met_any _ p _ hv2 hs 2 t ((k : Int) + 1) 0 (by omega) (by omega)).mono ?_
  rintro e w1 ⟨rfl, hb1⟩
  rw [show ((k : Int) + 1).toNat = k + 1 by omega, show (0 : Int).toNat = 0 from rfl]
  generalize met1 (aheadL p (k + 1) 0) 2 t = n at *
  go_wp2
  go_ret
  exact ⟨ret_bool (by rw [HM.out]; try simp), H.trans hb1⟩

set_option maxRecDepth 100000 in
set_option maxHeartbeats 2000000 in
theorem auth9_any (v : Value) (p : Pat) (w : World) (h : SP w v p) (hs : Small p) (hr : rightB p = true) (k : Nat) (hk : k ≤ 100) :
    Calls Tryd.prog 50 #[v, .int .i64 (k : Int)] w fun e w' => e = .returned (.int .i64 (authR p k)) ∧ Bl w w' := by
  have hv := h
  have HA : Hid (authR p k = if met9 p (if sendR p k = 1 then 4 else 5) k then 2 else if met9 p 6 k then 1 else 0) := Lib.hid rfl
  have hso := sendR_ok hr k
  obtain ⟨v0, v1, vm, rfl, hn, h0, h1, hm⟩ := h
  obtain ⟨a0, c0, rfl⟩ := h0.form
  obtain ⟨a1, c1, rfl⟩ := h1.form
  obtain ⟨am, cm, rfl⟩ := hm.form
  clear h0 h1 hm
  have y := BoxAt.new w #[.string p.name, .slice a0 p.pre0.length c0, .slice a1 p.pre1.length c1, .slice am p.msgs.length cm] 43
  have H : Bl w (w.alloc (.cells #[.string p.name, .slice a0 p.pre0.length c0, .slice a1 p.pre1.length c1, .slice am p.msgs.length cm] 43)) := (Bl.refl w).alloc _
  go_enter Tryd.func50, Tryd.ntmps50
  go_upto_region 2 with fail
  generalize w.alloc (.cells #[.string p.name, .slice a0 p.pre0.length c0, .slice a1 p.pre1.length c1, .slice am p.msgs.length cm] 43) = W at y H ⊢
  have hc := sender9_any _ p W (hv.bl H) hr k hk
  obtain ⟨g0, g1, g2, g3⟩ := y.cells4
  generalize hS : sendR p k = s at *
  have HSS := Lib.hid hS
  clear hS
  go_wp2_with fail
  refine hc.mono ?_
  rintro e w1 ⟨rfl, hb1⟩
  have y1 := y.bl hb1
  have H1 := H.trans hb1
  clear g0 g1 g2 g3 hc y H
  obtain ⟨g0, g1, g2, g3⟩ := y1.cells4
  rcases hso with rfl | rfl
  · have HA2 : Hid (authR p k = if met9 p 5 k then 2 else if met9 p 6 k then 1 else 0) := Lib.hid (by rw [HA.out, if_neg (show ¬ ((0 : Int) = 1) by omega)])
    have c5 := met9_any _ p w1 (hv.bl H1) hs 5 k hk
    generalize met9 p 5 k = b5 at *
    go_wp2_with fail
    refine c5.mono ?_
    rintro e w2 ⟨rfl, hb2⟩
    have y2 := y1.bl hb2
    have H2 := H1.trans hb2
    clear g0 g1 g2 g3 c5 y1 H1
    obtain ⟨g0, g1, g2, g3⟩ := y2.cells4
    cases b5
    · have c6 := met9_any _ p w2 (hv.bl H2) hs 6 k hk
      generalize met9 p 6 k = b6 at *
      go_wp2_with fail
      refine c6.mono ?_
      rintro e w3 ⟨rfl, hb3⟩
      cases b6
      · go_wp2
        go_ret
        exact ⟨ret_int (by rw [HA2.out]; rfl), H2.trans hb3⟩
      · go_wp2
        go_ret
        exact ⟨ret_int (by rw [HA2.out]; rfl), H2.trans hb3⟩
    · go_wp2
      go_ret
      exact ⟨ret_int (by rw [HA2.out]; rfl), H2⟩
  · have HA2 : Hid (authR p k = if met9 p 4 k then 2 else if met9 p 6 k then 1 else 0) := Lib.hid (by rw [HA.out, if_pos (show (1 : Int) = 1 from rfl)])
    have c5 := met9_any _ p w1 (hv.bl H1) hs 4 k hk
    generalize met9 p 4 k = b5 at *
    go_wp2_with fail
    refine c5.mono ?_
    rintro e w2 ⟨rfl, hb2⟩
    have y2 := y1.bl hb2
    have H2 := H1.trans hb2
    clear g0 g1 g2 g3 c5 y1 H1
    obtain ⟨g0, g1, g2, g3⟩ := y2.cells4
    cases b5
    · have c6 := met9_any _ p w2 (hv.bl H2) hs 6 k hk
      generalize met9 p 6 k = b6 at *
      go_wp2_with fail
      refine c6.mono ?_
      rintro e w3 ⟨rfl, hb3⟩
      cases b6
      · go_wp2
        go_ret
        exact ⟨ret_int (by rw [HA2.out]; rfl), H2.trans hb3⟩
      · go_wp2
        go_ret
        exact ⟨ret_int (by rw [HA2.out]; rfl), H2.trans hb3⟩
    · go_wp2
      go_ret
      exact ⟨ret_int (by rw [HA2.out]; rfl), H2⟩
end Go.Proofs.YtelloecgdiocoaaDoor

set_option linter.unusedSimpArgs false
set_option linter.unusedVariables false
namespace Go.Proofs.YtelloecgdiocoaaDoor
open Go.RowKit Go.Sort

set_option maxRecDepth 100000 in
set_option maxHeartbeats 8000000 in
theorem refOf9_0 (v : Value) (p : Pat) (w : World) (h : SP w v p) (hs : Small p) (hr : rightB p = true) (k : Nat) (hk : k ≤ 100) (hsk : sendR p k = 0) :
    Calls Tryd.prog 24 #[v, .int .i64 (k : Int)] w fun e w' => e = .returned (levV (authR p k) (confR p k)) ∧ Bl w w' := by
  have hv := h
  have HC : Hid (confR p k = if met9 p 3 k && met9 p 4 k then confU p k k else if met9 p 4 k then 2 else if met9 p 3 k then 1 else 0) := Lib.hid (by unfold confR; rw [hsk]; rfl)
  have HU : Hid (∀ i, confU p k (i + 1) = if sendR p i = 0 then confU p k i else 3 + authR p i) := Lib.hid (fun i => by rw [confU, hsk])
  have HAL := Lib.hid (authR_le p)
  have cS := fun u w h => sender9_any u p w h hr k hk
  have cA := fun u w h => auth9_any u p w h hs hr k hk
  have cSi := fun (i : Nat) (hi : i ≤ 100) u w h => sender9_any u p w h hr i hi
  have cAi := fun (i : Nat) (hi : i ≤ 100) u w h => auth9_any u p w h hs hr i hi
  have c3 := fun u w h => met9_any u p w h hs 3 k hk
  have cM := fun u w h => met9_any u p w h hs 4 k hk
  rw [hsk] at cS
  have cSK := cS
  clear hsk
  generalize authR p k = au at *
  generalize met9 p 3 k = b3 at *
  generalize met9 p 4 k = bs at *
  obtain ⟨v0, v1, vm, rfl, hn, h0, h1, hm⟩ := h
  obtain ⟨a0, c0, rfl⟩ := h0.form
  obtain ⟨a1, c1, rfl⟩ := h1.form
  obtain ⟨am, cm, rfl⟩ := hm.form
  clear h0 h1 hm
  have y := (BoxAt.new w #[.string p.name, .slice a0 p.pre0.length c0, .slice a1 p.pre1.length c1, .slice am p.msgs.length cm] 43).alloc (.cells #[.int .i64 0, .int .i64 0] 48)
  have z := BoxAt.new (w.alloc (.cells #[.string p.name, .slice a0 p.pre0.length c0, .slice a1 p.pre1.length c1, .slice am p.msgs.length cm] 43)) #[.int .i64 0, .int .i64 0] 48
  have H : Bl w ((w.alloc (.cells #[.string p.name, .slice a0 p.pre0.length c0, .slice a1 p.pre1.length c1, .slice am p.msgs.length cm] 43)).alloc (.cells #[.int .i64 0, .int .i64 0] 48)) := ((Bl.refl w).alloc _).alloc _
  simp only [size_alloc] at z
  go_enter Tryd.func24, Tryd.ntmps24
  go_upto_region 2 with fail
  generalize (w.alloc (.cells #[.string p.name, .slice a0 p.pre0.length c0, .slice a1 p.pre1.length c1, .slice am p.msgs.length cm] 43)).alloc (.cells #[.int .i64 0, .int .i64 0] 48) = W at y z H ⊢
  obtain ⟨g0, g1, g2, g3⟩ := y.cells4
  go_wp2_with fail
  refine (cS _ W (hv.bl H)).mono ?_
  rintro e w1 ⟨rfl, hb1⟩
  have y1 := y.bl hb1
  have z1 := z.bl hb1
  have H1 := H.trans hb1
  clear g0 g1 g2 g3 cS y z H hb1
  obtain ⟨g0, g1, g2, g3⟩ := y1.cells4
  go_wp2_with fail
  refine (cA _ w1 (hv.bl H1)).mono ?_
  rintro e w2 ⟨rfl, hb2⟩
  have y2 := (y1.bl hb2).alloc (.cells #[.int .i64 au, .int .i64 0] 48)
  have z2 := (z1.bl hb2).alloc (.cells #[.int .i64 au, .int .i64 0] 48)
  have o2 := BoxAt.new w2 #[.int .i64 au, .int .i64 0] 48
  have H2 := (H1.trans hb2).alloc (.cells #[.int .i64 au, .int .i64 0] 48)
  have hlt : w.heap.size + 1 < w2.heap.size := (z1.bl hb2).lt
  clear g0 g1 g2 g3 cA y1 z1 H1 hb2
  obtain ⟨g0, g1, g2, g3⟩ := y2.cells4
  go_upto_region 5 with fail
  generalize hW2 : w2.alloc (.cells #[.int .i64 au, .int .i64 0] 48) = W2 at *
  clear hW2
  generalize w2.heap.size = B at *
  go_wp2_with fail
  refine (c3 _ _ (hv.bl H2)).mono ?_
  rintro e w3 ⟨rfl, hb3⟩
  have y3 := y2.bl hb3
  have z3 := z2.bl hb3
  have o3 := o2.bl hb3
  have H3 := H2.trans hb3
  clear g0 g1 g2 g3 y2 z2 o2 H2 hb3
  obtain ⟨g0, g1, g2, g3⟩ := y3.cells4
  cases b3
  · go_wp2_with fail
    refine (cM _ _ (hv.bl H3)).mono ?_
    rintro e w4 ⟨rfl, hb4⟩
    have y4 := y3.bl hb4
    have z4 := z3.bl hb4
    have o4 := o3.bl hb4
    have H4 := H3.trans hb4
    clear g0 g1 g2 g3 y3 z3 o3 H3 hb4
    obtain ⟨g0, g1, g2, g3⟩ := y4.cells4
    cases bs
    · go_wp2_with fail
      refine (c3 _ _ (hv.bl H4)).mono ?_
      rintro e w5 ⟨rfl, hb5⟩
      have y5 := y4.bl hb5
      have z5 := z4.bl hb5
      have o5 := o4.bl hb5
      have H5 := H4.trans hb5
      clear g0 g1 g2 g3 y4 z4 o4 H4 hb5
      obtain ⟨g0, g1, g2, g3⟩ := y5.cells4
      have q0 := o5.cell 0 rfl
      have q1 := o5.cell 1 rfl
      have r0 := z5.cell 0 rfl
      have r1 := z5.cell 1 rfl
      have f0 := z5.free 0
      have f1 := z5.free 1
      have HR : Hid (confR p k = 0) := Lib.hid (by rw [HC.out]; rfl)
      have zF := (z5.set 0 (.int .i64 au)).set 1 (.int .i64 (0))
      have t0 := zF.cell 0 rfl
      have t1 := zF.cell 1 rfl
      have HF := (H5.setCell (show w.heap.size ≤ (⟨w.heap.size + 1, 0, none⟩ : Addr).block by show w.heap.size ≤ w.heap.size + 1; omega) (.int .i64 au)).setCell (show w.heap.size ≤ (⟨w.heap.size + 1, 1, none⟩ : Addr).block by show w.heap.size ≤ w.heap.size + 1; omega) (.int .i64 (0))
      clear HC
      go_wp2_with fail
      exact bodyPost_ret (v := levV au (0)) (by simp [results, Tryd.results24, go_sem, t0, t1, levV]) rfl ⟨by rw [HR.out], HF⟩
    · have q1 := o4.cell 1 rfl
      have f1 := o4.free 1
      have y5 := y4.other (show w.heap.size ≠ (⟨B, 1, none⟩ : Addr).block by show w.heap.size ≠ B; omega) (.int .i64 2)
      have z5 := z4.other (show w.heap.size + 1 ≠ (⟨B, 1, none⟩ : Addr).block by show w.heap.size + 1 ≠ B; omega) (.int .i64 2)
      have o5 := o4.set 1 (.int .i64 2)
      have H5 := H4.setCell (show w.heap.size ≤ (⟨B, 1, none⟩ : Addr).block by show w.heap.size ≤ B; omega) (.int .i64 2)
      simp only [List.set_cons_succ, List.set_cons_zero] at o5
      clear g0 g1 g2 g3 y4 z4 o4 H4
      obtain ⟨g0, g1, g2, g3⟩ := y5.cells4
      go_wp2_with fail
      refine (c3 _ _ (hv.bl H5)).mono ?_
      rintro e w6 ⟨rfl, hb6⟩
      have y6 := y5.bl hb6
      have z6 := z5.bl hb6
      have o6 := o5.bl hb6
      have H6 := H5.trans hb6
      clear g0 g1 g2 g3 y5 z5 o5 H5 hb6
      obtain ⟨g0, g1, g2, g3⟩ := y6.cells4
      have q0 := o6.cell 0 rfl
      have q1 := o6.cell 1 rfl
      have r0 := z6.cell 0 rfl
      have r1 := z6.cell 1 rfl
      have f0 := z6.free 0
      have f1 := z6.free 1
      have HR : Hid (confR p k = 2) := Lib.hid (by rw [HC.out]; rfl)
      have zF := (z6.set 0 (.int .i64 au)).set 1 (.int .i64 (2))
      have t0 := zF.cell 0 rfl
      have t1 := zF.cell 1 rfl
      have HF := (H6.setCell (show w.heap.size ≤ (⟨w.heap.size + 1, 0, none⟩ : Addr).block by show w.heap.size ≤ w.heap.size + 1; omega) (.int .i64 au)).setCell (show w.heap.size ≤ (⟨w.heap.size + 1, 1, none⟩ : Addr).block by show w.heap.size ≤ w.heap.size + 1; omega) (.int .i64 (2))
      clear HC
      go_wp2_with fail
      exact bodyPost_ret (v := levV au (2)) (by simp [results, Tryd.results24, go_sem, t0, t1, levV]) rfl ⟨by rw [HR.out], HF⟩
  · have q1 := o3.cell 1 rfl
    have f1 := o3.free 1
    have y4 := y3.other (show w.heap.size ≠ (⟨B, 1, none⟩ : Addr).block by show w.heap.size ≠ B; omega) (.int .i64 1)
    have z4 := z3.other (show w.heap.size + 1 ≠ (⟨B, 1, none⟩ : Addr).block by show w.heap.size + 1 ≠ B; omega) (.int .i64 1)
    have o4 := o3.set 1 (.int .i64 1)
    have H4 := H3.setCell (show w.heap.size ≤ (⟨B, 1, none⟩ : Addr).block by show w.heap.size ≤ B; omega) (.int .i64 1)
    simp only [List.set_cons_succ, List.set_cons_zero] at o4
    clear g0 g1 g2 g3 y3 z3 o3 H3
    obtain ⟨g0, g1, g2, g3⟩ := y4.cells4
    go_wp2_with fail
    refine (cM _ _ (hv.bl H4)).mono ?_
    rintro e w5 ⟨rfl, hb5⟩
    have y5 := y4.bl hb5
    have z5 := z4.bl hb5
    have o5 := o4.bl hb5
    have H5 := H4.trans hb5
    clear g0 g1 g2 g3 y4 z4 o4 H4 hb5
    obtain ⟨g0, g1, g2, g3⟩ := y5.cells4
    cases bs
    · go_wp2_with fail
      refine (c3 _ _ (hv.bl H5)).mono ?_
      rintro e w6 ⟨rfl, hb6⟩
      have y6 := y5.bl hb6
      have z6 := z5.bl hb6
      have o6 := o5.bl hb6
      have H6 := H5.trans hb6
      clear g0 g1 g2 g3 y5 z5 o5 H5 hb6
      obtain ⟨g0, g1, g2, g3⟩ := y6.cells4
      go_wp2_with fail
      refine (cM _ _ (hv.bl H6)).mono ?_
      rintro e w7 ⟨rfl, hb7⟩
      have y7 := y6.bl hb7
      have z7 := z6.bl hb7
      have o7 := o6.bl hb7
      have H7 := H6.trans hb7
      clear g0 g1 g2 g3 y6 z6 o6 H6 hb7
      obtain ⟨g0, g1, g2, g3⟩ := y7.cells4
      have q0 := o7.cell 0 rfl
      have q1 := o7.cell 1 rfl
      have r0 := z7.cell 0 rfl
      have r1 := z7.cell 1 rfl
      have f0 := z7.free 0
      have f1 := z7.free 1
      have HR : Hid (confR p k = 1) := Lib.hid (by rw [HC.out]; rfl)
      have zF := (z7.set 0 (.int .i64 au)).set 1 (.int .i64 (1))
      have t0 := zF.cell 0 rfl
      have t1 := zF.cell 1 rfl
      have HF := (H7.setCell (show w.heap.size ≤ (⟨w.heap.size + 1, 0, none⟩ : Addr).block by show w.heap.size ≤ w.heap.size + 1; omega) (.int .i64 au)).setCell (show w.heap.size ≤ (⟨w.heap.size + 1, 1, none⟩ : Addr).block by show w.heap.size ≤ w.heap.size + 1; omega) (.int .i64 (1))
      clear HC
      go_wp2_with fail
      exact bodyPost_ret (v := levV au (1)) (by simp [results, Tryd.results24, go_sem, t0, t1, levV]) rfl ⟨by rw [HR.out], HF⟩
    · have q1 := o5.cell 1 rfl
      have f1 := o5.free 1
      have y6 := y5.other (show w.heap.size ≠ (⟨B, 1, none⟩ : Addr).block by show w.heap.size ≠ B; omega) (.int .i64 2)
      have z6 := z5.other (show w.heap.size + 1 ≠ (⟨B, 1, none⟩ : Addr).block by show w.heap.size + 1 ≠ B; omega) (.int .i64 2)
      have o6 := o5.set 1 (.int .i64 2)
      have H6 := H5.setCell (show w.heap.size ≤ (⟨B, 1, none⟩ : Addr).block by show w.heap.size ≤ B; omega) (.int .i64 2)
      simp only [List.set_cons_succ, List.set_cons_zero] at o6
      clear g0 g1 g2 g3 y5 z5 o5 H5
      obtain ⟨g0, g1, g2, g3⟩ := y6.cells4
      go_wp2_with fail
      refine (c3 _ _ (hv.bl H6)).mono ?_
      rintro e w7 ⟨rfl, hb7⟩
      have y7 := y6.bl hb7
      have z7 := z6.bl hb7
      have o7 := o6.bl hb7
      have H7 := H6.trans hb7
      clear g0 g1 g2 g3 y6 z6 o6 H6 hb7
      obtain ⟨g0, g1, g2, g3⟩ := y7.cells4
      go_wp2_with fail
      refine (cM _ _ (hv.bl H7)).mono ?_
      rintro e w8 ⟨rfl, hb8⟩
      have y8 := y7.bl hb8
      have z8 := z7.bl hb8
      have o8 := o7.bl hb8
      have H8 := H7.trans hb8
      clear g0 g1 g2 g3 y7 z7 o7 H7 hb8
      obtain ⟨g0, g1, g2, g3⟩ := y8.cells4
      have q1 := o8.cell 1 rfl
      have f1 := o8.free 1
      have y9 := y8.other (show w.heap.size ≠ (⟨B, 1, none⟩ : Addr).block by show w.heap.size ≠ B; omega) (.int .i64 3)
      have z9 := z8.other (show w.heap.size + 1 ≠ (⟨B, 1, none⟩ : Addr).block by show w.heap.size + 1 ≠ B; omega) (.int .i64 3)
      have o9 := o8.set 1 (.int .i64 3)
      have H9 := H8.setCell (show w.heap.size ≤ (⟨B, 1, none⟩ : Addr).block by show w.heap.size ≤ B; omega) (.int .i64 3)
      simp only [List.set_cons_succ, List.set_cons_zero] at o9
      clear g0 g1 g2 g3 y8 z8 o8 H8
      obtain ⟨g0, g1, g2, g3⟩ := y9.cells4
      have HR0 : Hid (confR p k = confU p k k) := Lib.hid (by rw [HC.out]; rfl)
      clear HC c3 cM
      go_wp2_with fail
      generalize w8.setCell ⟨B, 1, none⟩ (.int .i64 3) = W9 at *
      clear g0 g1 g2 g3 q1 f1
      go_loopw [7] (fun i wr => ∃ j : Nat, j ≤ k ∧ i = .int .i64 j ∧ BoxAt wr w.heap.size [.string p.name, .slice a0 p.pre0.length c0, .slice a1 p.pre1.length c1, .slice am p.msgs.length cm] 43 ∧ BoxAt wr (w.heap.size + 1) [.int .i64 0, .int .i64 0] 48 ∧ BoxAt wr B [.int .i64 au, .int .i64 (confU p k j)] 48 ∧ Bl w wr) (fun i _ => k - (intOf i).toNat)
      case atStart => exact ⟨0, by omega, rfl, y9, z9, o9, H9⟩
      case round =>
        obtain ⟨j, hj, rfl, yr, zr, or, Hr⟩ := hrel
        by_cases hjk : j < k
        · have dj : decide ((j : Int) < (k : Int)) = true := by simp; omega
          have HUj := Lib.hid (HU.out j)
          have cSj := cSi j (by omega)
          have cAj := cAi j (by omega)
          have hAj := HAL.out j
          have HAJ := Lib.hid hAj
          generalize sendR p j = sj at *
          generalize authR p j = aj at *
          have hwa : wrap64 (3 + aj) = 3 + aj := by unfold wrap64; omega
          clear hAj
          obtain ⟨g0, g1, g2, g3⟩ := yr.cells4
          have e0 := cell_regrown g0
          have e1 := cell_regrown g1
          have e2 := cell_regrown g2
          have e3 := cell_regrown g3
          go_upto_region 14 with fail
          refine wp_region_quiet_below (by kernel_rfl) (by kernel_rfl) ?_
          repeat (go_big_quiet_step ((first
            | (go_at_call 49; with_reducible exact Calls.regrown_of (cSj _ _ (hv.bl (Hr.trans (below_regrown wr _ _)))))
            | (go_at_call 49; with_reducible exact Calls.regrown_of (cSK _ _ (hv.bl (Hr.trans (below_regrown wr _ _))))))))
          refine wpQuiet_nil ?_
          intro wq hwq
          obtain ⟨pq, rfl⟩ := hwq
          have hbq := below_regrown wr pq.d pq.os
          clear e0 e1 e2 e3 g0 g1 g2 g3
          generalize grow (redrawn wr pq.d) pq.os = wq at *
          have yq := yr.bl hbq
          have zq := zr.bl hbq
          have oq := or.bl hbq
          have Hq := Hr.trans hbq
          clear yr zr or Hr hbq
          obtain ⟨g0, g1, g2, g3⟩ := yq.cells4
          by_cases hss : sj = 0
          · have ds : (sj == 0) = true := by simpa using hss
            have ds' : (sj != 0) = false := by simpa using hss
            have HV : Hid (confU p k (j + 1) = confU p k j) := Lib.hid (by rw [HUj.out, if_pos hss])
            clear hss
            go_wp2_with fail
            go_roundw
            case rel => exact ⟨j + 1, by omega, by go_num, yq, zq, by rw [HV.out]; exact oq, Hq⟩
            case measure => simp [intOf]; omega
          · have ds : (sj == 0) = false := by simpa using hss
            have ds' : (sj != 0) = true := by simpa using hss
            have HV : Hid (confU p k (j + 1) = 3 + aj) := Lib.hid (by rw [HUj.out, if_neg hss])
            clear hss
            go_wp2_with fail
            refine (cAj _ _ (hv.bl Hq)).mono ?_
            rintro e wa ⟨rfl, hba⟩
            have ya := yq.bl hba
            have za := zq.bl hba
            have oa := oq.bl hba
            have Ha := Hq.trans hba
            clear g0 g1 g2 g3 yq zq oq Hq hba
            have q1 := oa.cell 1 rfl
            have f1 := oa.free 1
            have yb := ya.other (show w.heap.size ≠ (⟨B, 1, none⟩ : Addr).block by show w.heap.size ≠ B; omega) (.int .i64 (3 + aj))
            have zb := za.other (show w.heap.size + 1 ≠ (⟨B, 1, none⟩ : Addr).block by show w.heap.size + 1 ≠ B; omega) (.int .i64 (3 + aj))
            have ob := oa.set 1 (.int .i64 (3 + aj))
            have Hb := Ha.setCell (show w.heap.size ≤ (⟨B, 1, none⟩ : Addr).block by show w.heap.size ≤ B; omega) (.int .i64 (3 + aj))
            simp only [List.set_cons_succ, List.set_cons_zero] at ob
            go_wp2_with fail
            go_roundw
            case rel => exact ⟨j + 1, by omega, by go_num, yb, zb, by rw [HV.out]; exact ob, Hb⟩
            case measure => clear hwa; simp [intOf]; omega
        · have dj : decide ((j : Int) < (k : Int)) = false := by simp; omega
          obtain rfl : j = k := by omega
          have q0 := or.cell 0 rfl
          have q1 := or.cell 1 rfl
          have r0 := zr.cell 0 rfl
          have r1 := zr.cell 1 rfl
          have f0 := zr.free 0
          have f1 := zr.free 1
          have HR : Hid (confR p j = confU p j j) := Lib.hid (by rw [HR0.out])
          have zF := (zr.set 0 (.int .i64 au)).set 1 (.int .i64 (confU p j j))
          have t0 := zF.cell 0 rfl
          have t1 := zF.cell 1 rfl
          have HF := (Hr.setCell (show w.heap.size ≤ (⟨w.heap.size + 1, 0, none⟩ : Addr).block by show w.heap.size ≤ w.heap.size + 1; omega) (.int .i64 au)).setCell (show w.heap.size ≤ (⟨w.heap.size + 1, 1, none⟩ : Addr).block by show w.heap.size ≤ w.heap.size + 1; omega) (.int .i64 (confU p j j))
          clear HR0
          go_wp2_with fail
          exact bodyPost_ret (v := levV au (confU p j j)) (by simp [results, Tryd.results24, go_sem, t0, t1, levV]) rfl ⟨by rw [HR.out], HF⟩

set_option maxRecDepth 100000 in
set_option maxHeartbeats 8000000 in
theorem refOf9_1 (v : Value) (p : Pat) (w : World) (h : SP w v p) (hs : Small p) (hr : rightB p = true) (k : Nat) (hk : k ≤ 100) (hsk : sendR p k = 1) :
    Calls Tryd.prog 24 #[v, .int .i64 (k : Int)] w fun e w' => e = .returned (levV (authR p k) (confR p k)) ∧ Bl w w' := by
  have hv := h
  have HC : Hid (confR p k = if met9 p 3 k && met9 p 5 k then confU p k k else if met9 p 5 k then 2 else if met9 p 3 k then 1 else 0) := Lib.hid (by unfold confR; rw [hsk]; rfl)
  have HU : Hid (∀ i, confU p k (i + 1) = if sendR p i = 1 then confU p k i else 3 + authR p i) := Lib.hid (fun i => by rw [confU, hsk])
  have HAL := Lib.hid (authR_le p)
  have cS := fun u w h => sender9_any u p w h hr k hk
  have cA := fun u w h => auth9_any u p w h hs hr k hk
  have cSi := fun (i : Nat) (hi : i ≤ 100) u w h => sender9_any u p w h hr i hi
  have cAi := fun (i : Nat) (hi : i ≤ 100) u w h => auth9_any u p w h hs hr i hi
  have c3 := fun u w h => met9_any u p w h hs 3 k hk
  have cM := fun u w h => met9_any u p w h hs 5 k hk
  rw [hsk] at cS
  have cSK := cS
  clear hsk
  generalize authR p k = au at *
  generalize met9 p 3 k = b3 at *
  generalize met9 p 5 k = bs at *
  obtain ⟨v0, v1, vm, rfl, hn, h0, h1, hm⟩ := h
  obtain ⟨a0, c0, rfl⟩ := h0.form
  obtain ⟨a1, c1, rfl⟩ := h1.form
  obtain ⟨am, cm, rfl⟩ := hm.form
  clear h0 h1 hm
  have y := (BoxAt.new w #[.string p.name, .slice a0 p.pre0.length c0, .slice a1 p.pre1.length c1, .slice am p.msgs.length cm] 43).alloc (.cells #[.int .i64 0, .int .i64 0] 48)
  have z := BoxAt.new (w.alloc (.cells #[.string p.name, .slice a0 p.pre0.length c0, .slice a1 p.pre1.length c1, .slice am p.msgs.length cm] 43)) #[.int .i64 0, .int .i64 0] 48
  have H : Bl w ((w.alloc (.cells #[.string p.name, .slice a0 p.pre0.length c0, .slice a1 p.pre1.length c1, .slice am p.msgs.length cm] 43)).alloc (.cells #[.int .i64 0, .int .i64 0] 48)) := ((Bl.refl w).alloc _).alloc _
  simp only [size_alloc] at z
  go_enter Tryd.func24, Tryd.ntmps24
  go_upto_region 2 with fail
  generalize (w.alloc (.cells #[.string p.name, .slice a0 p.pre0.length c0, .slice a1 p.pre1.length c1, .slice am p.msgs.length cm] 43)).alloc (.cells #[.int .i64 0, .int .i64 0] 48) = W at y z H ⊢
  obtain ⟨g0, g1, g2, g3⟩ := y.cells4
  go_wp2_with fail
  refine (cS _ W (hv.bl H)).mono ?_
  rintro e w1 ⟨rfl, hb1⟩
  have y1 := y.bl hb1
  have z1 := z.bl hb1
  have H1 := H.trans hb1
  clear g0 g1 g2 g3 cS y z H hb1
  obtain ⟨g0, g1, g2, g3⟩ := y1.cells4
  go_wp2_with fail
  refine (cA _ w1 (hv.bl H1)).mono ?_
  rintro e w2 ⟨rfl, hb2⟩
  have y2 := (y1.bl hb2).alloc (.cells #[.int .i64 au, .int .i64 0] 48)
  have z2 := (z1.bl hb2).alloc (.cells #[.int .i64 au, .int .i64 0] 48)
  have o2 := BoxAt.new w2 #[.int .i64 au, .int .i64 0] 48
  have H2 := (H1.trans hb2).alloc (.cells #[.int .i64 au, .int .i64 0] 48)
  have hlt : w.heap.size + 1 < w2.heap.size := (z1.bl hb2).lt
  clear g0 g1 g2 g3 cA y1 z1 H1 hb2
  obtain ⟨g0, g1, g2, g3⟩ := y2.cells4
  go_upto_region 5 with fail
  generalize hW2 : w2.alloc (.cells #[.int .i64 au, .int .i64 0] 48) = W2 at *
  clear hW2
  generalize w2.heap.size = B at *
  go_wp2_with fail
  refine (c3 _ _ (hv.bl H2)).mono ?_
  rintro e w3 ⟨rfl, hb3⟩
  have y3 := y2.bl hb3
  have z3 := z2.bl hb3
  have o3 := o2.bl hb3
  have H3 := H2.trans hb3
  clear g0 g1 g2 g3 y2 z2 o2 H2 hb3
  obtain ⟨g0, g1, g2, g3⟩ := y3.cells4
  cases b3
  · go_wp2_with fail
    refine (cM _ _ (hv.bl H3)).mono ?_
    rintro e w4 ⟨rfl, hb4⟩
    have y4 := y3.bl hb4
    have z4 := z3.bl hb4
    have o4 := o3.bl hb4
    have H4 := H3.trans hb4
    clear g0 g1 g2 g3 y3 z3 o3 H3 hb4
    obtain ⟨g0, g1, g2, g3⟩ := y4.cells4
    cases bs
    · go_wp2_with fail
      refine (c3 _ _ (hv.bl H4)).mono ?_
      rintro e w5 ⟨rfl, hb5⟩
      have y5 := y4.bl hb5
      have z5 := z4.bl hb5
      have o5 := o4.bl hb5
      have H5 := H4.trans hb5
      clear g0 g1 g2 g3 y4 z4 o4 H4 hb5
      obtain ⟨g0, g1, g2, g3⟩ := y5.cells4
      have q0 := o5.cell 0 rfl
      have q1 := o5.cell 1 rfl
      have r0 := z5.cell 0 rfl
      have r1 := z5.cell 1 rfl
      have f0 := z5.free 0
      have f1 := z5.free 1
      have HR : Hid (confR p k = 0) := Lib.hid (by rw [HC.out]; rfl)
      have zF := (z5.set 0 (.int .i64 au)).set 1 (.int .i64 (0))
      have t0 := zF.cell 0 rfl
      have t1 := zF.cell 1 rfl
      have HF := (H5.setCell (show w.heap.size ≤ (⟨w.heap.size + 1, 0, none⟩ : Addr).block by show w.heap.size ≤ w.heap.size + 1; omega) (.int .i64 au)).setCell (show w.heap.size ≤ (⟨w.heap.size + 1, 1, none⟩ : Addr).block by show w.heap.size ≤ w.heap.size + 1; omega) (.int .i64 (0))
      clear HC
      go_wp2_with fail
      exact bodyPost_ret (v := levV au (0)) (by simp [results, Tryd.results24, go_sem, t0, t1, levV]) rfl ⟨by rw [HR.out], HF⟩
    · have q1 := o4.cell 1 rfl
      have f1 := o4.free 1
      have y5 := y4.other (show w.heap.size ≠ (⟨B, 1, none⟩ : Addr).block by show w.heap.size ≠ B; omega) (.int .i64 2)
      have z5 := z4.other (show w.heap.size + 1 ≠ (⟨B, 1, none⟩ : Addr).block by show w.heap.size + 1 ≠ B; omega) (.int .i64 2)
      have o5 := o4.set 1 (.int .i64 2)
      have H5 := H4.setCell (show w.heap.size ≤ (⟨B, 1, none⟩ : Addr).block by show w.heap.size ≤ B; omega) (.int .i64 2)
      simp only [List.set_cons_succ, List.set_cons_zero] at o5
      clear g0 g1 g2 g3 y4 z4 o4 H4
      obtain ⟨g0, g1, g2, g3⟩ := y5.cells4
      go_wp2_with fail
      refine (c3 _ _ (hv.bl H5)).mono ?_
      rintro e w6 ⟨rfl, hb6⟩
      have y6 := y5.bl hb6
      have z6 := z5.bl hb6
      have o6 := o5.bl hb6
      have H6 := H5.trans hb6
      clear g0 g1 g2 g3 y5 z5 o5 H5 hb6
      obtain ⟨g0, g1, g2, g3⟩ := y6.cells4
      have q0 := o6.cell 0 rfl
      have q1 := o6.cell 1 rfl
      have r0 := z6.cell 0 rfl
      have r1 := z6.cell 1 rfl
      have f0 := z6.free 0
      have f1 := z6.free 1
      have HR : Hid (confR p k = 2) := Lib.hid (by rw [HC.out]; rfl)
      have zF := (z6.set 0 (.int .i64 au)).set 1 (.int .i64 (2))
      have t0 := zF.cell 0 rfl
      have t1 := zF.cell 1 rfl
      have HF := (H6.setCell (show w.heap.size ≤ (⟨w.heap.size + 1, 0, none⟩ : Addr).block by show w.heap.size ≤ w.heap.size + 1; omega) (.int .i64 au)).setCell (show w.heap.size ≤ (⟨w.heap.size + 1, 1, none⟩ : Addr).block by show w.heap.size ≤ w.heap.size + 1; omega) (.int .i64 (2))
      clear HC
      go_wp2_with fail
      exact bodyPost_ret (v := levV au (2)) (by simp [results, Tryd.results24, go_sem, t0, t1, levV]) rfl ⟨by rw [HR.out], HF⟩
  · have q1 := o3.cell 1 rfl
    have f1 := o3.free 1
    have y4 := y3.other (show w.heap.size ≠ (⟨B, 1, none⟩ : Addr).block by show w.heap.size ≠ B; omega) (.int .i64 1)
    have z4 := z3.other (show w.heap.size + 1 ≠ (⟨B, 1, none⟩ : Addr).block by show w.heap.size + 1 ≠ B; omega) (.int .i64 1)
    have o4 := o3.set 1 (.int .i64 1)
    have H4 := H3.setCell (show w.heap.size ≤ (⟨B, 1, none⟩ : Addr).block by show w.heap.size ≤ B; omega) (.int .i64 1)
    simp only [List.set_cons_succ, List.set_cons_zero] at o4
    clear g0 g1 g2 g3 y3 z3 o3 H3
    obtain ⟨g0, g1, g2, g3⟩ := y4.cells4
    go_wp2_with fail
    refine (cM _ _ (hv.bl H4)).mono ?_
    rintro e w5 ⟨rfl, hb5⟩
    have y5 := y4.bl hb5
    have z5 := z4.bl hb5
    have o5 := o4.bl hb5
    have H5 := H4.trans hb5
    clear g0 g1 g2 g3 y4 z4 o4 H4 hb5
    obtain ⟨g0, g1, g2, g3⟩ := y5.cells4
    cases bs
    · go_wp2_with fail
      refine (c3 _ _ (hv.bl H5)).mono ?_
      rintro e w6 ⟨rfl, hb6⟩
      have y6 := y5.bl hb6
      have z6 := z5.bl hb6
      have o6 := o5.bl hb6
      have H6 := H5.trans hb6
      clear g0 g1 g2 g3 y5 z5 o5 H5 hb6
      obtain ⟨g0, g1, g2, g3⟩ := y6.cells4
      go_wp2_with fail
      refine (cM _ _ (hv.bl H6)).mono ?_
      rintro e w7 ⟨rfl, hb7⟩
      have y7 := y6.bl hb7
      have z7 := z6.bl hb7
      have o7 := o6.bl hb7
      have H7 := H6.trans hb7
      clear g0 g1 g2 g3 y6 z6 o6 H6 hb7
      obtain ⟨g0, g1, g2, g3⟩ := y7.cells4
      have q0 := o7.cell 0 rfl
      have q1 := o7.cell 1 rfl
      have r0 := z7.cell 0 rfl
      have r1 := z7.cell 1 rfl
      have f0 := z7.free 0
      have f1 := z7.free 1
      have HR : Hid (confR p k = 1) := Lib.hid (by rw [HC.out]; rfl)
      have zF := (z7.set 0 (.int .i64 au)).set 1 (.int .i64 (1))
      have t0 := zF.cell 0 rfl
      have t1 := zF.cell 1 rfl
      have HF := (H7.setCell (show w.heap.size ≤ (⟨w.heap.size + 1, 0, none⟩ : Addr).block by show w.heap.size ≤ w.heap.size + 1; omega) (.int .i64 au)).setCell (show w.heap.size ≤ (⟨w.heap.size + 1, 1, none⟩ : Addr).block by show w.heap.size ≤ w.heap.size + 1; omega) (.int .i64 (1))
      clear HC
      go_wp2_with fail
      exact bodyPost_ret (v := levV au (1)) (by simp [results, Tryd.results24, go_sem, t0, t1, levV]) rfl ⟨by rw [HR.out], HF⟩
    · have q1 := o5.cell 1 rfl
      have f1 := o5.free 1
      have y6 := y5.other (show w.heap.size ≠ (⟨B, 1, none⟩ : Addr).block by show w.heap.size ≠ B; omega) (.int .i64 2)
      have z6 := z5.other (show w.heap.size + 1 ≠ (⟨B, 1, none⟩ : Addr).block by show w.heap.size + 1 ≠ B; omega) (.int .i64 2)
      have o6 := o5.set 1 (.int .i64 2)
      have H6 := H5.setCell (show w.heap.size ≤ (⟨B, 1, none⟩ : Addr).block by show w.heap.size ≤ B; omega) (.int .i64 2)
      simp only [List.set_cons_succ, List.set_cons_zero] at o6
      clear g0 g1 g2 g3 y5 z5 o5 H5
      obtain ⟨g0, g1, g2, g3⟩ := y6.cells4
      go_wp2_with fail
      refine (c3 _ _ (hv.bl H6)).mono ?_
      rintro e w7 ⟨rfl, hb7⟩
      have y7 := y6.bl hb7
      have z7 := z6.bl hb7
      have o7 := o6.bl hb7
      have H7 := H6.trans hb7
      clear g0 g1 g2 g3 y6 z6 o6 H6 hb7
      obtain ⟨g0, g1, g2, g3⟩ := y7.cells4
      go_wp2_with fail
      refine (cM _ _ (hv.bl H7)).mono ?_
      rintro e w8 ⟨rfl, hb8⟩
      have y8 := y7.bl hb8
      have z8 := z7.bl hb8
      have o8 := o7.bl hb8
      have H8 := H7.trans hb8
      clear g0 g1 g2 g3 y7 z7 o7 H7 hb8
      obtain ⟨g0, g1, g2, g3⟩ := y8.cells4
      have q1 := o8.cell 1 rfl
      have f1 := o8.free 1
      have y9 := y8.other (show w.heap.size ≠ (⟨B, 1, none⟩ : Addr).block by show w.heap.size ≠ B; omega) (.int .i64 3)
      have z9 := z8.other (show w.heap.size + 1 ≠ (⟨B, 1, none⟩ : Addr).block by show w.heap.size + 1 ≠ B; omega) (.int .i64 3)
      have o9 := o8.set 1 (.int .i64 3)
      have H9 := H8.setCell (show w.heap.size ≤ (⟨B, 1, none⟩ : Addr).block by show w.heap.size ≤ B; omega) (.int .i64 3)
      simp only [List.set_cons_succ, List.set_cons_zero] at o9
      clear g0 g1 g2 g3 y8 z8 o8 H8
      obtain ⟨g0, g1, g2, g3⟩ := y9.cells4
      have HR0 : Hid (confR p k = confU p k k) := Lib.hid (by rw [HC.out]; rfl)
      clear HC c3 cM
      go_wp2_with fail
      generalize w8.setCell ⟨B, 1, none⟩ (.int .i64 3) = W9 at *
      clear g0 g1 g2 g3 q1 f1
      go_loopw [7] (fun i wr => ∃ j : Nat, j ≤ k ∧ i = .int .i64 j ∧ BoxAt wr w.heap.size [.string p.name, .slice a0 p.pre0.length c0, .slice a1 p.pre1.length c1, .slice am p.msgs.length cm] 43 ∧ BoxAt wr (w.heap.size + 1) [.int .i64 0, .int .i64 0] 48 ∧ BoxAt wr B [.int .i64 au, .int .i64 (confU p k j)] 48 ∧ Bl w wr) (fun i _ => k - (intOf i).toNat)
      case atStart => exact ⟨0, by omega, rfl, y9, z9, o9, H9⟩
      case round =>
        obtain ⟨j, hj, rfl, yr, zr, or, Hr⟩ := hrel
        by_cases hjk : j < k
        · have dj : decide ((j : Int) < (k : Int)) = true := by simp; omega
          have HUj := Lib.hid (HU.out j)
          have cSj := cSi j (by omega)
          have cAj := cAi j (by omega)
          have hAj := HAL.out j
          have HAJ := Lib.hid hAj
          generalize sendR p j = sj at *
          generalize authR p j = aj at *
          have hwa : wrap64 (3 + aj) = 3 + aj := by unfold wrap64; omega
          clear hAj
          obtain ⟨g0, g1, g2, g3⟩ := yr.cells4
          have e0 := cell_regrown g0
          have e1 := cell_regrown g1
          have e2 := cell_regrown g2
          have e3 := cell_regrown g3
          go_upto_region 14 with fail
          refine wp_region_quiet_below (by kernel_rfl) (by kernel_rfl) ?_
          repeat (go_big_quiet_step ((first
            | (go_at_call 49; with_reducible exact Calls.regrown_of (cSj _ _ (hv.bl (Hr.trans (below_regrown wr _ _)))))
            | (go_at_call 49; with_reducible exact Calls.regrown_of (cSK _ _ (hv.bl (Hr.trans (below_regrown wr _ _))))))))
          refine wpQuiet_nil ?_
          intro wq hwq
          obtain ⟨pq, rfl⟩ := hwq
          have hbq := below_regrown wr pq.d pq.os
          clear e0 e1 e2 e3 g0 g1 g2 g3
          generalize grow (redrawn wr pq.d) pq.os = wq at *
          have yq := yr.bl hbq
          have zq := zr.bl hbq
          have oq := or.bl hbq
          have Hq := Hr.trans hbq
          clear yr zr or Hr hbq
          obtain ⟨g0, g1, g2, g3⟩ := yq.cells4
          by_cases hss : sj = 1
          · have ds : (sj == 1) = true := by simpa using hss
            have ds' : (sj != 1) = false := by simpa using hss
            have HV : Hid (confU p k (j + 1) = confU p k j) := Lib.hid (by rw [HUj.out, if_pos hss])
            clear hss
            go_wp2_with fail
            go_roundw
            case rel => exact ⟨j + 1, by omega, by go_num, yq, zq, by rw [HV.out]; exact oq, Hq⟩
            case measure => simp [intOf]; omega
          · have ds : (sj == 1) = false := by simpa using hss
            have ds' : (sj != 1) = true := by simpa using hss
            have HV : Hid (confU p k (j + 1) = 3 + aj) := Lib.hid (by rw [HUj.out, if_neg hss])
            clear hss
            go_wp2_with fail
            refine (cAj _ _ (hv.bl Hq)).mono ?_
            rintro e wa ⟨rfl, hba⟩
            have ya := yq.bl hba
            have za := zq.bl hba
            have oa := oq.bl hba
            have Ha := Hq.trans hba
            clear g0 g1 g2 g3 yq zq oq Hq hba
            have q1 := oa.cell 1 rfl
            have f1 := oa.free 1
            have yb := ya.other (show w.heap.size ≠ (⟨B, 1, none⟩ : Addr).block by show w.heap.size ≠ B; omega) (.int .i64 (3 + aj))
            have zb := za.other (show w.heap.size + 1 ≠ (⟨B, 1, none⟩ : Addr).block by show w.heap.size + 1 ≠ B; omega) (.int .i64 (3 + aj))
            have ob := oa.set 1 (.int .i64 (3 + aj))
            have Hb := Ha.setCell (show w.heap.size ≤ (⟨B, 1, none⟩ : Addr).block by show w.heap.size ≤ B; omega) (.int .i64 (3 + aj))
            simp only [List.set_cons_succ, List.set_cons_zero] at ob
            go_wp2_with fail
            go_roundw
            case rel => exact ⟨j + 1, by omega, by go_num, yb, zb, by rw [HV.out]; exact ob, Hb⟩
            case measure => clear hwa; simp [intOf]; omega
        · have dj : decide ((j : Int) < (k : Int)) = false := by simp; omega
          obtain rfl : j = k := by omega
          have q0 := or.cell 0 rfl
          have q1 := or.cell 1 rfl
          have r0 := zr.cell 0 rfl
          have r1 := zr.cell 1 rfl
          have f0 := zr.free 0
          have f1 := zr.free 1
          have HR : Hid (confR p j = confU p j j) := Lib.hid (by rw [HR0.out])
          have zF := (zr.set 0 (.int .i64 au)).set 1 (.int .i64 (confU p j j))
          have t0 := zF.cell 0 rfl
          have t1 := zF.cell 1 rfl
          have HF := (Hr.setCell (show w.heap.size ≤ (⟨w.heap.size + 1, 0, none⟩ : Addr).block by show w.heap.size ≤ w.heap.size + 1; omega) (.int .i64 au)).setCell (show w.heap.size ≤ (⟨w.heap.size + 1, 1, none⟩ : Addr).block by show w.heap.size ≤ w.heap.size + 1; omega) (.int .i64 (confU p j j))
          clear HR0
          go_wp2_with fail
          exact bodyPost_ret (v := levV au (confU p j j)) (by simp [results, Tryd.results24, go_sem, t0, t1, levV]) rfl ⟨by rw [HR.out], HF⟩

theorem refOf9_any (v : Value) (p : Pat) (w : World) (h : SP w v p) (hs : Small p) (hr : rightB p = true) (k : Nat) (hk : k ≤ 100) :
    Calls Tryd.prog 24 #[v, .int .i64 (k : Int)] w fun e w' => e = .returned (levV (authR p k) (confR p k)) ∧ Bl w w' := by
  rcases sendR_ok hr k with h0 | h1
  · exact refOf9_0 v p w h hs hr k hk h0
  · exact refOf9_1 v p w h hs hr k hk h1
end Go.Proofs.YtelloecgdiocoaaDoor

set_option linter.unusedSimpArgs false
set_option linter.unusedVariables false
namespace Go.Proofs.YtelloecgdiocoaaDoor
open Go.RowKit Go.Sort

theorem chkRe9 (p : Pat) : (chkR p).2.2 = 13 ∨ (chkR p).2.2 = 0 := by
  unfold chkR
  split
  · exact .inl rfl
  · split
    · exact .inl rfl
    · exact .inr rfl
theorem rightB9_any (v : Value) (p : Pat) (w : World) (h : SP w v p) (b : Bool) (hr : rightB p = b) :
    Calls Tryd.prog 22 #[v] w fun e w' => e = .returned (.bool b) ∧ Bl w w' := by
  rw [← hr]
  exact refRight_any v p w h
theorem refCheck9_any (v : Value) (p : Pat) (E : Int) (w : World) (h : SP w v p) (hr : rightB p = true) (he : (checkV p).2.2 = E) :
    Calls Tryd.prog 23 #[v] w fun e w' => ∃ a b : Int, e = .returned (.tuple #[.int .i64 a, .int .i64 b, .int .i64 E]) ∧ Bl w w' := by
  obtain ⟨_, _, hl1, hl6, ho⟩ := right_parts hr
  have e : checkV p = refR p := by rw [checkV, if_pos hr]; exact chk_same p hl1 (by omega) ho
  refine (refCheck_any v p w h ((right_iff p).1 hr).small ho hl1).mono fun x w' hh => ?_
  rw [← he, e]
  exact ⟨_, _, hh⟩

set_option maxRecDepth 100000 in
set_option maxHeartbeats 8000000 in
theorem levelMessages_any (v : Value) (p : Pat) (many : Int) (w : World) (hE : EnvB w) (h : SP w v p) :
    Calls Tryd.prog 4 #[v, .int .i64 many] w fun e w' => e = .returned (.bool true) ∧ Bl w w' := by
  have hv := h
  obtain ⟨v0, v1, vm, rfl, hn, h0, h1, hm⟩ := h
  obtain ⟨a0, c0, rfl⟩ := h0.form
  obtain ⟨a1, c1, rfl⟩ := h1.form
  obtain ⟨am, cm, rfl⟩ := hm.form
  clear h0 h1 hm
  have x := BoxAt.new w #[.string p.name, .slice a0 p.pre0.length c0, .slice a1 p.pre1.length c1, .slice am p.msgs.length cm] 29
  have H : Bl w (w.alloc (.cells #[.string p.name, .slice a0 p.pre0.length c0, .slice a1 p.pre1.length c1, .slice am p.msgs.length cm] 29)) := (Bl.refl w).alloc _
  go_enter Tryd.func4, Tryd.ntmps4
  go_wp2_with fail
  refine (few_any _ p _ (hv.bl H)).mono ?_
  rintro e w1 ⟨rfl, hb1⟩
  have x1 := x.bl hb1
  have H1 := H.trans hb1
  obtain ⟨g0, g1, g2, g3⟩ := x1.cells4
  cases hfp : fewB p
  · go_wp2_with fail
    refine (awake9_any w1 (hE.bl H1)).mono ?_
    rintro e w3 ⟨rfl, hb3⟩
    go_wp2
    go_ret
    exact ⟨rfl, H1.trans hb3⟩
  · clear hfp
    go_wp2_with fail
    refine (table_any _ p many _ (hv.bl H1)).mono ?_
    rintro e w2 ⟨r, rfl, hl, hb2⟩
    have x2 := x1.bl hb2
    have H2 := H1.trans hb2
    clear g0 g1 g2 g3
    obtain ⟨g0, g1, g2, g3⟩ := x2.cells4
    have HA := Lib.hid (@tab_at p many)
    have HTE : Hid (tabE p many = if (checkV p).2.2 = 1 ∨ many < 0 ∨ 100 < many then 1 else (checkV p).2.2) := Lib.hid rfl
    have HTL : Hid (tabL p many = if tabE p many = 0 then levs p many.toNat else []) := Lib.hid rfl
    generalize tabE p many = E at *
    generalize tabL p many = L at *
    obtain ⟨la, lc, rfl⟩ := hl.form
    go_wp2_with fail
    refine (of_any _ p _ (hv.bl H2)).mono ?_
    rintro e w3 ⟨u, rfl, hu, hb3⟩
    have hu0 := hu
    obtain ⟨u0, u1, um, rfl, _, i0, i1, im⟩ := hu
    obtain ⟨b0, d0, rfl⟩ := i0.form
    obtain ⟨b1, d1, rfl⟩ := i1.form
    obtain ⟨bm, dm, rfl⟩ := im.form
    clear i0 i1 im g0 g1 g2 g3
    have al : Bl w3 (w3.alloc (.cells #[.string p.name, .slice b0 p.pre0.length d0, .slice b1 p.pre1.length d1, .slice bm p.msgs.length dm] 43)) := (Bl.refl w3).alloc _
    have y3 := BoxAt.new w3 #[.string p.name, .slice b0 p.pre0.length d0, .slice b1 p.pre1.length d1, .slice bm p.msgs.length dm] 43
    have hu3 := hu0.bl al
    have hl3 := (hl.bl hb3).bl al
    have H3 := (H2.trans hb3).trans al
    go_upto_region 5 with fail
    generalize hW3 : w3.alloc (.cells #[.string p.name, .slice b0 p.pre0.length d0, .slice b1 p.pre1.length d1, .slice bm p.msgs.length dm] 43) = W3 at *
    generalize w3.heap.size = B at *
    clear hW3 al x x1 x2
    obtain ⟨g0, g1, g2, g3⟩ := y3.cells4
    cases hrb : rightB p
    · have HE1 : Hid (E = 1) := Lib.hid (by rw [HTE.out, checkV, hrb]; simp)
      have HL0 : Hid (L = []) := Lib.hid (by rw [HTL.out, HE1.out]; simp)
      have HRB := Lib.hid hrb
      have hE1 := HE1.out
      have hL0 := HL0.out
      subst hE1 hL0
      clear HA HTE HTL hrb
      go_wp2_with fail
      refine (rightB9_any _ p _ hu3 false HRB.out).mono ?_
      rintro e w4 ⟨rfl, hb4⟩
      have H4 := H3.trans hb4
      go_wp2_with fail
      refine (awake9_any w4 (hE.bl H4)).mono ?_
      rintro e w5 ⟨rfl, hb5⟩
      go_wp2
      go_ret
      exact ⟨rfl, H4.trans hb5⟩
    · have HRB := Lib.hid hrb
      have HCK : Hid ((checkV p).2.2 = 13 ∨ (checkV p).2.2 = 0) := Lib.hid (by rw [checkV, if_pos hrb]; exact chkRe9 p)
      have HSM := Lib.hid ((right_iff p).1 hrb).small
      clear hrb
      by_cases e2 : many < 0
      · have d2 : decide (many < 0) = true := by simpa using e2
        have hE1 : E = 1 := by rw [HTE.out]; simp [e2]
        have hL0 : L = [] := by rw [HTL.out, hE1]; simp
        subst hE1 hL0
        clear HA HTE HTL
        go_wp2_with fail
        refine (rightB9_any _ p _ hu3 true HRB.out).mono ?_
        rintro e w4 ⟨rfl, hb4⟩
        have H4 := H3.trans hb4
        go_wp2_with fail
        refine (awake9_any w4 (hE.bl H4)).mono ?_
        rintro e w5 ⟨rfl, hb5⟩
        go_wp2
        go_ret
        exact ⟨rfl, H4.trans hb5⟩
      · have d2 : decide (many < 0) = false := by simpa using e2
        by_cases e3 : 100 < many
        · have d3 : decide (100 < many) = true := by simpa using e3
          have hE1 : E = 1 := by rw [HTE.out]; simp [e3]
          have hL0 : L = [] := by rw [HTL.out, hE1]; simp
          subst hE1 hL0
          clear HA HTE HTL
          go_wp2_with fail
          refine (rightB9_any _ p _ hu3 true HRB.out).mono ?_
          rintro e w4 ⟨rfl, hb4⟩
          have H4 := H3.trans hb4
          go_wp2_with fail
          refine (awake9_any w4 (hE.bl H4)).mono ?_
          rintro e w5 ⟨rfl, hb5⟩
          go_wp2
          go_ret
          exact ⟨rfl, H4.trans hb5⟩
        · have d3 : decide (100 < many) = false := by simpa using e3
          have HEC : Hid (E = (checkV p).2.2) := Lib.hid (by
            rw [HTE.out]
            rcases HCK.out with h | h <;> rw [h] <;> simp [e2, e3])
          clear HTE
          generalize hck : (checkV p).2.2 = C at *
          have HCC := Lib.hid hck
          have hEC := HEC.out
          subst hEC
          clear hck HEC
          go_wp2_with fail
          refine (rightB9_any _ p _ hu3 true HRB.out).mono ?_
          rintro e w4 ⟨rfl, hb4⟩
          have H4 := H3.trans hb4
          have y4 := y3.bl hb4
          have hu4 := hu3.bl hb4
          have hl4 := hl3.bl hb4
          clear g0 g1 g2 g3
          obtain ⟨g0, g1, g2, g3⟩ := y4.cells4
          go_wp2_with fail
          refine (refCheck9_any _ p _ _ hu4 HRB.out HCC.out).mono ?_
          rintro e w5 ⟨ra, rb, rfl, hb5⟩
          have H5 := H4.trans hb5
          have y5 := y4.bl hb5
          have hu5 := hu4.bl hb5
          have hl5 := hl4.bl hb5
          clear g0 g1 g2 g3
          rcases HCK.out with rfl | rfl
          · have hL0 : L = [] := by rw [HTL.out]; simp
            subst hL0
            clear HTL HA
            go_wp2_with fail
            refine (awake9_any w5 (hE.bl H5)).mono ?_
            rintro e w6 ⟨rfl, hb6⟩
            go_wp2
            go_ret
            exact ⟨rfl, H5.trans hb6⟩
          · have HAk := Lib.hid (HA.out rfl)
            obtain ⟨N, rfl⟩ : ∃ N : Nat, many = (N : Int) := ⟨many.toNat, by omega⟩
            have hLN : L.length = N := by rw [HTL.out, if_pos rfl, levs_len]; omega
            subst hLN
            clear HTL HA
            have hl100 : L.length ≤ 100 := by omega
            go_wp2_with fail
            go_loopw [11] (fun i wr => ∃ k : Nat, k ≤ L.length ∧ k ≤ 12 ∧ i = .int .i64 k ∧ BoxAt wr B [.string p.name, .slice b0 p.pre0.length d0, .slice b1 p.pre1.length d1, .slice bm p.msgs.length dm] 43 ∧ Bl w5 wr ∧ Bl w wr) (fun i _ => L.length - (intOf i).toNat)
            case atStart => exact ⟨0, by omega, by omega, rfl, y5, Bl.refl _, H5⟩
            case round =>
              obtain ⟨k, hk, hk12, rfl, yr, H5r, Hr⟩ := hrel
              by_cases ha : k < L.length
              · have da : decide ((k : Int) < (L.length : Int)) = true := by simp; omega
                by_cases hb : k < 12
                · have db : decide ((k : Int) < 12) = true := by simp; omega
                  have HX := Lib.hid ((HAk.out k ha).trans (lev_same HRB.out k))
                  obtain ⟨b, o, e1, ca0, ca1⟩ : ∃ b o, la = some ⟨b, o, none⟩ ∧ wr.cell? ⟨b, o + k * 2, none⟩ = some (.int .i64 L[k].1) ∧ wr.cell? ⟨b, o + k * 2 + 1, none⟩ = some (.int .i64 L[k].2) := by
                    obtain ⟨a', c', e, _, hc⟩ := hl5.bl H5r
                    injection e with e1 _ _
                    obtain ⟨b', o', e2, h2⟩ := hc k ha
                    exact ⟨b', o', e1.trans e2, h2⟩
                  subst e1
                  rw [HX.out] at ca0 ca1
                  have cR := refOf9_any _ p wr (hu5.bl H5r) HSM.out HRB.out k (by omega)
                  clear HX
                  simp only at ca0 ca1
                  generalize authR p k = z0 at *
                  generalize confR p k = z1 at *
                  obtain ⟨g0, g1, g2, g3⟩ := yr.cells4
                  go_wp2_with fail
                  refine cR.mono ?_
                  rintro e w6 ⟨rfl, hb6⟩
                  have y6 := yr.bl hb6
                  have ca0 := hb6.cellq ca0
                  have ca1 := hb6.cellq ca1
                  have H56 := H5r.trans hb6
                  have H6 := Hr.trans hb6
                  clear g0 g1 g2 g3 yr H5r Hr hb6
                  unfold levV
                  have al : Bl w6 (w6.alloc (.cells #[.int .i64 z0, .int .i64 z1] 48)) := (Bl.refl w6).alloc _
                  have t6 := BoxAt.new w6 #[.int .i64 z0, .int .i64 z1] 48
                  have y7 := y6.bl al
                  have cb0 := al.cellq ca0
                  have cb1 := al.cellq ca1
                  have H57 := H56.trans al
                  have H7 := H6.trans al
                  go_upto_region 16 with fail
                  generalize w6.alloc (.cells #[.int .i64 z0, .int .i64 z1] 48) = W at *
                  obtain ⟨q0, q1⟩ : _ ∧ _ := ⟨t6.cell 0 rfl, t6.cell 1 rfl⟩
                  have ga0 := cell_regrown cb0
                  have ga1 := cell_regrown cb1
                  have gb0 := cell_regrown q0
                  have gb1 := cell_regrown q1
                  refine wp_region_quiet_below (by kernel_rfl) (by kernel_rfl) ?_
                  repeat (go_big_quiet_step (fail))
                  refine wpQuiet_nil ?_
                  intro wq hwq
                  obtain ⟨pq, rfl⟩ := hwq
                  have hbq := below_regrown W pq.d pq.os
                  go_wp2
                  go_roundw
                  case rel => exact ⟨k + 1, by omega, by omega, by go_num, y7.bl hbq, H57.trans hbq, H7.trans hbq⟩
                  case measure => simp [intOf]; omega
                · have db : decide ((k : Int) < 12) = false := by simp; omega
                  go_wp2_with fail
                  refine (awake9_any wr (hE.bl Hr)).mono ?_
                  rintro e w6 ⟨rfl, hb6⟩
                  go_wp2
                  go_ret
                  exact ⟨rfl, Hr.trans hb6⟩
              · have da : decide ((k : Int) < (L.length : Int)) = false := by simp; omega
                go_wp2_with fail
                refine (awake9_any wr (hE.bl Hr)).mono ?_
                rintro e w6 ⟨rfl, hb6⟩
                go_wp2
                go_ret
                exact ⟨rfl, Hr.trans hb6⟩
end Go.Proofs.YtelloecgdiocoaaDoor

set_option linter.unusedSimpArgs false
set_option linter.unusedVariables false
namespace Go.Proofs.YtelloecgdiocoaaDoor.fnLevelMessages
open Go.ChangeShapes Go.WideShapes Go.ChangeAt Go.RowKit Go.ChangeMaps

set_option maxRecDepth 100000 in
theorem contract (H : Type) (enc : TypeId × Value → H) (W : World) (base : Nat) (args : Array Value) (ds gs : List (DataW H)) (before : List MemPlace)
    (hval : ∀ (j : Nat) t v, Tryd.f4.params[j]? = some t → args[j]? = some v → Value.okWide Tryd.prog W .any base t v)
    (hW : DataW.Whole enc Tryd.prog Tryd.f4.params.toList Rows.levelMessagesSpec.vars false W args.toList ds gs before)
    (hsz : (DataW.weightsEach Tryd.prog (Tryd.f4.params.toList ++ (OpenSpec.ofChange Rows.levelMessagesSpec).bare.plain.varTypes Tryd.prog) (ds ++ gs)).all (· ≤ reachBytes) = true) (hE : EnvB W) :
    Calls Tryd.prog 4 args W fun e W' => ∃ v, e = .returned v ∧ Rows.levelMessagesSpec.post enc Tryd.prog Tryd.f4 false true false false W args v W' := by
  have hW' := hW
  obtain ⟨p, q, hA0, hV, rfl, hfz, hnd⟩ := hW
  have hA : DataW.TrodAll enc Tryd.prog W 0 (fun _ => true) true Tryd.f4.params.toList args.toList ds p := hA0
  rw [Tryd.params4] at hA hval hsz
  obtain ⟨v0, vs0, d0, ds0, p0, q0, hargs0, rfl, rfl, h0, r0⟩ := trodAll_cons hA
  obtain ⟨v1, vs1, d1, ds1, p1, q1, hargs1, rfl, rfl, h1, r1⟩ := trodAll_cons r0
  obtain ⟨rfl, rfl, rfl⟩ := trodAll_nil r1
  subst hargs1
  obtain rfl : args = #[v0, v1] := by cases args; simp_all
  obtain ⟨rfl, rfl⟩ := trodVars_none hV
  have hz0 : within d0 29 := fun k hk => by
    have := List.all_eq_true.1 hsz k (DataW.weights_mem_each (j := 0) (t := 29) (d := d0) rfl rfl k hk)
    exact of_decide_eq_true this
  obtain ⟨x0, hx0⟩ := open_pat (hval 0 29 v0 rfl rfl) h0 hz0
  obtain ⟨x1, rfl, rfl, rfl, wt1⟩ := open_int Tryd.underlying3 (hval 1 3 v1 rfl rfl) h1
  clear hA0 hsz hval
  refine (levelMessages_any v0 x0 x1 W hE hx0).mono fun e W' ⟨he, hb⟩ => ?_
  subst he
  exact ⟨_, rfl, post_of_below (pv := []) hW' (fun _ _ _ => trodAll_cons_mk (shut_bool Tryd.underlying4 _) trodAll_mk0) (trodAll_cons_mk (Below.trod laidOut (by kernel_rfl) (of_decide_eq_true (by kernel_rfl)) h0 hb (fun x hx => by simpa using hW'.lt x (by simp [hx]))) (trodAll_cons_mk (shut_int Tryd.underlying3 wt1) trodAll_mk0)) rfl (by simp) hb⟩

theorem laid_met (os : Os) : laidMet Tryd.prog Rows.levelMessagesRow.laid ((laidWorldN os).forCall (fun _ _ => 0) ⟨#[], #[.agg #[.string ⟨#[]⟩, .slice none 0 0, .slice none 0 0, .slice none 0 0], .int .i64 0], []⟩).memory :=
  laidMet_of_run' 12 (by kernel_rfl) (by kernel_rfl)
theorem reads (os : Os) {H : Type} (enc : TypeId × Value → H) : ∃ places, DataW.whole enc Tryd.prog ((laidWorldN os).forCall (fun _ _ => 0) ⟨#[], #[.agg #[.string ⟨#[]⟩, .slice none 0 0, .slice none 0 0, .slice none 0 0], .int .i64 0], []⟩).memory Tryd.f4.params.toList Rows.levelMessagesSpec.vars false (#[Value.agg #[.string ⟨#[]⟩, .slice none 0 0, .slice none 0 0, .slice none 0 0], Value.int .i64 0] : Array Value).toList 8 = some ([.agg [.lit (.string []), .agg [.nil, .nil], .nil], .lit (.int .i64 0)], [], places) :=
  ⟨[], by kernel_rfl⟩

set_option maxRecDepth 100000 in
theorem lifted (os : Os) (started : os.Started) (H : Type) (enc : TypeId × Value → H) (F : Stop.Interp) :
    ReturnsInHanded {} Tryd.checked os 4 .any ((OpenSpec.ofChange Rows.levelMessagesSpec).preRow enc Tryd.prog Tryd.f4 Rows.levelMessagesRow.domain false Rows.levelMessagesRow.laid) (((OpenSpec.ofChange Rows.levelMessagesSpec).at F).post enc Tryd.prog Tryd.f4 false true false false) := by
  obtain ⟨places, hx⟩ := reads os enc
  refine returnsInHanded_of_row (C := Tryd.checked) (s := OpenSpec.ofChange Rows.levelMessagesSpec) own started (by kernel_rfl) Tryd.func4
    (witness_row_atRef (enc := enc) (C := Tryd.checked) false (laidWorldN os) #[.agg #[.string ⟨#[]⟩, .slice none 0 0, .slice none 0 0, .slice none 0 0], .int .i64 0] rfl (by kernel_rfl) (by kernel_rfl) (by kernel_rfl)
      (OpenSpec.preRow_of_cond 8 hx (by kernel_rfl) (fun k hk => by cases hk) (by kernel_rfl) (laid_met os))) ?_
  intro W base args ds gs before hval hW _ _ hsz hL hE _
  exact contract H enc W base args ds gs before hval hW hsz (env_of hE hL (by unfold Rows.levelMessagesRow; simp))

theorem said : Rows.LevelMessagesSaid :=
  OpenClaim.holds_of_cond 4 Tryd.f4 rfl rfl rfl rfl rfl rfl rfl ⟨rfl, rfl, rfl, rfl, rfl⟩ rfl rfl rfl rfl rfl (by kernel_rfl) Tryd.func4 (by kernel_rfl)
    (of_decide_eq_true (by kernel_rfl)) (by unfold Func.isWrapper; first | (rw [if_pos (by decide +kernel)]; kernel_rfl) | (rw [if_neg (by decide +kernel)]; exact ⟨rfl, rfl⟩))
    (fun os started H enc _ F => by rw [OpenClaim.pre_eq_preRow]; exact lifted os started H enc F)

theorem plain (f : FuncId) (fn : Func) (hf : Tryd.pinned.checked.prog.funcNamed "undertone/undertonelaw09.LevelMessages" = some f) (hfn : Tryd.pinned.checked.prog.funcs[f]? = some fn) :
    false = Tryd.pinned.checked.prog.looks [] ∧ ∀ (j : Nat) t, fn.params[j]? = some t → Tryd.pinned.checked.prog.wantsStandIn t = false := by
  obtain rfl : f = 4 := Option.some.inj ((show Tryd.prog.funcNamed "undertone/undertonelaw09.LevelMessages" = some 4 by kernel_rfl).symm.trans hf) |>.symm
  obtain rfl : fn = Tryd.f4 := (Option.some.inj (Tryd.func4.symm.trans hfn)).symm
  refine ⟨by kernel_rfl, fun j t ht => ?_⟩
  rw [Tryd.params4] at ht
  have hm : t = 29 ∨ t = 3 := by simpa using Array.mem_of_getElem? ht
  rcases hm with rfl | rfl
  · exact (show Tryd.prog.wantsStandIn 29 = false by kernel_rfl)
  · exact (show Tryd.prog.wantsStandIn 3 = false by kernel_rfl)

theorem card : Rows.LevelMessagesCardSaid :=
  Claim7.holds_tied_plain_at .later [] _ _ _ _ said (fun _ h => by cases h) (by kernel_rfl) (fun _ h => by cases h) levelMessages_row_tie rfl ⟨rfl, rfl⟩ (by kernel_rfl) rfl plain (by kernel_rfl)
end Go.Proofs.YtelloecgdiocoaaDoor.fnLevelMessages
