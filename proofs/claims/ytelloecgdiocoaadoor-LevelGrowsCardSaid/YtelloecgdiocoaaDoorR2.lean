/- Walks: undertoneref07.Told, Mode, Key. -/
import Derived.Test.YtelloecgdiocoaaDoorR1
set_option linter.unusedSimpArgs false
set_option linter.unusedVariables false
namespace Go.Proofs.YtelloecgdiocoaaDoor
open Go.RowKit Go.Sort

theorem BoxAt.cells4 {w : World} {B : Nat} {a b c d : Value} {T : TypeId} (h : BoxAt w B [a, b, c, d] T) :
    w.cell? ⟨B, 0, none⟩ = some a ∧ w.cell? ⟨B, 1, none⟩ = some b ∧ w.cell? ⟨B, 2, none⟩ = some c ∧ w.cell? ⟨B, 3, none⟩ = some d :=
  ⟨h.cell 0 rfl, h.cell 1 rfl, h.cell 2 rfl, h.cell 3 rfl⟩

theorem metZ_any (v : Value) (p : Pat) (w : World) (h : SP w v p) (hs : Small p) (who t msg at' : Int) (hmsg : 0 ≤ msg) (hat : 0 ≤ at') (hz : decide (0 < met1 (aheadL p msg.toNat at'.toNat) who t) = false) :
    Calls Tryd.prog 77 #[v, .int .i64 who, .int .i64 t, .int .i64 msg, .int .i64 at'] w fun e w' => e = .returned (.int .i64 0) ∧ Bl w w' := by
  refine (met_any v p w h hs who t msg at' hmsg hat).mono fun e w' hh => ?_
  rw [show met1 (aheadL p msg.toNat at'.toNat) who t = 0 by have := of_decide_eq_false hz; omega] at hh
  exact hh
theorem metP_any (v : Value) (p : Pat) (w : World) (h : SP w v p) (hs : Small p) (who t msg at' : Int) (hmsg : 0 ≤ msg) (hat : 0 ≤ at') (hz : decide (0 < met1 (aheadL p msg.toNat at'.toNat) who t) = true) :
    Calls Tryd.prog 77 #[v, .int .i64 who, .int .i64 t, .int .i64 msg, .int .i64 at'] w fun e w' => ∃ n : Nat, e = .returned (.int .i64 n) ∧ 0 < n ∧ Bl w w' := by
  refine (met_any v p w h hs who t msg at' hmsg hat).mono fun e w' hh => ?_
  exact ⟨_, hh.1, of_decide_eq_true hz, hh.2⟩

theorem not_has_snoc {l : List Int} {t : Int} {k : Nat} (hk : k < l.length) (h : t ∉ l.take k) (hn : l[k] ≠ t) : t ∉ l.take (k + 1) := by
  rw [List.take_succ_eq_append_getElem hk]
  simp only [List.mem_append, List.mem_singleton, not_or]
  exact ⟨h, fun e => hn e.symm⟩

set_option maxRecDepth 100000 in
set_option maxHeartbeats 4000000 in
theorem told0_any (v : Value) (p : Pat) (w : World) (h : SP w v p) (hs : Small p) (t msg at' : Int) (hmsg : 0 ≤ msg) (hat : 0 ≤ at') :
    Calls Tryd.prog 76 #[v, .int .i64 0, .int .i64 t, .int .i64 msg, .int .i64 at'] w fun e w' => e = .returned (.bool (told1 p (aheadL p msg.toNat at'.toNat) 0 t)) ∧ Bl w w' := by
  have hv := h
  have HT : Hid (told1 p (aheadL p msg.toNat at'.toNat) 0 t = (p.pre0.contains t || decide (0 < met1 (aheadL p msg.toNat at'.toNat) 0 t))) := Lib.hid rfl
  obtain ⟨v0, v1, vm, rfl, hn, h0, h1, hm⟩ := h
  obtain ⟨a0, c0, rfl⟩ := h0.form
  obtain ⟨a1, c1, rfl⟩ := h1.form
  obtain ⟨am, cm, rfl⟩ := hm.form
  have hl := h0.len
  go_enter Tryd.func76, Tryd.ntmps76
  have y := BoxAt.new w #[.string p.name, .slice a0 p.pre0.length c0, .slice a1 p.pre1.length c1, .slice am p.msgs.length cm] 43
  have H : Bl w (w.alloc (.cells #[.string p.name, .slice a0 p.pre0.length c0, .slice a1 p.pre1.length c1, .slice am p.msgs.length cm] 43)) := (Bl.refl w).alloc _
  go_wp2
  generalize w.alloc (.cells #[.string p.name, .slice a0 p.pre0.length c0, .slice a1 p.pre1.length c1, .slice am p.msgs.length cm] 43) = W at y H ⊢
  have h0W := h0.bl H
  go_loopw [11] (fun i wr => ∃ k : Nat, k ≤ p.pre0.length ∧ i = .int .i64 k ∧ Hid (t ∉ p.pre0.take k) ∧ wr = W) (fun i _ => p.pre0.length - (intOf i).toNat)
  case atStart => exact ⟨0, by omega, rfl, Lib.hid (by simp), rfl⟩
  case round =>
    obtain ⟨k, hk, rfl, HNO, rfl⟩ := hrel
    obtain ⟨g0, g1, g2, g3⟩ := y.cells4
    by_cases hkn : k < p.pre0.length
    · obtain ⟨b', o', e', hct⟩ : ∃ b' o', a0 = some ⟨b', o', none⟩ ∧ wr.cell? ⟨b', o' + k, none⟩ = some (.int .i64 p.pre0[k]) := by
        obtain ⟨a', c', e, _, hc⟩ := h0W
        injection e with e1 _ _
        obtain ⟨b', o', e2, h2⟩ := hc k hkn
        exact ⟨b', o', e1.trans e2, h2⟩
      subst e'
      have HX : Hid (p.pre0[k] = t → told1 p (aheadL p msg.toNat at'.toNat) 0 t = true) := Lib.hid (fun e => by
        rw [HT.out, Bool.or_eq_true]
        exact .inl (by simp only [List.contains_eq_mem, decide_eq_true_eq]; rw [← e]; exact List.getElem_mem hkn))
      have HY : Hid (p.pre0[k] ≠ t → t ∉ p.pre0.take (k + 1)) := Lib.hid (fun e => not_has_snoc hkn HNO.out e)
      generalize p.pre0[k] = x at *
      by_cases hx : x = t
      · have d : (x == t) = true := by simp [hx]
        have HR := Lib.hid (HX.out hx)
        clear hx HX HY
        go_wp2
        go_ret
        exact ⟨ret_bool (by rw [HR.out]), H⟩
      · have d : (x == t) = false := by simp [hx]
        have HR := Lib.hid (HY.out hx)
        clear hx HX HY
        go_wp2
        go_roundw
        case rel => exact ⟨k + 1, by omega, by go_num, HR, by trivial⟩
        case measure => simp [intOf]; omega
    · have HR : Hid (told1 p (aheadL p msg.toNat at'.toNat) 0 t = decide (0 < met1 (aheadL p msg.toNat at'.toNat) 0 t)) := Lib.hid (by
        have := HNO.out
        rw [List.take_of_length_le (by omega)] at this
        rw [HT.out]
        simp [this])
      go_wp2_with fail
      refine (met_any _ p _ (hv.bl H) hs 0 t msg at' hmsg hat).mono ?_
      rintro e w1 ⟨rfl, hb1⟩
      go_wp2
      go_ret
      exact ⟨ret_bool (by first | (rw [HR.out]; done) | (rw [HR.out]; simp)), H.trans hb1⟩
set_option maxRecDepth 100000 in
set_option maxHeartbeats 4000000 in
theorem told1_any (v : Value) (p : Pat) (w : World) (h : SP w v p) (hs : Small p) (t msg at' : Int) (hmsg : 0 ≤ msg) (hat : 0 ≤ at') :
    Calls Tryd.prog 76 #[v, .int .i64 1, .int .i64 t, .int .i64 msg, .int .i64 at'] w fun e w' => e = .returned (.bool (told1 p (aheadL p msg.toNat at'.toNat) 1 t)) ∧ Bl w w' := by
  have hv := h
  have HT : Hid (told1 p (aheadL p msg.toNat at'.toNat) 1 t = (p.pre1.contains t || decide (0 < met1 (aheadL p msg.toNat at'.toNat) 1 t))) := Lib.hid rfl
  obtain ⟨v0, v1, vm, rfl, hn, h0, h1, hm⟩ := h
  obtain ⟨a0, c0, rfl⟩ := h0.form
  obtain ⟨a1, c1, rfl⟩ := h1.form
  obtain ⟨am, cm, rfl⟩ := hm.form
  have hl := h1.len
  go_enter Tryd.func76, Tryd.ntmps76
  have y := BoxAt.new w #[.string p.name, .slice a0 p.pre0.length c0, .slice a1 p.pre1.length c1, .slice am p.msgs.length cm] 43
  have H : Bl w (w.alloc (.cells #[.string p.name, .slice a0 p.pre0.length c0, .slice a1 p.pre1.length c1, .slice am p.msgs.length cm] 43)) := (Bl.refl w).alloc _
  go_wp2
  generalize w.alloc (.cells #[.string p.name, .slice a0 p.pre0.length c0, .slice a1 p.pre1.length c1, .slice am p.msgs.length cm] 43) = W at y H ⊢
  have h0W := h1.bl H
  go_loopw [11] (fun i wr => ∃ k : Nat, k ≤ p.pre1.length ∧ i = .int .i64 k ∧ Hid (t ∉ p.pre1.take k) ∧ wr = W) (fun i _ => p.pre1.length - (intOf i).toNat)
  case atStart => exact ⟨0, by omega, rfl, Lib.hid (by simp), rfl⟩
  case round =>
    obtain ⟨k, hk, rfl, HNO, rfl⟩ := hrel
    obtain ⟨g0, g1, g2, g3⟩ := y.cells4
    by_cases hkn : k < p.pre1.length
    · obtain ⟨b', o', e', hct⟩ : ∃ b' o', a1 = some ⟨b', o', none⟩ ∧ wr.cell? ⟨b', o' + k, none⟩ = some (.int .i64 p.pre1[k]) := by
        obtain ⟨a', c', e, _, hc⟩ := h0W
        injection e with e1 _ _
        obtain ⟨b', o', e2, h2⟩ := hc k hkn
        exact ⟨b', o', e1.trans e2, h2⟩
      subst e'
      have HX : Hid (p.pre1[k] = t → told1 p (aheadL p msg.toNat at'.toNat) 1 t = true) := Lib.hid (fun e => by
        rw [HT.out, Bool.or_eq_true]
        exact .inl (by simp only [List.contains_eq_mem, decide_eq_true_eq]; rw [← e]; exact List.getElem_mem hkn))
      have HY : Hid (p.pre1[k] ≠ t → t ∉ p.pre1.take (k + 1)) := Lib.hid (fun e => not_has_snoc hkn HNO.out e)
      generalize p.pre1[k] = x at *
      by_cases hx : x = t
      · have d : (x == t) = true := by simp [hx]
        have HR := Lib.hid (HX.out hx)
        clear hx HX HY
        go_wp2
        go_ret
        exact ⟨ret_bool (by rw [HR.out]), H⟩
      · have d : (x == t) = false := by simp [hx]
        have HR := Lib.hid (HY.out hx)
        clear hx HX HY
        go_wp2
        go_roundw
        case rel => exact ⟨k + 1, by omega, by go_num, HR, by trivial⟩
        case measure => simp [intOf]; omega
    · have HR : Hid (told1 p (aheadL p msg.toNat at'.toNat) 1 t = decide (0 < met1 (aheadL p msg.toNat at'.toNat) 1 t)) := Lib.hid (by
        have := HNO.out
        rw [List.take_of_length_le (by omega)] at this
        rw [HT.out]
        simp [this])
      go_wp2_with fail
      refine (met_any _ p _ (hv.bl H) hs 1 t msg at' hmsg hat).mono ?_
      rintro e w1 ⟨rfl, hb1⟩
      go_wp2
      go_ret
      exact ⟨ret_bool (by first | (rw [HR.out]; done) | (rw [HR.out]; simp)), H.trans hb1⟩

theorem told_any' (v : Value) (p : Pat) (w : World) (h : SP w v p) (hs : Small p) (who t msg at' : Int) (hw : who = 0 ∨ who = 1) (hmsg : 0 ≤ msg) (hat : 0 ≤ at') :
    Calls Tryd.prog 76 #[v, .int .i64 who, .int .i64 t, .int .i64 msg, .int .i64 at'] w fun e w' => e = .returned (.bool (told1 p (aheadL p msg.toNat at'.toNat) who t)) ∧ Bl w w' := by
  rcases hw with rfl | rfl
  · exact told0_any v p w h hs t msg at' hmsg hat
  · exact told1_any v p w h hs t msg at' hmsg hat

set_option maxHeartbeats 1000000 in
theorem mode_any (v : Value) (p : Pat) (w : World) (h : SP w v p) (hs : Small p) :
    Calls Tryd.prog 78 #[v] w fun e w' => e = .returned (.bool (mode1 p)) ∧ Bl w w' := by
  have hv := h
  obtain ⟨v0, v1, vm, rfl, hn, h0, h1, hm⟩ := h
  obtain ⟨a0, c0, rfl⟩ := h0.form
  obtain ⟨a1, c1, rfl⟩ := h1.form
  obtain ⟨am, cm, rfl⟩ := hm.form
  have H : Bl w (w.alloc (.cells #[.string p.name, .slice a0 p.pre0.length c0, .slice a1 p.pre1.length c1, .slice am p.msgs.length cm] 43)) := (Bl.refl w).alloc _
  go_enter Tryd.func78, Tryd.ntmps78
  go_wp2_with fail
  refine (met_any _ p _ (hv.bl H) hs 2 7 99 0 (by omega) (by omega)).mono ?_
  rintro e w1 ⟨rfl, hb1⟩
  go_wp2
  go_ret
  exact ⟨ret_bool (by simp [mode1]), H.trans hb1⟩

def noKey (L : List (Int × Int)) (j : Nat) : Prop := ∀ u : Nat, u < j → met1 L 2 (3 + u) = 0
theorem noKey_any {L : List (Int × Int)} (h : noKey L 5) : anyKey L = false := by
  have h0 := h 0 (by omega)
  have h1 := h 1 (by omega)
  have h2 := h 2 (by omega)
  have h3 := h 3 (by omega)
  have h4 := h 4 (by omega)
  have e0 : met1 L 2 3 = 0 := h0
  have e1 : met1 L 2 4 = 0 := h1
  have e2 : met1 L 2 5 = 0 := h2
  have e3 : met1 L 2 6 = 0 := h3
  have e4 : met1 L 2 7 = 0 := h4
  simp [anyKey, e0, e1, e2, e3, e4]
theorem key_yes {L : List (Int × Int)} {j : Nat} (hj : j < 5) (h : 0 < met1 L 2 (3 + j)) : anyKey L = true := by
  have hh : j = 0 ∨ j = 1 ∨ j = 2 ∨ j = 3 ∨ j = 4 := by omega
  rcases hh with rfl | rfl | rfl | rfl | rfl
  · have e : 0 < met1 L 2 3 := h
    simp [anyKey, e]
  · have e : 0 < met1 L 2 4 := h
    simp [anyKey, e]
  · have e : 0 < met1 L 2 5 := h
    simp [anyKey, e]
  · have e : 0 < met1 L 2 6 := h
    simp [anyKey, e]
  · have e : 0 < met1 L 2 7 := h
    simp [anyKey, e]

set_option maxRecDepth 100000 in
set_option maxHeartbeats 4000000 in
theorem key_any (v : Value) (p : Pat) (w : World) (h : SP w v p) (hs : Small p) (msg at' : Int) (hmsg : 0 ≤ msg) (hat : 0 ≤ at') :
    Calls Tryd.prog 47 #[v, .int .i64 msg, .int .i64 at'] w fun e w' => e = .returned (.bool (key1 p (aheadL p msg.toNat at'.toNat))) ∧ Bl w w' := by
  have hv := h
  have HK : Hid (key1 p (aheadL p msg.toNat at'.toNat) = (anyKey (aheadL p msg.toNat at'.toNat) || (mode1 p && (told1 p (aheadL p msg.toNat at'.toNat) 0 1 || told1 p (aheadL p msg.toNat at'.toNat) 1 1)))) := Lib.hid rfl
  obtain ⟨v0, v1, vm, rfl, hn, h0, h1, hm⟩ := h
  obtain ⟨a0, c0, rfl⟩ := h0.form
  obtain ⟨a1, c1, rfl⟩ := h1.form
  obtain ⟨am, cm, rfl⟩ := hm.form
  clear h0 h1 hm
  go_enter Tryd.func47, Tryd.ntmps47
  have y := BoxAt.new w #[.string p.name, .slice a0 p.pre0.length c0, .slice a1 p.pre1.length c1, .slice am p.msgs.length cm] 43
  have H : Bl w (w.alloc (.cells #[.string p.name, .slice a0 p.pre0.length c0, .slice a1 p.pre1.length c1, .slice am p.msgs.length cm] 43)) := (Bl.refl w).alloc _
  go_wp2
  generalize w.alloc (.cells #[.string p.name, .slice a0 p.pre0.length c0, .slice a1 p.pre1.length c1, .slice am p.msgs.length cm] 43) = W at y H ⊢
  go_loopw [7] (fun i wr => ∃ k : Nat, k ≤ 5 ∧ i = .int .i64 (3 + k) ∧ Hid (noKey (aheadL p msg.toNat at'.toNat) k) ∧ BoxAt wr w.heap.size [.string p.name, .slice a0 p.pre0.length c0, .slice a1 p.pre1.length c1, .slice am p.msgs.length cm] 43 ∧ Bl w wr) (fun i _ => 10 - (intOf i).toNat)
  case atStart => exact ⟨0, by omega, rfl, Lib.hid (fun u hu => by omega), y, H⟩
  case round =>
    obtain ⟨k, hk, rfl, HNK, yr, Hr⟩ := hrel
    obtain ⟨g0, g1, g2, g3⟩ := yr.cells4
    by_cases hk5 : k < 5
    · cases hz : decide (0 < met1 (aheadL p msg.toNat at'.toNat) 2 (3 + k))
      · have HZ := Lib.hid hz
        clear hz
        go_wp2_with fail
        refine (metZ_any _ p _ (hv.bl Hr) hs 2 (3 + k) msg at' hmsg hat HZ.out).mono ?_
        rintro e w1 ⟨rfl, hb1⟩
        have HN : Hid (noKey (aheadL p msg.toNat at'.toNat) (k + 1)) := Lib.hid (fun u hu => by
          by_cases hu2 : u < k
          · exact HNK.out u hu2
          · obtain rfl : u = k := by omega
            have := of_decide_eq_false HZ.out
            omega)
        go_wp2
        go_roundw
        case rel => exact ⟨k + 1, by omega, by go_num, HN, yr.bl hb1, Hr.trans hb1⟩
        case measure => simp [intOf]; omega
      · have HZ := Lib.hid hz
        clear hz
        go_wp2_with fail
        refine (metP_any _ p _ (hv.bl Hr) hs 2 (3 + k) msg at' hmsg hat HZ.out).mono ?_
        rintro e w1 ⟨n, rfl, hn0, hb1⟩
        have HR : Hid (key1 p (aheadL p msg.toNat at'.toNat) = true) := Lib.hid (by rw [HK.out, key_yes hk5 (of_decide_eq_true HZ.out)]; rfl)
        clear HK
        go_wp2
        go_ret
        exact ⟨ret_bool (by rw [HR.out]), Hr.trans hb1⟩
    · obtain rfl : k = 5 := by omega
      have HN := Lib.hid (noKey_any HNK.out)
      have HR : Hid (key1 p (aheadL p msg.toNat at'.toNat) = (mode1 p && (told1 p (aheadL p msg.toNat at'.toNat) 0 1 || told1 p (aheadL p msg.toNat at'.toNat) 1 1))) := Lib.hid (by rw [HK.out, HN.out]; rfl)
      clear HK HN HNK
      go_wp2_with fail
      refine (mode_any _ p _ (hv.bl Hr) hs).mono ?_
      rintro e w1 ⟨rfl, hb1⟩
      have y1 := yr.bl hb1
      have H1 := Hr.trans hb1
      clear g0 g1 g2 g3
      obtain ⟨g0, g1, g2, g3⟩ := y1.cells4
      cases hmo : mode1 p
      · have HM : Hid (key1 p (aheadL p msg.toNat at'.toNat) = false) := Lib.hid (by rw [HR.out, hmo]; rfl)
        clear HR hmo
        go_wp2
        go_ret
        exact ⟨ret_bool (by rw [HM.out]), H1⟩
      · have HM : Hid (key1 p (aheadL p msg.toNat at'.toNat) = (told1 p (aheadL p msg.toNat at'.toNat) 0 1 || told1 p (aheadL p msg.toNat at'.toNat) 1 1)) := Lib.hid (by rw [HR.out, hmo]; rfl)
        clear HR hmo
        go_wp2_with fail
        refine (told0_any _ p _ (hv.bl H1) hs 1 msg at' hmsg hat).mono ?_
        rintro e w2 ⟨rfl, hb2⟩
        have y2 := y1.bl hb2
        have H2 := H1.trans hb2
        clear g0 g1 g2 g3
        obtain ⟨g0, g1, g2, g3⟩ := y2.cells4
        cases hto : told1 p (aheadL p msg.toNat at'.toNat) 0 1
        · have HQ : Hid (key1 p (aheadL p msg.toNat at'.toNat) = told1 p (aheadL p msg.toNat at'.toNat) 1 1) := Lib.hid (by rw [HM.out, hto]; rfl)
          clear HM hto
          go_wp2_with fail
          refine (told1_any _ p _ (hv.bl H2) hs 1 msg at' hmsg hat).mono ?_
          rintro e w3 ⟨rfl, hb3⟩
          go_wp2
          go_ret
          exact ⟨ret_bool (by rw [HQ.out]), H2.trans hb3⟩
        · have HQ : Hid (key1 p (aheadL p msg.toNat at'.toNat) = true) := Lib.hid (by rw [HM.out, hto]; rfl)
          clear HM hto
          go_wp2
          go_ret
          exact ⟨ret_bool (by rw [HQ.out]), H2⟩
end Go.Proofs.YtelloecgdiocoaaDoor
