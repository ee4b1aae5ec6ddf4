/- Walks: told, token.named, token.Right and its closures, Few. -/
import Derived.Test.YtelloecgdiocoaaDoorW2
set_option linter.unusedSimpArgs false
set_option linter.unusedVariables false
namespace Go.Proofs.YtelloecgdiocoaaDoor
open Go.RowKit

def toldB (l : List Int) : Bool := decide (l = []) || decide (l = [1]) || decide (l = [2]) || decide (l = [1, 2])

theorem SI.of1 (w : World) (x : Int) (T : TypeId) : SI (w.alloc (.cells #[.int .i64 x] T)) (.slice (some ⟨w.heap.size, 0, none⟩) 1 1) [x] :=
  ⟨_, _, rfl, by simp, fun j hj => ⟨w.heap.size, 0, rfl, by
    obtain rfl : j = 0 := by simp at hj; omega
    simp [go_sem]⟩⟩
theorem SI.of2 (w : World) (x y : Int) (T : TypeId) : SI (w.alloc (.cells #[.int .i64 x, .int .i64 y] T)) (.slice (some ⟨w.heap.size, 0, none⟩) 2 2) [x, y] :=
  ⟨_, _, rfl, by simp, fun j hj => ⟨w.heap.size, 0, rfl, by
    match j, hj with
    | 0, _ => simp [go_sem]
    | 1, _ => simp [go_sem]⟩⟩

set_option maxRecDepth 100000 in
set_option maxHeartbeats 400000 in
theorem told_any (v : Value) (l : List Int) (w : World) (h : SI w v l) :
    Calls Tryd.prog 60 #[v] w fun e w' => e = .returned (.bool (toldB l)) ∧ Bl w w' := by
  obtain ⟨a, c, hv, hl⟩ := h
  have h : SI w v l := ⟨a, c, hv, hl⟩
  subst hv
  go_enter Tryd.func60, Tryd.ntmps60
  by_cases h0 : l = []
  · subst h0
    go_wp2
    go_ret
    exact ⟨rfl, Bl.refl _⟩
  · have hd : ((l.length : Int) == 0) = false := by simpa using h0
    go_wp2_with fail
    refine (equal_any _ _ l [1] _ (h.bl ((Bl.refl _).alloc _)) (SI.of1 _ _ _)).mono ?_
    rintro e w1 ⟨rfl, hb1⟩
    replace hb1 := hb1.bl
    by_cases h1 : l = [1]
    · subst h1
      go_wp2
      go_ret
      exact ⟨rfl, ((Bl.refl _).alloc _).trans hb1⟩
    · have hd1 : decide (l = [1]) = false := by simpa using h1
      go_wp2_with fail
      refine (equal_any _ _ l [2] _ (h.bl ((((Bl.refl _).alloc _).trans hb1).alloc _)) (SI.of1 _ _ _)).mono ?_
      rintro e w2 ⟨rfl, hb2⟩
      replace hb2 := hb2.bl
      by_cases h2 : l = [2]
      · subst h2
        go_wp2
        go_ret
        exact ⟨rfl, ((((Bl.refl _).alloc _).trans hb1).alloc _).trans hb2⟩
      · have hd2 : decide (l = [2]) = false := by simpa using h2
        go_wp2_with fail
        refine (equal_any _ _ l [1, 2] _ (h.bl ((((((Bl.refl _).alloc _).trans hb1).alloc _).trans hb2).alloc _)) (SI.of2 _ _ _ _)).mono ?_
        rintro e w3 ⟨rfl, hb3⟩
        replace hb3 := hb3.bl
        go_wp2
        go_ret
        exact ⟨ret_bool (by simp [toldB, h0, h1, h2]), ((((((Bl.refl _).alloc _).trans hb1).alloc _).trans hb2).alloc _).trans hb3⟩

def badTok (t : Int) : Bool := decide (t < 1) || decide (7 < t)
def badMsg (m : Msg) : Bool := decide (m.who < 0) || decide (1 < m.who) || decide (m.t.length < 1) || decide (12 < m.t.length) || m.t.any badTok

set_option maxHeartbeats 400000 in
theorem right1_any (t : Int) (w : World) : Calls Tryd.prog 57 #[.int .i64 t] w fun e w' => e = .returned (.bool (badTok t)) ∧ Bl w w' := by
  go_enter Tryd.func57, Tryd.ntmps57
  go_wp2
  all_goals (go_ret; refine ⟨ret_bool ?_, Bl.refl _⟩; simp [badTok]; try omega)

theorem right1_pays (w : World) : Pays 57 #[] badTok w := by
  refine ⟨fun args W => ?_, fun x W _ => by simpa using right1_any x W⟩
  go_simp

set_option maxRecDepth 100000 in
set_option maxHeartbeats 400000 in
theorem right2_any (b : Nat) (m : Msg) (v : Value) (w : World) (h : SI w v m.t) (hc : w.cell? ⟨b, 0, none⟩ = some (.func (.func 57) #[] #[])) :
    Calls Tryd.prog 58 #[.agg #[.int .i64 m.who, v], .pointer (some ⟨b, 0, none⟩)] w fun e w' => e = .returned (.bool (badMsg m)) ∧ Bl w w' := by
  obtain ⟨a, c, hv, hl⟩ := h
  have h : SI w v m.t := ⟨a, c, hv, hl⟩
  subst hv
  have hlt := lt_of_cell hc
  obtain ⟨hl0, _⟩ := hl
  obtain ⟨who, t⟩ := m
  simp only at *
  go_enter Tryd.func58, Tryd.ntmps58
  go_wp2_with fail
  · refine (containsFunc_any _ _ badTok _ t _ (h.bl ((Bl.refl _).alloc _)) (right1_pays _)).mono ?_
    rintro e w1 ⟨rfl, hb1⟩
    go_wp2
    go_ret
    exact ⟨ret_bool (by unfold badMsg; dsimp only; generalize t.any badTok = q; rw [Bool.eq_iff_iff]; cases q <;> simp only [Bool.or_eq_true, decide_eq_true_eq, Bool.or_false, Bool.or_true, Bool.false_eq_true, or_false, or_true, iff_true, true_iff] <;> omega), ((Bl.refl _).alloc _).trans hb1⟩
  all_goals (go_ret; refine ⟨ret_bool ?_, (Bl.refl _).alloc _⟩; unfold badMsg; dsimp only; generalize t.any badTok = q; rw [Bool.eq_iff_iff]; cases q <;> simp only [Bool.or_eq_true, decide_eq_true_eq, Bool.or_false, Bool.or_true, Bool.false_eq_true, or_false, or_true, iff_true, true_iff] <;> omega)

theorem right2_pays (b : Nat) (w : World) (hc : w.cell? ⟨b, 0, none⟩ = some (.func (.func 57) #[] #[])) : PaysM 58 #[.pointer (some ⟨b, 0, none⟩)] badMsg w := by
  refine ⟨fun args W => ?_, fun m v W hb hv => by simpa using right2_any b m v W hv (hb.cellq hc)⟩
  go_simp

/-- A byte that a name may hold. -/
def okByte (c : UInt8) : Bool := (decide (97 ≤ c.toNat) && decide (c.toNat ≤ 122)) || (decide (65 ≤ c.toNat) && decide (c.toNat ≤ 90)) || (decide (48 ≤ c.toNat) && decide (c.toNat ≤ 57)) || decide (c.toNat = 43)
def namedB (s : ByteArray) : Bool := s.data.toList.all okByte && decide (1 ≤ s.size) && decide (s.size ≤ 20)

theorem all_take_step {s : ByteArray} {k : Nat} (hk : k < s.size) {p : UInt8 → Bool} (h : (s.data.toList.take k).all p = true) (h1 : p (s[k]'hk) = true) : (s.data.toList.take (k + 1)).all p = true := by
  rw [List.take_succ_eq_append_getElem (by simpa using hk)]
  simp only [List.all_append, h, Bool.true_and, List.all_cons, List.all_nil, Bool.and_true]
  exact h1
theorem not_all_at {s : ByteArray} {k : Nat} (hk : k < s.size) {p : UInt8 → Bool} (h1 : p (s[k]'hk) = false) : s.data.toList.all p = false := by
  rw [List.all_eq_false]
  exact ⟨s[k]'hk, by simp [ByteArray.getElem_eq_getElem_data], by simp [h1]⟩

set_option maxRecDepth 100000 in
set_option maxHeartbeats 1000000 in
theorem named_any (s : ByteArray) (w : World) (hs : s.size ≤ 140737488351232) :
    Calls Tryd.prog 59 #[.string s] w fun e w' => e = .returned (.bool (namedB s)) ∧ Bl w w' := by
  go_enter Tryd.func59, Tryd.ntmps59
  go_wp2
  go_loopw [4] (fun c wr => ∃ k : Nat, k ≤ s.size ∧ wr = w.iter s k ∧ Hid ((s.data.toList.take k).all okByte = true)) (fun _ wr => s.size - wr.iterPos w.heap.size)
  case atStart => exact ⟨0, by omega, rfl, by simp [Hid]⟩
  case round =>
    obtain ⟨k, hk, rfl, hpre⟩ := hrel
    by_cases hkn : k < s.size
    · by_cases hasc : (s[k]'hkn).toNat < 128
      · have hn := fun ty => run_next_ascii (P := Tryd.prog) w s k ty hkn hasc
        by_cases hok : okByte (s[k]'hkn) = true
        · have hst := all_take_step hkn hpre.out hok
          have HS : Hid ((s.data.toList.take (k + 1)).all okByte = true) := hst
          clear hst
          simp only [okByte, Bool.or_eq_true, Bool.and_eq_true, decide_eq_true_eq] at hok
          generalize hc : (s[k]'hkn).toNat = c at *
          have HC : Hid ((s[k]'hkn).toNat = c) := hc
          clear hc
          rcases hok with ((⟨h1, h2⟩ | ⟨h1, h2⟩) | ⟨h1, h2⟩) | h1
          · go_wp2
            go_roundw
            case rel => exact ⟨k + 1, by omega, rfl, HS⟩
            case measure => simp; omega
          · go_wp2
            go_roundw
            case rel => exact ⟨k + 1, by omega, rfl, HS⟩
            case measure => simp; omega
          · go_wp2
            go_roundw
            case rel => exact ⟨k + 1, by omega, rfl, HS⟩
            case measure => simp; omega
          · subst h1
            go_wp2
            go_roundw
            case rel => exact ⟨k + 1, by omega, rfl, HS⟩
            case measure => simp; omega
        · have hno : okByte (s[k]'hkn) = false := by simpa using hok
          have hfin : namedB s = false := by unfold namedB; rw [not_all_at hkn hno]; rfl
          have HF : Hid (namedB s = false) := hfin
          clear hfin
          simp only [okByte, Bool.or_eq_false_iff, Bool.and_eq_false_iff, decide_eq_false_iff_not] at hno
          generalize hc : (s[k]'hkn).toNat = c at *
          have HC : Hid ((s[k]'hkn).toNat = c) := hc
          clear hc hok
          have h43 : ((c : Int) != 43) = true := by simp; omega
          go_wp2
          all_goals first | (exfalso; omega) | skip
          all_goals go_ret
          all_goals exact ⟨ret_bool HF.out.symm, (Bl.refl _).alloc _⟩
      · have hn := fun ty => run_next_any (P := Tryd.prog) w s k ty hkn
        have hhi := (decode_high s k hkn (by omega)).1
        have hno : okByte (s[k]'hkn) = false := by simp [okByte]; omega
        have hfin : namedB s = false := by unfold namedB; rw [not_all_at hkn hno]; rfl
        have HF : Hid (namedB s = false) := hfin
        clear hfin
        generalize hd : Utf8.decode s k = d at *
        obtain ⟨r, n⟩ := d
        simp only at hhi
        have HC : Hid (Utf8.decode s k = (r, n)) := hd
        clear hd
        have h43 : ((r : Int) != 43) = true := by simp; omega
        go_wp2
        go_ret
        exact ⟨ret_bool HF.out.symm, (Bl.refl _).alloc _⟩
    · have hn := fun ty => run_next_end (P := Tryd.prog) w s k ty hkn
      have hall : s.data.toList.all okByte = true := by
        have := hpre.out
        rwa [List.take_of_length_le (by simp; omega)] at this
      have HA : Hid (s.data.toList.all okByte = true) := hall
      clear hall
      go_wp2
      all_goals (go_ret; refine ⟨ret_bool ?_, (Bl.refl _).alloc _⟩; unfold namedB; rw [HA.out]; rw [Bool.eq_iff_iff]; simp only [Bool.true_and, Bool.and_eq_true, decide_eq_true_eq, true_iff, Bool.false_eq_true, false_iff]; omega)

end Go.Proofs.YtelloecgdiocoaaDoor
