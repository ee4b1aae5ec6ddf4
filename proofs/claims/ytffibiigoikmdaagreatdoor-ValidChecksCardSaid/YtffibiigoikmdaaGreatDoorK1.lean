/- Walk: valid.Keyed. -/
import Derived.Test.YtffibiigoikmdaaGreatDoorV9
import Derived.Test.YtffibiigoikmdaaGreatDoorPsk
set_option linter.unusedSimpArgs false
set_option linter.unusedVariables false
namespace Go.Proofs.YtffibiigoikmdaaGreatDoor
open Go.RowKit Go.Sort

def kTok (mode : Bool) (t : Int) : Bool := decide (2 < t) || (decide (t = 1) && mode)
def kMsg (mode : Bool) (m : Msg) : Bool := m.t.any (kTok mode)
/-- has something a key at a message's end? -/
def keyedB (p : Pat) (msg : Int) : Bool := rightB p && decide (0 ≤ msg) && decide (msg < p.msgs.length) && ((beginS p).keyed || (p.msgs.take (msg.toNat + 1)).any (kMsg (beginS p).mode))
theorem SM.take {w : World} {a : Option Addr} {n c : Nat} {l : List Msg} (h : SM w (.slice a n c) l) (k : Nat) (hk : k ≤ l.length) : SM w (.slice a k c) (l.take k) := by
  obtain ⟨a', c', e, ⟨h1, h2⟩, hc⟩ := h
  injection e with e1 e2 e3
  subst e1 e2 e3
  have hl : (l.take k).length = k := by rw [List.length_take]; omega
  refine ⟨_, _, by rw [hl], ⟨by omega, by omega⟩, fun j hj => ?_⟩
  obtain ⟨b, o, u, e, g1, g2, g3⟩ := hc j (by omega)
  rw [List.getElem_take]
  exact ⟨b, o, u, e, g1, g2, g3⟩

set_option maxRecDepth 100000 in
theorem keyed11_any (mode : Bool) (B : Nat) (t : Int) (w : World) (hc : w.cell? ⟨B, 14, none⟩ = some (.bool mode)) :
    Calls Tryz.prog 33 #[.int .i64 t, .pointer (some ⟨B, 0, none⟩)] w fun e w' => e = .returned (.bool (kTok mode t)) ∧ Bl w w' := by
  go_enter Tryz.func33, Tryz.ntmps33
  by_cases h2 : 2 < t
  · have d2 : decide (2 < t) = true := by simpa using h2
    go_wp2
    go_ret
    exact ⟨ret_bool (by rw [kTok, d2]; rfl), Bl.refl _⟩
  · have d2 : decide (2 < t) = false := by simpa using h2
    by_cases h1 : t = 1
    · subst h1
      go_wp2
      go_ret
      exact ⟨ret_bool (by rw [kTok, d2]; rfl), Bl.refl _⟩
    · have d1 : (t == 1) = false := by simpa using h1
      go_wp2
      go_ret
      exact ⟨ret_bool (by rw [kTok, d2, decide_eq_false h1]; rfl), Bl.refl _⟩
theorem keyed11_pays (mode : Bool) (B : Nat) (w : World) (hc : w.cell? ⟨B, 14, none⟩ = some (.bool mode)) : Pays 33 #[.pointer (some ⟨B, 0, none⟩)] (kTok mode) w := by
  refine ⟨fun args W => ?_, fun x W hW => by simpa using keyed11_any mode B x W (hW.cellq hc)⟩
  go_simp
set_option maxRecDepth 100000 in
theorem keyed1_any (mode : Bool) (B : Nat) (m : Msg) (v : Value) (w : World) (hv : SI w v m.t) (hc : w.cell? ⟨B, 14, none⟩ = some (.bool mode)) :
    Calls Tryz.prog 31 #[.agg #[.int .i64 m.who, v], .pointer (some ⟨B, 0, none⟩)] w fun e w' => e = .returned (.bool (kMsg mode m)) ∧ Bl w w' := by
  obtain ⟨who, l⟩ := m
  simp only at hv
  have hv0 := hv
  obtain ⟨a, c, rfl⟩ := hv.form
  have al : Bl w (w.alloc (.cells #[.int .i64 who, .slice a l.length c] 39)) := (Bl.refl w).alloc _
  go_enter Tryz.func31, Tryz.ntmps31
  go_wp2_with fail
  refine (containsFunc_any 33 #[.pointer (some ⟨B, 0, none⟩)] (kTok mode) _ l _ (hv0.bl al) (keyed11_pays mode B _ (al.cellq hc))).mono ?_
  rintro e w1 ⟨rfl, hb1⟩
  go_wp2
  go_ret
  exact ⟨ret_bool rfl, al.trans hb1⟩
theorem keyed1_pays (mode : Bool) (B : Nat) (w : World) (hc : w.cell? ⟨B, 14, none⟩ = some (.bool mode)) : PaysM 31 #[.pointer (some ⟨B, 0, none⟩)] (kMsg mode) w := by
  refine ⟨fun args W => ?_, fun m v W hW hv => by simpa using keyed1_any mode B m v W hv (hW.cellq hc)⟩
  go_simp

set_option maxRecDepth 100000 in
set_option maxHeartbeats 4000000 in
theorem keyed_any (v : Value) (p : Pat) (msg : Int) (w : World) (h : SP w v p) :
    Calls Tryz.prog 12 #[v, .int .i64 msg] w fun e w' => e = .returned (.bool (keyedB p msg)) ∧ Bl w w' := by
  have hv := h
  have HK : Hid (keyedB p msg = (rightB p && decide (0 ≤ msg) && decide (msg < p.msgs.length) && ((beginS p).keyed || (p.msgs.take (msg.toNat + 1)).any (kMsg (beginS p).mode)))) := Lib.hid rfl
  have HT := Lib.hid (fun h : rightB p = true => right_parts h)
  have cR := fun u w h => rightBB_any u p w h _ rfl
  have cB := fun u w h h0 h1 => begin_any u p w h h0 h1
  obtain ⟨v0, v1, vm, rfl, hn, h0, h1, hm⟩ := h
  obtain ⟨a0, c0, rfl⟩ := h0.form
  obtain ⟨a1, c1, rfl⟩ := h1.form
  obtain ⟨am, cm, rfl, hcap⟩ := hm.formc
  clear h0 h1
  have hlm := hm.len
  have x := BoxAt.new w #[.string p.name, .slice a0 p.pre0.length c0, .slice a1 p.pre1.length c1, .slice am p.msgs.length cm] 26
  have H : Bl w (w.alloc (.cells #[.string p.name, .slice a0 p.pre0.length c0, .slice a1 p.pre1.length c1, .slice am p.msgs.length cm] 26)) := (Bl.refl w).alloc _
  generalize keyedB p msg = R at *
  generalize hrb : rightB p = rb at *
  clear hrb
  go_enter Tryz.func12, Tryz.ntmps12
  go_wp2_with fail
  refine (cR _ _ (hv.bl H)).mono ?_
  rintro e w1 ⟨rfl, hb1⟩
  have x1 := x.bl hb1
  have H1 := H.trans hb1
  clear x H hb1 cR
  obtain ⟨g0, g1, g2, g3⟩ : _ ∧ _ ∧ _ ∧ _ := ⟨x1.cell 0 rfl, x1.cell 1 rfl, x1.cell 2 rfl, x1.cell 3 rfl⟩
  cases rb
  · go_wp2
    go_ret
    exact ⟨ret_bool (by rw [HK.out]; rfl), H1⟩
  · by_cases hm0 : msg < 0
    · have d0 : decide (msg < 0) = true := by simpa using hm0
      have d0' : decide (0 ≤ msg) = false := by rw [decide_eq_false_iff_not]; omega
      have HR : Hid (R = false) := Lib.hid (by rw [HK.out, d0']; rfl)
      clear d0'
      go_wp2
      go_ret
      exact ⟨ret_bool (by rw [HR.out]), H1⟩
    · have d0 : decide (msg < 0) = false := by simpa using hm0
      by_cases hml : (p.msgs.length : Int) ≤ msg
      · have d1 : decide ((p.msgs.length : Int) ≤ msg) = true := by simpa using hml
        have d1' : decide (msg < (p.msgs.length : Int)) = false := by rw [decide_eq_false_iff_not]; omega
        have HR : Hid (R = false) := Lib.hid (by rw [HK.out, d1']; simp)
        clear d1'
        go_wp2
        go_ret
        exact ⟨ret_bool (by rw [HR.out]), H1⟩
      · have d1 : decide ((p.msgs.length : Int) ≤ msg) = false := by simpa using hml
        obtain ⟨k, rfl⟩ : ∃ k : Nat, msg = (k : Int) := ⟨msg.toNat, by omega⟩
        have hk : k < p.msgs.length := by omega
        obtain ⟨t0, t1, _, _, _⟩ := HT.out (by trivial)
        have HR : Hid (R = ((beginS p).keyed || (p.msgs.take (k + 1)).any (kMsg (beginS p).mode))) := Lib.hid (by
          rw [HK.out, show decide (0 ≤ (k : Int)) = true by simp, show decide ((k : Int) < (p.msgs.length : Int)) = true by simp; omega]
          rfl)
        have HT0 := Lib.hid t0
        have HT1 := Lib.hid t1
        clear t0 t1 HK HT
        have cB2 := cB _ w1 (hv.bl H1) HT0.out HT1.out
        clear cB
        generalize beginS p = s at *
        obtain ⟨z0, e0, s0, z1, e1, s1, m0, m1, m2, m3, m4, m5, m6, m7, mode, keyed⟩ := s
        simp only [stV] at cB2
        go_wp2_with fail
        refine cB2.mono ?_
        rintro e w2 ⟨rfl, hb2⟩
        have al : Bl w2 (w2.alloc (.cells #[.bool z0, .bool e0, .bool s0, .bool z1, .bool e1, .bool s1, .bool m0, .bool m1, .bool m2, .bool m3, .bool m4, .bool m5, .bool m6, .bool m7, .bool mode, .bool keyed] 47)) := (Bl.refl w2).alloc _
        have y := BoxAt.new w2 #[.bool z0, .bool e0, .bool s0, .bool z1, .bool e1, .bool s1, .bool m0, .bool m1, .bool m2, .bool m3, .bool m4, .bool m5, .bool m6, .bool m7, .bool mode, .bool keyed] 47
        have x3 := (x1.bl hb2).bl al
        have H3 := (H1.trans hb2).trans al
        have yk := y.cell 15 rfl
        have ym := y.cell 14 rfl
        have hm3 := (hm.bl H3).take (k + 1) (by omega)
        clear g0 g1 g2 g3 x1 cB2
        go_upto_region 4 with fail
        generalize w2.alloc (.cells #[.bool z0, .bool e0, .bool s0, .bool z1, .bool e1, .bool s1, .bool m0, .bool m1, .bool m2, .bool m3, .bool m4, .bool m5, .bool m6, .bool m7, .bool mode, .bool keyed] 47) = W at *
        obtain ⟨g0, g1, g2, g3⟩ : _ ∧ _ ∧ _ ∧ _ := ⟨x3.cell 0 rfl, x3.cell 1 rfl, x3.cell 2 rfl, x3.cell 3 rfl⟩
        cases keyed
        · have hw1 : IntKind.i64.wrap ((k : Int) + 1) = ((k + 1 : Nat) : Int) := (IntWalk.i64_in _ (by omega)).trans (by omega)
          have hl1 : ((k + 1 : Nat) : Int) ≤ (p.msgs.length : Int) := by omega
          have hl2 : (p.msgs.length : Int) ≤ (cm : Int) := by omega
          have hl3 : (0 : Int) ≤ ((k + 1 : Nat) : Int) := by omega
          have hl4 : ((k + 1 : Nat) : Int) ≤ (cm : Int) := by omega
          go_wp2_with fail
          refine (containsFuncM_any 31 #[.pointer (some ⟨w2.heap.size, 0, none⟩)] (kMsg mode) _ (p.msgs.take (k + 1)) _ hm3 (keyed1_pays mode w2.heap.size _ ym)).mono ?_
          rintro e w4 ⟨rfl, hb4⟩
          go_wp2
          go_ret
          exact ⟨ret_bool (by rw [HR.out]; rfl), H3.trans hb4⟩
        · go_wp2
          go_ret
          exact ⟨ret_bool (by rw [HR.out]; rfl), H3⟩
end Go.Proofs.YtffibiigoikmdaaGreatDoor
