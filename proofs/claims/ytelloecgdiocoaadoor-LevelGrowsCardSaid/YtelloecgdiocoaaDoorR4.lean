/- Walks: undertoneref07.one. -/
import Derived.Test.YtelloecgdiocoaaDoorR3
set_option linter.unusedSimpArgs false
set_option linter.unusedVariables false
namespace Go.Proofs.YtelloecgdiocoaaDoor
open Go.RowKit Go.Sort

theorem toldN_any (v : Value) (p : Pat) (w : World) (h : SP w v p) (hs : Small p) (who t : Int) (i k : Nat) (hw : who = 0 ∨ who = 1) :
    Calls Tryd.prog 76 #[v, .int .i64 who, .int .i64 t, .int .i64 i, .int .i64 k] w fun e w' => e = .returned (.bool (told1 p (aheadL p i k) who t)) ∧ Bl w w' :=
  told_any' v p w h hs who t i k hw (by omega) (by omega)
theorem keyN_any (v : Value) (p : Pat) (w : World) (h : SP w v p) (hs : Small p) (i k : Nat) :
    Calls Tryd.prog 47 #[v, .int .i64 i, .int .i64 k] w fun e w' => e = .returned (.bool (key1 p (aheadL p i k))) ∧ Bl w w' :=
  key_any v p w h hs i k (by omega) (by omega)
theorem refSealN_any (v : Value) (p : Pat) (w : World) (h : SP w v p) (hs : Small p) (who : Int) (i k : Nat) (hw : who = 0 ∨ who = 1) :
    Calls Tryd.prog 48 #[v, .int .i64 who, .int .i64 i, .int .i64 k] w fun e w' => e = .returned (.int .i64 (seal1 p (aheadL p i k) who)) ∧ Bl w w' :=
  refSeal_any v p w h hs who i k hw (by omega) (by omega)
theorem metZN_any (v : Value) (p : Pat) (w : World) (h : SP w v p) (hs : Small p) (who t : Int) (i k : Nat) (hz : decide (0 < met1 (aheadL p i k) who t) = false) :
    Calls Tryd.prog 77 #[v, .int .i64 who, .int .i64 t, .int .i64 i, .int .i64 k] w fun e w' => e = .returned (.int .i64 0) ∧ Bl w w' :=
  metZ_any v p w h hs who t i k (by omega) (by omega) hz
theorem metPN_any (v : Value) (p : Pat) (w : World) (h : SP w v p) (hs : Small p) (who t : Int) (i k : Nat) (hz : decide (0 < met1 (aheadL p i k) who t) = true) :
    Calls Tryd.prog 77 #[v, .int .i64 who, .int .i64 t, .int .i64 i, .int .i64 k] w fun e w' => ∃ n : Nat, e = .returned (.int .i64 n) ∧ 0 < n ∧ Bl w w' :=
  metP_any v p w h hs who t i k (by omega) (by omega) hz

set_option maxRecDepth 100000 in
set_option maxHeartbeats 8000000 in
theorem one_any (v : Value) (p : Pat) (w : World) (h : SP w v p) (hs : Small p) (i k : Nat) (who T : Int) (l : List Int) (hi : p.msgs[i]? = some ⟨who, l⟩) (hk : l[k]? = some T) (hw : who = 0 ∨ who = 1) (h1 : 1 ≤ T) (h7 : T ≤ 7) :
    Calls Tryd.prog 46 #[v, .int .i64 i, .int .i64 k] w fun e w' => e = .returned (.int .i64 (one1 p (aheadL p i k) who T)) ∧ Bl w w' := by
  have hv := h
  obtain ⟨v0, v1, vm, rfl, hn, h0, h1', hm⟩ := h
  obtain ⟨a0, c0, rfl⟩ := h0.form
  obtain ⟨a1, c1, rfl⟩ := h1'.form
  obtain ⟨am, cm, rfl⟩ := hm.form
  clear h0 h1'
  have y0 := BoxAt.new w #[.string p.name, .slice a0 p.pre0.length c0, .slice a1 p.pre1.length c1, .slice am p.msgs.length cm] 43
  have H0 : Bl w (w.alloc (.cells #[.string p.name, .slice a0 p.pre0.length c0, .slice a1 p.pre1.length c1, .slice am p.msgs.length cm] 43)) := (Bl.refl w).alloc _
  obtain ⟨hil, hie⟩ := List.getElem?_eq_some_iff.1 hi
  obtain ⟨hkl, hke⟩ := List.getElem?_eq_some_iff.1 hk
  obtain ⟨b, o, u, rfl, hca, hcb, hu⟩ := (hm.bl H0).at i hil
  rw [hie] at hca hu
  simp only at hca hu
  obtain ⟨ua, uc, rfl⟩ := hu.form
  obtain ⟨b', o', rfl, hct⟩ : ∃ b' o', ua = some ⟨b', o', none⟩ ∧ (w.alloc (.cells #[.string p.name, .slice a0 p.pre0.length c0, .slice a1 p.pre1.length c1, .slice (some ⟨b, o, none⟩) p.msgs.length cm] 43)).cell? ⟨b', o' + k, none⟩ = some (.int .i64 T) := by
    obtain ⟨a', c', e, _, hc⟩ := hu
    injection e with e1 _ _
    obtain ⟨b', o', e2, h2⟩ := hc k hkl
    exact ⟨b', o', e1.trans e2, by rw [h2, hke]⟩
  have hlk : k < l.length := hkl
  clear hi hk hie hke hu
  go_enter Tryd.func46, Tryd.ntmps46
  go_upto_region 3 with fail
  generalize w.alloc (.cells #[.string p.name, .slice a0 p.pre0.length c0, .slice a1 p.pre1.length c1, .slice (some ⟨b, o, none⟩) p.msgs.length cm] 43) = W at y0 H0 hca hcb hct ⊢
  obtain ⟨g0, g1, g2, g3⟩ := y0.cells4
  rcases tok_cases h1 h7 with rfl | rfl | rfl | rfl | rfl | rfl | rfl
  · have HE := Lib.hid (one11 p (aheadL p i k) who)
    clear h1 h7
    go_wp2_with fail
    refine (toldN_any _ p _ (hv.bl H0) hs who 1 i k hw).mono ?_
    rintro e w1 ⟨rfl, hb1⟩
    have y1 := y0.bl hb1
    have H1 := H0.trans hb1
    clear g0 g1 g2 g3
    obtain ⟨g0, g1, g2, g3⟩ := y1.cells4
    cases ht : told1 p (aheadL p i k) who 1
    · have b := Lib.hid ht
      clear ht
      have HR : Hid (one1 p (aheadL p i k) who 1 = 0) := Lib.hid (by rw [HE.out, b.out]; rfl)
      clear HE
      go_wp2
      go_ret
      exact ⟨ret_int (by rw [HR.out]), H1⟩
    · have b := Lib.hid ht
      clear ht
      have HR : Hid (one1 p (aheadL p i k) who 1 = 2) := Lib.hid (by rw [HE.out, b.out]; rfl)
      clear HE
      go_wp2
      go_ret
      exact ⟨ret_int (by rw [HR.out]), H1⟩
  · have HE := Lib.hid (one12 p (aheadL p i k) who)
    clear h1 h7
    go_wp2_with fail
    refine (toldN_any _ p _ (hv.bl H0) hs who 2 i k hw).mono ?_
    rintro e w1 ⟨rfl, hb1⟩
    have y1 := y0.bl hb1
    have H1 := H0.trans hb1
    clear g0 g1 g2 g3
    obtain ⟨g0, g1, g2, g3⟩ := y1.cells4
    cases ht : told1 p (aheadL p i k) who 2
    · have b := Lib.hid ht
      clear ht
      go_wp2_with fail
      refine (keyN_any _ p _ (hv.bl H1) hs i k).mono ?_
      rintro e w2 ⟨rfl, hb2⟩
      have y2 := y1.bl hb2
      have H2 := H1.trans hb2
      clear g0 g1 g2 g3
      obtain ⟨g0, g1, g2, g3⟩ := y2.cells4
      cases hk' : key1 p (aheadL p i k)
      · have c := Lib.hid hk'
        clear hk'
        have HR : Hid (one1 p (aheadL p i k) who 2 = 0) := Lib.hid (by rw [HE.out, b.out, c.out]; rfl)
        clear HE
        go_wp2
        go_ret
        exact ⟨ret_int (by rw [HR.out]), H2⟩
      · have c := Lib.hid hk'
        clear hk'
        have HR : Hid (one1 p (aheadL p i k) who 2 = seal1 p (aheadL p i k) who) := Lib.hid (by rw [HE.out, b.out, c.out]; rfl)
        clear HE
        go_wp2_with fail
        refine (refSealN_any _ p _ (hv.bl H2) hs who i k hw).mono ?_
        rintro e w3 ⟨rfl, hb3⟩
        go_wp2
        go_ret
        exact ⟨ret_int (by rw [HR.out]), H2.trans hb3⟩
    · have b := Lib.hid ht
      clear ht
      have HR : Hid (one1 p (aheadL p i k) who 2 = 2) := Lib.hid (by rw [HE.out, b.out]; rfl)
      clear HE
      go_wp2
      go_ret
      exact ⟨ret_int (by rw [HR.out]), H1⟩
  · have HE := Lib.hid (one13 p (aheadL p i k) who)
    clear h1 h7
    go_wp2_with fail
    refine (toldN_any _ p _ (hv.bl H0) hs 0 1 i k (.inl rfl)).mono ?_
    rintro e w1 ⟨rfl, hb1⟩
    have y1 := y0.bl hb1
    have H1 := H0.trans hb1
    clear g0 g1 g2 g3
    obtain ⟨g0, g1, g2, g3⟩ := y1.cells4
    cases ht : told1 p (aheadL p i k) 0 1
    · have b := Lib.hid ht
      clear ht
      have HR : Hid (one1 p (aheadL p i k) who 3 = 3) := Lib.hid (by rw [HE.out, b.out]; rfl)
      clear HE
      go_wp2
      go_ret
      exact ⟨ret_int (by rw [HR.out]), H1⟩
    · have b := Lib.hid ht
      clear ht
      go_wp2_with fail
      refine (toldN_any _ p _ (hv.bl H1) hs 1 1 i k (.inr rfl)).mono ?_
      rintro e w2 ⟨rfl, hb2⟩
      have y2 := y1.bl hb2
      have H2 := H1.trans hb2
      clear g0 g1 g2 g3
      obtain ⟨g0, g1, g2, g3⟩ := y2.cells4
      cases ht : told1 p (aheadL p i k) 1 1
      · have c := Lib.hid ht
        clear ht
        have HR : Hid (one1 p (aheadL p i k) who 3 = 3) := Lib.hid (by rw [HE.out, b.out, c.out]; rfl)
        clear HE
        go_wp2
        go_ret
        exact ⟨ret_int (by rw [HR.out]), H2⟩
      · have c := Lib.hid ht
        clear ht
        cases hz : decide (0 < met1 (aheadL p i k) 2 3)
        · have d := Lib.hid hz
          clear hz
          go_wp2_with fail
          refine (metZN_any _ p _ (hv.bl H2) hs 2 3 i k d.out).mono ?_
          rintro e w3 ⟨rfl, hb3⟩
          have H3 := H2.trans hb3
          have HR : Hid (one1 p (aheadL p i k) who 3 = 0) := Lib.hid (by rw [HE.out, b.out, c.out, d.out]; rfl)
          clear HE
          go_wp2
          go_ret
          exact ⟨ret_int (by rw [HR.out]), H3⟩
        · have d := Lib.hid hz
          clear hz
          go_wp2_with fail
          refine (metPN_any _ p _ (hv.bl H2) hs 2 3 i k d.out).mono ?_
          rintro e w3 ⟨n, rfl, hn0, hb3⟩
          have H3 := H2.trans hb3
          have HR : Hid (one1 p (aheadL p i k) who 3 = 4) := Lib.hid (by rw [HE.out, b.out, c.out, d.out]; rfl)
          clear HE
          go_wp2
          go_ret
          exact ⟨ret_int (by rw [HR.out]), H3⟩
  · have HE := Lib.hid (one14 p (aheadL p i k) who)
    clear h1 h7
    go_wp2_with fail
    refine (toldN_any _ p _ (hv.bl H0) hs 0 1 i k (.inl rfl)).mono ?_
    rintro e w1 ⟨rfl, hb1⟩
    have y1 := y0.bl hb1
    have H1 := H0.trans hb1
    clear g0 g1 g2 g3
    obtain ⟨g0, g1, g2, g3⟩ := y1.cells4
    cases ht : told1 p (aheadL p i k) 0 1
    · have b := Lib.hid ht
      clear ht
      have HR : Hid (one1 p (aheadL p i k) who 4 = 3) := Lib.hid (by rw [HE.out, b.out]; rfl)
      clear HE
      go_wp2
      go_ret
      exact ⟨ret_int (by rw [HR.out]), H1⟩
    · have b := Lib.hid ht
      clear ht
      go_wp2_with fail
      refine (toldN_any _ p _ (hv.bl H1) hs 1 2 i k (.inr rfl)).mono ?_
      rintro e w2 ⟨rfl, hb2⟩
      have y2 := y1.bl hb2
      have H2 := H1.trans hb2
      clear g0 g1 g2 g3
      obtain ⟨g0, g1, g2, g3⟩ := y2.cells4
      cases ht : told1 p (aheadL p i k) 1 2
      · have c := Lib.hid ht
        clear ht
        have HR : Hid (one1 p (aheadL p i k) who 4 = 3) := Lib.hid (by rw [HE.out, b.out, c.out]; rfl)
        clear HE
        go_wp2
        go_ret
        exact ⟨ret_int (by rw [HR.out]), H2⟩
      · have c := Lib.hid ht
        clear ht
        cases hz : decide (0 < met1 (aheadL p i k) 2 4)
        · have d := Lib.hid hz
          clear hz
          go_wp2_with fail
          refine (metZN_any _ p _ (hv.bl H2) hs 2 4 i k d.out).mono ?_
          rintro e w3 ⟨rfl, hb3⟩
          have H3 := H2.trans hb3
          have HR : Hid (one1 p (aheadL p i k) who 4 = 0) := Lib.hid (by rw [HE.out, b.out, c.out, d.out]; rfl)
          clear HE
          go_wp2
          go_ret
          exact ⟨ret_int (by rw [HR.out]), H3⟩
        · have d := Lib.hid hz
          clear hz
          go_wp2_with fail
          refine (metPN_any _ p _ (hv.bl H2) hs 2 4 i k d.out).mono ?_
          rintro e w3 ⟨n, rfl, hn0, hb3⟩
          have H3 := H2.trans hb3
          have HR : Hid (one1 p (aheadL p i k) who 4 = 4) := Lib.hid (by rw [HE.out, b.out, c.out, d.out]; rfl)
          clear HE
          go_wp2
          go_ret
          exact ⟨ret_int (by rw [HR.out]), H3⟩
  · have HE := Lib.hid (one15 p (aheadL p i k) who)
    clear h1 h7
    go_wp2_with fail
    refine (toldN_any _ p _ (hv.bl H0) hs 0 2 i k (.inl rfl)).mono ?_
    rintro e w1 ⟨rfl, hb1⟩
    have y1 := y0.bl hb1
    have H1 := H0.trans hb1
    clear g0 g1 g2 g3
    obtain ⟨g0, g1, g2, g3⟩ := y1.cells4
    cases ht : told1 p (aheadL p i k) 0 2
    · have b := Lib.hid ht
      clear ht
      have HR : Hid (one1 p (aheadL p i k) who 5 = 3) := Lib.hid (by rw [HE.out, b.out]; rfl)
      clear HE
      go_wp2
      go_ret
      exact ⟨ret_int (by rw [HR.out]), H1⟩
    · have b := Lib.hid ht
      clear ht
      go_wp2_with fail
      refine (toldN_any _ p _ (hv.bl H1) hs 1 1 i k (.inr rfl)).mono ?_
      rintro e w2 ⟨rfl, hb2⟩
      have y2 := y1.bl hb2
      have H2 := H1.trans hb2
      clear g0 g1 g2 g3
      obtain ⟨g0, g1, g2, g3⟩ := y2.cells4
      cases ht : told1 p (aheadL p i k) 1 1
      · have c := Lib.hid ht
        clear ht
        have HR : Hid (one1 p (aheadL p i k) who 5 = 3) := Lib.hid (by rw [HE.out, b.out, c.out]; rfl)
        clear HE
        go_wp2
        go_ret
        exact ⟨ret_int (by rw [HR.out]), H2⟩
      · have c := Lib.hid ht
        clear ht
        cases hz : decide (0 < met1 (aheadL p i k) 2 5)
        · have d := Lib.hid hz
          clear hz
          go_wp2_with fail
          refine (metZN_any _ p _ (hv.bl H2) hs 2 5 i k d.out).mono ?_
          rintro e w3 ⟨rfl, hb3⟩
          have H3 := H2.trans hb3
          have HR : Hid (one1 p (aheadL p i k) who 5 = 0) := Lib.hid (by rw [HE.out, b.out, c.out, d.out]; rfl)
          clear HE
          go_wp2
          go_ret
          exact ⟨ret_int (by rw [HR.out]), H3⟩
        · have d := Lib.hid hz
          clear hz
          go_wp2_with fail
          refine (metPN_any _ p _ (hv.bl H2) hs 2 5 i k d.out).mono ?_
          rintro e w3 ⟨n, rfl, hn0, hb3⟩
          have H3 := H2.trans hb3
          have HR : Hid (one1 p (aheadL p i k) who 5 = 4) := Lib.hid (by rw [HE.out, b.out, c.out, d.out]; rfl)
          clear HE
          go_wp2
          go_ret
          exact ⟨ret_int (by rw [HR.out]), H3⟩
  · have HE := Lib.hid (one16 p (aheadL p i k) who)
    clear h1 h7
    go_wp2_with fail
    refine (toldN_any _ p _ (hv.bl H0) hs 0 2 i k (.inl rfl)).mono ?_
    rintro e w1 ⟨rfl, hb1⟩
    have y1 := y0.bl hb1
    have H1 := H0.trans hb1
    clear g0 g1 g2 g3
    obtain ⟨g0, g1, g2, g3⟩ := y1.cells4
    cases ht : told1 p (aheadL p i k) 0 2
    · have b := Lib.hid ht
      clear ht
      have HR : Hid (one1 p (aheadL p i k) who 6 = 3) := Lib.hid (by rw [HE.out, b.out]; rfl)
      clear HE
      go_wp2
      go_ret
      exact ⟨ret_int (by rw [HR.out]), H1⟩
    · have b := Lib.hid ht
      clear ht
      go_wp2_with fail
      refine (toldN_any _ p _ (hv.bl H1) hs 1 2 i k (.inr rfl)).mono ?_
      rintro e w2 ⟨rfl, hb2⟩
      have y2 := y1.bl hb2
      have H2 := H1.trans hb2
      clear g0 g1 g2 g3
      obtain ⟨g0, g1, g2, g3⟩ := y2.cells4
      cases ht : told1 p (aheadL p i k) 1 2
      · have c := Lib.hid ht
        clear ht
        have HR : Hid (one1 p (aheadL p i k) who 6 = 3) := Lib.hid (by rw [HE.out, b.out, c.out]; rfl)
        clear HE
        go_wp2
        go_ret
        exact ⟨ret_int (by rw [HR.out]), H2⟩
      · have c := Lib.hid ht
        clear ht
        cases hz : decide (0 < met1 (aheadL p i k) 2 6)
        · have d := Lib.hid hz
          clear hz
          go_wp2_with fail
          refine (metZN_any _ p _ (hv.bl H2) hs 2 6 i k d.out).mono ?_
          rintro e w3 ⟨rfl, hb3⟩
          have H3 := H2.trans hb3
          have HR : Hid (one1 p (aheadL p i k) who 6 = 0) := Lib.hid (by rw [HE.out, b.out, c.out, d.out]; rfl)
          clear HE
          go_wp2
          go_ret
          exact ⟨ret_int (by rw [HR.out]), H3⟩
        · have d := Lib.hid hz
          clear hz
          go_wp2_with fail
          refine (metPN_any _ p _ (hv.bl H2) hs 2 6 i k d.out).mono ?_
          rintro e w3 ⟨n, rfl, hn0, hb3⟩
          have H3 := H2.trans hb3
          have HR : Hid (one1 p (aheadL p i k) who 6 = 4) := Lib.hid (by rw [HE.out, b.out, c.out, d.out]; rfl)
          clear HE
          go_wp2
          go_ret
          exact ⟨ret_int (by rw [HR.out]), H3⟩
  · have HE := Lib.hid (one17 p (aheadL p i k) who)
    clear h1 h7
    have HR : Hid (one1 p (aheadL p i k) who 7 = 0) := Lib.hid (by rw [HE.out])
    clear HE
    go_wp2
    go_ret
    exact ⟨ret_int (by rw [HR.out]), H0⟩
end Go.Proofs.YtelloecgdiocoaaDoor
