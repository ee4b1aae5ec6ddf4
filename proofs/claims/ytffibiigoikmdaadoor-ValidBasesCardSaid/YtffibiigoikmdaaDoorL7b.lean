/- Walk: undertonelaw07.ValidBases. -/
import Derived.Test.YtffibiigoikmdaaDoorL7a
import Derived.Test.YtffibiigoikmdaaDoorH6
set_option linter.unusedSimpArgs false
set_option linter.unusedVariables false
namespace Go.Proofs.YtffibiigoikmdaaDoor
open Go.RowKit Go.Sort

/-- name k's pattern keeps the rules; with a psk more, too, or it breaks rule 6 -/
def okVB (k : Nat) : Bool :=
  let p := baseP (bNames.getD k ByteArray.empty)
  decide (baseE (bNames.getD k ByteArray.empty) = 0) && decide ((checkV p).2.2 = 0) && decide (p.msgs.length ≤ 3) &&
    (List.range 4).all (fun n => decide (pskE p (n : Int) ≠ 0) || decide ((checkV (pskP p (n : Int))).2.2 = 0) || decide ((checkV (pskP p (n : Int))).1 = 6))
theorem okVB_all : (List.range 15).all okVB = true := by decide +kernel
theorem pskE_lo {p : Pat} {n : Int} (h : pskE p n = 0) : 0 ≤ n ∧ n ≤ p.msgs.length := by
  unfold pskE at h
  cases hr : rightB p
  · rw [hr] at h; simp at h
  · cases hb : pskBad p n
    · rw [pskBad] at hb
      simp only [Bool.or_eq_false_iff, decide_eq_false_iff_not] at hb
      omega
    · rw [hr, hb] at h; simp at h
theorem okVB_parts (k : Nat) (hk : k < 15) (n : Int) (x : ByteArray) (hx : bNames.getD k ByteArray.empty = x) (p : Pat) (hp : baseP x = p) :
    baseE x = 0 ∧ (checkV p).2.2 = 0 ∧ (pskE p n = 0 → (checkV (if pskE p n = 0 then pskP p n else zeroP)).2.2 = 0 ∨ (checkV (if pskE p n = 0 then pskP p n else zeroP)).1 = 6) := by
  have h := List.all_eq_true.1 okVB_all k (List.mem_range.2 hk)
  simp only [okVB] at h
  subst hx hp
  simp only [Bool.and_eq_true, decide_eq_true_eq] at h
  obtain ⟨⟨⟨h0, h1⟩, h3⟩, h4⟩ := h
  refine ⟨h0, h1, fun he => ?_⟩
  rw [if_pos he]
  obtain ⟨a, b⟩ := pskE_lo he
  obtain ⟨m, rfl⟩ : ∃ m : Nat, n = (m : Int) := ⟨n.toNat, by omega⟩
  have := List.all_eq_true.1 h4 m (List.mem_range.2 (by omega))
  simp only [Bool.or_eq_true, decide_eq_true_eq] at this
  rcases this with (h | h) | h
  · exact absurd he h
  · exact .inl h
  · exact .inr h
theorem checkRE_any (v : Value) (p : Pat) (w : World) (h : SP w v p) (R E : Int) (hR : (checkV p).1 = R) (hE : (checkV p).2.2 = E) : Calls Tryd.prog 10 #[v] w fun e w' => ∃ b : Int, e = .returned (.tuple #[.int .i64 R, .int .i64 b, .int .i64 E]) ∧ Bl w w' := by
  refine (check_any v p w h).mono fun e w' hh => ?_
  rw [← hE, ← hR]
  exact ⟨_, hh⟩

set_option maxRecDepth 100000 in
set_option maxHeartbeats 8000000 in
theorem validBases_any (n : Int) (w : World) (hE : Env w) (hn1 : -9223372036854775808 ≤ n) (hn2 : n ≤ 9223372036854775807) :
    Calls Tryd.prog 3 #[.int .i64 n] w fun e w' => e = .returned (.bool true) ∧ Bl w w' := by
  go_enter Tryd.func3, Tryd.ntmps3
  go_wp2_with fail
  refine (refNames_any w).mono ?_
  rintro e w1 ⟨v, rfl, hss, hb1⟩
  obtain ⟨sa, sc, hse, hlen, hc⟩ := id hss
  have h15 : bNames.length = 15 := rfl
  rw [h15] at hse
  subst hse
  go_wp2_with fail
  go_loopw [17] (fun i wr => ∃ k : Nat, k ≤ 15 ∧ i = .int .i64 k ∧ Bl w1 wr ∧ Bl w wr) (fun i _ => 15 - (intOf i).toNat)
  case atStart => exact ⟨0, by omega, rfl, Bl.refl _, hb1⟩
  case round =>
    obtain ⟨k, hk, rfl, H1r, Hr⟩ := hrel
    by_cases hkn : k < 15
    · obtain ⟨b, o, rfl, hca⟩ := hc k (by rw [h15]; omega)
      have hcr := H1r.cellq hca
      have HX : Hid (bNames[k]'(by rw [h15]; omega) = bNames.getD k ByteArray.empty) := Lib.hid (by rw [List.getD_eq_getElem?_getD, List.getElem?_eq_getElem (by rw [h15]; omega)]; rfl)
      rw [HX.out] at hcr
      have HP := Lib.hid (okVB_parts k hkn n _ rfl _ rfl)
      generalize bNames.getD k ByteArray.empty = x at *
      have cB := base_any x wr (hE.bl Hr).b
      rw [HP.out.1] at cB
      generalize hpp : baseP x = p at *
      have HC0 := Lib.hid HP.out.2.1
      have HPQ := Lib.hid HP.out.2.2
      clear HX HP hpp
      have cK := fun u w h => psk_any u p n w h hn1 hn2
      generalize hqq : (if pskE p n = 0 then pskP p n else zeroP) = q at *
      clear hqq
      generalize pskE p n = E at *
      go_wp2_with fail
      refine cB.mono ?_
      rintro e w3 ⟨pv, rfl, hs, hb3⟩
      have hs0 := hs
      obtain ⟨v0, v1, vm, rfl, _, h0, h1, hm⟩ := hs
      obtain ⟨a0, c0, rfl⟩ := h0.form
      obtain ⟨a1, c1, rfl⟩ := h1.form
      obtain ⟨am, cm, rfl⟩ := hm.form
      clear h0 h1 hm cB
      have y3 := BoxAt.new w3 #[.string p.name, .slice a0 p.pre0.length c0, .slice a1 p.pre1.length c1, .slice am p.msgs.length cm] 28
      have al3 : Bl w3 (w3.alloc (.cells #[.string p.name, .slice a0 p.pre0.length c0, .slice a1 p.pre1.length c1, .slice am p.msgs.length cm] 28)) := (Bl.refl w3).alloc _
      have hs3 := hs0.bl al3
      have b3 := hb3.trans al3
      go_wp2_with fail
      refine (checkE_any _ p _ hs3 0 HC0.out).mono ?_
      rintro e w4 ⟨r1, r2, rfl, hb4⟩
      have y4 := y3.bl hb4
      have hs4 := hs3.bl hb4
      have b4 := b3.trans hb4
      obtain ⟨g0, g1, g2, g3⟩ : _ ∧ _ ∧ _ ∧ _ := ⟨y4.cell 0 rfl, y4.cell 1 rfl, y4.cell 2 rfl, y4.cell 3 rfl⟩
      go_wp2_with fail
      refine (cK _ _ hs4).mono ?_
      rintro e w5 ⟨qv, rfl, hq, hb5⟩
      have b5 := b4.trans hb5
      have hq0 := hq
      obtain ⟨v0, v1, vm, rfl, _, h0, h1, hm⟩ := hq
      obtain ⟨e0, d0, rfl⟩ := h0.form
      obtain ⟨e1, d1, rfl⟩ := h1.form
      obtain ⟨em, dm, rfl⟩ := hm.form
      clear h0 h1 hm cK g0 g1 g2 g3
      have al5 : Bl w5 (w5.alloc (.cells #[.string q.name, .slice e0 q.pre0.length d0, .slice e1 q.pre1.length d1, .slice em q.msgs.length dm] 28)) := (Bl.refl w5).alloc _
      have hq5 := hq0.bl al5
      have b6 := b5.trans al5
      by_cases hE0 : E = 0
      · subst hE0
        have hor := HPQ.out (by trivial)
        have HOR := Lib.hid hor
        clear HPQ hor
        generalize hR : (checkV q).1 = R at *
        generalize hC : (checkV q).2.2 = C at *
        have HR := Lib.hid hR
        have HC := Lib.hid hC
        clear hR hC
        go_wp2_with fail
        refine (checkRE_any _ q _ hq5 R C HR.out HC.out).mono ?_
        rintro e w7 ⟨r3, rfl, hb7⟩
        have b7 := b6.trans hb7
        by_cases hC0 : C = 0
        · subst hC0
          go_wp2_with fail
          go_roundw
          case rel => exact ⟨k + 1, by omega, by go_num, H1r.trans b7, Hr.trans b7⟩
          case measure => simp [intOf]; omega
        · have dC : (C != 0) = true := by simpa using hC0
          have hR6 : R = 6 := HOR.out.resolve_left hC0
          subst hR6
          go_wp2_with fail
          go_roundw
          case rel => exact ⟨k + 1, by omega, by go_num, H1r.trans b7, Hr.trans b7⟩
          case measure => simp [intOf]; omega
      · have de : (E != 0) = true := by simpa using hE0
        go_wp2_with fail
        go_roundw
        case rel => exact ⟨k + 1, by omega, by go_num, H1r.trans b6, Hr.trans b6⟩
        case measure => simp [intOf]; omega
    · obtain rfl : k = 15 := by omega
      go_wp2_with fail
      refine (awake7_any wr (hE.bl Hr)).mono ?_
      rintro e w4 ⟨rfl, hb4⟩
      go_wp2
      go_ret
      exact ⟨rfl, Hr.trans hb4⟩
end Go.Proofs.YtffibiigoikmdaaDoor
