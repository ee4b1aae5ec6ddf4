/- Walk: undertonelaw08.NeedNames. -/
import Derived.Test.YtkcmmcgbkihpfaaDoorL8b
import Derived.Deep.DeepCutAuto
set_option linter.unusedSimpArgs false
set_option linter.unusedVariables false
namespace Go.Proofs.YtkcmmcgbkihpfaaDoor
open Go.RowKit Go.Sort

/-- the name of two letters of number j -/
def nm2 (j : Nat) : ByteArray := (bNames.getD (3 + j) ByteArray.empty)
/-- what a name's pattern is to need: whether the first letter is N, is K; the second one -/
def okName (x : ByteArray) (n0 k0 n1 k1 : Bool) : Bool :=
  decide (baseE x = 0) && decide (needE (baseP x) 0 = 0) && decide (needE (baseP x) 1 = 0) &&
  decide ((needK (baseP x) 0) = ⟨!n0, false, k1, (needK (baseP x) 0).re, 0⟩) && decide ((needK (baseP x) 1) = ⟨!n1, (needK (baseP x) 1).e, k0, false, 0⟩)
theorem okName_parts {x : ByteArray} {n0 k0 n1 k1 : Bool} (h : okName x n0 k0 n1 k1 = true) : baseE x = 0 ∧ needE (baseP x) 0 = 0 ∧ needE (baseP x) 1 = 0 ∧
    (∃ re, needK (baseP x) 0 = ⟨!n0, false, k1, re, 0⟩) ∧ ∃ e, needK (baseP x) 1 = ⟨!n1, e, k0, false, 0⟩ := by
  simp only [okName, Bool.and_eq_true, decide_eq_true_eq] at h
  exact ⟨h.1.1.1.1, h.1.1.1.2, h.1.1.2, ⟨_, h.1.2⟩, ⟨_, h.2⟩⟩

theorem baseOk_any (x : ByteArray) (p : Pat) (w : World) (hE : EnvB w) (h0 : baseE x = 0) (hp : baseP x = p) :
    Calls Tryd.prog 33 #[.string x] w fun e w' => ∃ v, e = .returned (.tuple #[v, .int .i64 0]) ∧ SP w' v p ∧ Bl w w' := by
  have := base_any x w hE
  rw [h0, hp] at this
  exact this
theorem needR_any (v : Value) (p : Pat) (role : Int) (K : Keys) (w : World) (h : SP w v p) (h0 : needE p role = 0) (hK : needK p role = K) :
    Calls Tryd.prog 25 #[v, .int .i64 role] w fun e w' => e = .returned (.tuple #[.agg #[.bool K.s, .bool K.e, .bool K.rs, .bool K.re, .int .i64 K.n], .int .i64 0]) ∧ Bl w w' := by
  have := needOf_any v p role w h
  rw [h0, hK] at this
  exact this

set_option maxRecDepth 100000 in
set_option maxHeartbeats 40000000 in
theorem needNames_any (n : Int) (w : World) (hE : EnvB w) (hn0 : 0 ≤ n) (hn1 : n ≤ 255) :
    Calls Tryd.prog 12 #[.int .u8 n] w fun e w' => e = .returned (.bool true) ∧ Bl w w' := by
  go_enter Tryd.func12, Tryd.ntmps12
  go_wp2_with fail
  refine (bnames_any w).mono ?_
  rintro e w1 ⟨v, rfl, hss, hb1⟩
  obtain ⟨j, hj, hjn⟩ : ∃ j : Nat, j < 12 ∧ n % 12 = j := ⟨(n % 12).toNat, by omega, by omega⟩
  obtain ⟨sa, sc, e, hlen, hc⟩ := id hss
  have h15 : bNames.length = 15 := rfl
  obtain ⟨b, o, rfl, hca⟩ := hc (3 + j) (by rw [h15]; omega)
  rw [h15] at e
  subst e
  have hx : bNames[3 + j]'(by rw [h15]; omega) = nm2 j := by
    rw [nm2, List.getD_eq_getElem?_getD, List.getElem?_eq_getElem (by rw [h15]; omega)]
    rfl
  rw [hx] at hca
  go_upto_region 5 with fail
  have hE1 := hE.bl hb1
  clear hca hc hss hx hlen hjn hn0 hn1
  have hq : j = 0 ∨ j = 1 ∨ j = 2 ∨ j = 3 ∨ j = 4 ∨ j = 5 ∨ j = 6 ∨ j = 7 ∨ j = 8 ∨ j = 9 ∨ j = 10 ∨ j = 11 := by omega
  rcases hq with rfl | rfl | rfl | rfl | rfl | rfl | rfl | rfl | rfl | rfl | rfl | rfl
  · obtain ⟨hbE, he0, he1, ⟨re, hK0⟩, ⟨e1, hK1⟩⟩ := okName_parts (show okName ⟨#[78, 78]⟩ true false true false = true by decide +kernel)
    rw [show nm2 0 = ⟨#[78, 78]⟩ from rfl]
    have ix0 : ∀ w : World, (Instr.index 9 (.string ⟨#[78, 78]⟩) (.int .i64 0)).run Tryd.prog w = .ok (.int .u8 78) w := fun w => by kernel_rfl
    have ix1 : ∀ w : World, (Instr.index 9 (.string ⟨#[78, 78]⟩) (.int .i64 1)).run Tryd.prog w = .ok (.int .u8 78) w := fun w => by kernel_rfl
    generalize hp : baseP ⟨#[78, 78]⟩ = p at *
    have HP := Lib.hid hp
    clear hp
    go_wp2_with fail
    refine (baseOk_any _ p w1 hE1 hbE HP.out).mono ?_
    rintro e w2 ⟨v2, rfl, hs, hb2⟩
    have H2 := hb1.trans hb2
    have hs0 := hs
    obtain ⟨v0, v1, vm, rfl, _, h0, h1, hm⟩ := hs
    obtain ⟨a0, c0, rfl⟩ := h0.form
    obtain ⟨a1, c1, rfl⟩ := h1.form
    obtain ⟨am, cm, rfl⟩ := hm.form
    clear h0 h1 hm
    have x2 := BoxAt.new w2 #[.string p.name, .slice a0 p.pre0.length c0, .slice a1 p.pre1.length c1, .slice am p.msgs.length cm] 29
    have al2 : Bl w2 (w2.alloc (.cells #[.string p.name, .slice a0 p.pre0.length c0, .slice a1 p.pre1.length c1, .slice am p.msgs.length cm] 29)) := (Bl.refl w2).alloc _
    have hs2 := hs0.bl al2
    have G2 := H2.trans al2
    go_wp2_with fail
    refine (needR_any _ p 0 _ _ hs2 he0 hK0).mono ?_
    rintro e w3 ⟨rfl, hb3⟩
    have al3 : Bl w3 (w3.alloc (.cells #[.bool false, .bool false, .bool false, .bool re, .int .i64 0] 47)) := (Bl.refl w3).alloc _
    have k3 := BoxAt.new w3 #[.bool false, .bool false, .bool false, .bool re, .int .i64 0] 47
    have x3 := (x2.bl hb3).bl al3
    have hs3 := (hs2.bl hb3).bl al3
    have G3 := (G2.trans hb3).trans al3
    obtain ⟨g0, g1, g2, g3⟩ := x3.cells4
    go_wp2_with fail
    refine (needR_any _ p 1 _ _ hs3 he1 hK1).mono ?_
    rintro e w4 ⟨rfl, hb4⟩
    have al4 : Bl w4 (w4.alloc (.cells #[.bool false, .bool e1, .bool false, .bool false, .int .i64 0] 47)) := (Bl.refl w4).alloc _
    have l4 := BoxAt.new w4 #[.bool false, .bool e1, .bool false, .bool false, .int .i64 0] 47
    have k4 := (k3.bl hb4).bl al4
    have G4 := (G3.trans hb4).trans al4
    clear g0 g1 g2 g3
    go_wp2
    generalize w4.alloc (.cells #[.bool false, .bool e1, .bool false, .bool false, .int .i64 0] 47) = W at l4 k4 G4 ⊢
    obtain ⟨p0, p1, p2, p3, p4⟩ := k4.cells5
    obtain ⟨q0, q1, q2, q3, q4⟩ := l4.cells5
    have r0 := cell_regrown p0
    have r1 := cell_regrown p1
    have r2 := cell_regrown p2
    have r3 := cell_regrown p3
    have r4 := cell_regrown p4
    have s0 := cell_regrown q0
    have s1 := cell_regrown q1
    have s2 := cell_regrown q2
    have s3 := cell_regrown q3
    have s4 := cell_regrown q4
    refine wp_region_quiet_below (by kernel_rfl) (by kernel_rfl) ?_
    repeat (go_big_quiet_step ((go_at_call 24; with_reducible exact Calls.regrown_of (awake8_any _ (hE.bl (G4.trans (below_regrown W _ _)))))))
    refine wpQuiet_nil ?_
    intro wq hwq
    obtain ⟨pq, rfl⟩ := hwq
    have hbq := below_regrown W pq.d pq.os
    go_wp2
    go_ret
    exact ⟨rfl, G4.trans hbq⟩
  · obtain ⟨hbE, he0, he1, ⟨re, hK0⟩, ⟨e1, hK1⟩⟩ := okName_parts (show okName ⟨#[78, 75]⟩ true false false true = true by decide +kernel)
    rw [show nm2 1 = ⟨#[78, 75]⟩ from rfl]
    have ix0 : ∀ w : World, (Instr.index 9 (.string ⟨#[78, 75]⟩) (.int .i64 0)).run Tryd.prog w = .ok (.int .u8 78) w := fun w => by kernel_rfl
    have ix1 : ∀ w : World, (Instr.index 9 (.string ⟨#[78, 75]⟩) (.int .i64 1)).run Tryd.prog w = .ok (.int .u8 75) w := fun w => by kernel_rfl
    generalize hp : baseP ⟨#[78, 75]⟩ = p at *
    have HP := Lib.hid hp
    clear hp
    go_wp2_with fail
    refine (baseOk_any _ p w1 hE1 hbE HP.out).mono ?_
    rintro e w2 ⟨v2, rfl, hs, hb2⟩
    have H2 := hb1.trans hb2
    have hs0 := hs
    obtain ⟨v0, v1, vm, rfl, _, h0, h1, hm⟩ := hs
    obtain ⟨a0, c0, rfl⟩ := h0.form
    obtain ⟨a1, c1, rfl⟩ := h1.form
    obtain ⟨am, cm, rfl⟩ := hm.form
    clear h0 h1 hm
    have x2 := BoxAt.new w2 #[.string p.name, .slice a0 p.pre0.length c0, .slice a1 p.pre1.length c1, .slice am p.msgs.length cm] 29
    have al2 : Bl w2 (w2.alloc (.cells #[.string p.name, .slice a0 p.pre0.length c0, .slice a1 p.pre1.length c1, .slice am p.msgs.length cm] 29)) := (Bl.refl w2).alloc _
    have hs2 := hs0.bl al2
    have G2 := H2.trans al2
    go_wp2_with fail
    refine (needR_any _ p 0 _ _ hs2 he0 hK0).mono ?_
    rintro e w3 ⟨rfl, hb3⟩
    have al3 : Bl w3 (w3.alloc (.cells #[.bool false, .bool false, .bool true, .bool re, .int .i64 0] 47)) := (Bl.refl w3).alloc _
    have k3 := BoxAt.new w3 #[.bool false, .bool false, .bool true, .bool re, .int .i64 0] 47
    have x3 := (x2.bl hb3).bl al3
    have hs3 := (hs2.bl hb3).bl al3
    have G3 := (G2.trans hb3).trans al3
    obtain ⟨g0, g1, g2, g3⟩ := x3.cells4
    go_wp2_with fail
    refine (needR_any _ p 1 _ _ hs3 he1 hK1).mono ?_
    rintro e w4 ⟨rfl, hb4⟩
    have al4 : Bl w4 (w4.alloc (.cells #[.bool true, .bool e1, .bool false, .bool false, .int .i64 0] 47)) := (Bl.refl w4).alloc _
    have l4 := BoxAt.new w4 #[.bool true, .bool e1, .bool false, .bool false, .int .i64 0] 47
    have k4 := (k3.bl hb4).bl al4
    have G4 := (G3.trans hb4).trans al4
    clear g0 g1 g2 g3
    go_wp2
    generalize w4.alloc (.cells #[.bool true, .bool e1, .bool false, .bool false, .int .i64 0] 47) = W at l4 k4 G4 ⊢
    obtain ⟨p0, p1, p2, p3, p4⟩ := k4.cells5
    obtain ⟨q0, q1, q2, q3, q4⟩ := l4.cells5
    have r0 := cell_regrown p0
    have r1 := cell_regrown p1
    have r2 := cell_regrown p2
    have r3 := cell_regrown p3
    have r4 := cell_regrown p4
    have s0 := cell_regrown q0
    have s1 := cell_regrown q1
    have s2 := cell_regrown q2
    have s3 := cell_regrown q3
    have s4 := cell_regrown q4
    refine wp_region_quiet_below (by kernel_rfl) (by kernel_rfl) ?_
    repeat (go_big_quiet_step ((go_at_call 24; with_reducible exact Calls.regrown_of (awake8_any _ (hE.bl (G4.trans (below_regrown W _ _)))))))
    refine wpQuiet_nil ?_
    intro wq hwq
    obtain ⟨pq, rfl⟩ := hwq
    have hbq := below_regrown W pq.d pq.os
    go_wp2
    go_ret
    exact ⟨rfl, G4.trans hbq⟩
  · obtain ⟨hbE, he0, he1, ⟨re, hK0⟩, ⟨e1, hK1⟩⟩ := okName_parts (show okName ⟨#[78, 88]⟩ true false false false = true by decide +kernel)
    rw [show nm2 2 = ⟨#[78, 88]⟩ from rfl]
    have ix0 : ∀ w : World, (Instr.index 9 (.string ⟨#[78, 88]⟩) (.int .i64 0)).run Tryd.prog w = .ok (.int .u8 78) w := fun w => by kernel_rfl
    have ix1 : ∀ w : World, (Instr.index 9 (.string ⟨#[78, 88]⟩) (.int .i64 1)).run Tryd.prog w = .ok (.int .u8 88) w := fun w => by kernel_rfl
    generalize hp : baseP ⟨#[78, 88]⟩ = p at *
    have HP := Lib.hid hp
    clear hp
    go_wp2_with fail
    refine (baseOk_any _ p w1 hE1 hbE HP.out).mono ?_
    rintro e w2 ⟨v2, rfl, hs, hb2⟩
    have H2 := hb1.trans hb2
    have hs0 := hs
    obtain ⟨v0, v1, vm, rfl, _, h0, h1, hm⟩ := hs
    obtain ⟨a0, c0, rfl⟩ := h0.form
    obtain ⟨a1, c1, rfl⟩ := h1.form
    obtain ⟨am, cm, rfl⟩ := hm.form
    clear h0 h1 hm
    have x2 := BoxAt.new w2 #[.string p.name, .slice a0 p.pre0.length c0, .slice a1 p.pre1.length c1, .slice am p.msgs.length cm] 29
    have al2 : Bl w2 (w2.alloc (.cells #[.string p.name, .slice a0 p.pre0.length c0, .slice a1 p.pre1.length c1, .slice am p.msgs.length cm] 29)) := (Bl.refl w2).alloc _
    have hs2 := hs0.bl al2
    have G2 := H2.trans al2
    go_wp2_with fail
    refine (needR_any _ p 0 _ _ hs2 he0 hK0).mono ?_
    rintro e w3 ⟨rfl, hb3⟩
    have al3 : Bl w3 (w3.alloc (.cells #[.bool false, .bool false, .bool false, .bool re, .int .i64 0] 47)) := (Bl.refl w3).alloc _
    have k3 := BoxAt.new w3 #[.bool false, .bool false, .bool false, .bool re, .int .i64 0] 47
    have x3 := (x2.bl hb3).bl al3
    have hs3 := (hs2.bl hb3).bl al3
    have G3 := (G2.trans hb3).trans al3
    obtain ⟨g0, g1, g2, g3⟩ := x3.cells4
    go_wp2_with fail
    refine (needR_any _ p 1 _ _ hs3 he1 hK1).mono ?_
    rintro e w4 ⟨rfl, hb4⟩
    have al4 : Bl w4 (w4.alloc (.cells #[.bool true, .bool e1, .bool false, .bool false, .int .i64 0] 47)) := (Bl.refl w4).alloc _
    have l4 := BoxAt.new w4 #[.bool true, .bool e1, .bool false, .bool false, .int .i64 0] 47
    have k4 := (k3.bl hb4).bl al4
    have G4 := (G3.trans hb4).trans al4
    clear g0 g1 g2 g3
    go_wp2
    generalize w4.alloc (.cells #[.bool true, .bool e1, .bool false, .bool false, .int .i64 0] 47) = W at l4 k4 G4 ⊢
    obtain ⟨p0, p1, p2, p3, p4⟩ := k4.cells5
    obtain ⟨q0, q1, q2, q3, q4⟩ := l4.cells5
    have r0 := cell_regrown p0
    have r1 := cell_regrown p1
    have r2 := cell_regrown p2
    have r3 := cell_regrown p3
    have r4 := cell_regrown p4
    have s0 := cell_regrown q0
    have s1 := cell_regrown q1
    have s2 := cell_regrown q2
    have s3 := cell_regrown q3
    have s4 := cell_regrown q4
    refine wp_region_quiet_below (by kernel_rfl) (by kernel_rfl) ?_
    repeat (go_big_quiet_step ((go_at_call 24; with_reducible exact Calls.regrown_of (awake8_any _ (hE.bl (G4.trans (below_regrown W _ _)))))))
    refine wpQuiet_nil ?_
    intro wq hwq
    obtain ⟨pq, rfl⟩ := hwq
    have hbq := below_regrown W pq.d pq.os
    go_wp2
    go_ret
    exact ⟨rfl, G4.trans hbq⟩
  · obtain ⟨hbE, he0, he1, ⟨re, hK0⟩, ⟨e1, hK1⟩⟩ := okName_parts (show okName ⟨#[88, 78]⟩ false false true false = true by decide +kernel)
    rw [show nm2 3 = ⟨#[88, 78]⟩ from rfl]
    have ix0 : ∀ w : World, (Instr.index 9 (.string ⟨#[88, 78]⟩) (.int .i64 0)).run Tryd.prog w = .ok (.int .u8 88) w := fun w => by kernel_rfl
    have ix1 : ∀ w : World, (Instr.index 9 (.string ⟨#[88, 78]⟩) (.int .i64 1)).run Tryd.prog w = .ok (.int .u8 78) w := fun w => by kernel_rfl
    generalize hp : baseP ⟨#[88, 78]⟩ = p at *
    have HP := Lib.hid hp
    clear hp
    go_wp2_with fail
    refine (baseOk_any _ p w1 hE1 hbE HP.out).mono ?_
    rintro e w2 ⟨v2, rfl, hs, hb2⟩
    have H2 := hb1.trans hb2
    have hs0 := hs
    obtain ⟨v0, v1, vm, rfl, _, h0, h1, hm⟩ := hs
    obtain ⟨a0, c0, rfl⟩ := h0.form
    obtain ⟨a1, c1, rfl⟩ := h1.form
    obtain ⟨am, cm, rfl⟩ := hm.form
    clear h0 h1 hm
    have x2 := BoxAt.new w2 #[.string p.name, .slice a0 p.pre0.length c0, .slice a1 p.pre1.length c1, .slice am p.msgs.length cm] 29
    have al2 : Bl w2 (w2.alloc (.cells #[.string p.name, .slice a0 p.pre0.length c0, .slice a1 p.pre1.length c1, .slice am p.msgs.length cm] 29)) := (Bl.refl w2).alloc _
    have hs2 := hs0.bl al2
    have G2 := H2.trans al2
    go_wp2_with fail
    refine (needR_any _ p 0 _ _ hs2 he0 hK0).mono ?_
    rintro e w3 ⟨rfl, hb3⟩
    have al3 : Bl w3 (w3.alloc (.cells #[.bool true, .bool false, .bool false, .bool re, .int .i64 0] 47)) := (Bl.refl w3).alloc _
    have k3 := BoxAt.new w3 #[.bool true, .bool false, .bool false, .bool re, .int .i64 0] 47
    have x3 := (x2.bl hb3).bl al3
    have hs3 := (hs2.bl hb3).bl al3
    have G3 := (G2.trans hb3).trans al3
    obtain ⟨g0, g1, g2, g3⟩ := x3.cells4
    go_wp2_with fail
    refine (needR_any _ p 1 _ _ hs3 he1 hK1).mono ?_
    rintro e w4 ⟨rfl, hb4⟩
    have al4 : Bl w4 (w4.alloc (.cells #[.bool false, .bool e1, .bool false, .bool false, .int .i64 0] 47)) := (Bl.refl w4).alloc _
    have l4 := BoxAt.new w4 #[.bool false, .bool e1, .bool false, .bool false, .int .i64 0] 47
    have k4 := (k3.bl hb4).bl al4
    have G4 := (G3.trans hb4).trans al4
    clear g0 g1 g2 g3
    go_wp2
    generalize w4.alloc (.cells #[.bool false, .bool e1, .bool false, .bool false, .int .i64 0] 47) = W at l4 k4 G4 ⊢
    obtain ⟨p0, p1, p2, p3, p4⟩ := k4.cells5
    obtain ⟨q0, q1, q2, q3, q4⟩ := l4.cells5
    have r0 := cell_regrown p0
    have r1 := cell_regrown p1
    have r2 := cell_regrown p2
    have r3 := cell_regrown p3
    have r4 := cell_regrown p4
    have s0 := cell_regrown q0
    have s1 := cell_regrown q1
    have s2 := cell_regrown q2
    have s3 := cell_regrown q3
    have s4 := cell_regrown q4
    refine wp_region_quiet_below (by kernel_rfl) (by kernel_rfl) ?_
    repeat (go_big_quiet_step ((go_at_call 24; with_reducible exact Calls.regrown_of (awake8_any _ (hE.bl (G4.trans (below_regrown W _ _)))))))
    refine wpQuiet_nil ?_
    intro wq hwq
    obtain ⟨pq, rfl⟩ := hwq
    have hbq := below_regrown W pq.d pq.os
    go_wp2
    go_ret
    exact ⟨rfl, G4.trans hbq⟩
  · obtain ⟨hbE, he0, he1, ⟨re, hK0⟩, ⟨e1, hK1⟩⟩ := okName_parts (show okName ⟨#[88, 75]⟩ false false false true = true by decide +kernel)
    rw [show nm2 4 = ⟨#[88, 75]⟩ from rfl]
    have ix0 : ∀ w : World, (Instr.index 9 (.string ⟨#[88, 75]⟩) (.int .i64 0)).run Tryd.prog w = .ok (.int .u8 88) w := fun w => by kernel_rfl
    have ix1 : ∀ w : World, (Instr.index 9 (.string ⟨#[88, 75]⟩) (.int .i64 1)).run Tryd.prog w = .ok (.int .u8 75) w := fun w => by kernel_rfl
    generalize hp : baseP ⟨#[88, 75]⟩ = p at *
    have HP := Lib.hid hp
    clear hp
    go_wp2_with fail
    refine (baseOk_any _ p w1 hE1 hbE HP.out).mono ?_
    rintro e w2 ⟨v2, rfl, hs, hb2⟩
    have H2 := hb1.trans hb2
    have hs0 := hs
    obtain ⟨v0, v1, vm, rfl, _, h0, h1, hm⟩ := hs
    obtain ⟨a0, c0, rfl⟩ := h0.form
    obtain ⟨a1, c1, rfl⟩ := h1.form
    obtain ⟨am, cm, rfl⟩ := hm.form
    clear h0 h1 hm
    have x2 := BoxAt.new w2 #[.string p.name, .slice a0 p.pre0.length c0, .slice a1 p.pre1.length c1, .slice am p.msgs.length cm] 29
    have al2 : Bl w2 (w2.alloc (.cells #[.string p.name, .slice a0 p.pre0.length c0, .slice a1 p.pre1.length c1, .slice am p.msgs.length cm] 29)) := (Bl.refl w2).alloc _
    have hs2 := hs0.bl al2
    have G2 := H2.trans al2
    go_wp2_with fail
    refine (needR_any _ p 0 _ _ hs2 he0 hK0).mono ?_
    rintro e w3 ⟨rfl, hb3⟩
    have al3 : Bl w3 (w3.alloc (.cells #[.bool true, .bool false, .bool true, .bool re, .int .i64 0] 47)) := (Bl.refl w3).alloc _
    have k3 := BoxAt.new w3 #[.bool true, .bool false, .bool true, .bool re, .int .i64 0] 47
    have x3 := (x2.bl hb3).bl al3
    have hs3 := (hs2.bl hb3).bl al3
    have G3 := (G2.trans hb3).trans al3
    obtain ⟨g0, g1, g2, g3⟩ := x3.cells4
    go_wp2_with fail
    refine (needR_any _ p 1 _ _ hs3 he1 hK1).mono ?_
    rintro e w4 ⟨rfl, hb4⟩
    have al4 : Bl w4 (w4.alloc (.cells #[.bool true, .bool e1, .bool false, .bool false, .int .i64 0] 47)) := (Bl.refl w4).alloc _
    have l4 := BoxAt.new w4 #[.bool true, .bool e1, .bool false, .bool false, .int .i64 0] 47
    have k4 := (k3.bl hb4).bl al4
    have G4 := (G3.trans hb4).trans al4
    clear g0 g1 g2 g3
    go_wp2
    generalize w4.alloc (.cells #[.bool true, .bool e1, .bool false, .bool false, .int .i64 0] 47) = W at l4 k4 G4 ⊢
    obtain ⟨p0, p1, p2, p3, p4⟩ := k4.cells5
    obtain ⟨q0, q1, q2, q3, q4⟩ := l4.cells5
    have r0 := cell_regrown p0
    have r1 := cell_regrown p1
    have r2 := cell_regrown p2
    have r3 := cell_regrown p3
    have r4 := cell_regrown p4
    have s0 := cell_regrown q0
    have s1 := cell_regrown q1
    have s2 := cell_regrown q2
    have s3 := cell_regrown q3
    have s4 := cell_regrown q4
    refine wp_region_quiet_below (by kernel_rfl) (by kernel_rfl) ?_
    repeat (go_big_quiet_step ((go_at_call 24; with_reducible exact Calls.regrown_of (awake8_any _ (hE.bl (G4.trans (below_regrown W _ _)))))))
    refine wpQuiet_nil ?_
    intro wq hwq
    obtain ⟨pq, rfl⟩ := hwq
    have hbq := below_regrown W pq.d pq.os
    go_wp2
    go_ret
    exact ⟨rfl, G4.trans hbq⟩
  · obtain ⟨hbE, he0, he1, ⟨re, hK0⟩, ⟨e1, hK1⟩⟩ := okName_parts (show okName ⟨#[88, 88]⟩ false false false false = true by decide +kernel)
    rw [show nm2 5 = ⟨#[88, 88]⟩ from rfl]
    have ix0 : ∀ w : World, (Instr.index 9 (.string ⟨#[88, 88]⟩) (.int .i64 0)).run Tryd.prog w = .ok (.int .u8 88) w := fun w => by kernel_rfl
    have ix1 : ∀ w : World, (Instr.index 9 (.string ⟨#[88, 88]⟩) (.int .i64 1)).run Tryd.prog w = .ok (.int .u8 88) w := fun w => by kernel_rfl
    generalize hp : baseP ⟨#[88, 88]⟩ = p at *
    have HP := Lib.hid hp
    clear hp
    go_wp2_with fail
    refine (baseOk_any _ p w1 hE1 hbE HP.out).mono ?_
    rintro e w2 ⟨v2, rfl, hs, hb2⟩
    have H2 := hb1.trans hb2
    have hs0 := hs
    obtain ⟨v0, v1, vm, rfl, _, h0, h1, hm⟩ := hs
    obtain ⟨a0, c0, rfl⟩ := h0.form
    obtain ⟨a1, c1, rfl⟩ := h1.form
    obtain ⟨am, cm, rfl⟩ := hm.form
    clear h0 h1 hm
    have x2 := BoxAt.new w2 #[.string p.name, .slice a0 p.pre0.length c0, .slice a1 p.pre1.length c1, .slice am p.msgs.length cm] 29
    have al2 : Bl w2 (w2.alloc (.cells #[.string p.name, .slice a0 p.pre0.length c0, .slice a1 p.pre1.length c1, .slice am p.msgs.length cm] 29)) := (Bl.refl w2).alloc _
    have hs2 := hs0.bl al2
    have G2 := H2.trans al2
    go_wp2_with fail
    refine (needR_any _ p 0 _ _ hs2 he0 hK0).mono ?_
    rintro e w3 ⟨rfl, hb3⟩
    have al3 : Bl w3 (w3.alloc (.cells #[.bool true, .bool false, .bool false, .bool re, .int .i64 0] 47)) := (Bl.refl w3).alloc _
    have k3 := BoxAt.new w3 #[.bool true, .bool false, .bool false, .bool re, .int .i64 0] 47
    have x3 := (x2.bl hb3).bl al3
    have hs3 := (hs2.bl hb3).bl al3
    have G3 := (G2.trans hb3).trans al3
    obtain ⟨g0, g1, g2, g3⟩ := x3.cells4
    go_wp2_with fail
    refine (needR_any _ p 1 _ _ hs3 he1 hK1).mono ?_
    rintro e w4 ⟨rfl, hb4⟩
    have al4 : Bl w4 (w4.alloc (.cells #[.bool true, .bool e1, .bool false, .bool false, .int .i64 0] 47)) := (Bl.refl w4).alloc _
    have l4 := BoxAt.new w4 #[.bool true, .bool e1, .bool false, .bool false, .int .i64 0] 47
    have k4 := (k3.bl hb4).bl al4
    have G4 := (G3.trans hb4).trans al4
    clear g0 g1 g2 g3
    go_wp2
    generalize w4.alloc (.cells #[.bool true, .bool e1, .bool false, .bool false, .int .i64 0] 47) = W at l4 k4 G4 ⊢
    obtain ⟨p0, p1, p2, p3, p4⟩ := k4.cells5
    obtain ⟨q0, q1, q2, q3, q4⟩ := l4.cells5
    have r0 := cell_regrown p0
    have r1 := cell_regrown p1
    have r2 := cell_regrown p2
    have r3 := cell_regrown p3
    have r4 := cell_regrown p4
    have s0 := cell_regrown q0
    have s1 := cell_regrown q1
    have s2 := cell_regrown q2
    have s3 := cell_regrown q3
    have s4 := cell_regrown q4
    refine wp_region_quiet_below (by kernel_rfl) (by kernel_rfl) ?_
    repeat (go_big_quiet_step ((go_at_call 24; with_reducible exact Calls.regrown_of (awake8_any _ (hE.bl (G4.trans (below_regrown W _ _)))))))
    refine wpQuiet_nil ?_
    intro wq hwq
    obtain ⟨pq, rfl⟩ := hwq
    have hbq := below_regrown W pq.d pq.os
    go_wp2
    go_ret
    exact ⟨rfl, G4.trans hbq⟩
  · obtain ⟨hbE, he0, he1, ⟨re, hK0⟩, ⟨e1, hK1⟩⟩ := okName_parts (show okName ⟨#[75, 78]⟩ false true true false = true by decide +kernel)
    rw [show nm2 6 = ⟨#[75, 78]⟩ from rfl]
    have ix0 : ∀ w : World, (Instr.index 9 (.string ⟨#[75, 78]⟩) (.int .i64 0)).run Tryd.prog w = .ok (.int .u8 75) w := fun w => by kernel_rfl
    have ix1 : ∀ w : World, (Instr.index 9 (.string ⟨#[75, 78]⟩) (.int .i64 1)).run Tryd.prog w = .ok (.int .u8 78) w := fun w => by kernel_rfl
    generalize hp : baseP ⟨#[75, 78]⟩ = p at *
    have HP := Lib.hid hp
    clear hp
    go_wp2_with fail
    refine (baseOk_any _ p w1 hE1 hbE HP.out).mono ?_
    rintro e w2 ⟨v2, rfl, hs, hb2⟩
    have H2 := hb1.trans hb2
    have hs0 := hs
    obtain ⟨v0, v1, vm, rfl, _, h0, h1, hm⟩ := hs
    obtain ⟨a0, c0, rfl⟩ := h0.form
    obtain ⟨a1, c1, rfl⟩ := h1.form
    obtain ⟨am, cm, rfl⟩ := hm.form
    clear h0 h1 hm
    have x2 := BoxAt.new w2 #[.string p.name, .slice a0 p.pre0.length c0, .slice a1 p.pre1.length c1, .slice am p.msgs.length cm] 29
    have al2 : Bl w2 (w2.alloc (.cells #[.string p.name, .slice a0 p.pre0.length c0, .slice a1 p.pre1.length c1, .slice am p.msgs.length cm] 29)) := (Bl.refl w2).alloc _
    have hs2 := hs0.bl al2
    have G2 := H2.trans al2
    go_wp2_with fail
    refine (needR_any _ p 0 _ _ hs2 he0 hK0).mono ?_
    rintro e w3 ⟨rfl, hb3⟩
    have al3 : Bl w3 (w3.alloc (.cells #[.bool true, .bool false, .bool false, .bool re, .int .i64 0] 47)) := (Bl.refl w3).alloc _
    have k3 := BoxAt.new w3 #[.bool true, .bool false, .bool false, .bool re, .int .i64 0] 47
    have x3 := (x2.bl hb3).bl al3
    have hs3 := (hs2.bl hb3).bl al3
    have G3 := (G2.trans hb3).trans al3
    obtain ⟨g0, g1, g2, g3⟩ := x3.cells4
    go_wp2_with fail
    refine (needR_any _ p 1 _ _ hs3 he1 hK1).mono ?_
    rintro e w4 ⟨rfl, hb4⟩
    have al4 : Bl w4 (w4.alloc (.cells #[.bool false, .bool e1, .bool true, .bool false, .int .i64 0] 47)) := (Bl.refl w4).alloc _
    have l4 := BoxAt.new w4 #[.bool false, .bool e1, .bool true, .bool false, .int .i64 0] 47
    have k4 := (k3.bl hb4).bl al4
    have G4 := (G3.trans hb4).trans al4
    clear g0 g1 g2 g3
    go_wp2
    generalize w4.alloc (.cells #[.bool false, .bool e1, .bool true, .bool false, .int .i64 0] 47) = W at l4 k4 G4 ⊢
    obtain ⟨p0, p1, p2, p3, p4⟩ := k4.cells5
    obtain ⟨q0, q1, q2, q3, q4⟩ := l4.cells5
    have r0 := cell_regrown p0
    have r1 := cell_regrown p1
    have r2 := cell_regrown p2
    have r3 := cell_regrown p3
    have r4 := cell_regrown p4
    have s0 := cell_regrown q0
    have s1 := cell_regrown q1
    have s2 := cell_regrown q2
    have s3 := cell_regrown q3
    have s4 := cell_regrown q4
    refine wp_region_quiet_below (by kernel_rfl) (by kernel_rfl) ?_
    repeat (go_big_quiet_step ((go_at_call 24; with_reducible exact Calls.regrown_of (awake8_any _ (hE.bl (G4.trans (below_regrown W _ _)))))))
    refine wpQuiet_nil ?_
    intro wq hwq
    obtain ⟨pq, rfl⟩ := hwq
    have hbq := below_regrown W pq.d pq.os
    go_wp2
    go_ret
    exact ⟨rfl, G4.trans hbq⟩
  · obtain ⟨hbE, he0, he1, ⟨re, hK0⟩, ⟨e1, hK1⟩⟩ := okName_parts (show okName ⟨#[75, 75]⟩ false true false true = true by decide +kernel)
    rw [show nm2 7 = ⟨#[75, 75]⟩ from rfl]
    have ix0 : ∀ w : World, (Instr.index 9 (.string ⟨#[75, 75]⟩) (.int .i64 0)).run Tryd.prog w = .ok (.int .u8 75) w := fun w => by kernel_rfl
    have ix1 : ∀ w : World, (Instr.index 9 (.string ⟨#[75, 75]⟩) (.int .i64 1)).run Tryd.prog w = .ok (.int .u8 75) w := fun w => by kernel_rfl
    generalize hp : baseP ⟨#[75, 75]⟩ = p at *
    have HP := Lib.hid hp
    clear hp
    go_wp2_with fail
    refine (baseOk_any _ p w1 hE1 hbE HP.out).mono ?_
    rintro e w2 ⟨v2, rfl, hs, hb2⟩
    have H2 := hb1.trans hb2
    have hs0 := hs
    obtain ⟨v0, v1, vm, rfl, _, h0, h1, hm⟩ := hs
    obtain ⟨a0, c0, rfl⟩ := h0.form
    obtain ⟨a1, c1, rfl⟩ := h1.form
    obtain ⟨am, cm, rfl⟩ := hm.form
    clear h0 h1 hm
    have x2 := BoxAt.new w2 #[.string p.name, .slice a0 p.pre0.length c0, .slice a1 p.pre1.length c1, .slice am p.msgs.length cm] 29
    have al2 : Bl w2 (w2.alloc (.cells #[.string p.name, .slice a0 p.pre0.length c0, .slice a1 p.pre1.length c1, .slice am p.msgs.length cm] 29)) := (Bl.refl w2).alloc _
    have hs2 := hs0.bl al2
    have G2 := H2.trans al2
    go_wp2_with fail
    refine (needR_any _ p 0 _ _ hs2 he0 hK0).mono ?_
    rintro e w3 ⟨rfl, hb3⟩
    have al3 : Bl w3 (w3.alloc (.cells #[.bool true, .bool false, .bool true, .bool re, .int .i64 0] 47)) := (Bl.refl w3).alloc _
    have k3 := BoxAt.new w3 #[.bool true, .bool false, .bool true, .bool re, .int .i64 0] 47
    have x3 := (x2.bl hb3).bl al3
    have hs3 := (hs2.bl hb3).bl al3
    have G3 := (G2.trans hb3).trans al3
    obtain ⟨g0, g1, g2, g3⟩ := x3.cells4
    go_wp2_with fail
    refine (needR_any _ p 1 _ _ hs3 he1 hK1).mono ?_
    rintro e w4 ⟨rfl, hb4⟩
    have al4 : Bl w4 (w4.alloc (.cells #[.bool true, .bool e1, .bool true, .bool false, .int .i64 0] 47)) := (Bl.refl w4).alloc _
    have l4 := BoxAt.new w4 #[.bool true, .bool e1, .bool true, .bool false, .int .i64 0] 47
    have k4 := (k3.bl hb4).bl al4
    have G4 := (G3.trans hb4).trans al4
    clear g0 g1 g2 g3
    go_wp2
    generalize w4.alloc (.cells #[.bool true, .bool e1, .bool true, .bool false, .int .i64 0] 47) = W at l4 k4 G4 ⊢
    obtain ⟨p0, p1, p2, p3, p4⟩ := k4.cells5
    obtain ⟨q0, q1, q2, q3, q4⟩ := l4.cells5
    have r0 := cell_regrown p0
    have r1 := cell_regrown p1
    have r2 := cell_regrown p2
    have r3 := cell_regrown p3
    have r4 := cell_regrown p4
    have s0 := cell_regrown q0
    have s1 := cell_regrown q1
    have s2 := cell_regrown q2
    have s3 := cell_regrown q3
    have s4 := cell_regrown q4
    refine wp_region_quiet_below (by kernel_rfl) (by kernel_rfl) ?_
    repeat (go_big_quiet_step ((go_at_call 24; with_reducible exact Calls.regrown_of (awake8_any _ (hE.bl (G4.trans (below_regrown W _ _)))))))
    refine wpQuiet_nil ?_
    intro wq hwq
    obtain ⟨pq, rfl⟩ := hwq
    have hbq := below_regrown W pq.d pq.os
    go_wp2
    go_ret
    exact ⟨rfl, G4.trans hbq⟩
  · obtain ⟨hbE, he0, he1, ⟨re, hK0⟩, ⟨e1, hK1⟩⟩ := okName_parts (show okName ⟨#[75, 88]⟩ false true false false = true by decide +kernel)
    rw [show nm2 8 = ⟨#[75, 88]⟩ from rfl]
    have ix0 : ∀ w : World, (Instr.index 9 (.string ⟨#[75, 88]⟩) (.int .i64 0)).run Tryd.prog w = .ok (.int .u8 75) w := fun w => by kernel_rfl
    have ix1 : ∀ w : World, (Instr.index 9 (.string ⟨#[75, 88]⟩) (.int .i64 1)).run Tryd.prog w = .ok (.int .u8 88) w := fun w => by kernel_rfl
    generalize hp : baseP ⟨#[75, 88]⟩ = p at *
    have HP := Lib.hid hp
    clear hp
    go_wp2_with fail
    refine (baseOk_any _ p w1 hE1 hbE HP.out).mono ?_
    rintro e w2 ⟨v2, rfl, hs, hb2⟩
    have H2 := hb1.trans hb2
    have hs0 := hs
    obtain ⟨v0, v1, vm, rfl, _, h0, h1, hm⟩ := hs
    obtain ⟨a0, c0, rfl⟩ := h0.form
    obtain ⟨a1, c1, rfl⟩ := h1.form
    obtain ⟨am, cm, rfl⟩ := hm.form
    clear h0 h1 hm
    have x2 := BoxAt.new w2 #[.string p.name, .slice a0 p.pre0.length c0, .slice a1 p.pre1.length c1, .slice am p.msgs.length cm] 29
    have al2 : Bl w2 (w2.alloc (.cells #[.string p.name, .slice a0 p.pre0.length c0, .slice a1 p.pre1.length c1, .slice am p.msgs.length cm] 29)) := (Bl.refl w2).alloc _
    have hs2 := hs0.bl al2
    have G2 := H2.trans al2
    go_wp2_with fail
    refine (needR_any _ p 0 _ _ hs2 he0 hK0).mono ?_
    rintro e w3 ⟨rfl, hb3⟩
    have al3 : Bl w3 (w3.alloc (.cells #[.bool true, .bool false, .bool false, .bool re, .int .i64 0] 47)) := (Bl.refl w3).alloc _
    have k3 := BoxAt.new w3 #[.bool true, .bool false, .bool false, .bool re, .int .i64 0] 47
    have x3 := (x2.bl hb3).bl al3
    have hs3 := (hs2.bl hb3).bl al3
    have G3 := (G2.trans hb3).trans al3
    obtain ⟨g0, g1, g2, g3⟩ := x3.cells4
    go_wp2_with fail
    refine (needR_any _ p 1 _ _ hs3 he1 hK1).mono ?_
    rintro e w4 ⟨rfl, hb4⟩
    have al4 : Bl w4 (w4.alloc (.cells #[.bool true, .bool e1, .bool true, .bool false, .int .i64 0] 47)) := (Bl.refl w4).alloc _
    have l4 := BoxAt.new w4 #[.bool true, .bool e1, .bool true, .bool false, .int .i64 0] 47
    have k4 := (k3.bl hb4).bl al4
    have G4 := (G3.trans hb4).trans al4
    clear g0 g1 g2 g3
    go_wp2
    generalize w4.alloc (.cells #[.bool true, .bool e1, .bool true, .bool false, .int .i64 0] 47) = W at l4 k4 G4 ⊢
    obtain ⟨p0, p1, p2, p3, p4⟩ := k4.cells5
    obtain ⟨q0, q1, q2, q3, q4⟩ := l4.cells5
    have r0 := cell_regrown p0
    have r1 := cell_regrown p1
    have r2 := cell_regrown p2
    have r3 := cell_regrown p3
    have r4 := cell_regrown p4
    have s0 := cell_regrown q0
    have s1 := cell_regrown q1
    have s2 := cell_regrown q2
    have s3 := cell_regrown q3
    have s4 := cell_regrown q4
    refine wp_region_quiet_below (by kernel_rfl) (by kernel_rfl) ?_
    repeat (go_big_quiet_step ((go_at_call 24; with_reducible exact Calls.regrown_of (awake8_any _ (hE.bl (G4.trans (below_regrown W _ _)))))))
    refine wpQuiet_nil ?_
    intro wq hwq
    obtain ⟨pq, rfl⟩ := hwq
    have hbq := below_regrown W pq.d pq.os
    go_wp2
    go_ret
    exact ⟨rfl, G4.trans hbq⟩
  · obtain ⟨hbE, he0, he1, ⟨re, hK0⟩, ⟨e1, hK1⟩⟩ := okName_parts (show okName ⟨#[73, 78]⟩ false false true false = true by decide +kernel)
    rw [show nm2 9 = ⟨#[73, 78]⟩ from rfl]
    have ix0 : ∀ w : World, (Instr.index 9 (.string ⟨#[73, 78]⟩) (.int .i64 0)).run Tryd.prog w = .ok (.int .u8 73) w := fun w => by kernel_rfl
    have ix1 : ∀ w : World, (Instr.index 9 (.string ⟨#[73, 78]⟩) (.int .i64 1)).run Tryd.prog w = .ok (.int .u8 78) w := fun w => by kernel_rfl
    generalize hp : baseP ⟨#[73, 78]⟩ = p at *
    have HP := Lib.hid hp
    clear hp
    go_wp2_with fail
    refine (baseOk_any _ p w1 hE1 hbE HP.out).mono ?_
    rintro e w2 ⟨v2, rfl, hs, hb2⟩
    have H2 := hb1.trans hb2
    have hs0 := hs
    obtain ⟨v0, v1, vm, rfl, _, h0, h1, hm⟩ := hs
    obtain ⟨a0, c0, rfl⟩ := h0.form
    obtain ⟨a1, c1, rfl⟩ := h1.form
    obtain ⟨am, cm, rfl⟩ := hm.form
    clear h0 h1 hm
    have x2 := BoxAt.new w2 #[.string p.name, .slice a0 p.pre0.length c0, .slice a1 p.pre1.length c1, .slice am p.msgs.length cm] 29
    have al2 : Bl w2 (w2.alloc (.cells #[.string p.name, .slice a0 p.pre0.length c0, .slice a1 p.pre1.length c1, .slice am p.msgs.length cm] 29)) := (Bl.refl w2).alloc _
    have hs2 := hs0.bl al2
    have G2 := H2.trans al2
    go_wp2_with fail
    refine (needR_any _ p 0 _ _ hs2 he0 hK0).mono ?_
    rintro e w3 ⟨rfl, hb3⟩
    have al3 : Bl w3 (w3.alloc (.cells #[.bool true, .bool false, .bool false, .bool re, .int .i64 0] 47)) := (Bl.refl w3).alloc _
    have k3 := BoxAt.new w3 #[.bool true, .bool false, .bool false, .bool re, .int .i64 0] 47
    have x3 := (x2.bl hb3).bl al3
    have hs3 := (hs2.bl hb3).bl al3
    have G3 := (G2.trans hb3).trans al3
    obtain ⟨g0, g1, g2, g3⟩ := x3.cells4
    go_wp2_with fail
    refine (needR_any _ p 1 _ _ hs3 he1 hK1).mono ?_
    rintro e w4 ⟨rfl, hb4⟩
    have al4 : Bl w4 (w4.alloc (.cells #[.bool false, .bool e1, .bool false, .bool false, .int .i64 0] 47)) := (Bl.refl w4).alloc _
    have l4 := BoxAt.new w4 #[.bool false, .bool e1, .bool false, .bool false, .int .i64 0] 47
    have k4 := (k3.bl hb4).bl al4
    have G4 := (G3.trans hb4).trans al4
    clear g0 g1 g2 g3
    go_wp2
    generalize w4.alloc (.cells #[.bool false, .bool e1, .bool false, .bool false, .int .i64 0] 47) = W at l4 k4 G4 ⊢
    obtain ⟨p0, p1, p2, p3, p4⟩ := k4.cells5
    obtain ⟨q0, q1, q2, q3, q4⟩ := l4.cells5
    have r0 := cell_regrown p0
    have r1 := cell_regrown p1
    have r2 := cell_regrown p2
    have r3 := cell_regrown p3
    have r4 := cell_regrown p4
    have s0 := cell_regrown q0
    have s1 := cell_regrown q1
    have s2 := cell_regrown q2
    have s3 := cell_regrown q3
    have s4 := cell_regrown q4
    refine wp_region_quiet_below (by kernel_rfl) (by kernel_rfl) ?_
    repeat (go_big_quiet_step ((go_at_call 24; with_reducible exact Calls.regrown_of (awake8_any _ (hE.bl (G4.trans (below_regrown W _ _)))))))
    refine wpQuiet_nil ?_
    intro wq hwq
    obtain ⟨pq, rfl⟩ := hwq
    have hbq := below_regrown W pq.d pq.os
    go_wp2
    go_ret
    exact ⟨rfl, G4.trans hbq⟩
  · obtain ⟨hbE, he0, he1, ⟨re, hK0⟩, ⟨e1, hK1⟩⟩ := okName_parts (show okName ⟨#[73, 75]⟩ false false false true = true by decide +kernel)
    rw [show nm2 10 = ⟨#[73, 75]⟩ from rfl]
    have ix0 : ∀ w : World, (Instr.index 9 (.string ⟨#[73, 75]⟩) (.int .i64 0)).run Tryd.prog w = .ok (.int .u8 73) w := fun w => by kernel_rfl
    have ix1 : ∀ w : World, (Instr.index 9 (.string ⟨#[73, 75]⟩) (.int .i64 1)).run Tryd.prog w = .ok (.int .u8 75) w := fun w => by kernel_rfl
    generalize hp : baseP ⟨#[73, 75]⟩ = p at *
    have HP := Lib.hid hp
    clear hp
    go_wp2_with fail
    refine (baseOk_any _ p w1 hE1 hbE HP.out).mono ?_
    rintro e w2 ⟨v2, rfl, hs, hb2⟩
    have H2 := hb1.trans hb2
    have hs0 := hs
    obtain ⟨v0, v1, vm, rfl, _, h0, h1, hm⟩ := hs
    obtain ⟨a0, c0, rfl⟩ := h0.form
    obtain ⟨a1, c1, rfl⟩ := h1.form
    obtain ⟨am, cm, rfl⟩ := hm.form
    clear h0 h1 hm
    have x2 := BoxAt.new w2 #[.string p.name, .slice a0 p.pre0.length c0, .slice a1 p.pre1.length c1, .slice am p.msgs.length cm] 29
    have al2 : Bl w2 (w2.alloc (.cells #[.string p.name, .slice a0 p.pre0.length c0, .slice a1 p.pre1.length c1, .slice am p.msgs.length cm] 29)) := (Bl.refl w2).alloc _
    have hs2 := hs0.bl al2
    have G2 := H2.trans al2
    go_wp2_with fail
    refine (needR_any _ p 0 _ _ hs2 he0 hK0).mono ?_
    rintro e w3 ⟨rfl, hb3⟩
    have al3 : Bl w3 (w3.alloc (.cells #[.bool true, .bool false, .bool true, .bool re, .int .i64 0] 47)) := (Bl.refl w3).alloc _
    have k3 := BoxAt.new w3 #[.bool true, .bool false, .bool true, .bool re, .int .i64 0] 47
    have x3 := (x2.bl hb3).bl al3
    have hs3 := (hs2.bl hb3).bl al3
    have G3 := (G2.trans hb3).trans al3
    obtain ⟨g0, g1, g2, g3⟩ := x3.cells4
    go_wp2_with fail
    refine (needR_any _ p 1 _ _ hs3 he1 hK1).mono ?_
    rintro e w4 ⟨rfl, hb4⟩
    have al4 : Bl w4 (w4.alloc (.cells #[.bool true, .bool e1, .bool false, .bool false, .int .i64 0] 47)) := (Bl.refl w4).alloc _
    have l4 := BoxAt.new w4 #[.bool true, .bool e1, .bool false, .bool false, .int .i64 0] 47
    have k4 := (k3.bl hb4).bl al4
    have G4 := (G3.trans hb4).trans al4
    clear g0 g1 g2 g3
    go_wp2
    generalize w4.alloc (.cells #[.bool true, .bool e1, .bool false, .bool false, .int .i64 0] 47) = W at l4 k4 G4 ⊢
    obtain ⟨p0, p1, p2, p3, p4⟩ := k4.cells5
    obtain ⟨q0, q1, q2, q3, q4⟩ := l4.cells5
    have r0 := cell_regrown p0
    have r1 := cell_regrown p1
    have r2 := cell_regrown p2
    have r3 := cell_regrown p3
    have r4 := cell_regrown p4
    have s0 := cell_regrown q0
    have s1 := cell_regrown q1
    have s2 := cell_regrown q2
    have s3 := cell_regrown q3
    have s4 := cell_regrown q4
    refine wp_region_quiet_below (by kernel_rfl) (by kernel_rfl) ?_
    repeat (go_big_quiet_step ((go_at_call 24; with_reducible exact Calls.regrown_of (awake8_any _ (hE.bl (G4.trans (below_regrown W _ _)))))))
    refine wpQuiet_nil ?_
    intro wq hwq
    obtain ⟨pq, rfl⟩ := hwq
    have hbq := below_regrown W pq.d pq.os
    go_wp2
    go_ret
    exact ⟨rfl, G4.trans hbq⟩
  · obtain ⟨hbE, he0, he1, ⟨re, hK0⟩, ⟨e1, hK1⟩⟩ := okName_parts (show okName ⟨#[73, 88]⟩ false false false false = true by decide +kernel)
    rw [show nm2 11 = ⟨#[73, 88]⟩ from rfl]
    have ix0 : ∀ w : World, (Instr.index 9 (.string ⟨#[73, 88]⟩) (.int .i64 0)).run Tryd.prog w = .ok (.int .u8 73) w := fun w => by kernel_rfl
    have ix1 : ∀ w : World, (Instr.index 9 (.string ⟨#[73, 88]⟩) (.int .i64 1)).run Tryd.prog w = .ok (.int .u8 88) w := fun w => by kernel_rfl
    generalize hp : baseP ⟨#[73, 88]⟩ = p at *
    have HP := Lib.hid hp
    clear hp
    go_wp2_with fail
    refine (baseOk_any _ p w1 hE1 hbE HP.out).mono ?_
    rintro e w2 ⟨v2, rfl, hs, hb2⟩
    have H2 := hb1.trans hb2
    have hs0 := hs
    obtain ⟨v0, v1, vm, rfl, _, h0, h1, hm⟩ := hs
    obtain ⟨a0, c0, rfl⟩ := h0.form
    obtain ⟨a1, c1, rfl⟩ := h1.form
    obtain ⟨am, cm, rfl⟩ := hm.form
    clear h0 h1 hm
    have x2 := BoxAt.new w2 #[.string p.name, .slice a0 p.pre0.length c0, .slice a1 p.pre1.length c1, .slice am p.msgs.length cm] 29
    have al2 : Bl w2 (w2.alloc (.cells #[.string p.name, .slice a0 p.pre0.length c0, .slice a1 p.pre1.length c1, .slice am p.msgs.length cm] 29)) := (Bl.refl w2).alloc _
    have hs2 := hs0.bl al2
    have G2 := H2.trans al2
    go_wp2_with fail
    refine (needR_any _ p 0 _ _ hs2 he0 hK0).mono ?_
    rintro e w3 ⟨rfl, hb3⟩
    have al3 : Bl w3 (w3.alloc (.cells #[.bool true, .bool false, .bool false, .bool re, .int .i64 0] 47)) := (Bl.refl w3).alloc _
    have k3 := BoxAt.new w3 #[.bool true, .bool false, .bool false, .bool re, .int .i64 0] 47
    have x3 := (x2.bl hb3).bl al3
    have hs3 := (hs2.bl hb3).bl al3
    have G3 := (G2.trans hb3).trans al3
    obtain ⟨g0, g1, g2, g3⟩ := x3.cells4
    go_wp2_with fail
    refine (needR_any _ p 1 _ _ hs3 he1 hK1).mono ?_
    rintro e w4 ⟨rfl, hb4⟩
    have al4 : Bl w4 (w4.alloc (.cells #[.bool true, .bool e1, .bool false, .bool false, .int .i64 0] 47)) := (Bl.refl w4).alloc _
    have l4 := BoxAt.new w4 #[.bool true, .bool e1, .bool false, .bool false, .int .i64 0] 47
    have k4 := (k3.bl hb4).bl al4
    have G4 := (G3.trans hb4).trans al4
    clear g0 g1 g2 g3
    go_wp2
    generalize w4.alloc (.cells #[.bool true, .bool e1, .bool false, .bool false, .int .i64 0] 47) = W at l4 k4 G4 ⊢
    obtain ⟨p0, p1, p2, p3, p4⟩ := k4.cells5
    obtain ⟨q0, q1, q2, q3, q4⟩ := l4.cells5
    have r0 := cell_regrown p0
    have r1 := cell_regrown p1
    have r2 := cell_regrown p2
    have r3 := cell_regrown p3
    have r4 := cell_regrown p4
    have s0 := cell_regrown q0
    have s1 := cell_regrown q1
    have s2 := cell_regrown q2
    have s3 := cell_regrown q3
    have s4 := cell_regrown q4
    refine wp_region_quiet_below (by kernel_rfl) (by kernel_rfl) ?_
    repeat (go_big_quiet_step ((go_at_call 24; with_reducible exact Calls.regrown_of (awake8_any _ (hE.bl (G4.trans (below_regrown W _ _)))))))
    refine wpQuiet_nil ?_
    intro wq hwq
    obtain ⟨pq, rfl⟩ := hwq
    have hbq := below_regrown W pq.d pq.os
    go_wp2
    go_ret
    exact ⟨rfl, G4.trans hbq⟩
end Go.Proofs.YtkcmmcgbkihpfaaDoor
