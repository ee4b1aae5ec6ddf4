/- Walk: base.Fallback. -/
import Derived.Test.YtffibiigoikmdaaGreatDoorPsk
import Derived.Deep.RegionHeld3
set_option linter.unusedSimpArgs false
set_option linter.unusedVariables false
namespace Go.Proofs.YtffibiigoikmdaaGreatDoor
open Go.RowKit Go.Sort

theorem SI.box {w : World} {v : Value} {l : List Int} {B : Nat} {vs : List Value} {T : TypeId} (h : SI w v l) (hb : BoxAt w B vs T) (hn : ∀ (i : Nat) (k : IntKind) (n : Int), vs[i]? ≠ some (.int k n)) (i : Nat) (x : Value) : SI (w.setCell ⟨B, i, none⟩ x) v l :=
  ((SI.far h hb hn).other rfl x).1
theorem SM.box {w : World} {v : Value} {l : List Msg} {B : Nat} {vs : List Value} {T : TypeId} (h : SM w v l) (hb : BoxAt w B vs T) (hn : ∀ (i : Nat) (k : IntKind) (n : Int), vs[i]? ≠ some (.int k n)) (i : Nat) (x : Value) : SM (w.setCell ⟨B, i, none⟩ x) v l := by
  obtain ⟨a, c, rfl, hl, hc⟩ := h
  refine ⟨a, c, rfl, hl, fun j hj => ?_⟩
  obtain ⟨b, o, u, rfl, h1, h2, h3⟩ := hc j hj
  have hne : b ≠ B := by
    rintro rfl
    unfold BoxAt at hb
    simp only [World.cell?, hb] at h1
    exact hn _ _ _ (by simpa using h1)
  have e := Below.heap_setCell w ⟨B, i, none⟩ x b hne
  refine ⟨b, o, u, rfl, ?_, ?_, h3.box hb hn i x⟩
  · simp only [World.cell?, e] at h1 ⊢; exact h1
  · simp only [World.cell?, e] at h2 ⊢; exact h2
theorem SP.box {w : World} {v : Value} {p : Pat} {B : Nat} {vs : List Value} {T : TypeId} (h : SP w v p) (hb : BoxAt w B vs T) (hn : ∀ (i : Nat) (k : IntKind) (n : Int), vs[i]? ≠ some (.int k n)) (i : Nat) (x : Value) : SP (w.setCell ⟨B, i, none⟩ x) v p := by
  obtain ⟨v0, v1, vm, rfl, hs, h0, h1, hm⟩ := h
  exact ⟨v0, v1, vm, rfl, hs, h0.box hb hn i x, h1.box hb hn i x, hm.box hb hn i x⟩
theorem SP.set4 {w : World} {v : Value} {p : Pat} {B : Nat} {T : TypeId} {a a' : ByteArray} {p1 p2 p3 q1 q2 q3 : Option Addr} {i j k l m n i' j' k' l' m' n' : Nat} (h : SP w v p)
    (hb : BoxAt w B [.string a, .slice p1 i j, .slice p2 k l, .slice p3 m n] T) :
    SP ((((w.setCell ⟨B, 0, none⟩ (.string a')).setCell ⟨B, 1, none⟩ (.slice q1 i' j')).setCell ⟨B, 2, none⟩ (.slice q2 k' l')).setCell ⟨B, 3, none⟩ (.slice q3 m' n')) v p :=
  (((h.box hb not_int4 0 _).box (hb.set 0 (.string a')) not_int4 1 _).box ((hb.set 0 (.string a')).set 1 (.slice q1 i' j')) not_int4 2 _).box (((hb.set 0 (.string a')).set 1 (.slice q1 i' j')).set 2 (.slice q2 k' l')) not_int4 3 _
theorem OwnP.sp {w : World} {base : Nat} {v : Value} {p : Pat} (h : OwnP w base v p) (hn : p.name.size ≤ 140737488351232) (h0 : p.pre0.length ≤ 17592186043904) (h1 : p.pre1.length ≤ 17592186043904) (hm : p.msgs.length ≤ 4398046510976) : SP w v p := by
  obtain ⟨u0, u1, um, xs, rfl, o0, o1, om, hr, _⟩ := h
  exact ⟨u0, u1, um, rfl, hn, own_SI o0 h0, own_SI o1 h1, own_SM om hr.row hm⟩
theorem SM.tail {w : World} {b o n c : Nat} {m : Msg} {l : List Msg} (h : SM w (.slice (some ⟨b, o, none⟩) n c) (m :: l)) : SM w (.slice (some ⟨b, o + 2, none⟩) (n - 1) (c - 1)) l := by
  obtain ⟨a, c', e, ⟨h1, h2⟩, hc⟩ := h
  injection e with e1 e2 e3
  subst e1 e2 e3
  refine ⟨_, _, rfl, ⟨by simp at h1; omega, by simp at h2; omega⟩, fun j hj => ?_⟩
  obtain ⟨b', o', u, e, g1, g2, g3⟩ := hc (j + 1) (by simp; omega)
  injection e with e
  injection e with e1 e2 _
  subst e1 e2
  refine ⟨b, o + 2, u, rfl, ?_, ?_, by simpa using g3⟩
  · rw [show o + 2 + j * 2 = o + (j + 1) * 2 by omega]; simpa using g1
  · rw [show o + 2 + j * 2 + 1 = o + (j + 1) * 2 + 1 by omega]; simpa using g2

theorem SM.tl {w : World} {b o n c : Nat} {l : List Msg} (h : SM w (.slice (some ⟨b, o, none⟩) n c) l) (hl : 1 ≤ l.length) : SM w (.slice (some ⟨b, o + 2, none⟩) (n - 1) (c - 1)) l.tail := by
  cases l with
  | nil => simp at hl
  | cons m l => exact h.tail
theorem SM.tl2 {w : World} {b o n c : Nat} {l : List Msg} (h : SM w (.slice (some ⟨b, o, none⟩) n c) l) (hl : 1 ≤ l.length) : SM w (.slice (if c = 1 then some ⟨b, o, none⟩ else some ⟨b, o + 2, none⟩) (n - 1) (c - 1)) l.tail := by
  by_cases hc : c = 1
  · rw [if_pos hc]
    obtain ⟨a, c', e, ⟨h1, h2⟩, _⟩ := h
    injection e with e1 e2 e3
    subst e2 e3
    exact ⟨_, _, by rw [List.length_tail], ⟨by rw [List.length_tail]; omega, by rw [List.length_tail]; omega⟩, fun j hj => by rw [List.length_tail] at hj; omega⟩
  · rw [if_neg hc]
    exact h.tl hl
def m0P (p : Pat) : Msg := p.msgs.getD 0 ⟨0, []⟩
def over (t : Int) : Bool := decide (2 < t)
/-- what a pattern falls back to -/
def fallP (p : Pat) : Pat := ⟨p.name, (m0P p).t, p.pre1, p.msgs.tail⟩
def fallBad (p : Pat) : Bool := decide ((m0P p).who ≠ 0) || (m0P p).t.any over || decide (0 < p.pre0.length) || !rightB (fallP p)
def fbE (p : Pat) : Int := if fallBad p then 13 else 0
def fbP (p : Pat) : Pat := if fallBad p then zeroP else fallP p
def fallE (p : Pat) : Int := if !rightB p then 1 else if fallBad p then 13 else 0

theorem fall1_any (t : Int) (w : World) : Calls Tryz.prog 79 #[.int .i64 t] w fun e w' => e = .returned (.bool (over t)) ∧ Bl w w' := by
  go_enter Tryz.func79, Tryz.ntmps79
  go_wp2
  go_ret
  exact ⟨rfl, Bl.refl _⟩
theorem fall1_pays (w : World) : Pays 79 #[] over w where
  enters := fun args W => by simp [callFunc, go_sem, Tryz.func79]; rfl
  calls := fun x W _ => fall1_any x W

set_option maxRecDepth 100000 in
set_option maxHeartbeats 8000000 in
theorem fall_ok (v : Value) (p : Pat) (w : World) (h : SP w v p) (hr : rightB p = true) :
    Calls Tryz.prog 58 #[v] w fun e w' => ∃ v', e = .returned (.tuple #[v', .int .i64 (fbE p)]) ∧ SP w' v' (fbP p) ∧ Bl w w' := by
  have hv := h
  have hsm := ((right_iff p).1 hr).small
  have hl1 : 1 ≤ p.msgs.length := (right_parts hr).2.2.1
  have s0 := hsm.name
  have s1 := hsm.pre0
  have s2 := hsm.pre1
  have s3 := hsm.msgs
  obtain ⟨v0, v1, vm, rfl, hn, h0, h1, hm⟩ := h
  obtain ⟨a0, c0, rfl⟩ := h0.form
  obtain ⟨a1, c1, rfl⟩ := h1.form
  obtain ⟨am, cm, rfl⟩ := hm.form
  clear h0 h1 hm
  have x := (BoxAt.new w #[.string p.name, .slice a0 p.pre0.length c0, .slice a1 p.pre1.length c1, .slice am p.msgs.length cm] 26).alloc (.cells #[.string ⟨#[]⟩, .slice none 0 0, .slice none 0 0, .slice none 0 0] 26)
  have r := BoxAt.new (w.alloc (.cells #[.string p.name, .slice a0 p.pre0.length c0, .slice a1 p.pre1.length c1, .slice am p.msgs.length cm] 26)) #[.string ⟨#[]⟩, .slice none 0 0, .slice none 0 0, .slice none 0 0] 26
  have H : Bl w ((w.alloc (.cells #[.string p.name, .slice a0 p.pre0.length c0, .slice a1 p.pre1.length c1, .slice am p.msgs.length cm] 26)).alloc (.cells #[.string ⟨#[]⟩, .slice none 0 0, .slice none 0 0, .slice none 0 0] 26)) := ((Bl.refl w).alloc _).alloc _
  simp only [size_alloc] at r
  go_enter Tryz.func58, Tryz.ntmps58
  go_wp2_with fail
  refine (rightBB_any _ p _ (hv.bl H) true hr).mono ?_
  rintro e w1 ⟨rfl, hb1⟩
  have r1 := r.bl hb1
  have x1 := x.bl hb1
  have H1 := H.trans hb1
  clear r x H hb1
  obtain ⟨g0, g1, g2, g3⟩ := (⟨x1.cell 0 rfl, x1.cell 1 rfl, x1.cell 2 rfl, x1.cell 3 rfl⟩ : _ ∧ _ ∧ _ ∧ _)
  go_wp2_with fail
  refine (own_any _ p _ (hv.bl H1) hsm).mono ?_
  rintro e w2 ⟨v', rfl, hown, hb2⟩
  have hs2 := hown.sp hn (by omega) (by omega) (by omega)
  have r2 := r1.bl hb2
  have x2 := x1.bl hb2
  have H2 := H1.trans hb2
  clear r1 x1 H1 hb2 g0 g1 g2 g3 hown
  obtain ⟨u0, u1, um, rfl, _, i0, i1, im⟩ := id hs2
  obtain ⟨b0, d0, rfl⟩ := i0.form
  obtain ⟨b1, d1, rfl⟩ := i1.form
  obtain ⟨bm, dm, rfl⟩ := im.form
  obtain ⟨f0, f1, f2, f3⟩ : _ ∧ _ ∧ _ ∧ _ := ⟨x2.free 0, x2.free 1, x2.free 2, x2.free 3⟩
  obtain ⟨g0, g1, g2, g3⟩ := (⟨x2.cell 0 rfl, x2.cell 1 rfl, x2.cell 2 rfl, x2.cell 3 rfl⟩ : _ ∧ _ ∧ _ ∧ _)
  have hs3 : SP _ _ p := hs2.set4 (a' := p.name) (q1 := b0) (q2 := b1) (q3 := bm) (i' := p.pre0.length) (j' := d0) (k' := p.pre1.length) (l' := d1) (m' := p.msgs.length) (n' := dm) x2
  have x3 := x2.set4 (.string p.name) (.slice b0 p.pre0.length d0) (.slice b1 p.pre1.length d1) (.slice bm p.msgs.length dm)
  have r3 := r2.oth4 (B := w.heap.size) (by show w.heap.size + 1 ≠ w.heap.size; omega) (.string p.name) (.slice b0 p.pre0.length d0) (.slice b1 p.pre1.length d1) (.slice bm p.msgs.length dm)
  have H3 := H2.set4 (Nat.le_refl _) (.string p.name) (.slice b0 p.pre0.length d0) (.slice b1 p.pre1.length d1) (.slice bm p.msgs.length dm)
  have hlx := x2.lt
  have hl3 : w.heap.size + 1 < w2.heap.size := r2.lt
  go_upto_region 4 with fail
  have hz3 : ((((w2.setCell ⟨w.heap.size, 0, none⟩ (.string p.name)).setCell ⟨w.heap.size, 1, none⟩ (.slice b0 p.pre0.length d0)).setCell ⟨w.heap.size, 2, none⟩ (.slice b1 p.pre1.length d1)).setCell ⟨w.heap.size, 3, none⟩ (.slice bm p.msgs.length dm)).heap.size = w2.heap.size := by simp
  generalize (((w2.setCell ⟨w.heap.size, 0, none⟩ (.string p.name)).setCell ⟨w.heap.size, 1, none⟩ (.slice b0 p.pre0.length d0)).setCell ⟨w.heap.size, 2, none⟩ (.slice b1 p.pre1.length d1)).setCell ⟨w.heap.size, 3, none⟩ (.slice bm p.msgs.length dm) = W3 at *
  rw [← hz3] at hl3
  clear hz3 hlx x2 r2 H2 f0 f1 f2 f3 g0 g1 g2 g3 i0 i1 im hs2
  obtain ⟨_, _, _, e, _, i0, i1, im⟩ := id hs3
  injection e with e
  simp only [Array.mk.injEq, List.cons.injEq, true_and, and_true] at e
  obtain ⟨rfl, rfl, rfl⟩ := e
  have hcap : p.msgs.length ≤ dm := by
    obtain ⟨_, _, e, hc⟩ := im.formc
    injection e with _ _ e3
    omega
  obtain ⟨b, o, u, rfl, hca, hcb, hu⟩ := im.at 0 (by omega)
  have HM0 : Hid (m0P p = p.msgs[0]) := Lib.hid (by simp [m0P, List.getD, List.getElem?_eq_getElem (show 0 < p.msgs.length by omega)])
  rw [Nat.zero_mul, Nat.add_zero] at hca hcb
  generalize p.msgs[0] = m at *
  obtain ⟨who, l⟩ := m
  simp only at hca hcb hu
  obtain ⟨ua, uc, rfl⟩ := hu.form
  obtain ⟨g0, g1, g2, g3⟩ := (⟨x3.cell 0 rfl, x3.cell 1 rfl, x3.cell 2 rfl, x3.cell 3 rfl⟩ : _ ∧ _ ∧ _ ∧ _)
  have dl : decide ((0 : Int) < (p.msgs.length : Int)) = true := by simp; omega
  have q4 := BoxAt.new W3 #[.int .i64 who, .slice ua l.length uc] 39
  have al : Bl W3 (W3.alloc (.cells #[.int .i64 who, .slice ua l.length uc] 39)) := (Bl.refl W3).alloc _
  have x4 := x3.bl al
  have r4 := r3.bl al
  have hs4 := hs3.bl al
  have hu4 := hu.bl al
  have H4 := H3.trans al
  have hl4 : W3.heap.size < (W3.alloc (.cells #[.int .i64 who, .slice ua l.length uc] 39)).heap.size := by rw [size_alloc]; omega
  go_upto_region 6 with fail
  generalize W3.alloc (.cells #[.int .i64 who, .slice ua l.length uc] 39) = W4 at *
  generalize W3.heap.size = Bf at *
  clear g0 g1 g2 g3 hca hcb x3 r3 hs3 hu H3 al i0 i1 im
  have xD := x4.drew
  have qD := q4.drew
  obtain ⟨g0, g1, g2, g3⟩ := (⟨xD.cell 0 rfl, xD.cell 1 rfl, xD.cell 2 rfl, xD.cell 3 rfl⟩ : _ ∧ _ ∧ _ ∧ _)
  have q0 := qD.cell 0 rfl
  have q1 := qD.cell 1 rfl
  have hd1 : (1 : Int) ≤ (p.msgs.length : Int) := by omega
  have hd2 : (p.msgs.length : Int) ≤ (dm : Int) := by omega
  have sD : W4.drew.cell? ⟨w.heap.size, 0, none⟩ = some (.string p.name) ∧ W4.drew.cell? ⟨w.heap.size, 2, none⟩ = some (.slice b1 p.pre1.length d1) ∧ W4.drew.cell? ⟨w.heap.size, 3, none⟩ = some (.slice (some ⟨b, o, none⟩) p.msgs.length dm) ∧ W4.drew.cell? ⟨Bf, 1, none⟩ = some (.slice ua l.length uc) := ⟨g0, g2, g3, q1⟩
  have nx : w.heap.size ≠ W4.heap.size := by have := H4.size; omega
  have aZ : ∀ cs : Array Value, Bl W4 (W4.alloc (.cells cs 26)).drew := fun cs => ((Bl.refl W4).alloc _).drew
  have sA : ∀ cs : Array Value, _ ∧ _ ∧ _ ∧ _ := fun cs => ⟨(x4.bl (aZ cs)).cell 0 rfl, (x4.bl (aZ cs)).cell 2 rfl, (x4.bl (aZ cs)).cell 3 rfl, (q4.bl (aZ cs)).cell 1 rfl⟩
  go_region_held3 (fun wx : World => wx.cell? ⟨w.heap.size, 0, none⟩ = some (.string p.name) ∧ wx.cell? ⟨w.heap.size, 2, none⟩ = some (.slice b1 p.pre1.length d1) ∧ wx.cell? ⟨w.heap.size, 3, none⟩ = some (.slice (some ⟨b, o, none⟩) p.msgs.length dm) ∧ wx.cell? ⟨Bf, 1, none⟩ = some (.slice ua l.length uc)) (first | with_reducible exact sD | with_reducible exact sA _) (fail)
  have aN := aZ #[.string p.name, .slice ua l.length uc, .slice b1 p.pre1.length d1, .slice (if dm = 1 then some ⟨b, o, none⟩ else some ⟨b, o + 2, none⟩) (p.msgs.length - 1) (dm - 1)]
  have n5 := (BoxAt.new W4 #[.string p.name, .slice ua l.length uc, .slice b1 p.pre1.length d1, .slice (if dm = 1 then some ⟨b, o, none⟩ else some ⟨b, o + 2, none⟩) (p.msgs.length - 1) (dm - 1)] 26).drew
  have x5 := x4.bl aN
  have q5 := q4.bl aN
  have r5 := r4.bl aN
  have H5 := H4.trans aN
  have HN : Hid (fallP p = ⟨p.name, l, p.pre1, p.msgs.tail⟩) := Lib.hid (by unfold fallP; rw [HM0.out])
  have HB : Hid (fallBad p = (decide (who ≠ 0) || l.any over || decide (0 < p.pre0.length) || !rightB (fallP p))) := Lib.hid (by unfold fallBad; rw [HM0.out])
  have hsN : SP (W4.alloc (.cells #[.string p.name, .slice ua l.length uc, .slice b1 p.pre1.length d1, .slice (if dm = 1 then some ⟨b, o, none⟩ else some ⟨b, o + 2, none⟩) (p.msgs.length - 1) (dm - 1)] 26)).drew (.agg #[.string p.name, .slice ua l.length uc, .slice b1 p.pre1.length d1, .slice (if dm = 1 then some ⟨b, o, none⟩ else some ⟨b, o + 2, none⟩) (p.msgs.length - 1) (dm - 1)]) (fallP p) := by
    obtain ⟨_, _, _, e, _, _, k1, km⟩ := hs4.bl aN
    injection e with e
    simp only [Array.mk.injEq, List.cons.injEq, true_and, and_true] at e
    obtain ⟨rfl, rfl, rfl⟩ := e
    rw [HN.out]
    exact ⟨_, _, _, rfl, hn, hu4.bl aN, k1, km.tl2 (by omega)⟩
  have hlN : W4.heap.size < (W4.alloc (.cells #[.string p.name, .slice ua l.length uc, .slice b1 p.pre1.length d1, .slice (if dm = 1 then some ⟨b, o, none⟩ else some ⟨b, o + 2, none⟩) (p.msgs.length - 1) (dm - 1)] 26)).drew.heap.size := n5.lt
  have hB4 : w.heap.size + 1 < W4.heap.size := by have := H4.size; omega
  have huN := hu4.bl aN
  clear g0 g1 g2 g3 q0 q1 sD sA aZ aN xD qD x4 q4 r4 hs4 hu4 H4
  generalize (W4.alloc (.cells #[.string p.name, .slice ua l.length uc, .slice b1 p.pre1.length d1, .slice (if dm = 1 then some ⟨b, o, none⟩ else some ⟨b, o + 2, none⟩) (p.msgs.length - 1) (dm - 1)] 26)).drew = WN at *
  generalize (if dm = 1 then some (⟨b, o, none⟩ : Addr) else some ⟨b, o + 2, none⟩) = na at *
  generalize W4.heap.size = Bn at *
  obtain ⟨q0, q1⟩ : _ ∧ _ := ⟨q5.cell 0 rfl, q5.cell 1 rfl⟩
  by_cases hw : who = 0
  · have dw : (who != 0) = false := by simpa using hw
    have dw' : decide (who ≠ 0) = false := by simpa using hw
    rw [dw'] at HB
    clear hw dw'
    have cC := containsFunc_any 79 #[] over (.slice ua l.length uc) l WN huN (fall1_pays _)
    generalize l.any over = lo at *
    go_wp2_with fail
    refine cC.mono ?_
    rintro e w6 ⟨rfl, hb6⟩
    have x6 := x5.bl hb6
    have n6 := n5.bl hb6
    have r6 := r5.bl hb6
    have H6 := H5.trans hb6
    have hs6 := hsN.bl hb6
    have hl6 := Nat.lt_of_lt_of_le hlN hb6.size
    clear cC q0 q1 x5 n5 r5 H5 hsN huN q5 hb6
    have g1 := x6.cell 1 rfl
    cases lo
    · by_cases hp0 : 0 < p.pre0.length
      · have dp : decide ((0 : Int) < (p.pre0.length : Int)) = true := by rw [decide_eq_true_eq]; omega
        obtain ⟨z0, z1, z2, z3⟩ : _ ∧ _ ∧ _ ∧ _ := ⟨r6.cell 0 rfl, r6.cell 1 rfl, r6.cell 2 rfl, r6.cell 3 rfl⟩
        obtain ⟨f0, f1, f2, f3⟩ : _ ∧ _ ∧ _ ∧ _ := ⟨r6.free 0, r6.free 1, r6.free 2, r6.free 3⟩
        have hlr := r6.lt
        have HR : Hid (fallBad p = true) := Lib.hid (by rw [HB.out]; simp [hp0])
        clear HB
        go_wp2_with fail
        have yf := r6.set4 (.string ⟨#[]⟩) (.slice none 0 0) (.slice none 0 0) (.slice none 0 0)
        obtain ⟨p0, p1, p2, p3⟩ : _ ∧ _ ∧ _ ∧ _ := ⟨yf.cell 0 rfl, yf.cell 1 rfl, yf.cell 2 rfl, yf.cell 3 rfl⟩
        exact bodyPost_ret (v := .tuple #[.agg #[(.string ⟨#[]⟩), (.slice none 0 0), (.slice none 0 0), (.slice none 0 0)], .int .i64 13]) (by simp [results, Tryz.results58, go_sem, p0, p1, p2, p3]) rfl ⟨.agg #[(.string ⟨#[]⟩), (.slice none 0 0), (.slice none 0 0), (.slice none 0 0)], by rw [fbE, HR.out]; rfl, by rw [fbP, HR.out]; exact zero_SP _, H6.set4 (Nat.le_succ _) _ _ _ _⟩
      · have dp : decide ((0 : Int) < (p.pre0.length : Int)) = false := by rw [decide_eq_false_iff_not]; omega
        have dp0 : decide (0 < p.pre0.length) = false := by simpa using hp0
        rw [dp0] at HB
        have hz0 : p.pre0.length = 0 := by omega
        clear dp0 hp0
        obtain ⟨k0, k1, k2, k3⟩ : _ ∧ _ ∧ _ ∧ _ := ⟨n6.cell 0 rfl, n6.cell 1 rfl, n6.cell 2 rfl, n6.cell 3 rfl⟩
        have cR := rightBB_any _ (fallP p) w6 hs6 _ rfl
        generalize hrN : rightB (fallP p) = rn at *
        clear hrN
        go_wp2_with fail
        refine cR.mono ?_
        rintro e w7 ⟨rfl, hb7⟩
        have n7 := n6.bl hb7
        have r7 := r6.bl hb7
        have H7 := H6.trans hb7
        have hs7 := hs6.bl hb7
        clear cR k0 k1 k2 k3 g1 n6 r6 H6 hs6 hb7
        cases rn
        · obtain ⟨z0, z1, z2, z3⟩ : _ ∧ _ ∧ _ ∧ _ := ⟨r7.cell 0 rfl, r7.cell 1 rfl, r7.cell 2 rfl, r7.cell 3 rfl⟩
          obtain ⟨f0, f1, f2, f3⟩ : _ ∧ _ ∧ _ ∧ _ := ⟨r7.free 0, r7.free 1, r7.free 2, r7.free 3⟩
          have hlr := r7.lt
          have HR : Hid (fallBad p = true) := Lib.hid (by rw [HB.out]; rfl)
          clear HB
          go_wp2_with fail
          have yf := r7.set4 (.string ⟨#[]⟩) (.slice none 0 0) (.slice none 0 0) (.slice none 0 0)
          obtain ⟨p0, p1, p2, p3⟩ : _ ∧ _ ∧ _ ∧ _ := ⟨yf.cell 0 rfl, yf.cell 1 rfl, yf.cell 2 rfl, yf.cell 3 rfl⟩
          exact bodyPost_ret (v := .tuple #[.agg #[(.string ⟨#[]⟩), (.slice none 0 0), (.slice none 0 0), (.slice none 0 0)], .int .i64 13]) (by simp [results, Tryz.results58, go_sem, p0, p1, p2, p3]) rfl ⟨.agg #[(.string ⟨#[]⟩), (.slice none 0 0), (.slice none 0 0), (.slice none 0 0)], by rw [fbE, HR.out]; rfl, by rw [fbP, HR.out]; exact zero_SP _, H7.set4 (Nat.le_succ _) _ _ _ _⟩
        · obtain ⟨k0, k1, k2, k3⟩ : _ ∧ _ ∧ _ ∧ _ := ⟨n7.cell 0 rfl, n7.cell 1 rfl, n7.cell 2 rfl, n7.cell 3 rfl⟩
          obtain ⟨z0, z1, z2, z3⟩ : _ ∧ _ ∧ _ ∧ _ := ⟨r7.cell 0 rfl, r7.cell 1 rfl, r7.cell 2 rfl, r7.cell 3 rfl⟩
          obtain ⟨f0, f1, f2, f3⟩ : _ ∧ _ ∧ _ ∧ _ := ⟨r7.free 0, r7.free 1, r7.free 2, r7.free 3⟩
          have hlr := r7.lt
          have HR : Hid (fallBad p = false) := Lib.hid (by rw [HB.out]; rfl)
          clear HB
          go_wp2_with fail
          have yf := r7.set4 (.string p.name) (.slice ua l.length uc) (.slice b1 p.pre1.length d1) (.slice na (p.msgs.length - 1) (dm - 1))
          obtain ⟨p0, p1, p2, p3⟩ : _ ∧ _ ∧ _ ∧ _ := ⟨yf.cell 0 rfl, yf.cell 1 rfl, yf.cell 2 rfl, yf.cell 3 rfl⟩
          exact bodyPost_ret (v := .tuple #[.agg #[(.string p.name), (.slice ua l.length uc), (.slice b1 p.pre1.length d1), (.slice na (p.msgs.length - 1) (dm - 1))], .int .i64 0]) (by simp [results, Tryz.results58, go_sem, p0, p1, p2, p3]) rfl ⟨.agg #[(.string p.name), (.slice ua l.length uc), (.slice b1 p.pre1.length d1), (.slice na (p.msgs.length - 1) (dm - 1))], by rw [fbE, HR.out]; rfl, by rw [fbP, HR.out]; exact hs7.set4 r7, H7.set4 (Nat.le_succ _) _ _ _ _⟩
    · obtain ⟨z0, z1, z2, z3⟩ : _ ∧ _ ∧ _ ∧ _ := ⟨r6.cell 0 rfl, r6.cell 1 rfl, r6.cell 2 rfl, r6.cell 3 rfl⟩
      obtain ⟨f0, f1, f2, f3⟩ : _ ∧ _ ∧ _ ∧ _ := ⟨r6.free 0, r6.free 1, r6.free 2, r6.free 3⟩
      have hlr := r6.lt
      have HR : Hid (fallBad p = true) := Lib.hid (by rw [HB.out]; simp)
      clear HB
      go_wp2_with fail
      have yf := r6.set4 (.string ⟨#[]⟩) (.slice none 0 0) (.slice none 0 0) (.slice none 0 0)
      obtain ⟨p0, p1, p2, p3⟩ : _ ∧ _ ∧ _ ∧ _ := ⟨yf.cell 0 rfl, yf.cell 1 rfl, yf.cell 2 rfl, yf.cell 3 rfl⟩
      exact bodyPost_ret (v := .tuple #[.agg #[(.string ⟨#[]⟩), (.slice none 0 0), (.slice none 0 0), (.slice none 0 0)], .int .i64 13]) (by simp [results, Tryz.results58, go_sem, p0, p1, p2, p3]) rfl ⟨.agg #[(.string ⟨#[]⟩), (.slice none 0 0), (.slice none 0 0), (.slice none 0 0)], by rw [fbE, HR.out]; rfl, by rw [fbP, HR.out]; exact zero_SP _, H6.set4 (Nat.le_succ _) _ _ _ _⟩
  · have dw : (who != 0) = true := by simpa using hw
    have dw' : decide (who ≠ 0) = true := by simpa using hw
    rw [dw'] at HB
    clear hw dw'
    obtain ⟨z0, z1, z2, z3⟩ : _ ∧ _ ∧ _ ∧ _ := ⟨r5.cell 0 rfl, r5.cell 1 rfl, r5.cell 2 rfl, r5.cell 3 rfl⟩
    obtain ⟨f0, f1, f2, f3⟩ : _ ∧ _ ∧ _ ∧ _ := ⟨r5.free 0, r5.free 1, r5.free 2, r5.free 3⟩
    have hlr := r5.lt
    have HR : Hid (fallBad p = true) := Lib.hid (by rw [HB.out]; rfl)
    clear HB
    go_wp2_with fail
    have yf := r5.set4 (.string ⟨#[]⟩) (.slice none 0 0) (.slice none 0 0) (.slice none 0 0)
    obtain ⟨p0, p1, p2, p3⟩ : _ ∧ _ ∧ _ ∧ _ := ⟨yf.cell 0 rfl, yf.cell 1 rfl, yf.cell 2 rfl, yf.cell 3 rfl⟩
    exact bodyPost_ret (v := .tuple #[.agg #[(.string ⟨#[]⟩), (.slice none 0 0), (.slice none 0 0), (.slice none 0 0)], .int .i64 13]) (by simp [results, Tryz.results58, go_sem, p0, p1, p2, p3]) rfl ⟨.agg #[(.string ⟨#[]⟩), (.slice none 0 0), (.slice none 0 0), (.slice none 0 0)], by rw [fbE, HR.out]; rfl, by rw [fbP, HR.out]; exact zero_SP _, H5.set4 (Nat.le_succ _) _ _ _ _⟩

set_option maxRecDepth 100000 in
set_option maxHeartbeats 4000000 in
theorem fall_arg (v : Value) (p : Pat) (w : World) (h : SP w v p) (hr : rightB p = false) :
    Calls Tryz.prog 58 #[v] w fun e w' => ∃ v', e = .returned (.tuple #[v', .int .i64 1]) ∧ SP w' v' zeroP ∧ Bl w w' := by
  have hv := h
  obtain ⟨v0, v1, vm, rfl, hn, h0, h1, hm⟩ := h
  obtain ⟨a0, c0, rfl⟩ := h0.form
  obtain ⟨a1, c1, rfl⟩ := h1.form
  obtain ⟨am, cm, rfl⟩ := hm.form
  clear h0 h1 hm
  have r := BoxAt.new (w.alloc (.cells #[.string p.name, .slice a0 p.pre0.length c0, .slice a1 p.pre1.length c1, .slice am p.msgs.length cm] 26)) #[.string ⟨#[]⟩, .slice none 0 0, .slice none 0 0, .slice none 0 0] 26
  have H : Bl w ((w.alloc (.cells #[.string p.name, .slice a0 p.pre0.length c0, .slice a1 p.pre1.length c1, .slice am p.msgs.length cm] 26)).alloc (.cells #[.string ⟨#[]⟩, .slice none 0 0, .slice none 0 0, .slice none 0 0] 26)) := ((Bl.refl w).alloc _).alloc _
  simp only [size_alloc] at r
  go_enter Tryz.func58, Tryz.ntmps58
  go_wp2_with fail
  refine (rightBB_any _ p _ (hv.bl H) false hr).mono ?_
  rintro e w1 ⟨rfl, hb1⟩
  have r1 := r.bl hb1
  have H1 := H.trans hb1
  obtain ⟨g0, g1, g2, g3⟩ : _ ∧ _ ∧ _ ∧ _ := ⟨r1.cell 0 rfl, r1.cell 1 rfl, r1.cell 2 rfl, r1.cell 3 rfl⟩
  obtain ⟨f0, f1, f2, f3⟩ : _ ∧ _ ∧ _ ∧ _ := ⟨r1.free 0, r1.free 1, r1.free 2, r1.free 3⟩
  have hlr := r1.lt
  go_wp2
  have yf := r1.set4 (.string ⟨#[]⟩) (.slice none 0 0) (.slice none 0 0) (.slice none 0 0)
  obtain ⟨p0, p1, p2, p3⟩ : _ ∧ _ ∧ _ ∧ _ := ⟨yf.cell 0 rfl, yf.cell 1 rfl, yf.cell 2 rfl, yf.cell 3 rfl⟩
  exact bodyPost_ret (v := .tuple #[.agg #[(.string ⟨#[]⟩), (.slice none 0 0), (.slice none 0 0), (.slice none 0 0)], .int .i64 1]) (by simp [results, Tryz.results58, go_sem, p0, p1, p2, p3]) rfl ⟨_, rfl, zero_SP _, H1.set4 (by omega) _ _ _ _⟩

theorem fallback_any (v : Value) (p : Pat) (w : World) (h : SP w v p) :
    Calls Tryz.prog 58 #[v] w fun e w' => ∃ v', e = .returned (.tuple #[v', .int .i64 (fallE p)]) ∧ SP w' v' (if fallE p = 0 then fallP p else zeroP) ∧ Bl w w' := by
  cases hr : rightB p
  · rw [show fallE p = 1 by rw [fallE, hr]; rfl]
    exact fall_arg v p w h hr
  · refine (fall_ok v p w h hr).mono fun e w' ⟨v', he, hs, hb⟩ => ⟨v', ?_, ?_, hb⟩
    · rw [he, fallE, hr]; rfl
    · rw [fallE, hr]
      unfold fbP at hs
      cases hfb : fallBad p
      · rw [hfb] at hs; exact hs
      · rw [hfb] at hs; exact hs
end Go.Proofs.YtffibiigoikmdaaGreatDoor
