/- The card of BaseLetters: for every argument, wherever the listed tables are as laid, the law returns true. -/
import Derived.Test.YtelloecgdiocoaaDoorPsk
import Derived.Deep.RegionHeld3
import Derived.Test.YtelloecgdiocoaaDoorB3
import Derived.Lib.LaidU8
import Derived.Test.YtelloecgdiocoaaDoorFrameN
import Derived.Lib.QuietBelow
import Derived.Test.YtelloecgdiocoaaDoorG4
import Derived.Test.YtelloecgdiocoaaDoorW5
set_option linter.unusedSimpArgs false
set_option linter.unusedVariables false
namespace Go.Proofs.YtelloecgdiocoaaDoor
open Go.RowKit Go.Sort

theorem SI.box {w : World} {v : Value} {l : List Int} {B : Nat} {vs : List Value} {T : TypeId} (h : SI w v l) (hb : BoxAt w B vs T) (hn : ∀ (i : Nat) (k : IntKind) (n : Int), vs[i]? ≠ some (.int k n)) (i : Nat) (x : Value) : SI (w.setCell ⟨B, i, none⟩ x) v l :=
  ((SI.far h hb hn).other rfl x).1
theorem SM.box {w : World} {v : Value} {l : List Msg} {B : Nat} {vs : List Value} {T : TypeId} (h : SM w v l) (hb : BoxAt w B vs T) (hn : ∀ (i : Nat) (k : IntKind) (n : Int), vs[i]? ≠ some (.int k n)) (i : Nat) (x : Value) : SM (w.setCell ⟨B, i, none⟩ x) v l := by
  obtain ⟨a, c, rfl, hl, hc⟩ := h
  refine ⟨a, c, rfl, hl, fun j hj => ?_⟩
  obtain ⟨b, o, u, rfl, h1, h2, h3⟩ := hc j hj
  have hne : b ≠ B := by
    rintro rfl
    unfold BoxAt at hb
    simp only [World.cell?, hb] at h1
    exact hn _ _ _ (by simpa using h1)
  have e := Below.heap_setCell w ⟨B, i, none⟩ x b hne
  refine ⟨b, o, u, rfl, ?_, ?_, h3.box hb hn i x⟩
  · simp only [World.cell?, e] at h1 ⊢; exact h1
  · simp only [World.cell?, e] at h2 ⊢; exact h2
theorem SP.box {w : World} {v : Value} {p : Pat} {B : Nat} {vs : List Value} {T : TypeId} (h : SP w v p) (hb : BoxAt w B vs T) (hn : ∀ (i : Nat) (k : IntKind) (n : Int), vs[i]? ≠ some (.int k n)) (i : Nat) (x : Value) : SP (w.setCell ⟨B, i, none⟩ x) v p := by
  obtain ⟨v0, v1, vm, rfl, hs, h0, h1, hm⟩ := h
  exact ⟨v0, v1, vm, rfl, hs, h0.box hb hn i x, h1.box hb hn i x, hm.box hb hn i x⟩
theorem SP.set4 {w : World} {v : Value} {p : Pat} {B : Nat} {T : TypeId} {a a' : ByteArray} {p1 p2 p3 q1 q2 q3 : Option Addr} {i j k l m n i' j' k' l' m' n' : Nat} (h : SP w v p)
    (hb : BoxAt w B [.string a, .slice p1 i j, .slice p2 k l, .slice p3 m n] T) :
    SP ((((w.setCell ⟨B, 0, none⟩ (.string a')).setCell ⟨B, 1, none⟩ (.slice q1 i' j')).setCell ⟨B, 2, none⟩ (.slice q2 k' l')).setCell ⟨B, 3, none⟩ (.slice q3 m' n')) v p :=
  (((h.box hb not_int4 0 _).box (hb.set 0 (.string a')) not_int4 1 _).box ((hb.set 0 (.string a')).set 1 (.slice q1 i' j')) not_int4 2 _).box (((hb.set 0 (.string a')).set 1 (.slice q1 i' j')).set 2 (.slice q2 k' l')) not_int4 3 _
theorem OwnP.sp {w : World} {base : Nat} {v : Value} {p : Pat} (h : OwnP w base v p) (hn : p.name.size ≤ 140737488351232) (h0 : p.pre0.length ≤ 17592186043904) (h1 : p.pre1.length ≤ 17592186043904) (hm : p.msgs.length ≤ 4398046510976) : SP w v p := by
  obtain ⟨u0, u1, um, xs, rfl, o0, o1, om, hr, _⟩ := h
  exact ⟨u0, u1, um, rfl, hn, own_SI o0 h0, own_SI o1 h1, own_SM om hr.row hm⟩
theorem SM.tail {w : World} {b o n c : Nat} {m : Msg} {l : List Msg} (h : SM w (.slice (some ⟨b, o, none⟩) n c) (m :: l)) : SM w (.slice (some ⟨b, o + 2, none⟩) (n - 1) (c - 1)) l := by
  obtain ⟨a, c', e, ⟨h1, h2⟩, hc⟩ := h
  injection e with e1 e2 e3
  subst e1 e2 e3
  refine ⟨_, _, rfl, ⟨by simp at h1; omega, by simp at h2; omega⟩, fun j hj => ?_⟩
  obtain ⟨b', o', u, e, g1, g2, g3⟩ := hc (j + 1) (by simp; omega)
  injection e with e
  injection e with e1 e2 _
  subst e1 e2
  refine ⟨b, o + 2, u, rfl, ?_, ?_, by simpa using g3⟩
  · rw [show o + 2 + j * 2 = o + (j + 1) * 2 by omega]; simpa using g1
  · rw [show o + 2 + j * 2 + 1 = o + (j + 1) * 2 + 1 by omega]; simpa using g2

theorem SM.tl {w : World} {b o n c : Nat} {l : List Msg} (h : SM w (.slice (some ⟨b, o, none⟩) n c) l) (hl : 1 ≤ l.length) : SM w (.slice (some ⟨b, o + 2, none⟩) (n - 1) (c - 1)) l.tail := by
  cases l with
  | nil => simp at hl
  | cons m l => exact h.tail
theorem SM.tl2 {w : World} {b o n c : Nat} {l : List Msg} (h : SM w (.slice (some ⟨b, o, none⟩) n c) l) (hl : 1 ≤ l.length) : SM w (.slice (if c = 1 then some ⟨b, o, none⟩ else some ⟨b, o + 2, none⟩) (n - 1) (c - 1)) l.tail := by
  by_cases hc : c = 1
  · rw [if_pos hc]
    obtain ⟨a, c', e, ⟨h1, h2⟩, _⟩ := h
    injection e with e1 e2 e3
    subst e2 e3
    exact ⟨_, _, by rw [List.length_tail], ⟨by rw [List.length_tail]; omega, by rw [List.length_tail]; omega⟩, fun j hj => by rw [List.length_tail] at hj; omega⟩
  · rw [if_neg hc]
    exact h.tl hl
def m0P (p : Pat) : Msg := p.msgs.getD 0 ⟨0, []⟩
def over (t : Int) : Bool := decide (2 < t)
/-- what a pattern falls back to -/
def fallP (p : Pat) : Pat := ⟨p.name, (m0P p).t, p.pre1, p.msgs.tail⟩
def fallBad (p : Pat) : Bool := decide ((m0P p).who ≠ 0) || (m0P p).t.any over || decide (0 < p.pre0.length) || !rightB (fallP p)
def fbE (p : Pat) : Int := if fallBad p then 13 else 0
def fbP (p : Pat) : Pat := if fallBad p then zeroP else fallP p
def fallE (p : Pat) : Int := if !rightB p then 1 else if fallBad p then 13 else 0

theorem fall1_any (t : Int) (w : World) : Calls Tryd.prog 55 #[.int .i64 t] w fun e w' => e = .returned (.bool (over t)) ∧ Bl w w' := by
  go_enter Tryd.func55, Tryd.ntmps55
  go_wp2
  go_ret
  exact ⟨rfl, Bl.refl _⟩
theorem fall1_pays (w : World) : Pays 55 #[] over w where
  enters := fun args W => by simp [callFunc, go_sem, Tryd.func55]; rfl
  calls := fun x W _ => fall1_any x W

set_option maxRecDepth 100000 in
set_option maxHeartbeats 8000000 in
theorem fall_ok (v : Value) (p : Pat) (w : World) (h : SP w v p) (hr : rightB p = true) :
    Calls Tryd.prog 31 #[v] w fun e w' => ∃ v', e = .returned (.tuple #[v', .int .i64 (fbE p)]) ∧ SP w' v' (fbP p) ∧ Bl w w' := by
  have hv := h
  have hsm := ((right_iff p).1 hr).small
  have hl1 : 1 ≤ p.msgs.length := (right_parts hr).2.2.1
  have s0 := hsm.name
  have s1 := hsm.pre0
  have s2 := hsm.pre1
  have s3 := hsm.msgs
  obtain ⟨v0, v1, vm, rfl, hn, h0, h1, hm⟩ := h
  obtain ⟨a0, c0, rfl⟩ := h0.form
  obtain ⟨a1, c1, rfl⟩ := h1.form
  obtain ⟨am, cm, rfl⟩ := hm.form
  clear h0 h1 hm
  have x := (BoxAt.new w #[.string p.name, .slice a0 p.pre0.length c0, .slice a1 p.pre1.length c1, .slice am p.msgs.length cm] 29).alloc (.cells #[.string ⟨#[]⟩, .slice none 0 0, .slice none 0 0, .slice none 0 0] 29)
  have r := BoxAt.new (w.alloc (.cells #[.string p.name, .slice a0 p.pre0.length c0, .slice a1 p.pre1.length c1, .slice am p.msgs.length cm] 29)) #[.string ⟨#[]⟩, .slice none 0 0, .slice none 0 0, .slice none 0 0] 29
  have H : Bl w ((w.alloc (.cells #[.string p.name, .slice a0 p.pre0.length c0, .slice a1 p.pre1.length c1, .slice am p.msgs.length cm] 29)).alloc (.cells #[.string ⟨#[]⟩, .slice none 0 0, .slice none 0 0, .slice none 0 0] 29)) := ((Bl.refl w).alloc _).alloc _
  simp only [size_alloc] at r
  go_enter Tryd.func31, Tryd.ntmps31
  go_wp2_with fail
  refine (rightBB_any _ p _ (hv.bl H) true hr).mono ?_
  rintro e w1 ⟨rfl, hb1⟩
  have r1 := r.bl hb1
  have x1 := x.bl hb1
  have H1 := H.trans hb1
  clear r x H hb1
  obtain ⟨g0, g1, g2, g3⟩ := (⟨x1.cell 0 rfl, x1.cell 1 rfl, x1.cell 2 rfl, x1.cell 3 rfl⟩ : _ ∧ _ ∧ _ ∧ _)
  go_wp2_with fail
  refine (own_any _ p _ (hv.bl H1) hsm).mono ?_
  rintro e w2 ⟨v', rfl, hown, hb2⟩
  have hs2 := hown.sp hn (by omega) (by omega) (by omega)
  have r2 := r1.bl hb2
  have x2 := x1.bl hb2
  have H2 := H1.trans hb2
  clear r1 x1 H1 hb2 g0 g1 g2 g3 hown
  obtain ⟨u0, u1, um, rfl, _, i0, i1, im⟩ := id hs2
  obtain ⟨b0, d0, rfl⟩ := i0.form
  obtain ⟨b1, d1, rfl⟩ := i1.form
  obtain ⟨bm, dm, rfl⟩ := im.form
  obtain ⟨f0, f1, f2, f3⟩ : _ ∧ _ ∧ _ ∧ _ := ⟨x2.free 0, x2.free 1, x2.free 2, x2.free 3⟩
  obtain ⟨g0, g1, g2, g3⟩ := (⟨x2.cell 0 rfl, x2.cell 1 rfl, x2.cell 2 rfl, x2.cell 3 rfl⟩ : _ ∧ _ ∧ _ ∧ _)
  have hs3 : SP _ _ p := hs2.set4 (a' := p.name) (q1 := b0) (q2 := b1) (q3 := bm) (i' := p.pre0.length) (j' := d0) (k' := p.pre1.length) (l' := d1) (m' := p.msgs.length) (n' := dm) x2
  have x3 := x2.set4 (.string p.name) (.slice b0 p.pre0.length d0) (.slice b1 p.pre1.length d1) (.slice bm p.msgs.length dm)
  have r3 := r2.oth4 (B := w.heap.size) (by show w.heap.size + 1 ≠ w.heap.size; omega) (.string p.name) (.slice b0 p.pre0.length d0) (.slice b1 p.pre1.length d1) (.slice bm p.msgs.length dm)
  have H3 := H2.set4 (Nat.le_refl _) (.string p.name) (.slice b0 p.pre0.length d0) (.slice b1 p.pre1.length d1) (.slice bm p.msgs.length dm)
  have hlx := x2.lt
  have hl3 : w.heap.size + 1 < w2.heap.size := r2.lt
  go_upto_region 4 with fail
  have hz3 : ((((w2.setCell ⟨w.heap.size, 0, none⟩ (.string p.name)).setCell ⟨w.heap.size, 1, none⟩ (.slice b0 p.pre0.length d0)).setCell ⟨w.heap.size, 2, none⟩ (.slice b1 p.pre1.length d1)).setCell ⟨w.heap.size, 3, none⟩ (.slice bm p.msgs.length dm)).heap.size = w2.heap.size := by simp
  generalize (((w2.setCell ⟨w.heap.size, 0, none⟩ (.string p.name)).setCell ⟨w.heap.size, 1, none⟩ (.slice b0 p.pre0.length d0)).setCell ⟨w.heap.size, 2, none⟩ (.slice b1 p.pre1.length d1)).setCell ⟨w.heap.size, 3, none⟩ (.slice bm p.msgs.length dm) = W3 at *
  rw [← hz3] at hl3
  clear hz3 hlx x2 r2 H2 f0 f1 f2 f3 g0 g1 g2 g3 i0 i1 im hs2
  obtain ⟨_, _, _, e, _, i0, i1, im⟩ := id hs3
  injection e with e
  simp only [Array.mk.injEq, List.cons.injEq, true_and, and_true] at e
  obtain ⟨rfl, rfl, rfl⟩ := e
  have hcap : p.msgs.length ≤ dm := by
    obtain ⟨_, _, e, hc⟩ := im.formc
    injection e with _ _ e3
    omega
  obtain ⟨b, o, u, rfl, hca, hcb, hu⟩ := im.at 0 (by omega)
  have HM0 : Hid (m0P p = p.msgs[0]) := Lib.hid (by simp [m0P, List.getD, List.getElem?_eq_getElem (show 0 < p.msgs.length by omega)])
  rw [Nat.zero_mul, Nat.add_zero] at hca hcb
  generalize p.msgs[0] = m at *
  obtain ⟨who, l⟩ := m
  simp only at hca hcb hu
  obtain ⟨ua, uc, rfl⟩ := hu.form
  obtain ⟨g0, g1, g2, g3⟩ := (⟨x3.cell 0 rfl, x3.cell 1 rfl, x3.cell 2 rfl, x3.cell 3 rfl⟩ : _ ∧ _ ∧ _ ∧ _)
  have dl : decide ((0 : Int) < (p.msgs.length : Int)) = true := by simp; omega
  have q4 := BoxAt.new W3 #[.int .i64 who, .slice ua l.length uc] 65
  have al : Bl W3 (W3.alloc (.cells #[.int .i64 who, .slice ua l.length uc] 65)) := (Bl.refl W3).alloc _
  have x4 := x3.bl al
  have r4 := r3.bl al
  have hs4 := hs3.bl al
  have hu4 := hu.bl al
  have H4 := H3.trans al
  have hl4 : W3.heap.size < (W3.alloc (.cells #[.int .i64 who, .slice ua l.length uc] 65)).heap.size := by rw [size_alloc]; omega
  go_upto_region 6 with fail
  generalize W3.alloc (.cells #[.int .i64 who, .slice ua l.length uc] 65) = W4 at *
  generalize W3.heap.size = Bf at *
  clear g0 g1 g2 g3 hca hcb x3 r3 hs3 hu H3 al i0 i1 im
  have xD := x4.drew
  have qD := q4.drew
  obtain ⟨g0, g1, g2, g3⟩ := (⟨xD.cell 0 rfl, xD.cell 1 rfl, xD.cell 2 rfl, xD.cell 3 rfl⟩ : _ ∧ _ ∧ _ ∧ _)
  have q0 := qD.cell 0 rfl
  have q1 := qD.cell 1 rfl
  have hd1 : (1 : Int) ≤ (p.msgs.length : Int) := by omega
  have hd2 : (p.msgs.length : Int) ≤ (dm : Int) := by omega
  have sD : W4.drew.cell? ⟨w.heap.size, 0, none⟩ = some (.string p.name) ∧ W4.drew.cell? ⟨w.heap.size, 2, none⟩ = some (.slice b1 p.pre1.length d1) ∧ W4.drew.cell? ⟨w.heap.size, 3, none⟩ = some (.slice (some ⟨b, o, none⟩) p.msgs.length dm) ∧ W4.drew.cell? ⟨Bf, 1, none⟩ = some (.slice ua l.length uc) := ⟨g0, g2, g3, q1⟩
  have nx : w.heap.size ≠ W4.heap.size := by have := H4.size; omega
  have aZ : ∀ cs : Array Value, Bl W4 (W4.alloc (.cells cs 29)).drew := fun cs => ((Bl.refl W4).alloc _).drew
  have sA : ∀ cs : Array Value, _ ∧ _ ∧ _ ∧ _ := fun cs => ⟨(x4.bl (aZ cs)).cell 0 rfl, (x4.bl (aZ cs)).cell 2 rfl, (x4.bl (aZ cs)).cell 3 rfl, (q4.bl (aZ cs)).cell 1 rfl⟩
  go_region_held3 (fun wx : World => wx.cell? ⟨w.heap.size, 0, none⟩ = some (.string p.name) ∧ wx.cell? ⟨w.heap.size, 2, none⟩ = some (.slice b1 p.pre1.length d1) ∧ wx.cell? ⟨w.heap.size, 3, none⟩ = some (.slice (some ⟨b, o, none⟩) p.msgs.length dm) ∧ wx.cell? ⟨Bf, 1, none⟩ = some (.slice ua l.length uc)) (first | with_reducible exact sD | with_reducible exact sA _) (fail)
  have aN := aZ #[.string p.name, .slice ua l.length uc, .slice b1 p.pre1.length d1, .slice (if dm = 1 then some ⟨b, o, none⟩ else some ⟨b, o + 2, none⟩) (p.msgs.length - 1) (dm - 1)]
  have n5 := (BoxAt.new W4 #[.string p.name, .slice ua l.length uc, .slice b1 p.pre1.length d1, .slice (if dm = 1 then some ⟨b, o, none⟩ else some ⟨b, o + 2, none⟩) (p.msgs.length - 1) (dm - 1)] 29).drew
  have x5 := x4.bl aN
  have q5 := q4.bl aN
  have r5 := r4.bl aN
  have H5 := H4.trans aN
  have HN : Hid (fallP p = ⟨p.name, l, p.pre1, p.msgs.tail⟩) := Lib.hid (by unfold fallP; rw [HM0.out])
  have HB : Hid (fallBad p = (decide (who ≠ 0) || l.any over || decide (0 < p.pre0.length) || !rightB (fallP p))) := Lib.hid (by unfold fallBad; rw [HM0.out])
  have hsN : SP (W4.alloc (.cells #[.string p.name, .slice ua l.length uc, .slice b1 p.pre1.length d1, .slice (if dm = 1 then some ⟨b, o, none⟩ else some ⟨b, o + 2, none⟩) (p.msgs.length - 1) (dm - 1)] 29)).drew (.agg #[.string p.name, .slice ua l.length uc, .slice b1 p.pre1.length d1, .slice (if dm = 1 then some ⟨b, o, none⟩ else some ⟨b, o + 2, none⟩) (p.msgs.length - 1) (dm - 1)]) (fallP p) := by
    obtain ⟨_, _, _, e, _, _, k1, km⟩ := hs4.bl aN
    injection e with e
    simp only [Array.mk.injEq, List.cons.injEq, true_and, and_true] at e
    obtain ⟨rfl, rfl, rfl⟩ := e
    rw [HN.out]
    exact ⟨_, _, _, rfl, hn, hu4.bl aN, k1, km.tl2 (by omega)⟩
  have hlN : W4.heap.size < (W4.alloc (.cells #[.string p.name, .slice ua l.length uc, .slice b1 p.pre1.length d1, .slice (if dm = 1 then some ⟨b, o, none⟩ else some ⟨b, o + 2, none⟩) (p.msgs.length - 1) (dm - 1)] 29)).drew.heap.size := n5.lt
  have hB4 : w.heap.size + 1 < W4.heap.size := by have := H4.size; omega
  have huN := hu4.bl aN
  clear g0 g1 g2 g3 q0 q1 sD sA aZ aN xD qD x4 q4 r4 hs4 hu4 H4
  generalize (W4.alloc (.cells #[.string p.name, .slice ua l.length uc, .slice b1 p.pre1.length d1, .slice (if dm = 1 then some ⟨b, o, none⟩ else some ⟨b, o + 2, none⟩) (p.msgs.length - 1) (dm - 1)] 29)).drew = WN at *
  generalize (if dm = 1 then some (⟨b, o, none⟩ : Addr) else some ⟨b, o + 2, none⟩) = na at *
  generalize W4.heap.size = Bn at *
  obtain ⟨q0, q1⟩ : _ ∧ _ := ⟨q5.cell 0 rfl, q5.cell 1 rfl⟩
  by_cases hw : who = 0
  · have dw : (who != 0) = false := by simpa using hw
    have dw' : decide (who ≠ 0) = false := by simpa using hw
    rw [dw'] at HB
    clear hw dw'
    have cC := containsFunc_any 55 #[] over (.slice ua l.length uc) l WN huN (fall1_pays _)
    generalize l.any over = lo at *
    go_wp2_with fail
    refine cC.mono ?_
    rintro e w6 ⟨rfl, hb6⟩
    have x6 := x5.bl hb6
    have n6 := n5.bl hb6
    have r6 := r5.bl hb6
    have H6 := H5.trans hb6
    have hs6 := hsN.bl hb6
    have hl6 := Nat.lt_of_lt_of_le hlN hb6.size
    clear cC q0 q1 x5 n5 r5 H5 hsN huN q5 hb6
    have g1 := x6.cell 1 rfl
    cases lo
    · by_cases hp0 : 0 < p.pre0.length
      · have dp : decide ((0 : Int) < (p.pre0.length : Int)) = true := by rw [decide_eq_true_eq]; omega
        obtain ⟨z0, z1, z2, z3⟩ : _ ∧ _ ∧ _ ∧ _ := ⟨r6.cell 0 rfl, r6.cell 1 rfl, r6.cell 2 rfl, r6.cell 3 rfl⟩
        obtain ⟨f0, f1, f2, f3⟩ : _ ∧ _ ∧ _ ∧ _ := ⟨r6.free 0, r6.free 1, r6.free 2, r6.free 3⟩
        have hlr := r6.lt
        have HR : Hid (fallBad p = true) := Lib.hid (by rw [HB.out]; simp [hp0])
        clear HB
        go_wp2_with fail
        have yf := r6.set4 (.string ⟨#[]⟩) (.slice none 0 0) (.slice none 0 0) (.slice none 0 0)
        obtain ⟨p0, p1, p2, p3⟩ : _ ∧ _ ∧ _ ∧ _ := ⟨yf.cell 0 rfl, yf.cell 1 rfl, yf.cell 2 rfl, yf.cell 3 rfl⟩
        exact bodyPost_ret (v := .tuple #[.agg #[(.string ⟨#[]⟩), (.slice none 0 0), (.slice none 0 0), (.slice none 0 0)], .int .i64 13]) (by simp [results, Tryd.results31, go_sem, p0, p1, p2, p3]) rfl ⟨.agg #[(.string ⟨#[]⟩), (.slice none 0 0), (.slice none 0 0), (.slice none 0 0)], by rw [fbE, HR.out]; rfl, by rw [fbP, HR.out]; exact zero_SP _, H6.set4 (Nat.le_succ _) _ _ _ _⟩
      · have dp : decide ((0 : Int) < (p.pre0.length : Int)) = false := by rw [decide_eq_false_iff_not]; omega
        have dp0 : decide (0 < p.pre0.length) = false := by simpa using hp0
        rw [dp0] at HB
        have hz0 : p.pre0.length = 0 := by omega
        clear dp0 hp0
        obtain ⟨k0, k1, k2, k3⟩ : _ ∧ _ ∧ _ ∧ _ := ⟨n6.cell 0 rfl, n6.cell 1 rfl, n6.cell 2 rfl, n6.cell 3 rfl⟩
        have cR := rightBB_any _ (fallP p) w6 hs6 _ rfl
        generalize hrN : rightB (fallP p) = rn at *
        clear hrN
        go_wp2_with fail
        refine cR.mono ?_
        rintro e w7 ⟨rfl, hb7⟩
        have n7 := n6.bl hb7
        have r7 := r6.bl hb7
        have H7 := H6.trans hb7
        have hs7 := hs6.bl hb7
        clear cR k0 k1 k2 k3 g1 n6 r6 H6 hs6 hb7
        cases rn
        · obtain ⟨z0, z1, z2, z3⟩ : _ ∧ _ ∧ _ ∧ _ := ⟨r7.cell 0 rfl, r7.cell 1 rfl, r7.cell 2 rfl, r7.cell 3 rfl⟩
          obtain ⟨f0, f1, f2, f3⟩ : _ ∧ _ ∧ _ ∧ _ := ⟨r7.free 0, r7.free 1, r7.free 2, r7.free 3⟩
          have hlr := r7.lt
          have HR : Hid (fallBad p = true) := Lib.hid (by rw [HB.out]; rfl)
          clear HB
          go_wp2_with fail
          have yf := r7.set4 (.string ⟨#[]⟩) (.slice none 0 0) (.slice none 0 0) (.slice none 0 0)
          obtain ⟨p0, p1, p2, p3⟩ : _ ∧ _ ∧ _ ∧ _ := ⟨yf.cell 0 rfl, yf.cell 1 rfl, yf.cell 2 rfl, yf.cell 3 rfl⟩
          exact bodyPost_ret (v := .tuple #[.agg #[(.string ⟨#[]⟩), (.slice none 0 0), (.slice none 0 0), (.slice none 0 0)], .int .i64 13]) (by simp [results, Tryd.results31, go_sem, p0, p1, p2, p3]) rfl ⟨.agg #[(.string ⟨#[]⟩), (.slice none 0 0), (.slice none 0 0), (.slice none 0 0)], by rw [fbE, HR.out]; rfl, by rw [fbP, HR.out]; exact zero_SP _, H7.set4 (Nat.le_succ _) _ _ _ _⟩
        · obtain ⟨k0, k1, k2, k3⟩ : _ ∧ _ ∧ _ ∧ _ := ⟨n7.cell 0 rfl, n7.cell 1 rfl, n7.cell 2 rfl, n7.cell 3 rfl⟩
          obtain ⟨z0, z1, z2, z3⟩ : _ ∧ _ ∧ _ ∧ _ := ⟨r7.cell 0 rfl, r7.cell 1 rfl, r7.cell 2 rfl, r7.cell 3 rfl⟩
          obtain ⟨f0, f1, f2, f3⟩ : _ ∧ _ ∧ _ ∧ _ := ⟨r7.free 0, r7.free 1, r7.free 2, r7.free 3⟩
          have hlr := r7.lt
          have HR : Hid (fallBad p = false) := Lib.hid (by rw [HB.out]; rfl)
          clear HB
          go_wp2_with fail
          have yf := r7.set4 (.string p.name) (.slice ua l.length uc) (.slice b1 p.pre1.length d1) (.slice na (p.msgs.length - 1) (dm - 1))
          obtain ⟨p0, p1, p2, p3⟩ : _ ∧ _ ∧ _ ∧ _ := ⟨yf.cell 0 rfl, yf.cell 1 rfl, yf.cell 2 rfl, yf.cell 3 rfl⟩
          exact bodyPost_ret (v := .tuple #[.agg #[(.string p.name), (.slice ua l.length uc), (.slice b1 p.pre1.length d1), (.slice na (p.msgs.length - 1) (dm - 1))], .int .i64 0]) (by simp [results, Tryd.results31, go_sem, p0, p1, p2, p3]) rfl ⟨.agg #[(.string p.name), (.slice ua l.length uc), (.slice b1 p.pre1.length d1), (.slice na (p.msgs.length - 1) (dm - 1))], by rw [fbE, HR.out]; rfl, by rw [fbP, HR.out]; exact hs7.set4 r7, H7.set4 (Nat.le_succ _) _ _ _ _⟩
    · obtain ⟨z0, z1, z2, z3⟩ : _ ∧ _ ∧ _ ∧ _ := ⟨r6.cell 0 rfl, r6.cell 1 rfl, r6.cell 2 rfl, r6.cell 3 rfl⟩
      obtain ⟨f0, f1, f2, f3⟩ : _ ∧ _ ∧ _ ∧ _ := ⟨r6.free 0, r6.free 1, r6.free 2, r6.free 3⟩
      have hlr := r6.lt
      have HR : Hid (fallBad p = true) := Lib.hid (by rw [HB.out]; simp)
      clear HB
      go_wp2_with fail
      have yf := r6.set4 (.string ⟨#[]⟩) (.slice none 0 0) (.slice none 0 0) (.slice none 0 0)
      obtain ⟨p0, p1, p2, p3⟩ : _ ∧ _ ∧ _ ∧ _ := ⟨yf.cell 0 rfl, yf.cell 1 rfl, yf.cell 2 rfl, yf.cell 3 rfl⟩
      exact bodyPost_ret (v := .tuple #[.agg #[(.string ⟨#[]⟩), (.slice none 0 0), (.slice none 0 0), (.slice none 0 0)], .int .i64 13]) (by simp [results, Tryd.results31, go_sem, p0, p1, p2, p3]) rfl ⟨.agg #[(.string ⟨#[]⟩), (.slice none 0 0), (.slice none 0 0), (.slice none 0 0)], by rw [fbE, HR.out]; rfl, by rw [fbP, HR.out]; exact zero_SP _, H6.set4 (Nat.le_succ _) _ _ _ _⟩
  · have dw : (who != 0) = true := by simpa using hw
    have dw' : decide (who ≠ 0) = true := by simpa using hw
    rw [dw'] at HB
    clear hw dw'
    obtain ⟨z0, z1, z2, z3⟩ : _ ∧ _ ∧ _ ∧ _ := ⟨r5.cell 0 rfl, r5.cell 1 rfl, r5.cell 2 rfl, r5.cell 3 rfl⟩
    obtain ⟨f0, f1, f2, f3⟩ : _ ∧ _ ∧ _ ∧ _ := ⟨r5.free 0, r5.free 1, r5.free 2, r5.free 3⟩
    have hlr := r5.lt
    have HR : Hid (fallBad p = true) := Lib.hid (by rw [HB.out]; rfl)
    clear HB
    go_wp2_with fail
    have yf := r5.set4 (.string ⟨#[]⟩) (.slice none 0 0) (.slice none 0 0) (.slice none 0 0)
    obtain ⟨p0, p1, p2, p3⟩ : _ ∧ _ ∧ _ ∧ _ := ⟨yf.cell 0 rfl, yf.cell 1 rfl, yf.cell 2 rfl, yf.cell 3 rfl⟩
    exact bodyPost_ret (v := .tuple #[.agg #[(.string ⟨#[]⟩), (.slice none 0 0), (.slice none 0 0), (.slice none 0 0)], .int .i64 13]) (by simp [results, Tryd.results31, go_sem, p0, p1, p2, p3]) rfl ⟨.agg #[(.string ⟨#[]⟩), (.slice none 0 0), (.slice none 0 0), (.slice none 0 0)], by rw [fbE, HR.out]; rfl, by rw [fbP, HR.out]; exact zero_SP _, H5.set4 (Nat.le_succ _) _ _ _ _⟩

set_option maxRecDepth 100000 in
set_option maxHeartbeats 4000000 in
theorem fall_arg (v : Value) (p : Pat) (w : World) (h : SP w v p) (hr : rightB p = false) :
    Calls Tryd.prog 31 #[v] w fun e w' => ∃ v', e = .returned (.tuple #[v', .int .i64 1]) ∧ SP w' v' zeroP ∧ Bl w w' := by
  have hv := h
  obtain ⟨v0, v1, vm, rfl, hn, h0, h1, hm⟩ := h
  obtain ⟨a0, c0, rfl⟩ := h0.form
  obtain ⟨a1, c1, rfl⟩ := h1.form
  obtain ⟨am, cm, rfl⟩ := hm.form
  clear h0 h1 hm
  have r := BoxAt.new (w.alloc (.cells #[.string p.name, .slice a0 p.pre0.length c0, .slice a1 p.pre1.length c1, .slice am p.msgs.length cm] 29)) #[.string ⟨#[]⟩, .slice none 0 0, .slice none 0 0, .slice none 0 0] 29
  have H : Bl w ((w.alloc (.cells #[.string p.name, .slice a0 p.pre0.length c0, .slice a1 p.pre1.length c1, .slice am p.msgs.length cm] 29)).alloc (.cells #[.string ⟨#[]⟩, .slice none 0 0, .slice none 0 0, .slice none 0 0] 29)) := ((Bl.refl w).alloc _).alloc _
  simp only [size_alloc] at r
  go_enter Tryd.func31, Tryd.ntmps31
  go_wp2_with fail
  refine (rightBB_any _ p _ (hv.bl H) false hr).mono ?_
  rintro e w1 ⟨rfl, hb1⟩
  have r1 := r.bl hb1
  have H1 := H.trans hb1
  obtain ⟨g0, g1, g2, g3⟩ : _ ∧ _ ∧ _ ∧ _ := ⟨r1.cell 0 rfl, r1.cell 1 rfl, r1.cell 2 rfl, r1.cell 3 rfl⟩
  obtain ⟨f0, f1, f2, f3⟩ : _ ∧ _ ∧ _ ∧ _ := ⟨r1.free 0, r1.free 1, r1.free 2, r1.free 3⟩
  have hlr := r1.lt
  go_wp2
  have yf := r1.set4 (.string ⟨#[]⟩) (.slice none 0 0) (.slice none 0 0) (.slice none 0 0)
  obtain ⟨p0, p1, p2, p3⟩ : _ ∧ _ ∧ _ ∧ _ := ⟨yf.cell 0 rfl, yf.cell 1 rfl, yf.cell 2 rfl, yf.cell 3 rfl⟩
  exact bodyPost_ret (v := .tuple #[.agg #[(.string ⟨#[]⟩), (.slice none 0 0), (.slice none 0 0), (.slice none 0 0)], .int .i64 1]) (by simp [results, Tryd.results31, go_sem, p0, p1, p2, p3]) rfl ⟨_, rfl, zero_SP _, H1.set4 (by omega) _ _ _ _⟩

theorem fallback_any (v : Value) (p : Pat) (w : World) (h : SP w v p) :
    Calls Tryd.prog 31 #[v] w fun e w' => ∃ v', e = .returned (.tuple #[v', .int .i64 (fallE p)]) ∧ SP w' v' (if fallE p = 0 then fallP p else zeroP) ∧ Bl w w' := by
  cases hr : rightB p
  · rw [show fallE p = 1 by rw [fallE, hr]; rfl]
    exact fall_arg v p w h hr
  · refine (fall_ok v p w h hr).mono fun e w' ⟨v', he, hs, hb⟩ => ⟨v', ?_, ?_, hb⟩
    · rw [he, fallE, hr]; rfl
    · rw [fallE, hr]
      unfold fbP at hs
      cases hfb : fallBad p
      · rw [hfb] at hs; exact hs
      · rw [hfb] at hs; exact hs
end Go.Proofs.YtelloecgdiocoaaDoor

set_option linter.unusedSimpArgs false
set_option linter.unusedVariables false
namespace Go.Proofs.YtelloecgdiocoaaDoor
open Go.RowKit Go.Sort

def pskL : List UInt8 := [112, 115, 107]
def fbL : List UInt8 := [102, 97, 108, 108, 98, 97, 99, 107]
/-- the number behind psk -/
def digS (s : ByteArray) : Option Nat :=
  if Lib.hasPrefix s.data.toList pskL then (match Lib.trimPrefix s.data.toList pskL with
    | [c] => if 48 ≤ c.toNat ∧ c.toNat ≤ 57 then some (c.toNat - 48) else none
    | _ => none) else none
def modE (q : Pat) (s : ByteArray) : Int := if s.toList = fbL then fallE q else match digS s with | some n => pskE q n | none => 4
def modP (q : Pat) (s : ByteArray) : Pat := if s.toList = fbL then fallP q else match digS s with | some n => pskP q n | none => zeroP
def modR (q : Pat) (s : ByteArray) : Pat := if modE q s = 0 then modP q s else zeroP
theorem mod_fb {q : Pat} {s : ByteArray} (h : s.toList = fbL) : modE q s = fallE q ∧ modR q s = if fallE q = 0 then fallP q else zeroP := by
  have e : modE q s = fallE q := if_pos h
  have e2 : modP q s = fallP q := if_pos h
  exact ⟨e, by rw [modR, e, e2]⟩
theorem mod_dig {q : Pat} {s : ByteArray} {n : Nat} (h : ¬ s.toList = fbL) (hd : digS s = some n) : modE q s = pskE q n ∧ modR q s = if pskE q n = 0 then pskP q n else zeroP := by
  have e : modE q s = pskE q n := by rw [modE, if_neg h, hd]
  have e2 : modP q s = pskP q n := by rw [modP, if_neg h, hd]
  exact ⟨e, by rw [modR, e, e2]⟩
theorem mod_no {q : Pat} {s : ByteArray} (h : ¬ s.toList = fbL) (hd : digS s = none) : modE q s = 4 ∧ modR q s = zeroP := by
  have e : modE q s = 4 := by rw [modE, if_neg h, hd]
  exact ⟨e, by rw [modR, e, if_neg (by omega)]⟩
theorem dig_pre {s : ByteArray} (h : Lib.hasPrefix s.data.toList pskL = false) : digS s = none := by rw [digS, h]; rfl
theorem dig_len {s : ByteArray} (h : (Lib.trimPrefix s.data.toList pskL).length ≠ 1) : digS s = none := by
  unfold digS
  split
  · match hx : Lib.trimPrefix s.data.toList pskL with
    | [] => rfl
    | [c] => rw [hx] at h; simp at h
    | _ :: _ :: _ => rfl
  · rfl
theorem dig_one {s : ByteArray} {c : UInt8} (h : Lib.hasPrefix s.data.toList pskL = true) (hx : Lib.trimPrefix s.data.toList pskL = [c]) : digS s = if 48 ≤ c.toNat ∧ c.toNat ≤ 57 then some (c.toNat - 48) else none := by
  rw [digS, h, hx]; rfl
/-- what Fallback and Psk hand back, the two results behind one name -/
theorem fallR_any (v : Value) (p : Pat) (s : ByteArray) (w : World) (h : SP w v p) (hs : s.toList = fbL) :
    Calls Tryd.prog 31 #[v] w fun e w' => ∃ v', e = .returned (.tuple #[v', .int .i64 (modE p s)]) ∧ SP w' v' (modR p s) ∧ Bl w w' := by
  rw [(mod_fb hs).1, (mod_fb hs).2]
  exact fallback_any v p w h
theorem pskR_any (v : Value) (p : Pat) (s : ByteArray) (n : Nat) (w : World) (h : SP w v p) (hs : ¬ s.toList = fbL) (hd : digS s = some n) (hn : n ≤ 100) :
    Calls Tryd.prog 29 #[v, .int .i64 (n : Int)] w fun e w' => ∃ v', e = .returned (.tuple #[v', .int .i64 (modE p s)]) ∧ SP w' v' (modR p s) ∧ Bl w w' := by
  rw [(mod_dig hs hd).1, (mod_dig hs hd).2]
  exact psk_any v p n w h (by omega) (by omega)
theorem cutPsk_any (s : ByteArray) (w : World) :
    Calls Tryd.prog 86 #[.string s, .string ⟨#[112, 115, 107]⟩] w fun e w' => e = .returned (.tuple #[.string ⟨(Lib.trimPrefix s.data.toList pskL).toArray⟩, .bool (Lib.hasPrefix s.data.toList pskL)]) ∧ w' = w := Tryd.strings_CutPrefix s ⟨#[112, 115, 107]⟩ w

set_option maxRecDepth 100000 in
set_option maxHeartbeats 8000000 in
theorem modified_any (v : Value) (p : Pat) (s : ByteArray) (w : World) (h : SP w v p) :
    Calls Tryd.prog 68 #[v, .string s] w fun e w' => ∃ v', e = .returned (.tuple #[v', .int .i64 (modE p s)]) ∧ SP w' v' (modR p s) ∧ Bl w w' := by
  have hv := h
  obtain ⟨v0, v1, vm, rfl, hn, h0, h1, hm⟩ := h
  obtain ⟨a0, c0, rfl⟩ := h0.form
  obtain ⟨a1, c1, rfl⟩ := h1.form
  obtain ⟨am, cm, rfl⟩ := hm.form
  clear h0 h1 hm
  have x := (BoxAt.new w #[.string p.name, .slice a0 p.pre0.length c0, .slice a1 p.pre1.length c1, .slice am p.msgs.length cm] 29).alloc (.cells #[.string ⟨#[]⟩, .slice none 0 0, .slice none 0 0, .slice none 0 0] 29)
  have r := BoxAt.new (w.alloc (.cells #[.string p.name, .slice a0 p.pre0.length c0, .slice a1 p.pre1.length c1, .slice am p.msgs.length cm] 29)) #[.string ⟨#[]⟩, .slice none 0 0, .slice none 0 0, .slice none 0 0] 29
  have H : Bl w ((w.alloc (.cells #[.string p.name, .slice a0 p.pre0.length c0, .slice a1 p.pre1.length c1, .slice am p.msgs.length cm] 29)).alloc (.cells #[.string ⟨#[]⟩, .slice none 0 0, .slice none 0 0, .slice none 0 0] 29)) := ((Bl.refl w).alloc _).alloc _
  simp only [size_alloc] at r
  have HP0 := Lib.hid (@dig_pre s)
  have HP1 := Lib.hid (@dig_len s)
  have HP2 := Lib.hid (fun c => @dig_one s c)
  have HNO := Lib.hid (fun hf hd => @mod_no p s hf hd)
  have HDG := Lib.hid (fun n v w h hf hd hn => pskR_any v p s n w h hf hd hn)
  have HFF := Lib.hid (fun v w h hs => fallR_any v p s w h hs)
  generalize modE p s = E at *
  generalize modR p s = R at *
  go_enter Tryd.func68, Tryd.ntmps68
  go_upto_region 1 with fail
  generalize (w.alloc (.cells #[.string p.name, .slice a0 p.pre0.length c0, .slice a1 p.pre1.length c1, .slice am p.msgs.length cm] 29)).alloc (.cells #[.string ⟨#[]⟩, .slice none 0 0, .slice none 0 0, .slice none 0 0] 29) = W at *
  obtain ⟨g0, g1, g2, g3⟩ := (⟨x.cell 0 rfl, x.cell 1 rfl, x.cell 2 rfl, x.cell 3 rfl⟩ : _ ∧ _ ∧ _ ∧ _)
  by_cases hfb : s.toList = fbL
  · have hq : (s.toList == [102, 97, 108, 108, 98, 97, 99, 107]) = true := by rw [hfb]; rfl
    have cF := HFF.out _ W (hv.bl H) hfb
    clear hfb
    go_wp2_with fail
    refine cF.mono ?_
    rintro e w1 ⟨v', rfl, hs, hb⟩
    have r1 := r.bl hb
    have H1 := H.trans hb
    obtain ⟨u0, u1, um, rfl, _, i0, i1, im⟩ := id hs
    obtain ⟨b0, d0, rfl⟩ := i0.form
    obtain ⟨b1, d1, rfl⟩ := i1.form
    obtain ⟨bm, dm, rfl⟩ := im.form
    clear i0 i1 im g0 g1 g2 g3 cF
    obtain ⟨z0, z1, z2, z3⟩ : _ ∧ _ ∧ _ ∧ _ := ⟨r1.cell 0 rfl, r1.cell 1 rfl, r1.cell 2 rfl, r1.cell 3 rfl⟩
    obtain ⟨f0, f1, f2, f3⟩ : _ ∧ _ ∧ _ ∧ _ := ⟨r1.free 0, r1.free 1, r1.free 2, r1.free 3⟩
    have hlr := r1.lt
    go_wp2_with fail
    have yf := r1.set4 (.string R.name) (.slice b0 R.pre0.length d0) (.slice b1 R.pre1.length d1) (.slice bm R.msgs.length dm)
    obtain ⟨p0, p1, p2, p3⟩ : _ ∧ _ ∧ _ ∧ _ := ⟨yf.cell 0 rfl, yf.cell 1 rfl, yf.cell 2 rfl, yf.cell 3 rfl⟩
    exact bodyPost_ret (v := .tuple #[.agg #[(.string R.name), (.slice b0 R.pre0.length d0), (.slice b1 R.pre1.length d1), (.slice bm R.msgs.length dm)], .int .i64 E]) (by simp [results, Tryd.results68, go_sem, p0, p1, p2, p3]) rfl ⟨_, rfl, hs.set4 r1, H1.set4 (Nat.le_succ _) _ _ _ _⟩
  · have hq : (s.toList == [102, 97, 108, 108, 98, 97, 99, 107]) = false := by simpa [fbL] using hfb
    have HFB := Lib.hid hfb
    clear hfb
    have hcp := cutPsk_any s W
    obtain ⟨z0, z1, z2, z3⟩ : _ ∧ _ ∧ _ ∧ _ := ⟨r.cell 0 rfl, r.cell 1 rfl, r.cell 2 rfl, r.cell 3 rfl⟩
    obtain ⟨f0, f1, f2, f3⟩ : _ ∧ _ ∧ _ ∧ _ := ⟨r.free 0, r.free 1, r.free 2, r.free 3⟩
    have hlr := r.lt
    go_wp2_with fail
    refine hcp.mono ?_
    rintro e w1 ⟨rfl, rfl⟩
    clear hcp
    have hsz : (⟨(Lib.trimPrefix s.data.toList pskL).toArray⟩ : ByteArray).size = (Lib.trimPrefix s.data.toList pskL).length := by simp [ByteArray.size]
    generalize Lib.trimPrefix s.data.toList pskL = tp at *
    cases hpre : Lib.hasPrefix s.data.toList pskL
    · obtain ⟨hE4, hRz⟩ := HNO.out HFB.out (HP0.out hpre)
      subst hE4 hRz
      clear HNO HDG HFF HP0 HP1 HP2
      go_wp2_with fail
      have yf := r.set4 (.string ⟨#[]⟩) (.slice none 0 0) (.slice none 0 0) (.slice none 0 0)
      obtain ⟨p0, p1, p2, p3⟩ : _ ∧ _ ∧ _ ∧ _ := ⟨yf.cell 0 rfl, yf.cell 1 rfl, yf.cell 2 rfl, yf.cell 3 rfl⟩
      exact bodyPost_ret (v := .tuple #[.agg #[(.string ⟨#[]⟩), (.slice none 0 0), (.slice none 0 0), (.slice none 0 0)], .int .i64 4]) (by simp [results, Tryd.results68, go_sem, p0, p1, p2, p3]) rfl ⟨_, rfl, zero_SP _, H.set4 (Nat.le_succ _) _ _ _ _⟩
    · by_cases hlen : tp.length = 1
      · obtain ⟨c, rfl⟩ : ∃ c, tp = [c] := List.length_eq_one_iff.1 hlen
        have HD := Lib.hid (HP2.out c hpre rfl)
        have ix0 : ∀ w : World, (Instr.index 9 (.string ⟨[c].toArray⟩) (.int .i64 0)).run Tryd.prog w = .ok (.int .u8 c.toNat) w := fun w => by simp [go_sem]; rfl
        by_cases h48 : (c.toNat : Int) < 48
        · have d48 : decide ((c.toNat : Int) < 48) = true := by simpa using h48
          obtain ⟨hE4, hRz⟩ := HNO.out HFB.out (by rw [HD.out, if_neg (by omega)])
          subst hE4 hRz
          clear HNO HDG HFF HP0 HP1 HP2
          go_wp2_with fail
          have yf := r.set4 (.string ⟨#[]⟩) (.slice none 0 0) (.slice none 0 0) (.slice none 0 0)
          obtain ⟨p0, p1, p2, p3⟩ : _ ∧ _ ∧ _ ∧ _ := ⟨yf.cell 0 rfl, yf.cell 1 rfl, yf.cell 2 rfl, yf.cell 3 rfl⟩
          exact bodyPost_ret (v := .tuple #[.agg #[(.string ⟨#[]⟩), (.slice none 0 0), (.slice none 0 0), (.slice none 0 0)], .int .i64 4]) (by simp [results, Tryd.results68, go_sem, p0, p1, p2, p3]) rfl ⟨_, rfl, zero_SP _, H.set4 (Nat.le_succ _) _ _ _ _⟩
        · have d48 : decide ((c.toNat : Int) < 48) = false := by simpa using h48
          by_cases h57 : 57 < (c.toNat : Int)
          · have d57 : decide (57 < (c.toNat : Int)) = true := by simpa using h57
            obtain ⟨hE4, hRz⟩ := HNO.out HFB.out (by rw [HD.out, if_neg (by omega)])
            subst hE4 hRz
            clear HNO HDG HFF HP0 HP1 HP2
            go_wp2_with fail
            have yf := r.set4 (.string ⟨#[]⟩) (.slice none 0 0) (.slice none 0 0) (.slice none 0 0)
            obtain ⟨p0, p1, p2, p3⟩ : _ ∧ _ ∧ _ ∧ _ := ⟨yf.cell 0 rfl, yf.cell 1 rfl, yf.cell 2 rfl, yf.cell 3 rfl⟩
            exact bodyPost_ret (v := .tuple #[.agg #[(.string ⟨#[]⟩), (.slice none 0 0), (.slice none 0 0), (.slice none 0 0)], .int .i64 4]) (by simp [results, Tryd.results68, go_sem, p0, p1, p2, p3]) rfl ⟨_, rfl, zero_SP _, H.set4 (Nat.le_succ _) _ _ _ _⟩
          · have d57 : decide (57 < (c.toNat : Int)) = false := by simpa using h57
            obtain ⟨n, hn, hn9⟩ : ∃ n : Nat, c.toNat = n + 48 ∧ n ≤ 9 := ⟨c.toNat - 48, by omega, by omega⟩
            have hdig : digS s = some n := by rw [HD.out, if_pos (by omega), hn, Nat.add_sub_cancel]
            have cK := fun v w h => HDG.out n v w h HFB.out hdig (by omega)
            clear HNO HDG HFF HP0 HP1 HP2 HD hdig
            go_upto_region 6 with fail
            have hw8 : IntKind.u8.wrap (n : Int) = (n : Int) := by
              have : ∀ k : Nat, k ≤ 9 → IntKind.u8.wrap (k : Int) = (k : Int) := by decide +kernel
              exact this n hn9
            have hw64 : IntKind.i64.wrap (n : Int) = (n : Int) := by
              have : ∀ k : Nat, k ≤ 9 → IntKind.i64.wrap (k : Int) = (k : Int) := by decide +kernel
              exact this n hn9
            have xD := x.drew
            have rD := r.drew
            have HD : Bl w w1.drew := H.drew
            have hvD := hv.bl HD
            have sD : _ ∧ _ ∧ _ ∧ _ := ⟨xD.cell 0 rfl, xD.cell 1 rfl, xD.cell 2 rfl, xD.cell 3 rfl⟩
            have sS : ∀ (w5 : World), Bl w1.drew w5 → ∀ a b c d : Value, _ ∧ _ ∧ _ ∧ _ := fun w5 hb a b c d => ⟨((xD.bl hb).oth4 (B := w.heap.size + 1) (by omega) a b c d).cell 0 rfl, ((xD.bl hb).oth4 (B := w.heap.size + 1) (by omega) a b c d).cell 1 rfl, ((xD.bl hb).oth4 (B := w.heap.size + 1) (by omega) a b c d).cell 2 rfl, ((xD.bl hb).oth4 (B := w.heap.size + 1) (by omega) a b c d).cell 3 rfl⟩
            clear g0 g1 g2 g3 z0 z1 z2 z3 f0 f1 f2 f3
            go_region_held3 (fun wx : World => wx.cell? ⟨w.heap.size, 0, none⟩ = some (.string p.name) ∧ wx.cell? ⟨w.heap.size, 1, none⟩ = some (.slice a0 p.pre0.length c0) ∧ wx.cell? ⟨w.heap.size, 2, none⟩ = some (.slice a1 p.pre1.length c1) ∧ wx.cell? ⟨w.heap.size, 3, none⟩ = some (.slice am p.msgs.length cm)) (first | with_reducible exact sD | with_reducible exact s5 | with_reducible exact sS _ hb5 _ _ _ _) (first | (go_at_call 29; refine (cK _ _ hvD).mono ?_; rintro e w5 ⟨v', rfl, hs, hb5⟩; obtain ⟨u0, u1, um, rfl, _, i0, i1, im⟩ := id hs; obtain ⟨b0, d0, rfl⟩ := i0.form; obtain ⟨b1, d1, rfl⟩ := i1.form; obtain ⟨bm, dm, rfl⟩ := im.form; clear i0 i1 im; have x5 := xD.bl hb5; have r5 := rD.bl hb5; have H5 := HD.trans hb5; have s5 : _ ∧ _ ∧ _ ∧ _ := ⟨x5.cell 0 rfl, x5.cell 1 rfl, x5.cell 2 rfl, x5.cell 3 rfl⟩; obtain ⟨z0, z1, z2, z3⟩ : _ ∧ _ ∧ _ ∧ _ := ⟨r5.cell 0 rfl, r5.cell 1 rfl, r5.cell 2 rfl, r5.cell 3 rfl⟩; obtain ⟨f0, f1, f2, f3⟩ : _ ∧ _ ∧ _ ∧ _ := ⟨r5.free 0, r5.free 1, r5.free 2, r5.free 3⟩; have hlr5 := r5.lt))
            go_wp2_with fail
            have yf := r5.set4 (.string R.name) (.slice b0 R.pre0.length d0) (.slice b1 R.pre1.length d1) (.slice bm R.msgs.length dm)
            obtain ⟨p0, p1, p2, p3⟩ : _ ∧ _ ∧ _ ∧ _ := ⟨yf.cell 0 rfl, yf.cell 1 rfl, yf.cell 2 rfl, yf.cell 3 rfl⟩
            exact bodyPost_ret (v := .tuple #[.agg #[(.string R.name), (.slice b0 R.pre0.length d0), (.slice b1 R.pre1.length d1), (.slice bm R.msgs.length dm)], .int .i64 E]) (by simp [results, Tryd.results68, go_sem, p0, p1, p2, p3]) rfl ⟨_, rfl, hs.set4 r5, H5.set4 (Nat.le_succ _) _ _ _ _⟩
      · have dn : ((tp.length : Int) == 1) = false := by simp; omega
        have dn' : ((tp.length : Int) != 1) = true := by simp; omega
        obtain ⟨hE4, hRz⟩ := HNO.out HFB.out (HP1.out hlen)
        subst hE4 hRz
        clear HNO HDG HFF HP0 HP1 HP2
        go_wp2_with fail
        have yf := r.set4 (.string ⟨#[]⟩) (.slice none 0 0) (.slice none 0 0) (.slice none 0 0)
        obtain ⟨p0, p1, p2, p3⟩ : _ ∧ _ ∧ _ ∧ _ := ⟨yf.cell 0 rfl, yf.cell 1 rfl, yf.cell 2 rfl, yf.cell 3 rfl⟩
        exact bodyPost_ret (v := .tuple #[.agg #[(.string ⟨#[]⟩), (.slice none 0 0), (.slice none 0 0), (.slice none 0 0)], .int .i64 4]) (by simp [results, Tryd.results68, go_sem, p0, p1, p2, p3]) rfl ⟨_, rfl, zero_SP _, H.set4 (Nat.le_succ _) _ _ _ _⟩
end Go.Proofs.YtelloecgdiocoaaDoor

set_option linter.unusedSimpArgs false
set_option linter.unusedVariables false
namespace Go.Proofs.YtelloecgdiocoaaDoor
open Go.RowKit Go.Sort

theorem Env.b {w : World} (h : Env w) : EnvB w := ⟨h.shaped, h.space⟩
theorem Env.bl {w w' : World} (h : Env w) (hb : Bl w w') : Env w' := ⟨shaped_bl h.shaped hb, Lib.tabBelow_of_tabIs h.space w' hb, Utf8Tabs_below h.utf8 hb⟩

/-- is a letter no capital? -/
def noCap (c : Nat) : Bool := decide (c < 65) || decide (90 < c)
theorem named1_any (c : Nat) (w : World) : Calls Tryd.prog 67 #[.int .i32 (c : Int)] w fun e w' => e = .returned (.bool (noCap c)) ∧ Bl w w' := by
  go_enter Tryd.func67, Tryd.ntmps67
  by_cases h1 : (c : Int) < 65
  · have d1 : decide ((c : Int) < 65) = true := by simpa using h1
    go_wp2
    go_ret
    exact ⟨ret_bool (by simp [noCap]; omega), Bl.refl _⟩
  · have d1 : decide ((c : Int) < 65) = false := by simpa using h1
    go_wp2
    go_ret
    exact ⟨ret_bool (by
      have h2 : ¬ c < 65 := by omega
      rw [noCap, decide_eq_false h2, Bool.false_or, Bool.eq_iff_iff, decide_eq_true_eq, decide_eq_true_eq]
      omega), Bl.refl _⟩
/-- a name's letters ahead of its modifiers -/
def headN (s : ByteArray) : ByteArray := Lib.trimRightF noCap s
theorem headN_size (s : ByteArray) : (headN s).size ≤ s.size := by
  unfold headN Lib.trimRightF
  rw [ByteArray.size_extract]
  omega
theorem trimHead_any (s : ByteArray) (w : World) (hs : s.size ≤ 9223372036854775807) (hE : Env w) :
    Calls Tryd.prog 66 #[.string s, .func (.func 67) #[] #[]] w fun e w' => e = .returned (.string (headN s)) ∧ Bl w w' :=
  Tryd.strings_TrimRightFunc_grows 67 #[] (fun args W => by go_simp) noCap s w hs hE.utf8 (fun W x _ _ => named1_any x W)

def piecesN (s : ByteArray) : List ByteArray := splitS (s.extract (headN s).size s.size) ⟨#[43]⟩
/-- modifiers put on, one behind the other -/
def modsF (q : Pat) : List ByteArray → Pat × Int
  | [] => (q, 0)
  | x :: r => if modE q x = 0 then modsF (modR q x) r else (zeroP, modE q x)
def namedR (s : ByteArray) : Pat × Int :=
  if baseE (headN s) ≠ 0 ∨ 20 < s.size then (zeroP, 4)
  else if s = headN s then ({ baseP (headN s) with name := s }, 0)
  else modsF { baseP (headN s) with name := s } (piecesN s)
theorem splitPlus_any (s : ByteArray) (w : World) (h : w.ShapedOpen Tryd.prog) (hs : s.size ≤ 1000000) :
    Calls Tryd.prog 42 #[.string s, .string ⟨#[43]⟩] w fun e w' => e = .returned (.slice (some ⟨w.heap.size, 0, none⟩) (splitS s ⟨#[43]⟩).length (splitS s ⟨#[43]⟩).length) ∧ w' = w.alloc (.cells ((splitS s ⟨#[43]⟩).map Value.string).toArray 9) := by
  have hlen : (splitS s ⟨#[43]⟩).length = Lib.countB s ⟨#[43]⟩ + 1 := Lib.splitB_all ⟨#[43]⟩ (by decide) 0 _ s rfl
  refine (Tryd.strings_Split_shaped s ⟨#[43]⟩ w h (by omega) (by decide)).mono ?_
  rintro e w' ⟨he, hw⟩
  rw [← hlen] at he
  exact ⟨he, hw⟩

theorem modR_any (v : Value) (p : Pat) (s : ByteArray) (q : Pat) (E : Int) (w : World) (h : SP w v p) (hq : modR p s = q) (hE : modE p s = E) :
    Calls Tryd.prog 68 #[v, .string s] w fun e w' => ∃ v', e = .returned (.tuple #[v', .int .i64 E]) ∧ SP w' v' q ∧ Bl w w' := by
  rw [← hq, ← hE]
  exact modified_any v p s w h
theorem mods_step (q : Pat) (l : List ByteArray) (j : Nat) (hj : j < l.length) : modsF q (l.drop j) = if modE q l[j] = 0 then modsF (modR q l[j]) (l.drop (j + 1)) else (zeroP, modE q l[j]) := by
  rw [List.drop_eq_getElem_cons hj, modsF]
theorem SP.named {w : World} {a0 a1 am : Option Addr} {c0 c1 cm : Nat} {p : Pat} {n s : ByteArray} (h : SP w (.agg #[.string n, .slice a0 p.pre0.length c0, .slice a1 p.pre1.length c1, .slice am p.msgs.length cm]) p) (hs : s.size ≤ 1000000) :
    SP w (.agg #[.string s, .slice a0 p.pre0.length c0, .slice a1 p.pre1.length c1, .slice am p.msgs.length cm]) { p with name := s } := by
  obtain ⟨_, _, _, e, _, h0, h1, hm⟩ := h
  injection e with e
  simp only [Array.mk.injEq, List.cons.injEq, true_and, and_true] at e
  obtain ⟨_, rfl, rfl, rfl⟩ := e
  exact ⟨_, _, _, rfl, by show s.size ≤ _; omega, h0, h1, hm⟩

set_option maxRecDepth 100000 in
set_option maxHeartbeats 8000000 in
theorem namedF_any (s : ByteArray) (w : World) (hE : Env w) (hs : s.size ≤ 1000000) :
    Calls Tryd.prog 37 #[.string s] w fun e w' => ∃ v', e = .returned (.tuple #[v', .int .i64 (namedR s).2]) ∧ SP w' v' (namedR s).1 ∧ Bl w w' := by
  have HR1 := Lib.hid (show (baseE (headN s) ≠ 0 ∨ 20 < s.size) → namedR s = (zeroP, 4) from fun h => if_pos h)
  have HR2 := Lib.hid (show ¬ (baseE (headN s) ≠ 0 ∨ 20 < s.size) → s = headN s → namedR s = ({ baseP (headN s) with name := s }, 0) from fun h h2 => by rw [namedR, if_neg h, if_pos h2])
  have HR3 := Lib.hid (show ¬ (baseE (headN s) ≠ 0 ∨ 20 < s.size) → ¬ s = headN s → namedR s = modsF { baseP (headN s) with name := s } (piecesN s) from fun h h2 => by rw [namedR, if_neg h, if_neg h2])
  have cT := fun w hE => trimHead_any s w (by omega) hE
  have cB := fun w hE => base_any (headN s) w hE
  have hex : (s.extract (headN s).size s.size).size ≤ 1000000 := by rw [ByteArray.size_extract]; omega
  have cS := fun w (hE : Env w) => splitPlus_any (s.extract (headN s).size s.size) w hE.shaped hex
  have hpl := splitS_len (s.extract (headN s).size s.size) ⟨#[43]⟩ (by decide)
  have hhs := headN_size s
  rw [show splitS (s.extract (headN s).size s.size) ⟨#[43]⟩ = piecesN s from rfl] at cS hpl
  replace hpl : (piecesN s).length ≤ 1000001 := by omega
  clear hex
  generalize namedR s = R at *
  generalize piecesN s = pcs at *
  generalize baseE (headN s) = be at *
  generalize baseP (headN s) = bp at *
  generalize headN s = hd at *
  have r := BoxAt.new w #[.string ⟨#[]⟩, .slice none 0 0, .slice none 0 0, .slice none 0 0] 29
  have H : Bl w (w.alloc (.cells #[.string ⟨#[]⟩, .slice none 0 0, .slice none 0 0, .slice none 0 0] 29)) := (Bl.refl w).alloc _
  go_enter Tryd.func37, Tryd.ntmps37
  go_wp2_with fail
  refine (cT _ (hE.bl H)).mono ?_
  rintro e w1 ⟨rfl, hb1⟩
  have r1 := r.bl hb1
  have H1 := H.trans hb1
  clear cT r H hb1
  go_wp2_with fail
  refine (cB _ (hE.bl H1).b).mono ?_
  rintro e w2 ⟨v, rfl, hsp, hb2⟩
  obtain ⟨u0, u1, um, rfl, _, i0, i1, im⟩ := id hsp
  obtain ⟨b0, d0, rfl⟩ := i0.form
  obtain ⟨b1, d1, rfl⟩ := i1.form
  obtain ⟨bm, dm, rfl⟩ := im.form
  clear i0 i1 im
  have al : Bl w2 (w2.alloc (.cells #[.string bp.name, .slice b0 bp.pre0.length d0, .slice b1 bp.pre1.length d1, .slice bm bp.msgs.length dm] 29)) := (Bl.refl w2).alloc _
  have y2 := BoxAt.new w2 #[.string bp.name, .slice b0 bp.pre0.length d0, .slice b1 bp.pre1.length d1, .slice bm bp.msgs.length dm] 29
  have r2 := (r1.bl hb2).bl al
  have hs2 := hsp.bl al
  have H2 := (H1.trans hb2).trans al
  have hB5 : w.heap.size < w2.heap.size := (r1.bl hb2).lt
  clear cB r1 H1 hb2 hsp
  go_upto_region 3 with fail
  generalize hW2 : w2.alloc (.cells #[.string bp.name, .slice b0 bp.pre0.length d0, .slice b1 bp.pre1.length d1, .slice bm bp.msgs.length dm] 29) = W2 at *
  clear hW2 al
  generalize w2.heap.size = B5 at *
  by_cases hbe : be = 0
  · have d1' : (be != 0) = false := by simpa using hbe
    by_cases h20 : 20 < s.size
    · have d2 : decide ((20 : Int) < (s.size : Int)) = true := by rw [decide_eq_true_eq]; omega
      have hR := HR1.out (.inr h20)
      subst hR
      clear HR1 HR2 HR3 hbe
      obtain ⟨z0, z1, z2, z3⟩ : _ ∧ _ ∧ _ ∧ _ := ⟨r2.cell 0 rfl, r2.cell 1 rfl, r2.cell 2 rfl, r2.cell 3 rfl⟩
      obtain ⟨f0, f1, f2, f3⟩ : _ ∧ _ ∧ _ ∧ _ := ⟨r2.free 0, r2.free 1, r2.free 2, r2.free 3⟩
      have hlrz := r2.lt
      go_wp2_with fail
      have yf := r2.set4 (.string ⟨#[]⟩) (.slice none 0 0) (.slice none 0 0) (.slice none 0 0)
      obtain ⟨p0, p1, p2, p3⟩ : _ ∧ _ ∧ _ ∧ _ := ⟨yf.cell 0 rfl, yf.cell 1 rfl, yf.cell 2 rfl, yf.cell 3 rfl⟩
      exact bodyPost_ret (v := .tuple #[.agg #[(.string ⟨#[]⟩), (.slice none 0 0), (.slice none 0 0), (.slice none 0 0)], .int .i64 4]) (by simp [results, Tryd.results37, go_sem, p0, p1, p2, p3]) rfl ⟨_, rfl, zero_SP _, H2.set4 (Nat.le_refl _) _ _ _ _⟩
    · have d2 : decide ((20 : Int) < (s.size : Int)) = false := by rw [decide_eq_false_iff_not]; omega
      have hno : ¬ (be ≠ 0 ∨ 20 < s.size) := by omega
      obtain ⟨g0, g1, g2, g3⟩ : _ ∧ _ ∧ _ ∧ _ := ⟨y2.cell 0 rfl, y2.cell 1 rfl, y2.cell 2 rfl, y2.cell 3 rfl⟩
      have gf0 := y2.free 0
      have y3 := y2.set 0 (.string s)
      simp only [List.set_cons_zero] at y3
      have r3 := r2.other (a := ⟨B5, 0, none⟩) (show w.heap.size ≠ B5 by omega) (.string s)
      have hs3 := (hs2.box y2 not_int4 0 (.string s)).named (s := s) hs
      have H3 := H2.setCell (a := ⟨B5, 0, none⟩) (show w.heap.size ≤ B5 by omega) (.string s)
      go_upto_region 6 with fail
      generalize W2.setCell ⟨B5, 0, none⟩ (.string s) = W3 at *
      clear g0 g1 g2 g3 gf0 y2 r2 hs2 H2
      obtain ⟨g0, g1, g2, g3⟩ : _ ∧ _ ∧ _ ∧ _ := ⟨y3.cell 0 rfl, y3.cell 1 rfl, y3.cell 2 rfl, y3.cell 3 rfl⟩
      by_cases hsh : s = hd
      · have dq : (s.toList == hd.toList) = true := by rw [hsh]; simp
        have hR := HR2.out hno hsh
        subst hR
        clear HR1 HR2 HR3 hbe hno hsh cS
        obtain ⟨z0, z1, z2, z3⟩ : _ ∧ _ ∧ _ ∧ _ := ⟨r3.cell 0 rfl, r3.cell 1 rfl, r3.cell 2 rfl, r3.cell 3 rfl⟩
        obtain ⟨f0, f1, f2, f3⟩ : _ ∧ _ ∧ _ ∧ _ := ⟨r3.free 0, r3.free 1, r3.free 2, r3.free 3⟩
        have hlrz := r3.lt
        go_wp2_with fail
        have yf := r3.set4 (.string s) (.slice b0 bp.pre0.length d0) (.slice b1 bp.pre1.length d1) (.slice bm bp.msgs.length dm)
        obtain ⟨p0, p1, p2, p3⟩ : _ ∧ _ ∧ _ ∧ _ := ⟨yf.cell 0 rfl, yf.cell 1 rfl, yf.cell 2 rfl, yf.cell 3 rfl⟩
        exact bodyPost_ret (v := .tuple #[.agg #[(.string s), (.slice b0 bp.pre0.length d0), (.slice b1 bp.pre1.length d1), (.slice bm bp.msgs.length dm)], .int .i64 0]) (by simp [results, Tryd.results37, go_sem, p0, p1, p2, p3]) rfl ⟨_, rfl, hs3.set4 r3, H3.set4 (Nat.le_refl _) _ _ _ _⟩
      · have dq : (s.toList == hd.toList) = false := by
          rw [← Bool.not_eq_true, beq_iff_eq]
          intro h
          exact hsh (ByteArray.ext (by have := congrArg List.toArray h; simpa [ByteArray.toList_eq] using this))
        have hR := HR3.out hno hsh
        have HRR := Lib.hid hR
        clear HR1 HR2 HR3 hbe hno hsh hR
        have hle : (hd.size : Int) ≤ (s.size : Int) := by omega
        go_wp2_with fail
        refine (cS W3 (hE.bl H3)).mono ?_
        rintro e w4 ⟨rfl, hw4⟩
        have hb4 : Bl W3 w4 := by rw [hw4]; exact (Bl.refl W3).alloc _
        have sb4 : BoxAt w4 W3.heap.size (pcs.map Value.string) 9 := by rw [hw4]; exact BoxAt.new W3 (pcs.map Value.string).toArray _
        have y4 := y3.bl hb4
        have r4 := r3.bl hb4
        have hs4 := hs3.bl hb4
        have H4 := H3.trans hb4
        have hBS : B5 < W3.heap.size := y3.lt
        clear hw4 hb4 y3 r3 hs3 H3 g0 g1 g2 g3 cS
        generalize W3.heap.size = BS at *
        go_wp2_with fail
        go_loopw [36] (fun i wr => ∃ (j : Nat) (q : Pat) (a0 a1 am : Option Addr) (c0 c1 cm : Nat), j ≤ pcs.length ∧ i = .int .i64 j ∧ BoxAt wr B5 [.string q.name, .slice a0 q.pre0.length c0, .slice a1 q.pre1.length c1, .slice am q.msgs.length cm] 29 ∧ SP wr (.agg #[.string q.name, .slice a0 q.pre0.length c0, .slice a1 q.pre1.length c1, .slice am q.msgs.length cm]) q ∧ Hid (R = modsF q (pcs.drop j)) ∧ BoxAt wr w.heap.size [.string ⟨#[]⟩, .slice none 0 0, .slice none 0 0, .slice none 0 0] 29 ∧ BoxAt wr BS (pcs.map Value.string) 9 ∧ Bl w wr) (fun i _ => pcs.length - (intOf i).toNat)
        case atStart => exact ⟨0, { bp with name := s }, b0, b1, bm, d0, d1, dm, by omega, rfl, y4, hs4, HRR, r4, sb4, H4⟩
        case round =>
          obtain ⟨j, q, a0, a1, am, c0, c1, cm, hj, rfl, yr, hsr, HRj, rr, sbr, Hr⟩ := hrel
          obtain ⟨g0, g1, g2, g3⟩ : _ ∧ _ ∧ _ ∧ _ := ⟨yr.cell 0 rfl, yr.cell 1 rfl, yr.cell 2 rfl, yr.cell 3 rfl⟩
          by_cases hjn : j < pcs.length
          · have dj : decide ((j : Int) < (pcs.length : Int)) = true := by simp; omega
            have hcx := sbr.cell j (x := .string pcs[j]) (by simp [hjn])
            have HST := Lib.hid (mods_step q pcs j hjn)
            have cM := fun v w h => modR_any v q pcs[j] _ _ w h rfl rfl
            generalize pcs[j] = x at *
            generalize modE q x = E at *
            generalize modR q x = q2 at *
            go_wp2_with fail
            refine (cM _ _ hsr).mono ?_
            rintro e w5 ⟨v', rfl, hs5, hb5⟩
            obtain ⟨u0, u1, um, rfl, _, i0, i1, im⟩ := id hs5
            obtain ⟨e0, k0, rfl⟩ := i0.form
            obtain ⟨e1, k1, rfl⟩ := i1.form
            obtain ⟨em, km, rfl⟩ := im.form
            clear i0 i1 im g0 g1 g2 g3 cM
            have y5 := yr.bl hb5
            have r5 := rr.bl hb5
            have sb5 := sbr.bl hb5
            have H5 := Hr.trans hb5
            clear yr rr sbr Hr hb5 hsr hcx
            obtain ⟨z0, z1, z2, z3⟩ : _ ∧ _ ∧ _ ∧ _ := ⟨y5.cell 0 rfl, y5.cell 1 rfl, y5.cell 2 rfl, y5.cell 3 rfl⟩
            obtain ⟨f0, f1, f2, f3⟩ : _ ∧ _ ∧ _ ∧ _ := ⟨y5.free 0, y5.free 1, y5.free 2, y5.free 3⟩
            have hlry := y5.lt
            have y6 := y5.set4 (.string q2.name) (.slice e0 q2.pre0.length k0) (.slice e1 q2.pre1.length k1) (.slice em q2.msgs.length km)
            have hs6 : SP _ _ q2 := hs5.set4 (a' := q2.name) (q1 := e0) (q2 := e1) (q3 := em) (i' := q2.pre0.length) (j' := k0) (k' := q2.pre1.length) (l' := k1) (m' := q2.msgs.length) (n' := km) y5
            have r6 := r5.oth4 (B := B5) (show w.heap.size ≠ B5 by omega) (.string q2.name) (.slice e0 q2.pre0.length k0) (.slice e1 q2.pre1.length k1) (.slice em q2.msgs.length km)
            have sb6 := sb5.oth4 (B := B5) (show BS ≠ B5 by omega) (.string q2.name) (.slice e0 q2.pre0.length k0) (.slice e1 q2.pre1.length k1) (.slice em q2.msgs.length km)
            have H6 := H5.set4 (B := B5) (by omega) (.string q2.name) (.slice e0 q2.pre0.length k0) (.slice e1 q2.pre1.length k1) (.slice em q2.msgs.length km)
            go_upto_region 12 with fail
            generalize (((w5.setCell ⟨B5, 0, none⟩ (.string q2.name)).setCell ⟨B5, 1, none⟩ (.slice e0 q2.pre0.length k0)).setCell ⟨B5, 2, none⟩ (.slice e1 q2.pre1.length k1)).setCell ⟨B5, 3, none⟩ (.slice em q2.msgs.length km) = W6 at *
            clear y5 r5 sb5 H5 hs5 z0 z1 z2 z3 f0 f1 f2 f3
            by_cases hE0 : E = 0
            · have de : (E != 0) = false := by simpa using hE0
              have HN : Hid (R = modsF q2 (pcs.drop (j + 1))) := Lib.hid (by rw [HRj.out, HST.out, if_pos hE0])
              clear hE0 HST HRj
              go_wp2_with fail
              go_roundw
              case rel => exact ⟨j + 1, q2, e0, e1, em, k0, k1, km, by omega, by go_num, y6, hs6, HN, r6, sb6, H6⟩
              case measure => simp [intOf]; omega
            · have de : (E != 0) = true := by simpa using hE0
              have hR : R = (zeroP, E) := by rw [HRj.out, HST.out, if_neg hE0]
              subst hR
              clear hE0 HST HRj HRR
              obtain ⟨z0, z1, z2, z3⟩ : _ ∧ _ ∧ _ ∧ _ := ⟨r6.cell 0 rfl, r6.cell 1 rfl, r6.cell 2 rfl, r6.cell 3 rfl⟩
              obtain ⟨f0, f1, f2, f3⟩ : _ ∧ _ ∧ _ ∧ _ := ⟨r6.free 0, r6.free 1, r6.free 2, r6.free 3⟩
              have hlrz := r6.lt
              go_wp2_with fail
              have yf := r6.set4 (.string ⟨#[]⟩) (.slice none 0 0) (.slice none 0 0) (.slice none 0 0)
              obtain ⟨p0, p1, p2, p3⟩ : _ ∧ _ ∧ _ ∧ _ := ⟨yf.cell 0 rfl, yf.cell 1 rfl, yf.cell 2 rfl, yf.cell 3 rfl⟩
              exact bodyPost_ret (v := .tuple #[.agg #[(.string ⟨#[]⟩), (.slice none 0 0), (.slice none 0 0), (.slice none 0 0)], .int .i64 E]) (by simp [results, Tryd.results37, go_sem, p0, p1, p2, p3]) rfl ⟨_, rfl, zero_SP _, H6.set4 (Nat.le_refl _) _ _ _ _⟩
          · have dj : decide ((j : Int) < (pcs.length : Int)) = false := by simp; omega
            obtain rfl : j = pcs.length := by omega
            have hR : R = (q, 0) := by rw [HRj.out, List.drop_length]; rfl
            subst hR
            clear HRj HRR
            obtain ⟨z0, z1, z2, z3⟩ : _ ∧ _ ∧ _ ∧ _ := ⟨rr.cell 0 rfl, rr.cell 1 rfl, rr.cell 2 rfl, rr.cell 3 rfl⟩
            obtain ⟨f0, f1, f2, f3⟩ : _ ∧ _ ∧ _ ∧ _ := ⟨rr.free 0, rr.free 1, rr.free 2, rr.free 3⟩
            have hlrz := rr.lt
            go_wp2_with fail
            have yf := rr.set4 (.string q.name) (.slice a0 q.pre0.length c0) (.slice a1 q.pre1.length c1) (.slice am q.msgs.length cm)
            obtain ⟨p0, p1, p2, p3⟩ : _ ∧ _ ∧ _ ∧ _ := ⟨yf.cell 0 rfl, yf.cell 1 rfl, yf.cell 2 rfl, yf.cell 3 rfl⟩
            exact bodyPost_ret (v := .tuple #[.agg #[(.string q.name), (.slice a0 q.pre0.length c0), (.slice a1 q.pre1.length c1), (.slice am q.msgs.length cm)], .int .i64 0]) (by simp [results, Tryd.results37, go_sem, p0, p1, p2, p3]) rfl ⟨_, rfl, hsr.set4 rr, Hr.set4 (Nat.le_refl _) _ _ _ _⟩
  · have d1' : (be != 0) = true := by simpa using hbe
    have hR := HR1.out (.inl hbe)
    subst hR
    clear HR1 HR2 HR3 hbe
    obtain ⟨z0, z1, z2, z3⟩ : _ ∧ _ ∧ _ ∧ _ := ⟨r2.cell 0 rfl, r2.cell 1 rfl, r2.cell 2 rfl, r2.cell 3 rfl⟩
    obtain ⟨f0, f1, f2, f3⟩ : _ ∧ _ ∧ _ ∧ _ := ⟨r2.free 0, r2.free 1, r2.free 2, r2.free 3⟩
    have hlrz := r2.lt
    go_wp2_with fail
    have yf := r2.set4 (.string ⟨#[]⟩) (.slice none 0 0) (.slice none 0 0) (.slice none 0 0)
    obtain ⟨p0, p1, p2, p3⟩ : _ ∧ _ ∧ _ ∧ _ := ⟨yf.cell 0 rfl, yf.cell 1 rfl, yf.cell 2 rfl, yf.cell 3 rfl⟩
    exact bodyPost_ret (v := .tuple #[.agg #[(.string ⟨#[]⟩), (.slice none 0 0), (.slice none 0 0), (.slice none 0 0)], .int .i64 4]) (by simp [results, Tryd.results37, go_sem, p0, p1, p2, p3]) rfl ⟨_, rfl, zero_SP _, H2.set4 (Nat.le_refl _) _ _ _ _⟩
end Go.Proofs.YtelloecgdiocoaaDoor

set_option linter.unusedSimpArgs false
set_option linter.unusedVariables false
namespace Go.Proofs.YtelloecgdiocoaaDoor
open Go.ChangeShapes Go.WideShapes Go.ChangeAt Go.RowKit

theorem firstData0 : (Rows.laid_unicode_utf8_first : DataW Unit) = Lib.firstData := by kernel_rfl
theorem acceptData0 : (Rows.laid_unicode_utf8_acceptRanges : DataW Unit) = Lib.acceptData := by kernel_rfl
theorem u8extra : Go.Proofs.U8Extra Tryd.prog Tryd.lays260_ren where
  n3 := by kernel_rfl
  n4 := by kernel_rfl
  y3 := by kernel_rfl
  y4 := by kernel_rfl
  c5 := by kernel_rfl
  c119 := by kernel_rfl
  c138 := by kernel_rfl
/-- from the row's list to what the walks ask of the world -/
theorem envU_of {W : World} {l : List (String × DataW Unit)} (hE : W.ShapedOpen Tryd.prog) (hL : laidMet Tryd.prog l W) (hm : ("strings.asciiSpace", (Rows.laid_strings_asciiSpace : DataW Unit)) ∈ l)
    (h3 : ("unicode/utf8.first", (Rows.laid_unicode_utf8_first : DataW Unit)) ∈ l) (h4 : ("unicode/utf8.acceptRanges", (Rows.laid_unicode_utf8_acceptRanges : DataW Unit)) ∈ l) : Env W :=
  ⟨hE, (env_of hE hL hm).space, Go.Proofs.utf8Tabs_of_reads Tryd.lays260 u8extra (by rw [← firstData0]; exact Lib.laidMet.reads hL h3) (by rw [← acceptData0]; exact Lib.laidMet.reads hL h4)⟩
end Go.Proofs.YtelloecgdiocoaaDoor

set_option linter.unusedSimpArgs false
set_option linter.unusedVariables false
namespace Go.Proofs.YtelloecgdiocoaaDoor
open Go.RowKit Go.Sort

def xxfN : ByteArray := ⟨#[88, 88, 102, 97, 108, 108, 98, 97, 99, 107]⟩
def xxfT : ByteArray := ⟨#[88, 88, 102, 97, 108, 108, 98, 97, 99, 107, 58, 10, 45, 62, 32, 101, 10, 46, 46, 46, 10, 60, 45, 32, 101, 44, 32, 101, 101, 44, 32, 115, 44, 32, 101, 115, 10, 45, 62, 32, 115, 44, 32, 115, 101, 10]⟩
def xxfP : Pat := ⟨xxfN, [1], [], [⟨1, [1, 3, 2, 4]⟩, ⟨0, [2, 5]⟩]⟩
theorem xxf_named : namedR xxfN = (xxfP, 0) := by decide +kernel
theorem xxf_right : rightB xxfP = true := by decide +kernel
theorem xxf_print : printT xxfP = xxfT := by decide +kernel
theorem namedXXf (w : World) (hE : Env w) :
    Calls Tryd.prog 37 #[.string ⟨#[88, 88, 102, 97, 108, 108, 98, 97, 99, 107]⟩] w fun e w' => ∃ v, e = .returned (.tuple #[v, .int .i64 0]) ∧ SP w' v xxfP ∧ Bl w w' := by
  have := namedF_any xxfN w hE (by decide)
  rw [xxf_named] at this
  exact this
theorem printXXf (v : Value) (w : World) (h : SP w v xxfP) :
    Calls Tryd.prog 34 #[v] w fun e w' => e = .returned (.tuple #[.string ⟨#[88, 88, 102, 97, 108, 108, 98, 97, 99, 107, 58, 10, 45, 62, 32, 101, 10, 46, 46, 46, 10, 60, 45, 32, 101, 44, 32, 101, 101, 44, 32, 115, 44, 32, 101, 115, 10, 45, 62, 32, 115, 44, 32, 115, 101, 10]⟩, .int .i64 0]) ∧ Bl w w' := by
  have := print_yes v xxfP w h xxf_right
  rw [xxf_print] at this
  exact this

set_option maxRecDepth 100000 in
set_option maxHeartbeats 4000000 in
theorem awake6_any (w : World) (hE : Env w) :
    Calls Tryd.prog 30 #[] w fun e w' => e = .returned (.bool true) ∧ Bl w w' := by
  go_enter Tryd.func30, Tryd.ntmps30
  go_wp2_with fail
  refine (namedXXf w hE).mono ?_
  rintro e w1 ⟨v, rfl, hs, hb⟩
  have hs0 := hs
  obtain ⟨v0, v1, vm, rfl, _, h0, h1, hm⟩ := hs
  obtain ⟨a0, c0, rfl⟩ := h0.form
  obtain ⟨a1, c1, rfl⟩ := h1.form
  obtain ⟨am, cm, rfl⟩ := hm.form
  clear h0 h1 hm
  have b1 : Bl w1 (w1.alloc (.cells #[.string ⟨#[88, 88, 102, 97, 108, 108, 98, 97, 99, 107]⟩, .slice a0 1 c0, .slice a1 0 c1, .slice am 2 cm] 29)) := (Bl.refl w1).alloc _
  have hs1 := hs0.bl b1
  have H1 := hb.trans b1
  go_wp2_with fail
  refine (printXXf _ _ hs1).mono ?_
  rintro e w2 ⟨rfl, hb2⟩
  have H2 := H1.trans hb2
  go_wp2_with fail
  refine (bnames_any w2).mono ?_
  rintro e w3 ⟨nv, rfl, hss, hb3⟩
  obtain ⟨na, nc, rfl⟩ := hss.form
  rw [show bNames.length = 15 from rfl]
  go_wp2
  go_ret
  exact ⟨rfl, H2.trans hb3⟩
end Go.Proofs.YtelloecgdiocoaaDoor

set_option linter.unusedSimpArgs false
set_option linter.unusedVariables false
namespace Go.Proofs.YtelloecgdiocoaaDoor
open Go.RowKit Go.Sort

def nameVals : Array Value := #[.string ⟨#[78]⟩, .string ⟨#[75]⟩, .string ⟨#[88]⟩, .string ⟨#[78, 78]⟩, .string ⟨#[78, 75]⟩, .string ⟨#[78, 88]⟩, .string ⟨#[88, 78]⟩, .string ⟨#[88, 75]⟩, .string ⟨#[88, 88]⟩, .string ⟨#[75, 78]⟩, .string ⟨#[75, 75]⟩, .string ⟨#[75, 88]⟩, .string ⟨#[73, 78]⟩, .string ⟨#[73, 75]⟩, .string ⟨#[73, 88]⟩]
set_option maxRecDepth 100000 in
set_option maxHeartbeats 2000000 in
theorem refNames_any (w : World) :
    Calls Tryd.prog 15 #[] w fun e w' => ∃ v, e = .returned v ∧ SS w' v bNames ∧ Bl w w' := by
  have hs : SS (w.alloc (.cells nameVals 9)) (.slice (some ⟨w.heap.size, 0, none⟩) 15 15) bNames := SS.ofCells w bNames 9 (by decide)
  have hb : Bl w (w.alloc (.cells nameVals 9)) := (Bl.refl w).alloc _
  go_enter Tryd.func15, Tryd.ntmps15
  go_wp2
  go_ret
  exact ⟨_, rfl, hs, hb⟩

/-- the levels of each base pattern, as the table has them -/
def refTab : List (List Int) := [[0, 2], [1, 2], [1, 2], [0, 0, 0, 1, 0, 1], [0, 2, 2, 1, 0, 5], [0, 0, 2, 1, 0, 5], [0, 0, 0, 1, 2, 1, 0, 5], [0, 2, 2, 1, 2, 5, 2, 5], [0, 0, 2, 1, 2, 5, 2, 5], [0, 0, 0, 3, 2, 1, 0, 5], [1, 2, 2, 4, 2, 5, 2, 5], [0, 0, 2, 3, 2, 5, 2, 5], [0, 0, 0, 3, 2, 1, 0, 5], [1, 2, 2, 4, 2, 5, 2, 5], [0, 0, 2, 3, 2, 5, 2, 5]]
theorem SI.ofCells (w : World) (l : List Int) (T : TypeId) (hl : l.length ≤ 17592186043904) : SI (w.alloc (.cells (l.map (Value.int .i64)).toArray T)) (.slice (some ⟨w.heap.size, 0, none⟩) l.length l.length) l := by
  refine ⟨_, _, rfl, ⟨hl, Nat.le_refl _⟩, fun j hj => ⟨w.heap.size, 0, rfl, ?_⟩⟩
  rw [Nat.zero_add]
  exact (BoxAt.new w (l.map (Value.int .i64)).toArray T).cell j (by simp [hj])

set_option maxRecDepth 100000 in
set_option maxHeartbeats 2000000 in
theorem refTab0 (w : World) :
    Calls Tryd.prog 16 #[.string ⟨#[78]⟩] w fun e w' => ∃ v, e = .returned v ∧ SI w' v [0, 2] ∧ Bl w w' := by
  have hs := SI.ofCells w [0, 2] 3 (by decide)
  have hb : Bl w (w.alloc (.cells (([0, 2] : List Int).map (Value.int .i64)).toArray 3)) := (Bl.refl w).alloc _
  go_enter Tryd.func16, Tryd.ntmps16
  go_wp2
  go_ret
  exact ⟨_, rfl, hs, hb⟩

set_option maxRecDepth 100000 in
set_option maxHeartbeats 2000000 in
theorem refTab1 (w : World) :
    Calls Tryd.prog 16 #[.string ⟨#[75]⟩] w fun e w' => ∃ v, e = .returned v ∧ SI w' v [1, 2] ∧ Bl w w' := by
  have hs := SI.ofCells w [1, 2] 3 (by decide)
  have hb : Bl w (w.alloc (.cells (([1, 2] : List Int).map (Value.int .i64)).toArray 3)) := (Bl.refl w).alloc _
  go_enter Tryd.func16, Tryd.ntmps16
  go_wp2
  go_ret
  exact ⟨_, rfl, hs, hb⟩

set_option maxRecDepth 100000 in
set_option maxHeartbeats 2000000 in
theorem refTab2 (w : World) :
    Calls Tryd.prog 16 #[.string ⟨#[88]⟩] w fun e w' => ∃ v, e = .returned v ∧ SI w' v [1, 2] ∧ Bl w w' := by
  have hs := SI.ofCells w [1, 2] 3 (by decide)
  have hb : Bl w (w.alloc (.cells (([1, 2] : List Int).map (Value.int .i64)).toArray 3)) := (Bl.refl w).alloc _
  go_enter Tryd.func16, Tryd.ntmps16
  go_wp2
  go_ret
  exact ⟨_, rfl, hs, hb⟩

set_option maxRecDepth 100000 in
set_option maxHeartbeats 2000000 in
theorem refTab3 (w : World) :
    Calls Tryd.prog 16 #[.string ⟨#[78, 78]⟩] w fun e w' => ∃ v, e = .returned v ∧ SI w' v [0, 0, 0, 1, 0, 1] ∧ Bl w w' := by
  have hs := SI.ofCells w [0, 0, 0, 1, 0, 1] 3 (by decide)
  have hb : Bl w (w.alloc (.cells (([0, 0, 0, 1, 0, 1] : List Int).map (Value.int .i64)).toArray 3)) := (Bl.refl w).alloc _
  go_enter Tryd.func16, Tryd.ntmps16
  go_wp2
  go_ret
  exact ⟨_, rfl, hs, hb⟩

set_option maxRecDepth 100000 in
set_option maxHeartbeats 2000000 in
theorem refTab4 (w : World) :
    Calls Tryd.prog 16 #[.string ⟨#[78, 75]⟩] w fun e w' => ∃ v, e = .returned v ∧ SI w' v [0, 2, 2, 1, 0, 5] ∧ Bl w w' := by
  have hs := SI.ofCells w [0, 2, 2, 1, 0, 5] 3 (by decide)
  have hb : Bl w (w.alloc (.cells (([0, 2, 2, 1, 0, 5] : List Int).map (Value.int .i64)).toArray 3)) := (Bl.refl w).alloc _
  go_enter Tryd.func16, Tryd.ntmps16
  go_wp2
  go_ret
  exact ⟨_, rfl, hs, hb⟩

set_option maxRecDepth 100000 in
set_option maxHeartbeats 2000000 in
theorem refTab5 (w : World) :
    Calls Tryd.prog 16 #[.string ⟨#[78, 88]⟩] w fun e w' => ∃ v, e = .returned v ∧ SI w' v [0, 0, 2, 1, 0, 5] ∧ Bl w w' := by
  have hs := SI.ofCells w [0, 0, 2, 1, 0, 5] 3 (by decide)
  have hb : Bl w (w.alloc (.cells (([0, 0, 2, 1, 0, 5] : List Int).map (Value.int .i64)).toArray 3)) := (Bl.refl w).alloc _
  go_enter Tryd.func16, Tryd.ntmps16
  go_wp2
  go_ret
  exact ⟨_, rfl, hs, hb⟩

set_option maxRecDepth 100000 in
set_option maxHeartbeats 2000000 in
theorem refTab6 (w : World) :
    Calls Tryd.prog 16 #[.string ⟨#[88, 78]⟩] w fun e w' => ∃ v, e = .returned v ∧ SI w' v [0, 0, 0, 1, 2, 1, 0, 5] ∧ Bl w w' := by
  have hs := SI.ofCells w [0, 0, 0, 1, 2, 1, 0, 5] 3 (by decide)
  have hb : Bl w (w.alloc (.cells (([0, 0, 0, 1, 2, 1, 0, 5] : List Int).map (Value.int .i64)).toArray 3)) := (Bl.refl w).alloc _
  go_enter Tryd.func16, Tryd.ntmps16
  go_wp2
  go_ret
  exact ⟨_, rfl, hs, hb⟩

set_option maxRecDepth 100000 in
set_option maxHeartbeats 2000000 in
theorem refTab7 (w : World) :
    Calls Tryd.prog 16 #[.string ⟨#[88, 75]⟩] w fun e w' => ∃ v, e = .returned v ∧ SI w' v [0, 2, 2, 1, 2, 5, 2, 5] ∧ Bl w w' := by
  have hs := SI.ofCells w [0, 2, 2, 1, 2, 5, 2, 5] 3 (by decide)
  have hb : Bl w (w.alloc (.cells (([0, 2, 2, 1, 2, 5, 2, 5] : List Int).map (Value.int .i64)).toArray 3)) := (Bl.refl w).alloc _
  go_enter Tryd.func16, Tryd.ntmps16
  go_wp2
  go_ret
  exact ⟨_, rfl, hs, hb⟩

set_option maxRecDepth 100000 in
set_option maxHeartbeats 2000000 in
theorem refTab8 (w : World) :
    Calls Tryd.prog 16 #[.string ⟨#[88, 88]⟩] w fun e w' => ∃ v, e = .returned v ∧ SI w' v [0, 0, 2, 1, 2, 5, 2, 5] ∧ Bl w w' := by
  have hs := SI.ofCells w [0, 0, 2, 1, 2, 5, 2, 5] 3 (by decide)
  have hb : Bl w (w.alloc (.cells (([0, 0, 2, 1, 2, 5, 2, 5] : List Int).map (Value.int .i64)).toArray 3)) := (Bl.refl w).alloc _
  go_enter Tryd.func16, Tryd.ntmps16
  go_wp2
  go_ret
  exact ⟨_, rfl, hs, hb⟩

set_option maxRecDepth 100000 in
set_option maxHeartbeats 2000000 in
theorem refTab9 (w : World) :
    Calls Tryd.prog 16 #[.string ⟨#[75, 78]⟩] w fun e w' => ∃ v, e = .returned v ∧ SI w' v [0, 0, 0, 3, 2, 1, 0, 5] ∧ Bl w w' := by
  have hs := SI.ofCells w [0, 0, 0, 3, 2, 1, 0, 5] 3 (by decide)
  have hb : Bl w (w.alloc (.cells (([0, 0, 0, 3, 2, 1, 0, 5] : List Int).map (Value.int .i64)).toArray 3)) := (Bl.refl w).alloc _
  go_enter Tryd.func16, Tryd.ntmps16
  go_wp2
  go_ret
  exact ⟨_, rfl, hs, hb⟩

set_option maxRecDepth 100000 in
set_option maxHeartbeats 2000000 in
theorem refTab10 (w : World) :
    Calls Tryd.prog 16 #[.string ⟨#[75, 75]⟩] w fun e w' => ∃ v, e = .returned v ∧ SI w' v [1, 2, 2, 4, 2, 5, 2, 5] ∧ Bl w w' := by
  have hs := SI.ofCells w [1, 2, 2, 4, 2, 5, 2, 5] 3 (by decide)
  have hb : Bl w (w.alloc (.cells (([1, 2, 2, 4, 2, 5, 2, 5] : List Int).map (Value.int .i64)).toArray 3)) := (Bl.refl w).alloc _
  go_enter Tryd.func16, Tryd.ntmps16
  go_wp2
  go_ret
  exact ⟨_, rfl, hs, hb⟩

set_option maxRecDepth 100000 in
set_option maxHeartbeats 2000000 in
theorem refTab11 (w : World) :
    Calls Tryd.prog 16 #[.string ⟨#[75, 88]⟩] w fun e w' => ∃ v, e = .returned v ∧ SI w' v [0, 0, 2, 3, 2, 5, 2, 5] ∧ Bl w w' := by
  have hs := SI.ofCells w [0, 0, 2, 3, 2, 5, 2, 5] 3 (by decide)
  have hb : Bl w (w.alloc (.cells (([0, 0, 2, 3, 2, 5, 2, 5] : List Int).map (Value.int .i64)).toArray 3)) := (Bl.refl w).alloc _
  go_enter Tryd.func16, Tryd.ntmps16
  go_wp2
  go_ret
  exact ⟨_, rfl, hs, hb⟩

set_option maxRecDepth 100000 in
set_option maxHeartbeats 2000000 in
theorem refTab12 (w : World) :
    Calls Tryd.prog 16 #[.string ⟨#[73, 78]⟩] w fun e w' => ∃ v, e = .returned v ∧ SI w' v [0, 0, 0, 3, 2, 1, 0, 5] ∧ Bl w w' := by
  have hs := SI.ofCells w [0, 0, 0, 3, 2, 1, 0, 5] 3 (by decide)
  have hb : Bl w (w.alloc (.cells (([0, 0, 0, 3, 2, 1, 0, 5] : List Int).map (Value.int .i64)).toArray 3)) := (Bl.refl w).alloc _
  go_enter Tryd.func16, Tryd.ntmps16
  go_wp2
  go_ret
  exact ⟨_, rfl, hs, hb⟩

set_option maxRecDepth 100000 in
set_option maxHeartbeats 2000000 in
theorem refTab13 (w : World) :
    Calls Tryd.prog 16 #[.string ⟨#[73, 75]⟩] w fun e w' => ∃ v, e = .returned v ∧ SI w' v [1, 2, 2, 4, 2, 5, 2, 5] ∧ Bl w w' := by
  have hs := SI.ofCells w [1, 2, 2, 4, 2, 5, 2, 5] 3 (by decide)
  have hb : Bl w (w.alloc (.cells (([1, 2, 2, 4, 2, 5, 2, 5] : List Int).map (Value.int .i64)).toArray 3)) := (Bl.refl w).alloc _
  go_enter Tryd.func16, Tryd.ntmps16
  go_wp2
  go_ret
  exact ⟨_, rfl, hs, hb⟩

set_option maxRecDepth 100000 in
set_option maxHeartbeats 2000000 in
theorem refTab14 (w : World) :
    Calls Tryd.prog 16 #[.string ⟨#[73, 88]⟩] w fun e w' => ∃ v, e = .returned v ∧ SI w' v [0, 0, 2, 3, 2, 5, 2, 5] ∧ Bl w w' := by
  have hs := SI.ofCells w [0, 0, 2, 3, 2, 5, 2, 5] 3 (by decide)
  have hb : Bl w (w.alloc (.cells (([0, 0, 2, 3, 2, 5, 2, 5] : List Int).map (Value.int .i64)).toArray 3)) := (Bl.refl w).alloc _
  go_enter Tryd.func16, Tryd.ntmps16
  go_wp2
  go_ret
  exact ⟨_, rfl, hs, hb⟩

theorem fifteen (k : Nat) (hk : k < 15) : k = 0 ∨ k = 1 ∨ k = 2 ∨ k = 3 ∨ k = 4 ∨ k = 5 ∨ k = 6 ∨ k = 7 ∨ k = 8 ∨ k = 9 ∨ k = 10 ∨ k = 11 ∨ k = 12 ∨ k = 13 ∨ k = 14 := by omega
theorem refTab_any (k : Nat) (hk : k < bNames.length) (x : ByteArray) (l : List Int) (hx : bNames[k] = x) (hl : refTab.getD k [] = l) (w : World) :
    Calls Tryd.prog 16 #[.string x] w fun e w' => ∃ v, e = .returned v ∧ SI w' v l ∧ Bl w w' := by
  subst hx hl
  rcases fifteen k hk with rfl | rfl | rfl | rfl | rfl | rfl | rfl | rfl | rfl | rfl | rfl | rfl | rfl | rfl | rfl
  · exact refTab0 w
  · exact refTab1 w
  · exact refTab2 w
  · exact refTab3 w
  · exact refTab4 w
  · exact refTab5 w
  · exact refTab6 w
  · exact refTab7 w
  · exact refTab8 w
  · exact refTab9 w
  · exact refTab10 w
  · exact refTab11 w
  · exact refTab12 w
  · exact refTab13 w
  · exact refTab14 w
end Go.Proofs.YtelloecgdiocoaaDoor

set_option linter.unusedSimpArgs false
set_option linter.unusedVariables false
namespace Go.Proofs.YtelloecgdiocoaaDoor
open Go.RowKit Go.Sort

theorem pskR_right {q : Pat} {n : Int} (h : pskE q n = 0) : rightB (pskP q n) = true := by
  unfold pskE at h
  cases hr : rightB q
  · rw [hr] at h; simp at h
  · cases hb : pskBad q n
    · have R := (right_iff q).1 hr
      rw [pskBad] at hb
      simp only [Bool.or_eq_false_iff, decide_eq_false_iff_not] at hb
      refine (right_iff _).2 ⟨R.named, R.t0, R.t1, ?_, ?_, ?_⟩
      · show 1 ≤ (q.msgs.modify (pskAt n) (pskM n)).length
        rw [List.length_modify]; exact R.lo
      · show (q.msgs.modify (pskAt n) (pskM n)).length ≤ 6
        rw [List.length_modify]; exact R.hi
      · intro m hm
        obtain ⟨i, hi, he⟩ := List.getElem_of_mem (show m ∈ q.msgs.modify (pskAt n) (pskM n) from hm)
        have hi' : i < q.msgs.length := by rw [List.length_modify] at hi; exact hi
        rw [List.getElem_modify] at he
        have ho := R.msgs q.msgs[i] (List.getElem_mem hi')
        by_cases hik : pskAt n = i
        · rw [if_pos hik] at he
          have hl : q.msgs[i].t.length < 12 := by
            have := hb.2
            rw [hik, List.getD_eq_getElem?_getD, List.getElem?_eq_getElem hi'] at this
            simpa using this
          rw [← he]
          generalize q.msgs[i] = z at *
          obtain ⟨who, l⟩ := z
          rw [badMsg] at ho ⊢
          simp only [Bool.or_eq_false_iff, decide_eq_false_iff_not, List.any_eq_false] at ho
          obtain ⟨⟨⟨⟨h1, h2⟩, h3⟩, h4⟩, h5⟩ := ho
          simp only at hl
          have hlen : (pskM n ⟨who, l⟩).t.length = l.length + 1 := by unfold pskM; split <;> simp
          have hw : (pskM n ⟨who, l⟩).who = who := rfl
          rw [hw, hlen]
          simp only [Bool.or_eq_false_iff, decide_eq_false_iff_not, List.any_eq_false]
          refine ⟨⟨⟨⟨h1, h2⟩, by omega⟩, by omega⟩, fun t ht => ?_⟩
          have : t = 7 ∨ t ∈ l := by
            unfold pskM at ht
            simp only at ht
            split at ht
            · simpa using ht
            · have := List.mem_append.1 ht
              rcases this with h | h
              · exact .inr h
              · exact .inl (by simpa using h)
          rcases this with rfl | h
          · decide
          · exact h5 t h
        · rw [if_neg hik] at he
          rw [← he]; exact ho
    · rw [hr, hb] at h; simp at h
theorem fallR_right {q : Pat} (h : fallE q = 0) : rightB (fallP q) = true := by
  unfold fallE at h
  cases hr : rightB q
  · rw [hr] at h; simp at h
  · cases hb : fallBad q
    · rw [fallBad] at hb
      simp only [Bool.or_eq_false_iff, Bool.not_eq_false'] at hb
      exact hb.2
    · rw [hr, hb] at h; simp at h
theorem mod_right {q : Pat} {x : ByteArray} (h : modE q x = 0) : rightB (modR q x) = true ∧ (modR q x).name = q.name := by
  by_cases hf : x.toList = fbL
  · obtain ⟨a, b⟩ := mod_fb (q := q) hf
    rw [a] at h
    rw [b, if_pos h]
    exact ⟨fallR_right h, rfl⟩
  · cases hd : digS x with
    | some n =>
      obtain ⟨a, b⟩ := mod_dig (q := q) hf hd
      rw [a] at h
      rw [b, if_pos h]
      exact ⟨pskR_right h, rfl⟩
    | none =>
      obtain ⟨a, b⟩ := mod_no (q := q) hf hd
      rw [a] at h
      omega
theorem mods_right : ∀ (l : List ByteArray) (q : Pat), (modsF q l).2 = 0 → (l = [] ∧ (modsF q l).1 = q) ∨ (rightB (modsF q l).1 = true ∧ (modsF q l).1.name = q.name)
  | [], q, _ => .inl ⟨rfl, rfl⟩
  | x :: r, q, h => by
    rw [modsF] at h ⊢
    by_cases he : modE q x = 0
    · rw [if_pos he] at h ⊢
      obtain ⟨h1, h2⟩ := mod_right he
      rcases mods_right r (modR q x) h with ⟨_, e⟩ | ⟨e1, e2⟩
      · rw [e]; exact .inr ⟨h1, h2⟩
      · exact .inr ⟨e1, e2.trans h2⟩
    · rw [if_neg he] at h
      exact absurd h he
theorem mods_zero : ∀ (l : List ByteArray) (q : Pat), (modsF q l).2 ≠ 0 → (modsF q l).1 = zeroP
  | [], q, h => absurd rfl h
  | x :: r, q, h => by
    rw [modsF] at h ⊢
    by_cases he : modE q x = 0
    · rw [if_pos he] at h ⊢
      exact mods_zero r _ h
    · rw [if_neg he]
theorem base_names_right : (List.range 15).all (fun j => rightB (baseP (bNames.getD j ByteArray.empty)) && decide ((baseP (bNames.getD j ByteArray.empty)).name = bNames.getD j ByteArray.empty) && decide (1 ≤ (bNames.getD j ByteArray.empty).size)) = true := by decide +kernel
theorem base_mem {x : ByteArray} (h : baseE x = 0) : ∃ j, j < 15 ∧ bNames.getD j ByteArray.empty = x := by
  by_cases hx : x ∈ bNames
  · obtain ⟨j, hj, e⟩ := List.getElem_of_mem hx
    exact ⟨j, hj, by rw [← e, List.getD_eq_getElem?_getD, List.getElem?_eq_getElem hj]; rfl⟩
  · rw [(base_no hx).2] at h
    omega
theorem head_prefix (s : ByteArray) : Lib.hasPrefix s.data.toList (headN s).data.toList = true := by
  unfold Lib.hasPrefix headN Lib.trimRightF
  rw [Lib.extract_data, List.isPrefixOf_iff_prefix]
  simp only [List.drop_zero]
  exact List.take_prefix _ _
/-- what a name that is one tells -/
theorem named_yes {s : ByteArray} (h : (namedR s).2 = 0) : s.size ≤ 20 ∧ (namedR s).1.name = s ∧ rightB (namedR s).1 = true ∧ ∃ j, j < 15 ∧ bNames.getD j ByteArray.empty = headN s ∧ 1 ≤ (headN s).size := by
  unfold namedR at h ⊢
  by_cases h0 : baseE (headN s) ≠ 0 ∨ 20 < s.size
  · rw [if_pos h0] at h; simp at h
  · rw [if_neg h0] at h ⊢
    obtain ⟨j, hj, hjx⟩ := base_mem (show baseE (headN s) = 0 by omega)
    have hb := List.all_eq_true.1 base_names_right j (List.mem_range.2 hj)
    simp only [hjx, Bool.and_eq_true, decide_eq_true_eq] at hb
    obtain ⟨⟨hb1, hb2⟩, hb3⟩ := hb
    by_cases h1 : s = headN s
    · rw [if_pos h1]
      refine ⟨by omega, rfl, ?_, j, hj, hjx, hb3⟩
      show rightB { baseP (headN s) with name := s } = true
      have hnm : (baseP (headN s)).name = s := hb2.trans h1.symm
      generalize baseP (headN s) = q at hb1 hnm ⊢
      obtain ⟨a, b, c, d⟩ := q
      simp only at hnm
      rw [← hnm]
      exact hb1
    · rw [if_neg h1] at h ⊢
      have hp1 : 1 ≤ (piecesN s).length := splitS_pos _ _ (by decide)
      rcases mods_right _ _ h with ⟨e, _⟩ | ⟨e1, e2⟩
      · rw [e] at hp1; simp at hp1
      · exact ⟨by omega, e2, e1, j, hj, hjx, hb3⟩
theorem named_no {s : ByteArray} (h : (namedR s).2 ≠ 0) : (namedR s).1 = zeroP := by
  unfold namedR at h ⊢
  by_cases h0 : baseE (headN s) ≠ 0 ∨ 20 < s.size
  · rw [if_pos h0]
  · rw [if_neg h0] at h ⊢
    by_cases h1 : s = headN s
    · rw [if_pos h1] at h; simp at h
    · rw [if_neg h1] at h ⊢
      exact mods_zero _ _ h

theorem hasPrefix_any (s p : ByteArray) (w : World) : Calls Tryd.prog 38 #[.string s, .string p] w fun e w' => e = .returned (.bool (Lib.hasPrefix s.data.toList p.data.toList)) ∧ w' = w := Tryd.strings_HasPrefix s p w
theorem sameZ6_any (v u : Value) (w : World) (h : SP w v zeroP) (h' : SP w u zeroP) :
    Calls Tryd.prog 36 #[v, u] w fun e w' => e = .returned (.bool true) ∧ Bl w w' := by
  have := same_any v u zeroP zeroP w h h'
  rw [show sameB zeroP zeroP = true by decide +kernel] at this
  exact this

set_option maxRecDepth 100000 in
set_option maxHeartbeats 8000000 in
theorem baseLetters_any (s : ByteArray) (w : World) (hE : Env w) (hs : s.size ≤ 9223372036854775807) :
    Calls Tryd.prog 14 #[.string s] w fun e w' => e = .returned (.bool true) ∧ Bl w w' := by
  go_enter Tryd.func14, Tryd.ntmps14
  by_cases h60 : 60 < s.size
  · have d60 : decide ((60 : Int) < (s.size : Int)) = true := by rw [decide_eq_true_eq]; omega
    go_wp2_with fail
    refine (awake6_any w hE).mono ?_
    rintro e w1 ⟨rfl, hb1⟩
    go_wp2
    go_ret
    exact ⟨rfl, hb1⟩
  · have d60 : decide ((60 : Int) < (s.size : Int)) = false := by rw [decide_eq_false_iff_not]; omega
    have cN := namedF_any s w hE (by omega)
    have HY := Lib.hid (@named_yes s)
    have HN := Lib.hid (@named_no s)
    have HPX := Lib.hid (head_prefix s)
    generalize hR : namedR s = R at *
    clear hR
    obtain ⟨q, E⟩ := R
    simp only at cN HY HN
    go_wp2_with fail
    refine cN.mono ?_
    rintro e w3 ⟨pv, rfl, hps, hb3⟩
    have hps0 := hps
    obtain ⟨v0, v1, vm, rfl, _, h0, h1, hm⟩ := hps
    obtain ⟨a0, c0, rfl⟩ := h0.form
    obtain ⟨a1, c1, rfl⟩ := h1.form
    obtain ⟨am, cm, rfl⟩ := hm.form
    clear h0 h1 hm cN
    have al3 : Bl w3 (w3.alloc (.cells #[.string q.name, .slice a0 q.pre0.length c0, .slice a1 q.pre1.length c1, .slice am q.msgs.length cm] 29)) := (Bl.refl w3).alloc _
    have y3 := BoxAt.new w3 #[.string q.name, .slice a0 q.pre0.length c0, .slice a1 q.pre1.length c1, .slice am q.msgs.length cm] 29
    have hps3 := hps0.bl al3
    have H3 := hb3.trans al3
    obtain ⟨q0, q1, q2, q3⟩ : _ ∧ _ ∧ _ ∧ _ := ⟨y3.cell 0 rfl, y3.cell 1 rfl, y3.cell 2 rfl, y3.cell 3 rfl⟩
    by_cases hE0 : E = 0
    · subst hE0
      obtain ⟨h20, hnm, hrt, j, hj, hjh, h1s⟩ := HY.out (by trivial)
      have HRT := Lib.hid hrt
      have HJ := Lib.hid hjh
      have H1S := Lib.hid h1s
      have H20 := Lib.hid h20
      have HNM := Lib.hid hnm
      clear HY HN hrt hjh h1s h20 hnm
      generalize headN s = hd at *
      go_wp2_with fail
      refine (refNames_any _).mono ?_
      rintro e w4 ⟨v, rfl, hss, hb4⟩
      obtain ⟨sa, sc, hse, hlen, hc⟩ := id hss
      have h15 : bNames.length = 15 := rfl
      rw [h15] at hse
      subst hse
      have y4 := y3.bl hb4
      have hps4 := hps3.bl hb4
      have H4 := H3.trans hb4
      clear q0 q1 q2 q3
      go_wp2_with fail
      go_loopw [5, 27] (fun x i wr => ∃ (k : Nat) (h : ByteArray), k ≤ 15 ∧ i = .int .i64 k ∧ x = .string h ∧ Hid (∀ i, i < k → ∀ n, bNames.getD i ByteArray.empty = n → Lib.hasPrefix s.data.toList n.data.toList = true → n.size ≤ h.size) ∧ wr = w4) (fun _ i _ => 15 - (intOf i).toNat)
      case atStart => exact ⟨0, ⟨#[]⟩, by omega, rfl, rfl, Lib.hid (fun i hi => by omega), rfl⟩
      case round =>
        obtain ⟨k, h, hk, rfl, rfl, HI, rfl⟩ := hrel
        by_cases hkn : k < 15
        · obtain ⟨b, o, rfl, hca⟩ := hc k (by rw [h15]; omega)
          have HX : Hid (bNames[k]'(by rw [h15]; omega) = bNames.getD k ByteArray.empty) := Lib.hid (by rw [List.getD_eq_getElem?_getD, List.getElem?_eq_getElem (by rw [h15]; omega)]; rfl)
          rw [HX.out] at hca
          have HS : Hid (∀ h' : ByteArray, h.size ≤ h'.size → (Lib.hasPrefix s.data.toList (bNames.getD k ByteArray.empty).data.toList = true → (bNames.getD k ByteArray.empty).size ≤ h'.size) → ∀ i, i < k + 1 → ∀ n, bNames.getD i ByteArray.empty = n → Lib.hasPrefix s.data.toList n.data.toList = true → n.size ≤ h'.size) := Lib.hid (fun h' hh hx i hi n hn hp => by
            by_cases hik : i = k
            · subst hik; subst hn; exact hx hp
            · exact Nat.le_trans (HI.out i (by omega) n hn hp) hh)
          generalize bNames.getD k ByteArray.empty = x at *
          have cP := hasPrefix_any s x wr
          generalize Lib.hasPrefix s.data.toList x.data.toList = bp at *
          cases bp
          · have HK := Lib.hid (HS.out h (Nat.le_refl _) (fun hh => by cases hh))
            clear HS HI
            go_wp2_with fail
            refine cP.mono ?_
            rintro e w5 ⟨rfl, rfl⟩
            go_wp2_with fail
            go_roundw
            case rel => exact ⟨k + 1, h, by omega, by go_num, by trivial, HK, by trivial⟩
            case measure => simp [intOf]; omega
          · by_cases hgt : h.size < x.size
            · have dgt : decide ((h.size : Int) < (x.size : Int)) = true := by rw [decide_eq_true_eq]; omega
              have HK := Lib.hid (HS.out x (by omega) (fun _ => Nat.le_refl _))
              clear HS HI
              go_wp2_with fail
              refine cP.mono ?_
              rintro e w5 ⟨rfl, rfl⟩
              go_wp2_with fail
              go_roundw
              case rel => exact ⟨k + 1, x, by omega, by go_num, by trivial, HK, by trivial⟩
              case measure => simp [intOf]; omega
            · have dgt : decide ((h.size : Int) < (x.size : Int)) = false := by rw [decide_eq_false_iff_not]; omega
              have HK := Lib.hid (HS.out h (Nat.le_refl _) (fun _ => by omega))
              clear HS HI
              go_wp2_with fail
              refine cP.mono ?_
              rintro e w5 ⟨rfl, rfl⟩
              go_wp2_with fail
              go_roundw
              case rel => exact ⟨k + 1, h, by omega, by go_num, by trivial, HK, by trivial⟩
              case measure => simp [intOf]; omega
        · obtain rfl : k = 15 := by omega
          have hh1 := HI.out j hj hd HJ.out HPX.out
          have hne : (h.toList == ([] : List UInt8)) = false := by
            rw [← Bool.not_eq_true, beq_iff_eq]
            intro e
            have h2 : h.toList.length = h.size := by rw [Lib.toList_data, Lib.size_eq]
            have h3 := H1S.out
            rw [e] at h2
            simp at h2
            omega
          have d20 : decide ((s.size : Int) ≤ 20) = true := by rw [decide_eq_true_eq]; have := H20.out; omega
          obtain ⟨q0, q1, q2, q3⟩ : _ ∧ _ ∧ _ ∧ _ := ⟨y4.cell 0 rfl, y4.cell 1 rfl, y4.cell 2 rfl, y4.cell 3 rfl⟩
          have dq : (q.name.toList == s.toList) = true := by rw [HNM.out]; simp
          clear hh1 HI
          go_wp2_with fail
          refine (rightBB_any _ q _ hps4 true HRT.out).mono ?_
          rintro e w5 ⟨rfl, hb5⟩
          go_wp2_with fail
          refine (awake6_any w5 (hE.bl (H4.trans hb5))).mono ?_
          rintro e w6 ⟨rfl, hb6⟩
          go_wp2
          go_ret
          exact ⟨rfl, (H4.trans hb5).trans hb6⟩
    · have de : (E != 0) = true := by simpa using hE0
      have hz := HN.out hE0
      subst hz
      clear HY HN
      go_wp2_with fail
      refine (sameZ6_any _ _ _ hps3 (zero_SP _)).mono ?_
      rintro e w5 ⟨rfl, hb5⟩
      go_wp2_with fail
      refine (awake6_any w5 (hE.bl (H3.trans hb5))).mono ?_
      rintro e w6 ⟨rfl, hb6⟩
      go_wp2
      go_ret
      exact ⟨rfl, (H3.trans hb5).trans hb6⟩
end Go.Proofs.YtelloecgdiocoaaDoor

set_option linter.unusedSimpArgs false
set_option linter.unusedVariables false
namespace Go.Proofs.YtelloecgdiocoaaDoor.fnBaseLetters
open Go.ChangeShapes Go.WideShapes Go.ChangeAt Go.RowKit Go.ChangeMaps

set_option maxRecDepth 100000 in
theorem contract (H : Type) (enc : TypeId × Value → H) (W : World) (base : Nat) (args : Array Value) (ds gs : List (DataW H)) (before : List MemPlace)
    (hval : ∀ (j : Nat) t v, Tryd.f14.params[j]? = some t → args[j]? = some v → Value.okWide Tryd.prog W .any base t v)
    (hW : DataW.Whole enc Tryd.prog Tryd.f14.params.toList Rows.baseLettersSpec.vars false W args.toList ds gs before)
    (hsz : (DataW.weightsEach Tryd.prog (Tryd.f14.params.toList ++ (OpenSpec.ofChange Rows.baseLettersSpec).bare.plain.varTypes Tryd.prog) (ds ++ gs)).all (· ≤ reachBytes) = true) (hE : Env W) :
    Calls Tryd.prog 14 args W fun e W' => ∃ v, e = .returned v ∧ Rows.baseLettersSpec.post enc Tryd.prog Tryd.f14 false true false false W args v W' := by
  have hW' := hW
  obtain ⟨p, q, hA0, hV, rfl, hfz, hnd⟩ := hW
  have hA : DataW.TrodAll enc Tryd.prog W 0 (fun _ => true) true Tryd.f14.params.toList args.toList ds p := hA0
  rw [Tryd.params14] at hA hval hsz
  obtain ⟨v0, vs0, d0, ds0, p0, q0, hargs0, rfl, rfl, h0, r0⟩ := trodAll_cons hA
  obtain ⟨rfl, rfl, rfl⟩ := trodAll_nil r0
  obtain rfl : args = #[v0] := by cases args; simp_all
  obtain ⟨rfl, rfl⟩ := trodVars_none hV
  obtain ⟨x0, rfl, rfl, rfl, wt0⟩ := open_string Tryd.underlying9 (hval 0 9 v0 rfl rfl) h0
  clear hA0 hsz hval
  refine (baseLetters_any x0 W hE (by unfold maxLen at wt0; omega)).mono fun e W' ⟨he, hb⟩ => ?_
  subst he
  exact ⟨_, rfl, post_of_below (pv := []) hW' (fun _ _ _ => trodAll_cons_mk (shut_bool Tryd.underlying4 _) trodAll_mk0) (trodAll_cons_mk (shut_string Tryd.underlying9 wt0) trodAll_mk0) rfl (by simp) hb⟩

theorem laid_met (os : Os) : laidMet Tryd.prog Rows.baseLettersRow.laid ((laidWorldN os).forCall (fun _ _ => 0) ⟨#[], #[.string ⟨#[]⟩], []⟩).memory :=
  laidMet_of_run' 12 (by kernel_rfl) (by kernel_rfl)
theorem reads (os : Os) {H : Type} (enc : TypeId × Value → H) : ∃ places, DataW.whole enc Tryd.prog ((laidWorldN os).forCall (fun _ _ => 0) ⟨#[], #[.string ⟨#[]⟩], []⟩).memory Tryd.f14.params.toList Rows.baseLettersSpec.vars false (#[Value.string ⟨#[]⟩] : Array Value).toList 8 = some ([.lit (.string [])], [], places) :=
  ⟨[], by kernel_rfl⟩

set_option maxRecDepth 100000 in
theorem lifted (os : Os) (started : os.Started) (H : Type) (enc : TypeId × Value → H) (F : Stop.Interp) :
    ReturnsInHanded {} Tryd.checked os 14 .any ((OpenSpec.ofChange Rows.baseLettersSpec).preRow enc Tryd.prog Tryd.f14 Rows.baseLettersRow.domain false Rows.baseLettersRow.laid) (((OpenSpec.ofChange Rows.baseLettersSpec).at F).post enc Tryd.prog Tryd.f14 false true false false) := by
  obtain ⟨places, hx⟩ := reads os enc
  refine returnsInHanded_of_row (C := Tryd.checked) (s := OpenSpec.ofChange Rows.baseLettersSpec) own started (by kernel_rfl) Tryd.func14
    (witness_row_atRef (enc := enc) (C := Tryd.checked) false (laidWorldN os) #[.string ⟨#[]⟩] rfl (by kernel_rfl) (by kernel_rfl) (by kernel_rfl)
      (OpenSpec.preRow_of_cond 8 hx (by kernel_rfl) (fun k hk => by cases hk) (by kernel_rfl) (laid_met os))) ?_
  intro W base args ds gs before hval hW _ _ hsz hL hE _
  exact contract H enc W base args ds gs before hval hW hsz (envU_of hE hL (by unfold Rows.baseLettersRow; simp) (by unfold Rows.baseLettersRow; simp) (by unfold Rows.baseLettersRow; simp))

theorem said : Rows.BaseLettersSaid :=
  OpenClaim.holds_of_cond 14 Tryd.f14 rfl rfl rfl rfl rfl rfl rfl ⟨rfl, rfl, rfl, rfl, rfl⟩ rfl rfl rfl rfl rfl (by kernel_rfl) Tryd.func14 (by kernel_rfl)
    (of_decide_eq_true (by kernel_rfl)) (by unfold Func.isWrapper; first | (rw [if_pos (by decide +kernel)]; kernel_rfl) | (rw [if_neg (by decide +kernel)]; exact ⟨rfl, rfl⟩))
    (fun os started H enc _ F => by rw [OpenClaim.pre_eq_preRow]; exact lifted os started H enc F)

theorem plain (f : FuncId) (fn : Func) (hf : Tryd.pinned.checked.prog.funcNamed "undertone/undertonelaw06.BaseLetters" = some f) (hfn : Tryd.pinned.checked.prog.funcs[f]? = some fn) :
    false = Tryd.pinned.checked.prog.looks [] ∧ ∀ (j : Nat) t, fn.params[j]? = some t → Tryd.pinned.checked.prog.wantsStandIn t = false := by
  obtain rfl : f = 14 := Option.some.inj ((show Tryd.prog.funcNamed "undertone/undertonelaw06.BaseLetters" = some 14 by kernel_rfl).symm.trans hf) |>.symm
  obtain rfl : fn = Tryd.f14 := (Option.some.inj (Tryd.func14.symm.trans hfn)).symm
  refine ⟨by kernel_rfl, fun j t ht => ?_⟩
  rw [Tryd.params14] at ht
  obtain rfl : t = 9 := by simpa using Array.mem_of_getElem? ht
  exact (show Tryd.prog.wantsStandIn 9 = false by kernel_rfl)

theorem card : Rows.BaseLettersCardSaid :=
  Claim7.holds_tied_plain_at .later [] _ _ _ _ said (fun _ h => by cases h) (by kernel_rfl) (fun _ h => by cases h) baseLetters_row_tie rfl ⟨rfl, rfl⟩ (by kernel_rfl) rfl plain (by kernel_rfl)
end Go.Proofs.YtelloecgdiocoaaDoor.fnBaseLetters
