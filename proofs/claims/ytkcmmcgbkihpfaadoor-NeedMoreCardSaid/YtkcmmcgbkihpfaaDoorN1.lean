/- Walks: need.Of. -/
import Derived.Test.YtkcmmcgbkihpfaaDoorV9
import Derived.Test.YtkcmmcgbkihpfaaDoorR5
import Derived.Test.YtkcmmcgbkihpfaaDoorLib
import Derived.Deep.RegionHeld3
import Derived.Deep.DeepCutAuto
set_option linter.unusedSimpArgs false
set_option linter.unusedVariables false
namespace Go.Proofs.YtkcmmcgbkihpfaaDoor
open Go.RowKit Go.Sort

/-- which keys there are, or are needed -/
structure Keys where
  s : Bool
  e : Bool
  rs : Bool
  re : Bool
  n : Int
deriving DecidableEq
def keyL (k : Keys) : List Value := [.bool k.s, .bool k.e, .bool k.rs, .bool k.re, .int .i64 k.n]
def keyV (k : Keys) : Value := .agg (keyL k).toArray
def zeroK : Keys := ⟨false, false, false, false, 0⟩
def badRole (r : Int) : Bool := decide (r < 0) || decide (1 < r)
/-- what one of both needs of a pattern that keeps the rules, by these tokens -/
def ofK (p : Pat) (L : List (Int × Int)) (role : Int) : Keys := ⟨told1 p L role 2, (preL p role).contains 1, (preL p (1 - role)).contains 2, (preL p (1 - role)).contains 1, met1 L 2 7⟩
def needE (p : Pat) (role : Int) : Int := if badRole role then 1 else (checkV p).2.2
def needK (p : Pat) (role : Int) : Keys := if needE p role = 0 then ofK p (allL p) role else zeroK

theorem BoxAt.cells5 {w : World} {B : Nat} {a b c d e : Value} {T : TypeId} (h : BoxAt w B [a, b, c, d, e] T) :
    w.cell? ⟨B, 0, none⟩ = some a ∧ w.cell? ⟨B, 1, none⟩ = some b ∧ w.cell? ⟨B, 2, none⟩ = some c ∧ w.cell? ⟨B, 3, none⟩ = some d ∧ w.cell? ⟨B, 4, none⟩ = some e :=
  ⟨h.cell 0 rfl, h.cell 1 rfl, h.cell 2 rfl, h.cell 3 rfl, h.cell 4 rfl⟩

/-- 'of old blocks none but B has turned' for a box of keys: what reads as ints or as messages, from below, is kept -/
theorem needOf_bad (v : Value) (p : Pat) (role : Int) (w : World) (h : SP w v p) (hr : badRole role = true) :
    Calls Tryd.prog 25 #[v, .int .i64 role] w fun e w' => e = .returned (.tuple #[keyV zeroK, .int .i64 1]) ∧ Bl w w' := by
  obtain ⟨v0, v1, vm, rfl, hn, h0, h1, hm⟩ := h
  obtain ⟨a0, c0, rfl⟩ := h0.form
  obtain ⟨a1, c1, rfl⟩ := h1.form
  obtain ⟨am, cm, rfl⟩ := hm.form
  clear h0 h1 hm
  simp only [badRole, Bool.or_eq_true, decide_eq_true_eq] at hr
  by_cases h1 : role < 0
  · have d1 : decide (role < 0) = true := by simp [h1]
    clear hr
    go_enter Tryd.func25, Tryd.ntmps25
    go_wp2
    exact bodyPost_ret (v := .tuple #[keyV zeroK, .int .i64 1]) (by simp [results, Tryd.results25, go_sem, keyV, keyL, zeroK]) rfl ⟨rfl, ((Bl.refl _).alloc _).alloc _⟩
  · have d1 : decide (role < 0) = false := by simp; omega
    have d2 : decide (1 < role) = true := by simp; omega
    clear hr
    go_enter Tryd.func25, Tryd.ntmps25
    go_wp2
    exact bodyPost_ret (v := .tuple #[keyV zeroK, .int .i64 1]) (by simp [results, Tryd.results25, go_sem, keyV, keyL, zeroK]) rfl ⟨rfl, ((Bl.refl _).alloc _).alloc _⟩

set_option maxRecDepth 100000 in
set_option maxHeartbeats 2000000 in
theorem needOf_err (v : Value) (p : Pat) (role : Int) (w : World) (h : SP w v p) (hr : role = 0 ∨ role = 1) (he : (checkV p).2.2 ≠ 0) :
    Calls Tryd.prog 25 #[v, .int .i64 role] w fun e w' => e = .returned (.tuple #[keyV zeroK, .int .i64 (checkV p).2.2]) ∧ Bl w w' := by
  have hv := h
  obtain ⟨v0, v1, vm, rfl, hn, h0, h1, hm⟩ := h
  obtain ⟨a0, c0, rfl⟩ := h0.form
  obtain ⟨a1, c1, rfl⟩ := h1.form
  obtain ⟨am, cm, rfl⟩ := hm.form
  clear h0 h1 hm
  have d1 : decide (role < 0) = false := by simp; omega
  have d2 : decide (1 < role) = false := by simp; omega
  have z := BoxAt.new (w.alloc (.cells #[.string p.name, .slice a0 p.pre0.length c0, .slice a1 p.pre1.length c1, .slice am p.msgs.length cm] 29)) #[.bool false, .bool false, .bool false, .bool false, .int .i64 0] 47
  have H : Bl w ((w.alloc (.cells #[.string p.name, .slice a0 p.pre0.length c0, .slice a1 p.pre1.length c1, .slice am p.msgs.length cm] 29)).alloc (.cells #[.bool false, .bool false, .bool false, .bool false, .int .i64 0] 47)) := ((Bl.refl w).alloc _).alloc _
  simp only [size_alloc] at z
  go_enter Tryd.func25, Tryd.ntmps25
  go_wp2_with fail
  refine (check_any _ p _ (hv.bl H)).mono ?_
  rintro e w1 ⟨rfl, hb1⟩
  have z1 := z.bl hb1
  obtain ⟨g0, g1, g2, g3, g4⟩ := z1.cells5
  obtain ⟨f0, f1, f2, f3, f4⟩ : _ ∧ _ ∧ _ ∧ _ ∧ _ := ⟨z1.free 0, z1.free 1, z1.free 2, z1.free 3, z1.free 4⟩
  have hlt := z1.lt
  have HER : Hid ((checkV p).2.2 ≠ 0) := Lib.hid he
  have dne : ((checkV p).2.2 != 0) = true := by simpa using he
  clear he
  generalize hE : (checkV p).2.2 = er at *
  generalize (checkV p).1 = cr at *
  generalize (checkV p).2.1 = cm' at *
  have HE := Lib.hid hE
  clear hE
  go_wp2
  have zf := ((((z1.set 0 (.bool false)).set 1 (.bool false)).set 2 (.bool false)).set 3 (.bool false)).set 4 (.int .i64 0)
  obtain ⟨p0, p1, p2, p3, p4⟩ : _ ∧ _ ∧ _ ∧ _ ∧ _ := ⟨zf.cell 0 rfl, zf.cell 1 rfl, zf.cell 2 rfl, zf.cell 3 rfl, zf.cell 4 rfl⟩
  refine bodyPost_ret (v := .tuple #[keyV zeroK, .int .i64 er]) (by simp [results, Tryd.results25, go_sem, keyV, keyL, zeroK, p0, p1, p2, p3, p4]) rfl ⟨by rw [HE.out], ?_⟩
  exact ((((Bl.setCell (Bl.trans H hb1) (by show w.heap.size ≤ w.heap.size + 1; omega) _).setCell (by show w.heap.size ≤ w.heap.size + 1; omega) _).setCell (by show w.heap.size ≤ w.heap.size + 1; omega) _).setCell (by show w.heap.size ≤ w.heap.size + 1; omega) _).setCell (by show w.heap.size ≤ w.heap.size + 1; omega) _
end Go.Proofs.YtkcmmcgbkihpfaaDoor
