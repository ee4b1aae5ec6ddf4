/- Walks: level.Table. -/
import Derived.Test.YtelloecgdiocoaaDoorG3
import Derived.Test.YtelloecgdiocoaaDoorV9
import Derived.Test.YtelloecgdiocoaaDoorW13
import Derived.Deep.RegionHeld3
import Derived.Deep.RegionWith
set_option linter.unusedSimpArgs false
set_option linter.unusedVariables false
namespace Go.Proofs.YtelloecgdiocoaaDoor
open Go.RowKit Go.Sort

/-- The value v is a slice that reads as the levels l. -/
def SL (w : World) (v : Value) (l : List (Int × Int)) : Prop :=
  ∃ a c, v = .slice a l.length c ∧ (l.length ≤ 100 ∧ l.length ≤ c) ∧ ∀ j, (h : j < l.length) → ∃ b o, a = some ⟨b, o, none⟩ ∧ w.cell? ⟨b, o + j * 2, none⟩ = some (.int .i64 l[j].1) ∧ w.cell? ⟨b, o + j * 2 + 1, none⟩ = some (.int .i64 l[j].2)
theorem SL.bl {w w' : World} {v : Value} {l : List (Int × Int)} (h : SL w v l) (hb : Bl w w') : SL w' v l := by
  obtain ⟨a, c, rfl, hl, hc⟩ := h
  exact ⟨a, c, rfl, hl, fun j hj => by obtain ⟨b, o, e, h1, h2⟩ := hc j hj; exact ⟨b, o, e, hb.cellq h1, hb.cellq h2⟩⟩
theorem SL.nil (w : World) : SL w (.slice none 0 0) [] := ⟨none, 0, rfl, by simp, fun j hj => by simp at hj⟩
theorem SL.form {w : World} {v : Value} {l : List (Int × Int)} (h : SL w v l) : ∃ a c, v = .slice a l.length c := by
  obtain ⟨a, c, e, _⟩ := h
  exact ⟨a, c, e⟩

def firstW (p : Pat) : Int := (p.msgs.getD 0 ⟨0, []⟩).who
def mixAt (p : Pat) (k : Nat) (t : Trk) : Trk := if k < p.msgs.length then t.mix (p.msgs.getD k ⟨0, []⟩).t else t
def nextW (p : Pat) (f : Int) : Int := if p.msgs.length = 1 then f else 1 - f
/-- what was met ahead of message k, and who sends it -/
def trkAt (p : Pat) : Nat → Trk × Int
  | 0 => (trk0, firstW p)
  | k + 1 => ((mixAt p k (trkAt p k).1).sent (trkAt p k).2, nextW p (trkAt p k).2)
def levAt (p : Pat) (k : Nat) : Int × Int := ((mixAt p k (trkAt p k).1).ofA (trkAt p k).2, (mixAt p k (trkAt p k).1).ofC (trkAt p k).2)
def levs (p : Pat) (n : Nat) : List (Int × Int) := (List.range n).map (levAt p)
theorem levs_succ (p : Pat) (n : Nat) : levs p (n + 1) = levs p n ++ [levAt p n] := by simp [levs, List.range_succ]
theorem levs_len (p : Pat) (n : Nat) : (levs p n).length = n := by simp [levs]
/-- what a table tells -/
def tabE (p : Pat) (many : Int) : Int := if (checkV p).2.2 = 1 ∨ many < 0 ∨ 100 < many then 1 else (checkV p).2.2
def tabL (p : Pat) (many : Int) : List (Int × Int) := if tabE p many = 0 then levs p many.toNat else []
theorem from_ok {p : Pat} (h : rightB p = true) (k : Nat) : (trkAt p k).2 = 0 ∨ (trkAt p k).2 = 1 := by
  induction k with
  | zero =>
    obtain ⟨_, _, h1, _, ho⟩ := right_parts h
    obtain ⟨m, ms, e⟩ : ∃ m ms, p.msgs = m :: ms := by
      cases hp : p.msgs with
      | nil => rw [hp] at h1; simp at h1
      | cons m ms => exact ⟨m, ms, rfl⟩
    have := (ho m (by rw [e]; exact List.mem_cons_self ..)).1
    simpa [trkAt, firstW, e] using this
  | succ k ih =>
    simp only [trkAt, nextW]
    split <;> omega

theorem two_newL (w : World) (x y : Value) (T : TypeId) : ∀ (j : Nat) (u : Value), [x, y][j]? = some u → (w.alloc (.cells #[x, y] T)).cell? ((⟨w.heap.size, 0, none⟩ : Addr).add j) = some u := by
  intro j u hj
  match j, hj with
  | 0, hj => simp at hj; subst hj; simp [Addr.add, go_sem]
  | 1, hj => simp at hj; subst hj; simp [Addr.add, go_sem]
  | j + 2, hj => simp at hj
theorem own_setRow {w : World} {base : Nat} {e : TypeId} {size n : Nat} {v : Value} {xs : List Value} (h : w.ownsRow base e size v n xs) {B : Nat} (hB : B < base) (cs : Array Value) : (w.setRow B cs).ownsRow base e size v n xs := by
  refine ⟨h.1, ?_⟩
  rcases h.2 with h0 | ⟨g, cap, cur, hv, hb, hh, hr⟩
  · exact .inl h0
  · exact .inr ⟨g, cap, cur, hv, hb, (setRow_other w B g cs (by omega)).trans hh, hr⟩
theorem infoLev : (Tryd.prog.info? 37).map (fun i => (i.zero, i.size, i.bytes)) = some (some (.agg #[.int .i64 0, .int .i64 0]), 2, 16) := by kernel_rfl
/-- the cells of a row of levels -/
def levCells (l : List (Int × Int)) : List Value := l.flatMap fun x => [.int .i64 x.1, .int .i64 x.2]
theorem levCells_snoc (l : List (Int × Int)) (x : Int × Int) : levCells (l ++ [x]) = levCells l ++ [.int .i64 x.1, .int .i64 x.2] := by simp [levCells]
theorem levCells_len (l : List (Int × Int)) : (levCells l).length = l.length * 2 := by
  induction l with
  | nil => rfl
  | cons x l ih => simp only [levCells, List.flatMap_cons, List.length_append, List.length_cons, List.length_nil] at ih ⊢; omega
theorem levCells_at : ∀ (l : List (Int × Int)) (j : Nat) (h : j < l.length), (levCells l)[j * 2]? = some (.int .i64 l[j].1) ∧ (levCells l)[j * 2 + 1]? = some (.int .i64 l[j].2)
  | x :: l, 0, h => by simp [levCells]
  | x :: l, j + 1, h => by
    have := levCells_at l j (by simpa using h)
    have e : levCells (x :: l) = .int .i64 x.1 :: .int .i64 x.2 :: levCells l := by simp [levCells]
    rw [e, show (j + 1) * 2 = j * 2 + 1 + 1 by omega]
    simpa using this
theorem own_SL {w : World} {base : Nat} {e : TypeId} {v : Value} {l : List (Int × Int)} (h : w.ownsRow base e 2 v l.length (levCells l)) (hl : l.length ≤ 100) : SL w v l := by
  obtain ⟨a, c, hv, hcap⟩ := own_formc h
  refine ⟨a, c, hv, ⟨hl, hcap⟩, fun j hj => ?_⟩
  obtain ⟨g, c', hv', _, hc⟩ := own_cells h (by omega) (by omega)
  rw [hv] at hv'
  injection hv' with ha _ _
  obtain ⟨h1, h2⟩ := levCells_at l j hj
  exact ⟨g, 0, ha, by rw [Nat.zero_add]; exact hc _ _ h1, by rw [Nat.zero_add]; exact hc _ _ h2⟩

section
variable {W : World} {B : Nat} {T : TypeId} (b0 b1 b2 b3 b4 b5 b6 b7 b8 b9 : Value)
theorem box10 {a0 a1 a2 a3 a4 a5 a6 a7 a8 a9 : Value} (h : BoxAt W B [a0, a1, a2, a3, a4, a5, a6, a7, a8, a9] T) : BoxAt ((((((((((W.setCell ⟨B, 0, none⟩ b0).setCell ⟨B, 1, none⟩ b1).setCell ⟨B, 2, none⟩ b2).setCell ⟨B, 3, none⟩ b3).setCell ⟨B, 4, none⟩ b4).setCell ⟨B, 5, none⟩ b5).setCell ⟨B, 6, none⟩ b6).setCell ⟨B, 7, none⟩ b7).setCell ⟨B, 8, none⟩ b8).setCell ⟨B, 9, none⟩ b9) B [b0, b1, b2, b3, b4, b5, b6, b7, b8, b9] T :=
  ((((((((((h.set 0 b0).set 1 b1).set 2 b2).set 3 b3).set 4 b4).set 5 b5).set 6 b6).set 7 b7).set 8 b8).set 9 b9)
theorem other10 {B' : Nat} {vs : List Value} (h : BoxAt W B' vs T) (hn : B' ≠ B) : BoxAt ((((((((((W.setCell ⟨B, 0, none⟩ b0).setCell ⟨B, 1, none⟩ b1).setCell ⟨B, 2, none⟩ b2).setCell ⟨B, 3, none⟩ b3).setCell ⟨B, 4, none⟩ b4).setCell ⟨B, 5, none⟩ b5).setCell ⟨B, 6, none⟩ b6).setCell ⟨B, 7, none⟩ b7).setCell ⟨B, 8, none⟩ b8).setCell ⟨B, 9, none⟩ b9) B' vs T :=
  ((((((((((h.other hn b0).other hn b1).other hn b2).other hn b3).other hn b4).other hn b5).other hn b6).other hn b7).other hn b8).other hn b9)
theorem bl10 {w : World} (h : Bl w W) (hn : w.heap.size ≤ B) : Bl w ((((((((((W.setCell ⟨B, 0, none⟩ b0).setCell ⟨B, 1, none⟩ b1).setCell ⟨B, 2, none⟩ b2).setCell ⟨B, 3, none⟩ b3).setCell ⟨B, 4, none⟩ b4).setCell ⟨B, 5, none⟩ b5).setCell ⟨B, 6, none⟩ b6).setCell ⟨B, 7, none⟩ b7).setCell ⟨B, 8, none⟩ b8).setCell ⟨B, 9, none⟩ b9) :=
  ((((((((((h.setCell hn b0).setCell hn b1).setCell hn b2).setCell hn b3).setCell hn b4).setCell hn b5).setCell hn b6).setCell hn b7).setCell hn b8).setCell hn b9)
theorem own10 {base : Nat} {e : TypeId} {size n : Nat} {v : Value} {xs : List Value} (h : W.ownsRow base e size v n xs) (hn : B < base) : ((((((((((W.setCell ⟨B, 0, none⟩ b0).setCell ⟨B, 1, none⟩ b1).setCell ⟨B, 2, none⟩ b2).setCell ⟨B, 3, none⟩ b3).setCell ⟨B, 4, none⟩ b4).setCell ⟨B, 5, none⟩ b5).setCell ⟨B, 6, none⟩ b6).setCell ⟨B, 7, none⟩ b7).setCell ⟨B, 8, none⟩ b8).setCell ⟨B, 9, none⟩ b9).ownsRow base e size v n xs :=
  (own_base (own_base (own_base (own_base (own_base (own_base (own_base (own_base (own_base (own_base h hn b0) hn b1) hn b2) hn b3) hn b4) hn b5) hn b6) hn b7) hn b8) hn b9)
theorem size10 {n : Nat} (h : n ≤ W.heap.size) : n ≤ ((((((((((W.setCell ⟨B, 0, none⟩ b0).setCell ⟨B, 1, none⟩ b1).setCell ⟨B, 2, none⟩ b2).setCell ⟨B, 3, none⟩ b3).setCell ⟨B, 4, none⟩ b4).setCell ⟨B, 5, none⟩ b5).setCell ⟨B, 6, none⟩ b6).setCell ⟨B, 7, none⟩ b7).setCell ⟨B, 8, none⟩ b8).setCell ⟨B, 9, none⟩ b9).heap.size := by simpa using h
end

set_option maxRecDepth 100000 in
set_option maxHeartbeats 8000000 in
theorem table_any (v : Value) (p : Pat) (many : Int) (w : World) (h : SP w v p) :
    Calls Tryd.prog 18 #[v, .int .i64 many] w fun e w' => ∃ r, e = .returned (.tuple #[r, .int .i64 (tabE p many)]) ∧ SL w' r (tabL p many) ∧ Bl w w' := by
  have hv := h
  have HE : Hid (tabE p many = if (checkV p).2.2 = 1 ∨ many < 0 ∨ 100 < many then 1 else (checkV p).2.2) := Lib.hid rfl
  have HL : Hid (tabL p many = if tabE p many = 0 then levs p many.toNat else []) := Lib.hid rfl
  have HOK : Hid ((checkV p).2.2 = 0 → rightB p = true) := Lib.hid fun he => by
    unfold checkV at he
    cases hr : rightB p
    · rw [hr] at he; simp at he
    · rfl
  obtain ⟨v0, v1, vm, rfl, hn, h0, h1, hm⟩ := h
  obtain ⟨a0, c0, rfl⟩ := h0.form
  obtain ⟨a1, c1, rfl⟩ := h1.form
  obtain ⟨am, cm, rfl⟩ := hm.form
  have y := BoxAt.new w #[.string p.name, .slice a0 p.pre0.length c0, .slice a1 p.pre1.length c1, .slice am p.msgs.length cm] 29
  have H : Bl w (w.alloc (.cells #[.string p.name, .slice a0 p.pre0.length c0, .slice a1 p.pre1.length c1, .slice am p.msgs.length cm] 29)) := (Bl.refl w).alloc _
  go_enter Tryd.func18, Tryd.ntmps18
  go_wp2_with fail
  refine (check_any _ p _ (hv.bl H)).mono ?_
  rintro e w1 ⟨rfl, hb1⟩
  have y1 := y.bl hb1
  have H1 := H.trans hb1
  clear y H hb1
  generalize (checkV p).1 = cr at *
  generalize (checkV p).2.1 = cm' at *
  generalize (checkV p).2.2 = ce at *
  by_cases e1 : ce = 1
  · subst e1
    go_wp2
    exact bodyPost_ret (v := .tuple #[.slice none 0 0, .int .i64 1]) (by simp [results, Tryd.results18, go_sem]) rfl ⟨.slice none 0 0, by rw [HE.out]; simp, by rw [HL.out, HE.out]; simpa using SL.nil _, H1⟩
  · have d1 : (ce == 1) = false := by simpa using e1
    by_cases e2 : many < 0
    · have d2 : decide (many < 0) = true := by simpa using e2
      go_wp2
      exact bodyPost_ret (v := .tuple #[.slice none 0 0, .int .i64 1]) (by simp [results, Tryd.results18, go_sem]) rfl ⟨.slice none 0 0, by rw [HE.out]; simp [e2], by rw [HL.out, HE.out]; simpa [e2] using SL.nil _, H1⟩
    · have d2 : decide (many < 0) = false := by simpa using e2
      by_cases e3 : 100 < many
      · have d3 : decide (100 < many) = true := by simpa using e3
        go_wp2
        exact bodyPost_ret (v := .tuple #[.slice none 0 0, .int .i64 1]) (by simp [results, Tryd.results18, go_sem]) rfl ⟨.slice none 0 0, by rw [HE.out]; simp [e3], by rw [HL.out, HE.out]; simpa [e3] using SL.nil _, H1⟩
      · have d3 : decide (100 < many) = false := by simpa using e3
        by_cases e4 : ce = 0
        · subst e4
          have hrb := HOK.out rfl
          obtain ⟨_, _, hl1, hl6, hok⟩ := right_parts hrb
          have HFO := Lib.hid (from_ok hrb)
          have HOKM := Lib.hid hok
          have HTE : Hid (tabE p many = 0) := Lib.hid (by rw [HE.out]; simp [e2, e3])
          have HTL : Hid (tabL p many = levs p many.toNat) := Lib.hid (by rw [HL.out, HTE.out]; simp)
          clear hrb hok HOK HE HL
          have hm1 := hm.bl H1
          obtain ⟨b, o, u, e', hca, _, _⟩ := hm1.at 0 (by omega)
          have HFW : Hid (p.msgs[0].who = (trkAt p 0).2) := Lib.hid (by show _ = (p.msgs.getD 0 ⟨0, []⟩).who; simp [List.getD, List.getElem?_eq_getElem (show 0 < p.msgs.length by omega)])
          rw [HFW.out, Nat.zero_mul, Nat.add_zero] at hca
          subst e'
          have hal : Bl w1 (w1.alloc (.cells trk0.cells.toArray 54)) := (Bl.refl w1).alloc _
          have t2 : BoxAt (w1.alloc (.cells #[.bool false, .bool false, .bool false, .bool false, .bool false, .bool false, .bool false, .bool false, .int .i64 0, .int .i64 0] 54)) w1.heap.size (trkAt p 0).1.cells 54 := BoxAt.new w1 trk0.cells.toArray 54
          have y2 := y1.bl hal
          have H2 := H1.trans hal
          have hcb := hal.cellq hca
          have y23 := y2.cell 3 rfl
          have hlen1 : decide ((0 : Int) < (p.msgs.length : Int)) = true := by simp; omega
          have hsz := y1.lt
          have hs2 : (w1.alloc (.cells trk0.cells.toArray 54)).heap.size = w1.heap.size + 1 := size_alloc _ _
          simp only [trk0, Trk.cells] at hcb y23 H2 y2 hal hs2
          go_upto_region 9 with fail
          generalize w1.alloc (.cells #[.bool false, .bool false, .bool false, .bool false, .bool false, .bool false, .bool false, .bool false, .int .i64 0, .int .i64 0] 54) = W at *
          have hB : w.heap.size < w1.heap.size := hsz
          generalize hBe : w1.heap.size = B at *
          have hf0 := HFO.out 0
          clear hca hcb y23 y1 H1 hal hsz hm1 hBe hlen1
          go_wp2_with fail
          go_loopw [10, 11, 40] (fun x f i wr => ∃ (k : Nat), k ≤ many.toNat ∧ i = .int .i64 k ∧ f = .int .i64 (trkAt p k).2 ∧ wr.ownsRow (B + 1) 37 2 x k (levCells (levs p k)) ∧ BoxAt wr B (trkAt p k).1.cells 54 ∧
            BoxAt wr w.heap.size [.string p.name, .slice a0 p.pre0.length c0, .slice a1 p.pre1.length c1, .slice (some ⟨b, o, none⟩) p.msgs.length cm] 29 ∧ Bl w wr ∧ B + 1 ≤ wr.heap.size) (fun _ _ i _ => many.toNat - (intOf i).toNat)
          case atStart => exact ⟨0, by omega, rfl, rfl, ⟨rfl, .inl ⟨rfl, rfl⟩⟩, t2, y2, H2, by omega⟩
          case round =>
            obtain ⟨k, hk, rfl, rfl, hown, tr, yr, Hr, hsr⟩ := hrel
            by_cases hkn : (k : Int) < many
            · have dk : decide ((k : Int) < many) = true := by simpa using hkn
              have HS := Lib.hid (levs_succ p k)
              have HTS : Hid (trkAt p (k + 1) = ((mixAt p k (trkAt p k).1).sent (trkAt p k).2, nextW p (trkAt p k).2)) := Lib.hid rfl
              obtain ⟨oa, oc, hoe⟩ := own_form hown
              subst hoe
              have y3 := yr.cell 3 rfl
              go_upto_if 47 with fail
              go_cut [40] from 47 to 56 (fun (i : Value) wx => i = .int .i64 k ∧ wx.ownsRow (B + 1) 37 2 (.slice oa k oc) k (levCells (levs p k)) ∧ BoxAt wx B (mixAt p k (trkAt p k).1).cells 54 ∧
                BoxAt wx w.heap.size [.string p.name, .slice a0 p.pre0.length c0, .slice a1 p.pre1.length c1, .slice (some ⟨b, o, none⟩) p.msgs.length cm] 29 ∧ Bl w wx ∧ B + 1 ≤ wx.heap.size)
              case first =>
                by_cases hkl : k < p.msgs.length
                · have dl : decide ((k : Int) < (p.msgs.length : Int)) = true := by simp; omega
                  go_upto_region 13 with fail
                  have HM : Hid (mixAt p k (trkAt p k).1 = (trkAt p k).1.mix p.msgs[k].t) := Lib.hid (by unfold mixAt; rw [if_pos hkl]; simp [List.getD, List.getElem?_eq_getElem hkl])
                  obtain ⟨b', o', u', e', _, hcb, hu⟩ := (hm.bl Hr).at k hkl
                  injection e' with e'
                  injection e' with e1' e2' _
                  subst e1' e2'
                  generalize p.msgs[k].t = l at *
                  obtain ⟨ua, uc, rfl⟩ := hu.form
                  have hD : Bl wr wr.drew := (Bl.refl wr).drew
                  have huD := hu.bl hD
                  generalize (trkAt p k).1 = tk at *
                  have cM := fun w' hv => mix_any tk (.slice ua l.length uc) l w' hv
                  generalize hMX : tk.mix l = mx at *
                  have HMX := Lib.hid hMX
                  clear hMX
                  obtain ⟨m0, m1, m2, m3, m4, m5, m6, m7, l0, l1⟩ := tk
                  obtain ⟨n0, n1, n2, n3, n4, n5, n6, n7, j0, j1⟩ := mx
                  simp only [trkV_eq] at cM
                  have trD := tr.bl hD
                  have yrD := yr.bl hD
                  have HrD := Hr.trans hD
                  have hownD := own_keep hown hD
                  have hsD := Nat.le_trans hsr hD.size
                  obtain ⟨q0, q1, q2, q3, q4, q5, q6, q7, q8, q9⟩ : _ ∧ _ ∧ _ ∧ _ ∧ _ ∧ _ ∧ _ ∧ _ ∧ _ ∧ _ := ⟨trD.cell 0 rfl, trD.cell 1 rfl, trD.cell 2 rfl, trD.cell 3 rfl, trD.cell 4 rfl, trD.cell 5 rfl, trD.cell 6 rfl, trD.cell 7 rfl, trD.cell 8 rfl, trD.cell 9 rfl⟩
                  have yD3 := yrD.cell 3 rfl
                  have hcD := hD.cellq hcb
                  go_region_with (go_at_call 26; refine (cM _ huD).mono ?_; rintro e w5 ⟨rfl, hb5⟩; have x5 := trD.bl hb5; obtain ⟨z0, z1, z2, z3, z4, z5, z6, z7, z8, z9⟩ : _ ∧ _ ∧ _ ∧ _ ∧ _ ∧ _ ∧ _ ∧ _ ∧ _ ∧ _ := ⟨x5.cell 0 rfl, x5.cell 1 rfl, x5.cell 2 rfl, x5.cell 3 rfl, x5.cell 4 rfl, x5.cell 5 rfl, x5.cell 6 rfl, x5.cell 7 rfl, x5.cell 8 rfl, x5.cell 9 rfl⟩; obtain ⟨f0, f1, f2, f3, f4, f5, f6, f7, f8, f9⟩ : _ ∧ _ ∧ _ ∧ _ ∧ _ ∧ _ ∧ _ ∧ _ ∧ _ ∧ _ := ⟨x5.free 0, x5.free 1, x5.free 2, x5.free 3, x5.free 4, x5.free 5, x5.free 6, x5.free 7, x5.free 8, x5.free 9⟩)
                  all_goals
                    go_wp2
                    go_meet
                    exact ⟨rfl, own10 _ _ _ _ _ _ _ _ _ _ (own_keep hownD hb5) (Nat.lt_succ_self B), by rw [HM.out]; exact box10 _ _ _ _ _ _ _ _ _ _ x5, other10 _ _ _ _ _ _ _ _ _ _ (yrD.bl hb5) (Nat.ne_of_lt hB), bl10 _ _ _ _ _ _ _ _ _ _ (HrD.trans hb5) (Nat.le_of_lt hB), size10 _ _ _ _ _ _ _ _ _ _ (Nat.le_trans hsD hb5.size)⟩
                · have dl : decide ((k : Int) < (p.msgs.length : Int)) = false := by simp; omega
                  have HM : Hid (mixAt p k (trkAt p k).1 = (trkAt p k).1) := Lib.hid (if_neg hkl)
                  go_wp2
                  go_meet
                  exact ⟨rfl, hown, by rw [HM.out]; exact tr, yr, Hr, hsr⟩
              case rest =>
                obtain ⟨rfl, hown4, t4, y4, H4, hs4⟩ := hcut
                have HLV : Hid (levAt p k = ((mixAt p k (trkAt p k).1).ofA (trkAt p k).2, (mixAt p k (trkAt p k).1).ofC (trkAt p k).2)) := Lib.hid rfl
                clear hown tr yr Hr hsr y3
                go_wp2_with (first | (refine wpList_load_row rfl 54 (.tmp 9) (by rfl) B (by rfl) 54 _ (0, 0) _ t4 Tryd.underlying54 (by rfl) (by exact infoTrk) ?_))
                refine (of_any' _ _ _).mono ?_
                rintro e w5 ⟨rfl, hb5⟩
                have t5 := t4.bl hb5
                have y5 := y4.bl hb5
                have H5 := H4.trans hb5
                have hown5 := own_keep hown4 hb5
                have hs5 := hb5.size
                clear hb5 t4 y4 H4 hown4
                unfold levV
                generalize hLV : levAt p k = lv at *
                have HLV1 : Hid ((mixAt p k (trkAt p k).1).ofA (trkAt p k).2 = lv.1) := Lib.hid (by rw [← hLV]; rfl)
                have HLV2 : Hid ((mixAt p k (trkAt p k).1).ofC (trkAt p k).2 = lv.2) := Lib.hid (by rw [← hLV]; rfl)
                rw [HLV1.out, HLV2.out]
                obtain ⟨i0, hi, hz0, hz1, hz2⟩ := info_parts infoLev
                go_wp2_with (at_builtin; refine wpList_append_own _ rfl (.tmp 56) (.tmp 60) 33 rfl (B + 1) 37 i0 (.agg #[.int .i64 0, .int .i64 0]) 2 16 Tryd.underlying33 hi hz0 hz1 hz2 rfl (by decide) _ _ _ rfl (hown5.alloc _) ⟨w5.heap.size, 0, none⟩ 1 1 [.int .i64 lv.1, .int .i64 lv.2] rfl rfl ?c1 ?c2 ?c3 ?c4 ?c5 ?_)
                case c1 => exact two_newL w5 _ _ _
                case c2 => intro u hu; simp at hu; rcases hu with rfl | rfl <;> rfl
                case c3 => unfold maxLen; omega
                case c4 => omega
                case c5 => simp only [size_alloc]; omega
                intro v' w6 hown6 hg6 _
                have aO : Bl w5 (w5.alloc (.cells #[.int .i64 lv.1, .int .i64 lv.2] 37)) := (Bl.refl w5).alloc _
                have ho5 := own_keep hown5 aO
                have hb6 := Below.ofGrown ho5 hg6 (by rw [size_alloc]; omega)
                have t6 := (t5.bl aO).below hb6 (by omega)
                have y6 := (y5.bl aO).below hb6 (by omega)
                have H6 := (H5.trans aO).below hb6 (by omega)
                obtain ⟨oa6, oc6, e6⟩ := own_form hown6
                subst e6
                have hs6 := hown6
                go_wp2_with (first | (refine wpList_load_row rfl 54 (.tmp 9) (by rfl) B (by rfl) 54 _ (0, 0) _ t6 Tryd.underlying54 (by rfl) (by exact infoTrk) ?_))
                refine (sent_any _ _ _).mono ?_
                rintro e w7 ⟨rfl, hb7⟩
                have t7 := t6.bl hb7
                have y7 := y6.bl hb7
                have H7 := H6.trans hb7
                have hown7 := own_keep hown6 hb7
                have hT8 : BoxAt (w7.setRow B ((mixAt p k (trkAt p k).1).sent (trkAt p k).2).cells.toArray) B ((mixAt p k (trkAt p k).1).sent (trkAt p k).2).cells 54 := setRow_heap _ _ _ _ _ _ t7
                have y8 : BoxAt (w7.setRow B ((mixAt p k (trkAt p k).1).sent (trkAt p k).2).cells.toArray) w.heap.size [.string p.name, .slice a0 p.pre0.length c0, .slice a1 p.pre1.length c1, .slice (some ⟨b, o, none⟩) p.msgs.length cm] 29 := (setRow_other w7 B w.heap.size _ (by omega)).trans y7
                have H8 : Bl w (w7.setRow B ((mixAt p k (trkAt p k).1).sent (trkAt p k).2).cells.toArray) := Bl.setRow H7 (by omega) _
                obtain ⟨r0, r1, r2, r3⟩ : _ ∧ _ ∧ _ ∧ _ := ⟨y8.cell 0 rfl, y8.cell 1 rfl, y8.cell 2 rfl, y8.cell 3 rfl⟩
                go_wp2_with (first | (refine wpList_store_row rfl 54 (.tmp 9) (.tmp 64) (by rfl) B _ (by rfl) (by rfl) 54 _ t7 (by exact infoTrk) (by rfl) (Trk.one _) ?_) | fail)
                refine (oneWay_any _ p _ (hv.bl H8)).mono ?_
                rintro e w9 ⟨rfl, hb9⟩
                have hown9 := own_keep (own_setRow hown7 (Nat.lt_succ_self B) ((mixAt p k (trkAt p k).1).sent (trkAt p k).2).cells.toArray) hb9
                have t9 := hT8.bl hb9
                have y9 := y8.bl hb9
                have H9 := H8.trans hb9
                have hlt9 := t9.lt
                have HLC : Hid (levCells (levs p (k + 1)) = levCells (levs p k) ++ [.int .i64 lv.1, .int .i64 lv.2]) := Lib.hid (by rw [HS.out, levCells_snoc])
                have HF := Lib.hid (HFO.out k)
                have HN : Hid (nextW p (trkAt p k).2 = if p.msgs.length = 1 then (trkAt p k).2 else 1 - (trkAt p k).2) := Lib.hid rfl
                generalize (trkAt p k).2 = fk at *
                have hw : IntKind.i64.wrap (1 - fk) = 1 - fk := by rcases HF.out with h | h <;> rw [h] <;> decide
                by_cases h1 : p.msgs.length = 1
                · have d1 : decide (p.msgs.length = 1) = true := by simpa using h1
                  have HN1 := HN.out
                  rw [if_pos h1] at HN1
                  have HNX := Lib.hid HN1
                  clear h1 HN1
                  go_wp2
                  go_roundw
                  case rel => exact ⟨k + 1, by omega, by go_num, by rw [HTS.out, HNX.out], by rw [HLC.out]; exact hown9, by rw [HTS.out]; exact t9, y9, H9, by omega⟩
                  case measure => simp [intOf]; omega
                · have d1 : decide (p.msgs.length = 1) = false := by simpa using h1
                  have HN1 := HN.out
                  rw [if_neg h1] at HN1
                  have HNX := Lib.hid HN1
                  clear h1 HN1
                  go_wp2
                  go_roundw
                  case rel => exact ⟨k + 1, by omega, by go_num, by rw [HTS.out, HNX.out], by rw [HLC.out]; exact hown9, by rw [HTS.out]; exact t9, y9, H9, by omega⟩
                  case measure => simp [intOf]; omega
            · have dk : decide ((k : Int) < many) = false := by simpa using hkn
              obtain rfl : k = many.toNat := by omega
              obtain ⟨oa, oc, hoe⟩ := own_form hown
              subst hoe
              go_wp2
              exact bodyPost_ret (v := .tuple #[.slice oa many.toNat oc, .int .i64 0]) (by simp [results, Tryd.results18, go_sem]) rfl ⟨.slice oa many.toNat oc, by rw [HTE.out], by rw [HTL.out]; exact own_SL (by rw [levs_len]; exact hown) (by rw [levs_len]; omega), Hr⟩
        · have d4 : (ce == 0) = false := by simpa using e4
          have d4' : (ce != 0) = true := by simpa using e4
          go_wp2
          exact bodyPost_ret (v := .tuple #[.slice none 0 0, .int .i64 ce]) (by simp [results, Tryd.results18, go_sem]) rfl ⟨.slice none 0 0, by rw [HE.out]; simp [e1, e2, e3], by rw [HL.out, HE.out, if_neg (show ¬ (ce = 1 ∨ many < 0 ∨ 100 < many) by simp [e1, e2, e3]), if_neg e4]; exact SL.nil _, H1⟩
end Go.Proofs.YtelloecgdiocoaaDoor
