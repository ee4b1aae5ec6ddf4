/- Walk: base.Base. -/
import Derived.Test.YtelloecgdiocoaaDoorB2
import Derived.Test.YtelloecgdiocoaaDoorW13
import Derived.Deep.RegionHeld3
import Derived.Deep.DeepFit
import Derived.Deep.DeepCutAuto
set_option linter.unusedSimpArgs false
set_option linter.unusedVariables false
namespace Go.Proofs.YtelloecgdiocoaaDoor
open Go.RowKit Go.Sort

/-- what tokens asks of a text -/
def okS (s : ByteArray) : Bool := decide (s.size ≤ 100) && asciiB s && decide ((fieldsL s).length ≤ 100)
theorem okS_parts {s : ByteArray} (h : okS s = true) : s.size ≤ 100 ∧ asciiB s = true ∧ (fieldsL s).length ≤ 100 := by
  simp only [okS, Bool.and_eq_true, decide_eq_true_eq] at h
  exact ⟨h.1.1, h.1.2, h.2⟩
def piecesL (s : ByteArray) : List ByteArray := splitS s ⟨#[59]⟩
def tk (s : ByteArray) : List Int := toksB (fieldsL s)
def msgsB (i : Nat) : List ByteArray → List Msg
  | [] => []
  | x :: r => ⟨((i % 2 : Nat) : Int), tk x⟩ :: msgsB (i + 1) r
theorem msgsB_append : ∀ (a b : List ByteArray) (i : Nat), msgsB i (a ++ b) = msgsB i a ++ msgsB (i + a.length) b
  | [], b, i => by simp [msgsB]
  | x :: a, b, i => by
    rw [List.cons_append, msgsB, msgsB, msgsB_append a b, List.length_cons, List.cons_append, show i + 1 + a.length = i + (a.length + 1) by omega]
theorem msgsB_snoc (l : List ByteArray) (k : Nat) (hk : k < l.length) : msgsB 0 (l.take (k + 1)) = msgsB 0 (l.take k) ++ [⟨((k % 2 : Nat) : Int), tk l[k]⟩] := by
  rw [List.take_succ_eq_append_getElem hk, msgsB_append, List.length_take, Nat.min_eq_left (by omega), Nat.zero_add]
  rfl
theorem msgsB_len : ∀ (l : List ByteArray) (i : Nat), (msgsB i l).length = l.length
  | [], _ => rfl
  | x :: l, i => by simp [msgsB, msgsB_len l]
/-- the pattern of a row -/
def rowP (r : BRow) : Pat := ⟨r.name, tk r.p0, tk r.p1, msgsB 0 (piecesL r.ms)⟩
def okRow (r : BRow) : Bool := decide (r.name.size ≤ 100) && okS r.p0 && okS r.p1 && decide (r.ms.size ≤ 100) && (piecesL r.ms).all okS
theorem okRows (k : Nat) (hk : k < 15) : okRow rowsL[k] = true := by
  have h : rowsL.all okRow = true := by decide +kernel
  exact List.all_eq_true.1 h _ (List.getElem_mem hk)
theorem tk_len {s : ByteArray} (h : okS s = true) : (tk s).length ≤ 700 := by
  have := toksB_len (fieldsL s)
  have := (okS_parts h).2.2
  unfold tk
  omega

theorem tk_any (s : ByteArray) (w : World) (hE : EnvB w) (h : okS s = true) :
    Calls Tryd.prog 41 #[.string s] w fun e w' => ∃ v, e = .returned v ∧ w'.ownsRow w.heap.size 3 1 v (tk s).length ((tk s).map (Value.int .i64)) ∧ Bl w w' :=
  tokens_any s w hE (okS_parts h).1 (okS_parts h).2.1 (okS_parts h).2.2
theorem splitNew_any (s : ByteArray) (w : World) (h : w.ShapedOpen Tryd.prog) (hs : s.size ≤ 1000000) :
    Calls Tryd.prog 42 #[.string s, .string ⟨#[59]⟩] w fun e w' => e = .returned (.slice (some ⟨w.heap.size, 0, none⟩) (piecesL s).length (piecesL s).length) ∧ w' = w.alloc (.cells ((piecesL s).map Value.string).toArray 9) := by
  have hlen : (splitS s ⟨#[59]⟩).length = Lib.countB s ⟨#[59]⟩ + 1 := Lib.splitB_all ⟨#[59]⟩ (by decide) 0 _ s rfl
  refine (Tryd.strings_Split_shaped s ⟨#[59]⟩ w h (by omega) (by decide)).mono ?_
  rintro e w' ⟨he, hw⟩
  rw [← hlen] at he
  exact ⟨he, hw⟩
/-- the index of a base pattern's name -/
theorem bIdx_any (v : Value) (x : ByteArray) (w : World) (h : SS w v bNames) :
    Calls Tryd.prog 39 #[v, .string x] w fun e w' => e = .returned (.int .i64 (Lib.idxOfS bNames x)) ∧ w = w' := indexS_any v bNames x w h
theorem idxFrom_cases (x : ByteArray) : ∀ (l : List ByteArray) (i : Nat), (Lib.idxFromS l x i = -1 ∧ x ∉ l) ∨ ∃ k, ∃ hk : k < l.length, Lib.idxFromS l x i = ((i + k : Nat) : Int) ∧ l[k] = x
  | [], i => .inl ⟨rfl, by simp⟩
  | z :: l, i => by
    rw [Lib.idxFromS]
    by_cases h : z = x
    · rw [if_pos h]
      exact .inr ⟨0, by simp, by simp, by simpa using h⟩
    · rw [if_neg h]
      rcases idxFrom_cases x l (i + 1) with ⟨e, hn⟩ | ⟨k, hk, e, he⟩
      · exact .inl ⟨e, by simp [hn, Ne.symm h]⟩
      · exact .inr ⟨k + 1, by simp; omega, by rw [e]; congr 1; omega, by simpa using he⟩
theorem idx_cases (x : ByteArray) : (Lib.idxOfS bNames x = -1 ∧ x ∉ bNames) ∨ ∃ k : Nat, ∃ hk : k < 15, Lib.idxOfS bNames x = (k : Int) ∧ rowsL[k].name = x := by
  rcases idxFrom_cases x bNames 0 with h | ⟨k, hk, e, he⟩
  · exact .inl h
  · exact .inr ⟨k, hk, by rw [Lib.idxOfS, e, Nat.zero_add], by rw [← he]; simp only [bNames, List.getElem_map]; rfl⟩
/-- what Base gives -/
def baseP (x : ByteArray) : Pat := match rowsL.find? (fun r => decide (r.name = x)) with | some r => rowP r | none => zeroP
def baseE (x : ByteArray) : Int := match rowsL.find? (fun r => decide (r.name = x)) with | some _ => 0 | none => 4
theorem base_no {x : ByteArray} (h : x ∉ bNames) : baseP x = zeroP ∧ baseE x = 4 := by
  have : rowsL.find? (fun r => decide (r.name = x)) = none := by
    rw [List.find?_eq_none]
    intro r hr e
    exact h (List.mem_map.2 ⟨r, hr, by simpa using e⟩)
  rw [baseP, baseE, this]
  exact ⟨rfl, rfl⟩
theorem names_apart : ∀ k, (hk : k < 15) → rowsL.find? (fun r => decide (r.name = rowsL[k].name)) = some rowsL[k] := by
  intro k hk
  have h : k = 0 ∨ k = 1 ∨ k = 2 ∨ k = 3 ∨ k = 4 ∨ k = 5 ∨ k = 6 ∨ k = 7 ∨ k = 8 ∨ k = 9 ∨ k = 10 ∨ k = 11 ∨ k = 12 ∨ k = 13 ∨ k = 14 := by omega
  rcases h with rfl | rfl | rfl | rfl | rfl | rfl | rfl | rfl | rfl | rfl | rfl | rfl | rfl | rfl | rfl <;> rfl
theorem base_yes (k : Nat) (hk : k < 15) : baseP rowsL[k].name = rowP rowsL[k] ∧ baseE rowsL[k].name = 0 := by
  rw [baseP, baseE, names_apart k hk]
  exact ⟨rfl, rfl⟩

/-- a row that reads so, and does not lie in block B -/
def SIo (w : World) (v : Value) (l : List Int) (B : Nat) : Prop := SI w v l ∧ (0 < l.length → ∀ b o n c, v = .slice (some ⟨b, o, none⟩) n c → b ≠ B)
theorem SIo.other {w : World} {v : Value} {l : List Int} {B : Nat} (h : SIo w v l B) {a : Addr} (ha : a.block = B) (x : Value) : SIo (w.setCell a x) v l B := by
  obtain ⟨⟨ad, c, rfl, hl, hc⟩, hne⟩ := h
  refine ⟨⟨ad, c, rfl, hl, fun j hj => ?_⟩, hne⟩
  obtain ⟨b, o, rfl, h⟩ := hc j hj
  have := hne (by omega) b o _ _ rfl
  exact ⟨b, o, rfl, by rw [World.cell?_setCell_far w a _ x (by rw [ha]; exact Ne.symm this)]; exact h⟩
/-- the two cells that the region reads -/
def S2 (w : World) (B : Nat) (n0 n1 : ByteArray) : Prop := w.cell? ⟨B, 1, none⟩ = some (.string n0) ∧ w.cell? ⟨B, 2, none⟩ = some (.string n1)
theorem S2.of {w : World} {B : Nat} {a b c d : ByteArray} {T : TypeId} (h : BoxAt w B [.string a, .string b, .string c, .string d] T) : w.cell? ⟨B, 1, none⟩ = some (.string b) ∧ w.cell? ⟨B, 2, none⟩ = some (.string c) := ⟨h.cell 1 rfl, h.cell 2 rfl⟩
theorem S2.alloc {w : World} {B : Nat} {b c : ByteArray} (h : w.cell? ⟨B, 1, none⟩ = some (.string b) ∧ w.cell? ⟨B, 2, none⟩ = some (.string c)) (o : Obj) : (w.alloc o).cell? ⟨B, 1, none⟩ = some (.string b) ∧ (w.alloc o).cell? ⟨B, 2, none⟩ = some (.string c) :=
  ⟨Bl.cellq ((Bl.refl w).alloc o) h.1, Bl.cellq ((Bl.refl w).alloc o) h.2⟩
theorem S2.set4 {w : World} {B : Nat} {b c : ByteArray} (h : w.cell? ⟨B, 1, none⟩ = some (.string b) ∧ w.cell? ⟨B, 2, none⟩ = some (.string c)) {p q r s : Addr} (hp : B ≠ p.block) (hq : B ≠ q.block) (hr : B ≠ r.block) (hs : B ≠ s.block) (x y z t : Value) :
    ((((w.setCell p x).setCell q y).setCell r z).setCell s t).cell? ⟨B, 1, none⟩ = some (.string b) ∧ ((((w.setCell p x).setCell q y).setCell r z).setCell s t).cell? ⟨B, 2, none⟩ = some (.string c) := by
  have far : ∀ (o : Nat), ((((w.setCell p x).setCell q y).setCell r z).setCell s t).cell? ⟨B, o, none⟩ = w.cell? ⟨B, o, none⟩ := fun o => by
    rw [World.cell?_setCell_far _ s ⟨B, o, none⟩ t (Ne.symm hs), World.cell?_setCell_far _ r ⟨B, o, none⟩ z (Ne.symm hr), World.cell?_setCell_far _ q ⟨B, o, none⟩ y (Ne.symm hq), World.cell?_setCell_far _ p ⟨B, o, none⟩ x (Ne.symm hp)]
  exact ⟨(far 1).trans h.1, (far 2).trans h.2⟩
theorem SIo.lt {w : World} {v : Value} {l : List Int} {B : Nat} (h : SI w v l) (hB : w.heap.size ≤ B) : SIo w v l B := by
  refine ⟨h, fun hl b o n c hv => ?_⟩
  obtain ⟨a, c', rfl, _, hc⟩ := h
  obtain ⟨b', o', rfl, hx⟩ := hc 0 hl
  have := lt_of_cell hx
  injection hv with e1 _ _
  injection e1 with e1
  injection e1 with e1 _ _
  omega
theorem SIo.own {w : World} {v : Value} {l : List Int} {B base : Nat} {e : TypeId} {n : Nat} (h : w.ownsRow base e 1 v n (l.map (Value.int .i64))) (hl : l.length ≤ 17592186043904) (hB : B < base) : SIo w v l B := by
  refine ⟨own_SI h hl, fun hp b o n' c hv => ?_⟩
  have hn : l.length = n := by have := h.1; simpa using this
  subst hn
  obtain ⟨g, c', hv', hg, _⟩ := own_cells h (by omega) hp
  rw [hv] at hv'
  injection hv' with e1 _ _
  injection e1 with e1
  injection e1 with e1 _ _
  omega
theorem SIo.bl {w w' : World} {v : Value} {l : List Int} {B : Nat} (h : SIo w v l B) (hb : Bl w w') : SIo w' v l B := ⟨h.1.bl hb, h.2⟩
theorem SIo.set4 {w : World} {v : Value} {l : List Int} {B : Nat} (h : SIo w v l B) (x y z t : Value) : SIo ((((w.setCell ⟨B, 0, none⟩ x).setCell ⟨B, 1, none⟩ y).setCell ⟨B, 2, none⟩ z).setCell ⟨B, 3, none⟩ t) v l B :=
  (((h.other rfl x).other rfl y).other rfl z).other rfl t
theorem BoxAt.set4 {w : World} {B : Nat} {a b c d : Value} {T : TypeId} (h : BoxAt w B [a, b, c, d] T) (x y z t : Value) : BoxAt ((((w.setCell ⟨B, 0, none⟩ x).setCell ⟨B, 1, none⟩ y).setCell ⟨B, 2, none⟩ z).setCell ⟨B, 3, none⟩ t) B [x, y, z, t] T :=
  (((h.set 0 x).set 1 y).set 2 z).set 3 t
theorem BoxAt.oth4 {w : World} {B C : Nat} {vs : List Value} {T : TypeId} (h : BoxAt w C vs T) (hn : C ≠ B) (x y z t : Value) : BoxAt ((((w.setCell ⟨B, 0, none⟩ x).setCell ⟨B, 1, none⟩ y).setCell ⟨B, 2, none⟩ z).setCell ⟨B, 3, none⟩ t) C vs T :=
  (((h.other (a := ⟨B, 0, none⟩) hn x).other (a := ⟨B, 1, none⟩) hn y).other (a := ⟨B, 2, none⟩) hn z).other (a := ⟨B, 3, none⟩) hn t
theorem Bl.set4 {w w1 : World} {B : Nat} (h : Bl w w1) (hB : w.heap.size ≤ B) (x y z t : Value) : Bl w ((((w1.setCell ⟨B, 0, none⟩ x).setCell ⟨B, 1, none⟩ y).setCell ⟨B, 2, none⟩ z).setCell ⟨B, 3, none⟩ t) :=
  (((h.setCell (a := ⟨B, 0, none⟩) hB x).setCell (a := ⟨B, 1, none⟩) hB y).setCell (a := ⟨B, 2, none⟩) hB z).setCell (a := ⟨B, 3, none⟩) hB t
/-- a row of ints does not lie in a box that holds none -/
theorem SI.far {w : World} {v : Value} {l : List Int} {B : Nat} {vs : List Value} {T : TypeId} (h : SI w v l) (hb : BoxAt w B vs T) (hn : ∀ (i : Nat) (k : IntKind) (n : Int), vs[i]? ≠ some (.int k n)) : SIo w v l B := by
  refine ⟨h, fun hl b o n c hv e => ?_⟩
  subst e
  obtain ⟨a, c', rfl, _, hc⟩ := h
  obtain ⟨b', o', rfl, hx⟩ := hc 0 hl
  injection hv with e1 _ _
  injection e1 with e1
  injection e1 with e1 e2 _
  subst e1 e2
  unfold BoxAt at hb
  simp only [World.cell?, hb] at hx
  exact hn _ _ _ (by simpa using hx)
theorem not_int4 {a : ByteArray} {p q r : Option Addr} {i j k l m n : Nat} : ∀ (i' : Nat) (k' : IntKind) (n' : Int), [Value.string a, .slice p i j, .slice q k l, .slice r m n][i']? ≠ some (.int k' n')
  | 0, _, _ => by simp
  | 1, _, _ => by simp
  | 2, _, _ => by simp
  | 3, _, _ => by simp
  | _ + 4, _, _ => by simp
theorem two_newB (w : World) (x y : Value) (T : TypeId) : ∀ (j : Nat) (u : Value), [x, y][j]? = some u → (w.alloc (.cells #[x, y] T)).cell? ((⟨w.heap.size, 0, none⟩ : Addr).add j) = some u := by
  intro j u hj
  match j, hj with
  | 0, hj => simp at hj; subst hj; simp [Addr.add, go_sem]
  | 1, hj => simp at hj; subst hj; simp [Addr.add, go_sem]
  | j + 2, hj => simp at hj
/-- below base, and outside of block B, nothing has turned -/
def KB (base B : Nat) (w w' : World) : Prop := ∀ b o, b < base → b ≠ B → w'.cell? ⟨b, o, none⟩ = w.cell? ⟨b, o, none⟩
theorem KB.below {base B : Nat} {w w1 w2 : World} (h : KB base B w w1) (hb : Below base w1 w2) : KB base B w w2 := fun b o hl hn => (Below.cell hb (p := ⟨b, o, none⟩) hl).trans (h b o hl hn)
theorem KB.set {base B : Nat} {w w1 : World} (h : KB base B w w1) {a : Addr} (ha : a.block = B) (x : Value) : KB base B w (w1.setCell a x) := fun b o hl hn => by
  rw [World.cell?_setCell_far w1 a ⟨b, o, none⟩ x (by rw [ha]; exact Ne.symm hn)]
  exact h b o hl hn
theorem SIo.kb {w w' : World} {v : Value} {l : List Int} {B base : Nat} (h : SIo w v l B) (hk : KB base B w w') (hB : w.heap.size ≤ base) : SI w' v l := by
  obtain ⟨⟨a, c, rfl, hl, hc⟩, hne⟩ := h
  refine ⟨a, c, rfl, hl, fun j hj => ?_⟩
  obtain ⟨b, o, rfl, hx⟩ := hc j hj
  have := lt_of_cell hx
  exact ⟨b, o, rfl, by rw [hk b (o + j) (by omega) (hne (by omega) b o _ _ rfl)]; exact hx⟩
theorem BoxAt.drew {w : World} {B : Nat} {vs : List Value} {T : TypeId} (h : BoxAt w B vs T) : BoxAt w.drew B vs T := h.bl (Bl.refl w).drew

set_option maxRecDepth 100000 in
set_option maxHeartbeats 4000000 in
theorem base_any (x : ByteArray) (w : World) (hE : EnvB w) :
    Calls Tryd.prog 17 #[.string x] w fun e w' => ∃ v, e = .returned (.tuple #[v, .int .i64 (baseE x)]) ∧ SP w' v (baseP x) ∧ Bl w w' := by
  obtain ⟨i0, hi, hz0, hz1, hz2⟩ := info_parts infoMsg
  go_enter Tryd.func17, Tryd.ntmps17
  go_wp2_with fail
  refine (bnames_any _).mono ?_
  rintro e w1 ⟨nv, rfl, hnv, hb1⟩
  have y2 := (BoxAt.new w #[.string ⟨#[]⟩, .slice none 0 0, .slice none 0 0, .slice none 0 0] 29).bl hb1
  have H1 : Bl w w1 := ((Bl.refl w).alloc _).trans hb1
  clear hb1
  go_wp2_with fail
  refine (bIdx_any nv x w1 hnv).mono ?_
  rintro e W1 ⟨rfl, rfl⟩
  rcases idx_cases x with ⟨he, hno⟩ | ⟨k, hk, he, hx⟩
  · rw [he]
    have HB := Lib.hid (base_no hno)
    clear hno
    have q0 := y2.cell 0 rfl
    have q1 := y2.cell 1 rfl
    have q2' := y2.cell 2 rfl
    have q3 := y2.cell 3 rfl
    have f0 := y2.free 0
    have f1 := y2.free 1
    have f2 := y2.free 2
    have f3 := y2.free 3
    have hltq := y2.lt
    go_wp2
    have yf := (((y2.set 0 (.string ⟨#[]⟩)).set 1 (.slice none 0 0)).set 2 (.slice none 0 0)).set 3 (.slice none 0 0)
    have hbf : Bl w ((((w1.setCell ⟨w.heap.size, 0, none⟩ (.string ⟨#[]⟩)).setCell ⟨w.heap.size, 1, none⟩ (.slice none 0 0)).setCell ⟨w.heap.size, 2, none⟩ (.slice none 0 0)).setCell ⟨w.heap.size, 3, none⟩ (.slice none 0 0)) := (((Bl.setCell H1 (Nat.le_refl _) _).setCell (Nat.le_refl _) _).setCell (Nat.le_refl _) _).setCell (Nat.le_refl _) _
    generalize ((((w1.setCell ⟨w.heap.size, 0, none⟩ (.string ⟨#[]⟩)).setCell ⟨w.heap.size, 1, none⟩ (.slice none 0 0)).setCell ⟨w.heap.size, 2, none⟩ (.slice none 0 0)).setCell ⟨w.heap.size, 3, none⟩ (.slice none 0 0)) = Wf at yf hbf ⊢
    have p0 := yf.cell 0 rfl
    have p1 := yf.cell 1 rfl
    have p2 := yf.cell 2 rfl
    have p3 := yf.cell 3 rfl
    exact bodyPost_ret (v := .tuple #[.agg #[(.string ⟨#[]⟩), (.slice none 0 0), (.slice none 0 0), (.slice none 0 0)], .int .i64 4]) (by simp [results, Tryd.results17, go_sem, p0, p1, p2, p3]) rfl ⟨_, by rw [HB.out.2], by rw [HB.out.1]; exact ⟨_, _, _, rfl, by show (0 : Nat) ≤ _; omega, SI.nil _, SI.nil _, SM.nil _⟩, hbf⟩
  · rw [he]
    subst hx
    have HB := Lib.hid (base_yes k hk)
    have hok := okRows k hk
    clear he
    go_wp2_with fail
    refine (brows_any w1).mono ?_
    rintro e w2 ⟨rfl, hw2⟩
    have hR : RowsAt w2 w1.heap.size := by rw [hw2]; exact RowsAt.new w1
    have hb2 : Bl w1 w2 := by rw [hw2]; exact (Bl.refl w1).alloc _
    clear hw2
    obtain ⟨c0, c1, c2, c3⟩ := hR k hk
    generalize hr : rowsL[k] = r at *
    have HRr := Lib.hid hr
    clear hr hR
    obtain ⟨nm, n0, n1, ms⟩ := r
    simp only [okRow, Bool.and_eq_true, decide_eq_true_eq] at hok
    obtain ⟨⟨⟨⟨o0, o1⟩, o2⟩, o3⟩, o4⟩ := hok
    simp only at o0 o1 o2 o3 o4 c0 c1 c2 c3
    go_wp2
    have x3 := BoxAt.new w2 #[.string nm, .string n0, .string n1, .string ms] 75
    have y3 := (y2.bl hb2).alloc (.cells #[.string nm, .string n0, .string n1, .string ms] 75)
    have H3 := (H1.trans hb2).alloc (.cells #[.string nm, .string n0, .string n1, .string ms] 75)
    generalize w2.alloc (.cells #[.string nm, .string n0, .string n1, .string ms] 75) = w3 at x3 y3 H3 ⊢
    have x33 := x3.drew
    have y33 := y3.drew
    have H33 : Bl w w3.drew := H3.drew
    have s33 := S2.of x33
    have x34 := (x3.alloc (.cells #[.string ⟨#[]⟩, .slice none 0 0, .slice none 0 0, .slice none 0 0] 29)).drew
    have y34 := (y3.alloc (.cells #[.string ⟨#[]⟩, .slice none 0 0, .slice none 0 0, .slice none 0 0] 29)).drew
    have H34 : Bl w (w3.alloc (.cells #[.string ⟨#[]⟩, .slice none 0 0, .slice none 0 0, .slice none 0 0] 29)).drew := (H3.alloc (.cells #[.string ⟨#[]⟩, .slice none 0 0, .slice none 0 0, .slice none 0 0] 29)).drew
    have z34 := (BoxAt.new w3 #[.string ⟨#[]⟩, .slice none 0 0, .slice none 0 0, .slice none 0 0] 29).drew
    have s34 := S2.of x34
    go_cut [6] from 19 to 27 (fun p wx => ∃ (B6 : Nat) (a0 a1 : Option Addr) (d0 d1 : Nat), p = .pointer (some ⟨B6, 0, none⟩) ∧ BoxAt wx B6 [.string nm, .slice a0 (tk n0).length d0, .slice a1 (tk n1).length d1, .slice none 0 0] 29 ∧
      SIo wx (.slice a0 (tk n0).length d0) (tk n0) B6 ∧ SIo wx (.slice a1 (tk n1).length d1) (tk n1) B6 ∧ BoxAt wx w2.heap.size [.string nm, .string n0, .string n1, .string ms] 75 ∧ BoxAt wx w.heap.size [.string ⟨#[]⟩, .slice none 0 0, .slice none 0 0, .slice none 0 0] 29 ∧ Bl w wx ∧ w.heap.size < B6 ∧ w2.heap.size < B6)
    case first =>
      go_region_held3 (fun wx : World => wx.cell? ⟨w2.heap.size, 1, none⟩ = some (.string n0) ∧ wx.cell? ⟨w2.heap.size, 2, none⟩ = some (.string n1)) (first | with_reducible exact s5 | with_reducible exact s4 | with_reducible exact s33 | with_reducible exact s34 | with_reducible exact S2.alloc s5 _ | with_reducible exact S2.alloc s4 _ | with_reducible exact S2.alloc s33 _ | with_reducible exact S2.set4 s5 hn5a hn5a hn5a hn5a _ _ _ _ | with_reducible exact S2.set4 s5 hn5b hn5b hn5b hn5b _ _ _ _) (first | (go_at_call 41; go_fit (tk_any n1 _ (hE.bl H4) o2); rintro e w5 ⟨u5, rfl, hu5, hb5⟩; obtain ⟨ua5, uc5, hue5⟩ := own_form hu5; subst hue5; have x5 := x4.bl hb5; have s5 := S2.of x5; have y5 := y4.bl hb5; have H5 := H4.trans hb5; have z5 := z4.bl hb5; have zc0 := z5.cell 0 rfl; have zf0 := z5.free 0; have zc1 := z5.cell 1 rfl; have zf1 := z5.free 1; have zc2 := z5.cell 2 rfl; have zf2 := z5.free 2; have zc3 := z5.cell 3 rfl; have zf3 := z5.free 3; have zl := z5.lt) | (go_at_call 41; go_fit (tk_any n1 _ (hE.bl H4) o2); rintro e w5 ⟨u5, rfl, hu5, hb5⟩; obtain ⟨ua5, uc5, hue5⟩ := own_form hu5; subst hue5; have x5 := x4.bl hb5; have s5 := S2.of x5; have y5 := y4.bl hb5; have H5 := H4.trans hb5) | (go_at_call 41; go_fit (tk_any n1 _ (hE.bl (H4.alloc (.cells #[.string ⟨#[]⟩, .slice none 0 0, .slice none 0 0, .slice none 0 0] 29))) o2); rintro e w5 ⟨u5, rfl, hu5, hb5⟩; obtain ⟨ua5, uc5, hue5⟩ := own_form hu5; subst hue5; have x5 := (x4.alloc (.cells #[.string ⟨#[]⟩, .slice none 0 0, .slice none 0 0, .slice none 0 0] 29)).bl hb5; have s5 := S2.of x5; have y5 := (y4.alloc (.cells #[.string ⟨#[]⟩, .slice none 0 0, .slice none 0 0, .slice none 0 0] 29)).bl hb5; have H5 := (H4.alloc (.cells #[.string ⟨#[]⟩, .slice none 0 0, .slice none 0 0, .slice none 0 0] 29)).trans hb5; have z5 := (BoxAt.new w4 #[.string ⟨#[]⟩, .slice none 0 0, .slice none 0 0, .slice none 0 0] 29).bl hb5; have hn5a : w2.heap.size ≠ w4.heap.size := Nat.ne_of_lt x4.lt; have hn5b := hn5a; have zc0 := z5.cell 0 rfl; have zf0 := z5.free 0; have zc1 := z5.cell 1 rfl; have zf1 := z5.free 1; have zc2 := z5.cell 2 rfl; have zf2 := z5.free 2; have zc3 := z5.cell 3 rfl; have zf3 := z5.free 3; have zl := z5.lt) | (go_at_call 41; go_fit (tk_any n0 _ (hE.bl H33) o1); rintro e w4 ⟨u4, rfl, hu4, hb4⟩; obtain ⟨ua4, uc4, hue4⟩ := own_form hu4; subst hue4; have x4 := x33.bl hb4; have s4 := S2.of x4; have y4 := y33.bl hb4; have H4 := H33.trans hb4) | (go_at_call 41; go_fit (tk_any n0 _ (hE.bl H34) o1); rintro e w4 ⟨u4, rfl, hu4, hb4⟩; obtain ⟨ua4, uc4, hue4⟩ := own_form hu4; subst hue4; have x4 := x34.bl hb4; have s4 := S2.of x4; have y4 := y34.bl hb4; have H4 := H34.trans hb4; have z4 := z34.bl hb4; have hn5a : w2.heap.size ≠ w3.heap.size := Nat.ne_of_lt x33.lt; have hn5b : w2.heap.size ≠ w3.heap.size := Nat.ne_of_lt x33.lt))
      all_goals go_wp2_with fail
      all_goals go_meet
      all_goals first
        | exact ⟨w5.heap.size, ua4, ua5, uc4, uc5, rfl, BoxAt.new w5 #[.string nm, .slice ua4 (tk n0).length uc4, .slice ua5 (tk n1).length uc5, .slice none 0 0] 29, (SIo.lt (own_SI (own_keep hu4 hb5) (by have := tk_len o1; omega)) (Nat.le_refl _)).bl ((Bl.refl w5).alloc _), (SIo.lt (own_SI hu5 (by have := tk_len o2; omega)) (Nat.le_refl _)).bl ((Bl.refl w5).alloc _), x5.alloc _, y5.alloc _, H5.alloc _, y5.lt, x5.lt⟩
        | exact ⟨w4.heap.size, ua4, ua5, uc4, uc5, rfl, z5.set4 _ _ _ _, ((SIo.lt (own_SI hu4 (by have := tk_len o1; omega)) (Nat.le_refl _)).bl (Bl.trans ((Bl.refl w4).alloc (.cells #[.string ⟨#[]⟩, .slice none 0 0, .slice none 0 0, .slice none 0 0] 29)) hb5)).set4 _ _ _ _, (SIo.own hu5 (by have := tk_len o2; omega) (by rw [size_alloc]; omega)).set4 _ _ _ _, x5.oth4 (Nat.ne_of_lt x4.lt) _ _ _ _, y5.oth4 (Nat.ne_of_lt y4.lt) _ _ _ _, H5.set4 (Nat.le_of_lt y4.lt) _ _ _ _, y4.lt, x4.lt⟩
        | exact ⟨w3.heap.size, ua4, ua5, uc4, uc5, rfl, z5.set4 _ _ _ _, ((SIo.own hu4 (by have := tk_len o1; omega) (by show w3.heap.size < (w3.alloc _).heap.size; rw [size_alloc]; omega)).bl hb5).set4 _ _ _ _, (SIo.own hu5 (by have := tk_len o2; omega) z4.lt).set4 _ _ _ _, x5.oth4 (Nat.ne_of_lt x3.lt) _ _ _ _, y5.oth4 (Nat.ne_of_lt y3.lt) _ _ _ _, H5.set4 (Nat.le_of_lt y3.lt) _ _ _ _, y3.lt, x3.lt⟩
    case rest =>
      obtain ⟨B6, a0, a1, d0, d1, rfl, z6, hs0, hs1, x6, y6, H6, hB2, hBx⟩ := hcut
      obtain ⟨g0, g1, g2, g3⟩ := (⟨x6.cell 0 rfl, x6.cell 1 rfl, x6.cell 2 rfl, x6.cell 3 rfl⟩ : _ ∧ _ ∧ _ ∧ _)
      go_wp2_with fail
      refine (splitNew_any ms wc (hE.bl H6).shaped (by omega)).mono ?_
      rintro e w7 ⟨rfl, hw7⟩
      have hp7 : BoxAt w7 wc.heap.size ((piecesL ms).map Value.string) 9 := by rw [hw7]; exact BoxAt.new wc ((piecesL ms).map Value.string).toArray _
      have hb7 : Bl wc w7 := by rw [hw7]; exact (Bl.refl wc).alloc _
      have hlt7 : wc.heap.size < w7.heap.size := hp7.lt
      clear hw7
      have hpl := splitS_len ms ⟨#[59]⟩ (by decide)
      replace hpl : (piecesL ms).length ≤ 101 := Nat.le_trans hpl (by omega)
      have HMS := Lib.hid (show msgsB 0 (piecesL ms) = (rowP ⟨nm, n0, n1, ms⟩).msgs from rfl)
      generalize piecesL ms = pcs at *
      have hB6c : B6 < wc.heap.size := z6.lt
      have K7 : KB w7.heap.size B6 w7 w7 := fun b o _ _ => rfl
      have z7 := z6.bl hb7
      have y7 := y6.bl hb7
      have H7 := H6.trans hb7
      replace hs0 := hs0.bl hb7
      replace hs1 := hs1.bl hb7
      have HOK := Lib.hid o4
      clear o4 x6 g0 g1 g2 g3 z6 y6
      go_wp2
      go_loopw [32] (fun i wr => ∃ (j : Nat) (vm : Value) (xs : List Value), j ≤ pcs.length ∧ i = .int .i64 j ∧ BoxAt wr B6 [.string nm, .slice a0 (tk n0).length d0, .slice a1 (tk n1).length d1, vm] 29 ∧ wr.ownsRow w7.heap.size 65 2 vm j xs ∧
        MOwn wr w7.heap.size 3 xs (msgsB 0 (pcs.take j)) ∧ BoxAt wr wc.heap.size (pcs.map Value.string) 9 ∧ BoxAt wr w.heap.size [.string ⟨#[]⟩, .slice none 0 0, .slice none 0 0, .slice none 0 0] 29 ∧
        KB w7.heap.size B6 w7 wr ∧ Bl w wr ∧ w7.heap.size ≤ wr.heap.size) (fun i _ => pcs.length - (intOf i).toNat)
      case atStart => exact ⟨0, _, [], by omega, rfl, z7, World.ownsRow_nil _ _ _ _, trivial, hp7, y7, K7, H7, Nat.le_refl _⟩
      case round =>
        obtain ⟨j, vm, xs, hj, rfl, z, hown, hmo, hp, y, hK, hbr, hsz⟩ := hrel
        by_cases hjn : j < pcs.length
        · have hcx := hp.cell j (x := .string pcs[j]) (by simp [hjn])
          have HN := Lib.hid (msgsB_snoc pcs j hjn)
          have okx : okS pcs[j] = true := List.all_eq_true.1 HOK.out _ (List.getElem_mem hjn)
          generalize hx : pcs[j] = x at *
          have HX := Lib.hid hx
          clear hx
          generalize hmm : msgsB 0 (pcs.take j) = mm at *
          have HMM := Lib.hid hmm
          clear hmm
          obtain ⟨oa, oc, hoe⟩ := own_form hown
          subst hoe
          have c3 := z.cell 3 rfl
          have f3 := z.free 3
          have hlz := z.lt
          have hmod : ((j : Int)).tmod 2 = ((j % 2 : Nat) : Int) := rfl
          have zD := z.drew
          have hownD := own_keep hown ((Bl.refl wr).drew)
          have hmoD := hmo.bl ((Bl.refl wr).drew)
          have hpD := hp.drew
          have yD := y.drew
          have hKD : KB w7.heap.size B6 w7 wr.drew := hK
          have hbD : Bl w wr.drew := hbr.drew
          have hszD : w7.heap.size ≤ wr.drew.heap.size := hsz
          have hB67 : B6 < w7.heap.size := by omega
          have htl := tk_len okx
          have hjl : j ≤ 101 := by omega
          go_wp2
          go_region_law (first | (refine step_append_own rfl (.tmp 38) (.tmp 44) 27 rfl w7.heap.size 65 i0 (.agg #[.int .i64 0, .slice none 0 0]) 2 32 Tryd.underlying27 hi hz0 hz1 hz2 rfl (by decide) _ _ _ rfl (own_keep hown8 ((Bl.refl w8).alloc (.cells #[.int .i64 ((j : Int).tmod 2), .slice ua8 (tk x).length uc8] 65))) ⟨w8.heap.size, 0, none⟩ 1 1 [.int .i64 ((j : Int).tmod 2), .slice ua8 (tk x).length uc8] rfl rfl (two_newB w8 _ _ _) (by intro u hu; simp at hu; rcases hu with rfl | rfl <;> rfl) (by unfold maxLen; omega) (by omega) (by rw [size_alloc]; omega) ?_; intro v' w10 hown10 hg10; obtain ⟨oa10, oc10, e10⟩ := own_form hown10; subst e10; have hb10 := Below.ofGrown (own_keep hown8 ((Bl.refl w8).alloc (.cells #[.int .i64 ((j : Int).tmod 2), .slice ua8 (tk x).length uc8] 65))) hg10 (by rw [size_alloc]; omega); have z10 := (z8.alloc (.cells #[.int .i64 ((j : Int).tmod 2), .slice ua8 (tk x).length uc8] 65)).below hb10 hB67; have c10 := z10.cell 3 rfl; have f10 := z10.free 3; have hlz10 := z10.lt) | (go_simp; go_at_call 41; refine (tk_any x _ (hE.bl hbD) okx).mono ?_; rintro e w8 ⟨u8, rfl, hu8, hb8⟩; obtain ⟨ua8, uc8, hue8⟩ := own_form hu8; subst hue8; have z8 := zD.bl hb8; have c83 := z8.cell 3 rfl; have f83 := z8.free 3; have hlz8 := z8.lt; have hbr8 := hbD.trans hb8; have hown8 := own_keep hownD hb8; have hmo8 := hmoD.bl hb8; have hp8 := hpD.bl hb8; have y8 := yD.bl hb8; have hK8 := hKD.below (hb8.mono hszD); have hsz8 := Nat.le_trans hszD hb8.size))
          all_goals
            have aO : Bl w8 (w8.alloc (.cells #[.int .i64 ((j : Int).tmod 2), .slice ua8 (tk x).length uc8] 65)) := (Bl.refl w8).alloc _
            have hmo10 := (hmo8.bl aO).grown (own_keep hown8 aO) (by decide) hg10
            have hu9 := own_keep (own_lower hu8 hszD) aO
            have hu10 := hu9.kept hg10 (own_apart hu9 (own_keep hown8 aO) (by decide))
            have hp10 := (hp8.alloc (.cells #[.int .i64 ((j : Int).tmod 2), .slice ua8 (tk x).length uc8] 65)).below hb10 hlt7
            have y10 := (y8.alloc (.cells #[.int .i64 ((j : Int).tmod 2), .slice ua8 (tk x).length uc8] 65)).below hb10 (by omega)
            have hs10 := hb10.size
            rw [size_alloc] at hs10
            go_wp2
            go_roundw
            case rel => exact ⟨j + 1, _, _, by omega, by go_num, z10.set 3 _, own_base hown10 hB67 _, by rw [HN.out]; exact (hmo10.snoc (m := ⟨((j % 2 : Nat) : Int), tk x⟩) hu10 (by show (tk x).length ≤ _; omega)).store hB67 _, hp10.other (by show wc.heap.size ≠ B6; omega) _, y10.other (by show w.heap.size ≠ B6; omega) _, ((hK8.below (aO.mono hsz8)).below hb10).set rfl _, ((hbr8.alloc _).below hb10 (by omega)).setCell (by show w.heap.size ≤ B6; omega) _, by simp only [World.setCell, Array.size_modify]; omega⟩
            case measure => simp [intOf]; omega
        · obtain rfl : j = pcs.length := by omega
          rw [List.take_length] at hmo
          obtain ⟨oa, oc, hoe⟩ := own_form hown
          subst hoe
          have c0 := z.cell 0 rfl
          have c1 := z.cell 1 rfl
          have c2 := z.cell 2 rfl
          have c3 := z.cell 3 rfl
          have hlz := z.lt
          have q0 := y.cell 0 rfl
          have q1 := y.cell 1 rfl
          have q2 := y.cell 2 rfl
          have q3 := y.cell 3 rfl
          have f0 := y.free 0
          have f1 := y.free 1
          have f2 := y.free 2
          have f3 := y.free 3
          have hly := y.lt
          have r0 := hs0.kb hK (Nat.le_refl _)
          have r1 := hs1.kb hK (Nat.le_refl _)
          go_wp2
          have yf := y.set4 (.string nm) (.slice a0 (tk n0).length d0) (.slice a1 (tk n1).length d1) (.slice oa pcs.length oc)
          have hbf := hbr.set4 (Nat.le_refl _) (.string nm) (.slice a0 (tk n0).length d0) (.slice a1 (tk n1).length d1) (.slice oa pcs.length oc)
          have hl9 : w.heap.size < w7.heap.size := by omega
          have r0' := ((r0.far y not_int4).set4 (.string nm) (.slice a0 (tk n0).length d0) (.slice a1 (tk n1).length d1) (.slice oa pcs.length oc)).1
          have r1' := ((r1.far y not_int4).set4 (.string nm) (.slice a0 (tk n0).length d0) (.slice a1 (tk n1).length d1) (.slice oa pcs.length oc)).1
          have km := (own_base (a := ⟨w.heap.size, 3, none⟩) (own_base (a := ⟨w.heap.size, 2, none⟩) (own_base (a := ⟨w.heap.size, 1, none⟩) (own_base (a := ⟨w.heap.size, 0, none⟩) hown hl9 (.string nm)) hl9 (.slice a0 (tk n0).length d0)) hl9 (.slice a1 (tk n1).length d1)) hl9 (.slice oa pcs.length oc))
          have kmo := ((((hmo.store (a := ⟨w.heap.size, 0, none⟩) hl9 (.string nm)).store (a := ⟨w.heap.size, 1, none⟩) hl9 (.slice a0 (tk n0).length d0)).store (a := ⟨w.heap.size, 2, none⟩) hl9 (.slice a1 (tk n1).length d1)).store (a := ⟨w.heap.size, 3, none⟩) hl9 (.slice oa pcs.length oc))
          generalize ((((wr.setCell ⟨w.heap.size, 0, none⟩ (.string nm)).setCell ⟨w.heap.size, 1, none⟩ (.slice a0 (tk n0).length d0)).setCell ⟨w.heap.size, 2, none⟩ (.slice a1 (tk n1).length d1)).setCell ⟨w.heap.size, 3, none⟩ (.slice oa pcs.length oc)) = Wf at yf hbf r0' r1' km kmo ⊢
          have rm' := own_SM km kmo.row (by rw [msgsB_len]; omega)
          rw [HMS.out] at rm'
          have p0 := yf.cell 0 rfl
          have p1 := yf.cell 1 rfl
          have p2 := yf.cell 2 rfl
          have p3 := yf.cell 3 rfl
          exact bodyPost_ret (v := .tuple #[.agg #[(.string nm), (.slice a0 (tk n0).length d0), (.slice a1 (tk n1).length d1), (.slice oa pcs.length oc)], .int .i64 0]) (by simp [results, Tryd.results17, go_sem, p0, p1, p2, p3]) rfl ⟨_, by rw [(base_yes k hk).2], by rw [(base_yes k hk).1, HRr.out]; exact ⟨_, _, _, rfl, by show nm.size ≤ _; omega, r0', r1', rm'⟩, hbf⟩
end Go.Proofs.YtelloecgdiocoaaDoor
