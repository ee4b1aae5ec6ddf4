/- Rows and boxes of a call's own: what is appended to reads as ints, strings, messages; a box of cells known whole. Plain lemmas, no program. -/
import Derived.Test.YtelloecgdiocoaaDoorRep
set_option linter.unusedSimpArgs false
set_option linter.unusedVariables false
namespace Go.Proofs.YtelloecgdiocoaaDoor
open Go.RowKit

/-- Block B is a row of these cells, none frozen. -/
def BoxAt (w : World) (B : Nat) (vs : List Value) (T : TypeId) : Prop := w.heap[B]? = some (.cells vs.toArray T (0, 0))
theorem BoxAt.lt {w : World} {B : Nat} {vs : List Value} {T : TypeId} (h : BoxAt w B vs T) : B < w.heap.size := (Array.getElem?_eq_some_iff.1 h).1
theorem BoxAt.cell {w : World} {B : Nat} {vs : List Value} {T : TypeId} (h : BoxAt w B vs T) (i : Nat) {x : Value} (hx : vs[i]? = some x) : w.cell? ⟨B, i, none⟩ = some x := by
  unfold BoxAt at h
  simp [World.cell?, h, hx]
theorem BoxAt.free {w : World} {B : Nat} {vs : List Value} {T : TypeId} (h : BoxAt w B vs T) (i : Nat) : w.frozen? ⟨B, i, none⟩ = false := by
  unfold BoxAt at h
  simp [World.frozen?, h]
theorem BoxAt.new (w : World) (vs : Array Value) (T : TypeId) : BoxAt (w.alloc (.cells vs T)) w.heap.size vs.toList T := by
  show (w.heap.push _)[w.heap.size]? = _
  simp
theorem BoxAt.alloc {w : World} {B : Nat} {vs : List Value} {T : TypeId} (h : BoxAt w B vs T) (o : Obj) : BoxAt (w.alloc o) B vs T :=
  (Below.heap_alloc w o B h.lt).trans h
theorem BoxAt.below {w w' : World} {B base : Nat} {vs : List Value} {T : TypeId} (h : BoxAt w B vs T) (hb : Below base w w') (hB : B < base) : BoxAt w' B vs T :=
  (hb.block B hB).trans h
theorem BoxAt.bl {w w' : World} {B : Nat} {vs : List Value} {T : TypeId} (h : BoxAt w B vs T) (hb : Bl w w') : BoxAt w' B vs T := h.below hb h.lt
theorem BoxAt.other {w : World} {B : Nat} {vs : List Value} {T : TypeId} (h : BoxAt w B vs T) {a : Addr} (ha : B ≠ a.block) (x : Value) : BoxAt (w.setCell a x) B vs T :=
  (Below.heap_setCell w a x B ha).trans h
theorem BoxAt.set {w : World} {B : Nat} {vs : List Value} {T : TypeId} (h : BoxAt w B vs T) (i : Nat) (x : Value) : BoxAt (w.setCell ⟨B, i, none⟩ x) B (vs.set i x) T := by
  unfold BoxAt at *
  simp [World.setCell, Array.getElem?_modify, h]

theorem Below.ofGrown {w w' : World} {base : Nat} {e : TypeId} {size n : Nat} {v : Value} {xs : List Value} (h : w.ownsRow base e size v n xs) (hg : w.grownBy w' v.ownBlock) (hB : base ≤ w.heap.size) : Below base w w' := by
  refine (Below.refl base w).grown hg hB fun k hk => ?_
  rcases h.2 with ⟨rfl, _⟩ | ⟨g, cap, cur, rfl, hb, _⟩
  · simp [Value.ownBlock] at hk
  · have : g = k := by simpa [Value.ownBlock] using hk
    omega
theorem Bl.below {w w1 w2 : World} {base : Nat} (h : Bl w w1) (hb : Below base w1 w2) (hB : w.heap.size ≤ base) : Bl w w2 := Below.trans h (hb.mono hB)
theorem Bl.setCell {w w1 : World} (h : Bl w w1) {a : Addr} (ha : w.heap.size ≤ a.block) (x : Value) : Bl w (w1.setCell a x) := Below.setCell h ha x

/-- The shape of what is owned. -/
theorem own_form {w : World} {base : Nat} {e : TypeId} {size n : Nat} {v : Value} {xs : List Value} (h : w.ownsRow base e size v n xs) : ∃ a c, v = .slice a n c := by
  rcases h.2 with ⟨rfl, rfl⟩ | ⟨g, cap, cur, rfl, _⟩
  · exact ⟨none, 0, rfl⟩
  · exact ⟨_, cap, rfl⟩
theorem own_formc {w : World} {base : Nat} {e : TypeId} {size n : Nat} {v : Value} {xs : List Value} (h : w.ownsRow base e size v n xs) : ∃ a c, v = .slice a n c ∧ n ≤ c := by
  rcases h.2 with ⟨rfl, rfl⟩ | ⟨g, cap, cur, rfl, _, _, hn, _⟩
  · exact ⟨none, 0, rfl, by omega⟩
  · exact ⟨_, cap, rfl, hn⟩
theorem own_cells {w : World} {base : Nat} {e : TypeId} {size n : Nat} {v : Value} {xs : List Value} (h : w.ownsRow base e size v n xs) (hs : 0 < size) (hn : 0 < n) :
    ∃ g c, v = .slice (some ⟨g, 0, none⟩) n c ∧ base ≤ g ∧ ∀ j x, xs[j]? = some x → w.cell? ⟨g, j, none⟩ = some x := by
  rcases h.2 with ⟨_, h0⟩ | ⟨g, cap, cur, rfl, hb, hh, hn', hc, hsz, ht⟩
  · omega
  · refine ⟨g, cap, rfl, hb, fun j x hx => ?_⟩
    have hj : j < n * size := by
      have := (List.getElem?_eq_some_iff.1 hx).1
      rw [h.1] at this
      exact this
    rw [← ht, List.getElem?_take, if_pos hj] at hx
    simp only [World.cell?, hh]
    simpa using hx

theorem own_SI {w : World} {base : Nat} {e : TypeId} {n : Nat} {v : Value} {l : List Int} (h : w.ownsRow base e 1 v n (l.map (Value.int .i64))) (hl : l.length ≤ 17592186043904) : SI w v l := by
  have hn : l.length = n := by have := h.1; simpa using this
  subst hn
  obtain ⟨a, c, hv, hcap⟩ := own_formc h
  refine ⟨a, c, hv, ⟨hl, hcap⟩, fun j hj => ?_⟩
  obtain ⟨g, c', hv', _, hc⟩ := own_cells h (by omega) (by omega)
  rw [hv] at hv'
  injection hv' with ha _ _
  exact ⟨g, 0, ha, by rw [Nat.zero_add]; exact hc j _ (by simp [hj])⟩
theorem own_SS {w : World} {base : Nat} {e : TypeId} {n : Nat} {v : Value} {l : List ByteArray} (h : w.ownsRow base e 1 v n (l.map Value.string)) (hl : l.length ≤ 8796093021952) : SS w v l := by
  have hn : l.length = n := by have := h.1; simpa using this
  subst hn
  obtain ⟨a, c, hv, hcap⟩ := own_formc h
  refine ⟨a, c, hv, ⟨hl, hcap⟩, fun j hj => ?_⟩
  obtain ⟨g, c', hv', _, hc⟩ := own_cells h (by omega) (by omega)
  rw [hv] at hv'
  injection hv' with ha _ _
  exact ⟨g, 0, ha, by rw [Nat.zero_add]; exact hc j _ (by simp [hj])⟩

/-- These cells, two a message, are the messages l. -/
def MRow (w : World) : List Value → List Msg → Prop
  | [], [] => True
  | x :: u :: xs, m :: l => x = .int .i64 m.who ∧ SI w u m.t ∧ MRow w xs l
  | _, _ => False
theorem MRow.bl {w w' : World} (hb : Bl w w') : ∀ {xs : List Value} {l : List Msg}, MRow w xs l → MRow w' xs l
  | [], [], _ => trivial
  | _ :: _ :: _, _ :: _, ⟨h1, h2, h3⟩ => ⟨h1, h2.bl hb, MRow.bl hb h3⟩
  | [], _ :: _, h => h.elim
  | [_], [], h => h.elim
  | [_], _ :: _, h => h.elim
  | _ :: _ :: _, [], h => h.elim
theorem MRow.snoc {w : World} {m : Msg} {u : Value} (hu : SI w u m.t) : ∀ {xs : List Value} {l : List Msg}, MRow w xs l → MRow w (xs ++ [.int .i64 m.who, u]) (l ++ [m])
  | [], [], _ => ⟨rfl, hu, trivial⟩
  | _ :: _ :: _, _ :: _, ⟨h1, h2, h3⟩ => ⟨h1, h2, MRow.snoc hu h3⟩
  | [], _ :: _, h => h.elim
  | [_], [], h => h.elim
  | [_], _ :: _, h => h.elim
  | _ :: _ :: _, [], h => h.elim
theorem MRow.len {w : World} : ∀ {xs : List Value} {l : List Msg}, MRow w xs l → xs.length = l.length * 2
  | [], [], _ => rfl
  | _ :: _ :: _, _ :: _, ⟨_, _, h3⟩ => by have := MRow.len h3; simp only [List.length_cons]; omega
  | [], _ :: _, h => h.elim
  | [_], [], h => h.elim
  | [_], _ :: _, h => h.elim
  | _ :: _ :: _, [], h => h.elim
theorem MRow.at {w : World} : ∀ {xs : List Value} {l : List Msg}, MRow w xs l → ∀ (j : Nat) (hj : j < l.length), ∃ u, xs[j * 2]? = some (.int .i64 l[j].who) ∧ xs[j * 2 + 1]? = some u ∧ SI w u l[j].t
  | [], [], _, j, hj => by simp at hj
  | x :: u :: xs, m :: l, ⟨h1, h2, h3⟩, 0, _ => ⟨u, by simp [h1], by simp, h2⟩
  | x :: u :: xs, m :: l, ⟨h1, h2, h3⟩, j + 1, hj => by
    obtain ⟨u', a, b, c⟩ := MRow.at h3 j (by simpa using hj)
    refine ⟨u', ?_, ?_, by simpa using c⟩
    · rw [show (j + 1) * 2 = j * 2 + 1 + 1 by omega]; simpa using a
    · rw [show (j + 1) * 2 + 1 = j * 2 + 1 + 1 + 1 by omega]; simpa using b
  | [], _ :: _, h, _, _ => h.elim
  | [_], [], h, _, _ => h.elim
  | [_], _ :: _, h, _, _ => h.elim
  | _ :: _ :: _, [], h, _, _ => h.elim
theorem own_SM {w : World} {base : Nat} {e : TypeId} {n : Nat} {v : Value} {xs : List Value} {l : List Msg} (h : w.ownsRow base e 2 v n xs) (hr : MRow w xs l) (hl : l.length ≤ 4398046510976) : SM w v l := by
  have hn : l.length = n := by have := h.1; rw [hr.len] at this; omega
  subst hn
  obtain ⟨a, c, hv, hcap⟩ := own_formc h
  refine ⟨a, c, hv, ⟨hl, hcap⟩, fun j hj => ?_⟩
  obtain ⟨g, c', hv', _, hc⟩ := own_cells h (by omega) (by omega)
  rw [hv] at hv'
  injection hv' with ha _ _
  obtain ⟨u, h1, h2, h3⟩ := hr.at j hj
  exact ⟨g, 0, u, ha, by rw [Nat.zero_add]; exact hc _ _ h1, by rw [Nat.zero_add]; exact hc _ _ h2, h3⟩

theorem own_keep {w w' : World} {base : Nat} {e : TypeId} {size n : Nat} {v : Value} {xs : List Value} (h : w.ownsRow base e size v n xs) (hb : Bl w w') : w'.ownsRow base e size v n xs :=
  h.kept (show w.grownBy w' none from ⟨hb.os, hb.tape, hb.output, hb.size, fun i hi _ => hb.block i hi⟩) (by cases v.ownBlock <;> simp)
theorem own_base {w : World} {base : Nat} {e : TypeId} {size n : Nat} {v : Value} {xs : List Value} (h : w.ownsRow base e size v n xs) {a : Addr} (ha : a.block < base) (x : Value) : (w.setCell a x).ownsRow base e size v n xs := ownsRow_setCell_below h ha x

/-- What reads as strings is not touched by a store into a box that holds none. -/
theorem SS.store {w : World} {v : Value} {l : List ByteArray} (h : SS w v l) {B : Nat} {vs : List Value} {T : TypeId} (hb : BoxAt w B vs T) (hns : ∀ (i : Nat) (s : ByteArray), vs[i]? ≠ some (.string s)) (i : Nat) (x : Value) : SS (w.setCell ⟨B, i, none⟩ x) v l := by
  obtain ⟨a, c, rfl, hl, hc⟩ := h
  refine ⟨a, c, rfl, hl, fun j hj => ?_⟩
  obtain ⟨b, o, e, h⟩ := hc j hj
  refine ⟨b, o, e, ?_⟩
  have hne : b ≠ B := by
    rintro rfl
    unfold BoxAt at hb
    simp only [World.cell?, hb] at h
    exact hns (o + j) l[j] (by simpa using h)
  have := Below.heap_setCell w ⟨B, i, none⟩ x b hne
  simp only [World.cell?, this] at h ⊢
  exact h
theorem not_str2 {x y : Value} (hx : ∀ s, x ≠ .string s) (hy : ∀ s, y ≠ .string s) : ∀ (i : Nat) (s : ByteArray), [x, y][i]? ≠ some (.string s)
  | 0, s => by simpa using hx s
  | 1, s => by simpa using hy s
  | i + 2, s => by simp
theorem SS.keep {w0 w w' : World} {v : Value} {l : List ByteArray} (h0 : SS w0 v l) (h : SS w v l) (hb : Below w0.heap.size w w') : SS w' v l := by
  obtain ⟨a, c, rfl, hl, hc⟩ := h
  obtain ⟨a', c', e, _, hc'⟩ := h0
  injection e with e1 _ _
  subst e1
  refine ⟨a, c, rfl, hl, fun j hj => ?_⟩
  obtain ⟨b, o, e, h⟩ := hc j hj
  obtain ⟨b', o', e', h'⟩ := hc' j hj
  rw [e] at e'
  obtain ⟨rfl, rfl⟩ : b = b' ∧ o = o' := by simpa using e'
  exact ⟨b, o, e, by rw [hb.cell (p := ⟨b, o + j, none⟩) (lt_of_cell h')]; exact h⟩

theorem own_lower {w : World} {base base' : Nat} {e : TypeId} {size n : Nat} {v : Value} {xs : List Value} (h : w.ownsRow base e size v n xs) (hb : base' ≤ base) : w.ownsRow base' e size v n xs := by
  refine ⟨h.1, ?_⟩
  rcases h.2 with h2 | ⟨g, cap, cur, hv, hg, r⟩
  · exact .inl h2
  · exact .inr ⟨g, cap, cur, hv, Nat.le_trans hb hg, r⟩
/-- Rows of two types are two rows. -/
theorem own_apart {w : World} {b b' : Nat} {e e' : TypeId} {s s' n n' : Nat} {v v' : Value} {xs xs' : List Value} (h : w.ownsRow b e s v n xs) (h' : w.ownsRow b' e' s' v' n' xs') (hne : e ≠ e') : v.ownBlock = none ∨ v.ownBlock ≠ v'.ownBlock := by
  rcases h.2 with ⟨rfl, _⟩ | ⟨g, cap, cur, rfl, _, hh, _⟩
  · exact .inl rfl
  · refine .inr fun hk => ?_
    rcases h'.2 with ⟨rfl, _⟩ | ⟨g', cap', cur', rfl, _, hh', _⟩
    · simp [Value.ownBlock] at hk
    · have : g = g' := by simpa [Value.ownBlock] using hk
      subst this
      rw [hh] at hh'
      injection hh' with hh'
      injection hh' with _ ht
      exact hne ht

/-- These cells, two a message, are the messages l, their tokens in rows of the call's own. -/
def MOwn (w : World) (base : Nat) (e : TypeId) : List Value → List Msg → Prop
  | [], [] => True
  | x :: u :: xs, m :: l => x = .int .i64 m.who ∧ w.ownsRow base e 1 u m.t.length (m.t.map (Value.int .i64)) ∧ m.t.length ≤ 17592186043904 ∧ MOwn w base e xs l
  | _, _ => False
theorem MOwn.map {w w' : World} {base : Nat} {e : TypeId} (hk : ∀ (u : Value) (l : List Int), w.ownsRow base e 1 u l.length (l.map (Value.int .i64)) → w'.ownsRow base e 1 u l.length (l.map (Value.int .i64))) : ∀ {xs : List Value} {l : List Msg}, MOwn w base e xs l → MOwn w' base e xs l
  | [], [], _ => trivial
  | _ :: _ :: _, _ :: _, ⟨h1, h2, h3, h4⟩ => ⟨h1, hk _ _ h2, h3, MOwn.map hk h4⟩
  | [], _ :: _, h => h.elim
  | [_], [], h => h.elim
  | [_], _ :: _, h => h.elim
  | _ :: _ :: _, [], h => h.elim
theorem MOwn.bl {w w' : World} {base : Nat} {e : TypeId} (hb : Bl w w') {xs : List Value} {l : List Msg} (h : MOwn w base e xs l) : MOwn w' base e xs l := h.map fun _ _ h => own_keep h hb
/-- An append to a row of another type leaves them alone. -/
theorem MOwn.grown {w w' : World} {base : Nat} {e : TypeId} {xs : List Value} {l : List Msg} (h : MOwn w base e xs l) {b2 : Nat} {e2 : TypeId} {s2 n2 : Nat} {v2 : Value} {xs2 : List Value} (h2 : w.ownsRow b2 e2 s2 v2 n2 xs2) (hne : e ≠ e2) (hg : w.grownBy w' v2.ownBlock) : MOwn w' base e xs l :=
  h.map fun _ _ hu => hu.kept hg (own_apart hu h2 hne)
theorem MOwn.snoc {w : World} {base : Nat} {e : TypeId} {m : Msg} {u : Value} (hu : w.ownsRow base e 1 u m.t.length (m.t.map (Value.int .i64))) (hl : m.t.length ≤ 17592186043904) : ∀ {xs : List Value} {l : List Msg}, MOwn w base e xs l → MOwn w base e (xs ++ [.int .i64 m.who, u]) (l ++ [m])
  | [], [], _ => ⟨rfl, hu, hl, trivial⟩
  | _ :: _ :: _, _ :: _, ⟨h1, h2, h3, h4⟩ => ⟨h1, h2, h3, MOwn.snoc hu hl h4⟩
  | [], _ :: _, h => h.elim
  | [_], [], h => h.elim
  | [_], _ :: _, h => h.elim
  | _ :: _ :: _, [], h => h.elim
theorem MOwn.row {w : World} {base : Nat} {e : TypeId} : ∀ {xs : List Value} {l : List Msg}, MOwn w base e xs l → MRow w xs l
  | [], [], _ => trivial
  | _ :: _ :: _, _ :: _, ⟨h1, h2, h3, h4⟩ => ⟨h1, own_SI h2 h3, MOwn.row h4⟩
  | [], _ :: _, h => h.elim
  | [_], [], h => h.elim
  | [_], _ :: _, h => h.elim
  | _ :: _ :: _, [], h => h.elim
theorem MOwn.store {w : World} {base : Nat} {e : TypeId} {xs : List Value} {l : List Msg} (h : MOwn w base e xs l) {a : Addr} (ha : a.block < base) (x : Value) : MOwn (w.setCell a x) base e xs l := h.map fun _ _ hu => own_base hu ha x

theorem SS.low {W w' : World} {sa : Option Addr} {n c B : Nat} {l : List ByteArray} (h : SS W (.slice sa n c) l) (hlt : ∀ ad, sa = some ad → ad.block < B) (hb : Below B W w') : SS w' (.slice sa n c) l := by
  obtain ⟨a, c', e, hl, hc⟩ := h
  refine ⟨a, c', e, hl, fun j hj => ?_⟩
  obtain ⟨b, o, e', h⟩ := hc j hj
  injection e with e1 e2 e3
  exact ⟨b, o, e', by rw [hb.cell (p := ⟨b, o + j, none⟩) (hlt ⟨b, o, none⟩ (by rw [e1, e']))]; exact h⟩

end Go.Proofs.YtelloecgdiocoaaDoor
