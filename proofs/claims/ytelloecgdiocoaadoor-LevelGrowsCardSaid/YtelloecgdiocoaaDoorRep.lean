/- What a slice of ints, of strings, of messages, and a pattern read as in a world; that reading is kept while old blocks stand. Plain lemmas, no program. -/
import Derived.WalkKit
import Derived.WalkSpells
import Derived.WalkLawsBesides
import Derived.Laws.EntriesVeiled
import Derived.Deep.QuietTactic
import Derived.BigQuiet
import Derived.Lib.Hide
namespace Go.Proofs.YtelloecgdiocoaaDoor
open Go.RowKit

structure Msg where
  who : Int
  t : List Int
deriving DecidableEq, Inhabited

structure Pat where
  name : ByteArray
  pre0 : List Int
  pre1 : List Int
  msgs : List Msg
deriving DecidableEq

/-- What was there stands. -/
abbrev Bl (w w' : World) : Prop := Below w.heap.size w w'
theorem Bl.refl (w : World) : Bl w w := Below.refl _ _
theorem Bl.trans {a b c : World} (h : Bl a b) (k : Bl b c) : Bl a c := Below.trans h (k.mono h.size)
theorem Bl.alloc {a w : World} (h : Bl a w) (o : Obj) : Bl a (w.alloc o) := Below.alloc h h.size o
theorem Bl.drew {a w : World} (h : Bl a w) : Bl a w.drew := Below.drew h
theorem Bl.drewN {a w : World} (h : Bl a w) (n : Nat) : Bl a (w.drewN n) := ⟨h.os, h.tape, h.output, h.size, h.block⟩
/-- The world is the old one, some orders having been drawn. -/
def Dr (w w' : World) : Prop := ∃ n, w' = w.drewN n
theorem Dr.refl (w : World) : Dr w w := ⟨0, rfl⟩
theorem Dr.step {w w' : World} (h : Dr w w') (n : Nat) : Dr w (w'.drewN n) := by
  obtain ⟨m, rfl⟩ := h
  exact ⟨m + n, by rw [World.drewN_drewN]⟩
theorem Dr.bl {w w' : World} (h : Dr w w') : Bl w w' := by
  obtain ⟨n, rfl⟩ := h
  exact (Bl.refl w).drewN n
theorem Dr.trans {a b c : World} (h : Dr a b) (k : Dr b c) : Dr a c := by
  obtain ⟨n, rfl⟩ := k
  exact h.step n
theorem Bl.cellq {w w' : World} (h : Bl w w') {b o : Nat} {v : Value} (hc : w.cell? ⟨b, o, none⟩ = some v) : w'.cell? ⟨b, o, none⟩ = some v :=
  (Below.cell h (p := ⟨b, o, none⟩) (World.block_lt_of_cell? w _ hc)).trans hc
theorem lt_of_cell {w : World} {b o : Nat} {v : Value} (hc : w.cell? ⟨b, o, none⟩ = some v) : b < w.heap.size := World.block_lt_of_cell? w _ hc

theorem size_alloc (w : World) (o : Obj) : (w.alloc o).heap.size = w.heap.size + 1 := by simp

/-- The value v is a slice that reads as the ints l. -/
def SI (w : World) (v : Value) (l : List Int) : Prop :=
  ∃ a c, v = .slice a l.length c ∧ (l.length ≤ 17592186043904 ∧ l.length ≤ c) ∧ ∀ j, (h : j < l.length) → ∃ b o, a = some ⟨b, o, none⟩ ∧ w.cell? ⟨b, o + j, none⟩ = some (.int .i64 l[j])

/-- The value v is a slice that reads as the strings l. -/
def SS (w : World) (v : Value) (l : List ByteArray) : Prop :=
  ∃ a c, v = .slice a l.length c ∧ (l.length ≤ 8796093021952 ∧ l.length ≤ c) ∧ ∀ j, (h : j < l.length) → ∃ b o, a = some ⟨b, o, none⟩ ∧ w.cell? ⟨b, o + j, none⟩ = some (.string l[j])

/-- The value v is a slice that reads as the messages l. -/
def SM (w : World) (v : Value) (l : List Msg) : Prop :=
  ∃ a c, v = .slice a l.length c ∧ (l.length ≤ 4398046510976 ∧ l.length ≤ c) ∧ ∀ j, (h : j < l.length) → ∃ b o u, a = some ⟨b, o, none⟩ ∧ w.cell? ⟨b, o + j * 2, none⟩ = some (.int .i64 l[j].who) ∧
    w.cell? ⟨b, o + j * 2 + 1, none⟩ = some u ∧ SI w u l[j].t

/-- The value v is a pattern. -/
def SP (w : World) (v : Value) (p : Pat) : Prop :=
  ∃ v0 v1 vm, v = .agg #[.string p.name, v0, v1, vm] ∧ p.name.size ≤ 140737488351232 ∧ SI w v0 p.pre0 ∧ SI w v1 p.pre1 ∧ SM w vm p.msgs

theorem SI.bl {w w' : World} {v : Value} {l : List Int} (h : SI w v l) (hb : Bl w w') : SI w' v l := by
  obtain ⟨a, c, rfl, hl, hc⟩ := h
  exact ⟨a, c, rfl, hl, fun j hj => by obtain ⟨b, o, e, h⟩ := hc j hj; exact ⟨b, o, e, hb.cellq h⟩⟩
theorem SS.bl {w w' : World} {v : Value} {l : List ByteArray} (h : SS w v l) (hb : Bl w w') : SS w' v l := by
  obtain ⟨a, c, rfl, hl, hc⟩ := h
  exact ⟨a, c, rfl, hl, fun j hj => by obtain ⟨b, o, e, h⟩ := hc j hj; exact ⟨b, o, e, hb.cellq h⟩⟩
theorem SM.bl {w w' : World} {v : Value} {l : List Msg} (h : SM w v l) (hb : Bl w w') : SM w' v l := by
  obtain ⟨a, c, rfl, hl, hc⟩ := h
  exact ⟨a, c, rfl, hl, fun j hj => by obtain ⟨b, o, u, e, h1, h2, h3⟩ := hc j hj; exact ⟨b, o, u, e, hb.cellq h1, hb.cellq h2, h3.bl hb⟩⟩
theorem SP.bl {w w' : World} {v : Value} {p : Pat} (h : SP w v p) (hb : Bl w w') : SP w' v p := by
  obtain ⟨v0, v1, vm, rfl, hn, h0, h1, hm⟩ := h
  exact ⟨v0, v1, vm, rfl, hn, h0.bl hb, h1.bl hb, hm.bl hb⟩

theorem SI.nil (w : World) : SI w (.slice none 0 0) [] := ⟨none, 0, rfl, by simp, fun j hj => by simp at hj⟩
theorem SS.nil (w : World) : SS w (.slice none 0 0) [] := ⟨none, 0, rfl, by simp, fun j hj => by simp at hj⟩
theorem SM.nil (w : World) : SM w (.slice none 0 0) [] := ⟨none, 0, rfl, by simp, fun j hj => by simp at hj⟩

theorem SI.form {w : World} {v : Value} {l : List Int} (h : SI w v l) : ∃ a c, v = .slice a l.length c := by
  obtain ⟨a, c, rfl, _⟩ := h; exact ⟨a, c, rfl⟩
theorem SS.form {w : World} {v : Value} {l : List ByteArray} (h : SS w v l) : ∃ a c, v = .slice a l.length c := by
  obtain ⟨a, c, rfl, _⟩ := h; exact ⟨a, c, rfl⟩
theorem SM.form {w : World} {v : Value} {l : List Msg} (h : SM w v l) : ∃ a c, v = .slice a l.length c := by
  obtain ⟨a, c, rfl, _⟩ := h; exact ⟨a, c, rfl⟩
theorem SI.len {w : World} {v : Value} {l : List Int} (h : SI w v l) : l.length ≤ 17592186043904 := by
  obtain ⟨a, c, _, h, _⟩ := h; exact h.1
theorem SS.len {w : World} {v : Value} {l : List ByteArray} (h : SS w v l) : l.length ≤ 8796093021952 := by
  obtain ⟨a, c, _, h, _⟩ := h; exact h.1
theorem SM.len {w : World} {v : Value} {l : List Msg} (h : SM w v l) : l.length ≤ 4398046510976 := by
  obtain ⟨a, c, _, h, _⟩ := h; exact h.1
theorem SI.formc {w : World} {v : Value} {l : List Int} (h : SI w v l) : ∃ a c, v = .slice a l.length c ∧ l.length ≤ c := by
  obtain ⟨a, c, rfl, h, _⟩ := h; exact ⟨a, c, rfl, h.2⟩
theorem SS.formc {w : World} {v : Value} {l : List ByteArray} (h : SS w v l) : ∃ a c, v = .slice a l.length c ∧ l.length ≤ c := by
  obtain ⟨a, c, rfl, h, _⟩ := h; exact ⟨a, c, rfl, h.2⟩
theorem SM.formc {w : World} {v : Value} {l : List Msg} (h : SM w v l) : ∃ a c, v = .slice a l.length c ∧ l.length ≤ c := by
  obtain ⟨a, c, rfl, h, _⟩ := h; exact ⟨a, c, rfl, h.2⟩

theorem ret_bool {a b : Bool} (h : a = b) : Ending.returned (.bool a) = .returned (.bool b) := by rw [h]
theorem ret_int {k : IntKind} {a b : Int} (h : a = b) : Ending.returned (.int k a) = .returned (.int k b) := by rw [h]
theorem ret_str {a b : ByteArray} (h : a = b) : Ending.returned (.string a) = .returned (.string b) := by rw [h]

theorem ret_strint {a b : ByteArray} {x : Value} (h : a = b) : Ending.returned (.tuple #[.string a, x]) = .returned (.tuple #[.string b, x]) := by rw [h]
theorem take_step {α : Type} {l m : List α} {k : Nat} (h : l.take k = m.take k) (h0 : k < l.length) (h1 : k < m.length) (e : l[k] = m[k]) : l.take (k + 1) = m.take (k + 1) := by
  rw [List.take_succ_eq_append_getElem h0, List.take_succ_eq_append_getElem h1, h, e]
theorem ne_of_at {α : Type} {l m : List α} {k : Nat} (h0 : k < l.length) (h1 : k < m.length) (e : l[k] ≠ m[k]) : l ≠ m := by
  rintro rfl
  exact e rfl

end Go.Proofs.YtelloecgdiocoaaDoor
