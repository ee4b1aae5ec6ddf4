/- The library's functions, by the shelf's contracts, in this text's own words. -/
import Derived.Test.YtelloecgdiocoaaDoorOwn
import Derived.Test.YtelloecgdiocoaaDoorText
import Derived.Test.YtelloecgdiocoaaDoorShelf
set_option linter.unusedSimpArgs false
set_option linter.unusedVariables false
namespace Go.Proofs.YtelloecgdiocoaaDoor
open Go.RowKit Go.Lib

/-- What a call may count on: the library's variables as they were laid. -/
structure Env (w : World) : Prop where
  shaped : w.ShapedOpen Tryd.prog
  space : Lib.TabIs Tryd.prog w "strings.asciiSpace" .u8 Lib.asciiSpaceTab
  utf8 : Lib.Utf8Tabs 2 3 w
theorem shaped_bl {w w' : World} (h : w.ShapedOpen Tryd.prog) (hb : Bl w w') : w'.ShapedOpen Tryd.prog :=
  h.keptBut (hb.frame (fun _ => False)) (fun _ hp => hp.elim)

def splitS (s sep : ByteArray) : List ByteArray := Lib.splitB sep 0 (Lib.countB s sep) s

theorem indexS_any (v : Value) (l : List ByteArray) (x : ByteArray) (w : World) (h : SS w v l) :
    Calls Tryd.prog 39 #[v, .string x] w fun e w' => e = .returned (.int .i64 (Lib.idxOfS l x)) ∧ w = w' := by
  obtain ⟨a, c, rfl, ⟨hl, hcap⟩, hc⟩ := h
  rcases Nat.eq_zero_or_pos l.length with h0 | h0
  · obtain rfl := List.length_eq_zero_iff.1 h0
    exact (Tryd.slices_Index_string_empty a c x w).mono fun _ _ h => ⟨h.1, h.2.symm⟩
  · obtain ⟨b, o, rfl, _⟩ := hc 0 h0
    have := Tryd.slices_Index_string b o l.length c l x w (Nat.le_refl _) (by omega) (fun j hj => by
      obtain ⟨b', o', e, h⟩ := hc j hj
      obtain ⟨rfl, rfl⟩ : b = b' ∧ o = o' := by simpa using e
      rw [h, List.getD_eq_getElem?_getD, List.getElem?_eq_getElem hj]; rfl)
    rw [List.take_length] at this
    exact this.mono fun _ _ h => ⟨h.1, h.2.symm⟩

theorem containsI_any (v : Value) (l : List Int) (x : Int) (w : World) (h : SI w v l) :
    Calls Tryd.prog 94 #[v, .int .i64 x] w fun e w' => e = .returned (.bool (l.contains x)) ∧ w = w' := by
  obtain ⟨a, c, rfl, ⟨hl, hcap⟩, hc⟩ := h
  rcases Nat.eq_zero_or_pos l.length with h0 | h0
  · obtain rfl := List.length_eq_zero_iff.1 h0
    exact (Tryd.slices_Contains_int_empty a c x w).mono fun _ _ h => ⟨h.1, h.2.symm⟩
  · obtain ⟨b, o, rfl, _⟩ := hc 0 h0
    have := Tryd.slices_Contains_int b o l.length c l x w (Nat.le_refl _) (by omega) (fun j hj => by
      obtain ⟨b', o', e, h⟩ := hc j hj
      obtain ⟨rfl, rfl⟩ : b = b' ∧ o = o' := by simpa using e
      rw [h, List.getD_eq_getElem?_getD, List.getElem?_eq_getElem hj]; rfl)
    rw [List.take_length] at this
    exact this.mono fun _ _ h => ⟨h.1, h.2.symm⟩

theorem join_any (v : Value) (l : List ByteArray) (sep : ByteArray) (w : World) (h : SS w v l) (hlen : (Lib.join (l.map (·.data.toList)) sep.data.toList).length ≤ 140737488355328) :
    Calls Tryd.prog 83 #[v, .string sep] w fun e w' => e = .returned (.string ⟨(Lib.join (l.map (·.data.toList)) sep.data.toList).toArray⟩) ∧ Bl w w' := by
  obtain ⟨a, c, rfl, ⟨hl, hcap⟩, hc⟩ := h
  rcases Nat.eq_zero_or_pos l.length with h0 | h0
  · obtain rfl := List.length_eq_zero_iff.1 h0
    exact (Tryd.strings_Join_none a c sep w).mono fun _ _ h => ⟨h.1, by rw [h.2]; exact Bl.refl _⟩
  · obtain ⟨b, o, rfl, hc0⟩ := hc 0 h0
    exact Tryd.strings_Join b o c l sep w (fun j x hx => by
      obtain ⟨hj, hx'⟩ := List.getElem?_eq_some_iff.1 hx
      obtain ⟨b', o', e, h⟩ := hc j hj
      obtain ⟨rfl, rfl⟩ : b = b' ∧ o = o' := by simpa using e
      rw [h, hx']) (lt_of_cell hc0) (by omega) hcap hlen

theorem SS.ofCells (w : World) (l : List ByteArray) (T : TypeId) (hl : l.length ≤ 8796093021952) : SS (w.alloc (.cells (l.map Value.string).toArray T)) (.slice (some ⟨w.heap.size, 0, none⟩) l.length l.length) l :=
  ⟨_, _, rfl, ⟨hl, Nat.le_refl _⟩, fun j hj => ⟨w.heap.size, 0, rfl, by
    rw [Nat.zero_add]
    exact (BoxAt.new w (l.map Value.string).toArray T).cell j (by simp [hj])⟩⟩

theorem split_any (s sep : ByteArray) (w : World) (h : w.ShapedOpen Tryd.prog) (hs : s.size ≤ 1000000) (h1 : 1 ≤ sep.size) :
    Calls Tryd.prog 42 #[.string s, .string sep] w fun e w' => ∃ v, e = .returned v ∧ SS w' v (splitS s sep) ∧ Bl w w' := by
  have hlen : (splitS s sep).length = Lib.countB s sep + 1 := Lib.splitB_all sep h1 0 _ s rfl
  have hle : Lib.countB s sep ≤ s.size := Lib.countB_le sep h1 s.size s (Nat.le_refl _)
  refine (Tryd.strings_Split_shaped s sep w h (by omega) h1).mono ?_
  rintro e w' ⟨he, rfl⟩
  refine ⟨_, he, ?_, (Bl.refl _).alloc _⟩
  rw [← hlen]
  exact SS.ofCells w (splitS s sep) _ (by omega)
theorem splitS_len (s sep : ByteArray) (h1 : 1 ≤ sep.size) : (splitS s sep).length ≤ s.size + 1 := by
  have hlen : (splitS s sep).length = Lib.countB s sep + 1 := Lib.splitB_all sep h1 0 _ s rfl
  have hle : Lib.countB s sep ≤ s.size := Lib.countB_le sep h1 s.size s (Nat.le_refl _)
  omega
theorem splitS_pos (s sep : ByteArray) (h1 : 1 ≤ sep.size) : 1 ≤ (splitS s sep).length := by
  have hlen : (splitS s sep).length = Lib.countB s sep + 1 := Lib.splitB_all sep h1 0 _ s rfl
  omega

end Go.Proofs.YtelloecgdiocoaaDoor
