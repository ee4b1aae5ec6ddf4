/- Walks: token.row. -/
import Derived.Test.YtelloecgdiocoaaDoorW11
import Derived.Test.YtelloecgdiocoaaDoorOwn2
set_option linter.unusedSimpArgs false
set_option linter.unusedVariables false
namespace Go.Proofs.YtelloecgdiocoaaDoor
open Go.RowKit Go.Sort

def namesL : List ByteArray := [⟨#[63]⟩, ⟨#[101]⟩, ⟨#[115]⟩, ⟨#[101, 101]⟩, ⟨#[101, 115]⟩, ⟨#[115, 101]⟩, ⟨#[115, 115]⟩, ⟨#[112, 115, 107]⟩]
def arrowsL : List ByteArray := [⟨#[45, 62]⟩, ⟨#[60, 45]⟩]
def baL (l : List UInt8) : ByteArray := ⟨l.toArray⟩
def cutA (s : ByteArray) : ByteArray := baL (Lib.cut s.data.toList (ByteArray.data ⟨#[32]⟩).toList).1
def cutB (s : ByteArray) : ByteArray := baL (Lib.cut s.data.toList (ByteArray.data ⟨#[32]⟩).toList).2.1
def cutC (s : ByteArray) : Bool := (Lib.cut s.data.toList (ByteArray.data ⟨#[32]⟩).toList).2.2
def wordsT (s : ByteArray) : List ByteArray := splitS (cutB s) ⟨#[44, 32]⟩
def whoT (s : ByteArray) : Int := Lib.idxOfS arrowsL (cutA s)
def tokI (x : ByteArray) : Int := Lib.idxOfS namesL x
theorem whoT_cases (s : ByteArray) : whoT s = -1 ∨ whoT s = 0 ∨ whoT s = 1 := by
  unfold whoT arrowsL Lib.idxOfS
  simp only [Lib.idxFromS]
  repeat' split
  all_goals simp
def rowM (s : ByteArray) : Msg := ⟨whoT s, (wordsT s).map tokI⟩
def low (t : Int) : Bool := decide (t < 1)
def rowB (s : ByteArray) : Bool := decide (0 ≤ (rowM s).who) && !(rowM s).t.any low

theorem infoInt : (Tryd.prog.info? 3).map (fun i => (i.zero, i.size, i.bytes)) = some (some (.int .i64 0), 1, 8) := by kernel_rfl

theorem cutB_size (s : ByteArray) : (cutB s).size ≤ s.size := by
  unfold cutB baL Lib.cut
  have : s.data.toList.length = s.size := rfl
  split
  · show (List.drop _ _).toArray.size ≤ _
    simp only [List.size_toArray, List.length_drop]; omega
  · show (0 : Nat) ≤ _; omega

theorem splitC_any (s : ByteArray) (w : World) (h : w.ShapedOpen Tryd.prog) (hs : (cutB s).size ≤ 100000) :
    Calls Tryd.prog 42 #[.string (cutB s), .string ⟨#[44, 32]⟩] w fun e w' => ∃ v, e = .returned v ∧ SS w' v (wordsT s) ∧ Bl w w' := split_any (cutB s) ⟨#[44, 32]⟩ w h (by omega) (by decide)
theorem idxArrow_any (s : ByteArray) (w : World) :
    Calls Tryd.prog 39 #[.slice (some ⟨w.heap.size, 0, none⟩) 2 2, .string (cutA s)] (w.alloc (.cells #[.string ⟨#[45, 62]⟩, .string ⟨#[60, 45]⟩] 9)) fun e w' => e = .returned (.int .i64 (whoT s)) ∧ w.alloc (.cells #[.string ⟨#[45, 62]⟩, .string ⟨#[60, 45]⟩] 9) = w' :=
  indexS_any _ arrowsL (cutA s) _ (SS.ofCells w arrowsL _ (by decide))
theorem idxTok_any (v : Value) (x : ByteArray) (w : World) (h : SS w v namesL) :
    Calls Tryd.prog 39 #[v, .string x] w fun e w' => e = .returned (.int .i64 (tokI x)) ∧ w = w' := indexS_any v namesL x w h
def toksV (l : List ByteArray) : List Value := (l.map tokI).map (Value.int .i64)
theorem toksV_snoc (l : List ByteArray) (k : Nat) (hk : k < l.length) : toksV (l.take (k + 1)) = toksV (l.take k) ++ [.int .i64 (tokI l[k])] := by
  unfold toksV
  rw [List.take_succ_eq_append_getElem hk, List.map_append, List.map_append]; rfl

theorem own_len {w : World} {base : Nat} {e : TypeId} {v : Value} {n : Nat} {l : List Int} (h : w.ownsRow base e 1 v n (l.map (Value.int .i64))) : w.ownsRow base e 1 v l.length (l.map (Value.int .i64)) := by
  have : l.length = n := by have := h.1; simpa using this
  rw [this]; exact h

end Go.Proofs.YtelloecgdiocoaaDoor
