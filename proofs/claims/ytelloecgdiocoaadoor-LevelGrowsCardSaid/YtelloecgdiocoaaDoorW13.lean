/- Walks: token.Parse. -/
import Derived.Test.YtelloecgdiocoaaDoorW12
set_option linter.unusedSimpArgs false
set_option linter.unusedVariables false
namespace Go.Proofs.YtelloecgdiocoaaDoor
open Go.RowKit Go.Sort

def linesT (s : ByteArray) : List ByteArray := splitS s ⟨#[10]⟩
def nameT (s : ByteArray) : ByteArray := ⟨(Lib.trimSuffix ((linesT s).headD ByteArray.empty).data.toList (ByteArray.data ⟨#[58]⟩).toList).toArray⟩
def behindT (s : ByteArray) : Bool := !Lib.containsS (linesT s) ⟨#[46, 46, 46]⟩
def stepL (st : Bool × Pat) (x : ByteArray) : Bool × Pat :=
  if x.toList = [46, 46, 46] then (true, st.2)
  else if rowB x = false then st
  else if st.1 then (true, { st.2 with msgs := st.2.msgs ++ [rowM x] })
  else if (rowM x).who = 0 then (false, { st.2 with pre0 := (rowM x).t })
  else (false, { st.2 with pre1 := (rowM x).t })
def stT (s : ByteArray) (k : Nat) : Bool × Pat := ((linesT s).tail.take k).foldl stepL (behindT s, ⟨nameT s, [], [], []⟩)
def rawT (s : ByteArray) : Pat := (stT s (linesT s).tail.length).2
def parseB (s : ByteArray) : Bool := rightB (rawT s) && decide (printT (rawT s) = s)
def zeroP : Pat := ⟨⟨#[]⟩, [], [], []⟩
/-- what the reader gives back: the pattern, and the number of its verdict -/
def parseP (s : ByteArray) : Pat := if parseB s then rawT s else zeroP
def parseE (s : ByteArray) : Int := if parseB s then 0 else 2
theorem parse_yes {s : ByteArray} (h : parseB s = true) : parseP s = rawT s ∧ parseE s = 0 := by rw [parseP, parseE, h]; exact ⟨rfl, rfl⟩
theorem parse_no {s : ByteArray} (h : parseB s = false) : parseP s = zeroP ∧ parseE s = 2 := by rw [parseP, parseE, h]; exact ⟨rfl, rfl⟩

theorem stT_succ (s : ByteArray) (k : Nat) (hk : k < (linesT s).tail.length) : stT s (k + 1) = stepL (stT s k) (linesT s).tail[k] := by
  unfold stT
  rw [List.take_succ_eq_append_getElem hk, List.foldl_append]; rfl
theorem step_name (st : Bool × Pat) (x : ByteArray) : (stepL st x).2.name = st.2.name := by
  unfold stepL
  repeat' split
  all_goals rfl
theorem st_name (s : ByteArray) : ∀ (l : List ByteArray) (st : Bool × Pat), (l.foldl stepL st).2.name = st.2.name
  | [], _ => rfl
  | x :: l, st => by rw [List.foldl_cons, st_name s l, step_name]
theorem stT_name (s : ByteArray) (k : Nat) : (stT s k).2.name = nameT s := st_name s _ _
theorem rowB_who {x : ByteArray} (h : rowB x = true) : (rowM x).who = 0 ∨ (rowM x).who = 1 := by
  have h1 : 0 ≤ (rowM x).who := by
    simp only [rowB, Bool.and_eq_true, decide_eq_true_eq] at h
    exact h.1
  have h2 : (rowM x).who = whoT x := rfl
  have h3 := whoT_cases x
  omega

theorem lines_any (s : ByteArray) (w : World) (h : w.ShapedOpen Tryd.prog) (hs : s.size ≤ 90000) :
    Calls Tryd.prog 42 #[.string s, .string ⟨#[10]⟩] w fun e w' => ∃ v, e = .returned v ∧ SS w' v (linesT s) ∧ Bl w w' := split_any s ⟨#[10]⟩ w h (by omega) (by decide)
theorem infoMsg : (Tryd.prog.info? 65).map (fun i => (i.zero, i.size, i.bytes)) = some (some (.agg #[.int .i64 0, .slice none 0 0]), 2, 32) := by kernel_rfl

/-- each line is no longer than the text -/
theorem piece_len (sep : ByteArray) (save : Nat) : ∀ (k : Nat) (s x : ByteArray), x ∈ Lib.splitB sep save k s → x.size ≤ s.size
  | 0, s, x, hx => by
    rw [Lib.splitB_zero] at hx
    simp at hx; rw [hx]; omega
  | k + 1, s, x, hx => by
    unfold Lib.splitB at hx
    split at hx
    · simp at hx; rw [hx]; omega
    · rcases List.mem_cons.1 hx with h | h
      · rw [h, ByteArray.size_extract]; omega
      · have := piece_len sep save k _ x h
        rw [ByteArray.size_extract] at this
        omega
theorem line_len (s x : ByteArray) (hx : x ∈ linesT s) : x.size ≤ s.size := piece_len _ _ _ _ _ hx
theorem nameT_size (s : ByteArray) : (nameT s).size ≤ ((linesT s).headD ByteArray.empty).size := by
  unfold nameT Lib.trimSuffix
  generalize (linesT s).headD ByteArray.empty = x
  have : x.data.toList.length = x.size := rfl
  split
  · show (List.toArray _).size ≤ _
    simp only [List.size_toArray, List.length_take]; omega
  · show (List.toArray _).size ≤ _
    simp only [List.size_toArray]; omega

/-- What holds of the pattern that is read, after k lines behind the first one. -/
def PInv (w W : World) (base B5 : Nat) (s : ByteArray) (st : Bool × Pat) (k : Nat) (wr : World) : Prop :=
  ∃ (v0 v1 vm : Value) (xs : List Value), BoxAt wr w.heap.size [.string ⟨#[]⟩, .slice none 0 0, .slice none 0 0, .slice none 0 0] 29 ∧ BoxAt wr B5 [.string (nameT s), v0, v1, vm] 29 ∧
    wr.ownsRow base 65 2 vm st.2.msgs.length xs ∧ MOwn wr base 3 xs st.2.msgs ∧ wr.ownsRow base 3 1 v0 st.2.pre0.length (st.2.pre0.map (Value.int .i64)) ∧ st.2.pre0.length ≤ 200000 ∧
    wr.ownsRow base 3 1 v1 st.2.pre1.length (st.2.pre1.map (Value.int .i64)) ∧ st.2.pre1.length ≤ 200000 ∧ st.2.msgs.length ≤ k ∧ Below B5 W wr ∧ Bl w wr ∧ base ≤ wr.heap.size
theorem PInv.bl {w W : World} {base B5 : Nat} {s : ByteArray} {st : Bool × Pat} {k : Nat} {wr w' : World} (h : PInv w W base B5 s st k wr) (hb : Bl wr w') : PInv w W base B5 s st k w' := by
  obtain ⟨v0, v1, vm, xs, h1, h2, h3, h4, h5, h6, h7, h8, h9, h10, h11, h12⟩ := h
  exact ⟨v0, v1, vm, xs, h1.bl hb, h2.bl hb, own_keep h3 hb, h4.bl hb, own_keep h5 hb, h6, own_keep h7 hb, h8, h9, Below.trans h10 (hb.mono (Nat.le_of_lt h2.lt)), h11.trans hb, Nat.le_trans h12 hb.size⟩
theorem PInv.next {w W : World} {base B5 : Nat} {s : ByteArray} {st : Bool × Pat} {k : Nat} {wr : World} (h : PInv w W base B5 s st k wr) (b : Bool) : PInv w W base B5 s (b, st.2) (k + 1) wr := by
  obtain ⟨v0, v1, vm, xs, h1, h2, h3, h4, h5, h6, h7, h8, h9, h10, h11, h12⟩ := h
  exact ⟨v0, v1, vm, xs, h1, h2, h3, h4, h5, h6, h7, h8, by show st.2.msgs.length ≤ k + 1; omega, h10, h11, h12⟩

end Go.Proofs.YtelloecgdiocoaaDoor
