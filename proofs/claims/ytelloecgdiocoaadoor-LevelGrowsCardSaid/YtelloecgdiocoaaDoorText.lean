/- The texts of patterns, as bytes: the reference's way. Plain definitions and lemmas. -/
import Derived.Test.YtelloecgdiocoaaDoorW1
set_option linter.unusedSimpArgs false
set_option linter.unusedVariables false
namespace Go.Proofs.YtelloecgdiocoaaDoor
open Go.RowKit

/-- the tokens of a line behind its arrow: a blank and a name each, commas between -/
def bodyT : List Int → ByteArray
  | [] => ⟨#[]⟩
  | [t] => ⟨#[32]⟩ ++ tokName t
  | t :: r => ⟨#[32]⟩ ++ tokName t ++ ⟨#[44]⟩ ++ bodyT r
def arrowT (who : Int) : ByteArray := if who = 1 then ⟨#[60, 45]⟩ else ⟨#[45, 62]⟩
def lineT (who : Int) (l : List Int) : ByteArray := arrowT who ++ bodyT l ++ ⟨#[10]⟩

/-- the reference's own accumulation: after k tokens -/
def accT (who : Int) (l : List Int) : Nat → ByteArray
  | 0 => arrowT who
  | k + 1 => (if k = 0 then accT who l k else accT who l k ++ ⟨#[44]⟩) ++ ⟨#[32]⟩ ++ tokName (l.getD k 0)

theorem ba_assoc (a b c : ByteArray) : a ++ b ++ c = a ++ (b ++ c) := by
  apply ByteArray.ext
  simp [ByteArray.data_append, Array.append_assoc]
theorem ba_nil (a : ByteArray) : a ++ ⟨#[]⟩ = a := by
  apply ByteArray.ext
  simp [ByteArray.data_append]
theorem tok_size (t : Int) : (tokName t).size ≤ 3 := by
  unfold tokName
  repeat' split
  all_goals decide
theorem tok_pos (t : Int) : 1 ≤ (tokName t).size := by
  unfold tokName
  repeat' split
  all_goals decide
theorem arrow_size (who : Int) : (arrowT who).size = 2 := by
  unfold arrowT
  split <;> rfl
theorem acc_size (who : Int) (l : List Int) : ∀ k, (accT who l k).size ≤ 2 + 5 * k
  | 0 => by rw [accT, arrow_size]; omega
  | k + 1 => by
    have h := acc_size who l k
    have ht := tok_size (l.getD k 0)
    rw [accT, ByteArray.size_append, ByteArray.size_append]
    have h1 : (⟨#[32]⟩ : ByteArray).size = 1 := rfl
    have h2 : (⟨#[44]⟩ : ByteArray).size = 1 := rfl
    split
    · omega
    · rw [ByteArray.size_append]; omega

theorem bodyT_cons2 (t u : Int) (r : List Int) : bodyT (t :: u :: r) = ⟨#[32]⟩ ++ tokName t ++ ⟨#[44]⟩ ++ bodyT (u :: r) := rfl
theorem bodyT_snoc (x : Int) : ∀ (l : List Int), l ≠ [] → bodyT (l ++ [x]) = bodyT l ++ ⟨#[44]⟩ ++ (⟨#[32]⟩ ++ tokName x)
  | [], h => absurd rfl h
  | [t], _ => by simp only [List.cons_append, List.nil_append, bodyT]
  | t :: u :: r, _ => by
    have ih := bodyT_snoc x (u :: r) (by simp)
    simp only [List.cons_append] at ih ⊢
    rw [bodyT_cons2, ih, bodyT_cons2]
    simp only [ba_assoc]
theorem acc_eq (who : Int) (l : List Int) : ∀ k, k ≤ l.length → accT who l k = arrowT who ++ bodyT (l.take k)
  | 0, _ => by simp only [List.take_zero, bodyT, accT, ba_nil]
  | k + 1, hk => by
    have ih := acc_eq who l k (by omega)
    have hlt : k < l.length := by omega
    rw [List.take_succ_eq_append_getElem hlt, accT, ih]
    have hg : l.getD k 0 = l[k] := by simp [List.getD_eq_getElem?_getD, hlt]
    rw [hg]
    by_cases h0 : k = 0
    · subst h0
      simp only [if_true, List.take_zero, List.nil_append, bodyT, ba_nil, ba_assoc]
    · rw [if_neg h0, bodyT_snoc _ _ (by intro e; have := congrArg List.length e; rw [List.length_take] at this; simp only [List.length_nil] at this; omega)]
      simp only [ba_assoc]
theorem acc_all (who : Int) (l : List Int) : accT who l l.length ++ ⟨#[10]⟩ = lineT who l := by
  rw [acc_eq who l l.length (Nat.le_refl _), List.take_length, lineT]
theorem line_size (who : Int) (l : List Int) : (lineT who l).size ≤ 3 + 5 * l.length := by
  rw [← acc_all, ByteArray.size_append]
  have := acc_size who l l.length
  have h2 : (⟨#[10]⟩ : ByteArray).size = 1 := rfl
  omega

/-- A pattern of which the text may be made here. -/
structure Small (p : Pat) : Prop where
  name : p.name.size ≤ 1000
  pre0 : p.pre0.length ≤ 100
  pre1 : p.pre1.length ≤ 100
  msgs : p.msgs.length ≤ 100
  each : ∀ m ∈ p.msgs, m.t.length ≤ 100

def optT (who : Int) (l : List Int) : ByteArray := if l = [] then ⟨#[]⟩ else lineT who l
def preT (p : Pat) : ByteArray := optT 0 p.pre0 ++ optT 1 p.pre1
def dotsT (p : Pat) : ByteArray := if p.pre0 = [] ∧ p.pre1 = [] then ⟨#[]⟩ else ⟨#[46, 46, 46, 10]⟩
def msgsT (a : ByteArray) (ms : List Msg) : ByteArray := ms.foldl (fun o m => o ++ lineT m.who m.t) a
def headT (p : Pat) : ByteArray := p.name ++ ⟨#[58, 10]⟩ ++ (preT p ++ dotsT p)
def printT (p : Pat) : ByteArray := msgsT (headT p) p.msgs

theorem msgsT_snoc (a : ByteArray) (ms : List Msg) (m : Msg) : msgsT a (ms ++ [m]) = msgsT a ms ++ lineT m.who m.t := by
  unfold msgsT; rw [List.foldl_append]; rfl
theorem msgsT_take (a : ByteArray) (ms : List Msg) (k : Nat) (hk : k < ms.length) : msgsT a (ms.take (k + 1)) = msgsT a (ms.take k) ++ lineT ms[k].who ms[k].t := by
  rw [List.take_succ_eq_append_getElem hk, msgsT_snoc]
theorem opt_size (who : Int) (l : List Int) (h : l.length ≤ 100) : (optT who l).size ≤ 503 := by
  unfold optT
  split
  · show (0 : Nat) ≤ 503; omega
  · have := line_size who l; omega
theorem head_size (p : Pat) (h : Small p) : (headT p).size ≤ 3000 := by
  unfold headT preT
  simp only [ByteArray.size_append]
  have h0 := opt_size 0 p.pre0 h.pre0
  have h1 := opt_size 1 p.pre1 h.pre1
  have hn := h.name
  have hd : (dotsT p).size ≤ 4 := by
    unfold dotsT
    split <;> decide
  have h2 : (⟨#[58, 10]⟩ : ByteArray).size = 2 := rfl
  omega
theorem msgsT_size (a : ByteArray) (ms : List Msg) (h : ∀ m ∈ ms, m.t.length ≤ 100) : (msgsT a ms).size ≤ a.size + 503 * ms.length := by
  induction ms generalizing a with
  | nil => simp [msgsT]
  | cons m r ih =>
    have h1 : msgsT a (m :: r) = msgsT (a ++ lineT m.who m.t) r := rfl
    rw [h1]
    have h2 := ih (a ++ lineT m.who m.t) (fun x hx => h x (List.mem_cons_of_mem _ hx))
    have h3 := line_size m.who m.t
    have h4 := h m (List.mem_cons_self ..)
    rw [ByteArray.size_append] at h2
    simp only [List.length_cons]
    omega
theorem msgsT_size_take (p : Pat) (h : Small p) (k : Nat) : (msgsT (headT p) (p.msgs.take k)).size ≤ 60000 := by
  have h1 := msgsT_size (headT p) (p.msgs.take k) (fun m hm => h.each m (List.mem_of_mem_take hm))
  have h2 := head_size p h
  have h3 : (p.msgs.take k).length ≤ 100 := by rw [List.length_take]; have := h.msgs; omega
  omega
theorem nil_ba (a : ByteArray) : (⟨#[]⟩ : ByteArray) ++ a = a := by
  apply ByteArray.ext
  simp [ByteArray.data_append]

def accP (p : Pat) : Nat → ByteArray
  | 0 => p.name ++ ⟨#[58, 10]⟩
  | 1 => p.name ++ ⟨#[58, 10]⟩ ++ optT 0 p.pre0
  | _ => p.name ++ ⟨#[58, 10]⟩ ++ optT 0 p.pre0 ++ optT 1 p.pre1
theorem accP_head (p : Pat) : accP p 2 ++ dotsT p = headT p := by
  simp only [accP, headT, preT, ba_assoc]
theorem accP_size (p : Pat) (h : Small p) (j : Nat) : (accP p j).size ≤ 2500 := by
  have h0 := opt_size 0 p.pre0 h.pre0
  have h1 := opt_size 1 p.pre1 h.pre1
  have hn := h.name
  have h2 : (⟨#[58, 10]⟩ : ByteArray).size = 2 := rfl
  match j with
  | 0 => simp only [accP, ByteArray.size_append]; omega
  | 1 => simp only [accP, ByteArray.size_append]; omega
  | _ + 2 => simp only [accP, ByteArray.size_append]; omega

end Go.Proofs.YtelloecgdiocoaaDoor
