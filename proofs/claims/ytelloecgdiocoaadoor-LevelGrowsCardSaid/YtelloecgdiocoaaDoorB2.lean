/- Walk: base.tokens. -/
import Derived.Test.YtelloecgdiocoaaDoorB1
import Derived.Test.YtelloecgdiocoaaDoorW9
set_option linter.unusedSimpArgs false
set_option linter.unusedVariables false
namespace Go.Proofs.YtelloecgdiocoaaDoor
open Go.RowKit Go.Sort

def fieldsL (s : ByteArray) : List ByteArray := (Lib.fields s.data.toList).map fun l => ⟨l.toArray⟩
/-- the tokens below j+1 whose name is x -/
def under (x : ByteArray) : Nat → List Int
  | 0 => []
  | j + 1 => under x j ++ (if (tokName (j + 1)).toList = x.toList then [((j + 1 : Nat) : Int)] else [])
def toksB : List ByteArray → List Int
  | [] => []
  | x :: r => under x 7 ++ toksB r
theorem toksB_append (a b : List ByteArray) : toksB (a ++ b) = toksB a ++ toksB b := by
  induction a with
  | nil => rfl
  | cons x a ih => rw [List.cons_append, toksB, toksB, ih, List.append_assoc]
theorem toksB_snoc (l : List ByteArray) (k : Nat) (hk : k < l.length) : toksB (l.take (k + 1)) = toksB (l.take k) ++ under l[k] 7 := by
  rw [List.take_succ_eq_append_getElem hk, toksB_append]
  simp [toksB]
theorem under_len (x : ByteArray) : ∀ j, (under x j).length ≤ j
  | 0 => by simp [under]
  | j + 1 => by
    have := under_len x j
    unfold under
    split <;> simp <;> omega
theorem toksB_len : ∀ l, (toksB l).length ≤ 7 * l.length
  | [] => by simp [toksB]
  | x :: r => by
    have := toksB_len r
    have := under_len x 7
    simp [toksB]; omega
def asciiB (s : ByteArray) : Bool := s.data.toList.all (fun b => decide (b.toNat < 128))

set_option maxRecDepth 100000 in
set_option maxHeartbeats 2000000 in
theorem tokens_any (s : ByteArray) (w : World) (hE : EnvB w) (hs : s.size ≤ 100) (ha : asciiB s = true) (hf : (fieldsL s).length ≤ 100) :
    Calls Tryd.prog 41 #[.string s] w fun e w' => ∃ v, e = .returned v ∧ w'.ownsRow w.heap.size 3 1 v (toksB (fieldsL s)).length ((toksB (fieldsL s)).map (Value.int .i64)) ∧ Bl w w' := by
  obtain ⟨i0, hi, hz0, hz1, hz2⟩ := info_parts infoInt
  go_enter Tryd.func41, Tryd.ntmps41
  have hasc : ∀ (j : Nat) b, s.data.toList[j]? = some b → b.toNat < 128 := fun j b hb => by
    have := List.all_eq_true.1 ha b (List.mem_of_getElem? hb)
    exact of_decide_eq_true this
  go_wp2_with fail
  refine (Tryd.strings_Fields_laid s w (by omega) hasc hE.space).mono ?_
  rintro e w1 ⟨rfl, hw1⟩
  have hfl : (Lib.fields s.data.toList).length = (fieldsL s).length := by simp [fieldsL]
  rw [hfl]
  have hcell : ∀ k, (hk : k < (fieldsL s).length) → w1.cell? ⟨w.heap.size, k, none⟩ = some (.string (fieldsL s)[k]) := by
    intro k hk
    rw [hw1]
    refine (BoxAt.new w _ _).cell k ?_
    simp only [fieldsL, List.length_map] at hk
    simp [fieldsL, List.getElem?_eq_getElem hk]
  have hb1 : Bl w w1 := by rw [hw1]; exact (Bl.refl w).alloc _
  have hlt : w.heap.size + 1 = w1.heap.size := by rw [hw1, size_alloc]
  clear hw1 hfl
  generalize hfs : fieldsL s = fs at *
  have HC := Lib.hid hcell
  have HFS := Lib.hid hfs
  clear hcell hfs
  go_wp2
  go_loopw [3, 10] (fun o i wr => ∃ k : Nat, k ≤ fs.length ∧ i = .int .i64 k ∧ wr.ownsRow w1.heap.size 3 1 o (toksB (fs.take k)).length ((toksB (fs.take k)).map (Value.int .i64)) ∧ Bl w1 wr ∧ w1.heap.size ≤ wr.heap.size) (fun _ i _ => fs.length - (intOf i).toNat)
  case atStart => exact ⟨0, by omega, rfl, World.ownsRow_nil _ _ _ _, Bl.refl _, Nat.le_refl _⟩
  case round =>
    obtain ⟨k, hk15, rfl, hown, hbr, hsz⟩ := hrel
    by_cases hk : k < fs.length
    · have c0 := hbr.cellq (HC.out k hk)
      have HN := Lib.hid (toksB_snoc fs k hk)
      have hl0 := toksB_len (fs.take k)
      have hl1 : (fs.take k).length ≤ 100 := by rw [List.length_take]; omega
      generalize hx : fs[k] = x at *
      have HX := Lib.hid hx
      clear hx
      generalize toksB (fs.take k) = acc at *
      go_wp2
      go_loopw [3, 6] (fun o t wq => ∃ j : Nat, j ≤ 7 ∧ t = .int .i64 (j + 1) ∧ wq.ownsRow w1.heap.size 3 1 o (acc ++ under x j).length ((acc ++ under x j).map (Value.int .i64)) ∧ Bl w1 wq ∧ w1.heap.size ≤ wq.heap.size) (fun _ t _ => 8 - (intOf t).toNat)
      case atStart => exact ⟨0, by omega, rfl, by simpa [under] using hown, hbr, hsz⟩
      case round =>
        obtain ⟨j, hj7, rfl, hown2, hbq, hsq⟩ := hrel
        by_cases hj : j < 7
        · have hu : under x (j + 1) = under x j ++ (if (tokName (j + 1)).toList = x.toList then [((j + 1 : Nat) : Int)] else []) := rfl
          have hul := under_len x j
          have hl9 : (acc ++ under x j).length ≤ 707 := by rw [List.length_append]; omega
          generalize hua : acc ++ under x j = ua at *
          have HUA := Lib.hid hua
          clear hua
          obtain ⟨oa, oc, hoe⟩ := own_form hown2
          subst hoe
          go_wp2_with fail
          refine (name_any (j + 1) wr).mono ?_
          rintro e w3 ⟨rfl, hb3⟩
          by_cases ht : (tokName (j + 1)).toList = x.toList
          · have hnx : acc ++ under x (j + 1) = ua ++ [((j : Int) + 1)] := by
              rw [hu, if_pos ht, ← List.append_assoc, HUA.out]; simp
            have HNX := Lib.hid hnx
            have htb : ((tokName (j + 1)).toList == x.toList) = true := by rw [ht]; simp
            clear hu hnx ht
            have hown3 := own_keep hown2 hb3
            have hs3 := hb3.size
            go_wp2_with (first
              | (at_builtin; refine wpList_append_own _ rfl (.tmp 22) (.tmp 24) 24 rfl w1.heap.size 3 i0 (.int .i64 0) 1 8 Tryd.underlying24 hi hz0 hz1 hz2 rfl (by decide) _ _ _ rfl (hown3.alloc _) ⟨w3.heap.size, 0, none⟩ 1 1 [.int .i64 ((j : Int) + 1)] rfl rfl ?c1 ?c2 ?c3 ?c4 ?c5 ?_))
            case c1 =>
              intro j u hj
              match j, hj with
              | 0, hj => simp at hj; subst hj; simp [Addr.add, go_sem]
              | j + 1, hj => simp at hj
            case c2 => intro u hu; simp at hu; rcases hu with rfl; rfl
            case c3 => unfold maxLen; omega
            case c4 => omega
            case c5 => simp only [size_alloc]; omega
            intro v' w4 hown4 hg4 _
            have hb4 := Below.ofGrown (hown3.alloc (.cells #[.int .i64 ((j : Int) + 1)] 3)) hg4 (by simp only [size_alloc]; omega)
            go_wp2
            go_roundw
            case rel => exact ⟨j + 1, by omega, by go_num, by rw [HNX.out, List.length_append, List.map_append]; exact hown4, ((hbq.trans hb3).alloc _).below hb4 (Nat.le_refl _), by have := hb4.size; simp only [size_alloc] at this; omega⟩
            case measure => simp [intOf]; omega
          · have hnx : acc ++ under x (j + 1) = ua := by
              rw [hu, if_neg ht, List.append_nil, HUA.out]
            have HNX := Lib.hid hnx
            have htb : ((tokName (j + 1)).toList == x.toList) = false := by simpa using ht
            clear hu hnx ht
            have hs3 := hb3.size
            go_wp2
            go_roundw
            case rel => exact ⟨j + 1, by omega, by go_num, by rw [HNX.out]; exact own_keep hown2 hb3, hbq.trans hb3, by omega⟩
            case measure => simp [intOf]; omega
        · obtain rfl : j = 7 := by omega
          go_wp2
          go_roundw
          case rel => exact ⟨k + 1, by omega, by go_num, by rw [HN.out]; exact hown2, hbq, hsq⟩
          case measure => simp [intOf]; omega
    · obtain rfl : k = fs.length := by omega
      rw [List.take_length] at hown
      obtain ⟨oa, oc, hoe⟩ := own_form hown
      subst hoe
      go_wp2
      exact bodyPost_ret (v := .slice oa (toksB fs).length oc) (by simp [results, Tryd.results41, go_sem]) rfl ⟨_, rfl, by rw [HFS.out]; exact own_lower (base := w1.heap.size) (base' := w.heap.size) hown (by omega), hb1.trans hbr⟩
end Go.Proofs.YtelloecgdiocoaaDoor
