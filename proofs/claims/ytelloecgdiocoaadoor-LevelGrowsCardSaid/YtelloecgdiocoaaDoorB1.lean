/- Walks: base.rows, base.Names, base.tokens. -/
import Derived.Test.YtelloecgdiocoaaDoorW12
import Derived.Lib.AppendIntMem
set_option linter.unusedSimpArgs false
set_option linter.unusedVariables false
namespace Go.Proofs.YtelloecgdiocoaaDoor
open Go.RowKit Go.Sort

structure BRow where
  name : ByteArray
  p0 : ByteArray
  p1 : ByteArray
  ms : ByteArray
/-- the base patterns' rows -/
def rowsL : List BRow := [⟨⟨#[78]⟩, ⟨#[]⟩, ⟨#[115]⟩, ⟨#[101, 32, 101, 115]⟩⟩,
  ⟨⟨#[75]⟩, ⟨#[115]⟩, ⟨#[115]⟩, ⟨#[101, 32, 101, 115, 32, 115, 115]⟩⟩,
  ⟨⟨#[88]⟩, ⟨#[]⟩, ⟨#[115]⟩, ⟨#[101, 32, 101, 115, 32, 115, 32, 115, 115]⟩⟩,
  ⟨⟨#[78, 78]⟩, ⟨#[]⟩, ⟨#[]⟩, ⟨#[101, 59, 101, 32, 101, 101]⟩⟩,
  ⟨⟨#[78, 75]⟩, ⟨#[]⟩, ⟨#[115]⟩, ⟨#[101, 32, 101, 115, 59, 101, 32, 101, 101]⟩⟩,
  ⟨⟨#[78, 88]⟩, ⟨#[]⟩, ⟨#[]⟩, ⟨#[101, 59, 101, 32, 101, 101, 32, 115, 32, 101, 115]⟩⟩,
  ⟨⟨#[88, 78]⟩, ⟨#[]⟩, ⟨#[]⟩, ⟨#[101, 59, 101, 32, 101, 101, 59, 115, 32, 115, 101]⟩⟩,
  ⟨⟨#[88, 75]⟩, ⟨#[]⟩, ⟨#[115]⟩, ⟨#[101, 32, 101, 115, 59, 101, 32, 101, 101, 59, 115, 32, 115, 101]⟩⟩,
  ⟨⟨#[88, 88]⟩, ⟨#[]⟩, ⟨#[]⟩, ⟨#[101, 59, 101, 32, 101, 101, 32, 115, 32, 101, 115, 59, 115, 32, 115, 101]⟩⟩,
  ⟨⟨#[75, 78]⟩, ⟨#[115]⟩, ⟨#[]⟩, ⟨#[101, 59, 101, 32, 101, 101, 32, 115, 101]⟩⟩,
  ⟨⟨#[75, 75]⟩, ⟨#[115]⟩, ⟨#[115]⟩, ⟨#[101, 32, 101, 115, 32, 115, 115, 59, 101, 32, 101, 101, 32, 115, 101]⟩⟩,
  ⟨⟨#[75, 88]⟩, ⟨#[115]⟩, ⟨#[]⟩, ⟨#[101, 59, 101, 32, 101, 101, 32, 115, 101, 32, 115, 32, 101, 115]⟩⟩,
  ⟨⟨#[73, 78]⟩, ⟨#[]⟩, ⟨#[]⟩, ⟨#[101, 32, 115, 59, 101, 32, 101, 101, 32, 115, 101]⟩⟩,
  ⟨⟨#[73, 75]⟩, ⟨#[]⟩, ⟨#[115]⟩, ⟨#[101, 32, 101, 115, 32, 115, 32, 115, 115, 59, 101, 32, 101, 101, 32, 115, 101]⟩⟩,
  ⟨⟨#[73, 88]⟩, ⟨#[]⟩, ⟨#[]⟩, ⟨#[101, 32, 115, 59, 101, 32, 101, 101, 32, 115, 101, 32, 115, 32, 101, 115]⟩⟩]
def rowVals : Array Value := #[.string ⟨#[78]⟩, .string ⟨#[]⟩, .string ⟨#[115]⟩, .string ⟨#[101, 32, 101, 115]⟩, .string ⟨#[75]⟩, .string ⟨#[115]⟩, .string ⟨#[115]⟩, .string ⟨#[101, 32, 101, 115, 32, 115, 115]⟩, .string ⟨#[88]⟩, .string ⟨#[]⟩, .string ⟨#[115]⟩, .string ⟨#[101, 32, 101, 115, 32, 115, 32, 115, 115]⟩, .string ⟨#[78, 78]⟩, .string ⟨#[]⟩, .string ⟨#[]⟩, .string ⟨#[101, 59, 101, 32, 101, 101]⟩, .string ⟨#[78, 75]⟩, .string ⟨#[]⟩, .string ⟨#[115]⟩, .string ⟨#[101, 32, 101, 115, 59, 101, 32, 101, 101]⟩, .string ⟨#[78, 88]⟩, .string ⟨#[]⟩, .string ⟨#[]⟩, .string ⟨#[101, 59, 101, 32, 101, 101, 32, 115, 32, 101, 115]⟩, .string ⟨#[88, 78]⟩, .string ⟨#[]⟩, .string ⟨#[]⟩, .string ⟨#[101, 59, 101, 32, 101, 101, 59, 115, 32, 115, 101]⟩, .string ⟨#[88, 75]⟩, .string ⟨#[]⟩, .string ⟨#[115]⟩, .string ⟨#[101, 32, 101, 115, 59, 101, 32, 101, 101, 59, 115, 32, 115, 101]⟩, .string ⟨#[88, 88]⟩, .string ⟨#[]⟩, .string ⟨#[]⟩, .string ⟨#[101, 59, 101, 32, 101, 101, 32, 115, 32, 101, 115, 59, 115, 32, 115, 101]⟩, .string ⟨#[75, 78]⟩, .string ⟨#[115]⟩, .string ⟨#[]⟩, .string ⟨#[101, 59, 101, 32, 101, 101, 32, 115, 101]⟩, .string ⟨#[75, 75]⟩, .string ⟨#[115]⟩, .string ⟨#[115]⟩, .string ⟨#[101, 32, 101, 115, 32, 115, 115, 59, 101, 32, 101, 101, 32, 115, 101]⟩, .string ⟨#[75, 88]⟩, .string ⟨#[115]⟩, .string ⟨#[]⟩, .string ⟨#[101, 59, 101, 32, 101, 101, 32, 115, 101, 32, 115, 32, 101, 115]⟩, .string ⟨#[73, 78]⟩, .string ⟨#[]⟩, .string ⟨#[]⟩, .string ⟨#[101, 32, 115, 59, 101, 32, 101, 101, 32, 115, 101]⟩, .string ⟨#[73, 75]⟩, .string ⟨#[]⟩, .string ⟨#[115]⟩, .string ⟨#[101, 32, 101, 115, 32, 115, 32, 115, 115, 59, 101, 32, 101, 101, 32, 115, 101]⟩, .string ⟨#[73, 88]⟩, .string ⟨#[]⟩, .string ⟨#[]⟩, .string ⟨#[101, 32, 115, 59, 101, 32, 101, 101, 32, 115, 101, 32, 115, 32, 101, 115]⟩]
theorem rowVals_at (k : Nat) (hk : k < 15) : rowVals[k * 4]? = some (.string rowsL[k].name) ∧ rowVals[k * 4 + 1]? = some (.string rowsL[k].p0) ∧ rowVals[k * 4 + 2]? = some (.string rowsL[k].p1) ∧ rowVals[k * 4 + 3]? = some (.string rowsL[k].ms) := by
  have h : k = 0 ∨ k = 1 ∨ k = 2 ∨ k = 3 ∨ k = 4 ∨ k = 5 ∨ k = 6 ∨ k = 7 ∨ k = 8 ∨ k = 9 ∨ k = 10 ∨ k = 11 ∨ k = 12 ∨ k = 13 ∨ k = 14 := by omega
  rcases h with rfl | rfl | rfl | rfl | rfl | rfl | rfl | rfl | rfl | rfl | rfl | rfl | rfl | rfl | rfl <;> exact ⟨rfl, rfl, rfl, rfl⟩

structure EnvB (w : World) : Prop where
  shaped : w.ShapedOpen Tryd.prog
  space : Lib.TabIs Tryd.prog w "strings.asciiSpace" .u8 Lib.asciiSpaceTab
theorem EnvB.bl {w w' : World} (h : EnvB w) (hb : Bl w w') : EnvB w' := ⟨shaped_bl h.shaped hb, Lib.tabBelow_of_tabIs h.space w' hb⟩

set_option maxRecDepth 100000 in
set_option maxHeartbeats 2000000 in
theorem brows_any (w : World) :
    Calls Tryd.prog 40 #[] w fun e w' => e = .returned (.slice (some ⟨w.heap.size, 0, none⟩) 15 15) ∧ w' = w.alloc (.cells rowVals 75) := by
  go_enter Tryd.func40, Tryd.ntmps40
  go_wp2
  go_ret
  exact ⟨rfl, rfl⟩
theorem brows_at (w : World) (k : Nat) (hk : k < 15) : BoxAt (w.alloc (.cells rowVals 75)) w.heap.size rowVals.toList 75 := BoxAt.new w rowVals _

/-- a world that holds the rows at B -/
def RowsAt (w : World) (B : Nat) : Prop := ∀ k, (hk : k < 15) → w.cell? ⟨B, k * 4, none⟩ = some (.string rowsL[k].name) ∧ w.cell? ⟨B, k * 4 + 1, none⟩ = some (.string rowsL[k].p0) ∧ w.cell? ⟨B, k * 4 + 2, none⟩ = some (.string rowsL[k].p1) ∧ w.cell? ⟨B, k * 4 + 3, none⟩ = some (.string rowsL[k].ms)
theorem RowsAt.new (w : World) : RowsAt (w.alloc (.cells rowVals 75)) w.heap.size := fun k hk => by
  have x := BoxAt.new w rowVals 75
  obtain ⟨h0, h1, h2, h3⟩ := rowVals_at k hk
  exact ⟨x.cell _ (by simpa using h0), x.cell _ (by simpa using h1), x.cell _ (by simpa using h2), x.cell _ (by simpa using h3)⟩
theorem RowsAt.bl {w w' : World} {B : Nat} (h : RowsAt w B) (hb : Bl w w') : RowsAt w' B := fun k hk => by
  obtain ⟨h0, h1, h2, h3⟩ := h k hk
  exact ⟨hb.cellq h0, hb.cellq h1, hb.cellq h2, hb.cellq h3⟩
theorem RowsAt.below {w w' : World} {B base : Nat} (h : RowsAt w B) (hb : Below base w w') (hB : B < base) : RowsAt w' B := fun k hk => by
  obtain ⟨h0, h1, h2, h3⟩ := h k hk
  exact ⟨(Below.cell hb (p := ⟨B, k * 4, none⟩) hB).trans h0, (Below.cell hb (p := ⟨B, k * 4 + 1, none⟩) hB).trans h1, (Below.cell hb (p := ⟨B, k * 4 + 2, none⟩) hB).trans h2, (Below.cell hb (p := ⟨B, k * 4 + 3, none⟩) hB).trans h3⟩

def bNames : List ByteArray := rowsL.map (·.name)
theorem bNames_take (k : Nat) (hk : k < 15) : (bNames.take (k + 1)).map Value.string = (bNames.take k).map Value.string ++ [.string rowsL[k].name] := by
  rw [List.take_succ_eq_append_getElem (show k < bNames.length from hk), List.map_append]
  simp only [bNames, List.getElem_map, List.map_cons, List.map_nil]
  rfl

set_option maxRecDepth 100000 in
set_option maxHeartbeats 2000000 in
theorem bnames_any (w : World) :
    Calls Tryd.prog 33 #[] w fun e w' => ∃ v, e = .returned v ∧ SS w' v bNames ∧ Bl w w' := by
  obtain ⟨i0, hi, hz0, hz1, hz2⟩ := info_parts infoStr
  go_enter Tryd.func33, Tryd.ntmps33
  go_wp2_with fail
  refine (brows_any w).mono ?_
  rintro e w1 ⟨rfl, hw1⟩
  have hR : RowsAt w1 w.heap.size := by rw [hw1]; exact RowsAt.new w
  have hb1 : Bl w w1 := by rw [hw1]; exact (Bl.refl w).alloc _
  have hlt : w.heap.size + 1 = w1.heap.size := by rw [hw1, size_alloc]
  clear hw1
  go_wp2
  go_loopw [1, 6] (fun o i wr => ∃ k : Nat, k ≤ 15 ∧ i = .int .i64 k ∧ wr.ownsRow w1.heap.size 9 1 o k ((bNames.take k).map Value.string) ∧ Bl w1 wr ∧ w1.heap.size ≤ wr.heap.size) (fun _ i _ => 15 - (intOf i).toNat)
  case atStart => exact ⟨0, by omega, rfl, World.ownsRow_nil _ _ _ _, Bl.refl _, Nat.le_refl _⟩
  case round =>
    obtain ⟨k, hk15, rfl, hown, hbr, hsz⟩ := hrel
    by_cases hk : k < 15
    · obtain ⟨c0, c1, c2, c3⟩ := (hR.bl hbr) k hk
      have hnx := bNames_take k hk
      generalize rowsL[k].name = nm at *
      generalize rowsL[k].p0 = n0 at *
      generalize rowsL[k].p1 = n1 at *
      generalize rowsL[k].ms = n2 at *
      obtain ⟨oa, oc, hoe⟩ := own_form hown
      subst hoe
      have HN := Lib.hid hnx
      clear hnx
      go_wp2_with (first
        | (at_builtin; refine wpList_append_own _ rfl (.tmp 10) (.tmp 13) 22 rfl w1.heap.size 9 i0 (.string ⟨#[]⟩) 1 16 Tryd.underlying22 hi hz0 hz1 hz2 rfl (by decide) _ _ _ rfl ((hown.alloc _).alloc _) ⟨wr.heap.size + 1, 0, none⟩ 1 1 [.string nm] rfl rfl ?c1 ?c2 ?c3 ?c4 ?c5 ?_))
      case c1 =>
        intro j u hj
        match j, hj with
        | 0, hj => simp at hj; subst hj; simp [Addr.add, go_sem]
        | j + 1, hj => simp at hj
      case c2 => intro u hu; simp at hu; rcases hu with rfl; rfl
      case c3 => unfold maxLen; omega
      case c4 => omega
      case c5 => simp only [size_alloc]; omega
      intro v' w4 hown4 hg4 _
      have hb4 := Below.ofGrown ((hown.alloc (.cells #[.string nm, .string n0, .string n1, .string n2] 75)).alloc (.cells #[.string nm] 9)) hg4 (by simp only [size_alloc]; omega)
      go_wp2
      go_roundw
      case rel => exact ⟨k + 1, by omega, by go_num, by rw [HN.out, List.map_take]; exact hown4, ((hbr.alloc _).alloc _).below hb4 (Nat.le_refl _), by have := hb4.size; simp only [size_alloc] at this; omega⟩
      case measure => simp [intOf]; omega
    · obtain rfl : k = 15 := by omega
      obtain ⟨oa, oc, hoe⟩ := own_form hown
      have hs := own_SS (l := bNames) hown (by decide)
      subst hoe
      go_wp2
      exact bodyPost_ret (v := .slice oa 15 oc) (by simp [results, Tryd.results33, go_sem]) rfl ⟨_, rfl, hs, hb1.trans hbr⟩
end Go.Proofs.YtelloecgdiocoaaDoor
