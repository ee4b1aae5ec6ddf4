/- Walks: what the valid laws share: the told example. -/
import Derived.Test.YtffibiigoikmdaaGreatDoorK1
import Derived.Test.YtffibiigoikmdaaGreatDoorB10
import Derived.Test.YtffibiigoikmdaaGreatDoorW13
set_option linter.unusedSimpArgs false
set_option linter.unusedVariables false
namespace Go.Proofs.YtffibiigoikmdaaGreatDoor
open Go.RowKit Go.Sort

def aT7 : ByteArray := ⟨#[65, 58, 10, 45, 62, 32, 101, 10, 60, 45, 32, 101, 44, 32, 101, 115, 10]⟩
def aP7 : Pat := ⟨⟨#[65]⟩, [], [], [⟨0, [1]⟩, ⟨1, [1, 4]⟩]⟩
def ikN7 : ByteArray := ⟨#[73, 75, 112, 115, 107, 50]⟩
def ikP7 : Pat := ⟨ikN7, [], [2], [⟨0, [1, 4, 2, 6]⟩, ⟨1, [1, 3, 5, 7]⟩]⟩
theorem a7_parse : parseP aT7 = aP7 ∧ parseE aT7 = 0 := by decide +kernel
theorem a7_check : checkV aP7 = (3, 1, 13) := by decide +kernel
theorem ik7_named : namedR ikN7 = (ikP7, 0) := by decide +kernel
theorem ik7_check : (checkV ikP7).2.2 = 0 := by decide +kernel
theorem ik7_keyed : keyedB ikP7 0 = true ∧ keyedB aP7 0 = false := by decide +kernel
theorem parse7 (w : World) (hE : w.ShapedOpen Tryz.prog) :
    Calls Tryz.prog 10 #[.string ⟨#[65, 58, 10, 45, 62, 32, 101, 10, 60, 45, 32, 101, 44, 32, 101, 115, 10]⟩] w fun e w' => ∃ v, e = .returned (.tuple #[v, .int .i64 0]) ∧ SP w' v aP7 ∧ Bl w w' := by
  have := parse_any aT7 w hE (by decide)
  rw [a7_parse.1, a7_parse.2] at this
  exact this
theorem check7a (v : Value) (w : World) (h : SP w v aP7) : Calls Tryz.prog 6 #[v] w fun e w' => e = .returned (.tuple #[.int .i64 3, .int .i64 1, .int .i64 13]) ∧ Bl w w' := by
  have := check_any v aP7 w h
  rw [a7_check] at this
  exact this
theorem named7 (w : World) (hE : Env w) :
    Calls Tryz.prog 11 #[.string ⟨#[73, 75, 112, 115, 107, 50]⟩] w fun e w' => ∃ v, e = .returned (.tuple #[v, .int .i64 0]) ∧ SP w' v ikP7 ∧ Bl w w' := by
  have := namedF_any ikN7 w hE (by decide)
  rw [ik7_named] at this
  exact this
theorem checkE_any (v : Value) (p : Pat) (w : World) (h : SP w v p) (E : Int) (hE : (checkV p).2.2 = E) : Calls Tryz.prog 6 #[v] w fun e w' => ∃ a b : Int, e = .returned (.tuple #[.int .i64 a, .int .i64 b, .int .i64 E]) ∧ Bl w w' := by
  refine (check_any v p w h).mono fun e w' hh => ?_
  rw [← hE]
  exact ⟨_, _, hh⟩
theorem keyed7i (v : Value) (w : World) (h : SP w v ikP7) : Calls Tryz.prog 12 #[v, .int .i64 0] w fun e w' => e = .returned (.bool true) ∧ Bl w w' := by
  have := keyed_any v ikP7 0 w h
  rw [ik7_keyed.1] at this
  exact this
theorem keyed7a (v : Value) (w : World) (h : SP w v aP7) : Calls Tryz.prog 12 #[v, .int .i64 0] w fun e w' => e = .returned (.bool false) ∧ Bl w w' := by
  have := keyed_any v aP7 0 w h
  rw [ik7_keyed.2] at this
  exact this

set_option maxRecDepth 100000 in
set_option maxHeartbeats 4000000 in
theorem awake7_any (w : World) (hE : Env w) :
    Calls Tryz.prog 5 #[] w fun e w' => e = .returned (.bool true) ∧ Bl w w' := by
  go_enter Tryz.func5, Tryz.ntmps5
  go_wp2_with fail
  refine (parse7 w hE.shaped).mono ?_
  rintro e w1 ⟨v, rfl, hs, hb⟩
  have hs0 := hs
  obtain ⟨v0, v1, vm, rfl, _, h0, h1, hm⟩ := hs
  obtain ⟨a0, c0, rfl⟩ := h0.form
  obtain ⟨a1, c1, rfl⟩ := h1.form
  obtain ⟨am, cm, rfl⟩ := hm.form
  clear h0 h1 hm
  have y1 := BoxAt.new w1 #[.string ⟨#[65]⟩, .slice a0 0 c0, .slice a1 0 c1, .slice am 2 cm] 26
  have b1 : Bl w1 (w1.alloc (.cells #[.string ⟨#[65]⟩, .slice a0 0 c0, .slice a1 0 c1, .slice am 2 cm] 26)) := (Bl.refl w1).alloc _
  have hs1 := hs0.bl b1
  have H1 := hb.trans b1
  go_wp2_with fail
  refine (check7a _ _ hs1).mono ?_
  rintro e w2 ⟨rfl, hb2⟩
  have y2 := y1.bl hb2
  have hs2 := hs1.bl hb2
  have H2 := H1.trans hb2
  clear y1 hs1 H1
  go_wp2_with fail
  refine (named7 _ (hE.bl H2)).mono ?_
  rintro e w3 ⟨u, rfl, hu, hb3⟩
  have hu0 := hu
  obtain ⟨u0, u1, um, rfl, _, h0, h1, hm⟩ := hu
  obtain ⟨b0, d0, rfl⟩ := h0.form
  obtain ⟨b1, d1, rfl⟩ := h1.form
  obtain ⟨bm, dm, rfl⟩ := hm.form
  clear h0 h1 hm
  have al : Bl w3 (w3.alloc (.cells #[.string ⟨#[73, 75, 112, 115, 107, 50]⟩, .slice b0 0 d0, .slice b1 1 d1, .slice bm 2 dm] 26)) := (Bl.refl w3).alloc _
  have y3 := (y2.bl hb3).bl al
  have hs3 := (hs2.bl hb3).bl al
  have z3 := BoxAt.new w3 #[.string ⟨#[73, 75, 112, 115, 107, 50]⟩, .slice b0 0 d0, .slice b1 1 d1, .slice bm 2 dm] 26
  have hu3 := hu0.bl al
  have H3 := (H2.trans hb3).trans al
  clear y2 hs2 H2
  go_wp2_with fail
  refine (checkE_any _ ikP7 _ hu3 0 ik7_check).mono ?_
  rintro e w4 ⟨ra, rb, rfl, hb4⟩
  have y4 := y3.bl hb4
  have z4 := z3.bl hb4
  have hs4 := hs3.bl hb4
  have hu4 := hu3.bl hb4
  have H4 := H3.trans hb4
  obtain ⟨k0, k1, k2, k3⟩ : _ ∧ _ ∧ _ ∧ _ := ⟨z4.cell 0 rfl, z4.cell 1 rfl, z4.cell 2 rfl, z4.cell 3 rfl⟩
  clear y3 z3 hs3 hu3 H3
  go_wp2_with fail
  refine (keyed7i _ _ hu4).mono ?_
  rintro e w5 ⟨rfl, hb5⟩
  have y5 := y4.bl hb5
  have hs5 := hs4.bl hb5
  have H5 := H4.trans hb5
  clear k0 k1 k2 k3
  obtain ⟨g0, g1, g2, g3⟩ : _ ∧ _ ∧ _ ∧ _ := ⟨y5.cell 0 rfl, y5.cell 1 rfl, y5.cell 2 rfl, y5.cell 3 rfl⟩
  go_wp2_with fail
  refine (keyed7a _ _ hs5).mono ?_
  rintro e w6 ⟨rfl, hb6⟩
  go_wp2
  go_ret
  exact ⟨rfl, H5.trans hb6⟩
end Go.Proofs.YtffibiigoikmdaaGreatDoor
