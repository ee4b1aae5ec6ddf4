/- Walks: valid's state: token, of a PSK; and all tokens in one. -/
import Derived.Test.YtelloecgdiocoaaDoorV4
set_option linter.unusedSimpArgs false
set_option linter.unusedVariables false
namespace Go.Proofs.YtelloecgdiocoaaDoor
open Go.RowKit Go.Sort

set_option maxRecDepth 100000 in
set_option maxHeartbeats 4000000 in
theorem tok7_any (s : St) (who : Int) (B : Nat) (w : World) (hb : BoxAt w B (stV s) 106) :
    Calls Tryd.prog 95 #[.pointer (some ⟨B, 0, none⟩), .int .i64 who, .int .i64 7] w fun e w' => e = .returned (.int .i64 (tokS s who 7).1) ∧ BoxAt w' B (stV (tokS s who 7).2) 106 ∧ OB B w w' := by
  obtain ⟨z0, e0, s0, z1, e1, s1, m0, m1, m2, m3, m4, m5, m6, m7, mode, keyed⟩ := s
  go_enter Tryd.func95, Tryd.ntmps95
  have hlt := hb.lt
  go_wp2
  refine wp_region_quiet_below (by kernel_rfl) (by kernel_rfl) ?_
  repeat (first | go_big_quiet_step ((fail)) | quiet_step ((fail)))
  refine wpQuiet_nil ?_
  intro wq hwq
  obtain ⟨pq, rfl⟩ := hwq
  have hbq := below_regrown w pq.d pq.os
  generalize grow (redrawn w pq.d) pq.os = wq at *
  have x1 := BoxAt.bl hb hbq
  have hbB : OB B w wq := OB.ofBl hbq hlt
  have d13 := x1.cell 13 rfl
  have f13 := x1.free 13
  have d15 := x1.cell 15 rfl
  have f15 := x1.free 15
  have hlt1 := x1.lt
  go_wp2
  go_ret
  exact ⟨ret_int (by simp [tokS]), by simpa [tokS, metSet, stV] using (x1.set 13 (.bool true)).set 15 (.bool true), (hbB.set _ _).set _ _⟩

theorem tok_any (s : St) (who t : Int) (hw : who = 0 ∨ who = 1) (h1 : 1 ≤ t) (h7 : t ≤ 7) (B : Nat) (w : World) (hb : BoxAt w B (stV s) 106) :
    Calls Tryd.prog 95 #[.pointer (some ⟨B, 0, none⟩), .int .i64 who, .int .i64 t] w fun e w' => e = .returned (.int .i64 (tokS s who t).1) ∧ BoxAt w' B (stV (tokS s who t).2) 106 ∧ OB B w w' := by
  have ht : t = 1 ∨ t = 2 ∨ t = 3 ∨ t = 4 ∨ t = 5 ∨ t = 6 ∨ t = 7 := by omega
  rcases ht with rfl | rfl | rfl | rfl | rfl | rfl | rfl
  · rcases hw with rfl | rfl
    · exact tok01_any s B w hb
    · exact tok11_any s B w hb
  · rcases hw with rfl | rfl
    · exact tok02_any s B w hb
    · exact tok12_any s B w hb
  · exact tok3_any s who B w hb
  · exact tok4_any s who B w hb
  · exact tok5_any s who B w hb
  · exact tok6_any s who B w hb
  · exact tok7_any s who B w hb
end Go.Proofs.YtelloecgdiocoaaDoor
