/- Walks: token.line, token.Print. -/
import Derived.Test.YtelloecgdiocoaaDoorW9
import Derived.Lib.Join
set_option linter.unusedSimpArgs false
set_option linter.unusedVariables false
namespace Go.Proofs.YtelloecgdiocoaaDoor
open Go.RowKit Go.Sort

theorem infoStr : (Tryd.prog.info? 9).map (fun i => (i.zero, i.size, i.bytes)) = some (some (.string ⟨#[]⟩), 1, 16) := by kernel_rfl

def namesV (l : List Int) : List Value := (l.map tokName).map Value.string
theorem namesV_snoc (l : List Int) (k : Nat) (hk : k < l.length) : namesV (l.take (k + 1)) = namesV (l.take k) ++ [.string (tokName l[k])] := by
  unfold namesV
  rw [List.take_succ_eq_append_getElem hk, List.map_append, List.map_append]; rfl
def joinT (l : List Int) : ByteArray := ⟨(Lib.join ((l.map tokName).map (·.data.toList)) (ByteArray.data ⟨#[44, 32]⟩).toList).toArray⟩

theorem joinT_body : ∀ (l : List Int), l ≠ [] → (⟨#[32]⟩ : ByteArray) ++ joinT l = bodyT l
  | [], h => absurd rfl h
  | [t], _ => by
    unfold joinT bodyT
    simp only [List.map_cons, List.map_nil, Lib.join_one]
  | t :: u :: r, _ => by
    have ih := joinT_body (u :: r) (by simp)
    rw [bodyT_cons2, ← ih]
    unfold joinT
    simp only [List.map_cons, Lib.join_cons, Lib.joinTail]
    apply ByteArray.ext
    simp [ByteArray.data_append]
theorem joinT_size (l : List Int) (h : l ≠ []) : (joinT l).size ≤ 5 * l.length + 3 := by
  have h1 := congrArg ByteArray.size (joinT_body l h)
  have h2 := line_size 0 l
  rw [lineT] at h2
  simp only [ByteArray.size_append] at h1 h2
  have h3 := arrow_size 0
  have h4 : (⟨#[32]⟩ : ByteArray).size = 1 := rfl
  omega

theorem joinNames_any (v : Value) (l : List Int) (w : World) (h : SS w v (l.map tokName)) (hne : l ≠ []) (hl : l.length ≤ 1000) :
    Calls Tryd.prog 83 #[v, .string ⟨#[44, 32]⟩] w fun e w' => e = .returned (.string (joinT l)) ∧ Bl w w' := by
  have hjs := joinT_size l hne
  exact join_any v (l.map tokName) _ w h (by show (joinT l).size ≤ _; omega)

set_option maxRecDepth 100000 in
set_option maxHeartbeats 2000000 in
theorem line_any (who : Int) (v : Value) (l : List Int) (w : World) (h : SI w v l) (hl : l.length ≤ 1000) (hne : l ≠ []) (hw : who = 0 ∨ who = 1) :
    Calls Tryd.prog 62 #[.int .i64 who, v] w fun e w' => e = .returned (.string (lineT who l)) ∧ Bl w w' := by
  obtain ⟨a, c, rfl, hl0, hc⟩ := h
  obtain ⟨i0, hi, hz0, hz1, hz2⟩ := info_parts infoStr
  go_enter Tryd.func62, Tryd.ntmps62
  go_wp2
  go_loopw [5, 10] (fun s i wr => ∃ k : Nat, k ≤ l.length ∧ i = .int .i64 k ∧ wr.ownsRow w.heap.size 9 1 s k (namesV (l.take k)) ∧ Bl w wr) (fun _ i _ => l.length - (intOf i).toNat)
  case atStart => exact ⟨0, by omega, rfl, World.ownsRow_nil _ _ _ _, Bl.refl _⟩
  case round =>
    obtain ⟨k, hk, rfl, hown, hb⟩ := hrel
    by_cases hkn : k < l.length
    · obtain ⟨b, o, rfl, hca⟩ := hc k hkn
      replace hca := hb.cellq hca
      have hsz := hb.size
      obtain ⟨oa, oc, hoe⟩ := own_form hown
      subst hoe
      go_wp2_with fail
      refine (name_any _ _).mono ?_
      rintro e w1 ⟨rfl, hb1⟩
      have hown1 : w1.ownsRow w.heap.size 9 1 (.slice oa k oc) k (namesV (l.take k)) := own_keep hown hb1
      have hsz1 := hb1.size
      go_wp2_with (first
        | (at_builtin; refine wpList_append_own _ rfl (.tmp 14) (.tmp 17) 22 rfl w.heap.size 9 i0 (.string ⟨#[]⟩) 1 16 Tryd.underlying22 hi hz0 hz1 hz2 rfl (by decide) _ _ _ rfl (hown1.alloc _) ⟨w1.heap.size, 0, none⟩ 1 1 [.string (tokName l[k])] rfl rfl ?c1 ?c2 ?c3 ?c4 ?c5 ?_))
      case c1 => intro j u hj; match j, hj with | 0, hj => (simp at hj; subst hj; simp [Addr.add, go_sem])
      case c2 => intro u hu; simp at hu; subst hu; rfl
      case c3 => unfold maxLen; omega
      case c4 => omega
      case c5 => simp only [size_alloc]; omega
      intro v' w2 hown2 hg2 _
      have hb2 := (Bl.trans hb (Bl.alloc hb1 (.cells #[.string (tokName l[k])] 9))).below (Below.ofGrown (hown1.alloc _) hg2 (by simp only [size_alloc]; omega)) (Nat.le_refl _)
      have HO := Lib.hid hown2
      clear hown2 hown1 hown
      go_wp2
      go_roundw
      case rel => exact ⟨k + 1, by omega, by go_num, by rw [namesV_snoc l k hkn]; exact HO.out, hb2⟩
      case measure => simp [intOf]; omega
    · rw [List.take_of_length_le (show l.length ≤ k by omega)] at hown
      have hk2 : k = l.length := by omega
      obtain ⟨oa, oc, hoe⟩ := own_form hown
      subst hoe
      have hss : SS wr (.slice oa k oc) (l.map tokName) := own_SS hown (by simp; omega)
      have HJ := Lib.hid (joinT_body l hne)
      have hjs := joinT_size l hne
      clear hk2
      have ix0 := arrIdx0
      have ix1 := arrIdx1
      rcases hw with rfl | rfl
      all_goals
        go_wp2
        refine wp_region_quiet_below (by kernel_rfl) (by kernel_rfl) ?_
        repeat (first | go_big_quiet_step ((first | (go_at_call 82; exact Calls.regrown_of (arrows_any _)) | (go_at_call 83; exact Calls.regrown_of (joinNames_any _ l _ (hss.bl (below_regrown _ _ _)) hne hl)))) | quiet_step ((first | (go_at_call 82; exact Calls.regrown_of (arrows_any _)) | (go_at_call 83; exact Calls.regrown_of (joinNames_any _ l _ (hss.bl (below_regrown _ _ _)) hne hl)))))
        refine wpQuiet_nil ?_
        intro wq hwq
        obtain ⟨pq, rfl⟩ := hwq
        have hbq := below_regrown wr pq.d pq.os
        generalize grow (redrawn wr pq.d) pq.os = wq at *
        go_wp2
        go_ret
        exact ⟨ret_str (by rw [lineT, ← HJ.out]; simp only [arrowT, ba_assoc]; rfl), Bl.trans hb hbq⟩

end Go.Proofs.YtelloecgdiocoaaDoor
