/- Walks: Of: a pattern as the reference has it. -/
import Derived.Test.YtffibiigoikmdaaGreatDoorW4
import Derived.Test.YtffibiigoikmdaaGreatDoorOwn
set_option linter.unusedSimpArgs false
set_option linter.unusedVariables false
namespace Go.Proofs.YtffibiigoikmdaaGreatDoor
open Go.RowKit

theorem infoRMsg : (Tryz.prog.info? 51).map (fun i => (i.zero, i.size, i.bytes)) = some (some (.agg #[.int .i64 0, .slice none 0 0]), 2, 32) := by kernel_rfl

set_option maxRecDepth 100000 in
set_option maxHeartbeats 2000000 in
theorem of_any (v : Value) (p : Pat) (w : World) (h : SP w v p) :
    Calls Tryz.prog 8 #[v] w fun e w' => ∃ v', e = .returned v' ∧ SP w' v' p ∧ Bl w w' := by
  obtain ⟨name, pre0, pre1, ms⟩ := p
  obtain ⟨v0, v1, vm, rfl, hn, h0, h1, hm⟩ := h
  simp only at hn h0 h1 hm
  obtain ⟨a0, c0, rfl⟩ := h0.form
  obtain ⟨a1, c1, rfl⟩ := h1.form
  obtain ⟨am, cm, rfl⟩ := hm.form
  have hlm := hm.len
  obtain ⟨i0, hi, hz0, hz1, hz2⟩ := info_parts infoRMsg
  go_enter Tryz.func8, Tryz.ntmps8
  go_wp2
  have x1 := BoxAt.new w #[.string name, .slice a0 pre0.length c0, .slice a1 pre1.length c1, .slice am ms.length cm] 26
  have x2 := BoxAt.new (w.alloc (.cells #[.string name, .slice a0 pre0.length c0, .slice a1 pre1.length c1, .slice am ms.length cm] 26)) #[.string ⟨#[]⟩, .slice none 0 0, .slice none 0 0, .slice none 0 0] 35
  have x3 := BoxAt.new ((w.alloc (.cells #[.string name, .slice a0 pre0.length c0, .slice a1 pre1.length c1, .slice am ms.length cm] 26)).alloc (.cells #[.string ⟨#[]⟩, .slice none 0 0, .slice none 0 0, .slice none 0 0] 35)) #[.string name, .slice a0 pre0.length c0, .slice a1 pre1.length c1, .slice none 0 0] 35
  replace x2 := x2.alloc (.cells #[.string name, .slice a0 pre0.length c0, .slice a1 pre1.length c1, .slice none 0 0] 35)
  have hb : Bl w (((w.alloc (.cells #[.string name, .slice a0 pre0.length c0, .slice a1 pre1.length c1, .slice am ms.length cm] 26)).alloc (.cells #[.string ⟨#[]⟩, .slice none 0 0, .slice none 0 0, .slice none 0 0] 35)).alloc (.cells #[.string name, .slice a0 pre0.length c0, .slice a1 pre1.length c1, .slice none 0 0] 35)) := (((Bl.refl w).alloc _).alloc _).alloc _
  have hsz : (((w.alloc (.cells #[.string name, .slice a0 pre0.length c0, .slice a1 pre1.length c1, .slice am ms.length cm] 26)).alloc (.cells #[.string ⟨#[]⟩, .slice none 0 0, .slice none 0 0, .slice none 0 0] 35)).alloc (.cells #[.string name, .slice a0 pre0.length c0, .slice a1 pre1.length c1, .slice none 0 0] 35)).heap.size = w.heap.size + 1 + 1 + 1 := by simp only [size_alloc]
  simp only [size_alloc] at x2 x3
  generalize (((w.alloc (.cells #[.string name, .slice a0 pre0.length c0, .slice a1 pre1.length c1, .slice am ms.length cm] 26)).alloc (.cells #[.string ⟨#[]⟩, .slice none 0 0, .slice none 0 0, .slice none 0 0] 35)).alloc (.cells #[.string name, .slice a0 pre0.length c0, .slice a1 pre1.length c1, .slice none 0 0] 35)) = W at x2 x3 hb hsz ⊢
  clear x1
  have HS := Lib.hid hsz
  have hle : w.heap.size + 1 + 1 + 1 ≤ W.heap.size := by omega
  clear hsz
  go_loopw [14] (fun i wr => ∃ (k : Nat) (v : Value) (xs : List Value), k ≤ ms.length ∧ i = .int .i64 k ∧ wr.ownsRow (w.heap.size + 1 + 1 + 1) 51 2 v k xs ∧ MRow w xs (ms.take k) ∧
      BoxAt wr (w.heap.size + 1) [.string ⟨#[]⟩, .slice none 0 0, .slice none 0 0, .slice none 0 0] 35 ∧
      BoxAt wr (w.heap.size + 1 + 1) [.string name, .slice a0 pre0.length c0, .slice a1 pre1.length c1, v] 35 ∧ Bl w wr ∧ w.heap.size + 1 + 1 + 1 ≤ wr.heap.size) (fun i _ => ms.length - (intOf i).toNat)
  case atStart => exact ⟨0, _, [], by omega, rfl, World.ownsRow_nil _ _ _ _, trivial, x2, x3, hb, hle⟩
  case round =>
    obtain ⟨k, v, xs, hk, rfl, hown, hrow, y2, y3, hbr, hler⟩ := hrel
    by_cases hkn : k < ms.length
    · obtain ⟨_, _, e, _, hc⟩ := id hm
      injection e with e1 e2 e3
      subst e1 e3
      clear e2
      obtain ⟨b, o, u, rfl, hca, hcb, hu⟩ := hc k hkn
      replace hca := hbr.cellq hca
      replace hcb := hbr.cellq hcb
      have hu0 := hu
      replace hu := hu.bl hbr
      have hlt := lt_of_cell hca
      clear hc x2 x3
      obtain ⟨ua, uc, hue⟩ := hu.form
      subst hue
      obtain ⟨oa, oc, hoe⟩ := own_form hown
      have z3 := y3.cell 3 rfl
      have f3 := y3.free 3
      have hlt3 := y3.lt
      generalize hmm : ms[k] = m at *
      have HM := Lib.hid hmm
      clear hmm
      subst hoe
      go_wp2_with (first
        | (at_builtin; refine wpList_append_own _ rfl (.tmp 19) (.tmp 25) 33 rfl (w.heap.size + 1 + 1 + 1) 51 i0 (.agg #[.int .i64 0, .slice none 0 0]) 2 32 Tryz.underlying33 hi hz0 hz1 hz2 rfl (by decide) _ _ _ rfl ((hown.alloc _).alloc _) ⟨wr.heap.size + 1, 0, none⟩ 1 1 [.int .i64 m.who, .slice ua m.t.length uc] rfl rfl ?c1 ?c2 ?c3 ?c4 ?c5 ?_))
      case c1 =>
        intro j u hj
        match j, hj with
        | 0, hj => simp at hj; subst hj; simp [Addr.add, go_sem]
        | 1, hj => simp at hj; subst hj; simp [Addr.add, go_sem]
        | j + 2, hj => simp at hj
      case c2 => intro u hu; simp at hu; rcases hu with rfl | rfl <;> rfl
      case c3 => unfold maxLen; omega
      case c4 => omega
      case c5 => simp only [size_alloc]; omega
      intro v' w1 hown1 hg1 _
      have hbw := Below.ofGrown ((hown.alloc (.cells #[.int .i64 m.who, .slice ua m.t.length uc] 39)).alloc (.cells #[.int .i64 m.who, .slice ua m.t.length uc] 51)) hg1 (by simp only [size_alloc]; omega)
      have hbl1 : Bl w w1 := ((hbr.alloc _).alloc _).below hbw (by omega)
      have y2' := ((y2.alloc (.cells #[.int .i64 m.who, .slice ua m.t.length uc] 39)).alloc (.cells #[.int .i64 m.who, .slice ua m.t.length uc] 51)).below hbw (by omega)
      have y3' := ((y3.alloc (.cells #[.int .i64 m.who, .slice ua m.t.length uc] 39)).alloc (.cells #[.int .i64 m.who, .slice ua m.t.length uc] 51)).below hbw (by omega)
      obtain ⟨oa', oc', hoe'⟩ := own_form hown1
      subst hoe'
      have z3' := y3'.cell 3 rfl
      have f3' := y3'.free 3
      have hlt3' := y3'.lt
      go_wp2
      go_roundw
      case rel => exact ⟨k + 1, _, xs ++ [.int .i64 m.who, .slice ua m.t.length uc], by omega, by go_num, own_base hown1 (by show w.heap.size + 1 + 1 < _; omega) _, by
        rw [List.take_succ_eq_append_getElem hkn, HM.out]; exact hrow.snoc hu0, y2'.other (by show w.heap.size + 1 ≠ w.heap.size + 1 + 1; omega) _, y3'.set 3 _, hbl1.setCell (by show w.heap.size ≤ w.heap.size + 1 + 1; omega) _, by
          have := hbw.size
          simp only [size_alloc, World.setCell, Array.size_modify] at this ⊢
          omega⟩
      case measure => simp [intOf]; omega
    · obtain ⟨oa, oc, hoe⟩ := own_form hown
      have z0 := y3.cell 0 rfl
      have z1 := y3.cell 1 rfl
      have z2 := y3.cell 2 rfl
      have z3 := y3.cell 3 rfl
      have f0 := y2.free 0
      have f1 := y2.free 1
      have f2 := y2.free 2
      have f3 := y2.free 3
      have q0 := y2.cell 0 rfl
      have q1 := y2.cell 1 rfl
      have q2 := y2.cell 2 rfl
      have q3 := y2.cell 3 rfl
      have hlt2 := y2.lt
      have hlt3 := y3.lt
      subst hoe
      go_wp2
      have yf := (((y2.set 0 (.string name)).set 1 (.slice a0 pre0.length c0)).set 2 (.slice a1 pre1.length c1)).set 3 (.slice oa k oc)
      have hbf : Bl w ((((wr.setCell ⟨w.heap.size + 1, 0, none⟩ (.string name)).setCell ⟨w.heap.size + 1, 1, none⟩ (.slice a0 pre0.length c0)).setCell ⟨w.heap.size + 1, 2, none⟩ (.slice a1 pre1.length c1)).setCell ⟨w.heap.size + 1, 3, none⟩ (.slice oa k oc)) :=
        (((hbr.setCell (by show w.heap.size ≤ w.heap.size + 1; omega) _).setCell (by show w.heap.size ≤ w.heap.size + 1; omega) _).setCell (by show w.heap.size ≤ w.heap.size + 1; omega) _).setCell (by show w.heap.size ≤ w.heap.size + 1; omega) _
      have hsf : SM ((((wr.setCell ⟨w.heap.size + 1, 0, none⟩ (.string name)).setCell ⟨w.heap.size + 1, 1, none⟩ (.slice a0 pre0.length c0)).setCell ⟨w.heap.size + 1, 2, none⟩ (.slice a1 pre1.length c1)).setCell ⟨w.heap.size + 1, 3, none⟩ (.slice oa k oc)) (.slice oa k oc) ms := by
        have hsm := own_SM (own_base (own_base (own_base (own_base hown (a := ⟨w.heap.size + 1, 0, none⟩) (by show w.heap.size + 1 < _; omega) (.string name)) (a := ⟨w.heap.size + 1, 1, none⟩) (by show w.heap.size + 1 < _; omega) (.slice a0 pre0.length c0)) (a := ⟨w.heap.size + 1, 2, none⟩) (by show w.heap.size + 1 < _; omega) (.slice a1 pre1.length c1)) (a := ⟨w.heap.size + 1, 3, none⟩) (by show w.heap.size + 1 < _; omega) (.slice oa k oc)) (hrow.bl hbf) (by rw [List.length_take]; omega)
        rwa [List.take_of_length_le (by omega)] at hsm
      generalize ((((wr.setCell ⟨w.heap.size + 1, 0, none⟩ (.string name)).setCell ⟨w.heap.size + 1, 1, none⟩ (.slice a0 pre0.length c0)).setCell ⟨w.heap.size + 1, 2, none⟩ (.slice a1 pre1.length c1)).setCell ⟨w.heap.size + 1, 3, none⟩ (.slice oa k oc)) = Wf at yf hbf hsf ⊢
      have p0 := yf.cell 0 rfl
      have p1 := yf.cell 1 rfl
      have p2 := yf.cell 2 rfl
      have p3 := yf.cell 3 rfl
      exact bodyPost_ret (v := .agg #[.string name, .slice a0 pre0.length c0, .slice a1 pre1.length c1, .slice oa k oc]) (by simp [results, Tryz.results8, go_sem, p0, p1, p2, p3]) rfl
        ⟨_, rfl, ⟨_, _, _, rfl, hn, h0.bl hbf, h1.bl hbf, hsf⟩, hbf⟩

end Go.Proofs.YtffibiigoikmdaaGreatDoor
