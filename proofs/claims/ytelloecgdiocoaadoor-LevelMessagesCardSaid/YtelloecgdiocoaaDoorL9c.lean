/- Walk: undertonelaw09.LevelSteps. -/
import Derived.Test.YtelloecgdiocoaaDoorL9a
import Derived.Test.YtelloecgdiocoaaDoorR2
set_option linter.unusedSimpArgs false
set_option linter.unusedVariables false
namespace Go.Proofs.YtelloecgdiocoaaDoor
open Go.RowKit Go.Sort

theorem tab_at {p : Pat} {many : Int} (h : tabE p many = 0) (j : Nat) (hj : j < (tabL p many).length) : (tabL p many)[j] = levAt p j := by
  have e : tabL p many = levs p many.toNat := by unfold tabL; rw [if_pos h]
  simp only [e, levs, List.getElem_map, List.getElem_range]

set_option maxRecDepth 100000 in
set_option maxHeartbeats 4000000 in
theorem levelSteps_any (v : Value) (p : Pat) (many more : Int) (w : World) (hE : EnvB w) (h : SP w v p) :
    Calls Tryd.prog 8 #[v, .int .i64 many, .int .i64 more] w fun e w' => e = .returned (.bool true) ∧ Bl w w' := by
  have hq := eqLev
  have hv := h
  obtain ⟨v0, v1, vm, rfl, hn, h0, h1, hm⟩ := h
  obtain ⟨a0, c0, rfl⟩ := h0.form
  obtain ⟨a1, c1, rfl⟩ := h1.form
  obtain ⟨am, cm, rfl⟩ := hm.form
  clear h0 h1 hm
  have x := BoxAt.new w #[.string p.name, .slice a0 p.pre0.length c0, .slice a1 p.pre1.length c1, .slice am p.msgs.length cm] 29
  have H : Bl w (w.alloc (.cells #[.string p.name, .slice a0 p.pre0.length c0, .slice a1 p.pre1.length c1, .slice am p.msgs.length cm] 29)) := (Bl.refl w).alloc _
  go_enter Tryd.func8, Tryd.ntmps8
  go_wp2_with fail
  refine (few_any _ p _ (hv.bl H)).mono ?_
  rintro e w1 ⟨rfl, hb1⟩
  have x1 := x.bl hb1
  have H1 := H.trans hb1
  obtain ⟨g0, g1, g2, g3⟩ := x1.cells4
  cases hfp : fewB p
  · go_wp2_with fail
    refine (awake9_any w1 (hE.bl H1)).mono ?_
    rintro e w3 ⟨rfl, hb3⟩
    go_wp2
    go_ret
    exact ⟨rfl, H1.trans hb3⟩
  · clear hfp
    go_wp2_with fail
    refine (table_any _ p many _ (hv.bl H1)).mono ?_
    rintro e w2 ⟨r, rfl, hl, hb2⟩
    have x2 := x1.bl hb2
    have H2 := H1.trans hb2
    clear g0 g1 g2 g3
    obtain ⟨g0, g1, g2, g3⟩ := x2.cells4
    have HA := Lib.hid (@tab_at p many)
    generalize tabE p many = ea at *
    generalize tabL p many = la at *
    obtain ⟨ra, rc, rfl⟩ := hl.form
    go_wp2_with fail
    refine (table_any _ p more _ (hv.bl H2)).mono ?_
    rintro e w3 ⟨r, rfl, hl', hb3⟩
    have H3 := H2.trans hb3
    have hl3 := hl.bl hb3
    have HB := Lib.hid (@tab_at p more)
    generalize tabE p more = eb at *
    generalize tabL p more = lb at *
    obtain ⟨rb, rd, rfl⟩ := hl'.form
    by_cases e1 : ea = 0
    · subst e1
      by_cases e2 : eb = 0
      · subst e2
        have HAk := Lib.hid (HA.out rfl)
        have HBk := Lib.hid (HB.out rfl)
        clear HA HB
        have hla : la.length ≤ 100 := by obtain ⟨_, _, _, h, _⟩ := hl; exact h.1
        go_wp2_with fail
        go_loopw [11] (fun i wr => ∃ k : Nat, k ≤ la.length ∧ i = .int .i64 k ∧ Bl w3 wr ∧ Bl w wr) (fun i _ => la.length - (intOf i).toNat)
        case atStart => exact ⟨0, by omega, rfl, Bl.refl _, H3⟩
        case round =>
          obtain ⟨k, hk, rfl, H3r, Hr⟩ := hrel
          by_cases ha : k < la.length
          · have da : decide ((k : Int) < (la.length : Int)) = true := by simp; omega
            by_cases hb : k < lb.length
            · have db : decide ((k : Int) < (lb.length : Int)) = true := by simp; omega
              have HX := Lib.hid ((HAk.out k ha).trans (HBk.out k hb).symm)
              obtain ⟨b, o, e1, ca0, ca1⟩ : ∃ b o, ra = some ⟨b, o, none⟩ ∧ wr.cell? ⟨b, o + k * 2, none⟩ = some (.int .i64 la[k].1) ∧ wr.cell? ⟨b, o + k * 2 + 1, none⟩ = some (.int .i64 la[k].2) := by
                obtain ⟨a', c', e, _, hc⟩ := hl3.bl H3r
                injection e with e1 _ _
                obtain ⟨b', o', e2, h2⟩ := hc k ha
                exact ⟨b', o', e1.trans e2, h2⟩
              subst e1
              obtain ⟨b', o', e1, cb0, cb1⟩ : ∃ b o, rb = some ⟨b, o, none⟩ ∧ wr.cell? ⟨b, o + k * 2, none⟩ = some (.int .i64 lb[k].1) ∧ wr.cell? ⟨b, o + k * 2 + 1, none⟩ = some (.int .i64 lb[k].2) := by
                obtain ⟨a', c', e, _, hc⟩ := hl'.bl H3r
                injection e with e1 _ _
                obtain ⟨b', o', e2, h2⟩ := hc k hb
                exact ⟨b', o', e1.trans e2, h2⟩
              subst e1
              rw [HX.out] at ca0 ca1
              clear HX
              generalize lb[k] = z at *
              obtain ⟨z0, z1⟩ := z
              simp only at ca0 ca1 cb0 cb1
              have ga0 := cell_regrown ca0
              have ga1 := cell_regrown ca1
              have gb0 := cell_regrown cb0
              have gb1 := cell_regrown cb1
              go_upto_region 10 with fail
              refine wp_region_quiet_below (by kernel_rfl) (by kernel_rfl) ?_
              repeat (go_big_quiet_step (fail))
              refine wpQuiet_nil ?_
              intro wq hwq
              obtain ⟨pq, rfl⟩ := hwq
              have hbq := below_regrown wr pq.d pq.os
              go_wp2
              go_roundw
              case rel => exact ⟨k + 1, by omega, by go_num, H3r.trans hbq, Hr.trans hbq⟩
              case measure => simp [intOf]; omega
            · have db : decide ((k : Int) < (lb.length : Int)) = false := by simp; omega
              go_wp2_with fail
              refine (awake9_any wr (hE.bl Hr)).mono ?_
              rintro e w4 ⟨rfl, hb4⟩
              go_wp2
              go_ret
              exact ⟨rfl, Hr.trans hb4⟩
          · have da : decide ((k : Int) < (la.length : Int)) = false := by simp; omega
            go_wp2_with fail
            refine (awake9_any wr (hE.bl Hr)).mono ?_
            rintro e w4 ⟨rfl, hb4⟩
            go_wp2
            go_ret
            exact ⟨rfl, Hr.trans hb4⟩
      · have d2 : (eb == 0) = false := by simpa using e2
        have d2' : (eb != 0) = true := by simpa using e2
        go_wp2_with fail
        refine (awake9_any w3 (hE.bl H3)).mono ?_
        rintro e w4 ⟨rfl, hb4⟩
        go_wp2
        go_ret
        exact ⟨rfl, H3.trans hb4⟩
    · have d2 : (ea == 0) = false := by simpa using e1
      have d2' : (ea != 0) = true := by simpa using e1
      go_wp2_with fail
      refine (awake9_any w3 (hE.bl H3)).mono ?_
      rintro e w4 ⟨rfl, hb4⟩
      go_wp2
      go_ret
      exact ⟨rfl, H3.trans hb4⟩
end Go.Proofs.YtelloecgdiocoaaDoor
