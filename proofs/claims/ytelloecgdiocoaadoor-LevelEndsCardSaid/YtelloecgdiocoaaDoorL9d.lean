/- Walk: undertonelaw09.LevelTable. -/
import Derived.Test.YtelloecgdiocoaaDoorL9c
import Derived.Test.YtelloecgdiocoaaDoorH3
import Derived.Deep.DeepCutAuto
set_option linter.unusedSimpArgs false
set_option linter.unusedVariables false
namespace Go.Proofs.YtelloecgdiocoaaDoor
open Go.RowKit Go.Sort

/-- what the table tells of name k, n of its messages asked for -/
def okTab (k n : Nat) : Bool :=
  let x := bNames.getD k ByteArray.empty
  let t := refTab.getD k []
  decide (baseE x = 0) && decide (t.length ≤ 8) && (decide (t.length / 2 < n) || (decide (tabE (baseP x) n = 0) && decide ((tabL (baseP x) n).length = n) &&
    (List.range n).all (fun j => decide ((tabL (baseP x) n).getD j (0, 0) = (t.getD (2 * j) 0, t.getD (2 * j + 1) 0)))))
theorem okTab_all : (List.range 15).all (fun k => (List.range 5).all (fun n => okTab k n)) = true := by decide +kernel
theorem okTab_at (k n : Nat) (hk : k < 15) (hn : n < 5) : okTab k n = true :=
  List.all_eq_true.1 (List.all_eq_true.1 okTab_all k (List.mem_range.2 hk)) n (List.mem_range.2 hn)
theorem okTab_parts (k n : Nat) (hk : k < 15) (hn : n < 5) (x : ByteArray) (t : List Int) (hx : bNames.getD k ByteArray.empty = x) (ht : refTab.getD k [] = t) : baseE x = 0 ∧ t.length ≤ 8 ∧
    (n ≤ t.length / 2 → tabE (baseP x) n = 0 ∧ (tabL (baseP x) n).length = n ∧ ∀ j, (hj : j < (tabL (baseP x) n).length) → (tabL (baseP x) n)[j].1 = t.getD (2 * j) 0 ∧ (tabL (baseP x) n)[j].2 = t.getD (2 * j + 1) 0) := by
  have h := okTab_at k n hk hn
  simp only [okTab] at h
  rw [hx, ht] at h
  simp only [Bool.and_eq_true, Bool.or_eq_true, decide_eq_true_eq] at h
  obtain ⟨⟨h0, h8⟩, h⟩ := h
  refine ⟨h0, h8, fun hle => ?_⟩
  rcases h with h | ⟨⟨h1, h2⟩, h3⟩
  · omega
  · refine ⟨h1, h2, fun j hj => ?_⟩
    have := List.all_eq_true.1 h3 j (List.mem_range.2 (by omega))
    rw [decide_eq_true_eq, List.getD_eq_getElem?_getD, List.getElem?_eq_getElem hj] at this
    simp only [Option.getD_some] at this
    rw [this]
    exact ⟨rfl, rfl⟩
theorem SI.atD {w : World} {v : Value} {l : List Int} (h : SI w v l) (k : Nat) (hk : k < l.length) : ∃ b o c, v = .slice (some ⟨b, o, none⟩) l.length c ∧ w.cell? ⟨b, o + k, none⟩ = some (.int .i64 (l.getD k 0)) := by
  obtain ⟨a, c, rfl, _, hc⟩ := h
  obtain ⟨b, o, rfl, hk'⟩ := hc k hk
  exact ⟨b, o, c, rfl, by rw [hk', List.getD_eq_getElem?_getD, List.getElem?_eq_getElem hk]; rfl⟩

set_option maxRecDepth 100000 in
set_option maxHeartbeats 8000000 in
theorem levelTable_any (m : Int) (w : World) (hE : EnvB w) (hm0 : 0 ≤ m) (hm1 : m ≤ 255) :
    Calls Tryd.prog 3 #[.int .u8 m] w fun e w' => e = .returned (.bool true) ∧ Bl w w' := by
  obtain ⟨q, hq5, hqm⟩ : ∃ q : Nat, q < 5 ∧ m % 5 = (q : Int) := ⟨(m % 5).toNat, by omega, by omega⟩
  go_enter Tryd.func3, Tryd.ntmps3
  go_wp2_with fail
  refine (refNames_any w).mono ?_
  rintro e w1 ⟨v, rfl, hss, hb1⟩
  obtain ⟨sa, sc, hse, hlen, hc⟩ := id hss
  have h15 : bNames.length = 15 := rfl
  rw [h15] at hse
  subst hse
  go_wp2_with fail
  go_loopw [15] (fun i wr => ∃ k : Nat, k ≤ 15 ∧ i = .int .i64 k ∧ Bl w1 wr ∧ Bl w wr) (fun i _ => 15 - (intOf i).toNat)
  case atStart => exact ⟨0, by omega, rfl, Bl.refl _, hb1⟩
  case round =>
    obtain ⟨k, hk, rfl, H1r, Hr⟩ := hrel
    by_cases hkn : k < 15
    · obtain ⟨b, o, rfl, hca⟩ := hc k (by rw [h15]; omega)
      have hcr := H1r.cellq hca
      have HX : Hid (bNames[k]'(by rw [h15]; omega) = bNames.getD k ByteArray.empty) := Lib.hid (by rw [List.getD_eq_getElem?_getD, List.getElem?_eq_getElem (by rw [h15]; omega)]; rfl)
      have cT := fun w => refTab_any k (by rw [h15]; omega) _ _ rfl rfl w
      rw [HX.out] at hcr cT
      have HP := Lib.hid (fun n hn => okTab_parts k n hkn hn _ _ rfl rfl)
      generalize bNames.getD k ByteArray.empty = x at *
      generalize refTab.getD k [] = t at *
      have HEx := (HP.out 0 (by omega)).1
      have Ht8 := (HP.out 0 (by omega)).2.1
      go_wp2_with fail
      refine (cT _).mono ?_
      rintro e w2 ⟨tv, rfl, hti, hb2⟩
      obtain ⟨ta, tc, rfl⟩ := hti.form
      go_wp2_with fail
      have cB := base_any x w2 (hE.bl (Hr.trans hb2))
      rw [HEx] at cB
      refine cB.mono ?_
      rintro e w3 ⟨pv, rfl, hs, hb3⟩
      generalize hpp : baseP x = p at *
      have hs0 := hs
      obtain ⟨v0, v1, vm, rfl, _, h0, h1, hm⟩ := hs
      obtain ⟨a0, c0, rfl⟩ := h0.form
      obtain ⟨a1, c1, rfl⟩ := h1.form
      obtain ⟨am, cm, rfl⟩ := hm.form
      clear h0 h1 hm cB cT
      have al3 : Bl w3 (w3.alloc (.cells #[.string p.name, .slice a0 p.pre0.length c0, .slice a1 p.pre1.length c1, .slice am p.msgs.length cm] 29)) := (Bl.refl w3).alloc _
      have hs3 := hs0.bl al3
      have b13 : Bl wr (w3.alloc (.cells #[.string p.name, .slice a0 p.pre0.length c0, .slice a1 p.pre1.length c1, .slice am p.msgs.length cm] 29)) := (hb2.trans hb3).trans al3
      obtain ⟨n, hn5, hnt, hnE⟩ : ∃ n : Nat, n < 5 ∧ n ≤ t.length / 2 ∧ min (q : Int) ((t.length : Int) / 2) = (n : Int) := ⟨min q (t.length / 2), by omega, by omega, by omega⟩
      obtain ⟨HT0, HTn, HTj⟩ := (HP.out n hn5).2.2 hnt
      have cTab := fun u w h => table_any u p (n : Int) w h
      rw [HT0] at cTab
      generalize tabL p n = L at *
      go_wp2_with fail
      refine (cTab _ _ hs3).mono ?_
      rintro e w4 ⟨lv, rfl, hl, hb4⟩
      obtain ⟨la, lc, rfl⟩ := hl.form
      have b14 := b13.trans hb4
      have ht4 := hti.bl ((hb3.trans al3).trans hb4)
      clear hnE cTab HT0 HP HX hcr
      have HJ := Lib.hid HTj
      clear HTj
      have hL8 : 2 * L.length ≤ t.length := by omega
      have dn : ((L.length : Int) == (n : Int)) = true := by simp; omega
      go_wp2_with fail
      go_loopw [53] (fun i wq => ∃ j : Nat, j ≤ L.length ∧ i = .int .i64 j ∧ Bl w4 wq ∧ Bl wr wq) (fun i _ => L.length - (intOf i).toNat)
      case atStart => exact ⟨0, by omega, rfl, Bl.refl _, b14⟩
      case round =>
        obtain ⟨j, hj, rfl, H4q, Hrq⟩ := hrel
        by_cases hjn : j < L.length
        · have dj : decide ((j : Int) < (L.length : Int)) = true := by simp; omega
          obtain ⟨hj1, hj2⟩ := HJ.out j hjn
          obtain ⟨b', o', e1, ca0, ca1⟩ : ∃ b o, la = some ⟨b, o, none⟩ ∧ wr.cell? ⟨b, o + j * 2, none⟩ = some (.int .i64 L[j].1) ∧ wr.cell? ⟨b, o + j * 2 + 1, none⟩ = some (.int .i64 L[j].2) := by
            obtain ⟨a', c', e, _, hc⟩ := hl.bl H4q
            injection e with e1 _ _
            obtain ⟨b', o', e2, h2⟩ := hc j hjn
            exact ⟨b', o', e1.trans e2, h2⟩
          subst e1
          obtain ⟨b2, o2, c2, e2, t0⟩ := (ht4.bl H4q).atD (2 * j) (by omega)
          obtain ⟨b3, o3, c3, e3, t1⟩ := (ht4.bl H4q).atD (2 * j + 1) (by omega)
          injection e2 with e2 _ ec2
          injection e3 with e3 _ ec3
          subst e2 ec2
          injection e3 with e3
          injection e3 with e3 e4 _
          subst e3 e4 
          rw [← hj1] at t0
          rw [← hj2] at t1
          clear hj1 hj2
          generalize L[j].1 = z0 at *
          generalize L[j].2 = z1 at *
          have w2 : wrap64 (2 * (j : Int)) = 2 * (j : Int) := by unfold wrap64; omega
          have w3 : wrap64 (2 * (j : Int) + 1) = 2 * (j : Int) + 1 := by unfold wrap64; omega
          have y := BoxAt.new wr #[.int .i64 z0, .int .i64 z1] 37
          have al : Bl wr (wr.alloc (.cells #[.int .i64 z0, .int .i64 z1] 37)) := (Bl.refl wr).alloc _
          have t0a := al.cellq t0
          have t1a := al.cellq t1
          have H4a := H4q.trans al
          have Hra := Hrq.trans al
          go_upto_region 13 with fail
          generalize wr.alloc (.cells #[.int .i64 z0, .int .i64 z1] 37) = W at *
          obtain ⟨y0, y1⟩ : _ ∧ _ := ⟨y.cell 0 rfl, y.cell 1 rfl⟩
          have gy0 := cell_regrown y0
          have gy1 := cell_regrown y1
          have gt0 := cell_regrown t0a
          have gt1 := cell_regrown t1a
          refine wp_region_quiet_below (by kernel_rfl) (by kernel_rfl) ?_
          repeat (go_big_quiet_step (fail))
          refine wpQuiet_nil ?_
          intro wq hwq
          obtain ⟨pq, rfl⟩ := hwq
          have hbq := below_regrown W pq.d pq.os
          go_wp2
          go_roundw
          case rel => exact ⟨j + 1, by omega, by go_num, H4a.trans hbq, Hra.trans hbq⟩
          case measure => simp [intOf]; omega
        · have dj : decide ((j : Int) < (L.length : Int)) = false := by simp; omega
          go_wp2_with fail
          go_roundw
          case rel => exact ⟨k + 1, by omega, by go_num, H1r.trans Hrq, Hr.trans Hrq⟩
          case measure => simp [intOf]; omega
    · obtain rfl : k = 15 := by omega
      go_wp2_with fail
      refine (awake9_any wr (hE.bl Hr)).mono ?_
      rintro e w4 ⟨rfl, hb4⟩
      go_wp2
      go_ret
      exact ⟨rfl, Hr.trans hb4⟩
end Go.Proofs.YtelloecgdiocoaaDoor
