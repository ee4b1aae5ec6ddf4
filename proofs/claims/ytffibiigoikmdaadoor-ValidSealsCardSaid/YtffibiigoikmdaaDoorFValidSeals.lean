/- The card of ValidSeals: for every argument, wherever the listed tables are as laid, the law returns true. -/
import Derived.Test.YtffibiigoikmdaaDoorL7a
import Derived.Test.YtffibiigoikmdaaDoorQ4
import Derived.Test.YtffibiigoikmdaaDoorR2
import Derived.Test.YtffibiigoikmdaaDoorW7
import Derived.Lib.QuietBelow
import Derived.Test.YtffibiigoikmdaaDoorFrameB
set_option linter.unusedSimpArgs false
set_option linter.unusedVariables false
namespace Go.Proofs.YtffibiigoikmdaaDoor
open Go.RowKit Go.Sort

theorem kept_ok {p : Pat} (h : (checkV p).2.2 = 0) : rightB p = true ∧ Kept p := by
  cases hr : rightB p
  · rw [checkV, hr] at h; simp at h
  · obtain ⟨_, _, hl1, hl6, ho⟩ := right_parts hr
    refine ⟨rfl, kept_of ho ?_⟩
    rw [checkV, if_pos hr, chk_same p hl1 (by omega) ho] at h
    exact h
theorem met99 (p : Pat) (h : p.msgs.length ≤ 6) : aheadL p (99 : Int).toNat (0 : Int).toNat = allL p := ahead_all p _ _ (by show p.msgs.length ≤ 99; omega)
theorem metA_any (v : Value) (p : Pat) (w : World) (h : SP w v p) (hs : Small p) (hl : p.msgs.length ≤ 6) (who t : Int) (n : Nat) (hn : met1 (allL p) who t = n) :
    Calls Tryd.prog 15 #[v, .int .i64 who, .int .i64 t, .int .i64 99, .int .i64 0] w fun e w' => e = .returned (.int .i64 (n : Int)) ∧ Bl w w' := by
  have := met_any v p w h hs who t 99 0 (by omega) (by omega)
  rw [met99 p hl, hn] at this
  exact this
theorem told_mem {l : List Int} (h : toldB l = true) : ∀ k, (hk : k < l.length) → (l[k] = 1 ∨ l[k] = 2) ∧ l.contains l[k] = true := by
  intro k hk
  refine ⟨?_, by simp⟩
  rcases told_four h with e | e | e | e
  · subst e; simp at hk
  · subst e; simp at hk; subst hk; simp
  · subst e; simp at hk; subst hk; simp
  · subst e
    have : k = 0 ∨ k = 1 := by simp at hk; omega
    rcases this with rfl | rfl <;> simp

set_option maxRecDepth 100000 in
set_option maxHeartbeats 8000000 in
theorem validPre_any (v : Value) (p : Pat) (w : World) (hE : Env w) (h : SP w v p) :
    Calls Tryd.prog 5 #[v] w fun e w' => e = .returned (.bool true) ∧ Bl w w' := by
  have hv := h
  obtain ⟨v0, v1, vm, rfl, hn, h0, h1, hm⟩ := h
  obtain ⟨a0, c0, rfl⟩ := h0.form
  obtain ⟨a1, c1, rfl⟩ := h1.form
  obtain ⟨am, cm, rfl⟩ := hm.form
  have x := BoxAt.new w #[.string p.name, .slice a0 p.pre0.length c0, .slice a1 p.pre1.length c1, .slice am p.msgs.length cm] 28
  have H : Bl w (w.alloc (.cells #[.string p.name, .slice a0 p.pre0.length c0, .slice a1 p.pre1.length c1, .slice am p.msgs.length cm] 28)) := (Bl.refl w).alloc _
  have HKP := Lib.hid (@kept_ok p)
  have cC := fun u w h => checkE_any u p w h _ rfl
  generalize (checkV p).2.2 = E at *
  go_enter Tryd.func5, Tryd.ntmps5
  go_wp2_with fail
  refine (cC _ _ (hv.bl H)).mono ?_
  rintro e w1 ⟨r1, r2, rfl, hb1⟩
  have x1 := x.bl hb1
  have H1 := H.trans hb1
  clear x H hb1 cC
  obtain ⟨g0, g1, g2, g3⟩ : _ ∧ _ ∧ _ ∧ _ := ⟨x1.cell 0 rfl, x1.cell 1 rfl, x1.cell 2 rfl, x1.cell 3 rfl⟩
  go_wp2_with fail
  refine (few_any _ p _ (hv.bl H1)).mono ?_
  rintro e w2 ⟨rfl, hb2⟩
  have x2 := x1.bl hb2
  have H2 := H1.trans hb2
  clear g0 g1 g2 g3 x1 H1 hb2
  cases hfp : fewB p
  · go_wp2_with fail
    refine (awake7_any w2 (hE.bl H2)).mono ?_
    rintro e w3 ⟨rfl, hb3⟩
    go_wp2
    go_ret
    exact ⟨rfl, H2.trans hb3⟩
  · clear hfp
    by_cases he : E = 0
    · subst he
      obtain ⟨hr, hkp⟩ := HKP.out (by trivial)
      have hsm := ((right_iff p).1 hr).small
      have hl6 := (right_parts hr).2.2.2.1
      have hl1 := (right_parts hr).2.2.1
      have HSM := Lib.hid hsm
      have HR := Lib.hid hr
      have HKT := Lib.hid hkp
      clear HKP hr hkp hsm
      obtain ⟨g0, g1, g2, g3⟩ : _ ∧ _ ∧ _ ∧ _ := ⟨x2.cell 0 rfl, x2.cell 1 rfl, x2.cell 2 rfl, x2.cell 3 rfl⟩
      go_wp2_with fail
      refine (of_any _ p _ (hv.bl H2)).mono ?_
      rintro e w3 ⟨u, rfl, hu, hb3⟩
      have hu0 := hu
      obtain ⟨u0, u1, um, rfl, _, i0, i1, im⟩ := hu
      obtain ⟨b0, d0, rfl⟩ := i0.form
      obtain ⟨b1, d1, rfl⟩ := i1.form
      obtain ⟨bm, dm, rfl⟩ := im.form
      clear i0 i1 im g0 g1 g2 g3
      have al : Bl w3 (w3.alloc (.cells #[.string p.name, .slice b0 p.pre0.length d0, .slice b1 p.pre1.length d1, .slice bm p.msgs.length dm] 40)) := (Bl.refl w3).alloc _
      have y3 := BoxAt.new w3 #[.string p.name, .slice b0 p.pre0.length d0, .slice b1 p.pre1.length d1, .slice bm p.msgs.length dm] 40
      have hu3 := hu0.bl al
      have x3 := (x2.bl hb3).bl al
      have H3 := (H2.trans hb3).trans al
      go_upto_region 5 with fail
      generalize hW3 : w3.alloc (.cells #[.string p.name, .slice b0 p.pre0.length d0, .slice b1 p.pre1.length d1, .slice bm p.msgs.length dm] 40) = W3 at *
      generalize w3.heap.size = B at *
      clear hW3 al x2 hb3 H2
      have HT0 := Lib.hid (right_parts HR.out).1
      have HT1 := Lib.hid (right_parts HR.out).2.1
      go_wp2_with fail
      go_loopw [26] (fun i wr => ∃ k : Int, (k = 0 ∨ k = 1 ∨ k = 2) ∧ i = .int .i64 k ∧ BoxAt wr B [.string p.name, .slice b0 p.pre0.length d0, .slice b1 p.pre1.length d1, .slice bm p.msgs.length dm] 40 ∧ BoxAt wr w.heap.size [.string p.name, .slice a0 p.pre0.length c0, .slice a1 p.pre1.length c1, .slice am p.msgs.length cm] 28 ∧ Bl W3 wr ∧ Bl w wr) (fun i _ => 2 - (intOf i).toNat)
      case atStart => exact ⟨0, by omega, rfl, y3, x3, Bl.refl _, H3⟩
      case round =>
        obtain ⟨k, hk, rfl, yr, xr, H3r, Hr⟩ := hrel
        rcases hk with rfl | rfl | rfl
        · have p1 := xr.cell 1 rfl
          have hl := h0.len
          go_wp2_with fail
          go_loopw [34] (fun i wq => ∃ j : Nat, j ≤ p.pre0.length ∧ i = .int .i64 j ∧ BoxAt wq B [.string p.name, .slice b0 p.pre0.length d0, .slice b1 p.pre1.length d1, .slice bm p.msgs.length dm] 40 ∧ BoxAt wq w.heap.size [.string p.name, .slice a0 p.pre0.length c0, .slice a1 p.pre1.length c1, .slice am p.msgs.length cm] 28 ∧ Bl W3 wq ∧ Bl w wq) (fun i _ => p.pre0.length - (intOf i).toNat)
          case atStart => exact ⟨0, by omega, rfl, yr, xr, H3r, Hr⟩
          case round =>
            obtain ⟨j, hj, rfl, yq, xq, H3q, Hq⟩ := hrel
            by_cases hjl : j < p.pre0.length
            · have dj : decide ((j : Int) < (p.pre0.length : Int)) = true := by simp; omega
              obtain ⟨b', o', e', hct⟩ : ∃ b' o', a0 = some ⟨b', o', none⟩ ∧ wr.cell? ⟨b', o' + j, none⟩ = some (.int .i64 p.pre0[j]) := by
                obtain ⟨a', c', e, _, hc⟩ := h0.bl Hq
                injection e with e1 _ _
                obtain ⟨b', o', e2, h2⟩ := hc j hjl
                exact ⟨b', o', e1.trans e2, h2⟩
              subst e'
              obtain ⟨ht, hcn⟩ := told_mem HT0.out j hjl
              have hz := HKT.out.inv.pre 0 _ (.inl rfl) ht hcn
              have HZ := Lib.hid hz
              clear hz ht hcn
              generalize p.pre0[j] = t at *
              obtain ⟨g0, g1, g2, g3⟩ : _ ∧ _ ∧ _ ∧ _ := ⟨yq.cell 0 rfl, yq.cell 1 rfl, yq.cell 2 rfl, yq.cell 3 rfl⟩
              go_wp2_with fail
              refine (metA_any _ p _ (hu3.bl H3q) HSM.out hl6 0 t 0 HZ.out).mono ?_
              rintro e w6 ⟨rfl, hb6⟩
              go_wp2_with fail
              go_roundw
              case rel => exact ⟨j + 1, by omega, by go_num, yq.bl hb6, xq.bl hb6, H3q.trans hb6, Hq.trans hb6⟩
              case measure => simp [intOf]; omega
            · have dj : decide ((j : Int) < (p.pre0.length : Int)) = false := by simp; omega
              go_wp2_with fail
              go_roundw
              case rel => exact ⟨0 + 1, by omega, by go_num, yq, xq, H3q, Hq⟩
              case measure => simp [intOf]
        · have p2 := xr.cell 2 rfl
          have hl := h1.len
          go_wp2_with fail
          go_loopw [34] (fun i wq => ∃ j : Nat, j ≤ p.pre1.length ∧ i = .int .i64 j ∧ BoxAt wq B [.string p.name, .slice b0 p.pre0.length d0, .slice b1 p.pre1.length d1, .slice bm p.msgs.length dm] 40 ∧ BoxAt wq w.heap.size [.string p.name, .slice a0 p.pre0.length c0, .slice a1 p.pre1.length c1, .slice am p.msgs.length cm] 28 ∧ Bl W3 wq ∧ Bl w wq) (fun i _ => p.pre1.length - (intOf i).toNat)
          case atStart => exact ⟨0, by omega, rfl, yr, xr, H3r, Hr⟩
          case round =>
            obtain ⟨j, hj, rfl, yq, xq, H3q, Hq⟩ := hrel
            by_cases hjl : j < p.pre1.length
            · have dj : decide ((j : Int) < (p.pre1.length : Int)) = true := by simp; omega
              obtain ⟨b', o', e', hct⟩ : ∃ b' o', a1 = some ⟨b', o', none⟩ ∧ wr.cell? ⟨b', o' + j, none⟩ = some (.int .i64 p.pre1[j]) := by
                obtain ⟨a', c', e, _, hc⟩ := h1.bl Hq
                injection e with e1 _ _
                obtain ⟨b', o', e2, h2⟩ := hc j hjl
                exact ⟨b', o', e1.trans e2, h2⟩
              subst e'
              obtain ⟨ht, hcn⟩ := told_mem HT1.out j hjl
              have hz := HKT.out.inv.pre 1 _ (.inr rfl) ht hcn
              have HZ := Lib.hid hz
              clear hz ht hcn
              generalize p.pre1[j] = t at *
              obtain ⟨g0, g1, g2, g3⟩ : _ ∧ _ ∧ _ ∧ _ := ⟨yq.cell 0 rfl, yq.cell 1 rfl, yq.cell 2 rfl, yq.cell 3 rfl⟩
              go_wp2_with fail
              refine (metA_any _ p _ (hu3.bl H3q) HSM.out hl6 1 t 0 HZ.out).mono ?_
              rintro e w6 ⟨rfl, hb6⟩
              go_wp2_with fail
              go_roundw
              case rel => exact ⟨j + 1, by omega, by go_num, yq.bl hb6, xq.bl hb6, H3q.trans hb6, Hq.trans hb6⟩
              case measure => simp [intOf]; omega
            · have dj : decide ((j : Int) < (p.pre1.length : Int)) = false := by simp; omega
              go_wp2_with fail
              go_roundw
              case rel => exact ⟨1 + 1, by omega, by go_num, yq, xq, H3q, Hq⟩
              case measure => simp [intOf]
        · go_wp2_with fail
          refine (awake7_any wr (hE.bl Hr)).mono ?_
          rintro e w4 ⟨rfl, hb4⟩
          go_wp2
          go_ret
          exact ⟨rfl, Hr.trans hb4⟩
    · have de : (E != 0) = true := by simpa using he
      go_wp2_with fail
      refine (awake7_any w2 (hE.bl H2)).mono ?_
      rintro e w3 ⟨rfl, hb3⟩
      go_wp2
      go_ret
      exact ⟨rfl, H2.trans hb3⟩
end Go.Proofs.YtffibiigoikmdaaDoor

set_option linter.unusedSimpArgs false
set_option linter.unusedVariables false
namespace Go.Proofs.YtffibiigoikmdaaDoor
open Go.RowKit Go.Sort

theorem told_who (v : Value) (p : Pat) (w : World) (h : SP w v p) (hs : Small p) (who : Int) (k : Nat) (hw : who = 0 ∨ who = 1) :
    Calls Tryd.prog 17 #[v, .int .i64 who, .int .i64 1, .int .i64 ((k + 1 : Nat) : Int), .int .i64 0] w fun e w' => e = .returned (.bool (told1 p (aheadL p (k + 1) 0) who 1)) ∧ Bl w w' := by
  rcases hw with rfl | rfl
  · exact told0_any v p w h hs 1 ((k + 1 : Nat) : Int) 0 (by omega) (by omega)
  · exact told1_any v p w h hs 1 ((k + 1 : Nat) : Int) 0 (by omega) (by omega)

set_option maxRecDepth 100000 in
set_option maxHeartbeats 8000000 in
theorem validSeals_any (v : Value) (p : Pat) (w : World) (hE : Env w) (h : SP w v p) :
    Calls Tryd.prog 6 #[v] w fun e w' => e = .returned (.bool true) ∧ Bl w w' := by
  have hv := h
  obtain ⟨v0, v1, vm, rfl, hn, h0, h1, hm⟩ := h
  obtain ⟨a0, c0, rfl⟩ := h0.form
  obtain ⟨a1, c1, rfl⟩ := h1.form
  obtain ⟨am, cm, rfl⟩ := hm.form
  have x := BoxAt.new w #[.string p.name, .slice a0 p.pre0.length c0, .slice a1 p.pre1.length c1, .slice am p.msgs.length cm] 28
  have H : Bl w (w.alloc (.cells #[.string p.name, .slice a0 p.pre0.length c0, .slice a1 p.pre1.length c1, .slice am p.msgs.length cm] 28)) := (Bl.refl w).alloc _
  have HKP := Lib.hid (@kept_ok p)
  have cC := fun u w h => checkE_any u p w h _ rfl
  generalize (checkV p).2.2 = E at *
  go_enter Tryd.func6, Tryd.ntmps6
  go_wp2_with fail
  refine (cC _ _ (hv.bl H)).mono ?_
  rintro e w1 ⟨r1, r2, rfl, hb1⟩
  have x1 := x.bl hb1
  have H1 := H.trans hb1
  clear x H hb1 cC
  obtain ⟨g0, g1, g2, g3⟩ : _ ∧ _ ∧ _ ∧ _ := ⟨x1.cell 0 rfl, x1.cell 1 rfl, x1.cell 2 rfl, x1.cell 3 rfl⟩
  go_wp2_with fail
  refine (few_any _ p _ (hv.bl H1)).mono ?_
  rintro e w2 ⟨rfl, hb2⟩
  have x2 := x1.bl hb2
  have H2 := H1.trans hb2
  clear g0 g1 g2 g3 x1 H1 hb2
  cases hfp : fewB p
  · go_wp2_with fail
    refine (awake7_any w2 (hE.bl H2)).mono ?_
    rintro e w3 ⟨rfl, hb3⟩
    go_wp2
    go_ret
    exact ⟨rfl, H2.trans hb3⟩
  · clear hfp
    by_cases he : E = 0
    · subst he
      obtain ⟨hr, hkp⟩ := HKP.out (by trivial)
      have hsm := ((right_iff p).1 hr).small
      have hl6 := (right_parts hr).2.2.2.1
      have hl1 := (right_parts hr).2.2.1
      have HSM := Lib.hid hsm
      have HR := Lib.hid hr
      have HKT := Lib.hid hkp
      clear HKP hr hkp hsm
      obtain ⟨g0, g1, g2, g3⟩ : _ ∧ _ ∧ _ ∧ _ := ⟨x2.cell 0 rfl, x2.cell 1 rfl, x2.cell 2 rfl, x2.cell 3 rfl⟩
      go_wp2_with fail
      refine (of_any _ p _ (hv.bl H2)).mono ?_
      rintro e w3 ⟨u, rfl, hu, hb3⟩
      have hu0 := hu
      obtain ⟨u0, u1, um, rfl, _, i0, i1, im⟩ := hu
      obtain ⟨b0, d0, rfl⟩ := i0.form
      obtain ⟨b1, d1, rfl⟩ := i1.form
      obtain ⟨bm, dm, rfl⟩ := im.form
      clear i0 i1 im g0 g1 g2 g3
      have al : Bl w3 (w3.alloc (.cells #[.string p.name, .slice b0 p.pre0.length d0, .slice b1 p.pre1.length d1, .slice bm p.msgs.length dm] 40)) := (Bl.refl w3).alloc _
      have y3 := BoxAt.new w3 #[.string p.name, .slice b0 p.pre0.length d0, .slice b1 p.pre1.length d1, .slice bm p.msgs.length dm] 40
      have hu3 := hu0.bl al
      have x3 := (x2.bl hb3).bl al
      have H3 := (H2.trans hb3).trans al
      go_upto_region 5 with fail
      generalize hW3 : w3.alloc (.cells #[.string p.name, .slice b0 p.pre0.length d0, .slice b1 p.pre1.length d1, .slice bm p.msgs.length dm] 40) = W3 at *
      generalize w3.heap.size = B at *
      clear hW3 al x2 hb3 H2
      have q3 := x3.cell 3 rfl
      go_wp2_with fail
      clear q3
      go_loopw [29] (fun i wr => ∃ k : Nat, k ≤ p.msgs.length ∧ i = .int .i64 k ∧ BoxAt wr B [.string p.name, .slice b0 p.pre0.length d0, .slice b1 p.pre1.length d1, .slice bm p.msgs.length dm] 40 ∧ BoxAt wr w.heap.size [.string p.name, .slice a0 p.pre0.length c0, .slice a1 p.pre1.length c1, .slice am p.msgs.length cm] 28 ∧ Bl W3 wr ∧ Bl w wr) (fun i _ => p.msgs.length - (intOf i).toNat)
      case atStart => exact ⟨0, by omega, rfl, y3, x3, Bl.refl _, H3⟩
      case round =>
        obtain ⟨k, hk, rfl, yr, xr, H3r, Hr⟩ := hrel
        by_cases hkl : k < p.msgs.length
        · have dk : decide ((k : Int) < (p.msgs.length : Int)) = true := by simp; omega
          obtain ⟨bb, oo, uu, rfl, hc0, hc1, hu'⟩ := (hm.bl Hr).at k hkl
          obtain ⟨ua, uc, rfl⟩ := hu'.form
          obtain ⟨hs1, hs2⟩ := HKT.out.seals k hkl
          have hok := ((right_parts HR.out).2.2.2.2 p.msgs[k] (List.getElem_mem hkl)).1
          have HS1 := Lib.hid hs1
          have HS2 := Lib.hid hs2
          clear hs1 hs2 hu'
          generalize p.msgs[k].who = who at *
          generalize p.msgs[k].t.length = ll at *
          have al4 : Bl wr (wr.alloc (.cells #[.int .i64 who, .slice ua ll uc] 44)) := (Bl.refl wr).alloc _
          have z4 := BoxAt.new wr #[.int .i64 who, .slice ua ll uc] 44
          have y4 := yr.bl al4
          have x4 := xr.bl al4
          have H34 := H3r.trans al4
          have H4 := Hr.trans al4
          have hw1 : IntKind.i64.wrap ((k : Int) + 1) = ((k + 1 : Nat) : Int) := (IntWalk.i64_in _ (by omega)).trans (by omega)
          have cM := fun t u w h => met_any u p w h HSM.out 2 t ((k + 1 : Nat) : Int) 0 (by omega) (by omega)
          have cT := fun u w h => told_who u p w h HSM.out who k hok
          rw [show (((k + 1 : Nat) : Int)).toNat = k + 1 from rfl, show (0 : Int).toNat = 0 from rfl] at cM
          go_upto_region 8 with fail
          generalize wr.alloc (.cells #[.int .i64 who, .slice ua ll uc] 44) = W4 at *
          generalize wr.heap.size = BM at *
          clear yr xr H3r Hr al4 hc0 hc1
          obtain ⟨g0, g1, g2, g3⟩ : _ ∧ _ ∧ _ ∧ _ := ⟨y4.cell 0 rfl, y4.cell 1 rfl, y4.cell 2 rfl, y4.cell 3 rfl⟩
          have zw := z4.cell 0 rfl
          obtain ⟨st, hst⟩ : ∃ st : Int, st = if who = 1 then 4 else 5 := ⟨_, rfl⟩
          rw [← hst] at HS1
          have cS := fun u w h => cM st u w h
          have c3 := fun u w h => cM 3 u w h
          have c7 := fun u w h => cM 7 u w h
          clear cM
          generalize met1 (aheadL p (k + 1) 0) 2 st = ns at *
          generalize met1 (aheadL p (k + 1) 0) 2 3 = n3 at *
          generalize met1 (aheadL p (k + 1) 0) 2 7 = n7 at *
          generalize told1 p (aheadL p (k + 1) 0) who 1 = tw at *
          have HST := Lib.hid hst
          clear hst
          rcases hok with rfl | rfl
          all_goals
            have hst2 := HST.out
            simp at hst2
            subst hst2
            clear HST
            go_upto_region 11 with fail
            clear g0 g1 g2 g3 zw
            go_cut [49] from 37 to 49 (fun b wx => b = .bool false ∧ Bl W4 wx)
            case first =>
              obtain ⟨g0, g1, g2, g3⟩ : _ ∧ _ ∧ _ ∧ _ := ⟨y4.cell 0 rfl, y4.cell 1 rfl, y4.cell 2 rfl, y4.cell 3 rfl⟩
              go_wp2_with fail
              refine (cS _ _ (hu3.bl H34)).mono ?_
              rintro e w5 ⟨rfl, hb5⟩
              have y5 := y4.bl hb5
              have H35 := H34.trans hb5
              clear g0 g1 g2 g3
              obtain ⟨g0, g1, g2, g3⟩ : _ ∧ _ ∧ _ ∧ _ := ⟨y5.cell 0 rfl, y5.cell 1 rfl, y5.cell 2 rfl, y5.cell 3 rfl⟩
              by_cases hns : 0 < ns
              · have dns : decide ((0 : Int) < (ns : Int)) = true := by rw [decide_eq_true_eq]; omega
                have h3 := HS1.out hns
                have dn3 : ((n3 : Int) == 0) = false := by simp; omega
                go_wp2_with fail
                refine (c3 _ _ (hu3.bl H35)).mono ?_
                rintro e w6 ⟨rfl, hb6⟩
                go_wp2_with fail
                go_meet
                exact ⟨rfl, hb5.trans hb6⟩
              · have dns : decide ((0 : Int) < (ns : Int)) = false := by rw [decide_eq_false_iff_not]; omega
                go_wp2_with fail
                go_meet
                exact ⟨rfl, hb5⟩
            case rest =>
              obtain ⟨rfl, hb6⟩ := hcut
              have y6 := y4.bl hb6
              have x6 := x4.bl hb6
              have z6 := z4.bl hb6
              have H36 := H34.trans hb6
              have H6 := H4.trans hb6
              clear y4 x4 z4 H34 H4 hb6 c3 cS
              obtain ⟨g0, g1, g2, g3⟩ : _ ∧ _ ∧ _ ∧ _ := ⟨y6.cell 0 rfl, y6.cell 1 rfl, y6.cell 2 rfl, y6.cell 3 rfl⟩
              have zw := z6.cell 0 rfl
              go_wp2_with fail
              refine (c7 _ _ (hu3.bl H36)).mono ?_
              rintro e w7 ⟨rfl, hb7⟩
              have y7 := y6.bl hb7
              have x7 := x6.bl hb7
              have z7 := z6.bl hb7
              have H37 := H36.trans hb7
              have H7 := H6.trans hb7
              clear g0 g1 g2 g3 zw y6 x6 z6 H36 H6 hb7 c7
              obtain ⟨g0, g1, g2, g3⟩ : _ ∧ _ ∧ _ ∧ _ := ⟨y7.cell 0 rfl, y7.cell 1 rfl, y7.cell 2 rfl, y7.cell 3 rfl⟩
              have zw := z7.cell 0 rfl
              by_cases hn7 : 0 < n7
              · have dn7 : decide ((0 : Int) < (n7 : Int)) = true := by rw [decide_eq_true_eq]; omega
                have ht := HS2.out hn7
                subst ht
                go_wp2_with fail
                refine (cT _ _ (hu3.bl H37)).mono ?_
                rintro e w8 ⟨rfl, hb8⟩
                go_wp2_with fail
                go_roundw
                case rel => exact ⟨k + 1, by omega, by go_num, y7.bl hb8, x7.bl hb8, H37.trans hb8, H7.trans hb8⟩
                case measure => simp [intOf]; omega
              · have dn7 : decide ((0 : Int) < (n7 : Int)) = false := by rw [decide_eq_false_iff_not]; omega
                go_wp2_with fail
                go_roundw
                case rel => exact ⟨k + 1, by omega, by go_num, y7, x7, H37, H7⟩
                case measure => simp [intOf]; omega
        · have dk : decide ((k : Int) < (p.msgs.length : Int)) = false := by simp; omega
          go_wp2_with fail
          refine (awake7_any wr (hE.bl Hr)).mono ?_
          rintro e w4 ⟨rfl, hb4⟩
          go_wp2
          go_ret
          exact ⟨rfl, Hr.trans hb4⟩
    · have de : (E != 0) = true := by simpa using he
      go_wp2_with fail
      refine (awake7_any w2 (hE.bl H2)).mono ?_
      rintro e w3 ⟨rfl, hb3⟩
      go_wp2
      go_ret
      exact ⟨rfl, H2.trans hb3⟩
end Go.Proofs.YtffibiigoikmdaaDoor

set_option linter.unusedSimpArgs false
set_option linter.unusedVariables false
namespace Go.Proofs.YtffibiigoikmdaaDoor.fnValidSeals
open Go.ChangeShapes Go.WideShapes Go.ChangeAt Go.RowKit Go.ChangeMaps

set_option maxRecDepth 100000 in
theorem contract (H : Type) (enc : TypeId × Value → H) (W : World) (base : Nat) (args : Array Value) (ds gs : List (DataW H)) (before : List MemPlace)
    (hval : ∀ (j : Nat) t v, Tryd.f6.params[j]? = some t → args[j]? = some v → Value.okWide Tryd.prog W .any base t v)
    (hW : DataW.Whole enc Tryd.prog Tryd.f6.params.toList Rows.validSealsSpec.vars false W args.toList ds gs before)
    (hsz : (DataW.weightsEach Tryd.prog (Tryd.f6.params.toList ++ (OpenSpec.ofChange Rows.validSealsSpec).bare.plain.varTypes Tryd.prog) (ds ++ gs)).all (· ≤ reachBytes) = true) (hE : Env W) :
    Calls Tryd.prog 6 args W fun e W' => ∃ v, e = .returned v ∧ Rows.validSealsSpec.post enc Tryd.prog Tryd.f6 false true false false W args v W' := by
  have hW' := hW
  obtain ⟨p, q, hA0, hV, rfl, hfz, hnd⟩ := hW
  have hA : DataW.TrodAll enc Tryd.prog W 0 (fun _ => true) true Tryd.f6.params.toList args.toList ds p := hA0
  rw [Tryd.params6] at hA hval hsz
  obtain ⟨v0, vs0, d0, ds0, p0, q0, hargs0, rfl, rfl, h0, r0⟩ := trodAll_cons hA
  obtain ⟨rfl, rfl, rfl⟩ := trodAll_nil r0
  obtain rfl : args = #[v0] := by cases args; simp_all
  obtain ⟨rfl, rfl⟩ := trodVars_none hV
  have hz0 : within d0 28 := fun k hk => by
    have := List.all_eq_true.1 hsz k (DataW.weights_mem_each (j := 0) (t := 28) (d := d0) rfl rfl k hk)
    exact of_decide_eq_true this
  obtain ⟨x0, hx0⟩ := open_pat (hval 0 28 v0 rfl rfl) h0 hz0
  clear hA0 hsz hval
  refine (validSeals_any v0 x0 W hE hx0).mono fun e W' ⟨he, hb⟩ => ?_
  subst he
  exact ⟨_, rfl, post_of_below (pv := []) hW' (fun _ _ _ => trodAll_cons_mk (shut_bool Tryd.underlying4 _) trodAll_mk0) (trodAll_cons_mk (Below.trod laidOut (by kernel_rfl) (of_decide_eq_true (by kernel_rfl)) h0 hb (fun x hx => by simpa using hW'.lt x (by simp [hx]))) trodAll_mk0) rfl (by simp) hb⟩

theorem laid_met (os : Os) : laidMet Tryd.prog Rows.validSealsRow.laid ((laidWorldN os).forCall (fun _ _ => 0) ⟨#[], #[.agg #[.string ⟨#[]⟩, .slice none 0 0, .slice none 0 0, .slice none 0 0]], []⟩).memory :=
  laidMet_of_run' 12 (by kernel_rfl) (by kernel_rfl)
theorem reads (os : Os) {H : Type} (enc : TypeId × Value → H) : ∃ places, DataW.whole enc Tryd.prog ((laidWorldN os).forCall (fun _ _ => 0) ⟨#[], #[.agg #[.string ⟨#[]⟩, .slice none 0 0, .slice none 0 0, .slice none 0 0]], []⟩).memory Tryd.f6.params.toList Rows.validSealsSpec.vars false (#[Value.agg #[.string ⟨#[]⟩, .slice none 0 0, .slice none 0 0, .slice none 0 0]] : Array Value).toList 8 = some ([.agg [.lit (.string []), .agg [.nil, .nil], .nil]], [], places) :=
  ⟨[], by kernel_rfl⟩

set_option maxRecDepth 100000 in
theorem lifted (os : Os) (started : os.Started) (H : Type) (enc : TypeId × Value → H) (F : Stop.Interp) :
    ReturnsInHanded {} Tryd.checked os 6 .any ((OpenSpec.ofChange Rows.validSealsSpec).preRow enc Tryd.prog Tryd.f6 Rows.validSealsRow.domain false Rows.validSealsRow.laid) (((OpenSpec.ofChange Rows.validSealsSpec).at F).post enc Tryd.prog Tryd.f6 false true false false) := by
  obtain ⟨places, hx⟩ := reads os enc
  refine returnsInHanded_of_row (C := Tryd.checked) (s := OpenSpec.ofChange Rows.validSealsSpec) own started (by kernel_rfl) Tryd.func6
    (witness_row_atRef (enc := enc) (C := Tryd.checked) false (laidWorldN os) #[.agg #[.string ⟨#[]⟩, .slice none 0 0, .slice none 0 0, .slice none 0 0]] rfl (by kernel_rfl) (by kernel_rfl) (by kernel_rfl)
      (OpenSpec.preRow_of_cond 8 hx (by kernel_rfl) (fun k hk => by cases hk) (by kernel_rfl) (laid_met os))) ?_
  intro W base args ds gs before hval hW _ _ hsz hL hE _
  exact contract H enc W base args ds gs before hval hW hsz (envU_of hE hL (by unfold Rows.validSealsRow; simp) (by unfold Rows.validSealsRow; simp) (by unfold Rows.validSealsRow; simp))

theorem said : Rows.ValidSealsSaid :=
  OpenClaim.holds_of_cond 6 Tryd.f6 rfl rfl rfl rfl rfl rfl rfl ⟨rfl, rfl, rfl, rfl, rfl⟩ rfl rfl rfl rfl rfl (by kernel_rfl) Tryd.func6 (by kernel_rfl)
    (of_decide_eq_true (by kernel_rfl)) (by unfold Func.isWrapper; first | (rw [if_pos (by decide +kernel)]; kernel_rfl) | (rw [if_neg (by decide +kernel)]; exact ⟨rfl, rfl⟩))
    (fun os started H enc _ F => by rw [OpenClaim.pre_eq_preRow]; exact lifted os started H enc F)

theorem plain (f : FuncId) (fn : Func) (hf : Tryd.pinned.checked.prog.funcNamed "undertone/undertonelaw07.ValidSeals" = some f) (hfn : Tryd.pinned.checked.prog.funcs[f]? = some fn) :
    false = Tryd.pinned.checked.prog.looks [] ∧ ∀ (j : Nat) t, fn.params[j]? = some t → Tryd.pinned.checked.prog.wantsStandIn t = false := by
  obtain rfl : f = 6 := Option.some.inj ((show Tryd.prog.funcNamed "undertone/undertonelaw07.ValidSeals" = some 6 by kernel_rfl).symm.trans hf) |>.symm
  obtain rfl : fn = Tryd.f6 := (Option.some.inj (Tryd.func6.symm.trans hfn)).symm
  refine ⟨by kernel_rfl, fun j t ht => ?_⟩
  rw [Tryd.params6] at ht
  obtain rfl : t = 28 := by simpa using Array.mem_of_getElem? ht
  exact (show Tryd.prog.wantsStandIn 28 = false by kernel_rfl)

theorem card : Rows.ValidSealsCardSaid :=
  Claim7.holds_tied_plain_at .later [] _ _ _ _ said (fun _ h => by cases h) (by kernel_rfl) (fun _ h => by cases h) validSeals_row_tie rfl ⟨rfl, rfl⟩ (by kernel_rfl) rfl plain (by kernel_rfl)
end Go.Proofs.YtffibiigoikmdaaDoor.fnValidSeals
