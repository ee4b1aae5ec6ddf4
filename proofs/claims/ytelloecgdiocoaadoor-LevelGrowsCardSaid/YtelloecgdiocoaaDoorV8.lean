/- Walks: valid's begin. -/
import Derived.Test.YtelloecgdiocoaaDoorV7
import Derived.Test.YtelloecgdiocoaaDoorW4
import Derived.Test.YtelloecgdiocoaaDoorW11
import Derived.Test.YtelloecgdiocoaaDoorLib
set_option linter.unusedSimpArgs false
set_option linter.unusedVariables false
namespace Go.Proofs.YtelloecgdiocoaaDoor
open Go.RowKit Go.Sort

theorem cell_ob {w w' : World} {b o B : Nat} {x : Value} {s : St} {T : TypeId} (h : w.cell? ⟨b, o, none⟩ = some x) (hx : ∀ c, x ≠ .bool c) (hb : BoxAt w B (stV s) T) (k : OB B w w') : w'.cell? ⟨b, o, none⟩ = some x := by
  have hlt := lt_of_cell h
  have hne : b ≠ B := by
    rintro rfl
    unfold BoxAt at hb
    simp only [World.cell?, hb] at h
    have h' : (stV s)[o]? = some x := by simpa using h
    have := List.mem_of_getElem? h'
    simp only [stV, List.mem_cons, List.not_mem_nil, or_false] at this
    rcases this with h | h | h | h | h | h | h | h | h | h | h | h | h | h | h | h <;> exact hx _ h
  have := k.same b hlt hne
  simp only [World.cell?, this] at h ⊢
  exact h
theorem SM.ob {w w' : World} {v : Value} {l : List Msg} {B : Nat} {s : St} {T : TypeId} (h : SM w v l) (hb : BoxAt w B (stV s) T) (k : OB B w w') : SM w' v l := by
  obtain ⟨a, c, rfl, hl, hc⟩ := h
  refine ⟨a, c, rfl, hl, fun j hj => ?_⟩
  obtain ⟨b, o, u, e, h1, h2, h3⟩ := hc j hj
  refine ⟨b, o, u, e, cell_ob h1 (fun c => by simp) hb k, cell_ob h2 (fun c => ?_) hb k, h3.ob hb k⟩
  obtain ⟨a', c', hu⟩ := h3.form
  rw [hu]
  simp

theorem infoSt : (Tryd.prog.info? 106).map (·.size) = some 16 := by kernel_rfl

theorem stV_one (s : St) : (stV s).toArray.all (·.oneCell') = true := by
  simp [stV, Value.oneCell']

theorem Bl.setRow {w w1 : World} (h : Bl w w1) {B : Nat} (hB : w.heap.size ≤ B) (cs : Array Value) : Bl w (w1.setRow B cs) :=
  ⟨h.os, h.tape, h.output, by simpa using h.size, fun b hb => (setRow_other w1 B b cs (by omega)).trans (h.block b hb)⟩

def has7 (m : Msg) : Bool := m.t.contains 7
set_option maxHeartbeats 400000 in
theorem begin1_any (m : Msg) (v : Value) (w : World) (hv : SI w v m.t) :
    Calls Tryd.prog 93 #[.agg #[.int .i64 m.who, v]] w fun e w' => e = .returned (.bool (has7 m)) ∧ Bl w w' := by
  obtain ⟨who, l⟩ := m
  simp only at hv
  have hv0 := hv
  obtain ⟨a, c, rfl⟩ := hv.form
  go_enter Tryd.func93, Tryd.ntmps93
  go_wp2_with fail
  refine (containsI_any _ l 7 _ (hv0.bl ((Bl.refl w).alloc _))).mono ?_
  rintro e w1 ⟨rfl, rfl⟩
  go_wp2
  go_ret
  exact ⟨ret_bool (by simp [has7]), (Bl.refl _).alloc _⟩
theorem begin1_pays (w : World) : PaysM 93 #[] has7 w := by
  refine ⟨fun args W => ?_, fun m v W _ hv => by simpa using begin1_any m v W hv⟩
  go_simp

def st0 : St := ⟨false, false, false, false, false, false, false, false, false, false, false, false, false, false, false, false⟩
def foldP (who : Int) (s : St) (l : List Int) : St := l.foldl (fun s t => hasSet s who t) s
def preN (p : Pat) : Nat → St
  | 0 => st0
  | 1 => foldP 0 st0 p.pre0
  | _ => foldP 1 (foldP 0 st0 p.pre0) p.pre1
theorem foldP_snoc (who : Int) (s : St) (l : List Int) (k : Nat) (hk : k < l.length) : foldP who s (l.take (k + 1)) = hasSet (foldP who s (l.take k)) who l[k] := by
  unfold foldP
  rw [List.take_succ_eq_append_getElem hk, List.foldl_append]
  rfl
theorem told_four {l : List Int} (h : toldB l = true) : l = [] ∨ l = [1] ∨ l = [2] ∨ l = [1, 2] := by
  simp only [toldB, Bool.or_eq_true, decide_eq_true_eq] at h
  rcases h with ((h | h) | h) | h
  · exact .inl h
  · exact .inr (.inl h)
  · exact .inr (.inr (.inl h))
  · exact .inr (.inr (.inr h))
theorem begin_eq (p : Pat) (h0 : toldB p.pre0 = true) (h1 : toldB p.pre1 = true) : beginS p = { preN p 2 with mode := p.msgs.any has7, keyed := p.msgs.any has7 && ((preN p 2).e0 || (preN p 2).e1) } := by
  obtain ⟨name, pre0, pre1, ms⟩ := p
  simp only at h0 h1
  unfold beginS preN
  rcases told_four h0 with rfl | rfl | rfl | rfl <;> rcases told_four h1 with rfl | rfl | rfl | rfl <;> rfl

set_option maxRecDepth 100000 in
set_option maxHeartbeats 4000000 in
theorem begin_any (v : Value) (p : Pat) (w : World) (h : SP w v p) (ht0 : toldB p.pre0 = true) (ht1 : toldB p.pre1 = true) :
    Calls Tryd.prog 73 #[v] w fun e w' => e = .returned (.agg (stV (beginS p)).toArray) ∧ Bl w w' := by
  have HB := Lib.hid (begin_eq p ht0 ht1)
  obtain ⟨name, pre0, pre1, ms⟩ := p
  obtain ⟨v0, v1, vm, rfl, hn, h0, h1, hm⟩ := h
  simp only at hn h0 h1 hm ht0 ht1
  have hl0 := told_small ht0
  have hl1 := told_small ht1
  have HT0 : Hid (∀ t ∈ pre0, t = 1 ∨ t = 2) := Lib.hid (by rcases told_four ht0 with rfl | rfl | rfl | rfl <;> simp)
  have HT1 : Hid (∀ t ∈ pre1, t = 1 ∨ t = 2) := Lib.hid (by rcases told_four ht1 with rfl | rfl | rfl | rfl <;> simp)
  clear ht0 ht1
  obtain ⟨a0, c0, rfl⟩ := h0.form
  obtain ⟨a1, c1, rfl⟩ := h1.form
  obtain ⟨am, cm, rfl⟩ := hm.form
  have hlm := hm.len
  have ix0 := preIdx0
  have ix1 := preIdx1
  go_enter Tryd.func73, Tryd.ntmps73
  have y := ((BoxAt.new w #[.string name, .slice a0 pre0.length c0, .slice a1 pre1.length c1, .slice am ms.length cm] 29).alloc (.cells #[.bool false, .bool false, .bool false, .bool false, .bool false, .bool false, .bool false, .bool false, .bool false, .bool false, .bool false, .bool false, .bool false, .bool false, .bool false, .bool false] 106)).alloc (.cells #[.bool false, .bool false, .bool false, .bool false, .bool false, .bool false, .bool false, .bool false, .bool false, .bool false, .bool false, .bool false, .bool false, .bool false, .bool false, .bool false] 106)
  have z := (BoxAt.new (w.alloc (.cells #[.string name, .slice a0 pre0.length c0, .slice a1 pre1.length c1, .slice am ms.length cm] 29)) #[.bool false, .bool false, .bool false, .bool false, .bool false, .bool false, .bool false, .bool false, .bool false, .bool false, .bool false, .bool false, .bool false, .bool false, .bool false, .bool false] 106).alloc (.cells #[.bool false, .bool false, .bool false, .bool false, .bool false, .bool false, .bool false, .bool false, .bool false, .bool false, .bool false, .bool false, .bool false, .bool false, .bool false, .bool false] 106)
  have x := BoxAt.new ((w.alloc (.cells #[.string name, .slice a0 pre0.length c0, .slice a1 pre1.length c1, .slice am ms.length cm] 29)).alloc (.cells #[.bool false, .bool false, .bool false, .bool false, .bool false, .bool false, .bool false, .bool false, .bool false, .bool false, .bool false, .bool false, .bool false, .bool false, .bool false, .bool false] 106)) #[.bool false, .bool false, .bool false, .bool false, .bool false, .bool false, .bool false, .bool false, .bool false, .bool false, .bool false, .bool false, .bool false, .bool false, .bool false, .bool false] 106
  have H : Bl w (((w.alloc (.cells #[.string name, .slice a0 pre0.length c0, .slice a1 pre1.length c1, .slice am ms.length cm] 29)).alloc (.cells #[.bool false, .bool false, .bool false, .bool false, .bool false, .bool false, .bool false, .bool false, .bool false, .bool false, .bool false, .bool false, .bool false, .bool false, .bool false, .bool false] 106)).alloc (.cells #[.bool false, .bool false, .bool false, .bool false, .bool false, .bool false, .bool false, .bool false, .bool false, .bool false, .bool false, .bool false, .bool false, .bool false, .bool false, .bool false] 106)) := (((Bl.refl w).alloc _).alloc _).alloc _
  simp only [size_alloc] at x z
  go_wp2
  generalize ((w.alloc (.cells #[.string name, .slice a0 pre0.length c0, .slice a1 pre1.length c1, .slice am ms.length cm] 29)).alloc (.cells #[.bool false, .bool false, .bool false, .bool false, .bool false, .bool false, .bool false, .bool false, .bool false, .bool false, .bool false, .bool false, .bool false, .bool false, .bool false, .bool false] 106)).alloc (.cells #[.bool false, .bool false, .bool false, .bool false, .bool false, .bool false, .bool false, .bool false, .bool false, .bool false, .bool false, .bool false, .bool false, .bool false, .bool false, .bool false] 106) = W at x y z H ⊢
  have x0 : BoxAt W (w.heap.size + 1 + 1) (stV st0) 106 := x
  clear x
  have hltW := x0.lt
  generalize hB1 : w.heap.size + 1 = B1 at *
  generalize hB2 : B1 + 1 = B2 at *
  have hne1 : w.heap.size ≠ B2 := by omega
  have hne2 : B1 ≠ B2 := by omega
  have hle2 : w.heap.size ≤ B2 := by omega
  have hlt1B : w.heap.size < B1 := by omega
  clear hB1 hB2
  have H0w := h0.bl H
  have H1w := h1.bl H
  have Hmw := hm.bl H
  go_loopw [10] (fun i wr => ∃ (k : Nat), k ≤ 2 ∧ i = .int .i64 k ∧ BoxAt wr B2 (stV (preN ⟨name, pre0, pre1, ms⟩ k)) 106 ∧ OB B2 W wr) (fun i _ => 2 - (intOf i).toNat)
  case atStart => exact ⟨0, by omega, rfl, x0, OB.refl _ _⟩
  case round =>
    obtain ⟨k, hk, rfl, xr, hor⟩ := hrel
    by_cases hk2 : k < 2
    · have ⟨ak, lk, ck, HLK, hsk, hlk, HTK, hix⟩ : ∃ (ak : Option Addr) (lk : List Int) (ck : Nat), Hid (preN ⟨name, pre0, pre1, ms⟩ (k + 1) = foldP k (preN ⟨name, pre0, pre1, ms⟩ k) lk) ∧ SI wr (.slice ak lk.length ck) lk ∧ lk.length ≤ 2 ∧ Hid (∀ t ∈ lk, t = 1 ∨ t = 2) ∧
          ∀ w : World, (Instr.index 26 (.agg #[.slice a0 pre0.length c0, .slice a1 pre1.length c1]) (.int .i64 k)).run Tryd.prog w = .ok (.slice ak lk.length ck) w := by
        rcases (show k = 0 ∨ k = 1 by omega) with rfl | rfl
        · exact ⟨a0, pre0, c0, Lib.hid rfl, H0w.ob x0 hor, hl0, HT0, fun w => ix0 _ _ w⟩
        · exact ⟨a1, pre1, c1, Lib.hid rfl, H1w.ob x0 hor, hl1, HT1, fun w => ix1 _ _ w⟩
      have hk01 : k = 0 ∨ k = 1 := by omega
      have HLEN := Lib.hid hlk
      generalize hsn : preN ⟨name, pre0, pre1, ms⟩ k = sn at *
      clear hsn
      go_wp2
      obtain ⟨wo, hwo⟩ : ∃ wo : World, wo = wr := ⟨_, rfl⟩
      go_loopw [16] (fun i wq => ∃ (j : Nat), j ≤ lk.length ∧ i = .int .i64 j ∧ BoxAt wq B2 (stV (foldP k sn (lk.take j))) 106 ∧ OB B2 W wq ∧ SI wq (.slice ak lk.length ck) lk) (fun i _ => lk.length - (intOf i).toNat)
      case atStart => exact ⟨0, by omega, rfl, xr, hor, hsk⟩
      case round =>
        obtain ⟨j, hj, rfl, xq, hoq, hsq⟩ := hrel
        by_cases hjn : j < lk.length
        · obtain ⟨_, _, e, _, hc⟩ := id hsq
          injection e with e1 e2 e3
          subst e1 e3
          clear e2
          obtain ⟨b, o, rfl, hca⟩ := hc j hjn
          clear hc
          have HS := Lib.hid (foldP_snoc k sn lk j hjn)
          have ht := HTK.out lk[j] (List.getElem_mem hjn)
          generalize lk[j] = t at *
          generalize hsj : foldP k sn (lk.take j) = sj at *
          clear hsj
          have hltq := xq.lt
          have HQ : ∀ (i : Nat) (x : Value) , OB B2 W (wr.setCell ⟨B2, i, none⟩ x) := fun i x => hoq.set i x
          rcases hk01 with rfl | rfl <;> rcases ht with rfl | rfl
          · have c1 := xq.cell 1 rfl
            have f1 := xq.free 1
            go_wp2
            go_roundw
            case rel => exact ⟨j + 1, by omega, by go_num, by rw [HS.out]; exact xq.set 1 (.bool true), hoq.set 1 _, hsq.ob xq ((OB.refl B2 _).set 1 _)⟩
            case measure => simp [intOf]; omega
          · have c1 := xq.cell 2 rfl
            have f1 := xq.free 2
            go_wp2
            go_roundw
            case rel => exact ⟨j + 1, by omega, by go_num, by rw [HS.out]; exact xq.set 2 (.bool true), hoq.set 2 _, hsq.ob xq ((OB.refl B2 _).set 2 _)⟩
            case measure => simp [intOf]; omega
          · have c1 := xq.cell 4 rfl
            have f1 := xq.free 4
            go_wp2
            go_roundw
            case rel => exact ⟨j + 1, by omega, by go_num, by rw [HS.out]; exact xq.set 4 (.bool true), hoq.set 4 _, hsq.ob xq ((OB.refl B2 _).set 4 _)⟩
            case measure => simp [intOf]; omega
          · have c1 := xq.cell 5 rfl
            have f1 := xq.free 5
            go_wp2
            go_roundw
            case rel => exact ⟨j + 1, by omega, by go_num, by rw [HS.out]; exact xq.set 5 (.bool true), hoq.set 5 _, hsq.ob xq ((OB.refl B2 _).set 5 _)⟩
            case measure => simp [intOf]; omega
        · have HE : Hid (preN ⟨name, pre0, pre1, ms⟩ (k + 1) = foldP k sn (lk.take j)) := Lib.hid (by rw [HLK.out, List.take_of_length_le (by omega)])
          go_wp2
          go_roundw
          case rel => exact ⟨k + 1, by omega, by go_num, by rw [HE.out]; exact xq, hoq⟩
          case measure => simp [intOf]; omega
    · obtain rfl : k = 2 := by omega
      have Hmr := Hmw.ob x0 hor
      have yr := y.ob hor hne1
      have zr := z.ob hor hne2
      have hltr := xr.lt
      generalize hsn : preN ⟨name, pre0, pre1, ms⟩ 2 = sn at *
      have HSN := Lib.hid hsn
      clear hsn
      obtain ⟨y0, y1, y2, y3⟩ : _ ∧ _ ∧ _ ∧ _ := ⟨yr.cell 0 rfl, yr.cell 1 rfl, yr.cell 2 rfl, yr.cell 3 rfl⟩
      have g14 := xr.cell 14 rfl
      have f14 := xr.free 14
      go_wp2_with fail
      refine (containsFuncM_any _ _ has7 _ ms wr Hmr (begin1_pays _)).mono ?_
      rintro e w1 ⟨rfl, hb1⟩
      have x1 := xr.bl hb1
      have z1 := zr.bl hb1
      have ho1 : OB B2 W w1 := hor.trans (OB.ofBl hb1 hltr)
      have g14 := x1.cell 14 rfl
      have f14 := x1.free 14
      have hlt1 := x1.lt
      generalize hmode : ms.any has7 = mode at *
      have HMODE := Lib.hid hmode
      clear hmode
      obtain ⟨z0, e0, s0, z1', e1, s1, m0, m1, m2, m3, m4, m5, m6, m7, mode0, keyed0⟩ := sn
      have x2 := x1.set 14 (.bool mode)
      have z2 := z1.other (a := ⟨B2, 14, none⟩) hne2 (.bool mode)
      have ho2 := ho1.set 14 (.bool mode)
      have k1 := x1.cell 1 rfl
      have k4 := x1.cell 4 rfl
      have f15 := x1.free 15
      have k15 := x1.cell 15 rfl
      have HF := ho2
      go_upto_region 12 with fail
      go_cut [44] from 31 to 45 (fun p wx => BoxAt wx B2 (stV ⟨z0, e0, s0, z1', e1, s1, m0, m1, m2, m3, m4, m5, m6, m7, mode, mode && (e0 || e1)⟩) 106 ∧ BoxAt wx B1 [.bool false, .bool false, .bool false, .bool false, .bool false, .bool false, .bool false, .bool false, .bool false, .bool false, .bool false, .bool false, .bool false, .bool false, .bool false, .bool false] 106 ∧ OB B2 W wx)
      case first =>
        cases mode
        · go_wp2
          go_meet
          exact ⟨x2.set 15 (.bool false), z2.other hne2 _, ho2.set 15 _⟩
        · cases e0
          · cases e1
            · go_wp2
              go_meet
              exact ⟨x2.set 15 (.bool false), z2.other hne2 _, ho2.set 15 _⟩
            · go_wp2
              go_meet
              exact ⟨x2.set 15 (.bool true), z2.other hne2 _, ho2.set 15 _⟩
          · go_wp2
            go_meet
            exact ⟨x2.set 15 (.bool true), z2.other hne2 _, ho2.set 15 _⟩
      case rest =>
        obtain ⟨x3, z3, ho3⟩ := hcut
        go_wp2_with (first | (refine wpList_load_row rfl 106 (.tmp 3) (by rfl) B2 (by rfl) 106 _ (0, 0) _ x3 Tryd.underlying106 (by rfl) (by exact infoSt) ?_) | (refine wpList_store_row rfl 106 (.tmp 2) (.tmp 46) (by rfl) B1 _ (by rfl) (by rfl) 106 _ z3 (by exact infoSt) (by rfl) (stV_one _) ?_))
        have hbl : Bl w wc := Below.trans H (Below.mono ho3.below hle2)
        refine bodyPost_ret (v := .agg (stV ⟨z0, e0, s0, z1', e1, s1, m0, m1, m2, m3, m4, m5, m6, m7, mode, mode && (e0 || e1)⟩).toArray) (results_cell_row (by rfl) _ _ B1 106 _ (0, 0) _ (by rfl) (setRow_heap _ _ _ _ _ _ z3) Tryd.underlying106 (by rfl) (by exact infoSt)) rfl ⟨?_, Bl.setRow hbl (Nat.le_of_lt hlt1B) _⟩
        rw [HB.out]
end Go.Proofs.YtelloecgdiocoaaDoor
