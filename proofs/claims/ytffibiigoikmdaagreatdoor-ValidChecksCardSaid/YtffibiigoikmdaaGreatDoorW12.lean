/- Walks: token.row. -/
import Derived.Test.YtffibiigoikmdaaGreatDoorW11
import Derived.Test.YtffibiigoikmdaaGreatDoorOwn2
set_option linter.unusedSimpArgs false
set_option linter.unusedVariables false
namespace Go.Proofs.YtffibiigoikmdaaGreatDoor
open Go.RowKit Go.Sort

def namesL : List ByteArray := [⟨#[63]⟩, ⟨#[101]⟩, ⟨#[115]⟩, ⟨#[101, 101]⟩, ⟨#[101, 115]⟩, ⟨#[115, 101]⟩, ⟨#[115, 115]⟩, ⟨#[112, 115, 107]⟩]
def arrowsL : List ByteArray := [⟨#[45, 62]⟩, ⟨#[60, 45]⟩]
def baL (l : List UInt8) : ByteArray := ⟨l.toArray⟩
def cutA (s : ByteArray) : ByteArray := baL (Lib.cut s.data.toList (ByteArray.data ⟨#[32]⟩).toList).1
def cutB (s : ByteArray) : ByteArray := baL (Lib.cut s.data.toList (ByteArray.data ⟨#[32]⟩).toList).2.1
def cutC (s : ByteArray) : Bool := (Lib.cut s.data.toList (ByteArray.data ⟨#[32]⟩).toList).2.2
def wordsT (s : ByteArray) : List ByteArray := splitS (cutB s) ⟨#[44, 32]⟩
def whoT (s : ByteArray) : Int := Lib.idxOfS arrowsL (cutA s)
def tokI (x : ByteArray) : Int := Lib.idxOfS namesL x
theorem whoT_cases (s : ByteArray) : whoT s = -1 ∨ whoT s = 0 ∨ whoT s = 1 := by
  unfold whoT arrowsL Lib.idxOfS
  simp only [Lib.idxFromS]
  repeat' split
  all_goals simp
def rowM (s : ByteArray) : Msg := ⟨whoT s, (wordsT s).map tokI⟩
def low (t : Int) : Bool := decide (t < 1)
def rowB (s : ByteArray) : Bool := decide (0 ≤ (rowM s).who) && !(rowM s).t.any low

set_option maxHeartbeats 400000 in
theorem row1_any (t : Int) (w : World) : Calls Tryz.prog 51 #[.int .i64 t] w fun e w' => e = .returned (.bool (low t)) ∧ Bl w w' := by
  go_enter Tryz.func51, Tryz.ntmps51
  go_wp2
  all_goals (go_ret; exact ⟨rfl, Bl.refl _⟩)
theorem row1_pays (w : World) : Pays 51 #[] low w := by
  refine ⟨fun args W => ?_, fun x W _ => by simpa using row1_any x W⟩
  go_simp
theorem infoInt : (Tryz.prog.info? 3).map (fun i => (i.zero, i.size, i.bytes)) = some (some (.int .i64 0), 1, 8) := by kernel_rfl

theorem cutB_size (s : ByteArray) : (cutB s).size ≤ s.size := by
  unfold cutB baL Lib.cut
  have : s.data.toList.length = s.size := rfl
  split
  · show (List.drop _ _).toArray.size ≤ _
    simp only [List.size_toArray, List.length_drop]; omega
  · show (0 : Nat) ≤ _; omega

theorem cutSp_any (s : ByteArray) (w : World) (h : w.ShapedOpen Tryz.prog) (hs : s.size ≤ 100000) :
    Calls Tryz.prog 49 #[.string s, .string ⟨#[32]⟩] w fun e w' => e = .returned (.tuple #[.string (cutA s), .string (cutB s), .bool (cutC s)]) ∧ Dr w w' := cut_any s ⟨#[32]⟩ w h (by omega)
theorem splitC_any (s : ByteArray) (w : World) (h : w.ShapedOpen Tryz.prog) (hs : (cutB s).size ≤ 100000) :
    Calls Tryz.prog 21 #[.string (cutB s), .string ⟨#[44, 32]⟩] w fun e w' => ∃ v, e = .returned v ∧ SS w' v (wordsT s) ∧ Bl w w' := split_any (cutB s) ⟨#[44, 32]⟩ w h (by omega) (by decide)
theorem idxArrow_any (s : ByteArray) (w : World) :
    Calls Tryz.prog 48 #[.slice (some ⟨w.heap.size, 0, none⟩) 2 2, .string (cutA s)] (w.alloc (.cells #[.string ⟨#[45, 62]⟩, .string ⟨#[60, 45]⟩] 9)) fun e w' => e = .returned (.int .i64 (whoT s)) ∧ w.alloc (.cells #[.string ⟨#[45, 62]⟩, .string ⟨#[60, 45]⟩] 9) = w' :=
  indexS_any _ arrowsL (cutA s) _ (SS.ofCells w arrowsL _ (by decide))
theorem idxTok_any (v : Value) (x : ByteArray) (w : World) (h : SS w v namesL) :
    Calls Tryz.prog 48 #[v, .string x] w fun e w' => e = .returned (.int .i64 (tokI x)) ∧ w = w' := indexS_any v namesL x w h
def toksV (l : List ByteArray) : List Value := (l.map tokI).map (Value.int .i64)
theorem toksV_snoc (l : List ByteArray) (k : Nat) (hk : k < l.length) : toksV (l.take (k + 1)) = toksV (l.take k) ++ [.int .i64 (tokI l[k])] := by
  unfold toksV
  rw [List.take_succ_eq_append_getElem hk, List.map_append, List.map_append]; rfl

theorem own_len {w : World} {base : Nat} {e : TypeId} {v : Value} {n : Nat} {l : List Int} (h : w.ownsRow base e 1 v n (l.map (Value.int .i64))) : w.ownsRow base e 1 v l.length (l.map (Value.int .i64)) := by
  have : l.length = n := by have := h.1; simpa using this
  rw [this]; exact h

set_option maxRecDepth 100000 in
set_option maxHeartbeats 4000000 in
theorem row_any (s : ByteArray) (w : World) (hE : w.ShapedOpen Tryz.prog) (hs : s.size ≤ 100000) :
    Calls Tryz.prog 24 #[.string s] w fun e w' => ∃ u, e = .returned (.tuple #[.agg #[.int .i64 (rowM s).who, u], .bool (rowB s)]) ∧ w'.ownsRow w.heap.size 3 1 u (rowM s).t.length ((rowM s).t.map (Value.int .i64)) ∧ (rowM s).t.length ≤ 200000 ∧ Bl w w' := by
  obtain ⟨i0, hi, hz0, hz1, hz2⟩ := info_parts infoInt
  have hcs := cutB_size s
  have hwl := splitS_len (cutB s) ⟨#[44, 32]⟩ (by decide)
  have HW := Lib.hid (show (wordsT s).length ≤ 100001 by unfold wordsT; omega)
  clear hwl
  go_enter Tryz.func24, Tryz.ntmps24
  go_wp2_with fail
  refine (cutSp_any s _ (shaped_bl hE ((Bl.refl _).alloc _)) (by omega)).mono ?_
  rintro e w1 ⟨rfl, hd1⟩
  have y2 := (BoxAt.new w #[.int .i64 0, .slice none 0 0] 39).bl hd1.bl
  have H : Bl w w1 := ((Bl.refl w).alloc _).trans hd1.bl
  clear hd1
  have hB2 : w.heap.size < w1.heap.size := y2.lt
  go_wp2_with fail
  refine (idxArrow_any s w1).mono ?_
  rintro e w2 ⟨rfl, rfl⟩
  go_wp2_with fail
  have y3 := BoxAt.new (w1.alloc (.cells #[.string ⟨#[45, 62]⟩, .string ⟨#[60, 45]⟩] 9)) #[.int .i64 (whoT s), .slice none 0 0] 39
  rw [size_alloc] at y3
  replace y2 := (y2.alloc (.cells #[.string ⟨#[45, 62]⟩, .string ⟨#[60, 45]⟩] 9)).alloc (.cells #[.int .i64 (whoT s), .slice none 0 0] 39)
  have H3 := (H.alloc (.cells #[.string ⟨#[45, 62]⟩, .string ⟨#[60, 45]⟩] 9)).alloc (.cells #[.int .i64 (whoT s), .slice none 0 0] 39)
  refine (splitC_any s _ (shaped_bl hE H3) (by omega)).mono ?_
  rintro e w3 ⟨v3, rfl, hss, hb3⟩
  replace y2 := y2.bl hb3
  replace y3 := y3.bl hb3
  replace H3 := H3.trans hb3
  have hle := y3.lt
  clear hb3 H
  generalize hB3 : w1.heap.size + 1 = B3 at y3 hle ⊢
  have hB3' : w.heap.size < B3 := by omega
  clear hB3 hB2
  generalize hWT : wordsT s = ws at *
  have HWT := Lib.hid hWT
  clear hWT
  obtain ⟨sa, sc, hv3⟩ := hss.form
  subst hv3
  go_wp2
  go_loopw [24] (fun i wr => ∃ (k : Nat) (v : Value), k ≤ ws.length ∧ i = .int .i64 k ∧ wr.ownsRow w3.heap.size 3 1 v k (toksV (ws.take k)) ∧
      BoxAt wr w.heap.size [.int .i64 0, .slice none 0 0] 39 ∧ BoxAt wr B3 [.int .i64 (whoT s), v] 39 ∧ SS wr (.slice sa ws.length sc) ws ∧ Bl w wr ∧ w3.heap.size ≤ wr.heap.size) (fun i _ => ws.length - (intOf i).toNat)
  case atStart => exact ⟨0, _, by omega, rfl, World.ownsRow_nil _ _ _ _, y2, y3, hss, H3, Nat.le_refl _⟩
  case round =>
    obtain ⟨k, v, hk, rfl, hown, z2, z3, hsw, hbr, hsz⟩ := hrel
    obtain ⟨oa, oc, hoe⟩ := own_form hown
    subst hoe
    by_cases hkn : k < ws.length
    · obtain ⟨_, _, e, _, hc⟩ := id hsw
      injection e with e1 e2 e3
      subst e1 e3
      clear e2
      obtain ⟨b, o, rfl, hca⟩ := hc k hkn
      clear hc
      generalize hx : ws[k] = x at *
      have HX := Lib.hid hx
      clear hx
      go_wp2_with fail
      refine (names_any _).mono ?_
      rintro e W1 ⟨rfl, hbn⟩
      unfold namesVal
      go_wp2_with fail
      have hsn : SS (W1.alloc (.cells #[.string ⟨#[63]⟩, .string ⟨#[101]⟩, .string ⟨#[115]⟩, .string ⟨#[101, 101]⟩, .string ⟨#[101, 115]⟩, .string ⟨#[115, 101]⟩, .string ⟨#[115, 115]⟩, .string ⟨#[112, 115, 107]⟩] 83)) (.slice (some ⟨W1.heap.size, 0, none⟩) 8 8) namesL := SS.ofCells W1 namesL _ (by decide)
      have hb2 : Bl wr (W1.alloc (.cells #[.string ⟨#[63]⟩, .string ⟨#[101]⟩, .string ⟨#[115]⟩, .string ⟨#[101, 101]⟩, .string ⟨#[101, 115]⟩, .string ⟨#[115, 101]⟩, .string ⟨#[115, 115]⟩, .string ⟨#[112, 115, 107]⟩] 83)) := hbn.alloc _
      generalize W1.alloc (.cells #[.string ⟨#[63]⟩, .string ⟨#[101]⟩, .string ⟨#[115]⟩, .string ⟨#[101, 101]⟩, .string ⟨#[101, 115]⟩, .string ⟨#[115, 101]⟩, .string ⟨#[115, 115]⟩, .string ⟨#[112, 115, 107]⟩] 83) = W2 at hsn hb2 ⊢
      generalize W1.heap.size = b8 at hsn ⊢
      replace hown := own_keep hown hb2
      replace z2 := z2.bl hb2
      replace z3 := z3.bl hb2
      replace hsw := hsw.bl hb2
      replace hbr := hbr.trans hb2
      replace hsz : w3.heap.size ≤ W2.heap.size := Nat.le_trans hsz hb2.size
      clear hb2 hbn hca
      have c31 := z3.cell 1 rfl
      have f31 := z3.free 1
      have hlt3 := z3.lt
      go_region_law (first | (refine step_append_own rfl (.tmp 30) (.tmp 34) 22 rfl w3.heap.size 3 i0 (.int .i64 0) 1 8 Tryz.underlying22 hi hz0 hz1 hz2 rfl (by decide) _ _ _ rfl (own_keep hown (((Bl.refl W2).alloc _).drew)) ⟨W2.heap.size, 0, none⟩ 1 1 [.int .i64 (tokI x)] rfl rfl (one_new_drew W2 _ _) (by intro u hu; simp at hu; subst hu; rfl) (by unfold maxLen; omega) (by omega) (by rw [size_alloc_drew]; omega) ?_; intro v' w4 hown4 hg4; obtain ⟨oa4, oc4, e4⟩ := own_form hown4; subst e4; have hb4 := after_append hown _ hg4 hsz; have z34 := z3.below hb4 hle; have c34 := z34.cell 1 rfl; have f34 := z34.free 1) | (go_simp; go_at_call 48; refine (idxTok_any _ x _ (hsn.bl (((Bl.refl W2)).drew))).mono ?_; rintro e w5 ⟨rfl, rfl⟩))
      all_goals
        have S4 := hss.keep hsw hb4
        have hs3 := H3.size
        have hs4 := hb4.size
        go_wp2
        go_roundw
        case rel => exact ⟨k + 1, _, by omega, by go_num, own_base (by rw [toksV_snoc ws k hkn, HX.out]; exact hown4) (by show B3 < w3.heap.size; exact hle) _, (z2.below hb4 (by omega)).other (by show w.heap.size ≠ B3; omega) _, z34.set 1 _,
          S4.store z34 (not_str2 (fun s => by simp) (fun s => by simp)) 1 _, (hbr.below hb4 hs3).setCell (by show w.heap.size ≤ B3; omega) _, by
            simp only [World.setCell, Array.size_modify]; omega⟩
        case measure => simp [intOf]; omega
    · have hk2 : ws.take k = ws := List.take_of_length_le (by omega)
      rw [hk2] at hown
      have hsi : SI wr (.slice oa k oc) (ws.map tokI) := own_SI hown (by rw [List.length_map]; have := HW.out; omega)
      clear hk2
      have c30 := z3.cell 0 rfl
      have c31 := z3.cell 1 rfl
      have HM := Lib.hid (show (rowM s).t = ws.map tokI by rw [rowM, HWT.out])
      have HWw := Lib.hid (show (rowM s).who = whoT s from rfl)
      have hws := whoT_cases s
      have HRB := Lib.hid (show rowB s = (decide (0 ≤ whoT s) && !((ws.map tokI).any low)) by rw [rowB, HWw.out, HM.out])
      generalize whoT s = q at *
      have z20 := z2.cell 0 rfl
      have z21 := z2.cell 1 rfl
      have f20 := z2.free 0
      have f21 := z2.free 1
      rcases hws with rfl | rfl | rfl
      · go_wp2
        go_region
        all_goals
          go_wp2
          have yf := (BoxAt.set (BoxAt.set z2 0 (.int .i64 (-1))) 1 (.slice oa k oc))
          have p0 := yf.cell 0 rfl
          have p1 := yf.cell 1 rfl
          refine bodyPost_ret (v := .tuple #[.agg #[.int .i64 (-1), .slice oa k oc], .bool false]) (by simp [results, Tryz.results24, go_sem, p0, p1]) rfl ⟨.slice oa k oc, ?_, ?_, ?_, ?_⟩
          · rw [HWw.out, HRB.out]; rfl
          · rw [HM.out]
            exact own_len (own_lower (own_keep (own_base (own_base hown (a := ⟨w.heap.size, 0, none⟩) (by show w.heap.size < w3.heap.size; omega) _) (a := ⟨w.heap.size, 1, none⟩) (by show w.heap.size < w3.heap.size; omega) _) ((Bl.refl _).drew)) (by omega))
          · rw [HM.out, List.length_map]; have := HW.out; omega
          · exact Bl.drew (Bl.setCell (Bl.setCell hbr (Nat.le_refl _) _) (Nat.le_refl _) _)
      · go_wp2
        go_region_with ((go_at_call 32; refine (containsFunc_any _ _ low _ (ws.map tokI) _ (hsi.bl ((Bl.refl wr).drew)) (row1_pays _)).mono ?_; rintro e w5 ⟨rfl, hb5⟩; have hb6 := ((Bl.refl wr).drew).trans hb5; have z25 := z2.bl hb6; have z250 := z25.cell 0 rfl; have z251 := z25.cell 1 rfl; have f250 := z25.free 0; have f251 := z25.free 1; have z35 := z3.bl hb6; have z350 := z35.cell 0 rfl; have z351 := z35.cell 1 rfl; have s5 := hsi.bl hb6; have H5 := hbr.trans hb6))
        all_goals
          go_wp2
          have yf := (BoxAt.set (BoxAt.set (z25) 0 (.int .i64 0)) 1 (.slice oa k oc))
          have p0 := yf.cell 0 rfl
          have p1 := yf.cell 1 rfl
          refine bodyPost_ret (v := .tuple #[.agg #[.int .i64 0, .slice oa k oc], .bool (!(ws.map tokI).any low)]) (by simp [results, Tryz.results24, go_sem, p0, p1]) rfl ⟨.slice oa k oc, ?_, ?_, ?_, ?_⟩
          · rw [HWw.out, HRB.out]; rfl
          · rw [HM.out]
            exact own_len (own_lower (own_base (own_base (own_keep hown (hb6)) (a := ⟨w.heap.size, 0, none⟩) (by show w.heap.size < w3.heap.size; omega) _) (a := ⟨w.heap.size, 1, none⟩) (by show w.heap.size < w3.heap.size; omega) _) (by omega))
          · rw [HM.out, List.length_map]; have := HW.out; omega
          · exact Bl.setCell (Bl.setCell (H5) (Nat.le_refl _) _) (Nat.le_refl _) _
      · go_wp2
        go_region_with ((go_at_call 32; refine (containsFunc_any _ _ low _ (ws.map tokI) _ (hsi.bl ((Bl.refl wr).drew)) (row1_pays _)).mono ?_; rintro e w5 ⟨rfl, hb5⟩; have hb6 := ((Bl.refl wr).drew).trans hb5; have z25 := z2.bl hb6; have z250 := z25.cell 0 rfl; have z251 := z25.cell 1 rfl; have f250 := z25.free 0; have f251 := z25.free 1; have z35 := z3.bl hb6; have z350 := z35.cell 0 rfl; have z351 := z35.cell 1 rfl; have s5 := hsi.bl hb6; have H5 := hbr.trans hb6))
        all_goals
          go_wp2
          have yf := (BoxAt.set (BoxAt.set (z25) 0 (.int .i64 1)) 1 (.slice oa k oc))
          have p0 := yf.cell 0 rfl
          have p1 := yf.cell 1 rfl
          refine bodyPost_ret (v := .tuple #[.agg #[.int .i64 1, .slice oa k oc], .bool (!(ws.map tokI).any low)]) (by simp [results, Tryz.results24, go_sem, p0, p1]) rfl ⟨.slice oa k oc, ?_, ?_, ?_, ?_⟩
          · rw [HWw.out, HRB.out]; rfl
          · rw [HM.out]
            exact own_len (own_lower (own_base (own_base (own_keep hown (hb6)) (a := ⟨w.heap.size, 0, none⟩) (by show w.heap.size < w3.heap.size; omega) _) (a := ⟨w.heap.size, 1, none⟩) (by show w.heap.size < w3.heap.size; omega) _) (by omega))
          · rw [HM.out, List.length_map]; have := HW.out; omega
          · exact Bl.setCell (Bl.setCell (H5) (Nat.le_refl _) _) (Nat.le_refl _) _

end Go.Proofs.YtffibiigoikmdaaGreatDoor
