/- Walk: base.Psk whole. -/
import Derived.Test.YtffibiigoikmdaaGreatDoorB3
import Derived.Test.YtffibiigoikmdaaGreatDoorV9
import Derived.Laws.OwnMore
import Derived.IntWalk
set_option linter.unusedSimpArgs false
set_option linter.unusedVariables false
namespace Go.Proofs.YtffibiigoikmdaaGreatDoor
open Go.RowKit Go.Sort

def tvs : List Value → List Value
  | _ :: u :: r => u :: tvs r
  | _ => []
def Apart (u v : Value) : Prop := u.ownBlock = none ∨ u.ownBlock ≠ v.ownBlock
/-- a pattern whose rows are all of this call's own, no two in one block -/
def OwnP (w : World) (base : Nat) (v : Value) (p : Pat) : Prop :=
  ∃ u0 u1 um xs, v = .agg #[.string p.name, u0, u1, um] ∧ w.ownsRow base 3 1 u0 p.pre0.length (p.pre0.map (Value.int .i64)) ∧ w.ownsRow base 3 1 u1 p.pre1.length (p.pre1.map (Value.int .i64)) ∧
    w.ownsRow base 39 2 um p.msgs.length xs ∧ MOwn w base 3 xs p.msgs ∧ (u0 :: u1 :: tvs xs).Pairwise Apart

theorem tvs_snoc {w : World} {base : Nat} {e : TypeId} (a u : Value) : ∀ {xs : List Value} {l : List Msg}, MOwn w base e xs l → tvs (xs ++ [a, u]) = tvs xs ++ [u]
  | [], [], _ => rfl
  | _ :: _ :: _, _ :: _, ⟨_, _, _, h⟩ => by simp only [List.cons_append, tvs]; rw [tvs_snoc a u h]
  | [], _ :: _, h => h.elim
  | [_], [], h => h.elim
  | [_], _ :: _, h => h.elim
  | _ :: _ :: _, [], h => h.elim
theorem MOwn.each {w : World} {base : Nat} {e : TypeId} : ∀ {xs : List Value} {l : List Msg}, MOwn w base e xs l → ∀ u ∈ tvs xs, ∃ n ys, w.ownsRow base e 1 u n ys
  | [], [], _, u, hu => by simp [tvs] at hu
  | _ :: _ :: _, _ :: _, ⟨_, h2, _, h⟩, u, hu => by
    simp only [tvs, List.mem_cons] at hu
    rcases hu with rfl | hu
    · exact ⟨_, _, h2⟩
    · exact MOwn.each h u hu
  | [], _ :: _, h, _, _ => h.elim
  | [_], [], h, _, _ => h.elim
  | [_], _ :: _, h, _, _ => h.elim
  | _ :: _ :: _, [], h, _, _ => h.elim
theorem own_lt {w : World} {base : Nat} {e : TypeId} {size n : Nat} {v : Value} {xs : List Value} (h : w.ownsRow base e size v n xs) : ∀ g, v.ownBlock = some g → g < w.heap.size := by
  intro g hg
  rcases h.2 with ⟨rfl, _⟩ | ⟨g', cap, cur, rfl, hb, hh, _⟩
  · simp [Value.ownBlock] at hg
  · have : g' = g := by simpa [Value.ownBlock] using hg
    subst this
    exact (Array.getElem?_eq_some_iff.1 hh).1
theorem own_ge {w : World} {base : Nat} {e : TypeId} {size n : Nat} {v : Value} {xs : List Value} (h : w.ownsRow base e size v n xs) : ∀ g, v.ownBlock = some g → base ≤ g := by
  intro g hg
  rcases h.2 with ⟨rfl, _⟩ | ⟨g', cap, cur, rfl, hb, hh, _⟩
  · simp [Value.ownBlock] at hg
  · have : g' = g := by simpa [Value.ownBlock] using hg
    omega
/-- what was there lies apart from what is new -/
theorem new_apart {w w' : World} {b e s n e' s' n' base : Nat} {v v' : Value} {xs xs' : List Value} (h : w.ownsRow b e s v n xs) (h' : w'.ownsRow base e' s' v' n' xs') (hb : w.heap.size ≤ base) : Apart v v' := by
  cases hv : v.ownBlock with
  | none => exact .inl hv
  | some g =>
    refine .inr fun hh => ?_
    rw [hv] at hh
    have h1 := own_lt h g hv
    have h2 := own_ge h' g hh.symm
    omega
/-- a store into a box of another type leaves a row alone -/
theorem own_box {w : World} {base : Nat} {e T : TypeId} {size n B : Nat} {v : Value} {xs vs : List Value} (h : w.ownsRow base e size v n xs) (hb : BoxAt w B vs T) (hne : e ≠ T) (i : Nat) (x : Value) : (w.setCell ⟨B, i, none⟩ x).ownsRow base e size v n xs := by
  refine ⟨h.1, ?_⟩
  rcases h.2 with h2 | ⟨g, cap, cur, hv, hg, hh, r⟩
  · exact .inl h2
  · refine .inr ⟨g, cap, cur, hv, hg, ?_, r⟩
    have hgb : g ≠ B := by
      rintro rfl
      unfold BoxAt at hb
      rw [hb] at hh
      injection hh with hh
      injection hh with _ ht
      exact hne ht.symm
    rw [← hh]
    exact Below.heap_setCell w ⟨B, i, none⟩ x g hgb
theorem MOwn.box {w : World} {base : Nat} {e T : TypeId} {B : Nat} {vs : List Value} {xs : List Value} {l : List Msg} (h : MOwn w base e xs l) (hb : BoxAt w B vs T) (hne : e ≠ T) (i : Nat) (x : Value) : MOwn (w.setCell ⟨B, i, none⟩ x) base e xs l :=
  h.map fun _ _ hu => own_box hu hb hne i x

theorem clone_any (v : Value) (l : List Int) (w : World) (h : SI w v l) :
    Calls Tryz.prog 90 #[v] w fun e w' => ∃ v', e = .returned v' ∧ w'.ownsRow w.heap.size 3 1 v' l.length (l.map (Value.int .i64)) ∧ Bl w w' := by
  obtain ⟨a, c, rfl, ⟨hl, hcap⟩, hc⟩ := h
  cases a with
  | none =>
    have h0 : l = [] := by
      rcases Nat.eq_zero_or_pos l.length with h0 | h0
      · exact List.length_eq_zero_iff.1 h0
      · obtain ⟨b, o, e, _⟩ := hc 0 h0
        simp at e
    subst h0
    exact (Tryz.slices_Clone_int_nil 0 c w).mono fun e w' hh => ⟨_, hh.1, World.ownsRow_nil _ _ _ _, by rw [hh.2]; exact Bl.refl w⟩
  | some ad =>
    rcases Nat.eq_zero_or_pos l.length with h0 | h0
    · obtain rfl := List.length_eq_zero_iff.1 h0
      exact (Tryz.slices_Clone_int_zero ad c w).mono fun e w' ⟨v', he, ho, _, hb⟩ => ⟨v', he, ho, hb⟩
    · obtain ⟨b, o, e, _⟩ := hc 0 h0
      injection e with e
      subst e
      have := Tryz.slices_Clone_int b o l.length c l w (Nat.le_refl _) (by omega) (fun j hj => by
        obtain ⟨b', o', e, h⟩ := hc j hj
        obtain ⟨rfl, rfl⟩ : b = b' ∧ o = o' := by simpa using e
        rw [h, List.getD_eq_getElem?_getD, List.getElem?_eq_getElem hj]; rfl)
      rw [List.take_length] at this
      exact this.mono fun e w' ⟨v', he, ho, _, hb⟩ => ⟨v', he, ho, hb⟩

theorem B3c.of {w : World} {B : Nat} {a b c d : Value} {T : TypeId} (h : BoxAt w B [a, b, c, d] T) : w.cell? ⟨B, 0, none⟩ = some a ∧ w.cell? ⟨B, 1, none⟩ = some b ∧ w.cell? ⟨B, 2, none⟩ = some c := ⟨h.cell 0 rfl, h.cell 1 rfl, h.cell 2 rfl⟩

theorem BoxAt.grown {w w' : World} {B base : Nat} {vs xs : List Value} {T e : TypeId} {size n : Nat} {v : Value} (h : BoxAt w B vs T) (ho : w.ownsRow base e size v n xs) (hne : e ≠ T) (hg : w.grownBy w' v.ownBlock) : BoxAt w' B vs T := by
  obtain ⟨_, _, _, _, hk⟩ := hg
  refine (hk B h.lt ?_).trans h
  intro hv
  rcases ho.2 with ⟨rfl, _⟩ | ⟨g, cap, cur, rfl, hb, hh, _⟩
  · simp [Value.ownBlock] at hv
  · have e1 : B = g := by simpa [Value.ownBlock, eq_comm] using hv
    subst e1
    unfold BoxAt at h
    rw [h] at hh
    injection hh with hh
    injection hh with _ ht
    exact hne ht.symm
theorem own_set4 {w : World} {base : Nat} {e T : TypeId} {size n B : Nat} {v a b c d : Value} {xs : List Value} (h : w.ownsRow base e size v n xs) (hb : BoxAt w B [a, b, c, d] T) (hne : e ≠ T) (x y z t : Value) : ((((w.setCell ⟨B, 0, none⟩ x).setCell ⟨B, 1, none⟩ y).setCell ⟨B, 2, none⟩ z).setCell ⟨B, 3, none⟩ t).ownsRow base e size v n xs :=
  own_box (own_box (own_box (own_box h hb hne 0 x) (hb.set 0 x) hne 1 y) ((hb.set 0 x).set 1 y) hne 2 z) (((hb.set 0 x).set 1 y).set 2 z) hne 3 t
theorem B3c.alloc {w : World} {B : Nat} {a b c : Value} (h : w.cell? ⟨B, 0, none⟩ = some a ∧ w.cell? ⟨B, 1, none⟩ = some b ∧ w.cell? ⟨B, 2, none⟩ = some c) (o : Obj) : (w.alloc o).cell? ⟨B, 0, none⟩ = some a ∧ (w.alloc o).cell? ⟨B, 1, none⟩ = some b ∧ (w.alloc o).cell? ⟨B, 2, none⟩ = some c :=
  ⟨((Bl.refl w).alloc o).cellq h.1, ((Bl.refl w).alloc o).cellq h.2.1, ((Bl.refl w).alloc o).cellq h.2.2⟩
theorem far_set4 {w : World} {B j : Nat} {a : Value} (h : w.cell? ⟨B, j, none⟩ = some a) {p q r s : Addr} (hp : B ≠ p.block) (hq : B ≠ q.block) (hr : B ≠ r.block) (hs : B ≠ s.block) (x y z t : Value) :
    ((((w.setCell p x).setCell q y).setCell r z).setCell s t).cell? ⟨B, j, none⟩ = some a := by
  have h1 := Below.heap_setCell w p x B hp
  have h2 := Below.heap_setCell (w.setCell p x) q y B hq
  have h3 := Below.heap_setCell ((w.setCell p x).setCell q y) r z B hr
  have h4 := Below.heap_setCell (((w.setCell p x).setCell q y).setCell r z) s t B hs
  have e := h4.trans (h3.trans (h2.trans h1))
  simp only [World.cell?] at h ⊢
  rw [e]
  exact h
theorem B3c.set4 {w : World} {B : Nat} {a b c : Value} (h : w.cell? ⟨B, 0, none⟩ = some a ∧ w.cell? ⟨B, 1, none⟩ = some b ∧ w.cell? ⟨B, 2, none⟩ = some c) {p q r s : Addr} (hp : B ≠ p.block) (hq : B ≠ q.block) (hr : B ≠ r.block) (hs : B ≠ s.block) (x y z t : Value) :
    ((((w.setCell p x).setCell q y).setCell r z).setCell s t).cell? ⟨B, 0, none⟩ = some a ∧ ((((w.setCell p x).setCell q y).setCell r z).setCell s t).cell? ⟨B, 1, none⟩ = some b ∧ ((((w.setCell p x).setCell q y).setCell r z).setCell s t).cell? ⟨B, 2, none⟩ = some c :=
  ⟨far_set4 h.1 hp hq hr hs x y z t, far_set4 h.2.1 hp hq hr hs x y z t, far_set4 h.2.2 hp hq hr hs x y z t⟩

set_option maxRecDepth 100000 in
set_option maxHeartbeats 8000000 in
theorem own_any (v : Value) (p : Pat) (w : World) (h : SP w v p) (hs : Small p) :
    Calls Tryz.prog 78 #[v] w fun e w' => ∃ v', e = .returned v' ∧ OwnP w' w.heap.size v' p ∧ Bl w w' := by
  obtain ⟨i0, hi, hz0, hz1, hz2⟩ := info_parts infoMsg
  obtain ⟨v0, v1, vm, rfl, hn, h0, h1, hm⟩ := h
  obtain ⟨a0, c0, rfl⟩ := h0.form
  obtain ⟨a1, c1, rfl⟩ := h1.form
  obtain ⟨am, cm, rfl⟩ := hm.form
  have hlm := hs.msgs
  have y := (BoxAt.new w #[.string p.name, .slice a0 p.pre0.length c0, .slice a1 p.pre1.length c1, .slice am p.msgs.length cm] 26).alloc (.cells #[.string ⟨#[]⟩, .slice none 0 0, .slice none 0 0, .slice none 0 0] 26)
  have z := BoxAt.new (w.alloc (.cells #[.string p.name, .slice a0 p.pre0.length c0, .slice a1 p.pre1.length c1, .slice am p.msgs.length cm] 26)) #[.string ⟨#[]⟩, .slice none 0 0, .slice none 0 0, .slice none 0 0] 26
  have H : Bl w ((w.alloc (.cells #[.string p.name, .slice a0 p.pre0.length c0, .slice a1 p.pre1.length c1, .slice am p.msgs.length cm] 26)).alloc (.cells #[.string ⟨#[]⟩, .slice none 0 0, .slice none 0 0, .slice none 0 0] 26)) := ((Bl.refl w).alloc _).alloc _
  simp only [size_alloc] at z
  have hsz : ((w.alloc (.cells #[.string p.name, .slice a0 p.pre0.length c0, .slice a1 p.pre1.length c1, .slice am p.msgs.length cm] 26)).alloc (.cells #[.string ⟨#[]⟩, .slice none 0 0, .slice none 0 0, .slice none 0 0] 26)).heap.size = w.heap.size + 1 + 1 := by simp only [size_alloc]
  go_enter Tryz.func78, Tryz.ntmps78
  go_wp2
  generalize (w.alloc (.cells #[.string p.name, .slice a0 p.pre0.length c0, .slice a1 p.pre1.length c1, .slice am p.msgs.length cm] 26)).alloc (.cells #[.string ⟨#[]⟩, .slice none 0 0, .slice none 0 0, .slice none 0 0] 26) = W at y z H hsz ⊢
  have hW1 : w.heap.size + 1 < W.heap.size := by omega
  clear hsz
  have y0 := y.drew
  have z0 := z.drew
  have H0 : Bl w W.drew := H.drew
  have h00 := h0.bl H0
  have s0 := B3c.of y0
  have y1 := (y.alloc (.cells #[.string ⟨#[]⟩, .slice none 0 0, .slice none 0 0, .slice none 0 0] 26)).drew
  have z1 := (z.alloc (.cells #[.string ⟨#[]⟩, .slice none 0 0, .slice none 0 0, .slice none 0 0] 26)).drew
  have H1 : Bl w (W.alloc (.cells #[.string ⟨#[]⟩, .slice none 0 0, .slice none 0 0, .slice none 0 0] 26)).drew := (H.alloc (.cells #[.string ⟨#[]⟩, .slice none 0 0, .slice none 0 0, .slice none 0 0] 26)).drew
  have q1 := (BoxAt.new W #[.string ⟨#[]⟩, .slice none 0 0, .slice none 0 0, .slice none 0 0] 26).drew
  have s1 := B3c.of y1
  go_cut [3] from 6 to 17 (fun x wx => ∃ (B6 : Nat) (u0 u1 : Value), x = .pointer (some ⟨B6, 0, none⟩) ∧ BoxAt wx B6 [.string p.name, u0, u1, .slice none 0 0] 26 ∧ wx.ownsRow w.heap.size 3 1 u0 p.pre0.length (p.pre0.map (Value.int .i64)) ∧ wx.ownsRow w.heap.size 3 1 u1 p.pre1.length (p.pre1.map (Value.int .i64)) ∧
    Apart u0 u1 ∧ BoxAt wx w.heap.size [.string p.name, .slice a0 p.pre0.length c0, .slice a1 p.pre1.length c1, .slice am p.msgs.length cm] 26 ∧ BoxAt wx (w.heap.size + 1) [.string ⟨#[]⟩, .slice none 0 0, .slice none 0 0, .slice none 0 0] 26 ∧ Bl w wx ∧ w.heap.size + 1 < B6)
  case first =>
    go_region_held3 (fun wx : World => wx.cell? ⟨w.heap.size, 0, none⟩ = some (.string p.name) ∧ wx.cell? ⟨w.heap.size, 1, none⟩ = some (.slice a0 p.pre0.length c0) ∧ wx.cell? ⟨w.heap.size, 2, none⟩ = some (.slice a1 p.pre1.length c1)) (first | with_reducible exact s5 | with_reducible exact s4 | with_reducible exact s0 | with_reducible exact s1 | with_reducible exact B3c.alloc s5 _ | with_reducible exact B3c.alloc s4 _ | with_reducible exact B3c.alloc s0 _ | with_reducible exact B3c.set4 s5 hn5a hn5a hn5a hn5a _ _ _ _ | with_reducible exact B3c.set4 s5 hn5b hn5b hn5b hn5b _ _ _ _) (first | (go_at_call 90; go_fit (clone_any _ p.pre1 _ (h1.bl H4)); rintro e w5 ⟨u5, rfl, hu5, hb5⟩; obtain ⟨ua5, uc5, hue5⟩ := own_form hu5; subst hue5; have x5 := x4.bl hb5; have s5 := B3c.of x5; have r5 := r4.bl hb5; have H5 := H4.trans hb5; have z5 := z4.bl hb5; have zc0 := z5.cell 0 rfl; have zf0 := z5.free 0; have zc1 := z5.cell 1 rfl; have zf1 := z5.free 1; have zc2 := z5.cell 2 rfl; have zf2 := z5.free 2; have zc3 := z5.cell 3 rfl; have zf3 := z5.free 3; have zl := z5.lt) | (go_at_call 90; go_fit (clone_any _ p.pre1 _ (h1.bl H4)); rintro e w5 ⟨u5, rfl, hu5, hb5⟩; obtain ⟨ua5, uc5, hue5⟩ := own_form hu5; subst hue5; have x5 := x4.bl hb5; have s5 := B3c.of x5; have r5 := r4.bl hb5; have H5 := H4.trans hb5) | (go_at_call 90; go_fit (clone_any _ p.pre1 _ (h1.bl (H4.alloc (.cells #[.string ⟨#[]⟩, .slice none 0 0, .slice none 0 0, .slice none 0 0] 26)))); rintro e w5 ⟨u5, rfl, hu5, hb5⟩; obtain ⟨ua5, uc5, hue5⟩ := own_form hu5; subst hue5; have x5 := (x4.alloc (.cells #[.string ⟨#[]⟩, .slice none 0 0, .slice none 0 0, .slice none 0 0] 26)).bl hb5; have s5 := B3c.of x5; have r5 := (r4.alloc (.cells #[.string ⟨#[]⟩, .slice none 0 0, .slice none 0 0, .slice none 0 0] 26)).bl hb5; have H5 := (H4.alloc (.cells #[.string ⟨#[]⟩, .slice none 0 0, .slice none 0 0, .slice none 0 0] 26)).trans hb5; have z5 := (BoxAt.new w4 #[.string ⟨#[]⟩, .slice none 0 0, .slice none 0 0, .slice none 0 0] 26).bl hb5; have hn5a : w.heap.size ≠ w4.heap.size := Nat.ne_of_lt x4.lt; have hn5b := hn5a; have zc0 := z5.cell 0 rfl; have zf0 := z5.free 0; have zc1 := z5.cell 1 rfl; have zf1 := z5.free 1; have zc2 := z5.cell 2 rfl; have zf2 := z5.free 2; have zc3 := z5.cell 3 rfl; have zf3 := z5.free 3; have zl := z5.lt) | (go_at_call 90; go_fit (clone_any _ p.pre0 _ (h0.bl H0)); rintro e w4 ⟨u4, rfl, hu4, hb4⟩; obtain ⟨ua4, uc4, hue4⟩ := own_form hu4; subst hue4; have x4 := y0.bl hb4; have s4 := B3c.of x4; have r4 := z0.bl hb4; have H4 := H0.trans hb4) | (go_at_call 90; go_fit (clone_any _ p.pre0 _ (h0.bl H1)); rintro e w4 ⟨u4, rfl, hu4, hb4⟩; obtain ⟨ua4, uc4, hue4⟩ := own_form hu4; subst hue4; have x4 := y1.bl hb4; have s4 := B3c.of x4; have r4 := z1.bl hb4; have H4 := H1.trans hb4; have z4 := q1.bl hb4; have hn5a : w.heap.size ≠ W.heap.size := Nat.ne_of_lt y0.lt; have hn5b : w.heap.size ≠ W.heap.size := Nat.ne_of_lt y0.lt))
    all_goals go_wp2_with fail
    all_goals go_meet
    · have hs4 : w.heap.size ≤ w4.heap.size := H4.size
      have hsW : w.heap.size ≤ W.heap.size := H.size
      exact ⟨w5.heap.size, _, _, rfl, BoxAt.new w5 #[.string p.name, .slice ua4 p.pre0.length uc4, .slice ua5 p.pre1.length uc5, .slice none 0 0] 26, own_keep (own_keep (own_lower hu4 hsW) hb5) ((Bl.refl w5).alloc _), own_keep (own_lower hu5 hs4) ((Bl.refl w5).alloc _), new_apart hu4 hu5 (Nat.le_refl _), x5.alloc _, r5.alloc _, H5.alloc _, r5.lt⟩
    · have hs4 : w.heap.size ≤ w4.heap.size := H4.size
      have hsW : w.heap.size ≤ W.heap.size := H.size
      exact ⟨w4.heap.size, _, _, rfl, z5.set4 _ _ _ _, own_set4 (own_keep (own_lower hu4 hsW) (Bl.trans ((Bl.refl w4).alloc (.cells #[.string ⟨#[]⟩, .slice none 0 0, .slice none 0 0, .slice none 0 0] 26)) hb5)) z5 (by decide) _ _ _ _, own_set4 (own_lower hu5 (by rw [size_alloc]; omega)) z5 (by decide) _ _ _ _, new_apart hu4 hu5 (by rw [size_alloc]; omega), x5.oth4 (Nat.ne_of_lt x4.lt) _ _ _ _, r5.oth4 (Nat.ne_of_lt r4.lt) _ _ _ _, H5.set4 hs4 _ _ _ _, r4.lt⟩
    · have hs4 : w.heap.size ≤ w4.heap.size := H4.size
      have hsW : w.heap.size ≤ W.heap.size := H.size
      exact ⟨W.heap.size, _, _, rfl, z5.set4 _ _ _ _, own_set4 (own_keep (own_lower hu4 (by show w.heap.size ≤ (W.alloc _).heap.size; rw [size_alloc]; omega)) hb5) z5 (by decide) _ _ _ _, own_set4 (own_lower hu5 hs4) z5 (by decide) _ _ _ _, new_apart hu4 hu5 (Nat.le_refl _), x5.oth4 (Nat.ne_of_lt (by omega)) _ _ _ _, r5.oth4 (Nat.ne_of_lt hW1) _ _ _ _, H5.set4 hsW _ _ _ _, hW1⟩
  case rest =>
    obtain ⟨B6, u0, u1, rfl, z6, ho0, ho1, hap, x6, r6, H6, hB6⟩ := hcut
    have g3 := x6.cell 3 rfl
    clear y z y0 z0 y1 z1 q1 s0 s1 h00 H0 H1
    go_wp2
    go_loopw [21] (fun x wr => ∃ (k : Nat) (vm : Value) (xs : List Value), k ≤ p.msgs.length ∧ x = .int .i64 k ∧ BoxAt wr B6 [.string p.name, u0, u1, vm] 26 ∧ BoxAt wr (w.heap.size + 1) [.string ⟨#[]⟩, .slice none 0 0, .slice none 0 0, .slice none 0 0] 26 ∧
        wr.ownsRow w.heap.size 3 1 u0 p.pre0.length (p.pre0.map (Value.int .i64)) ∧ wr.ownsRow w.heap.size 3 1 u1 p.pre1.length (p.pre1.map (Value.int .i64)) ∧
        wr.ownsRow w.heap.size 39 2 vm k xs ∧ MOwn wr w.heap.size 3 xs (p.msgs.take k) ∧ (u0 :: u1 :: tvs xs).Pairwise Apart ∧ Bl w wr) (fun x _ => p.msgs.length - (intOf x).toNat)
    case atStart => exact ⟨0, _, [], by omega, rfl, z6, r6, ho0, ho1, World.ownsRow_nil _ _ _ _, trivial, by simp [tvs, hap], H6⟩
    case round =>
      obtain ⟨k, vm, xs, hk, rfl, z, r, hu0, hu1, hown, hmo, hpw, hbr⟩ := hrel
      by_cases hkn : k < p.msgs.length
      · obtain ⟨b, o, u, rfl, hca0, hcb0, hu⟩ := hm.at k hkn
        have HTK := Lib.hid (List.take_succ_eq_append_getElem hkn)
        have hlt := hs.each p.msgs[k] (List.getElem_mem hkn)
        generalize p.msgs[k] = m at *
        obtain ⟨who, l⟩ := m
        simp only at hca0 hcb0 hu hlt
        obtain ⟨ma, mc, rfl⟩ := hu.form
        have hca := hbr.cellq hca0
        have hcb := hbr.cellq hcb0
        have hal : Bl wr (wr.alloc (.cells #[.int .i64 who, .slice ma l.length mc] 39)) := (Bl.refl wr).alloc _
        have mz := BoxAt.new wr #[.int .i64 who, .slice ma l.length mc] 39
        have za := z.bl hal
        have ra := r.bl hal
        have hu0a := own_keep hu0 hal
        have hu1a := own_keep hu1 hal
        have howna := own_keep hown hal
        have hmoa := hmo.bl hal
        have hba := hbr.trans hal
        obtain ⟨oa, oc, hoe⟩ := own_form hown
        subst hoe
        go_wp2
        generalize wr.alloc (.cells #[.int .i64 who, .slice ma l.length mc] 39) = WA at mz za ra hu0a hu1a howna hmoa hba ⊢
        generalize wr.heap.size = Bm at *
        have zD := za.drew
        have rD := ra.drew
        have mD := mz.drew
        have bD : Bl WA WA.drew := (Bl.refl WA).drew
        have hownD := own_keep howna bD
        have hmoD := hmoa.bl bD
        have hu0D := own_keep hu0a bD
        have hu1D := own_keep hu1a bD
        have hbD : Bl w WA.drew := hba.drew
        have hsD : w.heap.size ≤ WA.drew.heap.size := hbD.size
        have d3 := zD.cell 3 rfl
        have m0 := mD.cell 0 rfl
        have m1 := mD.cell 1 rfl
        have e3 := zD.free 3
        have hluD := hu.bl hbD
        go_region_law (first | (refine step_append_own rfl (.tmp 26) (.tmp 33) 24 rfl w.heap.size 39 i0 (.agg #[.int .i64 0, .slice none 0 0]) 2 32 Tryz.underlying24 hi hz0 hz1 hz2 rfl (by decide) _ _ _ rfl (own_keep hown8 ((Bl.refl w8).alloc (.cells #[.int .i64 who, .slice ua8 l.length uc8] 39))) ⟨w8.heap.size, 0, none⟩ 1 1 [.int .i64 who, .slice ua8 l.length uc8] rfl rfl (two_newB w8 _ _ _) (by intro u hu; simp at hu; rcases hu with rfl | rfl <;> rfl) (by unfold maxLen; omega) (by omega) (by rw [size_alloc]; omega) ?_; intro v' w10 hown10 hg10; obtain ⟨oa10, oc10, e10⟩ := own_form hown10; subst e10; have z10 := (z8.alloc (.cells #[.int .i64 who, .slice ua8 l.length uc8] 39)).grown (own_keep hown8 ((Bl.refl w8).alloc (.cells #[.int .i64 who, .slice ua8 l.length uc8] 39))) (by decide) hg10; have c10 := z10.cell 3 rfl; have f10 := z10.free 3; have hlz10 := z10.lt) | (go_simp; go_at_call 90; refine (clone_any _ l _ hluD).mono ?_; rintro e w8 ⟨u8, rfl, hu8, hb8⟩; obtain ⟨ua8, uc8, hue8⟩ := own_form hu8; subst hue8; have z8 := zD.bl hb8; have c83 := z8.cell 3 rfl; have f83 := z8.free 3; have hlz8 := z8.lt; have hbr8 := hbD.trans hb8; have hown8 := own_keep hownD hb8; have hmo8 := hmoD.bl hb8; have r8 := rD.bl hb8; have hu08 := own_keep hu0D hb8; have hu18 := own_keep hu1D hb8; have hsz8 := Nat.le_trans hsD hb8.size; have m80 := (mD.bl hb8).cell 0 rfl; have m81 := (mD.bl hb8).cell 1 rfl))
        all_goals
          have aO : Bl w8 (w8.alloc (.cells #[.int .i64 who, .slice ua8 l.length uc8] 39)) := (Bl.refl w8).alloc _
          have ho8 := own_keep hown8 aO
          have hmo10 := (hmo8.bl aO).grown ho8 (by decide) hg10
          have hu9 := own_keep (own_lower hu8 hsD) aO
          have hu10 := hu9.kept hg10 (own_apart hu9 ho8 (by decide))
          have k0 := own_keep hu08 aO
          have k1 := own_keep hu18 aO
          have hu010 := k0.kept hg10 (own_apart k0 ho8 (by decide))
          have hu110 := k1.kept hg10 (own_apart k1 ho8 (by decide))
          have r10 := (r8.alloc (.cells #[.int .i64 who, .slice ua8 l.length uc8] 39)).grown ho8 (by decide) hg10
          have hb10 := Below.ofGrown ho8 hg10 (by rw [size_alloc]; omega)
          have hAU : ∀ x ∈ u0 :: u1 :: tvs xs, Apart x (.slice ua8 l.length uc8) := by
            intro x hx
            simp only [List.mem_cons] at hx
            rcases hx with rfl | rfl | hx
            · exact new_apart hu0D hu8 (Nat.le_refl _)
            · exact new_apart hu1D hu8 (Nat.le_refl _)
            · obtain ⟨n', ys', ho'⟩ := hmoD.each x hx
              exact new_apart ho' hu8 (Nat.le_refl _)
          have hPW : (u0 :: u1 :: tvs (xs ++ [.int .i64 who, .slice ua8 l.length uc8])).Pairwise Apart := by
            rw [tvs_snoc _ _ hmo8, ← List.cons_append, ← List.cons_append]
            exact List.pairwise_append.2 ⟨hpw, List.pairwise_singleton _ _, fun a ha b hb => by rw [List.mem_singleton.1 hb]; exact hAU a ha⟩
          clear hAU
          go_wp2
          go_roundw
          case rel => exact ⟨k + 1, _, _, by omega, by go_num, z10.set 3 _, r10.other (by show w.heap.size + 1 ≠ B6; omega) _, own_box hu010 z10 (by decide) 3 _, own_box hu110 z10 (by decide) 3 _, own_box hown10 z10 (by decide) 3 _, by rw [HTK.out]; exact (hmo10.snoc (m := ⟨who, l⟩) hu10 (by show l.length ≤ _; omega)).box z10 (by decide) 3 _, hPW, (hbr8.alloc _).below hb10 (Nat.le_refl _) |>.setCell (by show w.heap.size ≤ B6; omega) _⟩
          case measure => simp [intOf]; omega
      · obtain rfl : k = p.msgs.length := by omega
        rw [List.take_length] at hmo
        obtain ⟨oa, oc, hoe⟩ := own_form hown
        subst hoe
        obtain ⟨ua0, uc0, hue0⟩ := own_form hu0
        subst hue0
        obtain ⟨ua1, uc1, hue1⟩ := own_form hu1
        subst hue1
        obtain ⟨q0, q1, q2, q3⟩ : _ ∧ _ ∧ _ ∧ _ := ⟨z.cell 0 rfl, z.cell 1 rfl, z.cell 2 rfl, z.cell 3 rfl⟩
        obtain ⟨g0, g1, g2, g3⟩ : _ ∧ _ ∧ _ ∧ _ := ⟨r.cell 0 rfl, r.cell 1 rfl, r.cell 2 rfl, r.cell 3 rfl⟩
        obtain ⟨f0, f1, f2, f3⟩ : _ ∧ _ ∧ _ ∧ _ := ⟨r.free 0, r.free 1, r.free 2, r.free 3⟩
        have hlr := r.lt
        go_wp2
        have yf := r.set4 (.string p.name) (.slice ua0 p.pre0.length uc0) (.slice ua1 p.pre1.length uc1) (.slice oa p.msgs.length oc)
        obtain ⟨p0, p1, p2, p3⟩ : _ ∧ _ ∧ _ ∧ _ := ⟨yf.cell 0 rfl, yf.cell 1 rfl, yf.cell 2 rfl, yf.cell 3 rfl⟩
        refine bodyPost_ret (v := .agg #[(.string p.name), (.slice ua0 p.pre0.length uc0), (.slice ua1 p.pre1.length uc1), (.slice oa p.msgs.length oc)]) (by simp [results, Tryz.results78, go_sem, p0, p1, p2, p3]) rfl ⟨_, rfl, ⟨_, _, _, xs, rfl, own_set4 hu0 r (by decide) _ _ _ _, own_set4 hu1 r (by decide) _ _ _ _, own_set4 hown r (by decide) _ _ _ _, hmo.map (fun _ _ h => own_set4 h r (by decide) _ _ _ _), hpw⟩, ?_⟩
        exact hbr.set4 (by omega) _ _ _ _
end Go.Proofs.YtffibiigoikmdaaGreatDoor

set_option linter.unusedSimpArgs false
set_option linter.unusedVariables false
namespace Go.Proofs.YtffibiigoikmdaaGreatDoor
open Go.RowKit Go.Sort

def pskAt (n : Int) : Nat := (max (n - 1) 0).toNat
def pskBad (p : Pat) (n : Int) : Bool := decide (n < 0) || decide ((p.msgs.length : Int) < n) || decide (12 ≤ (p.msgs.getD (pskAt n) ⟨0, []⟩).t.length)
def pskE (p : Pat) (n : Int) : Int := if !rightB p then 1 else if pskBad p n then 13 else 0
def pskM (n : Int) (m : Msg) : Msg := ⟨m.who, if n = 0 then 7 :: m.t else m.t ++ [7]⟩
def pskP (p : Pat) (n : Int) : Pat := { p with msgs := p.msgs.modify (pskAt n) (pskM n) }

theorem rightBB_any (v : Value) (p : Pat) (w : World) (h : SP w v p) (b : Bool) (hr : rightB p = b) :
    Calls Tryz.prog 13 #[v] w fun e w' => e = .returned (.bool b) ∧ Bl w w' := by
  rw [← hr]
  exact right_any v p w h
theorem zero_SP (w : World) : SP w (.agg #[.string ⟨#[]⟩, .slice none 0 0, .slice none 0 0, .slice none 0 0]) zeroP := ⟨_, _, _, rfl, by show (0 : Nat) ≤ _; omega, SI.nil _, SI.nil _, SM.nil _⟩

set_option maxRecDepth 100000 in
set_option maxHeartbeats 4000000 in
theorem psk_arg (v : Value) (p : Pat) (n : Int) (w : World) (h : SP w v p) (hr : rightB p = false) :
    Calls Tryz.prog 60 #[v, .int .i64 n] w fun e w' => ∃ v', e = .returned (.tuple #[v', .int .i64 1]) ∧ SP w' v' zeroP ∧ Bl w w' := by
  have hv := h
  obtain ⟨v0, v1, vm, rfl, hn, h0, h1, hm⟩ := h
  obtain ⟨a0, c0, rfl⟩ := h0.form
  obtain ⟨a1, c1, rfl⟩ := h1.form
  obtain ⟨am, cm, rfl⟩ := hm.form
  clear h0 h1 hm
  have r := BoxAt.new (w.alloc (.cells #[.string p.name, .slice a0 p.pre0.length c0, .slice a1 p.pre1.length c1, .slice am p.msgs.length cm] 26)) #[.string ⟨#[]⟩, .slice none 0 0, .slice none 0 0, .slice none 0 0] 26
  have H : Bl w ((w.alloc (.cells #[.string p.name, .slice a0 p.pre0.length c0, .slice a1 p.pre1.length c1, .slice am p.msgs.length cm] 26)).alloc (.cells #[.string ⟨#[]⟩, .slice none 0 0, .slice none 0 0, .slice none 0 0] 26)) := ((Bl.refl w).alloc _).alloc _
  simp only [size_alloc] at r
  go_enter Tryz.func60, Tryz.ntmps60
  go_wp2_with fail
  refine (rightBB_any _ p _ (hv.bl H) false hr).mono ?_
  rintro e w1 ⟨rfl, hb1⟩
  have r1 := r.bl hb1
  have H1 := H.trans hb1
  obtain ⟨g0, g1, g2, g3⟩ : _ ∧ _ ∧ _ ∧ _ := ⟨r1.cell 0 rfl, r1.cell 1 rfl, r1.cell 2 rfl, r1.cell 3 rfl⟩
  obtain ⟨f0, f1, f2, f3⟩ : _ ∧ _ ∧ _ ∧ _ := ⟨r1.free 0, r1.free 1, r1.free 2, r1.free 3⟩
  have hlr := r1.lt
  go_wp2
  have yf := r1.set4 (.string ⟨#[]⟩) (.slice none 0 0) (.slice none 0 0) (.slice none 0 0)
  obtain ⟨p0, p1, p2, p3⟩ : _ ∧ _ ∧ _ ∧ _ := ⟨yf.cell 0 rfl, yf.cell 1 rfl, yf.cell 2 rfl, yf.cell 3 rfl⟩
  exact bodyPost_ret (v := .tuple #[.agg #[(.string ⟨#[]⟩), (.slice none 0 0), (.slice none 0 0), (.slice none 0 0)], .int .i64 1]) (by simp [results, Tryz.results60, go_sem, p0, p1, p2, p3]) rfl ⟨_, rfl, zero_SP _, H1.set4 (by omega) _ _ _ _⟩

theorem Apart.symm {u v : Value} (h : Apart u v) : Apart v u := by
  unfold Apart at *
  cases hv : v.ownBlock with
  | none => exact .inl rfl
  | some g =>
    refine .inr fun hh => ?_
    rcases h with h | h
    · rw [h] at hh; cases hh
    · exact h (by rw [← hh, hv])
theorem MOwn.at {w : World} {base : Nat} {e : TypeId} : ∀ {xs : List Value} {l : List Msg}, MOwn w base e xs l → ∀ (j : Nat) (hj : j < l.length), ∃ u, xs[j * 2]? = some (.int .i64 l[j].who) ∧ xs[j * 2 + 1]? = some u ∧ (tvs xs)[j]? = some u ∧ w.ownsRow base e 1 u l[j].t.length (l[j].t.map (Value.int .i64))
  | [], [], _, j, hj => by simp at hj
  | x :: u :: xs, m :: l, ⟨h1, h2, _, h3⟩, 0, _ => ⟨u, by simp [h1], by simp, by simp [tvs], h2⟩
  | x :: u :: xs, m :: l, ⟨h1, h2, _, h3⟩, j + 1, hj => by
    obtain ⟨u', a, b, c, d⟩ := MOwn.at h3 j (by simpa using hj)
    refine ⟨u', ?_, ?_, by simpa [tvs] using c, by simpa using d⟩
    · rw [show (j + 1) * 2 = j * 2 + 1 + 1 by omega]; simpa using a
    · rw [show (j + 1) * 2 + 1 = j * 2 + 1 + 1 + 1 by omega]; simpa using b
  | [], _ :: _, h, _, _ => h.elim
  | [_], [], h, _, _ => h.elim
  | [_], _ :: _, h, _, _ => h.elim
  | _ :: _ :: _, [], h, _, _ => h.elim
theorem MOwn.all {w w' : World} {base : Nat} {e : TypeId} : ∀ {xs : List Value} {l : List Msg}, MOwn w base e xs l → (∀ (j : Nat) (u : Value), (tvs xs)[j]? = some u → ∀ t : List Int, w.ownsRow base e 1 u t.length (t.map (Value.int .i64)) → w'.ownsRow base e 1 u t.length (t.map (Value.int .i64))) → MOwn w' base e xs l
  | [], [], _, _ => trivial
  | x :: u :: xs, m :: l, ⟨h1, h2, h3, h4⟩, hk => ⟨h1, hk 0 u (by simp [tvs]) _ h2, h3, MOwn.all h4 fun j u' hj t ht => hk (j + 1) u' (by simpa [tvs] using hj) t ht⟩
  | [], _ :: _, h, _ => h.elim
  | [_], [], h, _ => h.elim
  | [_], _ :: _, h, _ => h.elim
  | _ :: _ :: _, [], h, _ => h.elim
theorem MOwn.change {w w' : World} {base : Nat} {e : TypeId} (f : Msg → Msg) (v' : Value) (t' : List Int) (hnew : w'.ownsRow base e 1 v' t'.length (t'.map (Value.int .i64))) (hl' : t'.length ≤ 17592186043904) :
    ∀ {xs : List Value} {l : List Msg} (k : Nat) (hk : k < l.length), MOwn w base e xs l → (∀ (j : Nat) (u : Value), j ≠ k → (tvs xs)[j]? = some u → ∀ t : List Int, w.ownsRow base e 1 u t.length (t.map (Value.int .i64)) → w'.ownsRow base e 1 u t.length (t.map (Value.int .i64))) →
      f l[k] = ⟨l[k].who, t'⟩ → MOwn w' base e (xs.set (k * 2 + 1) v') (l.modify k f)
  | [], [], k, hk, _, _, _ => by simp at hk
  | x :: u :: xs, m :: l, 0, _, ⟨h1, h2, h3, h4⟩, hkeep, hf => by
    have hf' : f m = ⟨m.who, t'⟩ := hf
    rw [List.modify_zero_cons, hf']
    refine ⟨h1, hnew, hl', ?_⟩
    exact MOwn.all h4 fun j u' hj t ht => hkeep (j + 1) u' (by omega) (by simpa [tvs] using hj) t ht
  | x :: u :: xs, m :: l, k + 1, hk, ⟨h1, h2, h3, h4⟩, hkeep, hf => by
    rw [List.modify_succ_cons, show (k + 1) * 2 + 1 = k * 2 + 1 + 1 + 1 by omega]
    refine ⟨h1, hkeep 0 u (by omega) (by simp [tvs]) _ h2, h3, ?_⟩
    exact MOwn.change f v' t' hnew hl' k (by simpa using hk) h4 (fun j u' hj hu t ht => hkeep (j + 1) u' (by omega) (by simpa [tvs] using hu) t ht) (by simpa using hf)
  | [], _ :: _, _, _, h, _, _ => h.elim
  | [_], [], _, _, h, _, _ => h.elim
  | [_], _ :: _, _, _, h, _, _ => h.elim
  | _ :: _ :: _, [], _, _, h, _, _ => h.elim

theorem pair_at {l : List Value} (h : l.Pairwise Apart) {i j : Nat} (hij : i < j) {a b : Value} (ha : l[i]? = some a) (hb : l[j]? = some b) : Apart a b := by
  obtain ⟨hi, rfl⟩ := List.getElem?_eq_some_iff.1 ha
  obtain ⟨hj, rfl⟩ := List.getElem?_eq_some_iff.1 hb
  exact List.pairwise_iff_getElem.1 h i j hi hj hij
theorem row_box {w : World} {base B : Nat} {e T : TypeId} {size n : Nat} {v : Value} {xs vs : List Value} (h : w.ownsRow base e size v n xs) (hb : BoxAt w B vs T) (hne : e ≠ T) : v.ownBlock ≠ some B := by
  intro hv
  rcases h.2 with ⟨rfl, _⟩ | ⟨g, cap, cur, rfl, _, hh, _⟩
  · simp [Value.ownBlock] at hv
  · have e1 : g = B := by simpa [Value.ownBlock] using hv
    subst e1
    unfold BoxAt at hb
    rw [hb] at hh
    injection hh with hh
    injection hh with _ ht
    exact hne ht.symm

set_option maxRecDepth 100000 in
set_option maxHeartbeats 8000000 in
theorem pskN_ok (v : Value) (p : Pat) (k : Nat) (w : World) (h : SP w v p) (hr : rightB p = true) (hb : pskBad p ((k : Int) + 1) = false) :
    Calls Tryz.prog 60 #[v, .int .i64 ((k : Int) + 1)] w fun e w' => ∃ v', e = .returned (.tuple #[v', .int .i64 0]) ∧ SP w' v' (pskP p ((k : Int) + 1)) ∧ Bl w w' := by
  have hv := h
  have hs := ((right_iff p).1 hr).small
  have HPS := Lib.hid hs
  have hat : pskAt ((k : Int) + 1) = k := by unfold pskAt; omega
  have HAT := Lib.hid hat
  rw [pskBad, hat] at hb
  simp only [Bool.or_eq_false_iff, decide_eq_false_iff_not] at hb
  obtain ⟨⟨hb1, hb2⟩, hb3⟩ := hb
  have hk : k < p.msgs.length := by omega
  have hl6 : p.msgs.length ≤ 100 := hs.msgs
  have hkl : p.msgs.getD k ⟨0, []⟩ = p.msgs[k] := by simp [hk]
  rw [hkl] at hb3
  obtain ⟨v0, v1, vm, rfl, hn, h0, h1, hm⟩ := h
  obtain ⟨a0, c0, rfl⟩ := h0.form
  obtain ⟨a1, c1, rfl⟩ := h1.form
  obtain ⟨am, cm, rfl⟩ := hm.form
  have x := (BoxAt.new w #[.string p.name, .slice a0 p.pre0.length c0, .slice a1 p.pre1.length c1, .slice am p.msgs.length cm] 26).alloc (.cells #[.string ⟨#[]⟩, .slice none 0 0, .slice none 0 0, .slice none 0 0] 26)
  have r := BoxAt.new (w.alloc (.cells #[.string p.name, .slice a0 p.pre0.length c0, .slice a1 p.pre1.length c1, .slice am p.msgs.length cm] 26)) #[.string ⟨#[]⟩, .slice none 0 0, .slice none 0 0, .slice none 0 0] 26
  have H : Bl w ((w.alloc (.cells #[.string p.name, .slice a0 p.pre0.length c0, .slice a1 p.pre1.length c1, .slice am p.msgs.length cm] 26)).alloc (.cells #[.string ⟨#[]⟩, .slice none 0 0, .slice none 0 0, .slice none 0 0] 26)) := ((Bl.refl w).alloc _).alloc _
  simp only [size_alloc] at r
  clear h0 h1 hb1 hkl hs hat
  go_enter Tryz.func60, Tryz.ntmps60
  go_wp2_with fail
  refine (rightBB_any _ p _ (hv.bl H) true hr).mono ?_
  rintro e w1 ⟨rfl, hbl1⟩
  have r1 := r.bl hbl1
  have x1 := x.bl hbl1
  have H1 := H.trans hbl1
  obtain ⟨b, o, u, rfl, hca, hcb, hu⟩ := (hm.bl H1).at k hk
  obtain ⟨g0, g1, g2, g3⟩ : _ ∧ _ ∧ _ ∧ _ := ⟨x1.cell 0 rfl, x1.cell 1 rfl, x1.cell 2 rfl, x1.cell 3 rfl⟩
  have HPM : Hid (pskM ((k : Int) + 1) p.msgs[k] = ⟨p.msgs[k].who, p.msgs[k].t ++ [7]⟩) := Lib.hid (by unfold pskM; rw [if_neg (by omega)])
  have hwk : IntKind.i64.wrap ((k : Int) + 1 - 1) = (k : Int) := IntWalk.i64_in _ (by omega) |>.trans (by omega)
  have hlt12 : ¬ 12 ≤ p.msgs[k].t.length := hb3
  have HTW := Lib.hid (show p.msgs[k].t.length = p.msgs[k].t.length from rfl)
  obtain ⟨ua, uc, rfl⟩ := hu.form
  have d12 : decide (12 ≤ (p.msgs[k].t.length : Int)) = false := by simp; omega
  have dlt : decide ((p.msgs.length : Int) < (k : Int) + 1) = false := by simp; omega
  go_wp2_with fail
  refine (own_any _ p _ (hv.bl H1) HPS.out).mono ?_
  rintro e w2 ⟨v2, rfl, ⟨u0, u1, um, xs, rfl, ho0, ho1, hom, hmo, hpw⟩, hb2'⟩
  have hkl2 : 0 < p.msgs.length := by omega
  obtain ⟨gm, cap, hue, hge, _⟩ := own_cells hom (by decide) hkl2
  subst hue
  obtain ⟨tk, hx0, hx1, htv, hot⟩ := hmo.at k hk
  obtain ⟨ua0, uc0, hue0⟩ := own_form ho0
  subst hue0
  obtain ⟨ua1, uc1, hue1⟩ := own_form ho1
  subst hue1
  have x2 := x1.bl hb2'
  have r2 := r1.bl hb2'
  have H2 := H1.trans hb2'
  have hsz1 : w.heap.size ≤ w1.heap.size := H1.size
  clear g0 g1 g2 g3 hca hcb hu hbl1
  obtain ⟨g0, g1, g2, g3⟩ : _ ∧ _ ∧ _ ∧ _ := ⟨x2.cell 0 rfl, x2.cell 1 rfl, x2.cell 2 rfl, x2.cell 3 rfl⟩
  obtain ⟨f0, f1, f2, f3⟩ : _ ∧ _ ∧ _ ∧ _ := ⟨x2.free 0, x2.free 1, x2.free 2, x2.free 3⟩
  have hlx := x2.lt
  go_upto_region 7 with fail
  have x3 := x2.set4 (.string p.name) (.slice ua0 p.pre0.length uc0) (.slice ua1 p.pre1.length uc1) (.slice (some ⟨gm, 0, none⟩) p.msgs.length cap)
  have r3 := r2.oth4 (B := w.heap.size) (by omega) (.string p.name) (.slice ua0 p.pre0.length uc0) (.slice ua1 p.pre1.length uc1) (.slice (some ⟨gm, 0, none⟩) p.msgs.length cap)
  have H3 := H2.set4 (B := w.heap.size) (Nat.le_refl _) (.string p.name) (.slice ua0 p.pre0.length uc0) (.slice ua1 p.pre1.length uc1) (.slice (some ⟨gm, 0, none⟩) p.msgs.length cap)
  have ko0 := own_set4 ho0 x2 (by decide) (.string p.name) (.slice ua0 p.pre0.length uc0) (.slice ua1 p.pre1.length uc1) (.slice (some ⟨gm, 0, none⟩) p.msgs.length cap)
  have ko1 := own_set4 ho1 x2 (by decide) (.string p.name) (.slice ua0 p.pre0.length uc0) (.slice ua1 p.pre1.length uc1) (.slice (some ⟨gm, 0, none⟩) p.msgs.length cap)
  have kom := own_set4 hom x2 (by decide) (.string p.name) (.slice ua0 p.pre0.length uc0) (.slice ua1 p.pre1.length uc1) (.slice (some ⟨gm, 0, none⟩) p.msgs.length cap)
  have kmo := hmo.map (fun _ _ h => own_set4 h x2 (by decide) (.string p.name) (.slice ua0 p.pre0.length uc0) (.slice ua1 p.pre1.length uc1) (.slice (some ⟨gm, 0, none⟩) p.msgs.length cap))
  have kot := own_set4 hot x2 (by decide) (.string p.name) (.slice ua0 p.pre0.length uc0) (.slice ua1 p.pre1.length uc1) (.slice (some ⟨gm, 0, none⟩) p.msgs.length cap)
  generalize ((((w2.setCell ⟨w.heap.size, 0, none⟩ (.string p.name)).setCell ⟨w.heap.size, 1, none⟩ (.slice ua0 p.pre0.length uc0)).setCell ⟨w.heap.size, 2, none⟩ (.slice ua1 p.pre1.length uc1)).setCell ⟨w.heap.size, 3, none⟩ (.slice (some ⟨gm, 0, none⟩) p.msgs.length cap)) = w3 at x3 r3 H3 ko0 ko1 kom kmo kot ⊢
  clear x2 r2 ho0 ho1 hom hmo hot g0 g1 g2 g3 f0 f1 f2 f3 hb2' H2
  obtain ⟨i0, hi, hz0, hz1, hz2⟩ := info_parts infoInt
  have HMS : Hid (p.msgs[k].t.length ≤ 12) := Lib.hid (by omega)
  have HX0 := Lib.hid hx0
  have HX1 := Lib.hid hx1
  have ct : w3.cell? ⟨gm, k * 2 + 1, none⟩ = some tk := by rw [kom.cellAt _ (by omega)]; exact hx1
  have ft := kom.frozenAt (k * 2 + 1)
  have hgl : gm < w3.heap.size := own_lt kom gm rfl
  obtain ⟨ta, tc, hte⟩ := own_form kot
  subst hte
  have hneq : (((k : Int) + 1) == 0) = false := by simp; omega
  have g3 := x3.cell 3 rfl
  have htl : p.msgs[k].t.length ≤ 12 := HMS.out
  have H4 : Bl w3 (w3.alloc (.cells #[.int .i64 7] 3)) := (Bl.refl w3).alloc _
  have kot4 := own_keep kot H4
  clear hx0 hx1 hb3 hlt12 HTW d12 dlt hwk
  generalize hTT : p.msgs[k].t = T at *
  have HTT := Lib.hid hTT
  clear hTT
  go_wp2_with (at_builtin; refine wpList_append_own _ rfl (.tmp 54) (.tmp 55) 22 rfl w1.heap.size 3 i0 (.int .i64 0) 1 8 Tryz.underlying22 hi hz0 hz1 hz2 rfl (by decide) _ _ _ rfl kot4 ⟨w3.heap.size, 0, none⟩ 1 1 [.int .i64 7] rfl rfl ?c1 ?c2 ?c3 ?c4 ?c5 ?_)
  case c1 =>
    intro j u hj
    match j, hj with
    | 0, hj => simp at hj; subst hj; simp [Addr.add, go_sem]
    | j + 1, hj => simp at hj
  case c2 => intro u hu; simp at hu; subst hu; rfl
  case c3 => unfold maxLen; omega
  case c4 => omega
  case c5 => rw [size_alloc]; omega
  intro v4 w4 hown4 hg4 _
  obtain ⟨ta4, tc4, hte4⟩ := own_form hown4
  subst hte4
  have k0 := own_keep ko0 H4
  have k1 := own_keep ko1 H4
  have km := own_keep kom H4
  have kmo4 := kmo.bl H4
  have hp2 := List.pairwise_cons.1 hpw
  have hp3 := List.pairwise_cons.1 hp2.2
  have htm : (Value.slice ta T.length tc) ∈ tvs xs := List.mem_of_getElem? htv
  have j0 := k0.kept hg4 (hp2.1 _ (List.mem_cons_of_mem _ htm))
  have j1 := k1.kept hg4 (hp3.1 _ htm)
  have jm := km.kept hg4 (own_apart km kot4 (by decide))
  have x4 := (x3.alloc (.cells #[.int .i64 7] 3)).grown kot4 (by decide) hg4
  have r4 := (r3.alloc (.cells #[.int .i64 7] 3)).grown kot4 (by decide) hg4
  have hb4 := Below.ofGrown kot4 hg4 (by rw [size_alloc]; omega)
  have H5 : Bl w w4 := (H3.alloc (.cells #[.int .i64 7] 3)).below hb4 hsz1
  have ft4 := jm.frozenAt (k * 2 + 1)
  have ct4 : w4.cell? ⟨gm, k * 2 + 1, none⟩ = some (.slice ta T.length tc) := by rw [jm.cellAt _ (by omega)]; exact HX1.out
  have hgl4 : gm < w4.heap.size := own_lt jm gm rfl
  obtain ⟨jm5, hg5⟩ := jm.stored (k * 2 + 1) (.slice ta4 (T.length + 1) tc4)
  have hmo5 : MOwn (w4.setCell ⟨gm, k * 2 + 1, none⟩ (.slice ta4 (T.length + 1) tc4)) w1.heap.size 3 (xs.set (k * 2 + 1) (.slice ta4 (T.length + 1) tc4)) (p.msgs.modify k (pskM ((k : Int) + 1))) := by
    refine MOwn.change (w := (w3.alloc (.cells #[.int .i64 7] 3))) (pskM ((k : Int) + 1)) (.slice ta4 (T.length + 1) tc4) (T ++ [7]) ?_ (by rw [List.length_append]; simp only [List.length_cons, List.length_nil]; omega) k hk kmo4 ?_ HPM.out
    · have e := hown4.kept hg5 (own_apart hown4 jm (by decide))
      rw [List.length_append, List.map_append]
      exact e
    · intro j u hj hu t ht
      have hap : Apart u (.slice ta T.length tc) := by
        rcases Nat.lt_or_gt_of_ne hj with hlt | hgt
        · exact (pair_at hp3.2 hlt hu htv)
        · exact (pair_at hp3.2 hgt htv hu).symm
      have e := ht.kept hg4 hap
      exact e.kept hg5 (own_apart e jm (by decide))
  have j05 := j0.kept hg5 (own_apart j0 jm (by decide))
  have j15 := j1.kept hg5 (own_apart j1 jm (by decide))
  have hgx : w.heap.size ≠ gm := by
    rintro rfl
    exact row_box jm x4 (by decide) rfl
  have hgr : w.heap.size + 1 ≠ gm := by
    rintro h
    exact row_box jm r4 (by decide) (by rw [h]; rfl)
  have x5 := x4.other (a := ⟨gm, k * 2 + 1, none⟩) hgx (.slice ta4 (T.length + 1) tc4)
  have r5 := r4.other (a := ⟨gm, k * 2 + 1, none⟩) hgr (.slice ta4 (T.length + 1) tc4)
  have H6 := H5.setCell (a := ⟨gm, k * 2 + 1, none⟩) (by show w.heap.size ≤ gm; omega) (.slice ta4 (T.length + 1) tc4)
  clear g3 kmo kmo4 k0 k1 km
  go_upto_region 11 with fail
  generalize w4.setCell ⟨gm, k * 2 + 1, none⟩ (.slice ta4 (T.length + 1) tc4) = w5 at x5 r5 H6 j05 j15 jm5 hmo5 ⊢
  obtain ⟨g0, g1, g2, g3⟩ : _ ∧ _ ∧ _ ∧ _ := ⟨x5.cell 0 rfl, x5.cell 1 rfl, x5.cell 2 rfl, x5.cell 3 rfl⟩
  obtain ⟨q0, q1, q2, q3⟩ : _ ∧ _ ∧ _ ∧ _ := ⟨r5.cell 0 rfl, r5.cell 1 rfl, r5.cell 2 rfl, r5.cell 3 rfl⟩
  obtain ⟨f0, f1, f2, f3⟩ : _ ∧ _ ∧ _ ∧ _ := ⟨r5.free 0, r5.free 1, r5.free 2, r5.free 3⟩
  have hlr := r5.lt
  go_wp2
  have yf := r5.set4 (.string p.name) (.slice ua0 p.pre0.length uc0) (.slice ua1 p.pre1.length uc1) (.slice (some ⟨gm, 0, none⟩) p.msgs.length cap)
  obtain ⟨p0, p1, p2, p3⟩ : _ ∧ _ ∧ _ ∧ _ := ⟨yf.cell 0 rfl, yf.cell 1 rfl, yf.cell 2 rfl, yf.cell 3 rfl⟩
  refine bodyPost_ret (v := .tuple #[.agg #[(.string p.name), (.slice ua0 p.pre0.length uc0), (.slice ua1 p.pre1.length uc1), (.slice (some ⟨gm, 0, none⟩) p.msgs.length cap)], .int .i64 0]) (by simp [results, Tryz.results60, go_sem, p0, p1, p2, p3]) rfl ⟨_, rfl, ⟨_, _, _, rfl, hn, ?_, ?_, ?_⟩, H6.set4 (by omega) _ _ _ _⟩
  · exact own_SI (l := p.pre0) (own_set4 j05 r5 (by decide) _ _ _ _) (by have := HPS.out.pre0; omega)
  · exact own_SI (l := p.pre1) (own_set4 j15 r5 (by decide) _ _ _ _) (by have := HPS.out.pre1; omega)
  · have e := hmo5.map (fun _ _ h => own_set4 h r5 (by decide) (.string p.name) (.slice ua0 p.pre0.length uc0) (.slice ua1 p.pre1.length uc1) (.slice (some ⟨gm, 0, none⟩) p.msgs.length cap))
    have e2 := own_set4 jm5 r5 (by decide) (.string p.name) (.slice ua0 p.pre0.length uc0) (.slice ua1 p.pre1.length uc1) (.slice (some ⟨gm, 0, none⟩) p.msgs.length cap)
    rw [show (pskP p ((k : Int) + 1)).msgs = p.msgs.modify k (pskM ((k : Int) + 1)) by unfold pskP; simp only; rw [HAT.out]]
    exact own_SM e2 e.row (by rw [List.length_modify]; omega)
end Go.Proofs.YtffibiigoikmdaaGreatDoor

set_option linter.unusedSimpArgs false
set_option linter.unusedVariables false
namespace Go.Proofs.YtffibiigoikmdaaGreatDoor
open Go.RowKit Go.Sort

theorem add_zero_at (g j : Nat) : (⟨g, 0, none⟩ : Addr).add j = ⟨g, j, none⟩ := by
  unfold Addr.add
  split
  · rename_i h; subst h; rfl
  · simp
theorem lit_apart {w : World} {base : Nat} {e : TypeId} {size n : Nat} {v : Value} {xs : List Value} (h : w.ownsRow base e size v n xs) : v.ownBlock = none ∨ v.ownBlock ≠ (Value.slice (some ⟨w.heap.size, 0, none⟩) 1 1).ownBlock := by
  refine .inr fun hv => ?_
  have := own_lt h w.heap.size (by rw [hv]; rfl)
  omega

set_option maxRecDepth 100000 in
set_option maxHeartbeats 8000000 in
theorem psk0_ok (v : Value) (p : Pat) (w : World) (h : SP w v p) (hr : rightB p = true) (hb : pskBad p (0 : Int) = false) :
    Calls Tryz.prog 60 #[v, .int .i64 0] w fun e w' => ∃ v', e = .returned (.tuple #[v', .int .i64 0]) ∧ SP w' v' (pskP p (0 : Int)) ∧ Bl w w' := by
  have hv := h
  have hs := ((right_iff p).1 hr).small
  have HPS := Lib.hid hs
  have hat : pskAt (0 : Int) = 0 := by unfold pskAt; omega
  have HAT := Lib.hid hat
  rw [pskBad, hat] at hb
  simp only [Bool.or_eq_false_iff, decide_eq_false_iff_not] at hb
  obtain ⟨⟨hb1, hb2⟩, hb3⟩ := hb
  have hk : 0 < p.msgs.length := by have := (right_parts hr).2.2.1; omega
  have htn : p.msgs[0].t ≠ [] := by
    have := (right_iff p).1 hr
    intro h0
    have hg := this.msgs p.msgs[0] (List.getElem_mem hk)
    simp only [badMsg, h0, Bool.or_eq_false_iff, decide_eq_false_iff_not] at hg
    simp at hg
  have hl6 : p.msgs.length ≤ 100 := hs.msgs
  have hkl : p.msgs.getD 0 ⟨0, []⟩ = p.msgs[0] := by simp [hk]
  rw [hkl] at hb3
  obtain ⟨v0, v1, vm, rfl, hn, h0, h1, hm⟩ := h
  obtain ⟨a0, c0, rfl⟩ := h0.form
  obtain ⟨a1, c1, rfl⟩ := h1.form
  obtain ⟨am, cm, rfl⟩ := hm.form
  have x := (BoxAt.new w #[.string p.name, .slice a0 p.pre0.length c0, .slice a1 p.pre1.length c1, .slice am p.msgs.length cm] 26).alloc (.cells #[.string ⟨#[]⟩, .slice none 0 0, .slice none 0 0, .slice none 0 0] 26)
  have r := BoxAt.new (w.alloc (.cells #[.string p.name, .slice a0 p.pre0.length c0, .slice a1 p.pre1.length c1, .slice am p.msgs.length cm] 26)) #[.string ⟨#[]⟩, .slice none 0 0, .slice none 0 0, .slice none 0 0] 26
  have H : Bl w ((w.alloc (.cells #[.string p.name, .slice a0 p.pre0.length c0, .slice a1 p.pre1.length c1, .slice am p.msgs.length cm] 26)).alloc (.cells #[.string ⟨#[]⟩, .slice none 0 0, .slice none 0 0, .slice none 0 0] 26)) := ((Bl.refl w).alloc _).alloc _
  simp only [size_alloc] at r
  clear h0 h1 hb1 hkl hs hat
  go_enter Tryz.func60, Tryz.ntmps60
  go_wp2_with fail
  refine (rightBB_any _ p _ (hv.bl H) true hr).mono ?_
  rintro e w1 ⟨rfl, hbl1⟩
  have r1 := r.bl hbl1
  have x1 := x.bl hbl1
  have H1 := H.trans hbl1
  obtain ⟨b, o, u, rfl, hca, hcb, hu⟩ := (hm.bl H1).at 0 hk
  obtain ⟨g0, g1, g2, g3⟩ : _ ∧ _ ∧ _ ∧ _ := ⟨x1.cell 0 rfl, x1.cell 1 rfl, x1.cell 2 rfl, x1.cell 3 rfl⟩
  have HPM : Hid (pskM (0 : Int) p.msgs[0] = ⟨p.msgs[0].who, 7 :: p.msgs[0].t⟩) := Lib.hid (by unfold pskM; rw [if_pos rfl])
  have hlt12 : ¬ 12 ≤ p.msgs[0].t.length := hb3
  have HTW := Lib.hid (show p.msgs[0].t.length = p.msgs[0].t.length from rfl)
  obtain ⟨ua, uc, rfl⟩ := hu.form
  have d12 : decide (12 ≤ (p.msgs[0].t.length : Int)) = false := by simp; omega
  have dlt : decide ((p.msgs.length : Int) < 0) = false := by simp
  simp only [Nat.zero_mul, Nat.add_zero, Nat.zero_add] at hca hcb
  have hkZ : (0 : Int) < (p.msgs.length : Int) := by omega
  have hmx : max (-1 : Int) 0 = 0 := by decide
  go_wp2_with fail
  refine (own_any _ p _ (hv.bl H1) HPS.out).mono ?_
  rintro e w2 ⟨v2, rfl, ⟨u0, u1, um, xs, rfl, ho0, ho1, hom, hmo, hpw⟩, hb2'⟩
  have hkl2 : 0 < p.msgs.length := by omega
  obtain ⟨gm, cap, hue, hge, _⟩ := own_cells hom (by decide) hkl2
  subst hue
  obtain ⟨tk, hx0, hx1, htv, hot⟩ := hmo.at 0 hk
  obtain ⟨ua0, uc0, hue0⟩ := own_form ho0
  subst hue0
  obtain ⟨ua1, uc1, hue1⟩ := own_form ho1
  subst hue1
  have x2 := x1.bl hb2'
  have r2 := r1.bl hb2'
  have H2 := H1.trans hb2'
  have hsz1 : w.heap.size ≤ w1.heap.size := H1.size
  clear g0 g1 g2 g3 hca hcb hu hbl1
  obtain ⟨g0, g1, g2, g3⟩ : _ ∧ _ ∧ _ ∧ _ := ⟨x2.cell 0 rfl, x2.cell 1 rfl, x2.cell 2 rfl, x2.cell 3 rfl⟩
  obtain ⟨f0, f1, f2, f3⟩ : _ ∧ _ ∧ _ ∧ _ := ⟨x2.free 0, x2.free 1, x2.free 2, x2.free 3⟩
  have hlx := x2.lt
  go_upto_region 7 with fail
  have x3 := x2.set4 (.string p.name) (.slice ua0 p.pre0.length uc0) (.slice ua1 p.pre1.length uc1) (.slice (some ⟨gm, 0, none⟩) p.msgs.length cap)
  have r3 := r2.oth4 (B := w.heap.size) (by omega) (.string p.name) (.slice ua0 p.pre0.length uc0) (.slice ua1 p.pre1.length uc1) (.slice (some ⟨gm, 0, none⟩) p.msgs.length cap)
  have H3 := H2.set4 (B := w.heap.size) (Nat.le_refl _) (.string p.name) (.slice ua0 p.pre0.length uc0) (.slice ua1 p.pre1.length uc1) (.slice (some ⟨gm, 0, none⟩) p.msgs.length cap)
  have ko0 := own_set4 ho0 x2 (by decide) (.string p.name) (.slice ua0 p.pre0.length uc0) (.slice ua1 p.pre1.length uc1) (.slice (some ⟨gm, 0, none⟩) p.msgs.length cap)
  have ko1 := own_set4 ho1 x2 (by decide) (.string p.name) (.slice ua0 p.pre0.length uc0) (.slice ua1 p.pre1.length uc1) (.slice (some ⟨gm, 0, none⟩) p.msgs.length cap)
  have kom := own_set4 hom x2 (by decide) (.string p.name) (.slice ua0 p.pre0.length uc0) (.slice ua1 p.pre1.length uc1) (.slice (some ⟨gm, 0, none⟩) p.msgs.length cap)
  have kmo := hmo.map (fun _ _ h => own_set4 h x2 (by decide) (.string p.name) (.slice ua0 p.pre0.length uc0) (.slice ua1 p.pre1.length uc1) (.slice (some ⟨gm, 0, none⟩) p.msgs.length cap))
  have kot := own_set4 hot x2 (by decide) (.string p.name) (.slice ua0 p.pre0.length uc0) (.slice ua1 p.pre1.length uc1) (.slice (some ⟨gm, 0, none⟩) p.msgs.length cap)
  generalize ((((w2.setCell ⟨w.heap.size, 0, none⟩ (.string p.name)).setCell ⟨w.heap.size, 1, none⟩ (.slice ua0 p.pre0.length uc0)).setCell ⟨w.heap.size, 2, none⟩ (.slice ua1 p.pre1.length uc1)).setCell ⟨w.heap.size, 3, none⟩ (.slice (some ⟨gm, 0, none⟩) p.msgs.length cap)) = w3 at x3 r3 H3 ko0 ko1 kom kmo kot ⊢
  clear x2 r2 ho0 ho1 hom hmo hot g0 g1 g2 g3 f0 f1 f2 f3 hb2' H2
  obtain ⟨i0, hi, hz0, hz1, hz2⟩ := info_parts infoInt
  have HMS : Hid (p.msgs[0].t.length ≤ 12) := Lib.hid (by omega)
  have HX0 := Lib.hid hx0
  have HX1 := Lib.hid hx1
  have ct : w3.cell? ⟨gm, 1, none⟩ = some tk := by rw [kom.cellAt _ (by omega)]; exact hx1
  have ft := kom.frozenAt 1
  have hgl : gm < w3.heap.size := own_lt kom gm rfl
  obtain ⟨ta, tc, hte⟩ := own_form kot
  subst hte
  have g3 := x3.cell 3 rfl
  have htl : p.msgs[0].t.length ≤ 12 := HMS.out
  have H4 : Bl w3 (w3.alloc (.cells #[.int .i64 7] 3)) := (Bl.refl w3).alloc _
  have kot4 := own_keep kot H4
  have hT0 : 0 < p.msgs[0].t.length := List.length_pos_iff.2 htn
  obtain ⟨tg, tc', hte', _, htc⟩ := own_cells kot4 (by decide) hT0
  injection hte' with hta _ htc'
  subst hta
  subst htc'
  have hlit := World.ownsRow_lit (base := w1.heap.size) (e := 3) (size := 1) w3 #[.int .i64 7] 1 (by omega) (by unfold maxLen; omega) rfl
  clear hx0 hx1 hb3 hlt12 HTW d12 dlt
  generalize hTT : p.msgs[0].t = T at *
  have HTT := Lib.hid hTT
  clear hTT
  have htc2 : ∀ (j : Nat) (u : Value), (T.map (Value.int .i64))[j]? = some u → (w3.alloc (.cells #[.int .i64 7] 3)).cell? ((⟨tg, 0, none⟩ : Addr).add j) = some u := fun j u hj => by
    rw [add_zero_at]
    exact htc j u hj
  have HTC2 := Lib.hid htc2
  clear htc htc2
  go_wp2_with (at_builtin; refine wpList_append_own _ rfl (.tmp 45) (.tmp 48) 22 rfl w1.heap.size 3 i0 (.int .i64 0) 1 8 Tryz.underlying22 hi hz0 hz1 hz2 rfl (by decide) _ _ _ rfl hlit ⟨tg, 0, none⟩ T.length _ (T.map (Value.int .i64)) rfl (by simp) HTC2.out ?c2 ?c3 ?c4 ?c5 ?_)
  case c2 => intro u hu; simp [Value.oneCell']
  case c3 => unfold maxLen; omega
  case c4 => omega
  case c5 => first | omega | (rw [size_alloc]; omega)
  intro v4 w4 hown4 hg4 _
  obtain ⟨ta4, tc4, hte4⟩ := own_form hown4
  subst hte4
  have k0 := own_keep ko0 H4
  have k1 := own_keep ko1 H4
  have km := own_keep kom H4
  have kmo4 := kmo.bl H4
  have hp2 := List.pairwise_cons.1 hpw
  have hp3 := List.pairwise_cons.1 hp2.2
  have htm : (Value.slice (some ⟨tg, 0, none⟩) T.length tc) ∈ tvs xs := List.mem_of_getElem? htv
  have j0 := k0.kept hg4 (lit_apart ko0)
  have j1 := k1.kept hg4 (lit_apart ko1)
  have jm := km.kept hg4 (lit_apart kom)
  have x4 := (x3.alloc (.cells #[.int .i64 7] 3)).grown hlit (by decide) hg4
  have r4 := (r3.alloc (.cells #[.int .i64 7] 3)).grown hlit (by decide) hg4
  have hb4 := Below.ofGrown hlit hg4 (by rw [size_alloc]; omega)
  have H5 : Bl w w4 := (H3.alloc (.cells #[.int .i64 7] 3)).below hb4 hsz1
  have ft4 := jm.frozenAt 1
  have ct4 : w4.cell? ⟨gm, 1, none⟩ = some (.slice (some ⟨tg, 0, none⟩) T.length tc) := by rw [jm.cellAt _ (by omega)]; exact HX1.out
  have hgl4 : gm < w4.heap.size := own_lt jm gm rfl
  obtain ⟨jm5, hg5⟩ := jm.stored 1 (.slice ta4 (1 + T.length) tc4)
  have hmo5 : MOwn (w4.setCell ⟨gm, 1, none⟩ (.slice ta4 (1 + T.length) tc4)) w1.heap.size 3 (xs.set 1 (.slice ta4 (1 + T.length) tc4)) (p.msgs.modify 0 (pskM (0 : Int))) := by
    refine MOwn.change (w := w3) (pskM (0 : Int)) (.slice ta4 (1 + T.length) tc4) (7 :: T) ?_ (by simp only [List.length_cons]; omega) 0 hk kmo ?_ HPM.out
    · have e := hown4.kept hg5 (own_apart hown4 jm (by decide))
      rw [show (7 :: T).length = 1 + T.length by simp only [List.length_cons]; omega]
      exact e
    · intro j u hj hu t ht
      have e := (own_keep ht H4).kept hg4 (lit_apart ht)
      exact e.kept hg5 (own_apart e jm (by decide))
  have j05 := j0.kept hg5 (own_apart j0 jm (by decide))
  have j15 := j1.kept hg5 (own_apart j1 jm (by decide))
  have hgx : w.heap.size ≠ gm := by
    rintro rfl
    exact row_box jm x4 (by decide) rfl
  have hgr : w.heap.size + 1 ≠ gm := by
    rintro h
    exact row_box jm r4 (by decide) (by rw [h]; rfl)
  have x5 := x4.other (a := ⟨gm, 1, none⟩) hgx (.slice ta4 (1 + T.length) tc4)
  have r5 := r4.other (a := ⟨gm, 1, none⟩) hgr (.slice ta4 (1 + T.length) tc4)
  have H6 := H5.setCell (a := ⟨gm, 1, none⟩) (by show w.heap.size ≤ gm; omega) (.slice ta4 (1 + T.length) tc4)
  clear g3 kmo kmo4 k0 k1 km
  go_upto_region 11 with fail
  generalize w4.setCell ⟨gm, 1, none⟩ (.slice ta4 (1 + T.length) tc4) = w5 at x5 r5 H6 j05 j15 jm5 hmo5 ⊢
  obtain ⟨g0, g1, g2, g3⟩ : _ ∧ _ ∧ _ ∧ _ := ⟨x5.cell 0 rfl, x5.cell 1 rfl, x5.cell 2 rfl, x5.cell 3 rfl⟩
  obtain ⟨q0, q1, q2, q3⟩ : _ ∧ _ ∧ _ ∧ _ := ⟨r5.cell 0 rfl, r5.cell 1 rfl, r5.cell 2 rfl, r5.cell 3 rfl⟩
  obtain ⟨f0, f1, f2, f3⟩ : _ ∧ _ ∧ _ ∧ _ := ⟨r5.free 0, r5.free 1, r5.free 2, r5.free 3⟩
  have hlr := r5.lt
  go_wp2
  have yf := r5.set4 (.string p.name) (.slice ua0 p.pre0.length uc0) (.slice ua1 p.pre1.length uc1) (.slice (some ⟨gm, 0, none⟩) p.msgs.length cap)
  obtain ⟨p0, p1, p2, p3⟩ : _ ∧ _ ∧ _ ∧ _ := ⟨yf.cell 0 rfl, yf.cell 1 rfl, yf.cell 2 rfl, yf.cell 3 rfl⟩
  refine bodyPost_ret (v := .tuple #[.agg #[(.string p.name), (.slice ua0 p.pre0.length uc0), (.slice ua1 p.pre1.length uc1), (.slice (some ⟨gm, 0, none⟩) p.msgs.length cap)], .int .i64 0]) (by simp [results, Tryz.results60, go_sem, p0, p1, p2, p3]) rfl ⟨_, rfl, ⟨_, _, _, rfl, hn, ?_, ?_, ?_⟩, H6.set4 (by omega) _ _ _ _⟩
  · exact own_SI (l := p.pre0) (own_set4 j05 r5 (by decide) _ _ _ _) (by have := HPS.out.pre0; omega)
  · exact own_SI (l := p.pre1) (own_set4 j15 r5 (by decide) _ _ _ _) (by have := HPS.out.pre1; omega)
  · have e := hmo5.map (fun _ _ h => own_set4 h r5 (by decide) (.string p.name) (.slice ua0 p.pre0.length uc0) (.slice ua1 p.pre1.length uc1) (.slice (some ⟨gm, 0, none⟩) p.msgs.length cap))
    have e2 := own_set4 jm5 r5 (by decide) (.string p.name) (.slice ua0 p.pre0.length uc0) (.slice ua1 p.pre1.length uc1) (.slice (some ⟨gm, 0, none⟩) p.msgs.length cap)
    rw [show (pskP p (0 : Int)).msgs = p.msgs.modify 0 (pskM (0 : Int)) by unfold pskP; simp only; rw [HAT.out]]
    exact own_SM e2 e.row (by rw [List.length_modify]; omega)
end Go.Proofs.YtffibiigoikmdaaGreatDoor

set_option linter.unusedSimpArgs false
set_option linter.unusedVariables false
namespace Go.Proofs.YtffibiigoikmdaaGreatDoor
open Go.RowKit Go.Sort

set_option maxRecDepth 100000 in
set_option maxHeartbeats 8000000 in
theorem psk_rule (v : Value) (p : Pat) (n : Int) (w : World) (h : SP w v p) (hr : rightB p = true) (hb : pskBad p n = true) (hn1 : -9223372036854775808 ≤ n) (hn2 : n ≤ 9223372036854775807) :
    Calls Tryz.prog 60 #[v, .int .i64 n] w fun e w' => ∃ v', e = .returned (.tuple #[v', .int .i64 13]) ∧ SP w' v' zeroP ∧ Bl w w' := by
  have hv := h
  have hl6 : p.msgs.length ≤ 100 := ((right_iff p).1 hr).small.msgs
  have hl1 : 1 ≤ p.msgs.length := (right_parts hr).2.2.1
  have HPB := Lib.hid hb
  clear hb
  obtain ⟨v0, v1, vm, rfl, hn, h0, h1, hm⟩ := h
  obtain ⟨a0, c0, rfl⟩ := h0.form
  obtain ⟨a1, c1, rfl⟩ := h1.form
  obtain ⟨am, cm, rfl⟩ := hm.form
  have x := (BoxAt.new w #[.string p.name, .slice a0 p.pre0.length c0, .slice a1 p.pre1.length c1, .slice am p.msgs.length cm] 26).alloc (.cells #[.string ⟨#[]⟩, .slice none 0 0, .slice none 0 0, .slice none 0 0] 26)
  have r := BoxAt.new (w.alloc (.cells #[.string p.name, .slice a0 p.pre0.length c0, .slice a1 p.pre1.length c1, .slice am p.msgs.length cm] 26)) #[.string ⟨#[]⟩, .slice none 0 0, .slice none 0 0, .slice none 0 0] 26
  have H : Bl w ((w.alloc (.cells #[.string p.name, .slice a0 p.pre0.length c0, .slice a1 p.pre1.length c1, .slice am p.msgs.length cm] 26)).alloc (.cells #[.string ⟨#[]⟩, .slice none 0 0, .slice none 0 0, .slice none 0 0] 26)) := ((Bl.refl w).alloc _).alloc _
  simp only [size_alloc] at r
  clear h0 h1
  go_enter Tryz.func60, Tryz.ntmps60
  go_wp2_with fail
  refine (rightBB_any _ p _ (hv.bl H) true hr).mono ?_
  rintro e w1 ⟨rfl, hbl1⟩
  have r1 := r.bl hbl1
  have x1 := x.bl hbl1
  have H1 := H.trans hbl1
  obtain ⟨g0, g1, g2, g3⟩ : _ ∧ _ ∧ _ ∧ _ := ⟨x1.cell 0 rfl, x1.cell 1 rfl, x1.cell 2 rfl, x1.cell 3 rfl⟩
  obtain ⟨q0, q1, q2, q3⟩ : _ ∧ _ ∧ _ ∧ _ := ⟨r1.cell 0 rfl, r1.cell 1 rfl, r1.cell 2 rfl, r1.cell 3 rfl⟩
  obtain ⟨f0, f1, f2, f3⟩ : _ ∧ _ ∧ _ ∧ _ := ⟨r1.free 0, r1.free 1, r1.free 2, r1.free 3⟩
  have hlr := r1.lt
  by_cases hneg : n < 0
  · have d0 : decide (n < 0) = true := by simp [hneg]
    go_wp2
    have yf := r1.set4 (.string ⟨#[]⟩) (.slice none 0 0) (.slice none 0 0) (.slice none 0 0)
    obtain ⟨p0, p1, p2, p3⟩ : _ ∧ _ ∧ _ ∧ _ := ⟨yf.cell 0 rfl, yf.cell 1 rfl, yf.cell 2 rfl, yf.cell 3 rfl⟩
    exact bodyPost_ret (v := .tuple #[.agg #[(.string ⟨#[]⟩), (.slice none 0 0), (.slice none 0 0), (.slice none 0 0)], .int .i64 13]) (by simp [results, Tryz.results60, go_sem, p0, p1, p2, p3]) rfl ⟨_, rfl, zero_SP _, H1.set4 (by omega) _ _ _ _⟩
  · have d0 : decide (n < 0) = false := by simp; omega
    by_cases hbig : (p.msgs.length : Int) < n
    · have d1 : decide ((p.msgs.length : Int) < n) = true := by simp [hbig]
      go_wp2
      have yf := r1.set4 (.string ⟨#[]⟩) (.slice none 0 0) (.slice none 0 0) (.slice none 0 0)
      obtain ⟨p0, p1, p2, p3⟩ : _ ∧ _ ∧ _ ∧ _ := ⟨yf.cell 0 rfl, yf.cell 1 rfl, yf.cell 2 rfl, yf.cell 3 rfl⟩
      exact bodyPost_ret (v := .tuple #[.agg #[(.string ⟨#[]⟩), (.slice none 0 0), (.slice none 0 0), (.slice none 0 0)], .int .i64 13]) (by simp [results, Tryz.results60, go_sem, p0, p1, p2, p3]) rfl ⟨_, rfl, zero_SP _, H1.set4 (by omega) _ _ _ _⟩
    · have d1 : decide ((p.msgs.length : Int) < n) = false := by simp; omega
      have hlong : 12 ≤ (p.msgs.getD (pskAt n) ⟨0, []⟩).t.length := by
        have := HPB.out
        rw [pskBad, d0, d1] at this
        simpa using this
      obtain ⟨k, hkn, hkl⟩ : ∃ k : Nat, pskAt n = k ∧ k < p.msgs.length := ⟨pskAt n, rfl, by unfold pskAt; omega⟩
      rw [hkn, show p.msgs.getD k ⟨0, []⟩ = p.msgs[k] by simp [hkl]] at hlong
      have hmx : max (n - 1) 0 = (k : Int) := by unfold pskAt at hkn; omega
      have hwr : IntKind.i64.wrap (n - 1) = n - 1 := IntWalk.i64_in _ (by omega)
      obtain ⟨b, o, u, rfl, hca, hcb, hu⟩ := (hm.bl H1).at k hkl
      obtain ⟨ua, uc, rfl⟩ := hu.form
      have d12 : decide (12 ≤ (p.msgs[k].t.length : Int)) = true := by simp; omega
      clear hkn hu
      go_wp2
      have yf := r1.set4 (.string ⟨#[]⟩) (.slice none 0 0) (.slice none 0 0) (.slice none 0 0)
      obtain ⟨p0, p1, p2, p3⟩ : _ ∧ _ ∧ _ ∧ _ := ⟨yf.cell 0 rfl, yf.cell 1 rfl, yf.cell 2 rfl, yf.cell 3 rfl⟩
      exact bodyPost_ret (v := .tuple #[.agg #[(.string ⟨#[]⟩), (.slice none 0 0), (.slice none 0 0), (.slice none 0 0)], .int .i64 13]) (by simp [results, Tryz.results60, go_sem, p0, p1, p2, p3]) rfl ⟨_, rfl, zero_SP _, H1.set4 (by omega) _ _ _ _⟩

theorem psk_any (v : Value) (p : Pat) (n : Int) (w : World) (h : SP w v p) (hn1 : -9223372036854775808 ≤ n) (hn2 : n ≤ 9223372036854775807) :
    Calls Tryz.prog 60 #[v, .int .i64 n] w fun e w' => ∃ v', e = .returned (.tuple #[v', .int .i64 (pskE p n)]) ∧ SP w' v' (if pskE p n = 0 then pskP p n else zeroP) ∧ Bl w w' := by
  cases hr : rightB p
  · rw [show pskE p n = 1 by rw [pskE, hr]; rfl]
    exact psk_arg v p n w h hr
  · cases hb : pskBad p n
    · rw [show pskE p n = 0 by rw [pskE, hr, hb]; rfl]
      have h0 : 0 ≤ n := by
        rw [pskBad] at hb
        simp only [Bool.or_eq_false_iff, decide_eq_false_iff_not] at hb
        omega
      rcases Int.lt_or_eq_of_le h0 with h0 | rfl
      · obtain ⟨k, rfl⟩ : ∃ k : Nat, n = (k : Int) + 1 := ⟨(n - 1).toNat, by omega⟩
        exact pskN_ok v p k w h hr hb
      · exact psk0_ok v p w h hr hb
    · rw [show pskE p n = 13 by rw [pskE, hr, hb]; rfl]
      exact psk_rule v p n w h hr hb hn1 hn2
end Go.Proofs.YtffibiigoikmdaaGreatDoor
