/- Walks: base.modified, base.Named. -/
import Derived.Test.YtffibiigoikmdaaGreatDoorB8
import Derived.Test.YtffibiigoikmdaaGreatDoorB3
import Derived.Lib.LaidU8
import Derived.Deep.RegionHeld3
set_option linter.unusedSimpArgs false
set_option linter.unusedVariables false
namespace Go.Proofs.YtffibiigoikmdaaGreatDoor
open Go.RowKit Go.Sort

def pskL : List UInt8 := [112, 115, 107]
def fbL : List UInt8 := [102, 97, 108, 108, 98, 97, 99, 107]
/-- the number behind psk -/
def digS (s : ByteArray) : Option Nat :=
  if Lib.hasPrefix s.data.toList pskL then (match Lib.trimPrefix s.data.toList pskL with
    | [c] => if 48 ≤ c.toNat ∧ c.toNat ≤ 57 then some (c.toNat - 48) else none
    | _ => none) else none
def modE (q : Pat) (s : ByteArray) : Int := if s.toList = fbL then fallE q else match digS s with | some n => pskE q n | none => 4
def modP (q : Pat) (s : ByteArray) : Pat := if s.toList = fbL then fallP q else match digS s with | some n => pskP q n | none => zeroP
def modR (q : Pat) (s : ByteArray) : Pat := if modE q s = 0 then modP q s else zeroP
theorem mod_fb {q : Pat} {s : ByteArray} (h : s.toList = fbL) : modE q s = fallE q ∧ modR q s = if fallE q = 0 then fallP q else zeroP := by
  have e : modE q s = fallE q := if_pos h
  have e2 : modP q s = fallP q := if_pos h
  exact ⟨e, by rw [modR, e, e2]⟩
theorem mod_dig {q : Pat} {s : ByteArray} {n : Nat} (h : ¬ s.toList = fbL) (hd : digS s = some n) : modE q s = pskE q n ∧ modR q s = if pskE q n = 0 then pskP q n else zeroP := by
  have e : modE q s = pskE q n := by rw [modE, if_neg h, hd]
  have e2 : modP q s = pskP q n := by rw [modP, if_neg h, hd]
  exact ⟨e, by rw [modR, e, e2]⟩
theorem mod_no {q : Pat} {s : ByteArray} (h : ¬ s.toList = fbL) (hd : digS s = none) : modE q s = 4 ∧ modR q s = zeroP := by
  have e : modE q s = 4 := by rw [modE, if_neg h, hd]
  exact ⟨e, by rw [modR, e, if_neg (by omega)]⟩
theorem dig_pre {s : ByteArray} (h : Lib.hasPrefix s.data.toList pskL = false) : digS s = none := by rw [digS, h]; rfl
theorem dig_len {s : ByteArray} (h : (Lib.trimPrefix s.data.toList pskL).length ≠ 1) : digS s = none := by
  unfold digS
  split
  · match hx : Lib.trimPrefix s.data.toList pskL with
    | [] => rfl
    | [c] => rw [hx] at h; simp at h
    | _ :: _ :: _ => rfl
  · rfl
theorem dig_one {s : ByteArray} {c : UInt8} (h : Lib.hasPrefix s.data.toList pskL = true) (hx : Lib.trimPrefix s.data.toList pskL = [c]) : digS s = if 48 ≤ c.toNat ∧ c.toNat ≤ 57 then some (c.toNat - 48) else none := by
  rw [digS, h, hx]; rfl
/-- what Fallback and Psk hand back, the two results behind one name -/
theorem fallR_any (v : Value) (p : Pat) (s : ByteArray) (w : World) (h : SP w v p) (hs : s.toList = fbL) :
    Calls Tryz.prog 58 #[v] w fun e w' => ∃ v', e = .returned (.tuple #[v', .int .i64 (modE p s)]) ∧ SP w' v' (modR p s) ∧ Bl w w' := by
  rw [(mod_fb hs).1, (mod_fb hs).2]
  exact fallback_any v p w h
theorem pskR_any (v : Value) (p : Pat) (s : ByteArray) (n : Nat) (w : World) (h : SP w v p) (hs : ¬ s.toList = fbL) (hd : digS s = some n) (hn : n ≤ 100) :
    Calls Tryz.prog 60 #[v, .int .i64 (n : Int)] w fun e w' => ∃ v', e = .returned (.tuple #[v', .int .i64 (modE p s)]) ∧ SP w' v' (modR p s) ∧ Bl w w' := by
  rw [(mod_dig hs hd).1, (mod_dig hs hd).2]
  exact psk_any v p n w h (by omega) (by omega)
theorem cutPsk_any (s : ByteArray) (w : World) :
    Calls Tryz.prog 59 #[.string s, .string ⟨#[112, 115, 107]⟩] w fun e w' => e = .returned (.tuple #[.string ⟨(Lib.trimPrefix s.data.toList pskL).toArray⟩, .bool (Lib.hasPrefix s.data.toList pskL)]) ∧ w' = w := Tryz.strings_CutPrefix s ⟨#[112, 115, 107]⟩ w

set_option maxRecDepth 100000 in
set_option maxHeartbeats 8000000 in
theorem modified_any (v : Value) (p : Pat) (s : ByteArray) (w : World) (h : SP w v p) :
    Calls Tryz.prog 29 #[v, .string s] w fun e w' => ∃ v', e = .returned (.tuple #[v', .int .i64 (modE p s)]) ∧ SP w' v' (modR p s) ∧ Bl w w' := by
  have hv := h
  obtain ⟨v0, v1, vm, rfl, hn, h0, h1, hm⟩ := h
  obtain ⟨a0, c0, rfl⟩ := h0.form
  obtain ⟨a1, c1, rfl⟩ := h1.form
  obtain ⟨am, cm, rfl⟩ := hm.form
  clear h0 h1 hm
  have x := (BoxAt.new w #[.string p.name, .slice a0 p.pre0.length c0, .slice a1 p.pre1.length c1, .slice am p.msgs.length cm] 26).alloc (.cells #[.string ⟨#[]⟩, .slice none 0 0, .slice none 0 0, .slice none 0 0] 26)
  have r := BoxAt.new (w.alloc (.cells #[.string p.name, .slice a0 p.pre0.length c0, .slice a1 p.pre1.length c1, .slice am p.msgs.length cm] 26)) #[.string ⟨#[]⟩, .slice none 0 0, .slice none 0 0, .slice none 0 0] 26
  have H : Bl w ((w.alloc (.cells #[.string p.name, .slice a0 p.pre0.length c0, .slice a1 p.pre1.length c1, .slice am p.msgs.length cm] 26)).alloc (.cells #[.string ⟨#[]⟩, .slice none 0 0, .slice none 0 0, .slice none 0 0] 26)) := ((Bl.refl w).alloc _).alloc _
  simp only [size_alloc] at r
  have HP0 := Lib.hid (@dig_pre s)
  have HP1 := Lib.hid (@dig_len s)
  have HP2 := Lib.hid (fun c => @dig_one s c)
  have HNO := Lib.hid (fun hf hd => @mod_no p s hf hd)
  have HDG := Lib.hid (fun n v w h hf hd hn => pskR_any v p s n w h hf hd hn)
  have HFF := Lib.hid (fun v w h hs => fallR_any v p s w h hs)
  generalize modE p s = E at *
  generalize modR p s = R at *
  go_enter Tryz.func29, Tryz.ntmps29
  go_upto_region 1 with fail
  generalize (w.alloc (.cells #[.string p.name, .slice a0 p.pre0.length c0, .slice a1 p.pre1.length c1, .slice am p.msgs.length cm] 26)).alloc (.cells #[.string ⟨#[]⟩, .slice none 0 0, .slice none 0 0, .slice none 0 0] 26) = W at *
  obtain ⟨g0, g1, g2, g3⟩ := (⟨x.cell 0 rfl, x.cell 1 rfl, x.cell 2 rfl, x.cell 3 rfl⟩ : _ ∧ _ ∧ _ ∧ _)
  by_cases hfb : s.toList = fbL
  · have hq : (s.toList == [102, 97, 108, 108, 98, 97, 99, 107]) = true := by rw [hfb]; rfl
    have cF := HFF.out _ W (hv.bl H) hfb
    clear hfb
    go_wp2_with fail
    refine cF.mono ?_
    rintro e w1 ⟨v', rfl, hs, hb⟩
    have r1 := r.bl hb
    have H1 := H.trans hb
    obtain ⟨u0, u1, um, rfl, _, i0, i1, im⟩ := id hs
    obtain ⟨b0, d0, rfl⟩ := i0.form
    obtain ⟨b1, d1, rfl⟩ := i1.form
    obtain ⟨bm, dm, rfl⟩ := im.form
    clear i0 i1 im g0 g1 g2 g3 cF
    obtain ⟨z0, z1, z2, z3⟩ : _ ∧ _ ∧ _ ∧ _ := ⟨r1.cell 0 rfl, r1.cell 1 rfl, r1.cell 2 rfl, r1.cell 3 rfl⟩
    obtain ⟨f0, f1, f2, f3⟩ : _ ∧ _ ∧ _ ∧ _ := ⟨r1.free 0, r1.free 1, r1.free 2, r1.free 3⟩
    have hlr := r1.lt
    go_wp2_with fail
    have yf := r1.set4 (.string R.name) (.slice b0 R.pre0.length d0) (.slice b1 R.pre1.length d1) (.slice bm R.msgs.length dm)
    obtain ⟨p0, p1, p2, p3⟩ : _ ∧ _ ∧ _ ∧ _ := ⟨yf.cell 0 rfl, yf.cell 1 rfl, yf.cell 2 rfl, yf.cell 3 rfl⟩
    exact bodyPost_ret (v := .tuple #[.agg #[(.string R.name), (.slice b0 R.pre0.length d0), (.slice b1 R.pre1.length d1), (.slice bm R.msgs.length dm)], .int .i64 E]) (by simp [results, Tryz.results29, go_sem, p0, p1, p2, p3]) rfl ⟨_, rfl, hs.set4 r1, H1.set4 (Nat.le_succ _) _ _ _ _⟩
  · have hq : (s.toList == [102, 97, 108, 108, 98, 97, 99, 107]) = false := by simpa [fbL] using hfb
    have HFB := Lib.hid hfb
    clear hfb
    have hcp := cutPsk_any s W
    obtain ⟨z0, z1, z2, z3⟩ : _ ∧ _ ∧ _ ∧ _ := ⟨r.cell 0 rfl, r.cell 1 rfl, r.cell 2 rfl, r.cell 3 rfl⟩
    obtain ⟨f0, f1, f2, f3⟩ : _ ∧ _ ∧ _ ∧ _ := ⟨r.free 0, r.free 1, r.free 2, r.free 3⟩
    have hlr := r.lt
    go_wp2_with fail
    refine hcp.mono ?_
    rintro e w1 ⟨rfl, rfl⟩
    clear hcp
    have hsz : (⟨(Lib.trimPrefix s.data.toList pskL).toArray⟩ : ByteArray).size = (Lib.trimPrefix s.data.toList pskL).length := by simp [ByteArray.size]
    generalize Lib.trimPrefix s.data.toList pskL = tp at *
    cases hpre : Lib.hasPrefix s.data.toList pskL
    · obtain ⟨hE4, hRz⟩ := HNO.out HFB.out (HP0.out hpre)
      subst hE4 hRz
      clear HNO HDG HFF HP0 HP1 HP2
      go_wp2_with fail
      have yf := r.set4 (.string ⟨#[]⟩) (.slice none 0 0) (.slice none 0 0) (.slice none 0 0)
      obtain ⟨p0, p1, p2, p3⟩ : _ ∧ _ ∧ _ ∧ _ := ⟨yf.cell 0 rfl, yf.cell 1 rfl, yf.cell 2 rfl, yf.cell 3 rfl⟩
      exact bodyPost_ret (v := .tuple #[.agg #[(.string ⟨#[]⟩), (.slice none 0 0), (.slice none 0 0), (.slice none 0 0)], .int .i64 4]) (by simp [results, Tryz.results29, go_sem, p0, p1, p2, p3]) rfl ⟨_, rfl, zero_SP _, H.set4 (Nat.le_succ _) _ _ _ _⟩
    · by_cases hlen : tp.length = 1
      · obtain ⟨c, rfl⟩ : ∃ c, tp = [c] := List.length_eq_one_iff.1 hlen
        have HD := Lib.hid (HP2.out c hpre rfl)
        have ix0 : ∀ w : World, (Instr.index 9 (.string ⟨[c].toArray⟩) (.int .i64 0)).run Tryz.prog w = .ok (.int .u8 c.toNat) w := fun w => by simp [go_sem]; rfl
        by_cases h48 : (c.toNat : Int) < 48
        · have d48 : decide ((c.toNat : Int) < 48) = true := by simpa using h48
          obtain ⟨hE4, hRz⟩ := HNO.out HFB.out (by rw [HD.out, if_neg (by omega)])
          subst hE4 hRz
          clear HNO HDG HFF HP0 HP1 HP2
          go_wp2_with fail
          have yf := r.set4 (.string ⟨#[]⟩) (.slice none 0 0) (.slice none 0 0) (.slice none 0 0)
          obtain ⟨p0, p1, p2, p3⟩ : _ ∧ _ ∧ _ ∧ _ := ⟨yf.cell 0 rfl, yf.cell 1 rfl, yf.cell 2 rfl, yf.cell 3 rfl⟩
          exact bodyPost_ret (v := .tuple #[.agg #[(.string ⟨#[]⟩), (.slice none 0 0), (.slice none 0 0), (.slice none 0 0)], .int .i64 4]) (by simp [results, Tryz.results29, go_sem, p0, p1, p2, p3]) rfl ⟨_, rfl, zero_SP _, H.set4 (Nat.le_succ _) _ _ _ _⟩
        · have d48 : decide ((c.toNat : Int) < 48) = false := by simpa using h48
          by_cases h57 : 57 < (c.toNat : Int)
          · have d57 : decide (57 < (c.toNat : Int)) = true := by simpa using h57
            obtain ⟨hE4, hRz⟩ := HNO.out HFB.out (by rw [HD.out, if_neg (by omega)])
            subst hE4 hRz
            clear HNO HDG HFF HP0 HP1 HP2
            go_wp2_with fail
            have yf := r.set4 (.string ⟨#[]⟩) (.slice none 0 0) (.slice none 0 0) (.slice none 0 0)
            obtain ⟨p0, p1, p2, p3⟩ : _ ∧ _ ∧ _ ∧ _ := ⟨yf.cell 0 rfl, yf.cell 1 rfl, yf.cell 2 rfl, yf.cell 3 rfl⟩
            exact bodyPost_ret (v := .tuple #[.agg #[(.string ⟨#[]⟩), (.slice none 0 0), (.slice none 0 0), (.slice none 0 0)], .int .i64 4]) (by simp [results, Tryz.results29, go_sem, p0, p1, p2, p3]) rfl ⟨_, rfl, zero_SP _, H.set4 (Nat.le_succ _) _ _ _ _⟩
          · have d57 : decide (57 < (c.toNat : Int)) = false := by simpa using h57
            obtain ⟨n, hn, hn9⟩ : ∃ n : Nat, c.toNat = n + 48 ∧ n ≤ 9 := ⟨c.toNat - 48, by omega, by omega⟩
            have hdig : digS s = some n := by rw [HD.out, if_pos (by omega), hn, Nat.add_sub_cancel]
            have cK := fun v w h => HDG.out n v w h HFB.out hdig (by omega)
            clear HNO HDG HFF HP0 HP1 HP2 HD hdig
            go_upto_region 6 with fail
            have hw8 : IntKind.u8.wrap (n : Int) = (n : Int) := by
              have : ∀ k : Nat, k ≤ 9 → IntKind.u8.wrap (k : Int) = (k : Int) := by decide +kernel
              exact this n hn9
            have hw64 : IntKind.i64.wrap (n : Int) = (n : Int) := by
              have : ∀ k : Nat, k ≤ 9 → IntKind.i64.wrap (k : Int) = (k : Int) := by decide +kernel
              exact this n hn9
            have xD := x.drew
            have rD := r.drew
            have HD : Bl w w1.drew := H.drew
            have hvD := hv.bl HD
            have sD : _ ∧ _ ∧ _ ∧ _ := ⟨xD.cell 0 rfl, xD.cell 1 rfl, xD.cell 2 rfl, xD.cell 3 rfl⟩
            have sS : ∀ (w5 : World), Bl w1.drew w5 → ∀ a b c d : Value, _ ∧ _ ∧ _ ∧ _ := fun w5 hb a b c d => ⟨((xD.bl hb).oth4 (B := w.heap.size + 1) (by omega) a b c d).cell 0 rfl, ((xD.bl hb).oth4 (B := w.heap.size + 1) (by omega) a b c d).cell 1 rfl, ((xD.bl hb).oth4 (B := w.heap.size + 1) (by omega) a b c d).cell 2 rfl, ((xD.bl hb).oth4 (B := w.heap.size + 1) (by omega) a b c d).cell 3 rfl⟩
            clear g0 g1 g2 g3 z0 z1 z2 z3 f0 f1 f2 f3
            go_region_held3 (fun wx : World => wx.cell? ⟨w.heap.size, 0, none⟩ = some (.string p.name) ∧ wx.cell? ⟨w.heap.size, 1, none⟩ = some (.slice a0 p.pre0.length c0) ∧ wx.cell? ⟨w.heap.size, 2, none⟩ = some (.slice a1 p.pre1.length c1) ∧ wx.cell? ⟨w.heap.size, 3, none⟩ = some (.slice am p.msgs.length cm)) (first | with_reducible exact sD | with_reducible exact s5 | with_reducible exact sS _ hb5 _ _ _ _) (first | (go_at_call 60; refine (cK _ _ hvD).mono ?_; rintro e w5 ⟨v', rfl, hs, hb5⟩; obtain ⟨u0, u1, um, rfl, _, i0, i1, im⟩ := id hs; obtain ⟨b0, d0, rfl⟩ := i0.form; obtain ⟨b1, d1, rfl⟩ := i1.form; obtain ⟨bm, dm, rfl⟩ := im.form; clear i0 i1 im; have x5 := xD.bl hb5; have r5 := rD.bl hb5; have H5 := HD.trans hb5; have s5 : _ ∧ _ ∧ _ ∧ _ := ⟨x5.cell 0 rfl, x5.cell 1 rfl, x5.cell 2 rfl, x5.cell 3 rfl⟩; obtain ⟨z0, z1, z2, z3⟩ : _ ∧ _ ∧ _ ∧ _ := ⟨r5.cell 0 rfl, r5.cell 1 rfl, r5.cell 2 rfl, r5.cell 3 rfl⟩; obtain ⟨f0, f1, f2, f3⟩ : _ ∧ _ ∧ _ ∧ _ := ⟨r5.free 0, r5.free 1, r5.free 2, r5.free 3⟩; have hlr5 := r5.lt))
            go_wp2_with fail
            have yf := r5.set4 (.string R.name) (.slice b0 R.pre0.length d0) (.slice b1 R.pre1.length d1) (.slice bm R.msgs.length dm)
            obtain ⟨p0, p1, p2, p3⟩ : _ ∧ _ ∧ _ ∧ _ := ⟨yf.cell 0 rfl, yf.cell 1 rfl, yf.cell 2 rfl, yf.cell 3 rfl⟩
            exact bodyPost_ret (v := .tuple #[.agg #[(.string R.name), (.slice b0 R.pre0.length d0), (.slice b1 R.pre1.length d1), (.slice bm R.msgs.length dm)], .int .i64 E]) (by simp [results, Tryz.results29, go_sem, p0, p1, p2, p3]) rfl ⟨_, rfl, hs.set4 r5, H5.set4 (Nat.le_succ _) _ _ _ _⟩
      · have dn : ((tp.length : Int) == 1) = false := by simp; omega
        have dn' : ((tp.length : Int) != 1) = true := by simp; omega
        obtain ⟨hE4, hRz⟩ := HNO.out HFB.out (HP1.out hlen)
        subst hE4 hRz
        clear HNO HDG HFF HP0 HP1 HP2
        go_wp2_with fail
        have yf := r.set4 (.string ⟨#[]⟩) (.slice none 0 0) (.slice none 0 0) (.slice none 0 0)
        obtain ⟨p0, p1, p2, p3⟩ : _ ∧ _ ∧ _ ∧ _ := ⟨yf.cell 0 rfl, yf.cell 1 rfl, yf.cell 2 rfl, yf.cell 3 rfl⟩
        exact bodyPost_ret (v := .tuple #[.agg #[(.string ⟨#[]⟩), (.slice none 0 0), (.slice none 0 0), (.slice none 0 0)], .int .i64 4]) (by simp [results, Tryz.results29, go_sem, p0, p1, p2, p3]) rfl ⟨_, rfl, zero_SP _, H.set4 (Nat.le_succ _) _ _ _ _⟩
end Go.Proofs.YtffibiigoikmdaaGreatDoor
