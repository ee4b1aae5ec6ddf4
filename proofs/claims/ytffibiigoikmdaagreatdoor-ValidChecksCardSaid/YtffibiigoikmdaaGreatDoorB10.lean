/- Walk: base.Named. -/
import Derived.Test.YtffibiigoikmdaaGreatDoorB9
set_option linter.unusedSimpArgs false
set_option linter.unusedVariables false
namespace Go.Proofs.YtffibiigoikmdaaGreatDoor
open Go.RowKit Go.Sort

theorem Env.b {w : World} (h : Env w) : EnvB w := ⟨h.shaped, h.space⟩
theorem Env.bl {w w' : World} (h : Env w) (hb : Bl w w') : Env w' := ⟨shaped_bl h.shaped hb, Lib.tabBelow_of_tabIs h.space w' hb, Utf8Tabs_below h.utf8 hb⟩

/-- is a letter no capital? -/
def noCap (c : Nat) : Bool := decide (c < 65) || decide (90 < c)
theorem named1_any (c : Nat) (w : World) : Calls Tryz.prog 27 #[.int .i32 (c : Int)] w fun e w' => e = .returned (.bool (noCap c)) ∧ Bl w w' := by
  go_enter Tryz.func27, Tryz.ntmps27
  by_cases h1 : (c : Int) < 65
  · have d1 : decide ((c : Int) < 65) = true := by simpa using h1
    go_wp2
    go_ret
    exact ⟨ret_bool (by simp [noCap]; omega), Bl.refl _⟩
  · have d1 : decide ((c : Int) < 65) = false := by simpa using h1
    go_wp2
    go_ret
    exact ⟨ret_bool (by
      have h2 : ¬ c < 65 := by omega
      rw [noCap, decide_eq_false h2, Bool.false_or, Bool.eq_iff_iff, decide_eq_true_eq, decide_eq_true_eq]
      omega), Bl.refl _⟩
/-- a name's letters ahead of its modifiers -/
def headN (s : ByteArray) : ByteArray := Lib.trimRightF noCap s
theorem headN_size (s : ByteArray) : (headN s).size ≤ s.size := by
  unfold headN Lib.trimRightF
  rw [ByteArray.size_extract]
  omega
theorem trimHead_any (s : ByteArray) (w : World) (hs : s.size ≤ 9223372036854775807) (hE : Env w) :
    Calls Tryz.prog 26 #[.string s, .func (.func 27) #[] #[]] w fun e w' => e = .returned (.string (headN s)) ∧ Bl w w' :=
  Tryz.strings_TrimRightFunc_grows 27 #[] (fun args W => by go_simp) noCap s w hs hE.utf8 (fun W x _ _ => named1_any x W)

def piecesN (s : ByteArray) : List ByteArray := splitS (s.extract (headN s).size s.size) ⟨#[43]⟩
/-- modifiers put on, one behind the other -/
def modsF (q : Pat) : List ByteArray → Pat × Int
  | [] => (q, 0)
  | x :: r => if modE q x = 0 then modsF (modR q x) r else (zeroP, modE q x)
def namedR (s : ByteArray) : Pat × Int :=
  if baseE (headN s) ≠ 0 ∨ 20 < s.size then (zeroP, 4)
  else if s = headN s then ({ baseP (headN s) with name := s }, 0)
  else modsF { baseP (headN s) with name := s } (piecesN s)
theorem splitPlus_any (s : ByteArray) (w : World) (h : w.ShapedOpen Tryz.prog) (hs : s.size ≤ 1000000) :
    Calls Tryz.prog 21 #[.string s, .string ⟨#[43]⟩] w fun e w' => e = .returned (.slice (some ⟨w.heap.size, 0, none⟩) (splitS s ⟨#[43]⟩).length (splitS s ⟨#[43]⟩).length) ∧ w' = w.alloc (.cells ((splitS s ⟨#[43]⟩).map Value.string).toArray 9) := by
  have hlen : (splitS s ⟨#[43]⟩).length = Lib.countB s ⟨#[43]⟩ + 1 := Lib.splitB_all ⟨#[43]⟩ (by decide) 0 _ s rfl
  refine (Tryz.strings_Split_shaped s ⟨#[43]⟩ w h (by omega) (by decide)).mono ?_
  rintro e w' ⟨he, hw⟩
  rw [← hlen] at he
  exact ⟨he, hw⟩

theorem modR_any (v : Value) (p : Pat) (s : ByteArray) (q : Pat) (E : Int) (w : World) (h : SP w v p) (hq : modR p s = q) (hE : modE p s = E) :
    Calls Tryz.prog 29 #[v, .string s] w fun e w' => ∃ v', e = .returned (.tuple #[v', .int .i64 E]) ∧ SP w' v' q ∧ Bl w w' := by
  rw [← hq, ← hE]
  exact modified_any v p s w h
theorem mods_step (q : Pat) (l : List ByteArray) (j : Nat) (hj : j < l.length) : modsF q (l.drop j) = if modE q l[j] = 0 then modsF (modR q l[j]) (l.drop (j + 1)) else (zeroP, modE q l[j]) := by
  rw [List.drop_eq_getElem_cons hj, modsF]
theorem SP.named {w : World} {a0 a1 am : Option Addr} {c0 c1 cm : Nat} {p : Pat} {n s : ByteArray} (h : SP w (.agg #[.string n, .slice a0 p.pre0.length c0, .slice a1 p.pre1.length c1, .slice am p.msgs.length cm]) p) (hs : s.size ≤ 1000000) :
    SP w (.agg #[.string s, .slice a0 p.pre0.length c0, .slice a1 p.pre1.length c1, .slice am p.msgs.length cm]) { p with name := s } := by
  obtain ⟨_, _, _, e, _, h0, h1, hm⟩ := h
  injection e with e
  simp only [Array.mk.injEq, List.cons.injEq, true_and, and_true] at e
  obtain ⟨_, rfl, rfl, rfl⟩ := e
  exact ⟨_, _, _, rfl, by show s.size ≤ _; omega, h0, h1, hm⟩

set_option maxRecDepth 100000 in
set_option maxHeartbeats 8000000 in
theorem namedF_any (s : ByteArray) (w : World) (hE : Env w) (hs : s.size ≤ 1000000) :
    Calls Tryz.prog 11 #[.string s] w fun e w' => ∃ v', e = .returned (.tuple #[v', .int .i64 (namedR s).2]) ∧ SP w' v' (namedR s).1 ∧ Bl w w' := by
  have HR1 := Lib.hid (show (baseE (headN s) ≠ 0 ∨ 20 < s.size) → namedR s = (zeroP, 4) from fun h => if_pos h)
  have HR2 := Lib.hid (show ¬ (baseE (headN s) ≠ 0 ∨ 20 < s.size) → s = headN s → namedR s = ({ baseP (headN s) with name := s }, 0) from fun h h2 => by rw [namedR, if_neg h, if_pos h2])
  have HR3 := Lib.hid (show ¬ (baseE (headN s) ≠ 0 ∨ 20 < s.size) → ¬ s = headN s → namedR s = modsF { baseP (headN s) with name := s } (piecesN s) from fun h h2 => by rw [namedR, if_neg h, if_neg h2])
  have cT := fun w hE => trimHead_any s w (by omega) hE
  have cB := fun w hE => base_any (headN s) w hE
  have hex : (s.extract (headN s).size s.size).size ≤ 1000000 := by rw [ByteArray.size_extract]; omega
  have cS := fun w (hE : Env w) => splitPlus_any (s.extract (headN s).size s.size) w hE.shaped hex
  have hpl := splitS_len (s.extract (headN s).size s.size) ⟨#[43]⟩ (by decide)
  have hhs := headN_size s
  rw [show splitS (s.extract (headN s).size s.size) ⟨#[43]⟩ = piecesN s from rfl] at cS hpl
  replace hpl : (piecesN s).length ≤ 1000001 := by omega
  clear hex
  generalize namedR s = R at *
  generalize piecesN s = pcs at *
  generalize baseE (headN s) = be at *
  generalize baseP (headN s) = bp at *
  generalize headN s = hd at *
  have r := BoxAt.new w #[.string ⟨#[]⟩, .slice none 0 0, .slice none 0 0, .slice none 0 0] 26
  have H : Bl w (w.alloc (.cells #[.string ⟨#[]⟩, .slice none 0 0, .slice none 0 0, .slice none 0 0] 26)) := (Bl.refl w).alloc _
  go_enter Tryz.func11, Tryz.ntmps11
  go_wp2_with fail
  refine (cT _ (hE.bl H)).mono ?_
  rintro e w1 ⟨rfl, hb1⟩
  have r1 := r.bl hb1
  have H1 := H.trans hb1
  clear cT r H hb1
  go_wp2_with fail
  refine (cB _ (hE.bl H1).b).mono ?_
  rintro e w2 ⟨v, rfl, hsp, hb2⟩
  obtain ⟨u0, u1, um, rfl, _, i0, i1, im⟩ := id hsp
  obtain ⟨b0, d0, rfl⟩ := i0.form
  obtain ⟨b1, d1, rfl⟩ := i1.form
  obtain ⟨bm, dm, rfl⟩ := im.form
  clear i0 i1 im
  have al : Bl w2 (w2.alloc (.cells #[.string bp.name, .slice b0 bp.pre0.length d0, .slice b1 bp.pre1.length d1, .slice bm bp.msgs.length dm] 26)) := (Bl.refl w2).alloc _
  have y2 := BoxAt.new w2 #[.string bp.name, .slice b0 bp.pre0.length d0, .slice b1 bp.pre1.length d1, .slice bm bp.msgs.length dm] 26
  have r2 := (r1.bl hb2).bl al
  have hs2 := hsp.bl al
  have H2 := (H1.trans hb2).trans al
  have hB5 : w.heap.size < w2.heap.size := (r1.bl hb2).lt
  clear cB r1 H1 hb2 hsp
  go_upto_region 3 with fail
  generalize hW2 : w2.alloc (.cells #[.string bp.name, .slice b0 bp.pre0.length d0, .slice b1 bp.pre1.length d1, .slice bm bp.msgs.length dm] 26) = W2 at *
  clear hW2 al
  generalize w2.heap.size = B5 at *
  by_cases hbe : be = 0
  · have d1' : (be != 0) = false := by simpa using hbe
    by_cases h20 : 20 < s.size
    · have d2 : decide ((20 : Int) < (s.size : Int)) = true := by rw [decide_eq_true_eq]; omega
      have hR := HR1.out (.inr h20)
      subst hR
      clear HR1 HR2 HR3 hbe
      obtain ⟨z0, z1, z2, z3⟩ : _ ∧ _ ∧ _ ∧ _ := ⟨r2.cell 0 rfl, r2.cell 1 rfl, r2.cell 2 rfl, r2.cell 3 rfl⟩
      obtain ⟨f0, f1, f2, f3⟩ : _ ∧ _ ∧ _ ∧ _ := ⟨r2.free 0, r2.free 1, r2.free 2, r2.free 3⟩
      have hlrz := r2.lt
      go_wp2_with fail
      have yf := r2.set4 (.string ⟨#[]⟩) (.slice none 0 0) (.slice none 0 0) (.slice none 0 0)
      obtain ⟨p0, p1, p2, p3⟩ : _ ∧ _ ∧ _ ∧ _ := ⟨yf.cell 0 rfl, yf.cell 1 rfl, yf.cell 2 rfl, yf.cell 3 rfl⟩
      exact bodyPost_ret (v := .tuple #[.agg #[(.string ⟨#[]⟩), (.slice none 0 0), (.slice none 0 0), (.slice none 0 0)], .int .i64 4]) (by simp [results, Tryz.results11, go_sem, p0, p1, p2, p3]) rfl ⟨_, rfl, zero_SP _, H2.set4 (Nat.le_refl _) _ _ _ _⟩
    · have d2 : decide ((20 : Int) < (s.size : Int)) = false := by rw [decide_eq_false_iff_not]; omega
      have hno : ¬ (be ≠ 0 ∨ 20 < s.size) := by omega
      obtain ⟨g0, g1, g2, g3⟩ : _ ∧ _ ∧ _ ∧ _ := ⟨y2.cell 0 rfl, y2.cell 1 rfl, y2.cell 2 rfl, y2.cell 3 rfl⟩
      have gf0 := y2.free 0
      have y3 := y2.set 0 (.string s)
      simp only [List.set_cons_zero] at y3
      have r3 := r2.other (a := ⟨B5, 0, none⟩) (show w.heap.size ≠ B5 by omega) (.string s)
      have hs3 := (hs2.box y2 not_int4 0 (.string s)).named (s := s) hs
      have H3 := H2.setCell (a := ⟨B5, 0, none⟩) (show w.heap.size ≤ B5 by omega) (.string s)
      go_upto_region 6 with fail
      generalize W2.setCell ⟨B5, 0, none⟩ (.string s) = W3 at *
      clear g0 g1 g2 g3 gf0 y2 r2 hs2 H2
      obtain ⟨g0, g1, g2, g3⟩ : _ ∧ _ ∧ _ ∧ _ := ⟨y3.cell 0 rfl, y3.cell 1 rfl, y3.cell 2 rfl, y3.cell 3 rfl⟩
      by_cases hsh : s = hd
      · have dq : (s.toList == hd.toList) = true := by rw [hsh]; simp
        have hR := HR2.out hno hsh
        subst hR
        clear HR1 HR2 HR3 hbe hno hsh cS
        obtain ⟨z0, z1, z2, z3⟩ : _ ∧ _ ∧ _ ∧ _ := ⟨r3.cell 0 rfl, r3.cell 1 rfl, r3.cell 2 rfl, r3.cell 3 rfl⟩
        obtain ⟨f0, f1, f2, f3⟩ : _ ∧ _ ∧ _ ∧ _ := ⟨r3.free 0, r3.free 1, r3.free 2, r3.free 3⟩
        have hlrz := r3.lt
        go_wp2_with fail
        have yf := r3.set4 (.string s) (.slice b0 bp.pre0.length d0) (.slice b1 bp.pre1.length d1) (.slice bm bp.msgs.length dm)
        obtain ⟨p0, p1, p2, p3⟩ : _ ∧ _ ∧ _ ∧ _ := ⟨yf.cell 0 rfl, yf.cell 1 rfl, yf.cell 2 rfl, yf.cell 3 rfl⟩
        exact bodyPost_ret (v := .tuple #[.agg #[(.string s), (.slice b0 bp.pre0.length d0), (.slice b1 bp.pre1.length d1), (.slice bm bp.msgs.length dm)], .int .i64 0]) (by simp [results, Tryz.results11, go_sem, p0, p1, p2, p3]) rfl ⟨_, rfl, hs3.set4 r3, H3.set4 (Nat.le_refl _) _ _ _ _⟩
      · have dq : (s.toList == hd.toList) = false := by
          rw [← Bool.not_eq_true, beq_iff_eq]
          intro h
          exact hsh (ByteArray.ext (by have := congrArg List.toArray h; simpa [ByteArray.toList_eq] using this))
        have hR := HR3.out hno hsh
        have HRR := Lib.hid hR
        clear HR1 HR2 HR3 hbe hno hsh hR
        have hle : (hd.size : Int) ≤ (s.size : Int) := by omega
        go_wp2_with fail
        refine (cS W3 (hE.bl H3)).mono ?_
        rintro e w4 ⟨rfl, hw4⟩
        have hb4 : Bl W3 w4 := by rw [hw4]; exact (Bl.refl W3).alloc _
        have sb4 : BoxAt w4 W3.heap.size (pcs.map Value.string) 9 := by rw [hw4]; exact BoxAt.new W3 (pcs.map Value.string).toArray _
        have y4 := y3.bl hb4
        have r4 := r3.bl hb4
        have hs4 := hs3.bl hb4
        have H4 := H3.trans hb4
        have hBS : B5 < W3.heap.size := y3.lt
        clear hw4 hb4 y3 r3 hs3 H3 g0 g1 g2 g3 cS
        generalize W3.heap.size = BS at *
        go_wp2_with fail
        go_loopw [36] (fun i wr => ∃ (j : Nat) (q : Pat) (a0 a1 am : Option Addr) (c0 c1 cm : Nat), j ≤ pcs.length ∧ i = .int .i64 j ∧ BoxAt wr B5 [.string q.name, .slice a0 q.pre0.length c0, .slice a1 q.pre1.length c1, .slice am q.msgs.length cm] 26 ∧ SP wr (.agg #[.string q.name, .slice a0 q.pre0.length c0, .slice a1 q.pre1.length c1, .slice am q.msgs.length cm]) q ∧ Hid (R = modsF q (pcs.drop j)) ∧ BoxAt wr w.heap.size [.string ⟨#[]⟩, .slice none 0 0, .slice none 0 0, .slice none 0 0] 26 ∧ BoxAt wr BS (pcs.map Value.string) 9 ∧ Bl w wr) (fun i _ => pcs.length - (intOf i).toNat)
        case atStart => exact ⟨0, { bp with name := s }, b0, b1, bm, d0, d1, dm, by omega, rfl, y4, hs4, HRR, r4, sb4, H4⟩
        case round =>
          obtain ⟨j, q, a0, a1, am, c0, c1, cm, hj, rfl, yr, hsr, HRj, rr, sbr, Hr⟩ := hrel
          obtain ⟨g0, g1, g2, g3⟩ : _ ∧ _ ∧ _ ∧ _ := ⟨yr.cell 0 rfl, yr.cell 1 rfl, yr.cell 2 rfl, yr.cell 3 rfl⟩
          by_cases hjn : j < pcs.length
          · have dj : decide ((j : Int) < (pcs.length : Int)) = true := by simp; omega
            have hcx := sbr.cell j (x := .string pcs[j]) (by simp [hjn])
            have HST := Lib.hid (mods_step q pcs j hjn)
            have cM := fun v w h => modR_any v q pcs[j] _ _ w h rfl rfl
            generalize pcs[j] = x at *
            generalize modE q x = E at *
            generalize modR q x = q2 at *
            go_wp2_with fail
            refine (cM _ _ hsr).mono ?_
            rintro e w5 ⟨v', rfl, hs5, hb5⟩
            obtain ⟨u0, u1, um, rfl, _, i0, i1, im⟩ := id hs5
            obtain ⟨e0, k0, rfl⟩ := i0.form
            obtain ⟨e1, k1, rfl⟩ := i1.form
            obtain ⟨em, km, rfl⟩ := im.form
            clear i0 i1 im g0 g1 g2 g3 cM
            have y5 := yr.bl hb5
            have r5 := rr.bl hb5
            have sb5 := sbr.bl hb5
            have H5 := Hr.trans hb5
            clear yr rr sbr Hr hb5 hsr hcx
            obtain ⟨z0, z1, z2, z3⟩ : _ ∧ _ ∧ _ ∧ _ := ⟨y5.cell 0 rfl, y5.cell 1 rfl, y5.cell 2 rfl, y5.cell 3 rfl⟩
            obtain ⟨f0, f1, f2, f3⟩ : _ ∧ _ ∧ _ ∧ _ := ⟨y5.free 0, y5.free 1, y5.free 2, y5.free 3⟩
            have hlry := y5.lt
            have y6 := y5.set4 (.string q2.name) (.slice e0 q2.pre0.length k0) (.slice e1 q2.pre1.length k1) (.slice em q2.msgs.length km)
            have hs6 : SP _ _ q2 := hs5.set4 (a' := q2.name) (q1 := e0) (q2 := e1) (q3 := em) (i' := q2.pre0.length) (j' := k0) (k' := q2.pre1.length) (l' := k1) (m' := q2.msgs.length) (n' := km) y5
            have r6 := r5.oth4 (B := B5) (show w.heap.size ≠ B5 by omega) (.string q2.name) (.slice e0 q2.pre0.length k0) (.slice e1 q2.pre1.length k1) (.slice em q2.msgs.length km)
            have sb6 := sb5.oth4 (B := B5) (show BS ≠ B5 by omega) (.string q2.name) (.slice e0 q2.pre0.length k0) (.slice e1 q2.pre1.length k1) (.slice em q2.msgs.length km)
            have H6 := H5.set4 (B := B5) (by omega) (.string q2.name) (.slice e0 q2.pre0.length k0) (.slice e1 q2.pre1.length k1) (.slice em q2.msgs.length km)
            go_upto_region 12 with fail
            generalize (((w5.setCell ⟨B5, 0, none⟩ (.string q2.name)).setCell ⟨B5, 1, none⟩ (.slice e0 q2.pre0.length k0)).setCell ⟨B5, 2, none⟩ (.slice e1 q2.pre1.length k1)).setCell ⟨B5, 3, none⟩ (.slice em q2.msgs.length km) = W6 at *
            clear y5 r5 sb5 H5 hs5 z0 z1 z2 z3 f0 f1 f2 f3
            by_cases hE0 : E = 0
            · have de : (E != 0) = false := by simpa using hE0
              have HN : Hid (R = modsF q2 (pcs.drop (j + 1))) := Lib.hid (by rw [HRj.out, HST.out, if_pos hE0])
              clear hE0 HST HRj
              go_wp2_with fail
              go_roundw
              case rel => exact ⟨j + 1, q2, e0, e1, em, k0, k1, km, by omega, by go_num, y6, hs6, HN, r6, sb6, H6⟩
              case measure => simp [intOf]; omega
            · have de : (E != 0) = true := by simpa using hE0
              have hR : R = (zeroP, E) := by rw [HRj.out, HST.out, if_neg hE0]
              subst hR
              clear hE0 HST HRj HRR
              obtain ⟨z0, z1, z2, z3⟩ : _ ∧ _ ∧ _ ∧ _ := ⟨r6.cell 0 rfl, r6.cell 1 rfl, r6.cell 2 rfl, r6.cell 3 rfl⟩
              obtain ⟨f0, f1, f2, f3⟩ : _ ∧ _ ∧ _ ∧ _ := ⟨r6.free 0, r6.free 1, r6.free 2, r6.free 3⟩
              have hlrz := r6.lt
              go_wp2_with fail
              have yf := r6.set4 (.string ⟨#[]⟩) (.slice none 0 0) (.slice none 0 0) (.slice none 0 0)
              obtain ⟨p0, p1, p2, p3⟩ : _ ∧ _ ∧ _ ∧ _ := ⟨yf.cell 0 rfl, yf.cell 1 rfl, yf.cell 2 rfl, yf.cell 3 rfl⟩
              exact bodyPost_ret (v := .tuple #[.agg #[(.string ⟨#[]⟩), (.slice none 0 0), (.slice none 0 0), (.slice none 0 0)], .int .i64 E]) (by simp [results, Tryz.results11, go_sem, p0, p1, p2, p3]) rfl ⟨_, rfl, zero_SP _, H6.set4 (Nat.le_refl _) _ _ _ _⟩
          · have dj : decide ((j : Int) < (pcs.length : Int)) = false := by simp; omega
            obtain rfl : j = pcs.length := by omega
            have hR : R = (q, 0) := by rw [HRj.out, List.drop_length]; rfl
            subst hR
            clear HRj HRR
            obtain ⟨z0, z1, z2, z3⟩ : _ ∧ _ ∧ _ ∧ _ := ⟨rr.cell 0 rfl, rr.cell 1 rfl, rr.cell 2 rfl, rr.cell 3 rfl⟩
            obtain ⟨f0, f1, f2, f3⟩ : _ ∧ _ ∧ _ ∧ _ := ⟨rr.free 0, rr.free 1, rr.free 2, rr.free 3⟩
            have hlrz := rr.lt
            go_wp2_with fail
            have yf := rr.set4 (.string q.name) (.slice a0 q.pre0.length c0) (.slice a1 q.pre1.length c1) (.slice am q.msgs.length cm)
            obtain ⟨p0, p1, p2, p3⟩ : _ ∧ _ ∧ _ ∧ _ := ⟨yf.cell 0 rfl, yf.cell 1 rfl, yf.cell 2 rfl, yf.cell 3 rfl⟩
            exact bodyPost_ret (v := .tuple #[.agg #[(.string q.name), (.slice a0 q.pre0.length c0), (.slice a1 q.pre1.length c1), (.slice am q.msgs.length cm)], .int .i64 0]) (by simp [results, Tryz.results11, go_sem, p0, p1, p2, p3]) rfl ⟨_, rfl, hsr.set4 rr, Hr.set4 (Nat.le_refl _) _ _ _ _⟩
  · have d1' : (be != 0) = true := by simpa using hbe
    have hR := HR1.out (.inl hbe)
    subst hR
    clear HR1 HR2 HR3 hbe
    obtain ⟨z0, z1, z2, z3⟩ : _ ∧ _ ∧ _ ∧ _ := ⟨r2.cell 0 rfl, r2.cell 1 rfl, r2.cell 2 rfl, r2.cell 3 rfl⟩
    obtain ⟨f0, f1, f2, f3⟩ : _ ∧ _ ∧ _ ∧ _ := ⟨r2.free 0, r2.free 1, r2.free 2, r2.free 3⟩
    have hlrz := r2.lt
    go_wp2_with fail
    have yf := r2.set4 (.string ⟨#[]⟩) (.slice none 0 0) (.slice none 0 0) (.slice none 0 0)
    obtain ⟨p0, p1, p2, p3⟩ : _ ∧ _ ∧ _ ∧ _ := ⟨yf.cell 0 rfl, yf.cell 1 rfl, yf.cell 2 rfl, yf.cell 3 rfl⟩
    exact bodyPost_ret (v := .tuple #[.agg #[(.string ⟨#[]⟩), (.slice none 0 0), (.slice none 0 0), (.slice none 0 0)], .int .i64 4]) (by simp [results, Tryz.results11, go_sem, p0, p1, p2, p3]) rfl ⟨_, rfl, zero_SP _, H2.set4 (Nat.le_refl _) _ _ _ _⟩
end Go.Proofs.YtffibiigoikmdaaGreatDoor
