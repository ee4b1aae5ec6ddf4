/- Walks: token.Parse. -/
import Derived.Test.YtffibiigoikmdaaGreatDoorW12
set_option linter.unusedSimpArgs false
set_option linter.unusedVariables false
namespace Go.Proofs.YtffibiigoikmdaaGreatDoor
open Go.RowKit Go.Sort

def linesT (s : ByteArray) : List ByteArray := splitS s ⟨#[10]⟩
def nameT (s : ByteArray) : ByteArray := ⟨(Lib.trimSuffix ((linesT s).headD ByteArray.empty).data.toList (ByteArray.data ⟨#[58]⟩).toList).toArray⟩
def behindT (s : ByteArray) : Bool := !Lib.containsS (linesT s) ⟨#[46, 46, 46]⟩
def stepL (st : Bool × Pat) (x : ByteArray) : Bool × Pat :=
  if x.toList = [46, 46, 46] then (true, st.2)
  else if rowB x = false then st
  else if st.1 then (true, { st.2 with msgs := st.2.msgs ++ [rowM x] })
  else if (rowM x).who = 0 then (false, { st.2 with pre0 := (rowM x).t })
  else (false, { st.2 with pre1 := (rowM x).t })
def stT (s : ByteArray) (k : Nat) : Bool × Pat := ((linesT s).tail.take k).foldl stepL (behindT s, ⟨nameT s, [], [], []⟩)
def rawT (s : ByteArray) : Pat := (stT s (linesT s).tail.length).2
def parseB (s : ByteArray) : Bool := rightB (rawT s) && decide (printT (rawT s) = s)
def zeroP : Pat := ⟨⟨#[]⟩, [], [], []⟩
/-- what the reader gives back: the pattern, and the number of its verdict -/
def parseP (s : ByteArray) : Pat := if parseB s then rawT s else zeroP
def parseE (s : ByteArray) : Int := if parseB s then 0 else 2
theorem parse_yes {s : ByteArray} (h : parseB s = true) : parseP s = rawT s ∧ parseE s = 0 := by rw [parseP, parseE, h]; exact ⟨rfl, rfl⟩
theorem parse_no {s : ByteArray} (h : parseB s = false) : parseP s = zeroP ∧ parseE s = 2 := by rw [parseP, parseE, h]; exact ⟨rfl, rfl⟩

theorem stT_succ (s : ByteArray) (k : Nat) (hk : k < (linesT s).tail.length) : stT s (k + 1) = stepL (stT s k) (linesT s).tail[k] := by
  unfold stT
  rw [List.take_succ_eq_append_getElem hk, List.foldl_append]; rfl
theorem step_name (st : Bool × Pat) (x : ByteArray) : (stepL st x).2.name = st.2.name := by
  unfold stepL
  repeat' split
  all_goals rfl
theorem st_name (s : ByteArray) : ∀ (l : List ByteArray) (st : Bool × Pat), (l.foldl stepL st).2.name = st.2.name
  | [], _ => rfl
  | x :: l, st => by rw [List.foldl_cons, st_name s l, step_name]
theorem stT_name (s : ByteArray) (k : Nat) : (stT s k).2.name = nameT s := st_name s _ _
theorem rowB_who {x : ByteArray} (h : rowB x = true) : (rowM x).who = 0 ∨ (rowM x).who = 1 := by
  have h1 : 0 ≤ (rowM x).who := by
    simp only [rowB, Bool.and_eq_true, decide_eq_true_eq] at h
    exact h.1
  have h2 : (rowM x).who = whoT x := rfl
  have h3 := whoT_cases x
  omega

theorem lines_any (s : ByteArray) (w : World) (h : w.ShapedOpen Tryz.prog) (hs : s.size ≤ 90000) :
    Calls Tryz.prog 21 #[.string s, .string ⟨#[10]⟩] w fun e w' => ∃ v, e = .returned v ∧ SS w' v (linesT s) ∧ Bl w w' := split_any s ⟨#[10]⟩ w h (by omega) (by decide)
theorem trimName_any (s : ByteArray) (x : ByteArray) (w : World) (hx : x = (linesT s).headD ByteArray.empty) (hs : x.size ≤ 9223372036854775807) :
    Calls Tryz.prog 22 #[.string x, .string ⟨#[58]⟩] w fun e w' => e = .returned (.string (nameT s)) ∧ w = w' := by
  subst hx
  exact trimSuffix_any _ _ w hs
theorem hasDots_any (v : Value) (s : ByteArray) (w : World) (h : SS w v (linesT s)) :
    Calls Tryz.prog 23 #[v, .string ⟨#[46, 46, 46]⟩] w fun e w' => e = .returned (.bool (!behindT s)) ∧ w = w' := by
  have := containsS_any v (linesT s) ⟨#[46, 46, 46]⟩ w h
  simpa [behindT] using this

theorem infoMsg : (Tryz.prog.info? 39).map (fun i => (i.zero, i.size, i.bytes)) = some (some (.agg #[.int .i64 0, .slice none 0 0]), 2, 32) := by kernel_rfl

/-- each line is no longer than the text -/
theorem piece_len (sep : ByteArray) (save : Nat) : ∀ (k : Nat) (s x : ByteArray), x ∈ Lib.splitB sep save k s → x.size ≤ s.size
  | 0, s, x, hx => by
    rw [Lib.splitB_zero] at hx
    simp at hx; rw [hx]; omega
  | k + 1, s, x, hx => by
    unfold Lib.splitB at hx
    split at hx
    · simp at hx; rw [hx]; omega
    · rcases List.mem_cons.1 hx with h | h
      · rw [h, ByteArray.size_extract]; omega
      · have := piece_len sep save k _ x h
        rw [ByteArray.size_extract] at this
        omega
theorem line_len (s x : ByteArray) (hx : x ∈ linesT s) : x.size ≤ s.size := piece_len _ _ _ _ _ hx
theorem nameT_size (s : ByteArray) : (nameT s).size ≤ ((linesT s).headD ByteArray.empty).size := by
  unfold nameT Lib.trimSuffix
  generalize (linesT s).headD ByteArray.empty = x
  have : x.data.toList.length = x.size := rfl
  split
  · show (List.toArray _).size ≤ _
    simp only [List.size_toArray, List.length_take]; omega
  · show (List.toArray _).size ≤ _
    simp only [List.size_toArray]; omega

/-- What holds of the pattern that is read, after k lines behind the first one. -/
def PInv (w W : World) (base B5 : Nat) (s : ByteArray) (st : Bool × Pat) (k : Nat) (wr : World) : Prop :=
  ∃ (v0 v1 vm : Value) (xs : List Value), BoxAt wr w.heap.size [.string ⟨#[]⟩, .slice none 0 0, .slice none 0 0, .slice none 0 0] 26 ∧ BoxAt wr B5 [.string (nameT s), v0, v1, vm] 26 ∧
    wr.ownsRow base 39 2 vm st.2.msgs.length xs ∧ MOwn wr base 3 xs st.2.msgs ∧ wr.ownsRow base 3 1 v0 st.2.pre0.length (st.2.pre0.map (Value.int .i64)) ∧ st.2.pre0.length ≤ 200000 ∧
    wr.ownsRow base 3 1 v1 st.2.pre1.length (st.2.pre1.map (Value.int .i64)) ∧ st.2.pre1.length ≤ 200000 ∧ st.2.msgs.length ≤ k ∧ Below B5 W wr ∧ Bl w wr ∧ base ≤ wr.heap.size
theorem PInv.bl {w W : World} {base B5 : Nat} {s : ByteArray} {st : Bool × Pat} {k : Nat} {wr w' : World} (h : PInv w W base B5 s st k wr) (hb : Bl wr w') : PInv w W base B5 s st k w' := by
  obtain ⟨v0, v1, vm, xs, h1, h2, h3, h4, h5, h6, h7, h8, h9, h10, h11, h12⟩ := h
  exact ⟨v0, v1, vm, xs, h1.bl hb, h2.bl hb, own_keep h3 hb, h4.bl hb, own_keep h5 hb, h6, own_keep h7 hb, h8, h9, Below.trans h10 (hb.mono (Nat.le_of_lt h2.lt)), h11.trans hb, Nat.le_trans h12 hb.size⟩
theorem PInv.next {w W : World} {base B5 : Nat} {s : ByteArray} {st : Bool × Pat} {k : Nat} {wr : World} (h : PInv w W base B5 s st k wr) (b : Bool) : PInv w W base B5 s (b, st.2) (k + 1) wr := by
  obtain ⟨v0, v1, vm, xs, h1, h2, h3, h4, h5, h6, h7, h8, h9, h10, h11, h12⟩ := h
  exact ⟨v0, v1, vm, xs, h1, h2, h3, h4, h5, h6, h7, h8, by show st.2.msgs.length ≤ k + 1; omega, h10, h11, h12⟩

set_option maxRecDepth 100000 in
set_option maxHeartbeats 4000000 in
theorem parse_any (s : ByteArray) (w : World) (hE : w.ShapedOpen Tryz.prog) (hs : s.size ≤ 90000) :
    Calls Tryz.prog 10 #[.string s] w fun e w' => ∃ v, e = .returned (.tuple #[v, .int .i64 (parseE s)]) ∧ SP w' v (parseP s) ∧ Bl w w' := by
  obtain ⟨i0, hi, hz0, hz1, hz2⟩ := info_parts infoMsg
  have hlp := splitS_pos s ⟨#[10]⟩ (by decide)
  have hll := splitS_len s ⟨#[10]⟩ (by decide)
  have HLP := Lib.hid (show 1 ≤ (linesT s).length from hlp)
  have HLL := Lib.hid (show (linesT s).length ≤ s.size + 1 from hll)
  clear hlp hll
  go_enter Tryz.func10, Tryz.ntmps10
  go_wp2_with fail
  refine (lines_any s _ (shaped_bl hE ((Bl.refl _).alloc _)) hs).mono ?_
  rintro e w1 ⟨v1, rfl, hss, hb1⟩
  have y2 := (BoxAt.new w #[.string ⟨#[]⟩, .slice none 0 0, .slice none 0 0, .slice none 0 0] 26).bl hb1
  have H1 : Bl w w1 := ((Bl.refl w).alloc _).trans hb1
  clear hb1
  generalize hlines : linesT s = ls at *
  match ls, hlines, hss, HLP, HLL with
  | [], hlines, hss, HLP, HLL => exact absurd HLP.out (by simp)
  | x0 :: rest, hlines, hss, HLP, HLL =>
    obtain ⟨sa, sc, hv1, hcap⟩ := hss.formc
    subst hv1
    obtain ⟨_, _, e, ⟨hl1, _⟩, hc⟩ := id hss
    injection e with e1 e2 e3
    subst e1 e3
    clear e2
    obtain ⟨b, o, hba, hca⟩ := hc 0 (by simp)
    subst hba
    simp only [Nat.add_zero, List.getElem_cons_zero] at hca
    have hx0 : x0.size ≤ 9223372036854775807 := by have := line_len s x0 (by rw [hlines]; simp); omega
    clear hc
    go_wp2_with fail
    refine (trimName_any s x0 w1 (by rw [hlines]; rfl) hx0).mono ?_
    rintro e W1 ⟨rfl, rfl⟩
    go_wp2_with fail
    have hB5 : w.heap.size < w1.heap.size := y2.lt
    have hbB : b < w1.heap.size := lt_of_cell hca
    have y5 := BoxAt.new w1 #[.string (nameT s), .slice none 0 0, .slice none 0 0, .slice none 0 0] 26
    replace y2 := y2.alloc (.cells #[.string (nameT s), .slice none 0 0, .slice none 0 0, .slice none 0 0] 26)
    have H2 := H1.alloc (.cells #[.string (nameT s), .slice none 0 0, .slice none 0 0, .slice none 0 0] 26)
    have hs2 : SS (w1.alloc (.cells #[.string (nameT s), .slice none 0 0, .slice none 0 0, .slice none 0 0] 26)) (.slice (some ⟨b, o, none⟩) (x0 :: rest).length sc) (linesT s) := by
      rw [hlines]; exact hss.bl ((Bl.refl _).alloc _)
    refine (hasDots_any _ s _ hs2).mono ?_
    rintro e W2 ⟨rfl, rfl⟩
    generalize w1.alloc (.cells #[.string (nameT s), .slice none 0 0, .slice none 0 0, .slice none 0 0] 26) = W at y2 y5 H2 hs2 ⊢
    generalize w1.heap.size = B5 at y5 hB5 hbB ⊢
    have hsr : SS W (.slice (some ⟨b, o + 1, none⟩) rest.length (sc - 1)) rest := by
      rw [hlines] at hs2
      obtain ⟨a', c', e, ⟨hl1', hl2'⟩, hc'⟩ := hs2
      injection e with e1 e2 e3
      subst e1 e3
      clear e2
      simp only [List.length_cons] at hl1' hl2'
      refine ⟨_, _, rfl, ⟨by omega, by omega⟩, fun j hj => ?_⟩
      obtain ⟨b'', o'', e, h⟩ := hc' (j + 1) (by simp only [List.length_cons]; omega)
      obtain ⟨rfl, rfl⟩ : b = b'' ∧ o = o'' := by simpa using e
      refine ⟨_, _, rfl, ?_⟩
      rw [show o + 1 + j = o + (j + 1) by omega]
      simpa using h
    simp only [List.length_cons] at hcap hl1
    obtain ⟨sa, sd, hsl, hsr', hlow⟩ : ∃ (sa : Option Addr) (sd : Nat), (∀ wx, (Instr.slice 56 (.slice (some ⟨b, o, none⟩) (rest.length + 1) sc) (some (.int .i64 1)) none none).run Tryz.prog wx = .ok (.slice sa rest.length sd) wx) ∧ SS W (.slice sa rest.length sd) rest ∧ ∀ ad, sa = some ad → ad.block < B5 := by
      by_cases h1 : sc = 1
      · subst h1
        have : rest = [] := List.length_eq_zero_iff.1 (by omega)
        subst this
        exact ⟨some ⟨b, o, none⟩, 0, fun wx => by go_simp, ⟨_, _, rfl, by simp, fun j hj => by simp at hj⟩, fun ad e => by cases e; exact hbB⟩
      · exact ⟨_, _, fun wx => by (go_simp; intro h; exfalso; omega), hsr, fun ad e => by cases e; exact hbB⟩
    have hrl : rest.length ≤ 90001 := by have := HLL.out; simp only [List.length_cons] at this; omega
    clear hca hss hs2 HLL HLP
    have hB2 : w.heap.size < W.heap.size := y2.lt
    have hB5' : B5 < W.heap.size := y5.lt
    have HIN := Lib.hid hlines
    clear hlines hsr hl1
    go_wp2
    go_loopw [6, 26] (fun bh i wr => ∃ k : Nat, k ≤ rest.length ∧ i = .int .i64 k ∧ bh = .bool (stT s k).1 ∧ PInv w W W.heap.size B5 s (stT s k) k wr) (fun _ i _ => rest.length - (intOf i).toNat)
    case atStart => exact ⟨0, by omega, rfl, rfl, ⟨_, _, _, [], y2, y5, World.ownsRow_nil _ _ _ _, trivial, World.ownsRow_nil _ _ _ _, by show (0 : Nat) ≤ _; omega, World.ownsRow_nil _ _ _ _, by show (0 : Nat) ≤ _; omega, by show (0 : Nat) ≤ 0; omega, Below.refl _ _, H2, Nat.le_refl _⟩⟩
    case round =>
      obtain ⟨k, hk, rfl, rfl, hI⟩ := hrel
      by_cases hkn : k < rest.length
      · have hst := stT_succ s k (by rw [HIN.out]; exact hkn)
        have hxm : rest[k] ∈ linesT s := by rw [HIN.out]; exact List.mem_cons_of_mem _ (List.getElem_mem hkn)
        have hxl := line_len s rest[k] hxm
        have hx2 : (linesT s).tail[k]'(by rw [HIN.out]; exact hkn) = rest[k] := by simp [HIN.out]
        rw [hx2] at hst
        clear hx2 hxm
        have HST := Lib.hid hst
        clear hst
        have hI0 := hI
        obtain ⟨v0, v1, vm, xs, z2, z5, hown, hmo, hp0, hl0, hp1, hl1', hml, hbW, hbr, hsz⟩ := hI
        have hsw := hsr'.low hlow hbW
        obtain ⟨_, _, e, _, hc⟩ := id hsw
        injection e with e1 e2 e3
        subst e1 e3
        clear e2
        obtain ⟨b', o', hb', hcx⟩ := hc k hkn
        subst hb'
        clear hc
        generalize hx : rest[k] = x at *
        have HX := Lib.hid hx
        clear hx
        generalize hstk : stT s k = st at *
        have HSK := Lib.hid hstk
        clear hstk
        obtain ⟨bh, p⟩ := st
        simp only at hown hmo hp0 hl0 hp1 hl1' hml
        go_wp2_with fail
        refine (row_any x wr (shaped_bl hE hbr) (by omega)).mono ?_
        rintro e w2 ⟨u, rfl, hu, hul, hb2⟩
        have hI2 := hI0.bl hb2
        obtain ⟨ua, uc, hue⟩ := own_form hu
        subst hue
        by_cases hdots : x.toList = [46, 46, 46]
        · have hd1 : (x.toList == [46, 46, 46]) = true := by rw [hdots]; rfl
          have HS' := Lib.hid (show stepL (bh, p) x = (true, p) by rw [stepL, if_pos hdots])
          clear hdots
          go_wp2
          go_roundw
          case rel => exact ⟨k + 1, by omega, by go_num, by rw [HST.out, HS'.out], by rw [HST.out, HS'.out]; exact (hI2.bl ((Bl.refl _).alloc _)).next true⟩
          case measure => simp [intOf]; omega
        · have hd1 : (x.toList == [46, 46, 46]) = false := by simpa using hdots
          cases hrb : rowB x
          · have HS' := Lib.hid (show stepL (bh, p) x = (bh, p) by rw [stepL, if_neg hdots, if_pos hrb])
            clear hdots
            go_wp2
            go_roundw
            case rel => exact ⟨k + 1, by omega, by go_num, by rw [HST.out, HS'.out], by rw [HST.out, HS'.out]; exact (hI2.bl ((Bl.refl _).alloc _)).next bh⟩
            case measure => simp [intOf]; omega
          · have hwho := rowB_who hrb
            cases bh
            · rcases hwho with hw | hw
              · have HS' := Lib.hid (show stepL (false, p) x = (false, { p with pre0 := (rowM x).t }) by rw [stepL, if_neg hdots, if_neg (by rw [hrb]; simp), if_neg (by simp), if_pos hw])
                clear hdots
                have hbA : Bl wr (w2.alloc (.cells #[.int .i64 (rowM x).who, .slice ua (rowM x).t.length uc] 39)) := hb2.alloc _
                have q5 := z5.bl hbA
                have c5 := q5.cell 1 rfl
                have f5 := q5.free 1
                have hlt5 := q5.lt
                have huA := own_keep (own_lower hu hsz) ((Bl.refl w2).alloc (.cells #[.int .i64 (rowM x).who, .slice ua (rowM x).t.length uc] 39))
                have hIA := hI0.bl hbA
                rw [hw] at hbA q5 c5 f5 hlt5 huA hIA
                go_wp2
                go_roundw
                case rel =>
                  refine ⟨k + 1, by omega, by go_num, by rw [HST.out, HS'.out], ?_⟩
                  rw [HST.out, HS'.out]
                  refine ⟨_, v1, vm, xs, (z2.bl hbA).other (by show w.heap.size ≠ B5; omega) _, q5.set 1 _, own_base (own_keep hown hbA) hB5' _, (hmo.bl hbA).store hB5' _, own_base huA hB5' _, hul, own_base (own_keep hp1 hbA) hB5' _, hl1', by show p.msgs.length ≤ k + 1; omega,
                    Below.setCell (Below.trans hbW (hbA.mono (by omega))) (Nat.le_refl _) _, (hbr.trans hbA).setCell (Nat.le_of_lt hB5) _, by
                      have := hbA.size
                      simp only [World.setCell, Array.size_modify]; omega⟩
                case measure => simp [intOf]; omega
              · have HS' := Lib.hid (show stepL (false, p) x = (false, { p with pre1 := (rowM x).t }) by rw [stepL, if_neg hdots, if_neg (by rw [hrb]; simp), if_neg (by simp), if_neg (by rw [hw]; decide)])
                clear hdots
                have hbA : Bl wr (w2.alloc (.cells #[.int .i64 (rowM x).who, .slice ua (rowM x).t.length uc] 39)) := hb2.alloc _
                have q5 := z5.bl hbA
                have c5 := q5.cell 2 rfl
                have f5 := q5.free 2
                have hlt5 := q5.lt
                have huA := own_keep (own_lower hu hsz) ((Bl.refl w2).alloc (.cells #[.int .i64 (rowM x).who, .slice ua (rowM x).t.length uc] 39))
                have hIA := hI0.bl hbA
                rw [hw] at hbA q5 c5 f5 hlt5 huA hIA
                go_wp2
                go_roundw
                case rel =>
                  refine ⟨k + 1, by omega, by go_num, by rw [HST.out, HS'.out], ?_⟩
                  rw [HST.out, HS'.out]
                  refine ⟨v0, _, vm, xs, (z2.bl hbA).other (by show w.heap.size ≠ B5; omega) _, q5.set 2 _, own_base (own_keep hown hbA) hB5' _, (hmo.bl hbA).store hB5' _, own_base (own_keep hp0 hbA) hB5' _, hl0, own_base huA hB5' _, hul, by show p.msgs.length ≤ k + 1; omega,
                    Below.setCell (Below.trans hbW (hbA.mono (by omega))) (Nat.le_refl _) _, (hbr.trans hbA).setCell (Nat.le_of_lt hB5) _, by
                      have := hbA.size
                      simp only [World.setCell, Array.size_modify]; omega⟩
                case measure => simp [intOf]; omega
            · have HS' := Lib.hid (show stepL (true, p) x = (true, { p with msgs := p.msgs ++ [rowM x] }) by rw [stepL, if_neg hdots, if_neg (by rw [hrb]; simp), if_pos rfl])
              clear hdots
              have hbA : Bl wr (w2.alloc (.cells #[.int .i64 (rowM x).who, .slice ua (rowM x).t.length uc] 39)) := hb2.alloc _
              have q5 := z5.bl hbA
              have hownA := own_keep hown hbA
              have huA := own_keep (own_lower hu hsz) ((Bl.refl w2).alloc (.cells #[.int .i64 (rowM x).who, .slice ua (rowM x).t.length uc] 39))
              have hmoA := hmo.bl hbA
              have q2 := z2.bl hbA
              have h0A := own_keep hp0 hbA
              have h1A := own_keep hp1 hbA
              have hszA : W.heap.size ≤ w2.heap.size := Nat.le_trans hsz hb2.size
              obtain ⟨oa, oc, hoe⟩ := own_form hownA
              subst hoe
              have c5 := q5.cell 3 rfl
              have f5 := q5.free 3
              have hlt5 := q5.lt
              have c90 := (BoxAt.new w2 #[.int .i64 (rowM x).who, .slice ua (rowM x).t.length uc] 39).cell 0 rfl
              have c91 := (BoxAt.new w2 #[.int .i64 (rowM x).who, .slice ua (rowM x).t.length uc] 39).cell 1 rfl
              go_wp2_with (first
                | (at_builtin; refine wpList_append_own _ rfl (.tmp 50) (.tmp 52) 24 rfl W.heap.size 39 i0 (.agg #[.int .i64 0, .slice none 0 0]) 2 32 Tryz.underlying24 hi hz0 hz1 hz2 rfl (by decide) _ _ _ rfl (hownA.alloc _) ⟨w2.heap.size + 1, 0, none⟩ 1 1 [.int .i64 (rowM x).who, .slice ua (rowM x).t.length uc] rfl rfl ?c1 ?c2 ?c3 ?c4 ?c5 ?_))
              case c1 =>
                intro j y hj
                match j, hj with
                | 0, hj => simp at hj; subst hj; simp [Addr.add, go_sem]
                | 1, hj => simp at hj; subst hj; simp [Addr.add, go_sem]
                | j + 2, hj => simp at hj
              case c2 => intro y hy; simp at hy; rcases hy with rfl | rfl <;> rfl
              case c3 => unfold maxLen; omega
              case c4 => omega
              case c5 => simp only [size_alloc]; omega
              intro v' w4 hown4 hg4 _
              have hbB : Bl (w2.alloc (.cells #[.int .i64 (rowM x).who, .slice ua (rowM x).t.length uc] 39)) ((w2.alloc (.cells #[.int .i64 (rowM x).who, .slice ua (rowM x).t.length uc] 39)).alloc (.cells #[.int .i64 (rowM x).who, .slice ua (rowM x).t.length uc] 39)) := (Bl.refl _).alloc _
              have hszB : W.heap.size ≤ ((w2.alloc (.cells #[.int .i64 (rowM x).who, .slice ua (rowM x).t.length uc] 39)).alloc (.cells #[.int .i64 (rowM x).who, .slice ua (rowM x).t.length uc] 39)).heap.size := by simp only [size_alloc]; omega
              have hb4 := Below.ofGrown (own_keep hownA hbB) hg4 hszB
              have hmo4 := (hmoA.bl hbB).grown (own_keep hownA hbB) (by decide) hg4
              have hu4 := (own_keep huA hbB).kept hg4 (own_apart (own_keep huA hbB) (own_keep hownA hbB) (by decide))
              have h04 := (own_keep h0A hbB).kept hg4 (own_apart (own_keep h0A hbB) (own_keep hownA hbB) (by decide))
              have h14 := (own_keep h1A hbB).kept hg4 (own_apart (own_keep h1A hbB) (own_keep hownA hbB) (by decide))
              have q54 := (q5.bl hbB).below hb4 hB5'
              have q24 := (q2.bl hbB).below hb4 hB2
              have hbr4 : Bl w w4 := ((hbr.trans hbA).trans hbB).below hb4 (by have := H2.size; omega)
              have hbW4 : Below B5 W w4 := Below.trans (Below.trans hbW ((hbA.trans hbB).mono (by omega))) (hb4.mono (by omega))
              have hsz4 : W.heap.size ≤ w4.heap.size := Nat.le_trans hszB hb4.size
              obtain ⟨oa4, oc4, hoe4⟩ := own_form hown4
              subst hoe4
              have c54 := q54.cell 3 rfl
              have f54 := q54.free 3
              have hlt54 := q54.lt
              have HO := Lib.hid hown4
              clear hown4 hownA hown hg4
              go_wp2
              go_roundw
              case rel =>
                refine ⟨k + 1, by omega, by go_num, by rw [HST.out, HS'.out], ?_⟩
                rw [HST.out, HS'.out]
                refine ⟨v0, v1, _, _, q24.other (by show w.heap.size ≠ B5; omega) _, q54.set 3 _, own_base (by rw [List.length_append]; exact HO.out) hB5' _, (hmo4.snoc hu4 (by omega)).store hB5' _, own_base h04 hB5' _, hl0, own_base h14 hB5' _, hl1', by show (p.msgs ++ [rowM x]).length ≤ k + 1; rw [List.length_append]; simp only [List.length_cons, List.length_nil]; omega,
                  Below.setCell hbW4 (Nat.le_refl _) _, hbr4.setCell (Nat.le_of_lt hB5) _, by
                    simp only [World.setCell, Array.size_modify]; omega⟩
              case measure => simp [intOf]; omega
      · obtain ⟨v0, v1, vm, xs, z2, z5, hown, hmo, hp0, hl0, hp1, hl1', hml, hbW, hbr, hsz⟩ := hI
        have hraw : (stT s k).2 = rawT s := by
          rw [rawT, HIN.out]
          show (stT s k).2 = (stT s rest.length).2
          rw [show k = rest.length by omega]
        have hnm := stT_name s k
        have hnsz := nameT_size s
        have hx0s := line_len s x0 (by rw [HIN.out]; simp)
        rw [HIN.out] at hnsz
        replace hnsz : (nameT s).size ≤ x0.size := hnsz
        rw [hraw] at hown hmo hp0 hl0 hp1 hl1' hml hnm
        have hsm := own_SM hown hmo.row (by omega)
        have hs0 := own_SI hp0 (by omega)
        have hs1 := own_SI hp1 (by omega)
        have hSP : SP wr (.agg #[.string (nameT s), v0, v1, vm]) (rawT s) := ⟨v0, v1, vm, by rw [hnm], by rw [hnm]; omega, hs0, hs1, hsm⟩
        obtain ⟨a0, e0, hv0⟩ := own_form hp0
        obtain ⟨a1, e1, hv1⟩ := own_form hp1
        obtain ⟨am, em, hvm⟩ := own_form hown
        subst hv0 hv1 hvm
        have HRAW := Lib.hid hraw
        have HNM := Lib.hid hnm
        have c0 := z5.cell 0 rfl
        have c1 := z5.cell 1 rfl
        have c2 := z5.cell 2 rfl
        have c3 := z5.cell 3 rfl
        clear hraw hnm
        cases hr : rightB (rawT s)
        · go_wp2_with fail
          refine (print_no _ (rawT s) _ hSP hr).mono ?_
          rintro e w3 ⟨rfl, hb3⟩
          have q2 := z2.bl hb3
          have q0 := q2.cell 0 rfl
          have q1 := q2.cell 1 rfl
          have q2' := q2.cell 2 rfl
          have q3 := q2.cell 3 rfl
          have f0 := q2.free 0
          have f1 := q2.free 1
          have f2 := q2.free 2
          have f3 := q2.free 3
          have hltq := q2.lt
          have HP := Lib.hid (show parseB s = false by rw [parseB, hr]; rfl)
          go_wp2
          have yf := (((q2.set 0 (.string ⟨#[]⟩)).set 1 (.slice none 0 0)).set 2 (.slice none 0 0)).set 3 (.slice none 0 0)
          have hbf : Bl w ((((w3.setCell ⟨w.heap.size, 0, none⟩ (.string ⟨#[]⟩)).setCell ⟨w.heap.size, 1, none⟩ (.slice none 0 0)).setCell ⟨w.heap.size, 2, none⟩ (.slice none 0 0)).setCell ⟨w.heap.size, 3, none⟩ (.slice none 0 0)) := (((Bl.setCell (hbr.trans hb3) (Nat.le_refl _) _).setCell (Nat.le_refl _) _).setCell (Nat.le_refl _) _).setCell (Nat.le_refl _) _
          have hspf : SP ((((w3.setCell ⟨w.heap.size, 0, none⟩ (.string ⟨#[]⟩)).setCell ⟨w.heap.size, 1, none⟩ (.slice none 0 0)).setCell ⟨w.heap.size, 2, none⟩ (.slice none 0 0)).setCell ⟨w.heap.size, 3, none⟩ (.slice none 0 0)) (.agg #[(.string ⟨#[]⟩), (.slice none 0 0), (.slice none 0 0), (.slice none 0 0)]) (parseP s) := by rw [(parse_no HP.out).1]; exact ⟨_, _, _, rfl, by show (0 : Nat) ≤ _; omega, SI.nil _, SI.nil _, SM.nil _⟩
          generalize ((((w3.setCell ⟨w.heap.size, 0, none⟩ (.string ⟨#[]⟩)).setCell ⟨w.heap.size, 1, none⟩ (.slice none 0 0)).setCell ⟨w.heap.size, 2, none⟩ (.slice none 0 0)).setCell ⟨w.heap.size, 3, none⟩ (.slice none 0 0)) = Wf at yf hbf hspf ⊢
          have p0 := yf.cell 0 rfl
          have p1 := yf.cell 1 rfl
          have p2 := yf.cell 2 rfl
          have p3 := yf.cell 3 rfl
          exact bodyPost_ret (v := .tuple #[.agg #[(.string ⟨#[]⟩), (.slice none 0 0), (.slice none 0 0), (.slice none 0 0)], .int .i64 2]) (by simp [results, Tryz.results10, go_sem, p0, p1, p2, p3]) rfl ⟨_, by rw [(parse_no HP.out).2], hspf, hbf⟩
        · go_wp2_with fail
          refine (print_yes _ (rawT s) _ hSP hr).mono ?_
          rintro e w3 ⟨rfl, hb3⟩
          have q2 := z2.bl hb3
          have q0 := q2.cell 0 rfl
          have q1 := q2.cell 1 rfl
          have q2' := q2.cell 2 rfl
          have q3 := q2.cell 3 rfl
          have f0 := q2.free 0
          have f1 := q2.free 1
          have f2 := q2.free 2
          have f3 := q2.free 3
          have hltq := q2.lt
          by_cases hps : printT (rawT s) = s
          · have HP := Lib.hid (show parseB s = true by rw [parseB, hr, decide_eq_true hps]; rfl)
            have hpl : ((printT (rawT s)).toList == s.toList) = true := by rw [hps]; simp
            have z5' := z5.bl hb3
            have c0' := z5'.cell 0 rfl
            have c1' := z5'.cell 1 rfl
            have c2' := z5'.cell 2 rfl
            have c3' := z5'.cell 3 rfl
            have hlt5 := z5'.lt
            have p0' := own_keep hp0 hb3
            have p1' := own_keep hp1 hb3
            have pm' := own_keep hown hb3
            have mo' := hmo.bl hb3
            clear hps
            go_wp2
            have yf := ((((q2.set 0 (.string (nameT s))).set 1 (.slice a0 (rawT s).pre0.length e0)).set 2 (.slice a1 (rawT s).pre1.length e1)).set 3 (.slice am (rawT s).msgs.length em))
            have hbf : Bl w ((((w3.setCell ⟨w.heap.size, 0, none⟩ (.string (nameT s))).setCell ⟨w.heap.size, 1, none⟩ (.slice a0 (rawT s).pre0.length e0)).setCell ⟨w.heap.size, 2, none⟩ (.slice a1 (rawT s).pre1.length e1)).setCell ⟨w.heap.size, 3, none⟩ (.slice am (rawT s).msgs.length em)) := (Bl.setCell (Bl.setCell (Bl.setCell (Bl.setCell (hbr.trans hb3) (Nat.le_refl _) _) (Nat.le_refl _) _) (Nat.le_refl _) _) (Nat.le_refl _) _)
            have k0 := (own_base (a := ⟨w.heap.size, 3, none⟩) (own_base (a := ⟨w.heap.size, 2, none⟩) (own_base (a := ⟨w.heap.size, 1, none⟩) (own_base (a := ⟨w.heap.size, 0, none⟩) p0' hB2 (.string (nameT s))) hB2 (.slice a0 (rawT s).pre0.length e0)) hB2 (.slice a1 (rawT s).pre1.length e1)) hB2 (.slice am (rawT s).msgs.length em))
            have k1 := (own_base (a := ⟨w.heap.size, 3, none⟩) (own_base (a := ⟨w.heap.size, 2, none⟩) (own_base (a := ⟨w.heap.size, 1, none⟩) (own_base (a := ⟨w.heap.size, 0, none⟩) p1' hB2 (.string (nameT s))) hB2 (.slice a0 (rawT s).pre0.length e0)) hB2 (.slice a1 (rawT s).pre1.length e1)) hB2 (.slice am (rawT s).msgs.length em))
            have km := (own_base (a := ⟨w.heap.size, 3, none⟩) (own_base (a := ⟨w.heap.size, 2, none⟩) (own_base (a := ⟨w.heap.size, 1, none⟩) (own_base (a := ⟨w.heap.size, 0, none⟩) pm' hB2 (.string (nameT s))) hB2 (.slice a0 (rawT s).pre0.length e0)) hB2 (.slice a1 (rawT s).pre1.length e1)) hB2 (.slice am (rawT s).msgs.length em))
            have kmo := ((((mo'.store (a := ⟨w.heap.size, 0, none⟩) hB2 (.string (nameT s))).store (a := ⟨w.heap.size, 1, none⟩) hB2 (.slice a0 (rawT s).pre0.length e0)).store (a := ⟨w.heap.size, 2, none⟩) hB2 (.slice a1 (rawT s).pre1.length e1)).store (a := ⟨w.heap.size, 3, none⟩) hB2 (.slice am (rawT s).msgs.length em))
            generalize ((((w3.setCell ⟨w.heap.size, 0, none⟩ (.string (nameT s))).setCell ⟨w.heap.size, 1, none⟩ (.slice a0 (rawT s).pre0.length e0)).setCell ⟨w.heap.size, 2, none⟩ (.slice a1 (rawT s).pre1.length e1)).setCell ⟨w.heap.size, 3, none⟩ (.slice am (rawT s).msgs.length em)) = Wf at yf hbf k0 k1 km kmo ⊢
            have p0 := yf.cell 0 rfl
            have p1 := yf.cell 1 rfl
            have p2 := yf.cell 2 rfl
            have p3 := yf.cell 3 rfl
            have hspf : SP Wf (.agg #[(.string (nameT s)), (.slice a0 (rawT s).pre0.length e0), (.slice a1 (rawT s).pre1.length e1), (.slice am (rawT s).msgs.length em)]) (parseP s) := by
              rw [(parse_yes HP.out).1]
              exact ⟨_, _, _, by rw [HNM.out], by rw [HNM.out]; omega, own_SI k0 (by omega), own_SI k1 (by omega), own_SM km kmo.row (by omega)⟩
            exact bodyPost_ret (v := .tuple #[.agg #[(.string (nameT s)), (.slice a0 (rawT s).pre0.length e0), (.slice a1 (rawT s).pre1.length e1), (.slice am (rawT s).msgs.length em)], .int .i64 0]) (by simp [results, Tryz.results10, go_sem, p0, p1, p2, p3]) rfl ⟨_, by rw [(parse_yes HP.out).2], hspf, hbf⟩
          · have HP := Lib.hid (show parseB s = false by rw [parseB, hr, decide_eq_false hps]; rfl)
            have hpl : ((printT (rawT s)).toList == s.toList) = false := by
              rw [beq_eq_false_iff_ne]; intro e; exact hps (str_of e)
            clear hps
            go_wp2
            have yf := (((q2.set 0 (.string ⟨#[]⟩)).set 1 (.slice none 0 0)).set 2 (.slice none 0 0)).set 3 (.slice none 0 0)
            have hbf : Bl w ((((w3.setCell ⟨w.heap.size, 0, none⟩ (.string ⟨#[]⟩)).setCell ⟨w.heap.size, 1, none⟩ (.slice none 0 0)).setCell ⟨w.heap.size, 2, none⟩ (.slice none 0 0)).setCell ⟨w.heap.size, 3, none⟩ (.slice none 0 0)) := (((Bl.setCell (hbr.trans hb3) (Nat.le_refl _) _).setCell (Nat.le_refl _) _).setCell (Nat.le_refl _) _).setCell (Nat.le_refl _) _
            have hspf : SP ((((w3.setCell ⟨w.heap.size, 0, none⟩ (.string ⟨#[]⟩)).setCell ⟨w.heap.size, 1, none⟩ (.slice none 0 0)).setCell ⟨w.heap.size, 2, none⟩ (.slice none 0 0)).setCell ⟨w.heap.size, 3, none⟩ (.slice none 0 0)) (.agg #[(.string ⟨#[]⟩), (.slice none 0 0), (.slice none 0 0), (.slice none 0 0)]) (parseP s) := by rw [(parse_no HP.out).1]; exact ⟨_, _, _, rfl, by show (0 : Nat) ≤ _; omega, SI.nil _, SI.nil _, SM.nil _⟩
            generalize ((((w3.setCell ⟨w.heap.size, 0, none⟩ (.string ⟨#[]⟩)).setCell ⟨w.heap.size, 1, none⟩ (.slice none 0 0)).setCell ⟨w.heap.size, 2, none⟩ (.slice none 0 0)).setCell ⟨w.heap.size, 3, none⟩ (.slice none 0 0)) = Wf at yf hbf hspf ⊢
            have p0 := yf.cell 0 rfl
            have p1 := yf.cell 1 rfl
            have p2 := yf.cell 2 rfl
            have p3 := yf.cell 3 rfl
            exact bodyPost_ret (v := .tuple #[.agg #[(.string ⟨#[]⟩), (.slice none 0 0), (.slice none 0 0), (.slice none 0 0)], .int .i64 2]) (by simp [results, Tryz.results10, go_sem, p0, p1, p2, p3]) rfl ⟨_, by rw [(parse_no HP.out).2], hspf, hbf⟩

end Go.Proofs.YtffibiigoikmdaaGreatDoor
