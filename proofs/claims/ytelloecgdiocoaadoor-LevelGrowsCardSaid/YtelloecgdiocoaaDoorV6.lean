/- Walks: valid's state: a message. -/
import Derived.Test.YtelloecgdiocoaaDoorV5
set_option linter.unusedSimpArgs false
set_option linter.unusedVariables false
namespace Go.Proofs.YtelloecgdiocoaaDoor
open Go.RowKit Go.Sort

/-- what reads as ints is kept by stores into a box of bools -/
theorem SI.ob {w w' : World} {v : Value} {l : List Int} {B : Nat} {s : St} {T : TypeId} (h : SI w v l) (hb : BoxAt w B (stV s) T) (k : OB B w w') : SI w' v l := by
  obtain ⟨a, c, rfl, hl, hc⟩ := h
  refine ⟨a, c, rfl, hl, fun j hj => ?_⟩
  obtain ⟨b, o, e, h⟩ := hc j hj
  have hlt := lt_of_cell h
  have hne : b ≠ B := by
    rintro rfl
    unfold BoxAt at hb
    simp only [World.cell?, hb] at h
    have h' : (stV s)[o + j]? = some (.int .i64 l[j]) := by simpa using h
    have := List.mem_of_getElem? h'
    simp [stV] at this
  refine ⟨b, o, e, ?_⟩
  have := k.same b hlt hne
  simp only [World.cell?, this] at h ⊢
  exact h

set_option maxRecDepth 100000 in
set_option maxHeartbeats 4000000 in
theorem message_any (s : St) (m : Msg) (v : Value) (hw : m.who = 0 ∨ m.who = 1) (ht : ∀ t ∈ m.t, 1 ≤ t ∧ t ≤ 7) (B : Nat) (w : World) (hb : BoxAt w B (stV s) 106) (hv : SI w v m.t) :
    Calls Tryd.prog 74 #[.pointer (some ⟨B, 0, none⟩), .agg #[.int .i64 m.who, v]] w fun e w' => e = .returned (.int .i64 (msgS s m).1) ∧ BoxAt w' B (stV (msgS s m).2) 106 ∧ OB B w w' := by
  obtain ⟨who, l⟩ := m
  simp only at hw ht hv
  obtain ⟨a, c, rfl⟩ := hv.form
  have hlen := hv.len
  go_enter Tryd.func74, Tryd.ntmps74
  have hlt := hb.lt
  have hne : w.heap.size ≠ B := by omega
  have y := BoxAt.new w #[.int .i64 who, .slice a l.length c] 65
  have x := hb.alloc (.cells #[.int .i64 who, .slice a l.length c] 65)
  have hv1 := hv.bl ((Bl.refl w).alloc (.cells #[.int .i64 who, .slice a l.length c] 65))
  have H : OB B w (w.alloc (.cells #[.int .i64 who, .slice a l.length c] 65)) := OB.ofBl ((Bl.refl w).alloc _) hlt
  go_wp2
  generalize w.alloc (.cells #[.int .i64 who, .slice a l.length c] 65) = W at x y hv1 H ⊢
  go_loopw [11] (fun i wr => ∃ (k : Nat) (sk : St), k ≤ l.length ∧ i = .int .i64 k ∧ BoxAt wr B (stV sk) 106 ∧ BoxAt wr w.heap.size [.int .i64 who, .slice a l.length c] 65 ∧ SI wr (.slice a l.length c) l ∧ OB B w wr ∧
      Hid (msgL s who l = msgL sk who (l.drop k))) (fun i _ => l.length - (intOf i).toNat)
  case atStart => exact ⟨0, s, by omega, rfl, x, y, hv1, H, Lib.hid (by simp)⟩
  case round =>
    obtain ⟨k, sk, hk, rfl, xr, yr, hvr, Hr, HL⟩ := hrel
    by_cases hkn : k < l.length
    · obtain ⟨_, _, e, _, hc⟩ := id hvr
      injection e with e1 e2 e3
      subst e1 e3
      clear e2
      obtain ⟨b, o, rfl, hca⟩ := hc k hkn
      clear hc
      obtain ⟨h1, h7⟩ := ht l[k] (List.getElem_mem hkn)
      have HD := Lib.hid (List.drop_eq_getElem_cons hkn)
      generalize l[k] = t at *
      have y0 := yr.cell 0 rfl
      have y1 := yr.cell 1 rfl
      go_wp2_with fail
      refine (tok_any sk who t hw h1 h7 B wr xr).mono ?_
      rintro e w1 ⟨rfl, x1, H1⟩
      have HT : Hid (msgL s who l = if 0 < (tokS sk who t).1 then tokS sk who t else msgL (tokS sk who t).2 who (l.drop (k + 1))) := Lib.hid (by rw [HL.out, HD.out, msgL])
      generalize tokS sk who t = q at *
      obtain ⟨r, s2⟩ := q
      simp only at x1 HT ⊢
      have y2 := yr.ob H1 hne
      have hv2 := hvr.ob xr H1
      have H2 := Hr.trans H1
      by_cases hr : 0 < r
      · have hd : decide (0 < r) = true := by simpa using hr
        have HE : Hid (msgS s ⟨who, l⟩ = (r, s2)) := Lib.hid (by
          have e := HT.out
          rw [if_pos hr] at e
          rw [msgS]
          simp only [e, hr, if_true])
        go_wp2
        go_ret
        refine ⟨ret_int (by rw [HE.out]), by rw [HE.out]; exact x1, H2⟩
      · have hd : decide (0 < r) = false := by simpa using hr
        have HE : Hid (msgL s who l = msgL s2 who (l.drop (k + 1))) := Lib.hid (by
          have e := HT.out
          rw [if_neg hr] at e
          exact e)
        go_wp2
        go_roundw
        case rel => exact ⟨k + 1, s2, by omega, by go_num, x1, y2, hv2, H2, HE⟩
        case measure => simp [intOf]; omega
    · have HM : Hid (msgL s who l = (0, sk)) := Lib.hid (by
        rw [HL.out, List.drop_eq_nil_of_le (by omega)]
        rfl)
      have HE : Hid (msgS s ⟨who, l⟩ = (if sk.keyed then sealS sk who else 0, sk)) := Lib.hid (by
        rw [msgS]
        simp [HM.out])
      clear HL HM
      have k15 := xr.cell 15 rfl
      have y0 := yr.cell 0 rfl
      have hltr := xr.lt
      cases hkd : sk.keyed
      · rw [hkd] at k15
        have HZ : Hid ((msgS s ⟨who, l⟩) = (0, sk)) := Lib.hid (by rw [HE.out, hkd]; rfl)
        clear HE hkd
        go_wp2
        go_ret
        exact ⟨ret_int (by rw [HZ.out]), by rw [HZ.out]; exact xr, Hr⟩
      · rw [hkd] at k15
        have HZ : Hid ((msgS s ⟨who, l⟩) = (sealS sk who, sk)) := Lib.hid (by rw [HE.out, hkd]; rfl)
        clear HE hkd
        go_wp2_with fail
        refine (sealing_any sk who hw B wr xr).mono ?_
        rintro e w1 ⟨rfl, hb1⟩
        go_wp2
        go_ret
        exact ⟨ret_int (by rw [HZ.out]), by rw [HZ.out]; exact xr.bl hb1, Hr.trans (OB.ofBl hb1 hltr)⟩
end Go.Proofs.YtelloecgdiocoaaDoor
