/- Walk: undertonelaw05.TokenEnds. -/
import Derived.Test.YtkcmmcgbkihpfaaDoorL5e
set_option linter.unusedSimpArgs false
set_option linter.unusedVariables false
namespace Go.Proofs.YtkcmmcgbkihpfaaDoor
open Go.RowKit Go.Sort

theorem noParse (t : ByteArray) (w : World) (hE : w.ShapedOpen Tryd.prog) (hs : t.size ≤ 90000) (hp : parseB t = false) :
    Calls Tryd.prog 16 #[.string t] w fun e w' => ∃ v, e = .returned (.tuple #[v, .int .i64 2]) ∧ SP w' v zeroP ∧ Bl w w' := by
  refine (parse_any t w hE hs).mono fun e w' h => ?_
  obtain ⟨v, he, hs, hb⟩ := h
  rw [(parse_no hp).2] at he
  rw [(parse_no hp).1] at hs
  exact ⟨v, he, hs, hb⟩
theorem print_small {p : Pat} (hp : RightP p) : (printT p).size ≤ 60000 := by
  have := msgsT_size_take p hp.small p.msgs.length
  rw [List.take_length] at this
  exact this

theorem four_texts {s : ByteArray} (w : World) (T : TypeId) (hs : s.size ≤ 60000) (hno : ∀ t, bl t = bl s ++ [10] ∨ bl t = (bl s).dropLast ∨ bl t = bl s ++ [32] ∨ bl t = 32 :: bl s → parseB t = false) (k : Nat) (hk : k < 4) :
    ∃ t, (w.alloc (.cells #[.string (s ++ ⟨#[10]⟩), .string (s.extract 0 (s.size - 1)), .string (s ++ ⟨#[32]⟩), .string (⟨#[32]⟩ ++ s)] T)).cell? ⟨w.heap.size, k, none⟩ = some (.string t) ∧ parseB t = false ∧ t.size ≤ 90000 := by
  have x := BoxAt.new w #[.string (s ++ ⟨#[10]⟩), .string (s.extract 0 (s.size - 1)), .string (s ++ ⟨#[32]⟩), .string (⟨#[32]⟩ ++ s)] T
  match k, hk with
  | 0, _ => exact ⟨_, x.cell 0 rfl, hno _ (.inl (bl_append _ _)), by rw [ByteArray.size_append]; show _ + 1 ≤ _; omega⟩
  | 1, _ => exact ⟨_, x.cell 1 rfl, hno _ (.inr (.inl (by
      unfold bl
      rw [ByteArray.data_extract, Array.toList_extract, List.extract_eq_take_drop, List.drop_zero, List.dropLast_eq_take]; rfl))), by rw [ByteArray.size_extract]; omega⟩
  | 2, _ => exact ⟨_, x.cell 2 rfl, hno _ (.inr (.inr (.inl (bl_append _ _)))), by rw [ByteArray.size_append]; show _ + 1 ≤ _; omega⟩
  | 3, _ => exact ⟨_, x.cell 3 rfl, hno _ (.inr (.inr (.inr (bl_append _ _)))), by rw [ByteArray.size_append]; show 1 + _ ≤ _; omega⟩
  | k + 4, h => exact absurd h (by omega)

set_option maxRecDepth 100000 in
set_option maxHeartbeats 4000000 in
theorem tokenEnds_any (v : Value) (p : Pat) (w : World) (hE : w.ShapedOpen Tryd.prog) (hp : SP w v p) :
    Calls Tryd.prog 7 #[v] w fun e w' => e = .returned (.bool true) ∧ Bl w w' := by
  have hp0 := hp
  obtain ⟨v0, v1, vm, rfl, _, h0, h1, hm⟩ := hp
  obtain ⟨a0, c0, rfl⟩ := h0.form
  obtain ⟨a1, c1, rfl⟩ := h1.form
  obtain ⟨am, cm, rfl⟩ := hm.form
  clear h0 h1 hm
  go_enter Tryd.func7, Tryd.ntmps7
  have x := BoxAt.new w #[.string p.name, .slice a0 p.pre0.length c0, .slice a1 p.pre1.length c1, .slice am p.msgs.length cm] 29
  have H := ((Bl.refl w).alloc (.cells #[.string p.name, .slice a0 p.pre0.length c0, .slice a1 p.pre1.length c1, .slice am p.msgs.length cm] 29))
  go_wp2_with fail
  generalize (w.alloc (.cells #[.string p.name, .slice a0 p.pre0.length c0, .slice a1 p.pre1.length c1, .slice am p.msgs.length cm] 29)) = W at x H ⊢
  cases hrp : rightB p
  · refine (print_no _ p W (hp0.bl H) hrp).mono ?_
    rintro e w3 ⟨rfl, hb3⟩
    have x3 := x.bl hb3
    have H3 := H.trans hb3
    obtain ⟨p0, p1, p2, p3⟩ := x3.four
    go_wp2_with fail
    refine (few_any _ p w3 (hp0.bl H3)).mono ?_
    rintro e w4 ⟨rfl, hb4⟩
    cases hfp : fewB p
    · go_wp2_with fail
      refine (awake5_any w4 (shaped_bl hE (H3.trans hb4))).mono ?_
      rintro e w5 ⟨rfl, hb5⟩
      go_wp2
      exact bodyPost_ret (v := .bool true) (by simp [results, Tryd.results7, go_sem]) rfl ⟨rfl, (H3.trans hb4).trans hb5⟩
    · go_wp2_with fail
      refine (awake5_any w4 (shaped_bl hE (H3.trans hb4))).mono ?_
      rintro e w5 ⟨rfl, hb5⟩
      go_wp2
      exact bodyPost_ret (v := .bool true) (by simp [results, Tryd.results7, go_sem]) rfl ⟨rfl, (H3.trans hb4).trans hb5⟩
  · have hR := (right_iff p).1 hrp
    refine (print_yes _ p W (hp0.bl H) hrp).mono ?_
    rintro e w3 ⟨rfl, hb3⟩
    have x3 := x.bl hb3
    have H3 := H.trans hb3
    obtain ⟨p0, p1, p2, p3⟩ := x3.four
    have hsz := print_small hR
    have hno := fun t => ends_no hR t
    obtain ⟨ea, ec, ee, _⟩ := print_end hR
    have hpos : 1 ≤ (printT p).size := by
      have : (bl (printT p)).length = (printT p).size := rfl
      rw [ee] at this
      simp at this; omega
    clear ee
    generalize printT p = s at *
    go_wp2_with fail
    refine (few_any _ p w3 (hp0.bl H3)).mono ?_
    rintro e w4 ⟨rfl, hb4⟩
    have H4 := H3.trans hb4
    cases hfp : fewB p
    · go_wp2_with fail
      refine (awake5_any w4 (shaped_bl hE H4)).mono ?_
      rintro e w5 ⟨rfl, hb5⟩
      go_wp2
      exact bodyPost_ret (v := .bool true) (by simp [results, Tryd.results7, go_sem]) rfl ⟨rfl, H4.trans hb5⟩
    · have HNO := Lib.hid hno
      clear hno
      have hlt : w4.heap.size < (w4.alloc (.cells #[.string (s ++ ⟨#[10]⟩), .string (s.extract 0 (s.size - 1)), .string (s ++ ⟨#[32]⟩), .string (⟨#[32]⟩ ++ s)] 9)).heap.size := by rw [size_alloc]; omega
      have h4 := four_texts w4 9 hsz HNO.out
      have H5 := H4.alloc (.cells #[.string (s ++ ⟨#[10]⟩), .string (s.extract 0 (s.size - 1)), .string (s ++ ⟨#[32]⟩), .string (⟨#[32]⟩ ++ s)] 9)
      go_wp2
      generalize (w4.alloc (.cells #[.string (s ++ ⟨#[10]⟩), .string (s.extract 0 (s.size - 1)), .string (s ++ ⟨#[32]⟩), .string (⟨#[32]⟩ ++ s)] 9)) = W5 at h4 H5 hlt ⊢
      have HF := Lib.hid h4
      clear h4
      go_loopw [40] (fun i wr => ∃ k : Nat, k ≤ 4 ∧ i = .int .i64 k ∧ Bl W5 wr) (fun i _ => 4 - (intOf i).toNat)
      case atStart => exact ⟨0, by omega, rfl, Bl.refl _⟩
      case round =>
        obtain ⟨k, hk4, rfl, hbr⟩ := hrel
        have H6 := H5.trans hbr
        by_cases hk : k < 4
        · obtain ⟨t, hc, hpt, hts⟩ := HF.out k hk
          replace hc := hbr.cellq hc
          go_wp2_with fail
          refine (noParse t wr (shaped_bl hE H6) hts hpt).mono ?_
          rintro e w7 ⟨z, rfl, hz, hb7⟩
          have hz0 := hz
          obtain ⟨z0, z1, zm, rfl, _, k0, k1, km⟩ := hz
          obtain ⟨e0, f0, rfl⟩ := k0.form
          obtain ⟨e1, f1, rfl⟩ := k1.form
          obtain ⟨em, fm, rfl⟩ := km.form
          have x7 := BoxAt.new w7 #[.string ⟨#[]⟩, .slice e0 0 f0, .slice e1 0 f1, .slice em 0 fm] 29
          have hzA := hz0.bl ((Bl.refl w7).alloc (.cells #[.string ⟨#[]⟩, .slice e0 0 f0, .slice e1 0 f1, .slice em 0 fm] 29))
          have h7 := hb7.alloc (.cells #[.string ⟨#[]⟩, .slice e0 0 f0, .slice e1 0 f1, .slice em 0 fm] 29)
          go_wp2_with fail
          refine (sameP_any _ _ zeroP zeroP _ hzA (zeroSP _) rfl).mono ?_
          rintro e w8 ⟨rfl, hb8⟩
          go_wp2
          go_roundw
          case rel => exact ⟨k + 1, by omega, by go_num, (hbr.trans h7).trans hb8⟩
          case measure => simp [intOf]; omega
        · obtain rfl : k = 4 := by omega
          go_wp2_with fail
          refine (awake5_any wr (shaped_bl hE H6)).mono ?_
          rintro e w8 ⟨rfl, hb8⟩
          go_wp2
          exact bodyPost_ret (v := .bool true) (by simp [results, Tryd.results7, go_sem]) rfl ⟨rfl, H6.trans hb8⟩
end Go.Proofs.YtkcmmcgbkihpfaaDoor
