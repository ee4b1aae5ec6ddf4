/- Walks: what the base laws share: the told example. -/
import Derived.Test.YtelloecgdiocoaaDoorB10
import Derived.Lib.QuietBelow
set_option linter.unusedSimpArgs false
set_option linter.unusedVariables false
namespace Go.Proofs.YtelloecgdiocoaaDoor
open Go.RowKit Go.Sort

def xxfN : ByteArray := ⟨#[88, 88, 102, 97, 108, 108, 98, 97, 99, 107]⟩
def xxfT : ByteArray := ⟨#[88, 88, 102, 97, 108, 108, 98, 97, 99, 107, 58, 10, 45, 62, 32, 101, 10, 46, 46, 46, 10, 60, 45, 32, 101, 44, 32, 101, 101, 44, 32, 115, 44, 32, 101, 115, 10, 45, 62, 32, 115, 44, 32, 115, 101, 10]⟩
def xxfP : Pat := ⟨xxfN, [1], [], [⟨1, [1, 3, 2, 4]⟩, ⟨0, [2, 5]⟩]⟩
theorem xxf_named : namedR xxfN = (xxfP, 0) := by decide +kernel
theorem xxf_right : rightB xxfP = true := by decide +kernel
theorem xxf_print : printT xxfP = xxfT := by decide +kernel
theorem namedXXf (w : World) (hE : Env w) :
    Calls Tryd.prog 37 #[.string ⟨#[88, 88, 102, 97, 108, 108, 98, 97, 99, 107]⟩] w fun e w' => ∃ v, e = .returned (.tuple #[v, .int .i64 0]) ∧ SP w' v xxfP ∧ Bl w w' := by
  have := namedF_any xxfN w hE (by decide)
  rw [xxf_named] at this
  exact this
theorem printXXf (v : Value) (w : World) (h : SP w v xxfP) :
    Calls Tryd.prog 34 #[v] w fun e w' => e = .returned (.tuple #[.string ⟨#[88, 88, 102, 97, 108, 108, 98, 97, 99, 107, 58, 10, 45, 62, 32, 101, 10, 46, 46, 46, 10, 60, 45, 32, 101, 44, 32, 101, 101, 44, 32, 115, 44, 32, 101, 115, 10, 45, 62, 32, 115, 44, 32, 115, 101, 10]⟩, .int .i64 0]) ∧ Bl w w' := by
  have := print_yes v xxfP w h xxf_right
  rw [xxf_print] at this
  exact this

set_option maxRecDepth 100000 in
set_option maxHeartbeats 4000000 in
theorem awake6_any (w : World) (hE : Env w) :
    Calls Tryd.prog 30 #[] w fun e w' => e = .returned (.bool true) ∧ Bl w w' := by
  go_enter Tryd.func30, Tryd.ntmps30
  go_wp2_with fail
  refine (namedXXf w hE).mono ?_
  rintro e w1 ⟨v, rfl, hs, hb⟩
  have hs0 := hs
  obtain ⟨v0, v1, vm, rfl, _, h0, h1, hm⟩ := hs
  obtain ⟨a0, c0, rfl⟩ := h0.form
  obtain ⟨a1, c1, rfl⟩ := h1.form
  obtain ⟨am, cm, rfl⟩ := hm.form
  clear h0 h1 hm
  have b1 : Bl w1 (w1.alloc (.cells #[.string ⟨#[88, 88, 102, 97, 108, 108, 98, 97, 99, 107]⟩, .slice a0 1 c0, .slice a1 0 c1, .slice am 2 cm] 29)) := (Bl.refl w1).alloc _
  have hs1 := hs0.bl b1
  have H1 := hb.trans b1
  go_wp2_with fail
  refine (printXXf _ _ hs1).mono ?_
  rintro e w2 ⟨rfl, hb2⟩
  have H2 := H1.trans hb2
  go_wp2_with fail
  refine (bnames_any w2).mono ?_
  rintro e w3 ⟨nv, rfl, hss, hb3⟩
  obtain ⟨na, nc, rfl⟩ := hss.form
  rw [show bNames.length = 15 from rfl]
  go_wp2
  go_ret
  exact ⟨rfl, H2.trans hb3⟩
end Go.Proofs.YtelloecgdiocoaaDoor
