/- valid's state and what tokens do to it: plain definitions, no program. -/
import Derived.Test.YtelloecgdiocoaaDoorRep
set_option linter.unusedSimpArgs false
set_option linter.unusedVariables false
namespace Go.Proofs.YtelloecgdiocoaaDoor
open Go.RowKit

def pairA (t : Int) : Int := if t = 5 ∨ t = 6 then 2 else 1
def pairB (t : Int) : Int := if t = 4 ∨ t = 6 then 2 else 1
def mineT (who own other : Int) : Int :=
  if who = 1 then (if other = 1 ∧ own = 1 then 3 else if other = 1 then 4 else if own = 1 then 5 else 6)
  else (if own = 1 ∧ other = 1 then 3 else if own = 1 then 4 else if other = 1 then 5 else 6)

/-- what was met so far: of each of both, E and S; each token; a PSK anywhere; a key -/
structure St where
  z0 : Bool
  e0 : Bool
  s0 : Bool
  z1 : Bool
  e1 : Bool
  s1 : Bool
  m0 : Bool
  m1 : Bool
  m2 : Bool
  m3 : Bool
  m4 : Bool
  m5 : Bool
  m6 : Bool
  m7 : Bool
  mode : Bool
  keyed : Bool
def stV (s : St) : List Value := [.bool s.z0, .bool s.e0, .bool s.s0, .bool s.z1, .bool s.e1, .bool s.s1, .bool s.m0, .bool s.m1, .bool s.m2, .bool s.m3, .bool s.m4, .bool s.m5, .bool s.m6, .bool s.m7, .bool s.mode, .bool s.keyed]
def sealS (s : St) (who : Int) : Int :=
  if (if who = 1 then s.m4 else s.m5) && !s.m3 || s.m6 && !(if who = 1 then s.m5 else s.m4) then 5
  else if s.m7 && !(if who = 1 then s.e1 else s.e0) then 6 else 0
def hasS (s : St) (who t : Int) : Bool := if who = 1 then (if t = 1 then s.e1 else s.s1) else (if t = 1 then s.e0 else s.s0)
def metS (s : St) (t : Int) : Bool := if t = 3 then s.m3 else if t = 4 then s.m4 else if t = 5 then s.m5 else if t = 6 then s.m6 else s.m7
def hasSet (s : St) (who t : Int) : St := if who = 1 then (if t = 1 then { s with e1 := true } else { s with s1 := true }) else (if t = 1 then { s with e0 := true } else { s with s0 := true })
def metSet (s : St) (t : Int) : St := if t = 3 then { s with m3 := true } else if t = 4 then { s with m4 := true } else if t = 5 then { s with m5 := true } else if t = 6 then { s with m6 := true } else { s with m7 := true }
/-- the rule that a token breaks, and the state behind it -/
def tokS (s : St) (who t : Int) : Int × St :=
  if t = 1 ∨ t = 2 then
    if hasS s who t then (2, s)
    else if decide (t = 2) && s.keyed && decide (0 < sealS s who) then (sealS s who, s)
    else (0, { hasSet s who t with keyed := s.keyed || (decide (t = 1) && s.mode) })
  else if decide (t < 7) && (!hasS s 0 (pairA t) || !hasS s 1 (pairB t)) then (3, s)
  else if decide (t < 7) && metS s t then (4, s)
  else (0, { metSet s t with keyed := true })
theorem sealS_cases (s : St) (who : Int) : sealS s who = 5 ∨ sealS s who = 6 ∨ sealS s who = 0 := by
  unfold sealS
  repeat' split
  all_goals simp
theorem tokS_nonneg (s : St) (who t : Int) : 0 ≤ (tokS s who t).1 := by
  have := sealS_cases s who
  unfold tokS
  repeat' split
  all_goals simp
  omega

/-- a message's tokens, till one breaks a rule -/
def msgL (s : St) (who : Int) : List Int → Int × St
  | [] => (0, s)
  | t :: r => if 0 < (tokS s who t).1 then tokS s who t else msgL (tokS s who t).2 who r
def msgS (s : St) (m : Msg) : Int × St :=
  if 0 < (msgL s m.who m.t).1 then msgL s m.who m.t
  else (if (msgL s m.who m.t).2.keyed then sealS (msgL s m.who m.t).2 m.who else 0, (msgL s m.who m.t).2)
/-- the messages' rule and number, till one breaks a rule -/
def chkL (s : St) (prev : Int) (k : Nat) : List Msg → Option (Int × Nat) × St
  | [] => (none, s)
  | m :: r => if prev = m.who then (some (1, k), s) else if 0 < (msgS s m).1 then (some ((msgS s m).1, k), (msgS s m).2) else chkL (msgS s m).2 m.who (k + 1) r
def endS (s : St) (p : Pat) : Int :=
  if !s.keyed then 7
  else if (decide (p.msgs.length ≠ 1) || decide ((p.msgs.headD ⟨0, []⟩).who = 0)) && decide (0 < sealS s 0) then sealS s 0
  else if (decide (p.msgs.length ≠ 1) || decide ((p.msgs.headD ⟨0, []⟩).who = 1)) && decide (0 < sealS s 1) then sealS s 1
  else 0
def beginS (p : Pat) : St :=
  { z0 := false, e0 := p.pre0.contains 1, s0 := p.pre0.contains 2, z1 := false, e1 := p.pre1.contains 1, s1 := p.pre1.contains 2,
    m0 := false, m1 := false, m2 := false, m3 := false, m4 := false, m5 := false, m6 := false, m7 := false,
    mode := p.msgs.any (fun m => m.t.contains 7), keyed := p.msgs.any (fun m => m.t.contains 7) && (p.pre0.contains 1 || p.pre1.contains 1) }
/-- what Check gives of a pattern that may be -/
def chkR (p : Pat) : Int × Nat × Int :=
  match chkL (beginS p) (-1) 0 p.msgs with
  | (some (r, k), _) => (r, k, 13)
  | (none, s) => if 0 < endS s p then (endS s p, p.msgs.length, 13) else (0, 0, 0)
def okMsgs (ms : List Msg) : Prop := ∀ m ∈ ms, (m.who = 0 ∨ m.who = 1) ∧ ∀ t ∈ m.t, 1 ≤ t ∧ t ≤ 7
end Go.Proofs.YtelloecgdiocoaaDoor
