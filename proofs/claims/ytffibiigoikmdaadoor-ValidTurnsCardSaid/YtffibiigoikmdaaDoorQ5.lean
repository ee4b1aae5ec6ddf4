/- A pattern turned round keeps the rules just if it does: plain lemmas, no program. -/
import Derived.Test.YtffibiigoikmdaaDoorV9
set_option linter.unusedSimpArgs false
set_option linter.unusedVariables false
namespace Go.Proofs.YtffibiigoikmdaaDoor
open Go.RowKit

def swT (t : Int) : Int := if t = 4 then 5 else if t = 5 then 4 else t
def swW (x : Int) : Int := wrap64 (1 - x)
def turnM (m : Msg) : Msg := ⟨swW m.who, m.t.map swT⟩
def turnP (p : Pat) : Pat := ⟨p.name, p.pre1, p.pre0, p.msgs.map turnM⟩
/-- whose numbers are Go's -/
def Bnd (l : List Msg) : Prop := ∀ m ∈ l, -9223372036854775808 ≤ m.who ∧ m.who ≤ 9223372036854775807
theorem swW_ok {x : Int} (h : x = 0 ∨ x = 1) : swW x = 1 - x := by
  unfold swW wrap64
  omega
theorem swW_lo {x : Int} (h1 : -9223372036854775808 ≤ x) (h2 : x ≤ 9223372036854775807) : (swW x < 0 ∨ 1 < swW x) ↔ (x < 0 ∨ 1 < x) := by
  unfold swW wrap64
  omega
theorem swT_bad (t : Int) : badTok (swT t) = badTok t := by
  unfold badTok swT
  by_cases h4 : t = 4
  · subst h4; rfl
  · by_cases h5 : t = 5
    · subst h5; rfl
    · rw [if_neg h4, if_neg h5]
theorem turn_bad (m : Msg) (h1 : -9223372036854775808 ≤ m.who) (h2 : m.who ≤ 9223372036854775807) : badMsg (turnM m) = badMsg m := by
  obtain ⟨who, l⟩ := m
  have hw := swW_lo h1 h2
  have ha : (l.map swT).any badTok = l.any badTok := by
    rw [List.any_map]
    congr 1
    funext t
    exact swT_bad t
  unfold badMsg turnM
  simp only [List.length_map, ha]
  rw [Bool.eq_iff_iff]
  simp only [Bool.or_eq_true, decide_eq_true_eq]
  simp only at hw
  constructor
  · rintro ((((h | h) | h) | h) | h)
    · rcases hw.1 (.inl h) with k | k
      · exact .inl (.inl (.inl (.inl k)))
      · exact .inl (.inl (.inl (.inr k)))
    · rcases hw.1 (.inr h) with k | k
      · exact .inl (.inl (.inl (.inl k)))
      · exact .inl (.inl (.inl (.inr k)))
    · exact .inl (.inl (.inr h))
    · exact .inl (.inr h)
    · exact .inr h
  · rintro ((((h | h) | h) | h) | h)
    · rcases hw.2 (.inl h) with k | k
      · exact .inl (.inl (.inl (.inl k)))
      · exact .inl (.inl (.inl (.inr k)))
    · rcases hw.2 (.inr h) with k | k
      · exact .inl (.inl (.inl (.inl k)))
      · exact .inl (.inl (.inl (.inr k)))
    · exact .inl (.inl (.inr h))
    · exact .inl (.inr h)
    · exact .inr h
theorem any_turn : ∀ (l : List Msg), Bnd l → (l.map turnM).any badMsg = l.any badMsg
  | [], _ => rfl
  | m :: l, h => by
    obtain ⟨h1, h2⟩ := h m (by simp)
    rw [List.map_cons, List.any_cons, List.any_cons, turn_bad m h1 h2, any_turn l (fun x hx => h x (by simp [hx]))]
theorem turn_right (p : Pat) (h : Bnd p.msgs) : rightB (turnP p) = rightB p := by
  unfold rightB turnP
  simp only [List.length_map]
  rw [any_turn p.msgs h]
  generalize namedB p.name = a
  generalize toldB p.pre0 = b
  generalize toldB p.pre1 = c
  cases a <;> cases b <;> cases c <;> rfl

def swS (s : St) : St := { s with z0 := s.z1, e0 := s.e1, s0 := s.s1, z1 := s.z0, e1 := s.e0, s1 := s.s0, m4 := s.m5, m5 := s.m4 }
theorem sw_seal (s : St) (who : Int) (h : who = 0 ∨ who = 1) : sealS (swS s) (1 - who) = sealS s who := by
  rcases h with rfl | rfl <;> rfl
theorem sw_tok (s : St) (who t : Int) (h : who = 0 ∨ who = 1) (h1 : 1 ≤ t) (h7 : t ≤ 7) : tokS (swS s) (1 - who) (swT t) = ((tokS s who t).1, swS (tokS s who t).2) := by
  have hs := sw_seal s who h
  have ht : t = 1 ∨ t = 2 ∨ t = 3 ∨ t = 4 ∨ t = 5 ∨ t = 6 ∨ t = 7 := by omega
  obtain ⟨z0, e0, s0, z1, e1, s1, m0, m1, m2, m3, m4, m5, m6, m7, mode, keyed⟩ := s
  rcases h with rfl | rfl
  · rw [show (1 : Int) - 0 = 1 from rfl] at hs ⊢
    rcases ht with rfl | rfl | rfl | rfl | rfl | rfl | rfl
    · show tokS _ 1 1 = _
      simp only [tokS, hasS, hasSet, swS]
      cases e0 <;> simp
    · show tokS _ 1 2 = _
      simp only [tokS, hasS, hasSet]
      rw [hs]
      generalize sealS _ 0 = r
      cases s0 <;> cases keyed <;> simp [swS]
      split <;> simp
    · show tokS _ 1 3 = _
      cases e0 <;> cases e1 <;> cases m3 <;> rfl
    · show tokS _ 1 5 = _
      cases e0 <;> cases s1 <;> cases m4 <;> rfl
    · show tokS _ 1 4 = _
      cases s0 <;> cases e1 <;> cases m5 <;> rfl
    · show tokS _ 1 6 = _
      cases s0 <;> cases s1 <;> cases m6 <;> rfl
    · rfl
  · rw [show (1 : Int) - 1 = 0 from rfl] at hs ⊢
    rcases ht with rfl | rfl | rfl | rfl | rfl | rfl | rfl
    · show tokS _ 0 1 = _
      simp only [tokS, hasS, hasSet, swS]
      cases e1 <;> simp
    · show tokS _ 0 2 = _
      simp only [tokS, hasS, hasSet]
      rw [hs]
      generalize sealS _ 1 = r
      cases s1 <;> cases keyed <;> simp [swS]
      split <;> simp
    · show tokS _ 0 3 = _
      cases e0 <;> cases e1 <;> cases m3 <;> rfl
    · show tokS _ 0 5 = _
      cases e0 <;> cases s1 <;> cases m4 <;> rfl
    · show tokS _ 0 4 = _
      cases s0 <;> cases e1 <;> cases m5 <;> rfl
    · show tokS _ 0 6 = _
      cases s0 <;> cases s1 <;> cases m6 <;> rfl
    · rfl
theorem sw_line (who : Int) (h : who = 0 ∨ who = 1) : ∀ (l : List Int) (s : St), (∀ t ∈ l, 1 ≤ t ∧ t ≤ 7) → msgL (swS s) (1 - who) (l.map swT) = ((msgL s who l).1, swS (msgL s who l).2)
  | [], s, _ => rfl
  | t :: r, s, ht => by
    obtain ⟨h1, h7⟩ := ht t (by simp)
    have e := sw_tok s who t h h1 h7
    rw [List.map_cons, msgL, msgL, e]
    by_cases h0 : 0 < (tokS s who t).1
    · rw [if_pos h0, if_pos h0]
    · rw [if_neg h0, if_neg h0]
      exact sw_line who h r _ (fun u hu => ht u (by simp [hu]))
theorem sw_msg (s : St) (m : Msg) (h : m.who = 0 ∨ m.who = 1) (ht : ∀ t ∈ m.t, 1 ≤ t ∧ t ≤ 7) : msgS (swS s) (turnM m) = ((msgS s m).1, swS (msgS s m).2) := by
  have e := sw_line m.who h m.t s ht
  unfold msgS turnM
  simp only
  rw [swW_ok h, e]
  by_cases h0 : 0 < (msgL s m.who m.t).1
  · rw [if_pos h0, if_pos h0]
  · rw [if_neg h0, if_neg h0, sw_seal _ m.who h]
    rfl
theorem sw_chk : ∀ (ms : List Msg) (s : St) (prev prev' : Int) (k : Nat), okMsgs ms → (∀ x, (x = 0 ∨ x = 1) → (prev' = 1 - x ↔ prev = x)) →
    chkL (swS s) prev' k (ms.map turnM) = ((chkL s prev k ms).1, swS (chkL s prev k ms).2)
  | [], s, prev, prev', k, _, _ => rfl
  | m :: r, s, prev, prev', k, ho, hp => by
    obtain ⟨hw, ht⟩ := ho m (by simp)
    have e := sw_msg s m hw ht
    have hww : (turnM m).who = 1 - m.who := swW_ok hw
    rw [List.map_cons, chkL, chkL, e, hww]
    by_cases h0 : prev = m.who
    · rw [if_pos h0, if_pos ((hp _ hw).2 h0)]
    · rw [if_neg h0, if_neg (fun h => h0 ((hp _ hw).1 h))]
      by_cases h1 : 0 < (msgS s m).1
      · rw [if_pos h1, if_pos h1]
      · rw [if_neg h1, if_neg h1]
        exact sw_chk r _ m.who (1 - m.who) (k + 1) (fun x hx => ho x (by simp [hx])) (fun x hx => by omega)
theorem map7 (l : List Int) : (l.map swT).contains 7 = l.contains 7 := by
  induction l with
  | nil => rfl
  | cons t r ih =>
    rw [List.map_cons, List.contains_cons, List.contains_cons, ih]
    congr 1
    rw [Bool.eq_iff_iff, beq_iff_eq, beq_iff_eq]
    unfold swT
    by_cases h4 : t = 4
    · subst h4; decide
    · by_cases h5 : t = 5
      · subst h5; decide
      · rw [if_neg h4, if_neg h5]
theorem sw_begin (p : Pat) : beginS (turnP p) = swS (beginS p) := by
  have hm : (p.msgs.map turnM).any (fun m => m.t.contains 7) = p.msgs.any (fun m => m.t.contains 7) := by
    rw [List.any_map]
    congr 1
    funext m
    exact map7 m.t
  unfold beginS turnP swS
  simp only [hm]
  rw [Bool.or_comm]
theorem sw_end (s : St) (p : Pat) (h1 : p.msgs.length ≠ 1) : (0 < endS (swS s) (turnP p) ↔ 0 < endS s p) := by
  have hl : (turnP p).msgs.length ≠ 1 := by unfold turnP; simpa using h1
  have d1 : decide (p.msgs.length ≠ 1) = true := by simpa using h1
  have d2 : decide ((turnP p).msgs.length ≠ 1) = true := by simpa using hl
  have a0 : sealS (swS s) 0 = sealS s 1 := sw_seal s 1 (.inr rfl)
  have a1 : sealS (swS s) 1 = sealS s 0 := sw_seal s 0 (.inl rfl)
  have hk : (swS s).keyed = s.keyed := rfl
  unfold endS
  rw [d1, d2, a0, a1, hk]
  simp only [Bool.true_or, Bool.true_and, decide_eq_true_eq]
  cases s.keyed
  · simp
  · by_cases h0 : 0 < sealS s 0
    · by_cases h1 : 0 < sealS s 1
      · simp [h0, h1]
      · simp [h0, h1]
    · by_cases h1 : 0 < sealS s 1
      · simp [h0, h1]
      · simp [h0, h1]
/-- both break the same rule in the same message, or both at the end, or neither -/
theorem turn_check (p : Pat) (h : Bnd p.msgs) (h2 : 2 ≤ p.msgs.length) :
    (checkV (turnP p)).2.2 = (checkV p).2.2 ∧ (checkV (turnP p)).2.1 = (checkV p).2.1 ∧ (((checkV p).2.2 = 0 ∨ (checkV p).2.1 < p.msgs.length) → (checkV (turnP p)).1 = (checkV p).1) := by
  unfold checkV
  rw [turn_right p h]
  cases hr : rightB p
  · simp
  · simp only [if_true]
    obtain ⟨_, _, _, _, ho⟩ := right_parts hr
    have e := sw_chk p.msgs (beginS p) (-1) (-1) 0 ho (fun x hx => by omega)
    have he := fun s => sw_end s p (by omega)
    unfold chkR
    rw [sw_begin, show (turnP p).msgs = p.msgs.map turnM from rfl, e]
    cases hc : chkL (beginS p) (-1) 0 p.msgs with
    | mk x s =>
      cases x with
      | some x => obtain ⟨a, b⟩ := x; exact ⟨rfl, rfl, fun _ => rfl⟩
      | none =>
        simp only [List.length_map]
        by_cases h0 : 0 < endS s p
        · rw [if_pos h0, if_pos ((he s).2 h0)]
          exact ⟨rfl, rfl, fun hh => by rcases hh with hh | hh <;> simp at hh⟩
        · rw [if_neg h0, if_neg (fun h => h0 ((he s).1 h))]
          exact ⟨rfl, rfl, fun _ => rfl⟩
end Go.Proofs.YtffibiigoikmdaaDoor
