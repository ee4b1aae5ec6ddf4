/- What a pattern that keeps the rules has: plain lemmas, no program. -/
import Derived.Test.YtffibiigoikmdaaDoorQ3
set_option linter.unusedSimpArgs false
set_option linter.unusedVariables false
namespace Go.Proofs.YtffibiigoikmdaaDoor
open Go.RowKit

def flatL (ms : List Msg) : List (Int × Int) := ms.flatMap (fun m => m.t.map (fun t => (m.who, t)))
/-- each DH token once at most; each of both tells E and S once at most, and not again what was told beforehand -/
structure Inv (p : Pat) (L : List (Int × Int)) : Prop where
  dh : ∀ t, 3 ≤ t → t ≤ 6 → met1 L 2 t ≤ 1
  own : ∀ who t, (who = 0 ∨ who = 1) → (t = 1 ∨ t = 2) → met1 L who t ≤ 1
  pre : ∀ who t, (who = 0 ∨ who = 1) → (t = 1 ∨ t = 2) → (preL p who).contains t = true → met1 L who t = 0
theorem Inv.nil (p : Pat) : Inv p [] := ⟨fun _ _ _ => by simp [met1], fun _ _ _ _ => by simp [met1], fun _ _ _ _ _ => by simp [met1]⟩
theorem Inv.step {p : Pat} {L : List (Int × Int)} {w u : Int} (h : Inv p L) (hw : w = 0 ∨ w = 1) (h1 : 1 ≤ u) (h7 : u ≤ 7) (ho : ¬ 0 < one1 p L w u) : Inv p (L ++ [(w, u)]) := by
  have hn := one_nonneg p L w u hw h1 h7
  have hz : one1 p L w u = 0 := by omega
  refine ⟨fun t h3 h6 => ?_, fun who t hwho ht => ?_, fun who t hwho ht hp => ?_⟩
  · rw [met1_snoc]
    by_cases hut : u = t
    · subst hut
      have hm : met1 L 2 u = 0 := by
        unfold one1 at hz
        rw [if_neg (by omega), if_neg (by omega)] at hz
        split at hz
        · omega
        · split at hz
          · omega
          · omega
      rw [hm]
      split <;> omega
    · rw [if_neg (fun h => hut h.1)]
      have := h.dh t h3 h6
      omega
  · rw [met1_snoc]
    by_cases hut : u = t ∧ (who = 2 ∨ w = who)
    · obtain ⟨rfl, hww⟩ := hut
      have hww : w = who := by rcases hww with e | e <;> omega
      subst hww
      have hm : told1 p L w u = false := by
        unfold one1 at hz
        rw [if_pos (by omega)] at hz
        cases ht' : told1 p L w u
        · rfl
        · rw [ht', if_pos rfl] at hz; omega
      have : met1 L w u = 0 := by
        unfold told1 at hm
        simp only [Bool.or_eq_false_iff, decide_eq_false_iff_not] at hm
        omega
      rw [this]
      split <;> omega
    · rw [if_neg hut]
      have := h.own who t hwho ht
      omega
  · rw [met1_snoc, h.pre who t hwho ht hp]
    by_cases hut : u = t ∧ (who = 2 ∨ w = who)
    · obtain ⟨rfl, hww⟩ := hut
      have hww : w = who := by rcases hww with e | e <;> omega
      subst hww
      unfold one1 at hz
      rw [if_pos (by omega)] at hz
      have : told1 p L w u = true := by unfold told1; rw [hp, Bool.true_or]
      rw [this, if_pos rfl] at hz
      omega
    · rw [if_neg hut]
theorem Inv.line {p : Pat} (who : Int) (hw : who = 0 ∨ who = 1) : ∀ (l : List Int) (L : List (Int × Int)), Inv p L → (∀ t ∈ l, 1 ≤ t ∧ t ≤ 7) → ¬ 0 < refL p L who l → Inv p (L ++ l.map (fun t => (who, t)))
  | [], L, h, _, _ => by simpa using h
  | t :: r, L, h, ht, hr => by
    obtain ⟨h1, h7⟩ := ht t (by simp)
    rw [refL] at hr
    by_cases h0 : 0 < one1 p L who t
    · rw [if_pos h0] at hr; exact absurd h0 hr
    · rw [if_neg h0] at hr
      have := Inv.line who hw r _ (h.step hw h1 h7 h0) (fun u hu => ht u (by simp [hu])) hr
      simpa using this
/-- what holds of each message where no rule is broken -/
theorem refM_each {p : Pat} : ∀ (ms : List Msg) (L : List (Int × Int)) (prev : Int) (k : Nat), okMsgs ms → refM p L prev k ms = none →
    (∀ i, (hi : i < ms.length) → (if i = 0 then prev else (ms.getD (i - 1) ⟨0, []⟩).who) ≠ ms[i].who ∧ ¬ (key1 p (L ++ flatL (ms.take (i + 1))) = true ∧ 0 < seal1 p (L ++ flatL (ms.take (i + 1))) ms[i].who)) ∧ (Inv p L → Inv p (L ++ flatL ms))
  | [], L, prev, k, _, _ => ⟨fun i hi => by simp at hi, fun h => by simpa [flatL] using h⟩
  | m :: r, L, prev, k, ho, h => by
    obtain ⟨hw, ht⟩ := ho m (by simp)
    rw [refM] at h
    by_cases h0 : prev = m.who
    · rw [if_pos h0] at h; simp at h
    · rw [if_neg h0] at h
      by_cases h1 : 0 < refL p L m.who m.t
      · rw [if_pos h1] at h; simp at h
      · rw [if_neg h1] at h
        by_cases h2 : (key1 p (more L m) && decide (0 < seal1 p (more L m) m.who)) = true
        · rw [if_pos h2] at h; simp at h
        · rw [if_neg h2] at h
          obtain ⟨a, b⟩ := refM_each r (more L m) m.who (k + 1) (fun x hx => ho x (by simp [hx])) h
          have em : ∀ n, more L m ++ flatL (r.take n) = L ++ flatL ((m :: r).take (n + 1)) := fun n => by simp [more, flatL]
          refine ⟨fun i hi => ?_, fun hI => ?_⟩
          · cases i with
            | zero =>
              refine ⟨by simpa using h0, ?_⟩
              rw [← em 0]
              simpa [flatL] using h2
            | succ j =>
              have := a j (by simpa using hi)
              rw [em (j + 1)] at this
              refine ⟨?_, by simpa using this.2⟩
              have h3 := this.1
              cases j with
              | zero => simpa using h3
              | succ j => simpa using h3
          · have := b (hI.line m.who hw m.t L ht h1)
            have e2 := em r.length
            simp only [List.take_length] at e2
            rw [e2] at this
            simpa using this
theorem flat_take (p : Pat) (i : Nat) : flatL (p.msgs.take i) = aheadL p i 0 := by
  unfold flatL aheadL
  cases p.msgs[i]? <;> simp
/-- a pattern that keeps the rules -/
structure Kept (p : Pat) : Prop where
  inv : Inv p (allL p)
  turn : ∀ i, (hi : i + 1 < p.msgs.length) → p.msgs[i + 1].who ≠ p.msgs[i].who
  sl : ∀ i, (hi : i < p.msgs.length) → ¬ (key1 p (aheadL p (i + 1) 0) = true ∧ 0 < seal1 p (aheadL p (i + 1) 0) p.msgs[i].who)
  key : key1 p (allL p) = true
theorem kept_of {p : Pat} (ho : okMsgs p.msgs) (h : (refR p).2.2 = 0) : Kept p := by
  unfold refR at h
  cases hm : refM p [] (-1) 0 p.msgs with
  | some x => obtain ⟨a, b⟩ := x; rw [hm] at h; simp at h
  | none =>
    rw [hm] at h
    simp only at h
    obtain ⟨a, b⟩ := refM_each p.msgs [] (-1) 0 ho hm
    simp only [List.nil_append] at a b
    refine ⟨b (Inv.nil p), fun i hi => ?_, fun i hi => ?_, ?_⟩
    · have := (a (i + 1) hi).1
      rw [if_neg (by omega)] at this
      intro e
      apply this
      rw [e]
      simp only [Nat.add_sub_cancel, List.getD_eq_getElem?_getD, List.getElem?_eq_getElem (show i < p.msgs.length by omega), Option.getD_some]
    · have := (a i hi).2
      rw [flat_take] at this
      exact this
    · by_cases he : 0 < endR p
      · rw [if_pos he] at h; simp at h
      · unfold endR at he
        cases hk : key1 p (allL p)
        · rw [hk] at he; simp at he
        · rfl
/-- behind each message: who seals with a static key met has EE met; behind a PSK they have told an E -/
theorem Kept.seals {p : Pat} (h : Kept p) (i : Nat) (hi : i < p.msgs.length) :
    (0 < met1 (aheadL p (i + 1) 0) 2 (if p.msgs[i].who = 1 then 4 else 5) → 0 < met1 (aheadL p (i + 1) 0) 2 3) ∧ (0 < met1 (aheadL p (i + 1) 0) 2 7 → told1 p (aheadL p (i + 1) 0) p.msgs[i].who 1 = true) := by
  have hs := h.sl i hi
  generalize aheadL p (i + 1) 0 = L at *
  generalize p.msgs[i].who = who at *
  have hk : ∀ t, (t = 4 ∨ t = 5 ∨ t = 7) → 0 < met1 L 2 t → key1 p L = true := by
    intro t ht hm
    have : anyKey L = true := by
      unfold anyKey
      rcases ht with rfl | rfl | rfl <;> simp [hm]
    unfold key1
    rw [this, Bool.true_or]
  constructor
  · intro h1
    have hkk := hk _ (by split <;> omega) h1
    by_cases h3 : 0 < met1 L 2 3
    · exact h3
    · exfalso
      apply hs
      refine ⟨hkk, ?_⟩
      unfold seal1
      rw [if_pos (by
        have : decide (met1 L 2 3 = 0) = true := by rw [decide_eq_true_eq]; omega
        rw [this, decide_eq_true h1]; rfl)]
      omega
  · intro h1
    have hkk := hk 7 (by omega) h1
    cases ht : told1 p L who 1
    · exfalso
      apply hs
      refine ⟨hkk, ?_⟩
      unfold seal1
      rw [decide_eq_true h1, ht]
      generalize ((decide (0 < met1 L 2 (if who = 1 then 4 else 5)) && decide (met1 L 2 3 = 0)) || (decide (0 < met1 L 2 6) && decide (met1 L 2 (if who = 1 then 5 else 4) = 0))) = A
      cases A <;> simp
    · rfl
end Go.Proofs.YtffibiigoikmdaaDoor
