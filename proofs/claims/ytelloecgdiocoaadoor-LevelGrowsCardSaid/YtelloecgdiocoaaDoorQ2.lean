/- valid's fold over a pattern and the reference's tell the same: plain lemmas, no program. -/
import Derived.Test.YtelloecgdiocoaaDoorQ1
set_option linter.unusedSimpArgs false
set_option linter.unusedVariables false
namespace Go.Proofs.YtelloecgdiocoaaDoor
open Go.RowKit

theorem one_nonneg (p : Pat) (L : List (Int × Int)) (who t : Int) (hw : who = 0 ∨ who = 1) (h1 : 1 ≤ t) (h7 : t ≤ 7) : 0 ≤ one1 p L who t := by
  rw [← tok_rule p L who t hw h1 h7]
  exact tokS_nonneg _ _ _
theorem msgL_rule (p : Pat) (who : Int) (hw : who = 0 ∨ who = 1) : ∀ (l : List Int) (L : List (Int × Int)), (∀ t ∈ l, 1 ≤ t ∧ t ≤ 7) →
    (msgL (stOf p L) who l).1 = refL p L who l ∧ (refL p L who l = 0 → (msgL (stOf p L) who l).2 = stOf p (L ++ l.map (fun t => (who, t))))
  | [], L, _ => by simp [msgL, refL]
  | t :: r, L, h => by
    obtain ⟨h1, h7⟩ := h t (by simp)
    have hr := tok_rule p L who t hw h1 h7
    have hn := one_nonneg p L who t hw h1 h7
    by_cases h0 : 0 < one1 p L who t
    · have e : msgL (stOf p L) who (t :: r) = tokS (stOf p L) who t := by rw [msgL, hr, if_pos h0]
      have e2 : refL p L who (t :: r) = one1 p L who t := by rw [refL, if_pos h0]
      rw [e, e2]
      exact ⟨hr, fun h => by omega⟩
    · have hz : one1 p L who t = 0 := by omega
      have hx := tok_next p L who t hw h1 h7 (by rw [hr, hz])
      have e : msgL (stOf p L) who (t :: r) = msgL (stOf p (L ++ [(who, t)])) who r := by rw [msgL, hr, if_neg h0, hx]
      have e2 : refL p L who (t :: r) = refL p (L ++ [(who, t)]) who r := by rw [refL, if_neg h0]
      rw [e, e2]
      obtain ⟨a, b⟩ := msgL_rule p who hw r (L ++ [(who, t)]) (fun u hu => h u (by simp [hu]))
      refine ⟨a, fun h => ?_⟩
      rw [b h]
      simp
theorem refL_nonneg (p : Pat) (who : Int) (hw : who = 0 ∨ who = 1) : ∀ (l : List Int) (L : List (Int × Int)), (∀ t ∈ l, 1 ≤ t ∧ t ≤ 7) → 0 ≤ refL p L who l
  | [], L, _ => by simp [refL]
  | t :: r, L, h => by
    obtain ⟨h1, h7⟩ := h t (by simp)
    have hn := one_nonneg p L who t hw h1 h7
    rw [refL]
    split
    · exact hn
    · exact refL_nonneg p who hw r _ (fun u hu => h u (by simp [hu]))
theorem seal_nonneg (s : St) (who : Int) : 0 ≤ sealS s who := by
  have := sealS_cases s who
  omega
theorem msgS_rule (p : Pat) (L : List (Int × Int)) (m : Msg) (hw : m.who = 0 ∨ m.who = 1) (ht : ∀ t ∈ m.t, 1 ≤ t ∧ t ≤ 7) :
    (msgS (stOf p L) m).1 = (if 0 < refL p L m.who m.t then refL p L m.who m.t else if key1 p (more L m) then seal1 p (more L m) m.who else 0) ∧
    (¬ 0 < refL p L m.who m.t → (msgS (stOf p L) m).2 = stOf p (more L m)) := by
  obtain ⟨a, b⟩ := msgL_rule p m.who hw m.t L ht
  have hn := refL_nonneg p m.who hw m.t L ht
  unfold msgS
  rw [a]
  by_cases h : 0 < refL p L m.who m.t
  · rw [if_pos h, if_pos h]
    exact ⟨a, fun h' => absurd h h'⟩
  · rw [if_neg h, if_neg h]
    have e := b (by omega)
    rw [e]
    refine ⟨?_, fun _ => rfl⟩
    show (if (stOf p (more L m)).keyed then _ else _) = _
    rw [seal_same p _ _ hw]
    rfl
theorem chkL_rule (p : Pat) : ∀ (ms : List Msg) (L : List (Int × Int)) (prev : Int) (k : Nat), okMsgs ms →
    (chkL (stOf p L) prev k ms).1 = refM p L prev k ms ∧ (refM p L prev k ms = none → (chkL (stOf p L) prev k ms).2 = stOf p (L ++ ms.flatMap (fun m => m.t.map (fun t => (m.who, t)))))
  | [], L, prev, k, _ => by simp [chkL, refM]
  | m :: r, L, prev, k, h => by
    obtain ⟨hw, ht⟩ := h m (by simp)
    obtain ⟨a, b⟩ := msgS_rule p L m hw ht
    rw [chkL, refM]
    by_cases h0 : prev = m.who
    · rw [if_pos h0, if_pos h0]; simp
    · rw [if_neg h0, if_neg h0, a]
      by_cases h1 : 0 < refL p L m.who m.t
      · simp [h1]
      · have e := b h1
        simp only [h1, if_false]
        by_cases h2 : key1 p (more L m) = true
        · by_cases h3 : 0 < seal1 p (more L m) m.who
          · simp [h2, h3]
          · simp only [h2, h3, if_true, if_false, decide_false, Bool.and_false, e]
            obtain ⟨c, d⟩ := chkL_rule p r (more L m) m.who (k + 1) (fun x hx => h x (by simp [hx]))
            refine ⟨by simpa using c, fun hh => ?_⟩
            have := d (by simpa using hh)
            rw [this, more]
            simp
        · have h2' : key1 p (more L m) = false := Bool.eq_false_iff.2 h2
          simp only [h2', e]
          obtain ⟨c, d⟩ := chkL_rule p r (more L m) m.who (k + 1) (fun x hx => h x (by simp [hx]))
          refine ⟨by simpa using c, fun hh => ?_⟩
          have := d (by simpa using hh)
          simp only [more] at this ⊢
          simp
          simpa using this
theorem met1_all (p : Pat) (t : Int) : decide (0 < met1 (allL p) 2 t) = p.msgs.any (fun m => m.t.contains t) := by
  rw [Bool.eq_iff_iff, decide_eq_true_eq]
  simp only [met1, List.countP_pos_iff, List.any_eq_true, allL, List.mem_flatMap, List.mem_map]
  constructor
  · rintro ⟨q, ⟨m, hm, u, hu, rfl⟩, h⟩
    refine ⟨m, hm, ?_⟩
    simp only [decide_true, Bool.true_or, Bool.and_true, decide_eq_true_eq] at h
    rw [← h]
    simpa using hu
  · rintro ⟨m, hm, h⟩
    exact ⟨(m.who, t), ⟨m, hm, t, by simpa using h, rfl⟩, by simp⟩
theorem ahead_all (p : Pat) (n k : Nat) (h : p.msgs.length ≤ n) : aheadL p n k = allL p := by
  unfold aheadL allL
  rw [List.take_of_length_le h, List.getElem?_eq_none h]
  simp
theorem mode_same (p : Pat) (h : p.msgs.length ≤ 99) : mode1 p = p.msgs.any (fun m => m.t.contains 7) := by
  rw [mode1, ahead_all p 99 0 h, met1_all]
theorem begin_same (p : Pat) (h : p.msgs.length ≤ 99) : beginS p = stOf p [] := by
  have h0 : ∀ who t, told1 p [] who t = (preL p who).contains t := by intro who t; simp [told1, met1]
  have hm := mode_same p h
  unfold beginS stOf key1
  rw [h0, h0, h0, h0, hm]
  rfl
theorem end_same (p : Pat) (h1 : 1 ≤ p.msgs.length) : endS (stOf p (allL p)) p = endR p := by
  unfold endS endR
  rw [seal_same p _ 0 (.inl rfl), seal_same p _ 1 (.inr rfl)]
  have : decide (p.msgs.length ≠ 1) = decide (1 < p.msgs.length) := by
    by_cases h : p.msgs.length = 1
    · simp [h]
    · have : 1 < p.msgs.length := by omega
      simp [h, this]
  rw [this]
  rfl
theorem chk_same (p : Pat) (h1 : 1 ≤ p.msgs.length) (h : p.msgs.length ≤ 99) (ho : okMsgs p.msgs) : chkR p = refR p := by
  obtain ⟨a, b⟩ := chkL_rule p p.msgs [] (-1) 0 ho
  unfold chkR refR
  rw [begin_same p h]
  cases hc : chkL (stOf p []) (-1) 0 p.msgs with
  | mk x s =>
    rw [hc] at a b
    simp only at a b
    rw [← a]
    cases x with
    | some x => rfl
    | none =>
      have := b a.symm
      simp only [List.nil_append] at this
      rw [this]
      have e := end_same p h1
      unfold allL at e
      simp only [e]

theorem ahead_succ (p : Pat) (i k : Nat) (m : Msg) (hi : p.msgs[i]? = some m) (hk : k < m.t.length) : aheadL p i (k + 1) = aheadL p i k ++ [(m.who, m.t[k])] := by
  unfold aheadL
  rw [hi]
  simp only [List.take_succ_eq_append_getElem hk, List.map_append, List.map_cons, List.map_nil, List.append_assoc]
theorem ahead_end (p : Pat) (i : Nat) (m : Msg) (hi : p.msgs[i]? = some m) (k : Nat) (hk : m.t.length ≤ k) (x : Nat) (hx : p.msgs.length ≤ i + 1 ∨ x = 0) : aheadL p i k = aheadL p (i + 1) x := by
  obtain ⟨hlt, he⟩ := List.getElem?_eq_some_iff.1 hi
  unfold aheadL
  rw [hi, List.take_succ_eq_append_getElem hlt, List.flatMap_append, he]
  rcases hx with hx | rfl
  · rw [List.getElem?_eq_none hx]
    simp [List.take_of_length_le hk]
  · cases p.msgs[i + 1]? <;> simp [List.take_of_length_le hk]
theorem ahead_zero (p : Pat) (i : Nat) (m : Msg) (hi : p.msgs[i]? = some m) : more (aheadL p i 0) m = aheadL p (i + 1) 0 := by
  rw [← ahead_end p i m hi m.t.length (Nat.le_refl _) 0 (.inr rfl)]
  unfold more aheadL
  rw [hi]
  simp
theorem ahead_start (p : Pat) : aheadL p 0 0 = [] := by
  unfold aheadL
  split <;> simp
end Go.Proofs.YtelloecgdiocoaaDoor
