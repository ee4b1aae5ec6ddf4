/- What the reference says of a pattern, by what stands ahead of each token; and that valid's state tells the same: plain lemmas, no program. -/
import Derived.Test.YtelloecgdiocoaaDoorS1
set_option linter.unusedSimpArgs false
set_option linter.unusedVariables false
namespace Go.Proofs.YtelloecgdiocoaaDoor
open Go.RowKit

/-- how often a token was met, by one of both (2: whoever), among these -/
def met1 (L : List (Int × Int)) (who t : Int) : Nat := L.countP (fun q => decide (q.2 = t) && (decide (who = 2) || decide (q.1 = who)))
def preL (p : Pat) (who : Int) : List Int := if who = 1 then p.pre1 else p.pre0
/-- what stands ahead of token number at of message number msg -/
def aheadL (p : Pat) (msg at' : Nat) : List (Int × Int) :=
  (p.msgs.take msg).flatMap (fun m => m.t.map (fun t => (m.who, t))) ++ (match p.msgs[msg]? with | some m => (m.t.take at').map (fun t => (m.who, t)) | none => [])
def told1 (p : Pat) (L : List (Int × Int)) (who t : Int) : Bool := (preL p who).contains t || decide (0 < met1 L who t)
def mode1 (p : Pat) : Bool := decide (0 < met1 (aheadL p 99 0) 2 7)
def anyKey (L : List (Int × Int)) : Bool := decide (0 < met1 L 2 3) || decide (0 < met1 L 2 4) || decide (0 < met1 L 2 5) || decide (0 < met1 L 2 6) || decide (0 < met1 L 2 7)
def key1 (p : Pat) (L : List (Int × Int)) : Bool := anyKey L || (mode1 p && (told1 p L 0 1 || told1 p L 1 1))
def seal1 (p : Pat) (L : List (Int × Int)) (who : Int) : Int :=
  if (decide (0 < met1 L 2 (if who = 1 then 4 else 5)) && decide (met1 L 2 3 = 0)) || (decide (0 < met1 L 2 6) && decide (met1 L 2 (if who = 1 then 5 else 4) = 0)) then 5
  else if decide (0 < met1 L 2 7) && !told1 p L who 1 then 6 else 0
def one1 (p : Pat) (L : List (Int × Int)) (who t : Int) : Int :=
  if t ≤ 2 then
    if told1 p L who t then 2
    else if decide (t = 2) && key1 p L then seal1 p L who else 0
  else if t = 7 then 0
  else if !told1 p L 0 (pairA t) || !told1 p L 1 (pairB t) then 3
  else if 0 < met1 L 2 t then 4 else 0
def refL (p : Pat) (L : List (Int × Int)) (who : Int) : List Int → Int
  | [] => 0
  | t :: r => if 0 < one1 p L who t then one1 p L who t else refL p (L ++ [(who, t)]) who r
def more (L : List (Int × Int)) (m : Msg) : List (Int × Int) := L ++ m.t.map (fun t => (m.who, t))
def refM (p : Pat) (L : List (Int × Int)) (prev : Int) (k : Nat) : List Msg → Option (Int × Nat)
  | [] => none
  | m :: r => if prev = m.who then some (1, k) else if 0 < refL p L m.who m.t then some (refL p L m.who m.t, k)
    else if key1 p (more L m) && decide (0 < seal1 p (more L m) m.who) then some (seal1 p (more L m) m.who, k) else refM p (more L m) m.who (k + 1) r
def allL (p : Pat) : List (Int × Int) := p.msgs.flatMap (fun m => m.t.map (fun t => (m.who, t)))
def endR (p : Pat) : Int :=
  if !key1 p (allL p) then 7
  else if (decide (1 < p.msgs.length) || decide ((p.msgs.headD ⟨0, []⟩).who = 0)) && decide (0 < seal1 p (allL p) 0) then seal1 p (allL p) 0
  else if (decide (1 < p.msgs.length) || decide ((p.msgs.headD ⟨0, []⟩).who = 1)) && decide (0 < seal1 p (allL p) 1) then seal1 p (allL p) 1
  else 0
def refR (p : Pat) : Int × Nat × Int :=
  match refM p [] (-1) 0 p.msgs with
  | some (r, k) => (r, k, 13)
  | none => if 0 < endR p then (endR p, p.msgs.length, 13) else (0, 0, 0)

theorem met1_snoc (L : List (Int × Int)) (a b who t : Int) : met1 (L ++ [(a, b)]) who t = met1 L who t + (if b = t ∧ (who = 2 ∨ a = who) then 1 else 0) := by
  unfold met1
  rw [List.countP_append, List.countP_singleton]
  congr 1
  simp
theorem told1_snoc (p : Pat) (L : List (Int × Int)) (a b who t : Int) : told1 p (L ++ [(a, b)]) who t = (told1 p L who t || (decide (b = t) && (decide (who = 2) || decide (a = who)))) := by
  unfold told1
  rw [met1_snoc, Bool.or_assoc]
  congr 1
  by_cases h : b = t ∧ (who = 2 ∨ a = who)
  · rw [if_pos h]; simp [h]
  · rw [if_neg h]
    have : (decide (b = t) && (decide (who = 2) || decide (a = who))) = false := by simpa using h
    rw [this, Bool.or_false, Nat.add_zero]

/-- the state that these tell -/
def stOf (p : Pat) (L : List (Int × Int)) : St :=
  { z0 := false, e0 := told1 p L 0 1, s0 := told1 p L 0 2, z1 := false, e1 := told1 p L 1 1, s1 := told1 p L 1 2, m0 := false, m1 := false, m2 := false,
    m3 := decide (0 < met1 L 2 3), m4 := decide (0 < met1 L 2 4), m5 := decide (0 < met1 L 2 5), m6 := decide (0 < met1 L 2 6), m7 := decide (0 < met1 L 2 7),
    mode := mode1 p, keyed := key1 p L }
theorem zero_not (n : Nat) : decide (n = 0) = !decide (0 < n) := by
  by_cases h : n = 0
  · subst h; rfl
  · have : 0 < n := by omega
    simp [h, this]
theorem seal_same (p : Pat) (L : List (Int × Int)) (who : Int) (hw : who = 0 ∨ who = 1) : seal1 p L who = sealS (stOf p L) who := by
  rcases hw with rfl | rfl
  · simp [seal1, sealS, stOf]
  · simp [seal1, sealS, stOf]
theorem has_same (p : Pat) (L : List (Int × Int)) (who t : Int) (hw : who = 0 ∨ who = 1) (ht : t = 1 ∨ t = 2) : hasS (stOf p L) who t = told1 p L who t := by
  rcases hw with rfl | rfl <;> rcases ht with rfl | rfl <;> rfl
theorem tok_cases {t : Int} (h1 : 1 ≤ t) (h7 : t ≤ 7) : t = 1 ∨ t = 2 ∨ t = 3 ∨ t = 4 ∨ t = 5 ∨ t = 6 ∨ t = 7 := by omega
theorem tokS1 (s : St) (who : Int) : tokS s who 1 = if hasS s who 1 then (2, s) else (0, { hasSet s who 1 with keyed := s.keyed || s.mode }) := by simp [tokS]
theorem tokS2 (s : St) (who : Int) : tokS s who 2 = if hasS s who 2 then (2, s) else if s.keyed && decide (0 < sealS s who) then (sealS s who, s) else (0, { hasSet s who 2 with keyed := s.keyed }) := by simp [tokS]
theorem tokS3 (s : St) (who : Int) : tokS s who 3 = if !s.e0 || !s.e1 then (3, s) else if s.m3 then (4, s) else (0, { s with m3 := true, keyed := true }) := by simp [tokS, hasS, metS, metSet, pairA, pairB]
theorem tokS4 (s : St) (who : Int) : tokS s who 4 = if !s.e0 || !s.s1 then (3, s) else if s.m4 then (4, s) else (0, { s with m4 := true, keyed := true }) := by simp [tokS, hasS, metS, metSet, pairA, pairB]
theorem tokS5 (s : St) (who : Int) : tokS s who 5 = if !s.s0 || !s.e1 then (3, s) else if s.m5 then (4, s) else (0, { s with m5 := true, keyed := true }) := by simp [tokS, hasS, metS, metSet, pairA, pairB]
theorem tokS6 (s : St) (who : Int) : tokS s who 6 = if !s.s0 || !s.s1 then (3, s) else if s.m6 then (4, s) else (0, { s with m6 := true, keyed := true }) := by simp [tokS, hasS, metS, metSet, pairA, pairB]
theorem tokS7 (s : St) (who : Int) : tokS s who 7 = (0, { s with m7 := true, keyed := true }) := by simp [tokS, metSet]
theorem one11 (p : Pat) (L : List (Int × Int)) (who : Int) : one1 p L who 1 = if told1 p L who 1 then 2 else 0 := by simp [one1]
theorem one12 (p : Pat) (L : List (Int × Int)) (who : Int) : one1 p L who 2 = if told1 p L who 2 then 2 else if key1 p L then seal1 p L who else 0 := by simp [one1]
theorem one13 (p : Pat) (L : List (Int × Int)) (who : Int) : one1 p L who 3 = if !told1 p L 0 1 || !told1 p L 1 1 then 3 else if decide (0 < met1 L 2 3) then 4 else 0 := by simp [one1, pairA, pairB]
theorem one14 (p : Pat) (L : List (Int × Int)) (who : Int) : one1 p L who 4 = if !told1 p L 0 1 || !told1 p L 1 2 then 3 else if decide (0 < met1 L 2 4) then 4 else 0 := by simp [one1, pairA, pairB]
theorem one15 (p : Pat) (L : List (Int × Int)) (who : Int) : one1 p L who 5 = if !told1 p L 0 2 || !told1 p L 1 1 then 3 else if decide (0 < met1 L 2 5) then 4 else 0 := by simp [one1, pairA, pairB]
theorem one16 (p : Pat) (L : List (Int × Int)) (who : Int) : one1 p L who 6 = if !told1 p L 0 2 || !told1 p L 1 2 then 3 else if decide (0 < met1 L 2 6) then 4 else 0 := by simp [one1, pairA, pairB]
theorem one17 (p : Pat) (L : List (Int × Int)) (who : Int) : one1 p L who 7 = 0 := by simp [one1]
theorem anyKey_snoc (L : List (Int × Int)) (a b : Int) : anyKey (L ++ [(a, b)]) = (anyKey L || decide (b = 3) || decide (b = 4) || decide (b = 5) || decide (b = 6) || decide (b = 7)) := by
  have h : ∀ t : Int, decide (0 < met1 (L ++ [(a, b)]) 2 t) = (decide (0 < met1 L 2 t) || decide (b = t)) := by
    intro t
    rw [met1_snoc]
    by_cases h : b = t
    · simp [h]
    · simp [h]
  unfold anyKey
  simp only [h]
  generalize decide (0 < met1 L 2 3) = a3
  generalize decide (0 < met1 L 2 4) = a4
  generalize decide (0 < met1 L 2 5) = a5
  generalize decide (0 < met1 L 2 6) = a6
  generalize decide (0 < met1 L 2 7) = a7
  generalize decide (b = 3) = b3
  generalize decide (b = 4) = b4
  generalize decide (b = 5) = b5
  generalize decide (b = 6) = b6
  generalize decide (b = 7) = b7
  revert a3 a4 a5 a6 a7 b3 b4 b5 b6 b7
  decide
theorem stOf_snoc (p : Pat) (L : List (Int × Int)) (who t : Int) : stOf p (L ++ [(who, t)]) = { stOf p L with
      e0 := told1 p L 0 1 || (decide (t = 1) && decide (who = 0)), s0 := told1 p L 0 2 || (decide (t = 2) && decide (who = 0)),
      e1 := told1 p L 1 1 || (decide (t = 1) && decide (who = 1)), s1 := told1 p L 1 2 || (decide (t = 2) && decide (who = 1)),
      m3 := decide (0 < met1 L 2 3) || decide (t = 3), m4 := decide (0 < met1 L 2 4) || decide (t = 4), m5 := decide (0 < met1 L 2 5) || decide (t = 5), m6 := decide (0 < met1 L 2 6) || decide (t = 6), m7 := decide (0 < met1 L 2 7) || decide (t = 7),
      keyed := (anyKey L || decide (t = 3) || decide (t = 4) || decide (t = 5) || decide (t = 6) || decide (t = 7)) || (mode1 p && ((told1 p L 0 1 || (decide (t = 1) && decide (who = 0))) || (told1 p L 1 1 || (decide (t = 1) && decide (who = 1))))) } := by
  have hp : ∀ u : Int, decide (0 < met1 (L ++ [(who, t)]) 2 u) = (decide (0 < met1 L 2 u) || decide (t = u)) := by
    intro u
    rw [met1_snoc]
    by_cases h : t = u
    · simp [h]
    · simp [h]
  simp only [stOf, told1_snoc, hp, key1, anyKey_snoc]
  simp
theorem tok_rule (p : Pat) (L : List (Int × Int)) (who t : Int) (hw : who = 0 ∨ who = 1) (h1 : 1 ≤ t) (h7 : t ≤ 7) : (tokS (stOf p L) who t).1 = one1 p L who t := by
  have hn := sealS_cases (stOf p L) who
  have hs := seal_same p L who hw
  rcases tok_cases h1 h7 with rfl | rfl | rfl | rfl | rfl | rfl | rfl
  · rw [tokS1, one11, has_same p L who 1 hw (.inl rfl)]
    cases told1 p L who 1 <;> rfl
  · rw [tokS2, one12, has_same p L who 2 hw (.inr rfl), hs]
    have hk : (stOf p L).keyed = key1 p L := rfl
    rw [hk]
    cases told1 p L who 2
    · cases key1 p L
      · rfl
      · by_cases h0 : 0 < sealS (stOf p L) who
        · simp [h0]
        · simp [h0]; omega
    · rfl
  · rw [tokS3, one13]
    show Prod.fst (if !told1 p L 0 1 || !told1 p L 1 1 then _ else if decide (0 < met1 L 2 3) then _ else _) = _
    cases told1 p L 0 1 <;> cases told1 p L 1 1 <;> cases decide (0 < met1 L 2 3) <;> rfl
  · rw [tokS4, one14]
    show Prod.fst (if !told1 p L 0 1 || !told1 p L 1 2 then _ else if decide (0 < met1 L 2 4) then _ else _) = _
    cases told1 p L 0 1 <;> cases told1 p L 1 2 <;> cases decide (0 < met1 L 2 4) <;> rfl
  · rw [tokS5, one15]
    show Prod.fst (if !told1 p L 0 2 || !told1 p L 1 1 then _ else if decide (0 < met1 L 2 5) then _ else _) = _
    cases told1 p L 0 2 <;> cases told1 p L 1 1 <;> cases decide (0 < met1 L 2 5) <;> rfl
  · rw [tokS6, one16]
    show Prod.fst (if !told1 p L 0 2 || !told1 p L 1 2 then _ else if decide (0 < met1 L 2 6) then _ else _) = _
    cases told1 p L 0 2 <;> cases told1 p L 1 2 <;> cases decide (0 < met1 L 2 6) <;> rfl
  · rw [tokS7, one17]
theorem tok_next (p : Pat) (L : List (Int × Int)) (who t : Int) (hw : who = 0 ∨ who = 1) (h1 : 1 ≤ t) (h7 : t ≤ 7) (h : (tokS (stOf p L) who t).1 = 0) : (tokS (stOf p L) who t).2 = stOf p (L ++ [(who, t)]) := by
  rw [stOf_snoc]
  have hn := sealS_cases (stOf p L) who
  rcases tok_cases h1 h7 with rfl | rfl | rfl | rfl | rfl | rfl | rfl
  · rw [tokS1, has_same p L who 1 hw (.inl rfl)] at h ⊢
    cases ht : told1 p L who 1
    · rcases hw with rfl | rfl
      · simp [hasSet, stOf, key1, ht]
        cases anyKey L <;> cases mode1 p <;> cases told1 p L 1 1 <;> rfl
      · simp [hasSet, stOf, key1, ht]
        cases anyKey L <;> cases mode1 p <;> cases told1 p L 0 1 <;> rfl
    · rw [ht] at h; simp at h
  · rw [tokS2, has_same p L who 2 hw (.inr rfl)] at h ⊢
    cases ht : told1 p L who 2
    · rw [ht] at h
      by_cases hc : ((stOf p L).keyed && decide (0 < sealS (stOf p L) who)) = true
      · rw [hc] at h
        simp at hc h
        omega
      · have hc' : ((stOf p L).keyed && decide (0 < sealS (stOf p L) who)) = false := by simpa using hc
        rw [hc']
        rcases hw with rfl | rfl <;> simp [hasSet, stOf, key1, ht]
    · rw [ht] at h; simp at h
  · rw [tokS3] at h ⊢
    change Prod.fst (if !told1 p L 0 1 || !told1 p L 1 1 then _ else if decide (0 < met1 L 2 3) then _ else _) = _ at h
    show Prod.snd (if !told1 p L 0 1 || !told1 p L 1 1 then _ else if decide (0 < met1 L 2 3) then _ else _) = _
    by_cases c : (!told1 p L 0 1 || !told1 p L 1 1) = true
    · rw [c] at h; simp at h
    · by_cases c2 : decide (0 < met1 L 2 3) = true
      · rw [c2, Bool.eq_false_iff.2 c] at h; simp at h
      · rw [Bool.eq_false_iff.2 c2, Bool.eq_false_iff.2 c]; simp [stOf]
  · rw [tokS4] at h ⊢
    change Prod.fst (if !told1 p L 0 1 || !told1 p L 1 2 then _ else if decide (0 < met1 L 2 4) then _ else _) = _ at h
    show Prod.snd (if !told1 p L 0 1 || !told1 p L 1 2 then _ else if decide (0 < met1 L 2 4) then _ else _) = _
    by_cases c : (!told1 p L 0 1 || !told1 p L 1 2) = true
    · rw [c] at h; simp at h
    · by_cases c2 : decide (0 < met1 L 2 4) = true
      · rw [c2, Bool.eq_false_iff.2 c] at h; simp at h
      · rw [Bool.eq_false_iff.2 c2, Bool.eq_false_iff.2 c]; simp [stOf]
  · rw [tokS5] at h ⊢
    change Prod.fst (if !told1 p L 0 2 || !told1 p L 1 1 then _ else if decide (0 < met1 L 2 5) then _ else _) = _ at h
    show Prod.snd (if !told1 p L 0 2 || !told1 p L 1 1 then _ else if decide (0 < met1 L 2 5) then _ else _) = _
    by_cases c : (!told1 p L 0 2 || !told1 p L 1 1) = true
    · rw [c] at h; simp at h
    · by_cases c2 : decide (0 < met1 L 2 5) = true
      · rw [c2, Bool.eq_false_iff.2 c] at h; simp at h
      · rw [Bool.eq_false_iff.2 c2, Bool.eq_false_iff.2 c]; simp [stOf]
  · rw [tokS6] at h ⊢
    change Prod.fst (if !told1 p L 0 2 || !told1 p L 1 2 then _ else if decide (0 < met1 L 2 6) then _ else _) = _ at h
    show Prod.snd (if !told1 p L 0 2 || !told1 p L 1 2 then _ else if decide (0 < met1 L 2 6) then _ else _) = _
    by_cases c : (!told1 p L 0 2 || !told1 p L 1 2) = true
    · rw [c] at h; simp at h
    · by_cases c2 : decide (0 < met1 L 2 6) = true
      · rw [c2, Bool.eq_false_iff.2 c] at h; simp at h
      · rw [Bool.eq_false_iff.2 c2, Bool.eq_false_iff.2 c]; simp [stOf]
  · rw [tokS7]
    simp [stOf]
end Go.Proofs.YtelloecgdiocoaaDoor
