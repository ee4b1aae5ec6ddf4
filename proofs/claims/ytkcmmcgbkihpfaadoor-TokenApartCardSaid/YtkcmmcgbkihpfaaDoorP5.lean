/- The plain law of the texts: two patterns that may be have one text just if they are the same; how such a text begins and ends. -/
import Derived.Test.YtkcmmcgbkihpfaaDoorW13
set_option linter.unusedSimpArgs false
set_option linter.unusedVariables false
namespace Go.Proofs.YtkcmmcgbkihpfaaDoor
open Go.RowKit

def bl (a : ByteArray) : List UInt8 := a.data.toList
theorem bl_append (a b : ByteArray) : bl (a ++ b) = bl a ++ bl b := by
  unfold bl; rw [ByteArray.data_append, Array.toList_append]
theorem bl_inj {a b : ByteArray} (h : bl a = bl b) : a = b := by
  unfold bl at h
  exact ByteArray.ext (Array.toList_inj.1 h)

/-- at the first c two texts part alike -/
theorem part {c : UInt8} : ∀ {a a' x y : List UInt8}, c ∉ a → c ∉ a' → a ++ c :: x = a' ++ c :: y → a = a' ∧ x = y
  | [], [], x, y, _, _, h => ⟨rfl, by simpa using h⟩
  | [], b :: a', x, y, _, h', h => by
    rw [List.nil_append, List.cons_append, List.cons.injEq] at h
    exact absurd (h.1 ▸ List.mem_cons_self) h'
  | b :: a, [], x, y, h1, _, h => by
    rw [List.nil_append, List.cons_append, List.cons.injEq] at h
    exact absurd (h.1 ▸ List.mem_cons_self) h1
  | b :: a, b' :: a', x, y, h1, h2, h => by
    rw [List.cons_append, List.cons_append, List.cons.injEq] at h
    obtain ⟨e1, e2⟩ := part (fun hm => h1 (List.mem_cons_of_mem _ hm)) (fun hm => h2 (List.mem_cons_of_mem _ hm)) h.2
    exact ⟨by rw [h.1, e1], e2⟩

/-- lines, each with its end -/
def closed (ls : List (List UInt8)) : List UInt8 := ls.flatMap (fun l => l ++ [10])
theorem closed_inj : ∀ {ls ls' : List (List UInt8)}, (∀ l ∈ ls, (10 : UInt8) ∉ l) → (∀ l ∈ ls', (10 : UInt8) ∉ l) → closed ls = closed ls' → ls = ls'
  | [], [], _, _, _ => rfl
  | [], l :: ls, _, _, h => by simp [closed] at h
  | l :: ls, [], _, _, h => by simp [closed] at h
  | l :: ls, l' :: ls', h1, h2, h => by
    simp only [closed, List.flatMap_cons, List.append_assoc, List.singleton_append] at h
    obtain ⟨e1, e2⟩ := part (h1 l List.mem_cons_self) (h2 l' List.mem_cons_self) h
    rw [e1, closed_inj (fun x hx => h1 x (List.mem_cons_of_mem _ hx)) (fun x hx => h2 x (List.mem_cons_of_mem _ hx)) e2]
theorem closed_append (a b : List (List UInt8)) : closed (a ++ b) = closed a ++ closed b := by simp [closed]

theorem tok7 {t : Int} (h1 : 1 ≤ t) (h7 : t ≤ 7) : t = 1 ∨ t = 2 ∨ t = 3 ∨ t = 4 ∨ t = 5 ∨ t = 6 ∨ t = 7 := by omega
theorem tok_no (t : Int) : ∀ c ∈ bl (tokName t), c ≠ 44 ∧ c ≠ 10 ∧ c ≠ 32 := by
  unfold tokName
  repeat' split
  all_goals decide
theorem tok_inj {k t : Int} (h1 : 1 ≤ k) (h7 : k ≤ 7) (g1 : 1 ≤ t) (g7 : t ≤ 7) (h : bl (tokName k) = bl (tokName t)) : k = t := by
  rcases tok7 h1 h7 with rfl | rfl | rfl | rfl | rfl | rfl | rfl <;> rcases tok7 g1 g7 with rfl | rfl | rfl | rfl | rfl | rfl | rfl <;> first | rfl | exact absurd h (by decide)

def body (l : List Int) : List UInt8 := bl (bodyT l)
theorem body_one (t : Int) : body [t] = 32 :: bl (tokName t) := by unfold body bodyT; rw [bl_append]; rfl
theorem body_more (t u : Int) (r : List Int) : body (t :: u :: r) = 32 :: (bl (tokName t) ++ 44 :: body (u :: r)) := by
  unfold body
  rw [bodyT_cons2, bl_append, bl_append, bl_append]
  show [32] ++ _ ++ [44] ++ _ = _
  simp
theorem body_no10 : ∀ (l : List Int), (10 : UInt8) ∉ body l
  | [] => by unfold body bodyT bl; simp
  | [t] => by
    rw [body_one]
    intro h
    rcases List.mem_cons.1 h with h | h
    · exact absurd h (by decide)
    · exact (tok_no t _ h).2.1 rfl
  | t :: u :: r => by
    rw [body_more]
    intro h
    rcases List.mem_cons.1 h with h | h
    · exact absurd h (by decide)
    · rcases List.mem_append.1 h with h | h
      · exact (tok_no t _ h).2.1 rfl
      · rcases List.mem_cons.1 h with h | h
        · exact absurd h (by decide)
        · exact body_no10 (u :: r) h
theorem body_inj : ∀ {l l' : List Int}, l ≠ [] → l' ≠ [] → (∀ t ∈ l, 1 ≤ t ∧ t ≤ 7) → (∀ t ∈ l', 1 ≤ t ∧ t ≤ 7) → body l = body l' → l = l'
  | [], _, h, _, _, _, _ => absurd rfl h
  | _, [], _, h, _, _, _ => absurd rfl h
  | [t], [t'], _, _, h1, h2, h => by
    rw [body_one, body_one, List.cons.injEq] at h
    rw [tok_inj (h1 t (by simp)).1 (h1 t (by simp)).2 (h2 t' (by simp)).1 (h2 t' (by simp)).2 h.2]
  | [t], t' :: u' :: r', _, _, h1, h2, h => by
    rw [body_one, body_more, List.cons.injEq] at h
    exact absurd rfl (tok_no t 44 (by rw [h.2]; simp)).1
  | t :: u :: r, [t'], _, _, h1, h2, h => by
    rw [body_one, body_more, List.cons.injEq] at h
    exact absurd rfl (tok_no t' 44 (by rw [← h.2]; simp)).1
  | t :: u :: r, t' :: u' :: r', _, _, h1, h2, h => by
    rw [body_more, body_more, List.cons.injEq] at h
    obtain ⟨e1, e2⟩ := part (fun hm => (tok_no t _ hm).1 rfl) (fun hm => (tok_no t' _ hm).1 rfl) h.2
    rw [tok_inj (h1 t (by simp)).1 (h1 t (by simp)).2 (h2 t' (by simp)).1 (h2 t' (by simp)).2 e1,
      body_inj (l := u :: r) (l' := u' :: r') (by simp) (by simp) (fun x hx => h1 x (List.mem_cons_of_mem _ hx)) (fun x hx => h2 x (List.mem_cons_of_mem _ hx)) e2]

/-- a line without its end -/
def lineL (who : Int) (l : List Int) : List UInt8 := (if who = 1 then [60, 45] else [45, 62]) ++ body l
theorem line_bl (who : Int) (l : List Int) : bl (lineT who l) = lineL who l ++ [10] := by
  unfold lineT lineL arrowT body
  rw [bl_append, bl_append]
  split <;> rfl
theorem lineL_no10 (who : Int) (l : List Int) : (10 : UInt8) ∉ lineL who l := by
  unfold lineL
  intro h
  rcases List.mem_append.1 h with h | h
  · split at h <;> exact absurd h (by decide)
  · exact body_no10 l h
theorem lineL_dots (who : Int) (l : List Int) : lineL who l ≠ [46, 46, 46] := by
  unfold lineL
  split <;> simp
theorem lineL_inj {who who' : Int} {l l' : List Int} (hw : who = 0 ∨ who = 1) (hw' : who' = 0 ∨ who' = 1) (h1 : l ≠ []) (h2 : l' ≠ []) (h3 : ∀ t ∈ l, 1 ≤ t ∧ t ≤ 7) (h4 : ∀ t ∈ l', 1 ≤ t ∧ t ≤ 7)
    (h : lineL who l = lineL who' l') : who = who' ∧ l = l' := by
  unfold lineL at h
  rcases hw with rfl | rfl <;> rcases hw' with rfl | rfl
  · simp at h; exact ⟨rfl, body_inj h1 h2 h3 h4 h⟩
  · simp at h
  · simp at h
  · simp at h; exact ⟨rfl, body_inj h1 h2 h3 h4 h⟩

def optL (who : Int) (l : List Int) : List (List UInt8) := if l = [] then [] else [lineL who l]
def dotsL (p : Pat) : List (List UInt8) := if p.pre0 = [] ∧ p.pre1 = [] then [] else [[46, 46, 46]]
def msgsL (ms : List Msg) : List (List UInt8) := ms.map (fun m => lineL m.who m.t)
def linesL (p : Pat) : List (List UInt8) := optL 0 p.pre0 ++ (optL 1 p.pre1 ++ (dotsL p ++ msgsL p.msgs))
theorem opt_bl (who : Int) (l : List Int) : bl (optT who l) = closed (optL who l) := by
  unfold optT optL
  split
  · rfl
  · rw [line_bl]; simp [closed]
theorem dots_bl (p : Pat) : bl (dotsT p) = closed (dotsL p) := by
  unfold dotsT dotsL
  split <;> rfl
theorem msgs_bl : ∀ (ms : List Msg) (a : ByteArray), bl (msgsT a ms) = bl a ++ closed (msgsL ms)
  | [], a => by simp [msgsT, msgsL, closed]
  | m :: ms, a => by
    show bl (msgsT (a ++ lineT m.who m.t) ms) = _
    rw [msgs_bl ms, bl_append, line_bl]
    simp [msgsL, closed]
theorem print_bl (p : Pat) : bl (printT p) = bl p.name ++ 58 :: 10 :: closed (linesL p) := by
  unfold printT
  rw [msgs_bl]
  unfold headT preT linesL
  rw [bl_append, bl_append, bl_append, bl_append, opt_bl, opt_bl, dots_bl, closed_append, closed_append, closed_append]
  show bl p.name ++ [58, 10] ++ _ ++ _ = _
  simp

theorem name_no {p : Pat} (h : RightP p) {c : UInt8} (hc : okByte c = false) : c ∉ bl p.name := by
  have hn := h.named
  simp only [namedB, Bool.and_eq_true] at hn
  intro hm
  have := List.all_eq_true.1 hn.1.1 c hm
  rw [hc] at this
  exact absurd this (by decide)
theorem lines_no10 (p : Pat) : ∀ l ∈ linesL p, (10 : UInt8) ∉ l := by
  intro l hl
  unfold linesL at hl
  simp only [List.mem_append] at hl
  rcases hl with hl | hl | hl | hl
  · unfold optL at hl
    split at hl
    · simp at hl
    · simp at hl; rw [hl]; exact lineL_no10 _ _
  · unfold optL at hl
    split at hl
    · simp at hl
    · simp at hl; rw [hl]; exact lineL_no10 _ _
  · unfold dotsL at hl
    split at hl
    · simp at hl
    · simp at hl; rw [hl]; decide
  · simp only [msgsL, List.mem_map] at hl
    obtain ⟨m, _, rfl⟩ := hl
    exact lineL_no10 _ _
theorem msgs_dots (ms : List Msg) : [46, 46, 46] ∉ msgsL ms := by
  intro h
  simp only [msgsL, List.mem_map] at h
  obtain ⟨m, _, h⟩ := h
  exact lineL_dots _ _ h
theorem msgs_inj : ∀ {ms ms' : List Msg}, (∀ m ∈ ms, badMsg m = false) → (∀ m ∈ ms', badMsg m = false) → msgsL ms = msgsL ms' → ms = ms'
  | [], [], _, _, _ => rfl
  | [], m :: ms, _, _, h => by simp [msgsL] at h
  | m :: ms, [], _, _, h => by simp [msgsL] at h
  | m :: ms, m' :: ms', h1, h2, h => by
    simp only [msgsL, List.map_cons, List.cons.injEq] at h
    have g := good_of (h1 m (by simp))
    have g' := good_of (h2 m' (by simp))
    obtain ⟨e1, e2⟩ := lineL_inj g.who g'.who (fun e => by have := g.lo; rw [e] at this; simp at this) (fun e => by have := g'.lo; rw [e] at this; simp at this) g.tok g'.tok h.1
    rw [msgs_inj (fun x hx => h1 x (List.mem_cons_of_mem _ hx)) (fun x hx => h2 x (List.mem_cons_of_mem _ hx)) h.2]
    obtain ⟨a, b⟩ := m
    obtain ⟨a', b'⟩ := m'
    simp only at e1 e2
    rw [e1, e2]
theorem told_tok {l : List Int} (h : toldB l = true) : ∀ t ∈ l, 1 ≤ t ∧ t ≤ 7 := by
  simp only [toldB, Bool.or_eq_true, decide_eq_true_eq] at h
  rcases h with ((rfl | rfl) | rfl) | rfl <;> simp
theorem line01 (l l' : List Int) : lineL 0 l ≠ lineL 1 l' := by unfold lineL; simp
theorem lineW_inj {who : Int} (hw : who = 0 ∨ who = 1) {l l' : List Int} (h1 : l ≠ []) (h2 : l' ≠ []) (h3 : toldB l = true) (h4 : toldB l' = true) (h : lineL who l = lineL who l') : l = l' :=
  (lineL_inj hw hw h1 h2 (told_tok h3) (told_tok h4) h).2

theorem print_inj {p q : Pat} (hp : RightP p) (hq : RightP q) (h : printT p = printT q) : p = q := by
  have h := congrArg bl h
  rw [print_bl, print_bl] at h
  obtain ⟨e1, e2⟩ := part (name_no hp (by decide)) (name_no hq (by decide)) h
  rw [List.cons.injEq] at e2
  have e3 := closed_inj (lines_no10 p) (lines_no10 q) e2.2
  clear e2 h
  have e1 := bl_inj e1
  have m1 := hp.msgs
  have m2 := hq.msgs
  have d1 := msgs_dots p.msgs
  have d2 := msgs_dots q.msgs
  have a0 := hp.t0
  have a1 := hp.t1
  have b0 := hq.t0
  have b1 := hq.t1
  obtain ⟨n, x0, x1, ms⟩ := p
  obtain ⟨n', y0, y1, ms'⟩ := q
  simp only at *
  subst e1
  unfold linesL optL dotsL at e3
  simp only at e3
  by_cases hx0 : x0 = [] <;> by_cases hx1 : x1 = [] <;> by_cases hy0 : y0 = [] <;> by_cases hy1 : y1 = [] <;>
    simp only [hx0, hx1, hy0, hy1, if_true, if_false, and_self, and_true, true_and, and_false, false_and, List.nil_append, List.cons_append, List.cons.injEq] at e3
  all_goals first
    | (rw [msgs_inj m1 m2 e3, hx0, hx1, hy0, hy1])
    | (exact absurd (by rw [e3]; simp) d1)
    | (exact absurd (by rw [← e3]; simp) d2)
    | (exact absurd e3.1 (line01 _ _))
    | (exact absurd e3.1.symm (line01 _ _))
    | (exact absurd e3.2.1 (lineL_dots _ _))
    | (exact absurd e3.2.1.symm (lineL_dots _ _))
    | (rw [msgs_inj m1 m2 e3.2, hx0, hy0, lineW_inj (.inr rfl) hx1 hy1 a1 b1 e3.1])
    | (rw [msgs_inj m1 m2 e3.2, hx1, hy1, lineW_inj (.inl rfl) hx0 hy0 a0 b0 e3.1])
    | (rw [msgs_inj m1 m2 e3.2.2, lineW_inj (.inl rfl) hx0 hy0 a0 b0 e3.1, lineW_inj (.inr rfl) hx1 hy1 a1 b1 e3.2.1])

/-! How a text begins and ends. -/
theorem body_last : ∀ (l : List Int), l ≠ [] → (∀ t ∈ l, 1 ≤ t ∧ t ≤ 7) → ∃ a c, body l = a ++ [c] ∧ c ≠ 10
  | [], h, _ => absurd rfl h
  | [t], _, h => by
    rw [body_one]
    rcases tok7 (h t (by simp)).1 (h t (by simp)).2 with rfl | rfl | rfl | rfl | rfl | rfl | rfl
    · exact ⟨[32], 101, by decide, by decide⟩
    · exact ⟨[32], 115, by decide, by decide⟩
    · exact ⟨[32, 101], 101, by decide, by decide⟩
    · exact ⟨[32, 101], 115, by decide, by decide⟩
    · exact ⟨[32, 115], 101, by decide, by decide⟩
    · exact ⟨[32, 115], 115, by decide, by decide⟩
    · exact ⟨[32, 112, 115], 107, by decide, by decide⟩
  | t :: u :: r, _, h => by
    obtain ⟨a, c, e, hc⟩ := body_last (u :: r) (by simp) (fun x hx => h x (List.mem_cons_of_mem _ hx))
    exact ⟨32 :: (bl (tokName t) ++ 44 :: a), c, by rw [body_more, e]; simp, hc⟩
theorem closed_msgs (ms : List Msg) (h : ms ≠ []) (hm : ∀ m ∈ ms, badMsg m = false) : ∃ a c, closed (msgsL ms) = a ++ [c, 10] ∧ c ≠ 10 := by
  have e := List.dropLast_concat_getLast h
  have g := good_of (hm _ (List.getLast_mem h))
  obtain ⟨a, c, e2, hc⟩ := body_last (ms.getLast h).t (fun e => by have := g.lo; rw [e] at this; simp at this) g.tok
  refine ⟨closed (msgsL ms.dropLast) ++ ((if (ms.getLast h).who = 1 then [60, 45] else [45, 62]) ++ a), c, ?_, hc⟩
  have e3 : msgsL ms = msgsL ms.dropLast ++ [lineL (ms.getLast h).who (ms.getLast h).t] := by
    conv => lhs; rw [← e]
    simp [msgsL]
  rw [e3, closed_append]
  simp only [closed, List.flatMap_cons, List.flatMap_nil, lineL, e2]
  simp
/-- a text of a pattern that may be ends with a line's end, and not with two; and it does not begin with a blank -/
theorem print_end {p : Pat} (hp : RightP p) : ∃ a c, bl (printT p) = a ++ [c, 10] ∧ c ≠ 10 := by
  have hne : p.msgs ≠ [] := fun e => by have := hp.lo; rw [e] at this; simp at this
  obtain ⟨a, c, e, hc⟩ := closed_msgs p.msgs hne hp.msgs
  refine ⟨bl p.name ++ 58 :: 10 :: (closed (optL 0 p.pre0) ++ (closed (optL 1 p.pre1) ++ (closed (dotsL p) ++ a))), c, ?_, hc⟩
  rw [print_bl]
  unfold linesL
  rw [closed_append, closed_append, closed_append, e]
  simp
theorem print_head {p : Pat} (hp : RightP p) : ∃ c r, bl (printT p) = c :: r ∧ c ≠ 32 := by
  have hn := hp.named
  simp only [namedB, Bool.and_eq_true, decide_eq_true_eq] at hn
  rw [print_bl]
  have hb : (bl p.name).length = p.name.size := rfl
  match hl : bl p.name, hb with
  | [], hb => rw [← hb] at hn; simp at hn
  | c :: r, hb =>
    refine ⟨c, r ++ 58 :: 10 :: closed (linesL p), by simp, fun e => ?_⟩
    have := List.all_eq_true.1 hn.1.1 c (by rw [show p.name.data.toList = bl p.name from rfl, hl]; simp)
    rw [e] at this
    exact absurd this (by decide)
theorem parse_right {s : ByteArray} (h : parseB s = true) : RightP (rawT s) ∧ printT (rawT s) = s := by
  rw [parseB, Bool.and_eq_true, decide_eq_true_eq] at h
  exact ⟨(right_iff _).1 h.1, h.2⟩
/-- what the law asks: four texts that are near to one that may be -/
theorem ends_no {p : Pat} (hp : RightP p) (t : ByteArray) (h : bl t = bl (printT p) ++ [10] ∨ bl t = (bl (printT p)).dropLast ∨ bl t = bl (printT p) ++ [32] ∨ bl t = 32 :: bl (printT p)) : parseB t = false := by
  rw [Bool.eq_false_iff]
  intro hb
  obtain ⟨hr, ht⟩ := parse_right hb
  obtain ⟨a, c, e, hc⟩ := print_end hp
  obtain ⟨a', c', e', hc'⟩ := print_end hr
  obtain ⟨b', r', f', hf'⟩ := print_head hr
  rw [ht] at e' f'
  have two : ∀ (x y : List UInt8) (i j k l : UInt8), x ++ [i, j] = y ++ [k, l] → i = k ∧ j = l := by
    intro x y i j k l h
    have h := congrArg List.reverse h
    simp at h
    exact ⟨h.2.1, h.1⟩
  rcases h with h | h | h | h
  · rw [e', e] at h
    have := two a' (a ++ [c]) c' 10 10 10 (by rw [h]; simp)
    exact hc' this.1
  · rw [e', e] at h
    have hx : (a ++ [c, 10]).dropLast = a ++ [c] := by
      rw [show a ++ [c, 10] = (a ++ [c]) ++ [10] by simp, List.dropLast_concat]
    rw [hx] at h
    have h := congrArg List.reverse h
    simp at h
    exact hc h.1.symm
  · rw [e', e] at h
    have := two a' (a ++ [c]) c' 10 10 32 (by rw [h]; simp)
    exact absurd this.2 (by decide)
  · rw [f'] at h
    exact hf' (List.cons.inj h).1
end Go.Proofs.YtkcmmcgbkihpfaaDoor
