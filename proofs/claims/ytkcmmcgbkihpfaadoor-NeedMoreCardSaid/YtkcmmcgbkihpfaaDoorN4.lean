/- Walks: need.Enough, Sends, and the laws' own of. -/
import Derived.Test.YtkcmmcgbkihpfaaDoorN2
import Derived.Laws.StructEq
set_option linter.unusedSimpArgs false
set_option linter.unusedVariables false
namespace Go.Proofs.YtkcmmcgbkihpfaaDoor
open Go.RowKit Go.Sort

theorem fieldsK : Tryd.prog.underlying 47 = some (.struct (Tryd.prog.fieldsOf 47)) := by kernel_rfl
theorem standK : Tryd.prog.stoodInHeld 47 = false := by kernel_rfl
theorem eqKeys (a0 a1 a2 a3 b0 b1 b2 b3 : Bool) (n m : Int) (w : World) : (Op.equalIn 10000 47 (.agg #[.bool a0, .bool a1, .bool a2, .bool a3, .int .i64 n]) (.agg #[.bool b0, .bool b1, .bool b2, .bool b3, .int .i64 m])).run Tryd.prog w = .ok (a0 == b0 && (a1 == b1 && (a2 == b2 && (a3 == b3 && n == m)))) w := by
  rw [run_equalIn_agg (hp := standK) (ht := fieldsK)]
  simp [go_sem]
  by_cases h0 : a0 = b0 <;> by_cases h1 : a1 = b1 <;> by_cases h2 : a2 = b2 <;> by_cases h3 : a3 = b3 <;> by_cases h4 : n = m <;> simp [h0, h1, h2, h3, h4]

def enB (a b : Keys) : Bool := (!a.s || b.s) && (!a.e || b.e) && (!a.rs || b.rs) && (!a.re || b.re) && (b.n == a.n)
theorem keyV_eq (s e rs re : Bool) (n : Int) : keyV ⟨s, e, rs, re, n⟩ = .agg #[.bool s, .bool e, .bool rs, .bool re, .int .i64 n] := rfl

set_option maxRecDepth 100000 in
set_option maxHeartbeats 4000000 in
theorem enough_any (a b : Keys) (w : World) :
    Calls Tryd.prog 29 #[keyV a, keyV b] w fun e w' => e = .returned (.bool (enB a b)) ∧ Bl w w' := by
  obtain ⟨s, e, rs, re, n⟩ := a
  obtain ⟨s', e', rs', re', n'⟩ := b
  rw [keyV_eq, keyV_eq]
  have hq := eqKeys
  have HB : Hid (enB ⟨s, e, rs, re, n⟩ ⟨s', e', rs', re', n'⟩ = ((!s || s') && (!e || e') && (!rs || rs') && (!re || re') && (n' == n))) := Lib.hid rfl
  go_enter Tryd.func29, Tryd.ntmps29
  cases s <;> cases e <;> cases rs <;> cases re
  all_goals
    go_wp2
    go_ret
    refine ⟨ret_bool ?_, ((Bl.refl _).alloc _).alloc _ |>.alloc _⟩
    rw [HB.out]
    cases s' <;> cases e' <;> cases rs' <;> cases re' <;> simp

theorem beq_dec (a b : Int) : (a == b) = decide (a = b) := by
  rw [Bool.eq_iff_iff]; simp
def sendB (p : Pat) (role msg : Int) : Bool := decide (0 ≤ msg) && decide (msg < p.msgs.length) && decide ((p.msgs.getD msg.toNat ⟨2, []⟩).who = role)
set_option maxRecDepth 100000 in
set_option maxHeartbeats 2000000 in
theorem sends_any (v : Value) (p : Pat) (role msg : Int) (w : World) (h : SP w v p) :
    Calls Tryd.prog 31 #[v, .int .i64 role, .int .i64 msg] w fun e w' => e = .returned (.bool (sendB p role msg)) ∧ Bl w w' := by
  have HB : Hid (sendB p role msg = (decide (0 ≤ msg) && decide (msg < p.msgs.length) && decide ((p.msgs.getD msg.toNat ⟨2, []⟩).who = role))) := Lib.hid rfl
  obtain ⟨v0, v1, vm, rfl, hn, h0, h1, hm⟩ := h
  obtain ⟨a0, c0, rfl⟩ := h0.form
  obtain ⟨a1, c1, rfl⟩ := h1.form
  obtain ⟨am, cm, rfl⟩ := hm.form
  have hlm := hm.len
  clear h0 h1
  have H : Bl w (w.alloc (.cells #[.string p.name, .slice a0 p.pre0.length c0, .slice a1 p.pre1.length c1, .slice am p.msgs.length cm] 29)) := (Bl.refl w).alloc _
  by_cases hm0 : 0 ≤ msg
  · have d0 : decide (0 ≤ msg) = true := by simp [hm0]
    by_cases hml : msg < p.msgs.length
    · have d1 : decide (msg < (p.msgs.length : Int)) = true := by simp [hml]
      have hmn : msg.toNat < p.msgs.length := by omega
      have hcast : ((msg.toNat : Nat) : Int) = msg := by omega
      have hmH := hm.bl H
      obtain ⟨b, o, u, rfl, hca, hcb, hu⟩ := hmH.at msg.toNat hmn
      have HG : Hid ((p.msgs.getD msg.toNat ⟨2, []⟩).who = p.msgs[msg.toNat].who) := Lib.hid (by simp [hmn])
      generalize p.msgs[msg.toNat].who = who at *
      clear hu hcb hmH hm hcast
      go_enter Tryd.func31, Tryd.ntmps31
      go_wp2
      go_ret
      exact ⟨ret_bool (by rw [HB.out, HG.out, decide_eq_true hm0, decide_eq_true hml, beq_dec]; rfl), H⟩
    · have d1 : decide (msg < (p.msgs.length : Int)) = false := by simp; omega
      go_enter Tryd.func31, Tryd.ntmps31
      go_wp2
      go_ret
      exact ⟨ret_bool (by rw [HB.out, show decide (msg < (p.msgs.length : Int)) = false from decide_eq_false (by omega)]; simp), H⟩
  · have d0 : decide (0 ≤ msg) = false := by simp; omega
    go_enter Tryd.func31, Tryd.ntmps31
    go_wp2
    go_ret
    exact ⟨ret_bool (by rw [HB.out, show decide (0 ≤ msg) = false from decide_eq_false (by omega)]; simp), H⟩

set_option maxHeartbeats 1000000 in
theorem of8_any (a : Keys) (w : World) :
    Calls Tryd.prog 27 #[keyV a] w fun e w' => e = .returned (keyV a) ∧ Bl w w' := by
  obtain ⟨s, e, rs, re, n⟩ := a
  rw [keyV_eq]
  go_enter Tryd.func27, Tryd.ntmps27
  go_wp2
  exact bodyPost_ret (v := .agg #[.bool s, .bool e, .bool rs, .bool re, .int .i64 n]) (by simp [results, Tryd.results27, go_sem]) rfl ⟨rfl, ((Bl.refl _).alloc _).alloc _⟩
end Go.Proofs.YtkcmmcgbkihpfaaDoor
