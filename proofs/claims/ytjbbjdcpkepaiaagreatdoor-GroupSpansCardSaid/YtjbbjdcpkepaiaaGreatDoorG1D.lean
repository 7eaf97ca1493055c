/- A part of a proof over an evaluator for programs of this form: G1D. -/
import Derived.Test.YtjbbjdcpkepaiaaGreatDoorG1C
import Derived.Tactics
import Derived.Tactics2
import Derived.Defers
import Derived.Recover
import Derived.Laws.Pointers
import Derived.Below
set_option linter.all false
set_option autoImplicit false
/-! What is deferred does nothing unless there is a panic. -/
namespace Go.K
open Go Go.Proofs
theorem grows_alloc {w : World} {o : Obj} : Grows w (w.alloc o) := ⟨by simp, fun b hb => by rw [alloc_heap, if_neg (Nat.ne_of_lt hb)]⟩
theorem grows_set {w w' : World} {b i : Nat} {v : Value} (h : Grows w w') (hb : w.heap.size ≤ b) : Grows w (w'.setCell ⟨b, i, none⟩ v) := by
  refine ⟨by simpa using h.1, fun c hc => ?_⟩
  rw [← h.2 c hc]
  simp only [World.setCell, Array.getElem?_modify]
  rw [if_neg (by omega)]
theorem arr3 {args : Array Value} (h : args.size = 3) : ∃ a b c, args = #[a, b, c] := by
  obtain ⟨l⟩ := args
  match l, h with
  | [a, b, c], _ => exact ⟨a, b, c, rfl⟩
theorem en_pattern (a b c : Value) (w : World) : (callFunc 136 #[a, b, c]).run Tryz.prog w = .ok (.enter 136 #[a, b, c]) w := by kernel_rfl
theorem ta_pattern (w : World) : (Instr.typeAssert Value.nilIface 20 237 true).run Tryz.prog w = .ok (.tuple #[.agg #[.int .i64 0], .bool false]) w := by kernel_rfl
set_option maxRecDepth 10000 in
theorem dn_pattern (a b c : Value) (w : World) : CallsD Tryz.prog 136 #[a, b, c] .returning w (fun e u' w' => (∃ v, e = .returned v) ∧ u' = .returning ∧ Grows w w' ∧ w'.tape = w.tape ∧ w'.os = w.os ∧ w'.output = w.output) := by
  refine callsD_of_wpS Tryz.func136 rfl fun c₀ cs hu => ?_
  apply wpS_seq
  apply wpS_region
  simp [wpOpsS, go_sem, recoverD, hu, Tryz.ntmps136, Exit.thenS, ta_pattern, Array.replicate]
  apply wpS_seq
  apply wpS_region
  simp [wpOpsS, go_sem, Exit.thenS]
  refine wpS_cond (t := false) (by simp [Act.eval]) ?_
  simp only [Bool.false_eq_true, if_false]
  refine wpS_of_wp (wp_skip ?_)
  cases c₀
  simp_all [bodyPostS, results, Tryz.results136]
  exact ⟨grows_set (grows_alloc) (Nat.le_refl _), rfl, rfl⟩
theorem en_rule (a b c : Value) (w : World) : (callFunc 89 #[a, b, c]).run Tryz.prog w = .ok (.enter 89 #[a, b, c]) w := by kernel_rfl
theorem ta_rule (w : World) : (Instr.typeAssert Value.nilIface 20 172 true).run Tryz.prog w = .ok (.tuple #[.agg #[.int .i64 0, .int .i64 0], .bool false]) w := by kernel_rfl
set_option maxRecDepth 10000 in
theorem dn_rule (a b c : Value) (w : World) : CallsD Tryz.prog 89 #[a, b, c] .returning w (fun e u' w' => (∃ v, e = .returned v) ∧ u' = .returning ∧ Grows w w' ∧ w'.tape = w.tape ∧ w'.os = w.os ∧ w'.output = w.output) := by
  refine callsD_of_wpS Tryz.func89 rfl fun c₀ cs hu => ?_
  apply wpS_seq
  apply wpS_region
  simp [wpOpsS, go_sem, recoverD, hu, Tryz.ntmps89, Exit.thenS, ta_rule, Array.replicate]
  apply wpS_seq
  apply wpS_region
  simp [wpOpsS, go_sem, Exit.thenS]
  refine wpS_cond (t := false) (by simp [Act.eval]) ?_
  simp only [Bool.false_eq_true, if_false]
  refine wpS_of_wp (wp_skip ?_)
  cases c₀
  simp_all [bodyPostS, results, Tryz.results89]
  exact ⟨grows_set (grows_set (grows_alloc) (Nat.le_refl _)) (Nat.le_refl _), rfl, rfl⟩
theorem dn_ok : DnOk Tryz.prog dnT := by
  intro f n h args ha w
  unfold dnT at h
  simp only [Bool.and_eq_true] at h
  obtain ⟨h1, h2⟩ := h
  obtain rfl := Nat.eq_of_beq_eq_true h1
  obtain ⟨a, b, c, rfl⟩ := arr3 ha
  cases hf : Nat.beq f id_rule_Parse_S1 with
  | true =>
    obtain rfl := Nat.eq_of_beq_eq_true hf
    exact ⟨en_rule a b c w, dn_rule a b c w⟩
  | false =>
    rw [hf] at h2
    obtain rfl := Nat.eq_of_beq_eq_true h2
    exact ⟨en_pattern a b c w, dn_pattern a b c w⟩
end Go.K
