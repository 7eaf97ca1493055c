/- A part of a proof over an evaluator for programs of this form: G1Y. -/
import Derived.Test.YtjbbjdcpkepaiaaGreatDoorG1X
set_option linter.all false
set_option autoImplicit false
namespace Go.K
open Go Go.Proofs
/-! Where parts stand. -/
abbrev Sp := Int × Nat × Nat
def spansOf : List Pt → Nat → List Sp
  | [], _ => []
  | p :: ps, a => if 0 < p.2.length then (p.1, a, a + p.2.length) :: spansOf ps (a + p.2.length) else spansOf ps a
def spanCells (l : List Sp) : List AV := l.flatMap fun s => [.int .i64 s.1, .int .i64 (s.2.1 : Int), .int .i64 (s.2.2 : Int)]
theorem spanCells_app (l : List Sp) (s : Sp) : spanCells (l ++ [s]) = spanCells l ++ [.int .i64 s.1, .int .i64 (s.2.1 : Int), .int .i64 (s.2.2 : Int)] := by simp [spanCells]
theorem round_Spans {pr : Prims} {K : Nat → Prop} {F : Nat} {g : Nat → AV} {m : Mem} {o off n k a : Nat} {c : Option Nat} {ps : List Pt} {p : Pt} {l : List Sp} {v : AV} (h3 : g 3 = v) (h4 : g 4 = .int .i64 (a : Int)) (h8 : g 8 = .slice o off n c 2) (h9 : g 9 = .int .i64 (n : Int)) (h10 : g 10 = .int .i64 (k : Int))
    (hp : ps[k]? = some p) (hn : ps.length = n) (hn2 : n < 1000) (hP : PartsAt m o off ps) (hv : Grow K m v 85 3 (spanCells l) l.length) (hK : ∀ p, K p → p < m.next) (hrn : m.ro ≤ m.next) (hl : l.length < 1000) (ha : a + p.2.length ≤ lim) :
    ∃ g' m' v', L0_group_Spans (callK (cfgP pr) F) (fr 6 g) m = .norm (fr 6 g') m' ∧ g' 3 = v' ∧ g' 4 = .int .i64 ((a + p.2.length : Nat) : Int) ∧ g' 8 = .slice o off n c 2 ∧ g' 9 = .int .i64 (n : Int) ∧ g' 10 = .int .i64 ((k + 1 : Nat) : Int) ∧
      Grow K m' v' 85 3 (spanCells (l ++ spansOf [p] a)) (l ++ spansOf [p] a).length ∧ Keeps K m m' := by
  have hk : k < n := by rw [← hn]; exact (List.getElem?_eq_some_iff.1 hp).1
  unfold L0_group_Spans
  have hlt : ((k : Int) < (n : Int)) := by omega
  unfold lim at ha
  have hw : IntKind.wrap .i64 ((k : Int) + 1) = ((k + 1 : Nat) : Int) := by rw [wrap64 (by omega) (by omega)]; omega
  have hw2 : IntKind.wrap .i64 ((a : Int) + (p.2.length : Int)) = ((a + p.2.length : Nat) : Int) := by rw [wrap64 (by omega) (by omega)]; omega
  have hs : spansOf [p] a = if 0 < p.2.length then [(p.1, a, a + p.2.length)] else [] := by simp [spansOf]
  by_cases hz : 0 < p.2.length
  · have hz' : (0 : Int) < (p.2.length : Int) := by omega
    have hkeep : Keeps (· < m.next) m (((m.new (.blk [.int .i64 0, .str []] 68 true)).put m.next (.blk [.int .i64 p.1, .str p.2] 68 true)).new (.blk [.int .i64 p.1, .int .i64 (a : Int), .int .i64 ((a + p.2.length : Nat) : Int)] 85 true)) :=
      ((Keeps.new _ fun p h => h).trans (Keeps.put _ _ (by omega))).trans (Keeps.new _ fun p h => by simp; omega)
    obtain ⟨v', m', e1, e2, e3⟩ := (hv.more hkeep fun p h => .inl h).one (o2 := m.next + 1) (by omega) (new := [.int .i64 p.1, .int .i64 (a : Int), .int .i64 ((a + p.2.length : Nat) : Int)]) (ty2 := 85) (ex2 := true) (by simp [Mem.get_new]) rfl rfl (fun p h => by have := hK p h; simp; omega) (by simp; omega) (by unfold lim; omega)
    simp only [seq_nil, seq_mv, seq_1, seq_2, seq_N, seq_R1, seq_R2, seq_Al, seq_Hv, seq_call, seq_gd, hK_val, hK_skip, hK_fail, hK_panic, hK_ite, fK_ret, fK_fail, fK_panic, fnG_fn, app_nil1, app_nil2, gK_t, ev_tmp, ev_val, evs_nil, evs_cons, oK_some, oK_none, oK_map, oK_ite, crK_norm, crK_exit, crK_ret, crK_fail, crK_panic, cSeq_eq, cCond_eq, isTrue_bool, cBlock_eq, blK_norm, blK_ret, blK_fail, blK_panic, blK_exit, cSkip_eq, cExit_eq, cRet_eq, cFail_eq, fr_get, fr_put, fr_put_no, upd1_eq, argF, finI_ret, finI_norm, finI_fail, finP_ret, finP_norm, finP_fail, cleanF_t, cl_int, cl_bool, cl_str, cl_nil, cl_agg, cl_tuple, cl_ptr, cl_slice, List.all_cons, List.all_nil, Bool.and_self, Bool.and_true, endF_eq, endG_nil, oF_some, oF_none, resK_nil, resK_tmp, resK_cell, oL_some, oneV_one, oneV_nil, oneV_two, Nat.reducePow, Nat.reduceAdd, Nat.reduceLT, Nat.reduceEqDiff, Nat.zero_add, ↓reduceIte, reduceCtorEq, decide_eq_true_eq, decide_true, decide_false, Bool.true_eq_false, Bool.false_eq_true, Bool.not_false, Bool.not_true, Bool.not_eq_true, and_true, true_and, and_self, and_false, false_and, Nat.reduceLeDiff, Nat.le_refl, x_mkPtr, x_mkSl, x_addI, x_sub, x_mul, x_quo, x_rem, x_ltI, x_gtI, x_leI, x_geI, x_eqI, x_neI, x_neg, x_not, x_conv, x_max, x_min, x_fold2, x_pick, x_addS, x_eqS, x_eqBo, x_lenS, x_lenSl, x_lenNil, x_index, x_sub_ff, x_sub_tf, x_sub_ft, x_sub_tt, x_extract, part_f, part_t, x_field, x_fieldAddr, x_nilCheck, x_iface, x_idxSl, x_idxArr, x_eqPtr_nn, x_eqPtr_pn, x_eqPtr_pp, x_eqSl_sn, x_eqSl_nn, x_load, ldB_blk, x_store, ovO_blk, x_alloc, x_box, c_int, c_bool, c_str, c_ptr, c_slice, c_nil, c_map, c_iface, c_func, c_agg, o_int, o_bool, o_str, o_ptr, o_slice, o_nil, o_map, o_iface, o_func, backTo_next, backTo_ro, backTo_d, backTo_get, Mem.get_put, Mem.get_new, Mem.get_kill, Mem.next_put, Mem.next_new, Mem.next_kill, Mem.ro_put, Mem.ro_new, Mem.ro_kill, Mem.d_put, Mem.d_new, Mem.d_kill, shut_next, shut_ro, shut_d, shut_get, undef_next, undef_ro, undef_d, undef_get, bump_next, bump_ro, bump_d, bumped_get, List.length_cons, List.length_nil, List.take_zero, List.take_succ_cons, List.drop_zero, List.drop_succ_cons, List.nil_append, List.cons_append, List.all_cons, List.all_nil, Bool.and_self, Bool.and_true, List.getElem?_cons_zero, List.getElem?_cons_succ, fill_nil, fill_cons, oB_some, oB_none, oB_ite, over_cons, x_build, x_row, rep_one, rep_zero, h3, h4, h8, h9, h10, hlt, ixN_nat hk, hP.part hp, Option.map_some, hrn, hw, hz', hw2, e1]
    refine ⟨_, m', v', rfl, ?_, ?_, ?_, ?_, ?_, ?_, (hkeep.mono hK).trans e3⟩
    all_goals try simp only [upd1_eq, Nat.reduceEqDiff, ↓reduceIte, h3, h4, h8, h9]
    rw [hs, if_pos hz, spanCells_app, List.length_append]
    exact e2
  · have hz' : ¬ (0 : Int) < (p.2.length : Int) := by omega
    have hz0 : p.2.length = 0 := by omega
    have hkeep : Keeps (· < m.next) m ((m.new (.blk [.int .i64 0, .str []] 68 true)).put m.next (.blk [.int .i64 p.1, .str p.2] 68 true)) :=
      (Keeps.new _ fun p h => h).trans (Keeps.put _ _ (by omega))
    simp only [seq_nil, seq_mv, seq_1, seq_2, seq_N, seq_R1, seq_R2, seq_Al, seq_Hv, seq_call, seq_gd, hK_val, hK_skip, hK_fail, hK_panic, hK_ite, fK_ret, fK_fail, fK_panic, fnG_fn, app_nil1, app_nil2, gK_t, ev_tmp, ev_val, evs_nil, evs_cons, oK_some, oK_none, oK_map, oK_ite, crK_norm, crK_exit, crK_ret, crK_fail, crK_panic, cSeq_eq, cCond_eq, isTrue_bool, cBlock_eq, blK_norm, blK_ret, blK_fail, blK_panic, blK_exit, cSkip_eq, cExit_eq, cRet_eq, cFail_eq, fr_get, fr_put, fr_put_no, upd1_eq, argF, finI_ret, finI_norm, finI_fail, finP_ret, finP_norm, finP_fail, cleanF_t, cl_int, cl_bool, cl_str, cl_nil, cl_agg, cl_tuple, cl_ptr, cl_slice, List.all_cons, List.all_nil, Bool.and_self, Bool.and_true, endF_eq, endG_nil, oF_some, oF_none, resK_nil, resK_tmp, resK_cell, oL_some, oneV_one, oneV_nil, oneV_two, Nat.reducePow, Nat.reduceAdd, Nat.reduceLT, Nat.reduceEqDiff, Nat.zero_add, ↓reduceIte, reduceCtorEq, decide_eq_true_eq, decide_true, decide_false, Bool.true_eq_false, Bool.false_eq_true, Bool.not_false, Bool.not_true, Bool.not_eq_true, and_true, true_and, and_self, and_false, false_and, Nat.reduceLeDiff, Nat.le_refl, x_mkPtr, x_mkSl, x_addI, x_sub, x_mul, x_quo, x_rem, x_ltI, x_gtI, x_leI, x_geI, x_eqI, x_neI, x_neg, x_not, x_conv, x_max, x_min, x_fold2, x_pick, x_addS, x_eqS, x_eqBo, x_lenS, x_lenSl, x_lenNil, x_index, x_sub_ff, x_sub_tf, x_sub_ft, x_sub_tt, x_extract, part_f, part_t, x_field, x_fieldAddr, x_nilCheck, x_iface, x_idxSl, x_idxArr, x_eqPtr_nn, x_eqPtr_pn, x_eqPtr_pp, x_eqSl_sn, x_eqSl_nn, x_load, ldB_blk, x_store, ovO_blk, x_alloc, x_box, c_int, c_bool, c_str, c_ptr, c_slice, c_nil, c_map, c_iface, c_func, c_agg, o_int, o_bool, o_str, o_ptr, o_slice, o_nil, o_map, o_iface, o_func, backTo_next, backTo_ro, backTo_d, backTo_get, Mem.get_put, Mem.get_new, Mem.get_kill, Mem.next_put, Mem.next_new, Mem.next_kill, Mem.ro_put, Mem.ro_new, Mem.ro_kill, Mem.d_put, Mem.d_new, Mem.d_kill, shut_next, shut_ro, shut_d, shut_get, undef_next, undef_ro, undef_d, undef_get, bump_next, bump_ro, bump_d, bumped_get, List.length_cons, List.length_nil, List.take_zero, List.take_succ_cons, List.drop_zero, List.drop_succ_cons, List.nil_append, List.cons_append, List.all_cons, List.all_nil, Bool.and_self, Bool.and_true, List.getElem?_cons_zero, List.getElem?_cons_succ, fill_nil, fill_cons, oB_some, oB_none, oB_ite, over_cons, x_build, x_row, rep_one, rep_zero, h3, h4, h8, h9, h10, hlt, ixN_nat hk, hP.part hp, Option.map_some, hrn, hw, hz', hw2]
    refine ⟨_, _, v, rfl, ?_, ?_, ?_, ?_, ?_, ?_, (hkeep.mono hK)⟩
    all_goals try simp only [upd1_eq, Nat.reduceEqDiff, ↓reduceIte, h3, h4, h8, h9]
    · rw [hz0]; rfl
    · rw [hs, if_neg hz, List.append_nil]
      exact hv.more hkeep fun p h => .inl h
theorem loop_Spans {pr : Prims} {K : Nat → Prop} {F : Nat} {o off n : Nat} {c : Option Nat} {ps : List Pt} (hn : ps.length = n) (hn2 : n < 1000) (hKo : K o) :
    ∀ (r fuel k a : Nat) (l : List Sp) (v : AV) (g : Nat → AV) (m : Mem), k + r = n → r < fuel → g 3 = v → g 4 = .int .i64 (a : Int) → g 8 = .slice o off n c 2 → g 9 = .int .i64 (n : Int) → g 10 = .int .i64 (k : Int) → PartsAt m o off ps → Grow K m v 85 3 (spanCells l) l.length →
      (∀ p, K p → p < m.next) → m.ro ≤ m.next → l.length ≤ k → a + (textOf (ps.drop k)).length ≤ lim →
      ∃ g' m' v', cLoop fuel (L0_group_Spans (callK (cfgP pr) F)) (fr 6 g) m = .exit 0 (fr 6 g') m' ∧ g' 3 = v' ∧ Grow K m' v' 85 3 (spanCells (l ++ spansOf (ps.drop k) a)) (l ++ spansOf (ps.drop k) a).length ∧ Keeps K m m'
  | 0, fuel, k, a, l, v, g, m, hk, hf, h3, h4, h8, h9, h10, hP, hv, hK, hrn, hlk, hl => by
    obtain ⟨fuel, rfl⟩ : ∃ f, fuel = f + 1 := ⟨fuel - 1, by omega⟩
    have hlt : ¬ ((k : Int) < (n : Int)) := by omega
    rw [cLoop_succ]
    unfold L0_group_Spans
    simp only [seq_nil, seq_mv, seq_1, seq_2, seq_N, seq_R1, seq_R2, seq_Al, seq_Hv, seq_call, seq_gd, hK_val, hK_skip, hK_fail, hK_panic, hK_ite, fK_ret, fK_fail, fK_panic, fnG_fn, app_nil1, app_nil2, gK_t, ev_tmp, ev_val, evs_nil, evs_cons, oK_some, oK_none, oK_map, oK_ite, crK_norm, crK_exit, crK_ret, crK_fail, crK_panic, cSeq_eq, cCond_eq, isTrue_bool, cBlock_eq, blK_norm, blK_ret, blK_fail, blK_panic, blK_exit, cSkip_eq, cExit_eq, cRet_eq, cFail_eq, fr_get, fr_put, fr_put_no, upd1_eq, argF, finI_ret, finI_norm, finI_fail, finP_ret, finP_norm, finP_fail, cleanF_t, cl_int, cl_bool, cl_str, cl_nil, cl_agg, cl_tuple, cl_ptr, cl_slice, List.all_cons, List.all_nil, Bool.and_self, Bool.and_true, endF_eq, endG_nil, oF_some, oF_none, resK_nil, resK_tmp, resK_cell, oL_some, oneV_one, oneV_nil, oneV_two, Nat.reducePow, Nat.reduceAdd, Nat.reduceLT, Nat.reduceEqDiff, Nat.zero_add, ↓reduceIte, reduceCtorEq, decide_eq_true_eq, decide_true, decide_false, Bool.true_eq_false, Bool.false_eq_true, Bool.not_false, Bool.not_true, Bool.not_eq_true, and_true, true_and, and_self, and_false, false_and, Nat.reduceLeDiff, Nat.le_refl, x_mkPtr, x_mkSl, x_addI, x_sub, x_mul, x_quo, x_rem, x_ltI, x_gtI, x_leI, x_geI, x_eqI, x_neI, x_neg, x_not, x_conv, x_max, x_min, x_fold2, x_pick, x_addS, x_eqS, x_eqBo, x_lenS, x_lenSl, x_lenNil, x_index, x_sub_ff, x_sub_tf, x_sub_ft, x_sub_tt, x_extract, part_f, part_t, x_field, x_fieldAddr, x_nilCheck, x_iface, x_idxSl, x_idxArr, x_eqPtr_nn, x_eqPtr_pn, x_eqPtr_pp, x_eqSl_sn, x_eqSl_nn, x_load, ldB_blk, x_store, ovO_blk, x_alloc, x_box, c_int, c_bool, c_str, c_ptr, c_slice, c_nil, c_map, c_iface, c_func, c_agg, o_int, o_bool, o_str, o_ptr, o_slice, o_nil, o_map, o_iface, o_func, backTo_next, backTo_ro, backTo_d, backTo_get, Mem.get_put, Mem.get_new, Mem.get_kill, Mem.next_put, Mem.next_new, Mem.next_kill, Mem.ro_put, Mem.ro_new, Mem.ro_kill, Mem.d_put, Mem.d_new, Mem.d_kill, shut_next, shut_ro, shut_d, shut_get, undef_next, undef_ro, undef_d, undef_get, bump_next, bump_ro, bump_d, bumped_get, List.length_cons, List.length_nil, List.take_zero, List.take_succ_cons, List.drop_zero, List.drop_succ_cons, List.nil_append, List.cons_append, List.all_cons, List.all_nil, Bool.and_self, Bool.and_true, List.getElem?_cons_zero, List.getElem?_cons_succ, h3, h4, h8, h9, h10, hlt]
    refine ⟨_, _, v, rfl, by simp only [upd1_eq, Nat.reduceEqDiff, ↓reduceIte, h3], ?_, Keeps.refl _ _⟩
    rw [List.drop_of_length_le (by omega)]
    simpa [spansOf] using hv
  | r + 1, fuel, k, a, l, v, g, m, hk, hf, h3, h4, h8, h9, h10, hP, hv, hK, hrn, hlk, hl => by
    obtain ⟨fuel, rfl⟩ : ∃ f, fuel = f + 1 := ⟨fuel - 1, by omega⟩
    have hkn : k < ps.length := by omega
    have hp : ps[k]? = some ps[k] := List.getElem?_eq_getElem hkn
    have hd := drop_get hp
    rw [hd, textOf_cons] at hl
    simp only [List.length_append] at hl
    obtain ⟨g1, m1, v1, e1, e2, e3, e4, e5, e6, e7, e8⟩ := round_Spans (pr := pr) (F := F) h3 h4 h8 h9 h10 hp hn hn2 hP hv hK hrn (by omega) (by omega)
    have hs1 : (spansOf [ps[k]] a).length ≤ 1 := by unfold spansOf; split <;> simp [spansOf]
    obtain ⟨g2, m2, v2, f1, f2, f3, f4⟩ := loop_Spans (pr := pr) (F := F) hn hn2 hKo r fuel (k + 1) (a + ps[k].2.length) (l ++ spansOf [ps[k]] a) v1 g1 m1 (by omega) (by omega) e2 e3 e4 e5 e6 (hP.keep (e8.get o hKo)) e7 (fun p h => Nat.lt_of_lt_of_le (hK p h) e8.next)
      (by rw [e8.ro]; exact Nat.le_trans hrn e8.next) (by simp only [List.length_append]; omega) (by omega)
    have hcat : spansOf (ps.drop k) a = spansOf [ps[k]] a ++ spansOf (ps.drop (k + 1)) (a + ps[k].2.length) := by
      rw [hd]
      by_cases hz : 0 < ps[k].2.length
      · simp [spansOf, hz]
      · have : ps[k].2.length = 0 := by omega
        simp [spansOf, this]
    refine ⟨g2, m2, v2, ?_, f2, ?_, e8.trans f4⟩
    · rw [cLoop_succ, e1, crK_norm, f1]
    · rw [hcat, ← List.append_assoc]; exact f3
/-- group.Spans is where the parts stand that aren't empty -/
theorem run_Spans {pr : Prims} (hq : pr id_group_Spans = none) {K : Nat → Prop} {F : Nat} {m : Mem} {o off n : Nat} {c : Option Nat} {ps : List Pt} (hn : ps.length = n) (hn2 : n < 1000) (hP : PartsAt m o off ps) (hKo : K o) (hK : ∀ p, K p → p < m.next) (hrn : m.ro ≤ m.next) (hl : (textOf ps).length ≤ lim) :
    ∃ v m', callK (cfgP pr) (F + 1) id_group_Spans [.slice o off n c 2] m = .ret v m' ∧ Grow K m' v 85 3 (spanCells (spansOf ps 0)) (spansOf ps 0).length ∧ Keeps K m m' := by
  rw [callI F_group_Spans rfl (by simp) (by simp) (by simp [primAt, cfgP, hq])]
  unfold B_group_Spans
  obtain ⟨g', m', v', h1, h2, h3, h4⟩ := loop_Spans (pr := pr) (K := K) (F := F) (c := c) (o := o) (off := off) hn hn2 hKo n 1000 0 0 [] (.nil .slice) (upd1 (upd1 (upd1 (upd1 (upd1 (upd1 (upd1 nilF 0 (.slice o off n c 2)) 2 (.nil .slice)) 3 (.nil .slice)) 4 (.int .i64 0)) 8 (.slice o off n c 2)) 9 (.int .i64 (n : Int))) 10 (.int .i64 0))
    m.undef (by omega) (by omega) (by simp [upd1_eq]) (by simp [upd1_eq]) (by simp [upd1_eq]) (by simp [upd1_eq]) (by simp [upd1_eq]) (hP.keep (by simp)) (Grow.nil _ _ _ _) (by simpa using hK) (by simpa using hrn) (by simp) (by simpa using hl)
  have hd : m'.d = [] := by rw [h4.d]; simp
  simp only [seq_nil, seq_mv, seq_1, seq_2, seq_N, seq_R1, seq_R2, seq_Al, seq_Hv, seq_call, seq_gd, hK_val, hK_skip, hK_fail, hK_panic, hK_ite, fK_ret, fK_fail, fK_panic, fnG_fn, app_nil1, app_nil2, gK_t, ev_tmp, ev_val, evs_nil, evs_cons, oK_some, oK_none, oK_map, oK_ite, crK_norm, crK_exit, crK_ret, crK_fail, crK_panic, cSeq_eq, cCond_eq, isTrue_bool, cBlock_eq, blK_norm, blK_ret, blK_fail, blK_panic, blK_exit, cSkip_eq, cExit_eq, cRet_eq, cFail_eq, fr_get, fr_put, fr_put_no, upd1_eq, argF, finI_ret, finI_norm, finI_fail, finP_ret, finP_norm, finP_fail, cleanF_t, cl_int, cl_bool, cl_str, cl_nil, cl_agg, cl_tuple, cl_ptr, cl_slice, List.all_cons, List.all_nil, Bool.and_self, Bool.and_true, endF_eq, endG_nil, oF_some, oF_none, resK_nil, resK_tmp, resK_cell, oL_some, oneV_one, oneV_nil, oneV_two, Nat.reducePow, Nat.reduceAdd, Nat.reduceLT, Nat.reduceEqDiff, Nat.zero_add, ↓reduceIte, reduceCtorEq, decide_eq_true_eq, decide_true, decide_false, Bool.true_eq_false, Bool.false_eq_true, Bool.not_false, Bool.not_true, Bool.not_eq_true, and_true, true_and, and_self, and_false, false_and, Nat.reduceLeDiff, Nat.le_refl, x_mkPtr, x_mkSl, x_addI, x_sub, x_mul, x_quo, x_rem, x_ltI, x_gtI, x_leI, x_geI, x_eqI, x_neI, x_neg, x_not, x_conv, x_max, x_min, x_fold2, x_pick, x_addS, x_eqS, x_eqBo, x_lenS, x_lenSl, x_lenNil, x_index, x_sub_ff, x_sub_tf, x_sub_ft, x_sub_tt, x_extract, part_f, part_t, x_field, x_fieldAddr, x_nilCheck, x_iface, x_idxSl, x_idxArr, x_eqPtr_nn, x_eqPtr_pn, x_eqPtr_pp, x_eqSl_sn, x_eqSl_nn, x_load, ldB_blk, x_store, ovO_blk, x_alloc, x_box, c_int, c_bool, c_str, c_ptr, c_slice, c_nil, c_map, c_iface, c_func, c_agg, o_int, o_bool, o_str, o_ptr, o_slice, o_nil, o_map, o_iface, o_func, backTo_next, backTo_ro, backTo_d, backTo_get, Mem.get_put, Mem.get_new, Mem.get_kill, Mem.next_put, Mem.next_new, Mem.next_kill, Mem.ro_put, Mem.ro_new, Mem.ro_kill, Mem.d_put, Mem.d_new, Mem.d_kill, shut_next, shut_ro, shut_d, shut_get, undef_next, undef_ro, undef_d, undef_get, bump_next, bump_ro, bump_d, bumped_get, List.length_cons, List.length_nil, List.take_zero, List.take_succ_cons, List.drop_zero, List.drop_succ_cons, List.nil_append, List.cons_append, List.all_cons, List.all_nil, Bool.and_self, Bool.and_true, List.getElem?_cons_zero, List.getElem?_cons_succ, h1, h2, hd]
  exact ⟨_, _, rfl, h3.back _, keeps_back h4⟩
end Go.K
