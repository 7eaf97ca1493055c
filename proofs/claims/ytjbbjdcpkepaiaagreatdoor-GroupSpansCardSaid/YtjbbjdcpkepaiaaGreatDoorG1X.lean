/- A part of a proof over an evaluator for programs of this form: G1X. -/
import Derived.Test.YtjbbjdcpkepaiaaGreatDoorG1BX
import Derived.Test.YtjbbjdcpkepaiaaGreatDoorG1BC
set_option linter.all false
set_option autoImplicit false
namespace Go.K
open Go Go.Proofs
/-! Lists of parts: their text, where they stand. -/
abbrev Pt := Int × List UInt8
def parts (ps : List Pt) : List AV := ps.flatMap fun p => [.int .i64 p.1, .str p.2]
def textOf (ps : List Pt) : List UInt8 := ps.flatMap (·.2)
theorem parts_len : ∀ (ps : List Pt), (parts ps).length = ps.length * 2
  | [] => rfl
  | p :: ps => by
    have := parts_len ps
    unfold parts at this ⊢
    simp at this ⊢
    omega
theorem parts_drop : ∀ (ps : List Pt) (k : Nat) (p : Pt), ps[k]? = some p → (parts ps).drop (k * 2) = [.int .i64 p.1, .str p.2] ++ parts (ps.drop (k + 1))
  | [], k, p, h => by simp at h
  | q :: ps, 0, p, h => by simp at h; subst h; simp [parts]
  | q :: ps, k + 1, p, h => by
    have := parts_drop ps k p (by simpa using h)
    have e : parts (q :: ps) = [.int .i64 q.1, .str q.2] ++ parts ps := rfl
    rw [e, show (k + 1) * 2 = 2 + k * 2 from by omega, ← List.drop_drop]
    simpa using this
/-- the parts lie at o, from off on -/
def PartsAt (m : Mem) (o off : Nat) (ps : List Pt) : Prop := ps = [] ∨ ∃ l ty ex, m.get o = some (.blk l ty ex) ∧ off + ps.length * 2 ≤ l.length ∧ (l.drop off).take (ps.length * 2) = parts ps
theorem PartsAt.part {m : Mem} {o off : Nat} {ps : List Pt} (h : PartsAt m o off ps) {k : Nat} {p : Pt} (hp : ps[k]? = some p) : ldB (m.get o) true 2 (off + k * 2) = some (.agg [.int .i64 p.1, .str p.2]) := by
  rcases h with rfl | h
  · cases hp
  obtain ⟨l, ty, ex, h1, h2, h3⟩ := h
  have hk : k < ps.length := (List.getElem?_eq_some_iff.1 hp).1
  rw [h1, ldB_blk, part_t, if_pos (by omega)]
  have e := parts_drop ps k p hp
  rw [← h3, List.drop_take, List.drop_drop] at e
  have e2 := congrArg (List.take 2) e
  rw [List.take_take, Nat.min_eq_left (by omega)] at e2
  rw [e2]
  simp
theorem PartsAt.keep {m m' : Mem} {o off : Nat} {ps : List Pt} (h : PartsAt m o off ps) (hg : m'.get o = m.get o) : PartsAt m' o off ps := by
  exact h.imp id fun ⟨l, ty, ex, h1, h2⟩ => ⟨l, ty, ex, hg.trans h1, h2⟩
theorem Bld.old {K : Nat → Prop} {m m' : Mem} {b : Nat} {s : List UInt8} (h : Bld K m b s) (k : Keeps (· < m.next) m m') : Bld K m' b s := by
  obtain ⟨h1, h2, h3, a, h4, h5⟩ := h
  refine ⟨by rw [k.ro]; exact h1, h2, Nat.lt_of_lt_of_le h3 k.next, a, h4, ?_⟩
  rcases h5 with ⟨h5, h6⟩ | ⟨o, g1, g2, g3, g4, g5, g6, g7⟩
  · exact .inl ⟨h5, by rw [k.get _ h3]; exact h6⟩
  · exact .inr ⟨o, by rw [k.ro]; exact g1, g2, g3, Nat.lt_of_lt_of_le g4 k.next, g5, by rw [k.get _ h3]; exact g6, by rw [k.get _ g4]; exact g7⟩
/-- primitives that texts ask for -/
structure Std (pr : Prims) : Prop where
  cc : pr id_strings_Builder_copyCheck = none
  ws : pr id_strings_Builder_WriteString = none
  wb : pr id_strings_Builder_WriteByte = none
  st : pr id_strings_Builder_String = none
  ne : pr id_internal_abi_NoEscape = some (gPure gSame)
theorem round_Text {pr : Prims} (hs : Std pr) {K : Nat → Prop} {F : Nat} {g : Nat → AV} {m : Mem} {o off n k b : Nat} {c : Option Nat} {ps : List Pt} {p : Pt} {s : List UInt8} (h3 : g 3 = .ptr b 0) (h6 : g 6 = .slice o off n c 2) (h7 : g 7 = .int .i64 (n : Int)) (h8 : g 8 = .int .i64 (k : Int))
    (hp : ps[k]? = some p) (hn : ps.length = n) (hn2 : n < 1000) (hP : PartsAt m o off ps) (hb : Bld K m b s) (hK : ∀ p, K p → p < m.next) (hrn : m.ro ≤ m.next) (hl : s.length + p.2.length ≤ lim) :
    ∃ g' m', L0_group_Text (callK (cfgP pr) (F + 3)) (fr 5 g) m = .norm (fr 5 g') m' ∧ g' 3 = .ptr b 0 ∧ g' 6 = .slice o off n c 2 ∧ g' 7 = .int .i64 (n : Int) ∧ g' 8 = .int .i64 ((k + 1 : Nat) : Int) ∧ Bld K m' b (s ++ p.2) ∧ Keeps K m m' := by
  have hk : k < n := by rw [← hn]; exact (List.getElem?_eq_some_iff.1 hp).1
  unfold L0_group_Text
  have hlt : ((k : Int) < (n : Int)) := by omega
  have hw : IntKind.wrap .i64 ((k : Int) + 1) = ((k + 1 : Nat) : Int) := by rw [wrap64 (by omega) (by omega)]; omega
  have hkeep : Keeps (· < m.next) m ((m.new (.blk [.int .i64 0, .str []] 68 true)).put m.next (.blk [.int .i64 p.1, .str p.2] 68 true)) := (Keeps.new _ fun p h => h).trans (Keeps.put _ _ (by omega))
  obtain ⟨m', h1, h2, h3'⟩ := run_WriteString hs.cc hs.ws hs.ne (F := F) (hb.old hkeep) (fun p h => by have := hK p h; simp; omega) hl
  simp only [seq_nil, seq_mv, seq_1, seq_2, seq_N, seq_R1, seq_R2, seq_Al, seq_Hv, seq_call, seq_gd, hK_val, hK_skip, hK_fail, hK_panic, hK_ite, fK_ret, fK_fail, fK_panic, fnG_fn, app_nil1, app_nil2, gK_t, ev_tmp, ev_val, evs_nil, evs_cons, oK_some, oK_none, oK_map, oK_ite, crK_norm, crK_exit, crK_ret, crK_fail, crK_panic, cSeq_eq, cCond_eq, isTrue_bool, cBlock_eq, blK_norm, blK_ret, blK_fail, blK_panic, blK_exit, cSkip_eq, cExit_eq, cRet_eq, cFail_eq, fr_get, fr_put, fr_put_no, upd1_eq, argF, finI_ret, finI_norm, finI_fail, finP_ret, finP_norm, finP_fail, cleanF_t, cl_int, cl_bool, cl_str, cl_nil, cl_agg, cl_tuple, cl_ptr, cl_slice, List.all_cons, List.all_nil, Bool.and_self, Bool.and_true, endF_eq, endG_nil, oF_some, oF_none, resK_nil, resK_tmp, resK_cell, oL_some, oneV_one, oneV_nil, oneV_two, Nat.reducePow, Nat.reduceAdd, Nat.reduceLT, Nat.reduceEqDiff, Nat.zero_add, ↓reduceIte, reduceCtorEq, decide_eq_true_eq, decide_true, decide_false, Bool.true_eq_false, Bool.false_eq_true, Bool.not_false, Bool.not_true, Bool.not_eq_true, and_true, true_and, and_self, and_false, false_and, Nat.reduceLeDiff, Nat.le_refl, x_mkPtr, x_mkSl, x_addI, x_sub, x_mul, x_quo, x_rem, x_ltI, x_gtI, x_leI, x_geI, x_eqI, x_neI, x_neg, x_not, x_conv, x_max, x_min, x_fold2, x_pick, x_addS, x_eqS, x_eqBo, x_lenS, x_lenSl, x_lenNil, x_index, x_sub_ff, x_sub_tf, x_sub_ft, x_sub_tt, x_extract, part_f, part_t, x_field, x_fieldAddr, x_nilCheck, x_iface, x_idxSl, x_idxArr, x_eqPtr_nn, x_eqPtr_pn, x_eqPtr_pp, x_eqSl_sn, x_eqSl_nn, x_load, ldB_blk, x_store, ovO_blk, x_alloc, x_box, c_int, c_bool, c_str, c_ptr, c_slice, c_nil, c_map, c_iface, c_func, c_agg, o_int, o_bool, o_str, o_ptr, o_slice, o_nil, o_map, o_iface, o_func, backTo_next, backTo_ro, backTo_d, backTo_get, Mem.get_put, Mem.get_new, Mem.get_kill, Mem.next_put, Mem.next_new, Mem.next_kill, Mem.ro_put, Mem.ro_new, Mem.ro_kill, Mem.d_put, Mem.d_new, Mem.d_kill, shut_next, shut_ro, shut_d, shut_get, undef_next, undef_ro, undef_d, undef_get, bump_next, bump_ro, bump_d, bumped_get, List.length_cons, List.length_nil, List.take_zero, List.take_succ_cons, List.drop_zero, List.drop_succ_cons, List.nil_append, List.cons_append, List.all_cons, List.all_nil, Bool.and_self, Bool.and_true, List.getElem?_cons_zero, List.getElem?_cons_succ, h3, h6, h7, h8, hlt, ixN_nat hk, hP.part hp, Option.map_some, hrn, h1, hw]
  refine ⟨_, _, rfl, ?_, ?_, ?_, ?_, h2, (hkeep.mono hK).trans h3'⟩
  all_goals simp only [upd1_eq, Nat.reduceEqDiff, ↓reduceIte, h3, h6, h7]
theorem textOf_cons (p : Pt) (ps : List Pt) : textOf (p :: ps) = p.2 ++ textOf ps := rfl
theorem drop_get {α : Type} {l : List α} {k : Nat} {x : α} (h : l[k]? = some x) : l.drop k = x :: l.drop (k + 1) := by
  have hk := (List.getElem?_eq_some_iff.1 h).1
  rw [List.drop_eq_getElem_cons hk]
  rw [List.getElem?_eq_getElem hk] at h
  injection h with h
  rw [h]
theorem loop_Text {pr : Prims} (hs : Std pr) {K : Nat → Prop} {F : Nat} {o off n b : Nat} {c : Option Nat} {ps : List Pt} (hn : ps.length = n) (hn2 : n < 1000) (hKo : K o) :
    ∀ (r fuel k : Nat) (s : List UInt8) (g : Nat → AV) (m : Mem), k + r = n → r < fuel → g 3 = .ptr b 0 → g 6 = .slice o off n c 2 → g 7 = .int .i64 (n : Int) → g 8 = .int .i64 (k : Int) → PartsAt m o off ps → Bld K m b s →
      (∀ p, K p → p < m.next) → m.ro ≤ m.next → s.length + (textOf (ps.drop k)).length ≤ lim →
      ∃ g' m', cLoop fuel (L0_group_Text (callK (cfgP pr) (F + 3))) (fr 5 g) m = .exit 0 (fr 5 g') m' ∧ g' 3 = .ptr b 0 ∧ Bld K m' b (s ++ textOf (ps.drop k)) ∧ Keeps K m m'
  | 0, fuel, k, s, g, m, hk, hf, h3, h6, h7, h8, hP, hb, hK, hrn, hl => by
    obtain ⟨fuel, rfl⟩ : ∃ f, fuel = f + 1 := ⟨fuel - 1, by omega⟩
    have hlt : ¬ ((k : Int) < (n : Int)) := by omega
    rw [cLoop_succ]
    unfold L0_group_Text
    simp only [seq_nil, seq_mv, seq_1, seq_2, seq_N, seq_R1, seq_R2, seq_Al, seq_Hv, seq_call, seq_gd, hK_val, hK_skip, hK_fail, hK_panic, hK_ite, fK_ret, fK_fail, fK_panic, fnG_fn, app_nil1, app_nil2, gK_t, ev_tmp, ev_val, evs_nil, evs_cons, oK_some, oK_none, oK_map, oK_ite, crK_norm, crK_exit, crK_ret, crK_fail, crK_panic, cSeq_eq, cCond_eq, isTrue_bool, cBlock_eq, blK_norm, blK_ret, blK_fail, blK_panic, blK_exit, cSkip_eq, cExit_eq, cRet_eq, cFail_eq, fr_get, fr_put, fr_put_no, upd1_eq, argF, finI_ret, finI_norm, finI_fail, finP_ret, finP_norm, finP_fail, cleanF_t, cl_int, cl_bool, cl_str, cl_nil, cl_agg, cl_tuple, cl_ptr, cl_slice, List.all_cons, List.all_nil, Bool.and_self, Bool.and_true, endF_eq, endG_nil, oF_some, oF_none, resK_nil, resK_tmp, resK_cell, oL_some, oneV_one, oneV_nil, oneV_two, Nat.reducePow, Nat.reduceAdd, Nat.reduceLT, Nat.reduceEqDiff, Nat.zero_add, ↓reduceIte, reduceCtorEq, decide_eq_true_eq, decide_true, decide_false, Bool.true_eq_false, Bool.false_eq_true, Bool.not_false, Bool.not_true, Bool.not_eq_true, and_true, true_and, and_self, and_false, false_and, Nat.reduceLeDiff, Nat.le_refl, x_mkPtr, x_mkSl, x_addI, x_sub, x_mul, x_quo, x_rem, x_ltI, x_gtI, x_leI, x_geI, x_eqI, x_neI, x_neg, x_not, x_conv, x_max, x_min, x_fold2, x_pick, x_addS, x_eqS, x_eqBo, x_lenS, x_lenSl, x_lenNil, x_index, x_sub_ff, x_sub_tf, x_sub_ft, x_sub_tt, x_extract, part_f, part_t, x_field, x_fieldAddr, x_nilCheck, x_iface, x_idxSl, x_idxArr, x_eqPtr_nn, x_eqPtr_pn, x_eqPtr_pp, x_eqSl_sn, x_eqSl_nn, x_load, ldB_blk, x_store, ovO_blk, x_alloc, x_box, c_int, c_bool, c_str, c_ptr, c_slice, c_nil, c_map, c_iface, c_func, c_agg, o_int, o_bool, o_str, o_ptr, o_slice, o_nil, o_map, o_iface, o_func, backTo_next, backTo_ro, backTo_d, backTo_get, Mem.get_put, Mem.get_new, Mem.get_kill, Mem.next_put, Mem.next_new, Mem.next_kill, Mem.ro_put, Mem.ro_new, Mem.ro_kill, Mem.d_put, Mem.d_new, Mem.d_kill, shut_next, shut_ro, shut_d, shut_get, undef_next, undef_ro, undef_d, undef_get, bump_next, bump_ro, bump_d, bumped_get, List.length_cons, List.length_nil, List.take_zero, List.take_succ_cons, List.drop_zero, List.drop_succ_cons, List.nil_append, List.cons_append, List.all_cons, List.all_nil, Bool.and_self, Bool.and_true, List.getElem?_cons_zero, List.getElem?_cons_succ, h3, h6, h7, h8, hlt]
    refine ⟨_, _, rfl, by simp only [upd1_eq, Nat.reduceEqDiff, ↓reduceIte, h3], ?_, Keeps.refl _ _⟩
    rw [List.drop_of_length_le (by omega)]
    simpa [textOf] using hb
  | r + 1, fuel, k, s, g, m, hk, hf, h3, h6, h7, h8, hP, hb, hK, hrn, hl => by
    obtain ⟨fuel, rfl⟩ : ∃ f, fuel = f + 1 := ⟨fuel - 1, by omega⟩
    have hkn : k < ps.length := by omega
    have hp : ps[k]? = some ps[k] := List.getElem?_eq_getElem hkn
    have hd := drop_get hp
    rw [hd, textOf_cons] at hl ⊢
    simp only [List.length_append] at hl
    obtain ⟨g1, m1, e1, e2, e3, e4, e5, e6, e7⟩ := round_Text hs (F := F) h3 h6 h7 h8 hp hn hn2 hP hb hK hrn (by omega)
    obtain ⟨g2, m2, f1, f2, f3, f4⟩ := loop_Text hs (F := F) hn hn2 hKo r fuel (k + 1) (s ++ ps[k].2) g1 m1 (by omega) (by omega) e2 e3 e4 e5 (hP.keep (e7.get o hKo)) e6 (fun p h => Nat.lt_of_lt_of_le (hK p h) e7.next) (by rw [e7.ro]; exact Nat.le_trans hrn e7.next) (by simp only [List.length_append]; omega)
    refine ⟨g2, m2, ?_, f2, ?_, e7.trans f4⟩
    · rw [cLoop_succ, e1, crK_norm, f1]
    · rw [← List.append_assoc]; exact f3
/-- group.Text is the texts side by side -/
theorem run_Text {pr : Prims} (hs : Std pr) (hq : pr id_group_Text = none) {F : Nat} {m : Mem} {o off n : Nat} {c : Option Nat} {ps : List Pt} (hn : ps.length = n) (hn2 : n < 1000) (hP : PartsAt m o off ps) (ho : o < m.next) (hl : (textOf ps).length ≤ lim) :
    callK (cfgP pr) (F + 4) id_group_Text [.slice o off n c 2] m = .ret (.str (textOf ps)) m := by
  rw [callP F_group_Text rfl (by simp) (by simp) (by simp [primAt, cfgP, hq])]
  unfold B_group_Text
  have hb : Bld (· < m.next) (m.shut.new (.blk [.nil .ptr, .nil .slice] 98 true)) m.next [] := by
    refine ⟨by simp, by simp, by simp, .nil .ptr, .inl rfl, .inl ⟨rfl, by simp [Mem.get_new]⟩⟩
  obtain ⟨g', m', h1, h2, h3, h4⟩ := loop_Text hs (K := (· < m.next)) (F := F) (b := m.next) (c := c) (o := o) (off := off) hn hn2 ho n 1000 0 [] (upd1 (upd1 (upd1 (upd1 (upd1 (upd1 nilF 0 (.slice o off n c 2)) 2 (.str [])) 3 (.ptr m.next 0)) 6 (.slice o off n c 2)) 7 (.int .i64 (n : Int))) 8 (.int .i64 0))
    (m.shut.new (.blk [.nil .ptr, .nil .slice] 98 true)) (by omega) (by omega) (by simp [upd1_eq]) (by simp [upd1_eq]) (by simp [upd1_eq]) (by simp [upd1_eq]) (hP.keep (by rw [Mem.get_new, shut_get, if_neg (by simp; omega)])) hb (fun p h => by simp at h ⊢; omega) (by simp) (by simpa using hl)
  obtain ⟨m2, h5, h6⟩ := run_BString hs.st (F := F + 2) h3 (by rw [h4.ro]; have := h4.next; simp at this ⊢; omega) (by simpa using hl)
  have hd : m2.d = [] := by rw [h6.d, h4.d]; simp
  simp only [seq_nil, seq_mv, seq_1, seq_2, seq_N, seq_R1, seq_R2, seq_Al, seq_Hv, seq_call, seq_gd, hK_val, hK_skip, hK_fail, hK_panic, hK_ite, fK_ret, fK_fail, fK_panic, fnG_fn, app_nil1, app_nil2, gK_t, ev_tmp, ev_val, evs_nil, evs_cons, oK_some, oK_none, oK_map, oK_ite, crK_norm, crK_exit, crK_ret, crK_fail, crK_panic, cSeq_eq, cCond_eq, isTrue_bool, cBlock_eq, blK_norm, blK_ret, blK_fail, blK_panic, blK_exit, cSkip_eq, cExit_eq, cRet_eq, cFail_eq, fr_get, fr_put, fr_put_no, upd1_eq, argF, finI_ret, finI_norm, finI_fail, finP_ret, finP_norm, finP_fail, cleanF_t, cl_int, cl_bool, cl_str, cl_nil, cl_agg, cl_tuple, cl_ptr, cl_slice, List.all_cons, List.all_nil, Bool.and_self, Bool.and_true, endF_eq, endG_nil, oF_some, oF_none, resK_nil, resK_tmp, resK_cell, oL_some, oneV_one, oneV_nil, oneV_two, Nat.reducePow, Nat.reduceAdd, Nat.reduceLT, Nat.reduceEqDiff, Nat.zero_add, ↓reduceIte, reduceCtorEq, decide_eq_true_eq, decide_true, decide_false, Bool.true_eq_false, Bool.false_eq_true, Bool.not_false, Bool.not_true, Bool.not_eq_true, and_true, true_and, and_self, and_false, false_and, Nat.reduceLeDiff, Nat.le_refl, x_mkPtr, x_mkSl, x_addI, x_sub, x_mul, x_quo, x_rem, x_ltI, x_gtI, x_leI, x_geI, x_eqI, x_neI, x_neg, x_not, x_conv, x_max, x_min, x_fold2, x_pick, x_addS, x_eqS, x_eqBo, x_lenS, x_lenSl, x_lenNil, x_index, x_sub_ff, x_sub_tf, x_sub_ft, x_sub_tt, x_extract, part_f, part_t, x_field, x_fieldAddr, x_nilCheck, x_iface, x_idxSl, x_idxArr, x_eqPtr_nn, x_eqPtr_pn, x_eqPtr_pp, x_eqSl_sn, x_eqSl_nn, x_load, ldB_blk, x_store, ovO_blk, x_alloc, x_box, c_int, c_bool, c_str, c_ptr, c_slice, c_nil, c_map, c_iface, c_func, c_agg, o_int, o_bool, o_str, o_ptr, o_slice, o_nil, o_map, o_iface, o_func, backTo_next, backTo_ro, backTo_d, backTo_get, Mem.get_put, Mem.get_new, Mem.get_kill, Mem.next_put, Mem.next_new, Mem.next_kill, Mem.ro_put, Mem.ro_new, Mem.ro_kill, Mem.d_put, Mem.d_new, Mem.d_kill, shut_next, shut_ro, shut_d, shut_get, undef_next, undef_ro, undef_d, undef_get, bump_next, bump_ro, bump_d, bumped_get, List.length_cons, List.length_nil, List.take_zero, List.take_succ_cons, List.drop_zero, List.drop_succ_cons, List.nil_append, List.cons_append, List.all_cons, List.all_nil, Bool.and_self, Bool.and_true, List.getElem?_cons_zero, List.getElem?_cons_succ, h1, h2, h5, hd]
theorem run_Text_nil {pr : Prims} (hs : Std pr) (hq : pr id_group_Text = none) {F : Nat} {m : Mem} : callK (cfgP pr) (F + 4) id_group_Text [.nil .slice] m = .ret (.str []) m := by
  rw [callP F_group_Text rfl (by simp) (by simp) (by simp [primAt, cfgP, hq])]
  unfold B_group_Text
  have hb : Bld (· < m.next) (m.shut.new (.blk [.nil .ptr, .nil .slice] 98 true)) m.next [] := by
    refine ⟨by simp, by simp, by simp, .nil .ptr, .inl rfl, .inl ⟨rfl, by simp [Mem.get_new]⟩⟩
  obtain ⟨m2, h5, h6⟩ := run_BString hs.st (F := F + 2) hb (by simp) (by simp)
  have hd : m2.d = [] := by rw [h6.d]; simp
  rw [show (1000 : Nat) = 999 + 1 from rfl]
  simp only [seq_nil, seq_mv, seq_1, seq_2, seq_N, seq_R1, seq_R2, seq_Al, seq_Hv, seq_call, seq_gd, hK_val, hK_skip, hK_fail, hK_panic, hK_ite, fK_ret, fK_fail, fK_panic, fnG_fn, app_nil1, app_nil2, gK_t, ev_tmp, ev_val, evs_nil, evs_cons, oK_some, oK_none, oK_map, oK_ite, crK_norm, crK_exit, crK_ret, crK_fail, crK_panic, cSeq_eq, cCond_eq, isTrue_bool, cBlock_eq, blK_norm, blK_ret, blK_fail, blK_panic, blK_exit, cSkip_eq, cExit_eq, cRet_eq, cFail_eq, fr_get, fr_put, fr_put_no, upd1_eq, argF, finI_ret, finI_norm, finI_fail, finP_ret, finP_norm, finP_fail, cleanF_t, cl_int, cl_bool, cl_str, cl_nil, cl_agg, cl_tuple, cl_ptr, cl_slice, List.all_cons, List.all_nil, Bool.and_self, Bool.and_true, endF_eq, endG_nil, oF_some, oF_none, resK_nil, resK_tmp, resK_cell, oL_some, oneV_one, oneV_nil, oneV_two, Nat.reducePow, Nat.reduceAdd, Nat.reduceLT, Nat.reduceEqDiff, Nat.zero_add, ↓reduceIte, reduceCtorEq, decide_eq_true_eq, decide_true, decide_false, Bool.true_eq_false, Bool.false_eq_true, Bool.not_false, Bool.not_true, Bool.not_eq_true, and_true, true_and, and_self, and_false, false_and, Nat.reduceLeDiff, Nat.le_refl, x_mkPtr, x_mkSl, x_addI, x_sub, x_mul, x_quo, x_rem, x_ltI, x_gtI, x_leI, x_geI, x_eqI, x_neI, x_neg, x_not, x_conv, x_max, x_min, x_fold2, x_pick, x_addS, x_eqS, x_eqBo, x_lenS, x_lenSl, x_lenNil, x_index, x_sub_ff, x_sub_tf, x_sub_ft, x_sub_tt, x_extract, part_f, part_t, x_field, x_fieldAddr, x_nilCheck, x_iface, x_idxSl, x_idxArr, x_eqPtr_nn, x_eqPtr_pn, x_eqPtr_pp, x_eqSl_sn, x_eqSl_nn, x_load, ldB_blk, x_store, ovO_blk, x_alloc, x_box, c_int, c_bool, c_str, c_ptr, c_slice, c_nil, c_map, c_iface, c_func, c_agg, o_int, o_bool, o_str, o_ptr, o_slice, o_nil, o_map, o_iface, o_func, backTo_next, backTo_ro, backTo_d, backTo_get, Mem.get_put, Mem.get_new, Mem.get_kill, Mem.next_put, Mem.next_new, Mem.next_kill, Mem.ro_put, Mem.ro_new, Mem.ro_kill, Mem.d_put, Mem.d_new, Mem.d_kill, shut_next, shut_ro, shut_d, shut_get, undef_next, undef_ro, undef_d, undef_get, bump_next, bump_ro, bump_d, bumped_get, List.length_cons, List.length_nil, List.take_zero, List.take_succ_cons, List.drop_zero, List.drop_succ_cons, List.nil_append, List.cons_append, List.all_cons, List.all_nil, Bool.and_self, Bool.and_true, List.getElem?_cons_zero, List.getElem?_cons_succ, cLoop_succ, L0_group_Text, h5, hd, Int.lt_irrefl]
end Go.K
