/- A part of a proof over an evaluator for programs of this form: KInit. -/
import Derived.Test.YtjbbjdcpkepaiaaGreatDoorLG
import Derived.Test.YtjbbjdcpkepaiaaGreatDoorLH
import Derived.Lib.LaidTab
import Derived.Deep.Slices
import Derived.ChangeSame
import Derived.Carry
import Derived.Below
set_option linter.all false
set_option autoImplicit false
/-! A memory for a call's beginning: tables, and arguments that are read alone. -/
namespace Go.K
open Go (Op)
open Go.ChangeShapes Go.WideShapes
theorem cells_of_pairs {H : Type} {enc : TypeId × Value → H} {P : Program} {w : World} {base : Nat} {sp : Nat → Bool} {held : Bool} {fuel : Nat} {t e : TypeId} {n : Nat} {k : IntKind} {f0 f1 : Field} {cs : List Value} {zs : List (Int × Int)} {p : List MemPlace}
    (ht : P.underlying t = some (.array n e)) (he : P.underlying e = some (.struct #[f0, f1])) (o0 : f0.offset = 0) (o1 : f1.offset = 1) (h0 : P.underlying f0.type = some (.int k)) (h1 : P.underlying f1.type = some (.int k)) (c0 : P.cellsOf f0.type = 1) (c1 : P.cellsOf f1.type = 1)
    (ce : P.cellsOf e = 2) (ct : P.cellsOf t = n * 2)
    (h : DataW.trod enc P w base sp held fuel t cs = some (.agg (zs.map fun z => .agg [.lit (.int k z.1), .lit (.int k z.2)]), p)) : cs = zs.flatMap fun z => [Value.int k z.1, Value.int k z.2] := by
  cases fuel with
  | zero => simp [DataW.trod] at h
  | succ fuel =>
    simp only [DataW.trod, ht, ce, ct] at h
    split at h
    · rename_i hl
      obtain ⟨xs, hm, hx⟩ := Option.map_eq_some_iff.1 h
      have hxs : xs.map (·.1) = zs.map fun z => (DataW.agg [.lit (.int k z.1), .lit (.int k z.2)] : DataW H) := by
        have := congrArg Prod.fst hx
        simpa using this
      have hxl : xs.length = n := by simpa using Lib.mapM_length hm
      have hzl : zs.length = n := by
        have := congrArg List.length hxs
        simp at this
        omega
      have each : ∀ i z, zs[i]? = some z → (cs.drop (i * 2)).take 2 = [Value.int k z.1, Value.int k z.2] := by
        intro i z hz
        have hi : i < n := by rw [← hzl]; exact (List.getElem?_eq_some_iff.1 hz).1
        obtain ⟨b, hb, hf⟩ := Lib.mapM_at hm i i (by simp [hi])
        have h2 : (xs.map (·.1))[i]? = some (DataW.agg [.lit (.int k z.1), .lit (.int k z.2)] : DataW H) := by rw [hxs]; simp [hz]
        rw [List.getElem?_map, hb] at h2
        obtain ⟨b1, b2⟩ := b
        simp only [Option.map_some, Option.some.injEq] at h2
        subst h2
        obtain ⟨ys, k', hk, hxy, hcl, hyl, hff⟩ := DataW.trod_struct he hf
        match ys, hyl with
        | [y0, y1], _ =>
          have g0 := hff 0 f0 rfl
          have g1 := hff 1 f1 rfl
          simp [o0, o1, c0, c1] at g0 g1
          obtain ⟨z0, a0, a1, _⟩ := DataW.trod_int h0 g0
          obtain ⟨z1, a2, a3, _⟩ := DataW.trod_int h1 g1
          simp only [Prod.mk.injEq] at hxy
          have e1 := hxy.1
          simp [a1, a3] at e1
          generalize hq : (cs.drop (i * 2)).take 2 = q at a0 a2
          have hql : q.length = 2 := by rw [← hq]; simp; omega
          match q, hql with
          | [q0, q1], _ =>
            simp at a0 a2
            rw [a0, a2, e1.1, e1.2]
    -- all of them
      have key : ∀ (zs : List (Int × Int)) (cs : List Value), cs.length = zs.length * 2 → (∀ i z, zs[i]? = some z → (cs.drop (i * 2)).take 2 = [Value.int k z.1, Value.int k z.2]) → cs = zs.flatMap fun z => [Value.int k z.1, Value.int k z.2] := by
        intro zs
        induction zs with
        | nil => intro cs hl _; simpa using hl
        | cons z zs ih =>
          intro cs hl he
          have h1 := he 0 z rfl
          simp at h1
          have h2 := ih (cs.drop 2) (by simp at hl ⊢; omega) (fun i z hz => by
            have := he (i + 1) z (by simpa using hz)
            rw [List.drop_drop, show 2 + i * 2 = (i + 1) * 2 from by omega]; exact this)
          rw [← List.take_append_drop 2 cs, h1, h2]
          simp
      exact key zs cs (by omega) each
    · cases h
theorem laid_mem {P : Program} {w : World} : ∀ {laid : List (String × DataW Unit)} {ps : List MemPlace}, DataW.LaidVars P w laid ps → ∀ n d, (n, d) ∈ laid → ∃ g t cs fuel p, P.globalNamed n = some g ∧ (P.globals[g]?).map (·.type) = some t ∧ w.var? P n = some cs ∧ DataW.trod (fun _ => ()) P w 0 (fun _ => true) false fuel t cs.toList = some (d, p)
  | [], _, _, n, d, h => by cases h
  | (n', d') :: r, ps, ⟨g, t, cs, fuel, p, q, h1, h2, h3, h4, h5, _⟩, n, d, h => by
    rcases List.mem_cons.1 h with e | e
    · cases e; exact ⟨g, t, cs, fuel, p, h1, h2, h3, h4⟩
    · exact laid_mem h5 n d e
/-- a block's cells, of a listed variable -/
theorem laid_heap {P : Program} {w : World} {n : String} {cs : Array Value} (h : w.var? P n = some cs) : ∃ g c t fr, P.globalNamed n = some g ∧ w.heap[g]? = some (.cells c t fr) ∧ c = cs := by
  unfold World.var? at h
  obtain ⟨g, hg, h⟩ := Option.bind_eq_some_iff.1 h
  split at h
  · rename_i c t fr hb
    cases h
    exact ⟨g, _, t, fr, hg, hb, rfl⟩
  · cases h
def noE : Emb := fun _ => none
theorem RL_bytes {ι : Emb} : ∀ (l : List Nat), RL ι (mapL (fun n => AV.int .u8 (Int.ofNat n)) l) (l.map fun n => Value.int .u8 (Int.ofNat n))
  | [] => by simp [mapL, RL]
  | n :: l => by
    rw [mapL_eq, List.map_cons, List.map_cons, ← mapL_eq]
    exact RL.cons (by simp [R]) (RL_bytes l)
structure Tabs (P : Program) (w : World) : Prop where
  size : P.globals.size ≤ w.heap.size
  tab : ∀ o x, glOf P o = some x → ∃ (l : List Nat) (c : Array Value) (t : TypeId) (fr : Nat × Nat), x = rowOf l ∧ w.heap[o]? = some (.cells c t fr) ∧ c.toList = l.map fun n => Value.int .u8 (Int.ofNat n)
noncomputable def sizeAt (w : World) (o : Nat) : Nat := match w.heap[o]? with
  | some (.cells c _ _) => c.size
  | _ => 0
noncomputable def iota0 (P : Program) (w : World) : Emb := fun o => if o < P.globals.size then some ⟨o, 0, sizeAt w o, false⟩ else none
theorem Tabs.rep {P : Program} {w : World} {g : Nat} {m₀ : Mem} (h : Tabs P w) (hs : Small P g m₀) : Rep P (iota0 P w) m₀ w where
  obj o x hx := by
    have h1 := hs.to o x hx
    obtain ⟨l, c, t, fr, rfl, hb, hc⟩ := h.tab o x h1
    refine ⟨⟨o, 0, sizeAt w o, false⟩, by unfold iota0; rw [if_pos (glOf_lt h1)], ?_⟩
    have hl : l.length = c.size := by have := congrArg List.length hc; simpa using this.symm
    have hsz : sizeAt w o = c.size := by unfold sizeAt; rw [hb]
    refine ⟨c, t, fr, hb, by simp [hsz], by simp only [hsz]; rw [mapL_eq, List.length_map]; omega, ?_, (by intro e; cases e), (by intro e; exact absurd rfl e), (by intro e; cases e)⟩
    · have e : (c.toList.drop 0).take (mapL (fun n => AV.int .u8 (Int.ofNat n)) l).length = l.map fun n => Value.int .u8 (Int.ofNat n) := by
        rw [List.drop_zero, hc, mapL_eq, List.length_map, List.take_of_length_le (by simp)]
      rw [e]
      exact RL_bytes l
  inj o p x y L K hx hy _ _ _ he := by
    have h1 := glOf_lt (hs.to o x hx)
    have h2 := glOf_lt (hs.to p y hy)
    have := hs.size
    rw [hs.ro] at he
    omega
  gl o x hx := ⟨hs.of o x hx, by rw [hs.ro]; have := glOf_lt hx; have := hs.size; omega⟩
  wr o x L hx he _ := by
    have h1 := glOf_lt (hs.to o x hx)
    have := hs.size
    rw [hs.ro] at he
    omega
  fresh o ho := by
    unfold iota0
    rw [hs.next] at ho
    rw [if_neg (by have := hs.size; omega)]
  low o L hL := by
    unfold iota0 at hL
    split at hL
    · cases hL; have := h.size; simp only; omega
    · cases hL
  glob o ho := ⟨_, _, by unfold iota0; rw [if_pos ho]⟩
/-- one more object, to be read alone -/
theorem Rep.arg {P : Program} {ι : Emb} {m : Mem} {w : World} {x : AObj} {L : Loc} (h : Rep P ι m w) (hx : ∀ ι', Holds ι' x L w) : Rep P (upd ι m.next L) (m.new x).shut w where
  obj o y hy := by
    rw [shut_get, Mem.get_new] at hy
    split at hy
    · rename_i e; subst e; cases hy; exact ⟨L, upd_same _ _, hx _⟩
    · rename_i e
      obtain ⟨K, hK, hH⟩ := h.obj o y hy
      exact ⟨K, by rw [upd_ne _ e]; exact hK, hH.mono (le_upd (h.fresh _ (Nat.le_refl _))) rfl⟩
  inj o p y z K J hy hz hK hJ _ he := by
    have lt : ∀ q u, (m.new x).shut.get q = some u → q < m.next + 1 := by
      intro q u hq
      rw [shut_get, Mem.get_new] at hq
      split at hq
      · omega
      · obtain ⟨M, hM, _⟩ := h.obj q u hq
        rcases Nat.lt_or_ge q m.next with e | e
        · omega
        · rw [h.fresh q e] at hM; cases hM
    have h1 := lt o y hy
    have h2 := lt p z hz
    simp at he
    omega
  gl o y hy := by
    obtain ⟨h1, h2⟩ := h.gl o y hy
    obtain ⟨M, hM, _⟩ := h.obj o y h1
    have : o < m.next := by
      rcases Nat.lt_or_ge o m.next with e | e
      · exact e
      · rw [h.fresh o e] at hM; cases hM
    exact ⟨by rw [shut_get, Mem.get_new, if_neg (by omega)]; exact h1, by simp; omega⟩
  wr o y K hy he hK := by
    rw [shut_get, Mem.get_new] at hy
    simp at he
    rw [if_neg (by omega)] at hy
    obtain ⟨M, hM, _⟩ := h.obj o y hy
    rw [h.fresh o (by omega)] at hM; cases hM
  fresh o ho := by
    simp at ho
    rw [upd_ne _ (by omega)]
    exact h.fresh o (by omega)
  low o K hK := by
    unfold upd at hK
    split at hK
    · cases hK; exact (hx ι).lt
    · exact h.low o K hK
  glob o ho := by
    obtain ⟨s, r, e⟩ := h.glob o ho
    exact ⟨s, r, by rw [upd_ne _ (by have := h.glob_lt ho; omega)]; exact e⟩
end Go.K
namespace Go.K
open Go (Op)
theorem cell_heap {w : World} {b o : Nat} {v : Value} (h : w.cell? ⟨b, o, none⟩ = some v) : ∃ c t fr, w.heap[b]? = some (.cells c t fr) ∧ c[o]? = some v := by
  unfold World.cell? at h
  simp only at h
  split at h
  · rename_i c t fr hb
    exact ⟨c, t, fr, hb, by simpa using h⟩
  · cases h
/-- a stretch of cells of an elder block, to be read alone -/
theorem row_holds {w : World} {b off : Nat} {l : List AV} {vs : List Value} (hne : 0 < vs.length) (hc : ∀ j v, vs[j]? = some v → w.cell? ⟨b, off + j, none⟩ = some v) (hR : ∀ ι, RL ι l vs) : ∀ ι, Holds ι (.blk l noTy false) ⟨b, off, vs.length, false⟩ w := by
  intro ι
  obtain ⟨c, t, fr, hb, h0⟩ := cell_heap (hc 0 vs[0] (List.getElem?_eq_getElem hne))
  have hl := (hR ι).length
  have each : ∀ j, j < vs.length → c[off + j]? = vs[j]? := by
    intro j hj
    have := hc j vs[j] (List.getElem?_eq_getElem hj)
    obtain ⟨c', t', fr', hb', h'⟩ := cell_heap this
    rw [hb] at hb'
    cases hb'
    rw [h', List.getElem?_eq_getElem hj]
  have hsz : off + vs.length ≤ c.size := by
    have h1 := each (vs.length - 1) (by omega)
    rw [List.getElem?_eq_getElem (by omega)] at h1
    have := (Array.getElem?_eq_some_iff.1 h1).1
    omega
  refine ⟨c, t, fr, hb, hsz, by simp only; omega, ?_, (by intro e; cases e), (by intro e; exact absurd rfl e), (by intro e; cases e)⟩
  have e : (c.toList.drop off).take l.length = vs := by
    rw [hl]
    apply List.ext_getElem?
    intro j
    by_cases hj : j < vs.length
    · rw [List.getElem?_take_of_lt hj, List.getElem?_drop, Array.getElem?_toList, each j hj]
    · rw [List.getElem?_eq_none (by simp; omega), List.getElem?_eq_none (by omega)]
  rw [e]
  exact hR ι
/-- of nothing -/
theorem none_holds {w : World} {b : Nat} {row : TypeId} {n : Nat} (h : w.shape? b = some (row, n)) : ∀ ι, Holds ι (.blk [] noTy false) ⟨b, 0, 0, false⟩ w := by
  intro ι
  unfold World.shape? at h
  split at h
  · rename_i c t fr hb
    exact ⟨c, t, fr, hb, by simp, by simp, by simp [RL], (by intro e; cases e), (by intro e; exact absurd rfl e), (by intro e; cases e)⟩
  · cases h
theorem callsTo_calls {P : Program} {f : FuncId} {fn : Func} {c : Code} {vals : Array Value} {w : World} {K : Value → World → Prop} (hng : NoNG P) (hf : P.funcs[f]? = some fn) (hb : fn.body = some c) (h : CallsTo P f vals w K) :
    Calls P f vals w (fun e w' => ∃ u, e = .returned u ∧ K u w') := by
  rcases h with ⟨u, w', h1, _⟩ | ⟨_, h2⟩
  · rw [enter_run hng hf hb] at h1; cases h1
  · exact h2
/-- behind a run that has kept its memory nothing of the elder has turned -/
theorem ext_below {ι ι' : Emb} {m m' : Mem} {w w' : World} {P : Program} (hR : Rep P ι m w) (hro : m.ro = m.next) (hE : Ext ι m w ι' m' w') : Go.RowKit.Below w.heap.size w w' :=
  ⟨hE.os, hE.tape, hE.output, hE.size, fun k hk => hE.kept k hk fun o x L h1 h2 h3 => by
    rw [hro] at h2
    rw [hR.fresh o h2] at h3; cases h3⟩
/-- a run of the evaluator tells what a call does, from a memory that nothing may change -/
theorem calls_of_run {c : Cfg} (hc : CfgOk c) {F : Nat} {f : FuncId} {fn : Func} {args : List AV} {vals : Array Value} {m m' : Mem} {v : AV} {ι : Emb} {w : World} (hR : Rep c.P ι m w) (hro : m.ro = m.next) (hargs : RL ι args vals.toList)
    (hf : c.P.funcs[f]? = some fn) (hb : fn.body.isSome = true) (h : callK c F f args m = .ret v m') : Calls c.P f vals w (fun e w' => ∃ u, e = .returned u ∧ (∃ ι', R ι' v u) ∧ Go.RowKit.Below w.heap.size w w') := by
  obtain ⟨code, hcode⟩ := Option.isSome_iff_exists.1 hb
  have h1 := call_ok c hc F f args m ι w vals v m' hR hargs h
  have h2 := callsTo_calls hc.ng hf hcode h1
  refine h2.mono fun e w' ⟨u, e1, ι', _, hE, hu, _⟩ => ⟨u, e1, ⟨ι', hu⟩, ext_below hR hro hE⟩
section
open Go.RowKit Go.WideShapes Go.ChangeShapes
variable {H : Type} {enc : TypeId × Value → H} {P : Program}
/-- the row's last step, for a call that has made memory alone -/
theorem post_of_below {f : Func} {s : ChangeSpec} {apart fresh handsOn again : Bool} {W W' : World} {args : Array Value} {v : Value} {ds gs : List (DataW H)} {before pa pv : List MemPlace}
    (hW : DataW.Whole enc P f.params.toList s.vars apart W args.toList ds gs before)
    (hres : ∀ (b : Nat) (sp : Nat → Bool) (hd : Bool), DataW.TrodAll enc P W' b sp hd f.resultTypes.toList (v.resultList f.resultTypes.size) (s.fn H (ds ++ gs)).results [])
    (hargs : ∀ sp : Nat → Bool, (∀ p ∈ before, sp p.block = true) → DataW.TrodAll enc P W' 0 sp true f.params.toList args.toList (s.fn H (ds ++ gs)).args pa)
    (hvars : ∀ sp : Nat → Bool, (∀ p ∈ before, sp p.block = true) → DataW.TrodVars enc P W' sp s.vars (s.fn H (ds ++ gs)).vars pv)
    (hps : before = pa ++ pv) (hb : Below W.heap.size W W')
    (hok : ∀ (j : Nat) (t : TypeId) (r : Value), f.resultTypes[j]? = some t → (v.resultList f.resultTypes.size)[j]? = some r → Value.okWide P W' .any 0 t r) :
    s.post enc P f apart fresh handsOn again W args v W' := by
  have hlt : ∀ p ∈ before, p.block < W.heap.size := fun p hp => hW.lt p hp
  have hold : ∀ p ∈ before, (fun b => decide (b < W.heap.size)) p.block = true := fun p hp => by simpa using hlt p hp
  refine ⟨ds, gs, before, [], pa, pv, hW, hres _ _ _, hargs _ hold, hvars _ hold, World.keptBut_mono (fun p hp => ⟨hp, ?_⟩) (hb.frame (· ∈ before)), fun _ => ?_⟩
  · rw [hps, List.mem_append] at hp
    exact Or.inr hp
  · obtain ⟨_, _, _, _, _, hz, hn⟩ := hW
    refine ⟨hok, _, _, ([] ++ pa) ++ pv, ⟨[] ++ pa, pv, trodAll_append (hargs _ (fun _ _ => rfl)) (hres _ _ _), hvars _ (fun _ _ => rfl), rfl, ?_, ?_⟩, ?_⟩
    · intro b off hp
      have hin : MemPlace.cell b off ∈ before := by rw [hps]; simpa using hp
      rw [hb.frozen (hlt _ hin)]
      exact hz b off hin
    · intro ha
      have := hn ha
      rw [hps] at this
      simpa using this
    · intro p hp _
      rw [hps]
      simpa using hp
/-- the arguments read as they did -/
theorem args_stay (hl : laidOutB P = true) {W W' : World} (hb : Below W.heap.size W W') {sp : Nat → Bool} : ∀ {ts : List TypeId} {vs : List Value} {ds : List (DataW H)} {ps : List MemPlace}, (∀ t ∈ ts, P.readableRec t = true ∧ t < P.types.size) →
    DataW.TrodAll enc P W 0 (fun _ => true) true ts vs ds ps → (∀ p ∈ ps, p.block < W.heap.size) → (∀ p ∈ ps, sp p.block = true) → DataW.TrodAll enc P W' 0 sp true ts vs ds ps
  | [], [], [], _, _, h, _, _ => h
  | _ :: _, _ :: _, _ :: _, _, ht, ⟨p, q, h1, h2, e⟩, hlt, hsp => by
    subst e
    refine ⟨p, q, WideElems.Trod_stays hl (ht _ (List.mem_cons_self ..)).1 (ht _ (List.mem_cons_self ..)).2 h1 (fun x hx => hb.same (hlt x (List.mem_append_left _ hx))) (fun x hx => hsp x (List.mem_append_left _ hx)), ?_, rfl⟩
    exact args_stay hl hb (fun t h => ht t (List.mem_cons_of_mem _ h)) h2 (fun x hx => hlt x (List.mem_append_right _ hx)) (fun x hx => hsp x (List.mem_append_right _ hx))
end
end Go.K
