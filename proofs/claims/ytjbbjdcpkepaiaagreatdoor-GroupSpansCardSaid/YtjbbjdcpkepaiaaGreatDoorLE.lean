/- A part of a proof over an evaluator for programs of this form: KDec KSeq KCode KCall. -/
import Derived.Test.YtjbbjdcpkepaiaaGreatDoorLD
import Derived.Defers
set_option linter.all false
set_option autoImplicit false
section
namespace Go.K
open Go (Op)
section
variable {P : Program} {nt : Nat} {dst : Option Tmp} {ty : TypeId} {pos : String} {after : Array Edge} {guard : Option (Nat × Bool)}
abbrev mkO (dst : Option Tmp) (op : Op) (ty : TypeId) (pos : String) (after : Array Edge) (guard : Option (Nat × Bool)) : Oper := ⟨dst, op, ty, pos, after, guard⟩
theorem goodFBad {o : Oper} {x y : Operand} : Good P nt o (with2 P nt x y (.p2 fBad)) := good2 fun ι ρ w p q r hp hq hr => by cases hr
theorem byT_good {o : Oper} {t : TypeId} {x y : Operand} {fi fs : F2} (h1 : Good P nt o (with2 P nt x y (.p2 fi))) (h2 : Good P nt o (with2 P nt x y (.p2 fs))) : Good P nt o (byT P nt t x y fi fs) := by
  unfold byT
  split
  · exact h1
  · exact h2
  · exact Good.bad
theorem gOpt {o : Oper} {α : Type} {x : Option α} {k : α → IOp} (h : ∀ v, x = some v → Good P nt o (k v)) : Good P nt o (Option.rec (motive := fun _ => IOp) .bad k x) := by
  cases x with
  | none => exact Good.bad
  | some v => exact h v rfl
theorem gBool {o : Oper} {b : Bool} {t : IOp} (h : b = true → Good P nt o t) : Good P nt o (Bool.rec (motive := fun _ => IOp) .bad t b) := by
  cases b with
  | false => exact Good.bad
  | true => exact h rfl
theorem decEq_good {neq : Bool} {t yt : TypeId} {x y : Operand} {fi : F2} (hi : Good P nt ⟨dst, .binOp (if neq then .neq else .eql) t x y yt, ty, pos, after, guard⟩ (with2 P nt x y (.p2 fi))) :
    Good P nt ⟨dst, .binOp (if neq then .neq else .eql) t x y yt, ty, pos, after, guard⟩ (decEq P nt neq t x y fi) := by
  have other : Good P nt ⟨dst, .binOp (if neq then .neq else .eql) t x y yt, ty, pos, after, guard⟩ (Option.rec (motive := fun _ => IOp) .bad (fun f => with2 P nt x y (.p2 (fEq neq f))) (eqT P t)) := by
    refine gOpt fun f hf => ?_
    cases neq with
    | false => exact good_eqT hf
    | true => exact good_neT hf
  unfold decEq
  cases hu : P.underlying t with
  | none => exact other
  | some d =>
    cases d with
    | int k => exact hi
    | interface ms =>
      obtain ⟨h1, h2⟩ := good_nil (P := P) (nt := nt) (dst := dst) (ty := ty) (pos := pos) (after := after) (guard := guard) (yt := yt) (x := x) (y := y) hu neq
      dsimp only
      cases hy : isNilIface y with
      | true => exact h1 hy
      | false =>
        cases hx : isNilIface x with
        | true => exact h2 hx
        | false => exact Good.bad
    | _ => exact other
theorem decBin_good (op : BinOp) (t yt : TypeId) (x y : Operand) : Good P nt ⟨dst, .binOp op t x y yt, ty, pos, after, guard⟩ (decBin P nt op t x y) := by
  cases op with
  | add => exact byT_good (good_add t yt x y) (good_addS t yt x y)
  | sub => exact byT_good (good_sub t yt x y) goodFBad
  | mul => exact byT_good (good_mul t yt x y) goodFBad
  | quo => exact byT_good (good_quo t yt x y) goodFBad
  | rem => exact byT_good (good_rem t yt x y) goodFBad
  | and => exact byT_good (good_and t yt x y) goodFBad
  | or => exact byT_good (good_or t yt x y) goodFBad
  | xor => exact byT_good (good_xor t yt x y) goodFBad
  | andNot => exact Good.bad
  | shl => exact good_shl t yt x y
  | shr => exact good_shr t yt x y
  | lss => exact byT_good (good_lss t yt x y) (good_ltS t yt x y)
  | leq => exact byT_good (good_leq t yt x y) (good_leS t yt x y)
  | gtr => exact byT_good (good_gtr t yt x y) (good_gtS t yt x y)
  | geq => exact byT_good (good_geq t yt x y) (good_geS t yt x y)
  | eql => exact decEq_good (neq := false) (good_eqI t yt x y)
  | neq => exact decEq_good (neq := true) (good_neI t yt x y)
theorem decConv_good (src d : TypeId) (x : Operand) : Good P nt ⟨dst, .convert src d x, ty, pos, after, guard⟩ (decConv P nt src d x) := by
  unfold decConv
  split
  · rename_i k hs
    split
    · rename_i k' hd; exact good_convInt x hs hd
    · rename_i hd; exact good_intStr x hs hd
    · exact Good.bad
  · rename_i hs
    split
    · rename_i hd; exact good_strStr x hs hd
    · rename_i el hd
      split
      · rename_i he; exact good_strBytes x hs hd he
      · exact Good.bad
    · exact Good.bad
  · rename_i el hs
    split
    · rename_i he hd; exact good_bytes x hs he hd
    · exact Good.bad
  · rename_i t hs
    split
    · rename_i n hd hn; exact good_unsafe x hs hd hn
    · exact Good.bad
  · rename_i hs
    split
    · rename_i u hd
      refine gOpt fun n hn => ?_
      exact good_back x hs hd hn
    · exact Good.bad
  · exact Good.bad
theorem decBuiltin_good (b : Builtin) (args : Array Operand) (ts : Array TypeId) : Good P nt ⟨dst, .call ⟨.builtin b, args, ts⟩, ty, pos, after, guard⟩ (decBuiltin P nt b args.toList ts.toList) := by
  unfold decBuiltin
  split
  · split
    · rename_i t x ht ha
      split
      · rename_i hu; exact good_lenS ha ht hu
      · rename_i el hu; exact good_lenSl ha ht hu
      · rename_i n el hu; exact good_lenArr ha ht (.inl ⟨el, hu⟩)
      · rename_i a hu
        split
        · rename_i n el hu'; exact good_lenArr ha ht (.inr ⟨a, el, hu, hu'⟩)
        · exact Good.bad
      · exact Good.bad
    · exact Good.bad
  · split
    · rename_i t x ht ha
      split
      · rename_i el hu; exact good_cap ha ht hu
      · exact Good.bad
    · exact Good.bad
  · exact good_max
  · exact good_min
  · split
    · rename_i t t' ht
      split
      · rename_i el hu
        split
        · rename_i s hs
          refine gBool fun h => ?_
          simp only [Bool.and_eq_true] at h
          exact good_append ht hu hs h.1 h.2.1 h.2.2
        · exact Good.bad
      · exact Good.bad
    · exact Good.bad
  · split
    · rename_i t t' ht
      split
      · rename_i el hu
        split
        · rename_i s hs; exact good_copy ht hu hs
        · exact Good.bad
      · exact Good.bad
    · exact Good.bad
  · exact good_sliceData
  · split
    · rename_i pt rest ht
      split
      · rename_i el hu
        refine gBool fun h => ?_
        simp only [Bool.and_eq_true] at h
        refine good_string ht hu (Nat.eq_of_beq_eq_true h.1) ?_
        intro e
        rw [e] at h
        have := h.2.2
        simp at this
      · exact Good.bad
    · exact Good.bad
  · exact Good.bad
theorem good_call {args : Array Operand} {ts : Array TypeId} (f : Operand) : Good P nt ⟨dst, .call ⟨.value f, args, ts⟩, ty, pos, after, guard⟩ (with1 P nt f fun a => withN P nt args.toList (.call a)) := by
  rcases with1_cases P nt f (fun a => withN P nt args.toList (.call a)) with e | ⟨od, ho, e⟩ <;> rw [e]
  · exact Good.bad
  rcases withN_cases P nt args.toList (.call od) with e' | ⟨ods, hos, e'⟩ <;> rw [e']
  · exact Good.bad
  intro ι e a m w hR hS hn
  refine ⟨a.eval f, args.map a.eval, ?_, ev_ok hR hS hn ho, by simpa using evs_ok hR hS hn hos⟩
  simp only [execOp, resolve, Sem.run_bind]
theorem decOp_good (o : Oper) : Good P nt o (decOp P nt o.op) := by
  obtain ⟨dst, op, ty, pos, after, guard⟩ := o
  show Good P nt _ (decOp P nt op)
  unfold decOp
  split
  · exact good_move _
  · exact good_assign _
  · exact good_pick _ _ _
  · exact gOpt fun z hz => good_alloc hz
  · exact good_box _
  · refine gOpt fun z hz => gOpt fun pf hpf => gOpt fun ps hps => good_build hz hpf hps
  · split
    · rename_i el hu
      refine gOpt fun z hz => gOpt fun s hs => gBool fun h => gOpt fun ps hps => ?_
      simp only [Bool.and_eq_true] at h
      have h1 := Nat.eq_of_beq_eq_true h.1
      rw [len_eq] at h1
      exact good_buildSlice hu hz hs h1 (Nat.le_of_ble_eq_true h.2.1) (Nat.le_of_ble_eq_true h.2.2) hps
    · exact Good.bad
  · exact gOpt fun n hn => good_load _ hn
  · exact gOpt fun n hn => good_store _ _ hn
  · exact good_nilCheck _
  · exact decBin_good _ _ _ _ _
  · split
    · exact good_neg _ _
    · exact good_not _ _
    · exact Good.bad
  · exact decConv_good _ _ _
  · split
    · exact Good.bad
    · rename_i d hni hd
      exact good_iface _ _ hd fun ms e => hni ms e
    · exact Good.bad
  · exact good_func _ _ _
  · exact good_makeMap
  · split
    · rename_i el hu
      refine gOpt fun z hz => gOpt fun s hs => gBool fun h => ?_
      simp only [Bool.and_eq_true] at h
      have h1 := Nat.eq_of_beq_eq_true h.1
      rw [len_eq] at h1
      exact good_makeSlice _ _ hu hz hs h1 (Nat.le_of_ble_eq_true h.2.1) h.2.2
    · exact Good.bad
  · exact good_slice _ _ _ _ _
  · split
    · rename_i fs hu
      split
      · rename_i f hf
        split
        · rename_i n hn; exact good_fieldAddr _ hu hf hn
        · exact Good.bad
      · exact Good.bad
    · exact Good.bad
  · split
    · rename_i fs hu
      split
      · rename_i f hf; exact gOpt fun n hn => good_field _ hu hf hn
      · exact Good.bad
    · exact Good.bad
  · split
    · rename_i n el hu; exact gOpt fun s hs => good_idxArr _ _ hu hs
    · rename_i el hu; exact gOpt fun s hs => good_idxSl _ _ hu hs
    · exact Good.bad
  · split
    · rename_i n el hu; exact gOpt fun s hs => good_indexArr _ _ hu hs
    · rename_i hu; exact good_indexStr _ _ hu
    · exact Good.bad
  · split
    · rename_i kt el hu
      split
      · rename_i hk; exact gOpt fun z hz => good_lookup _ _ hu hk hz
      · exact Good.bad
    · exact Good.bad
  · split
    · rename_i kt el hu
      split
      · rename_i hk; exact good_mapSet _ _ _ hu hk
      · exact Good.bad
    · exact Good.bad
  · split
    · rename_i hu; exact good_range _ hu
    · exact Good.bad
  · exact good_next _
  · split
    · exact Good.bad
    · rename_i d hni hd
      exact good_assert hd fun ms e => hni ms e
    · exact Good.bad
  · exact good_extract _ _
  · exact good_call _
  · exact decBuiltin_good _ _ _
  · exact good_defer _
  · exact good_panic _
  · exact Good.bad
end
end Go.K
end
section
/-! A stretch of operations in the text's order. -/
namespace Go.K
open Go (Op)
def DefRL (ι : Emb) : List Df → List Deferred → Prop
  | [], ds => ds = []
  | x :: xs, ds => ∃ d r, ds = d :: r ∧ DefR1 ι x d ∧ DefRL ι xs r
theorem DefR1.mono {ι ι' : Emb} (h : ι.le ι') {x : Df} {d : Deferred} (k : DefR1 ι x d) : DefR1 ι' x d := by
  obtain ⟨a, c, h1, h2⟩ := k
  exact ⟨a, c, h1, h2.mono h⟩
theorem DefRL.mono {ι ι' : Emb} (h : ι.le ι') : ∀ {xs : List Df} {ds : List Deferred}, DefRL ι xs ds → DefRL ι' xs ds
  | [], _, k => k
  | _ :: _, _, ⟨d, r, h1, h2, h3⟩ => ⟨d, r, h1, h2.mono h, h3.mono h⟩
/-- the evaluator's state and the machine's -/
structure Stt (P : Program) (nt : Nat) (ι : Emb) (e : ET) (a : Act) (m : Mem) (w : World) : Prop where
  rep : Rep P ι m w
  sim : Sim ι e a.tmps
  nt : nt ≤ a.tmps.size
  defs : DefRL ι m.d a.defers
/-- a point to come, as seen from a start -/
structure Ahead (P : Program) (nt : Nat) (ι₀ : Emb) (m₀ : Mem) (w₀ : World) (n₀ : Nat) (ι : Emb) (e : ET) (a : Act) (m : Mem) (w : World) : Prop extends Stt P nt ι e a m w where
  ext : Ext ι₀ m₀ w₀ ι m w
  size : a.tmps.size = n₀
def CRPost (P : Program) (nt : Nat) (ι₀ : Emb) (m₀ : Mem) (w₀ : World) (n₀ : Nat) (Q : Exit → Act → World → Prop) : CR → Prop
  | .fail => False
  | .panic _ _ _ => False
  | .norm e m => ∀ ι a w, Ahead P nt ι₀ m₀ w₀ n₀ ι e a m w → Q .normal a w
  | .exit i e m => ∀ ι a w, Ahead P nt ι₀ m₀ w₀ n₀ ι e a m w → Q (.exit i) a w
  | .ret e m => ∀ ι a w, Ahead P nt ι₀ m₀ w₀ n₀ ι e a m w → Q .ret a w
/-- what a called function comes to -/
def CallsTo (P : Program) (f : FuncId) (vals : Array Value) (w : World) (K : Value → World → Prop) : Prop :=
  (∃ u w', (callFunc f vals).run P w = .ok (.value u) w' ∧ K u w') ∨ ((callFunc f vals).run P w = .ok (.enter f vals) w ∧ Calls P f vals w (fun e w' => ∃ u, e = .returned u ∧ K u w'))
def CallOk (P : Program) (call : CallFn) : Prop :=
  ∀ (f : FuncId) (args : List AV) (m : Mem) (ι : Emb) (w : World) (vals : Array Value) (v : AV) (m' : Mem), Rep P ι m w → RL ι args vals.toList → call f args m = .ret v m' →
    CallsTo P f vals w (fun u w' => ∃ ι', Rep P ι' m' w' ∧ Ext ι m w ι' m' w' ∧ R ι' v u ∧ m'.d = m.d)
section
variable {P : Program} {nt : Nat} {call : CallFn} {ι₀ : Emb} {m₀ : Mem} {w₀ : World} {n₀ : Nat} {Q : Exit → Act → World → Prop}
theorem crOpt {α : Type} {x : Option α} {k : α → CR} (h : CRPost P nt ι₀ m₀ w₀ n₀ Q (Option.rec (motive := fun _ => CR) .fail k x)) : ∃ v, x = some v ∧ CRPost P nt ι₀ m₀ w₀ n₀ Q (k v) := by
  cases x with
  | none => exact h.elim
  | some v => exact ⟨v, rfl, h⟩
@[simp] theorem put_size (a : Act) (d : Option Tmp) (v : Value) : (a.put d v).tmps.size = a.tmps.size := by cases d <;> simp [Act.put]
@[simp] theorem put_defers (a : Act) (d : Option Tmp) (v : Value) : (a.put d v).defers = a.defers := by cases d <;> simp [Act.put]
theorem Ahead.put {ι : Emb} {e : ET} {a : Act} {m : Mem} {w : World} (h : Ahead P nt ι₀ m₀ w₀ n₀ ι e a m w) (d : Option Tmp) {x : AV} {v : Value} (r : R ι x v) : Ahead P nt ι₀ m₀ w₀ n₀ ι (e.put (dstOf d) x) (a.put d v) m w where
  rep := h.rep
  sim := h.sim.put r
  nt := by simpa using h.nt
  defs := by simpa using h.defs
  ext := h.ext
  size := by simpa using h.size
/-- on, in another memory and world -/
theorem Ahead.on {ι ι' : Emb} {e : ET} {a : Act} {m m' : Mem} {w w' : World} (h : Ahead P nt ι₀ m₀ w₀ n₀ ι e a m w) (hR : Rep P ι' m' w') (hE : Ext ι m w ι' m' w') (hd : m'.d = m.d) : Ahead P nt ι₀ m₀ w₀ n₀ ι' e a m' w' where
  rep := hR
  sim := h.sim.mono hE.le
  nt := h.nt
  defs := by rw [hd]; exact h.defs.mono hE.le
  ext := h.ext.trans hE
  size := h.size
theorem fnK_post {v : AV} {k : FuncId → List AV → List AV → CR} (h : CRPost P nt ι₀ m₀ w₀ n₀ Q (fnK v k)) : ∃ f a b, v = .func f a b ∧ CRPost P nt ι₀ m₀ w₀ n₀ Q (k f a b) := by
  cases v with
  | func f a b => exact ⟨f, a, b, rfl, h⟩
  | _ => exact h.elim
theorem stIOp_ok (hcall : CallOk P call) {o : Oper} {op : IOp} (hg : Good P nt o op) {ι : Emb} {e : ET} {a : Act} {m : Mem} {w : World} (hA : Ahead P nt ι₀ m₀ w₀ n₀ ι e a m w) {k : ET → Mem → CR} {K : Act → World → Prop}
    (h : CRPost P nt ι₀ m₀ w₀ n₀ Q ((stIOp (dstOf o.dst) op).run call e m k))
    (hk : ∀ ι' e' a' m' w', Ahead P nt ι₀ m₀ w₀ n₀ ι' e' a' m' w' → CRPost P nt ι₀ m₀ w₀ n₀ Q (k e' m') → K a' w') : o.wp P a w K Q := by
  have hg := hg ι e a m w hA.rep hA.sim hA.nt
  have value : ∀ (r : AV), CRPost P nt ι₀ m₀ w₀ n₀ Q (k (e.put (dstOf o.dst) r) m) → (∃ v, (execOp a.eval o).run P w = .ok (.value v) w ∧ R ι r v) → o.wp P a w K Q := by
    rintro r h ⟨v, h1, h2⟩
    unfold Oper.wp
    rw [h1, Oper.upon_value]
    exact hk _ _ _ _ _ (hA.put o.dst h2) h
  cases op with
  | bad => exact h.elim
  | mv x => exact value _ h hg
  | p1 f x => obtain ⟨r, hr, h⟩ := crOpt h; exact value r h (hg r hr)
  | p2 f x y => obtain ⟨r, hr, h⟩ := crOpt h; exact value r h (hg r hr)
  | pN f xs => obtain ⟨r, hr, h⟩ := crOpt h; exact value r h (hg r hr)
  | r1 f x => obtain ⟨r, hr, h⟩ := crOpt h; exact value r h (hg r hr)
  | r2 f x y => obtain ⟨r, hr, h⟩ := crOpt h; exact value r h (hg r hr)
  | al f mk xs =>
    obtain ⟨b, hb, h⟩ := crOpt h
    obtain ⟨v, ob, base, sz, h1, h2, h3⟩ := hg b hb
    rw [Mem.tell_eq] at h
    obtain ⟨g1, g2⟩ := hA.rep.new (x := b) (ob := ob) (base := base) (sz := sz) h2
    unfold Oper.wp
    rw [h1, Oper.upon_value]
    exact hk _ _ _ _ _ ((hA.on g1 g2 (by simp)).put o.dst (h3 _ _ (upd_same _ _))) h
  | hv f xs =>
    have h : CRPost P nt ι₀ m₀ w₀ n₀ Q (hrK (f m (evs xs e)) e fun v m' => k (e.put (dstOf o.dst) v) m') := h
    have hg : HOk P ι m w ((execOp a.eval o).run P w) (f m (evs xs e)) := hg
    cases hf : f m (evs xs e) with
    | fail => rw [hf] at h; exact h.elim
    | val r m' =>
      rw [hf] at h hg
      obtain ⟨hd, v, w', ι', h1, h2, h3, h4⟩ := hg
      unfold Oper.wp
      rw [h1, Oper.upon_value]
      exact hk _ _ _ _ _ ((hA.on h2 h3 hd).put o.dst h4) h
    | skip m' =>
      rw [hf] at h hg
      obtain ⟨w', ι', h2, h3, h4⟩ := hg
      rcases h4 with ⟨hd, h1⟩ | ⟨x, d, hd, hx, h1⟩
      · unfold Oper.wp
        rw [h1, Oper.upon_skip]
        exact hk _ _ _ _ _ ((hA.on h2 h3 hd).put o.dst R.undef) h
      · unfold Oper.wp
        rw [h1, Oper.upon_defer]
        refine hk ι' _ _ _ _ ?_ h
        have hA' : Ahead P nt ι₀ m₀ w₀ n₀ ι' e { a with defers := d :: a.defers } m' w' :=
          { rep := h2, sim := hA.sim.mono h3.le, nt := hA.nt, defs := by rw [hd]; exact ⟨d, a.defers, rfl, hx, hA.defs.mono h3.le⟩, ext := hA.ext.trans h3, size := hA.size }
        exact hA'.put o.dst R.undef
    | panic v m' => rw [hf] at h; exact h.elim
  | call f xs =>
    obtain ⟨fv, args, h1, h2, h3⟩ := hg
    have h : CRPost P nt ι₀ m₀ w₀ n₀ Q (callV call (ev f e) (evs xs e) e m fun v m' => k (e.put (dstOf o.dst) v) m') := h
    obtain ⟨g, first, caps, hfe, h⟩ := fnK_post h
    rw [hfe] at h2
    simp only [R] at h2
    obtain ⟨x, y, rfl, hx, hy⟩ := h2
    cases hc : call g (app first (app (evs xs e) caps)) m with
    | fail => rw [hc] at h; exact h.elim
    | panic v m' => rw [hc] at h; exact h.elim
    | ret v m' =>
      rw [hc] at h
      have hrun : (execOp a.eval o).run P w = (callFunc g ((⟨x⟩ ++ args) ++ ⟨y⟩)).run P w := by
        rw [h1]; rfl
      have hargs : RL ι (app first (app (evs xs e) caps)) ((⟨x⟩ ++ args) ++ ⟨y⟩ : Array Value).toList := by
        rw [app_eq, app_eq]
        simp only [Array.toList_append]
        rw [List.append_assoc]
        exact hx.app (h3.app hy)
      unfold Oper.wp
      rw [hrun]
      rcases hcall g _ m ι w _ v m' hA.rep hargs hc with ⟨u, w', hr, ι', h4, h5, h6, h7⟩ | ⟨hr, hC⟩
      · rw [hr, Oper.upon_value]
        exact hk _ _ _ _ _ ((hA.on h4 h5 h7).put o.dst h6) h
      · rw [hr, Oper.upon_enter]
        refine Calls.mono hC fun en w' hen => ?_
        obtain ⟨u, rfl, ι', h4, h5, h6, h7⟩ := hen
        exact hk _ _ _ _ _ ((hA.on h4 h5 h7).put o.dst h6) h
/-! guards -/
theorem R_bool {ι : Emb} {v : AV} {b : Bool} (h : R ι v (.bool b)) : v = .bool b := by
  cases v with
  | bool c => simp only [R] at h; cases h; rfl
  | nil k => cases k <;> simp [R] at h
  | _ => simp [R] at h
theorem guard_val {ι : Emb} {v : AV} {u : Value} (hr : R ι v u) (want : Bool) : ((match (generalizing := false) u with | .bool b => some b | _ => none : Option Bool) == some want) = bK v false fun b => beqb b want := by
  cases u with
  | bool b =>
    have := R_bool hr
    subst this
    simp [bK, beqb_eq]
  | _ =>
    cases v with
    | bool b => simp [R] at hr
    | _ => rfl
theorem gdOf_ok {ops : List Oper} {o : Oper} {g : Option (Pa × Bool)} (h : gdOf nt ops o = some g) {ι : Emb} {e : ET} {a : Act} (hS : Sim ι e a.tmps) (hn : nt ≤ a.tmps.size) :
    Region.wanted o (yielded ops.toArray a.tmps) = wanted g e := by
  unfold gdOf at h
  split at h
  · rename_i hg
    cases h
    simp [Region.wanted, hg, wanted]
  · rename_i j want hg
    split at h
    · rename_i x hx
      split at h
      · rename_i d hd
        obtain ⟨h1, h2⟩ := brec (f := none) h (by simp)
        cases h2
        have h1 : d + 1 ≤ nt := Nat.le_of_ble_eq_true h1
        have hlt : d < a.tmps.size := Nat.lt_of_lt_of_le (Nat.lt_of_succ_le h1) hn
        have hr := hS.get d hlt
        rw [nth_eq] at hx
        have hy : yielded ops.toArray a.tmps j = match a.tmps.getD d undef with | .bool b => some b | _ => none := by
          unfold yielded
          have : ((ops.toArray[j]?).bind (·.dst)) = some d := by simp [hx, hd]
          rw [this]
          simp only [Option.bind_some]
          rw [Array.getElem?_eq_getElem hlt]
          simp only [Array.getD, hlt, dite_true]
          show _ = match a.tmps[d] with | .bool b => some b | _ => none
          cases a.tmps[d] <;> rfl
        simp only [Region.wanted, hg, hy]
        show _ = bK (e.get (pa d)) false fun b => beqb b want
        exact guard_val hr want
      · cases h
    · cases h
end
end Go.K
end
section
namespace Go.K
open Go (Op)
section
variable {P : Program} {nt : Nat} {call : CallFn} {ι₀ : Emb} {m₀ : Mem} {w₀ : World} {n₀ : Nat} {Q : Exit → Act → World → Prop}
theorem st_ok (hcall : CallOk P call) {ops : Array Oper} {o : Oper} {ι : Emb} {e : ET} {a : Act} {m : Mem} {w : World} (hA : Ahead P nt ι₀ m₀ w₀ n₀ ι e a m w) {k : ET → Mem → CR} {K : Act → World → Prop}
    (h : CRPost P nt ι₀ m₀ w₀ n₀ Q ((stOf (dec1 P nt ops.toList o)).run call e m k))
    (hk : ∀ ι' e' a' m' w', Ahead P nt ι₀ m₀ w₀ n₀ ι' e' a' m' w' → CRPost P nt ι₀ m₀ w₀ n₀ Q (k e' m') → K a' w') :
    if Region.wanted o (yielded ops a.tmps) then o.wp P a w K Q ∨ (o.asks P a w ∧ LetsOut Q) else K (a.put o.dst undef) w := by
  cases hg : gdOf nt ops.toList o with
  | none =>
    have e1 : dec1 P nt ops.toList o = ⟨.no, none, .bad⟩ := by unfold dec1; rw [hg]
    rw [e1] at h
    exact h.elim
  | some g =>
    have e1 : dec1 P nt ops.toList o = ⟨dstOf o.dst, g, decOp P nt o.op⟩ := by unfold dec1; rw [hg]
    rw [e1] at h
    have hw := gdOf_ok hg hA.sim hA.nt
    rw [Array.toArray_toList] at hw
    rw [hw]
    cases g with
    | none =>
      simp only [wanted, if_true]
      exact .inl (stIOp_ok hcall (decOp_good o) hA h hk)
    | some p =>
      obtain ⟨q, want⟩ := p
      have h : CRPost P nt ι₀ m₀ w₀ n₀ Q (Bool.rec (motive := fun _ => CR) (k (e.put (dstOf o.dst) .undef) m) ((stIOp (dstOf o.dst) (decOp P nt o.op)).run call e m k) (wanted (some (q, want)) e)) := h
      cases hwn : wanted (some (q, want)) e with
      | false =>
        rw [hwn] at h
        simp only [Bool.false_eq_true, if_false]
        exact hk _ _ _ _ _ (hA.put o.dst R.undef) h
      | true =>
        rw [hwn] at h
        simp only [if_true]
        exact .inl (stIOp_ok hcall (decOp_good o) hA h hk)
theorem seq_ok (hcall : CallOk P call) {ops : Array Oper} : ∀ (rest : List Oper) (i : Nat), (∀ j o, rest[j]? = some o → ops[i + j]? = some o) → ∀ {ι : Emb} {e : ET} {a : Act} {m : Mem} {w : World}, Ahead P nt ι₀ m₀ w₀ n₀ ι e a m w →
    CRPost P nt ι₀ m₀ w₀ n₀ Q (seqK call (mapL stOf (mapL (dec1 P nt ops.toList) rest)) e m) → wpOps P ops Q (List.range' i rest.length) a w
  | [], i, _, ι, e, a, m, w, hA, h => h ι a w hA
  | o :: rest, i, hi, ι, e, a, m, w, hA, h => by
    have ho := hi 0 o (by simp)
    simp only [Nat.add_zero] at ho
    have h' : CRPost P nt ι₀ m₀ w₀ n₀ Q ((stOf (dec1 P nt ops.toList o)).run call e m (seqK call (mapL stOf (mapL (dec1 P nt ops.toList) rest)))) := h
    have := st_ok hcall (ops := ops) (o := o) hA h' (K := wpOps P ops Q (List.range' (i + 1) rest.length)) (fun ι' e' a' m' w' hA' hp => seq_ok hcall rest (i + 1) (fun j o hj => by have := hi (j + 1) o (by simpa using hj); rw [show i + 1 + j = i + (j + 1) from by omega]; exact this) hA' hp)
    rw [List.length_cons, List.range'_succ]
    simp only [wpOps, ho]
    exact this
def CodeOk (P : Program) (nt : Nat) (f : CFn) (c : Code) : Prop :=
  ∀ (ι₀ : Emb) (m₀ : Mem) (w₀ : World) (n₀ : Nat) (Q : Exit → Act → World → Prop) (ι : Emb) (e : ET) (a : Act) (m : Mem) (w : World), Ahead P nt ι₀ m₀ w₀ n₀ ι e a m w → CRPost P nt ι₀ m₀ w₀ n₀ Q (f e m) → c.wp P Q a w
theorem region_ok (hcall : CallOk P call) (id : Nat) (ops : Array Oper) : CodeOk P nt (seqK call (mapL stOf (decR P nt ops.toList))) (.region id ops false) := by
  intro ι₀ m₀ w₀ n₀ Q ι e a m w hA h
  apply wp_region
  rw [List.range_eq_range']
  have := seq_ok hcall (ops := ops) ops.toList 0 (fun j o hj => by simpa using hj) hA h
  simpa using this
theorem cseq_ok {x y : Code} {f g : CFn} (hf : CodeOk P nt f x) (hg : CodeOk P nt g y) : CodeOk P nt (cSeq f g) (.seq x y) := by
  intro ι₀ m₀ w₀ n₀ Q ι e a m w hA h
  apply wp_seq
  have h : CRPost P nt ι₀ m₀ w₀ n₀ Q (CR.rec (motive := fun _ => CR) .fail g .exit .ret .panic (f e m)) := h
  refine hf ι₀ m₀ w₀ n₀ _ ι e a m w hA ?_
  cases hr : f e m with
  | fail => rw [hr] at h; exact h
  | norm e' m' => rw [hr] at h; exact fun ι' a' w' hA' => hg _ _ _ _ _ _ _ _ _ _ hA' h
  | exit i e' m' => rw [hr] at h; exact h
  | ret e' m' => rw [hr] at h; exact h
  | panic v e' m' => rw [hr] at h; exact h
theorem ccond_ok {c : Operand} {x y : Code} {f g : CFn} (hf : CodeOk P nt f x) (hg : CodeOk P nt g y) : CodeOk P nt (cCond (odOf P nt c) f g) (.cond c x y) := by
  intro ι₀ m₀ w₀ n₀ Q ι e a m w hA h
  obtain ⟨od, ho, h⟩ := crOpt (x := odOf P nt c) h
  have hv := ev_ok hA.rep hA.sim hA.nt ho
  have h : CRPost P nt ι₀ m₀ w₀ n₀ Q (bK (ev od e) .fail fun b => Bool.rec (motive := fun _ => CR) (g e m) (f e m) b) := h
  generalize ev od e = v at hv h
  cases v with
  | bool b =>
    simp only [R] at hv
    cases b with
    | true => exact wp_cond_true hv (hf _ _ _ _ _ _ _ _ _ _ hA h)
    | false => exact wp_cond_false hv (hg _ _ _ _ _ _ _ _ _ _ hA h)
  | _ => exact h.elim
theorem cblock_ok {id : Nat} {x : Code} {f : CFn} (hf : CodeOk P nt f x) : CodeOk P nt (cBlock id f) (.block id x) := by
  intro ι₀ m₀ w₀ n₀ Q ι e a m w hA h
  apply wp_block
  have h : CRPost P nt ι₀ m₀ w₀ n₀ Q (CR.rec (motive := fun _ => CR) .fail .norm (fun i e m => Bool.rec (motive := fun _ => CR) (.exit i e m) (.norm e m) (Nat.beq i id)) .ret .panic (f e m)) := h
  refine hf ι₀ m₀ w₀ n₀ _ ι e a m w hA ?_
  cases hr : f e m with
  | fail => rw [hr] at h; exact h
  | norm e' m' => rw [hr] at h; exact h
  | exit i e' m' =>
    rw [hr] at h
    intro ι' a' w' hA'
    simp only [Exit.inBlock]
    cases hb : Nat.beq i id with
    | true =>
      have := Nat.eq_of_beq_eq_true hb
      rw [if_pos this]
      simp only [hb] at h
      exact h ι' a' w' hA'
    | false =>
      have := Nat.ne_of_beq_eq_false hb
      rw [if_neg this]
      simp only [hb] at h
      exact h ι' a' w' hA'
  | ret e' m' => rw [hr] at h; exact h
  | panic v e' m' => rw [hr] at h; exact h
theorem cloop_ok {x : Code} {f : CFn} (hf : CodeOk P nt f x) (n : Nat) : CodeOk P nt (cLoop n f) (.loop x) := by
  intro ι₀ m₀ w₀ n₀ Q ι e a m w hA h b k cs
  have key : ∀ (n : Nat) (ι : Emb) (e : ET) (a : Act) (m : Mem) (w : World), Ahead P nt ι₀ m₀ w₀ n₀ ι e a m w → CRPost P nt ι₀ m₀ w₀ n₀ Q (cLoop n f e m) →
      ∃ e a' w', Q e a' w' ∧ Arrives P (lone (b.at a (.code x :: .inLoop x :: k)) cs w) b k cs e a' w' := by
    intro n
    induction n with
    | zero => intro ι e a m w _ h; exact h.elim
    | succ n ih =>
      intro ι e a m w hA h
      have h : CRPost P nt ι₀ m₀ w₀ n₀ Q (CR.rec (motive := fun _ => CR) .fail (cLoop n f) .exit .ret .panic (f e m)) := h
      have hw : x.wp P (Exit.then (fun a' w' => ∃ ι' e' m', Ahead P nt ι₀ m₀ w₀ n₀ ι' e' a' m' w' ∧ CRPost P nt ι₀ m₀ w₀ n₀ Q (cLoop n f e' m')) Q) a w := by
        refine hf ι₀ m₀ w₀ n₀ _ ι e a m w hA ?_
        cases hr : f e m with
        | fail => rw [hr] at h; exact h
        | norm e' m' => rw [hr] at h; exact fun ι' a' w' hA' => ⟨ι', e', m', hA', h⟩
        | exit i e' m' => rw [hr] at h; exact h
        | ret e' m' => rw [hr] at h; exact h
        | panic v e' m' => rw [hr] at h; exact h
      obtain ⟨ex, a₁, w₁, hq, harr⟩ := hw b (.inLoop x :: k) cs
      cases ex with
      | normal =>
        obtain ⟨ι', e', m', hA', h'⟩ := hq
        obtain ⟨e₂, a₂, w₂, hq₂, harr₂⟩ := ih ι' e' a₁ m' w₁ hA' h'
        exact ⟨e₂, a₂, w₂, hq₂, .of_steps (Steps.trans harr (.one step_inLoop)) harr₂⟩
      | exit id => exact ⟨_, a₁, w₁, hq, .pass (x := .inLoop x) rfl (fun _ _ => .inl (by simp)) harr⟩
      | goto l => exact ⟨_, a₁, w₁, hq, .pass (x := .inLoop x) rfl (fun _ _ => .inl (by simp)) harr⟩
      | ret => exact ⟨_, a₁, w₁, hq, .pass (x := .inLoop x) rfl (fun _ _ => .inl (by simp)) harr⟩
      | panic ch => exact ⟨_, a₁, w₁, hq, .pass (x := .inLoop x) rfl (fun _ _ => .inl (by simp)) harr⟩
      | outgrown => exact ⟨_, a₁, w₁, hq, .pass (x := .inLoop x) rfl (fun _ _ => .inl (by simp)) harr⟩
  obtain ⟨e', a', w', hq, harr⟩ := key n ι e a m w hA h
  exact ⟨e', a', w', hq, .of_steps (.one step_loop) harr⟩
/-- what is to be known of the regions that draw their order -/
def DrawOk (P : Program) (nt : Nat) (pl : Plan) (call : CallFn) (id : Nat) (ops : Array Oper) : Prop :=
  ∀ bs, pl id = some bs → CodeOk P nt (seqDraw call (zipD (decR P nt ops.toList) bs 0) (len ops.toList)) (.region id ops true)
def Code.draws : Code → List (Nat × Array Oper)
  | .region id ops true => [(id, ops)]
  | .seq a b => Code.draws a ++ Code.draws b
  | .cond _ a b => Code.draws a ++ Code.draws b
  | .block _ a => Code.draws a
  | .loop a => Code.draws a
  | _ => []
theorem code_ok (hcall : CallOk P call) (pl : Plan) (rounds : Nat) : ∀ (c : Code), (∀ p ∈ Code.draws c, DrawOk P nt pl call p.1 p.2) → CodeOk P nt (codeK P nt pl call rounds c) c
  | .skip, _ => fun _ _ _ _ _ _ _ _ _ _ hA h => wp_skip (h _ _ _ hA)
  | .region id ops false, _ => region_ok hcall id ops
  | .region id ops true, hd => by
    have hd := hd (id, ops) (by simp [Code.draws])
    intro ι₀ m₀ w₀ n₀ Q ι e a m w hA h
    have h : CRPost P nt ι₀ m₀ w₀ n₀ Q ((Option.rec (motive := fun _ => CFn) (fun _ _ => .fail) (fun bs => seqDraw call (zipD (decR P nt ops.toList) bs 0) (len ops.toList)) (pl id)) e m) := h
    cases hp : pl id with
    | none => rw [hp] at h; exact h.elim
    | some bs => rw [hp] at h; exact hd bs hp _ _ _ _ _ _ _ _ _ _ hA h
  | .seq x y, hd => cseq_ok (code_ok hcall pl rounds x fun p hp => hd p (by simp [Code.draws, hp])) (code_ok hcall pl rounds y fun p hp => hd p (by simp [Code.draws, hp]))
  | .cond c x y, hd => ccond_ok (code_ok hcall pl rounds x fun p hp => hd p (by simp [Code.draws, hp])) (code_ok hcall pl rounds y fun p hp => hd p (by simp [Code.draws, hp]))
  | .block id x, hd => cblock_ok (code_ok hcall pl rounds x fun p hp => hd p (by simp [Code.draws, hp]))
  | .loop x, hd => cloop_ok (code_ok hcall pl rounds x fun p hp => hd p (by simp [Code.draws, hp])) rounds
  | .rangeFunc .., _ => fun _ _ _ _ _ _ _ _ _ _ _ h => h.elim
  | .exit id, _ => fun _ _ _ _ _ _ _ _ _ _ hA h => wp_exit (h _ _ _ hA)
  | .scope x, _ => fun _ _ _ _ _ _ _ _ _ _ _ h => h.elim
  | .label l, _ => fun _ _ _ _ _ _ _ _ _ _ hA h => wp_label (h _ _ _ hA)
  | .goto l, _ => fun _ _ _ _ _ _ _ _ _ _ _ h => h.elim
  | .ret, _ => fun _ _ _ _ _ _ _ _ _ _ hA h => wp_ret (h _ _ _ hA)
  | .refuse s, _ => fun _ _ _ _ _ _ _ _ _ _ _ h => h.elim
end
end Go.K
end
section
namespace Go.K
open Go (Op)
section
variable {P : Program}
theorem full_get : ∀ (d : Nat) (p : Pa), (ET.full d).get p = .undef
  | 0, p => by cases p <;> rfl
  | d + 1, p => by
    have e : ET.full (d + 1) = .node (.tuple []) (ET.full d) (ET.full d) := rfl
    rw [e]
    cases p with
    | no => rfl
    | here => rfl
    | left p => exact full_get d p
    | right p => exact full_get d p
theorem argsE_ok : ∀ (vs : List AV) (i : Nat) (e : ET), (∀ t, t < i + vs.length → e.has (pa t) = true) → ∀ t, t < i + vs.length →
    (argsE vs i e).get (pa t) = (if i ≤ t then (vs[t - i]?).getD .undef else e.get (pa t)) ∧ (argsE vs i e).has (pa t) = true
  | [], i, e, h, t, ht => by
    have h1 : argsE [] i e = e := rfl
    rw [h1]
    simp only [List.length_nil, Nat.add_zero] at ht
    rw [if_neg (by omega)]
    exact ⟨rfl, h t (by simpa using ht)⟩
  | v :: vs, i, e, h, t, ht => by
    have h1 : argsE (v :: vs) i e = argsE vs (i + 1) (e.put (pa i) v) := rfl
    rw [h1]
    simp only [List.length_cons] at ht h
    obtain ⟨g1, g2⟩ := argsE_ok vs (i + 1) (e.put (pa i) v) (fun t ht => by rw [ET.has_put]; exact h t (by omega)) t (by omega)
    refine ⟨?_, g2⟩
    rw [g1]
    by_cases h2 : i + 1 ≤ t
    · rw [if_pos h2, if_pos (by omega)]
      rw [show t - i = (t - (i + 1)) + 1 from by omega]
      simp
    · rw [if_neg h2]
      by_cases h3 : t = i
      · subst h3
        rw [if_pos (Nat.le_refl _), ET.get_put_same (h t (by omega))]
        simp
      · rw [if_neg (by omega), ET.get_put_ne (fun e => h3 (pa_inj e).symm)]
theorem argsE_other : ∀ (vs : List AV) (i : Nat) (e : ET) (t : Nat), i + vs.length ≤ t → (argsE vs i e).get (pa t) = e.get (pa t) ∧ (argsE vs i e).has (pa t) = e.has (pa t)
  | [], i, e, t, h => ⟨rfl, rfl⟩
  | v :: vs, i, e, t, h => by
    have h1 : argsE (v :: vs) i e = argsE vs (i + 1) (e.put (pa i) v) := rfl
    rw [h1]
    simp only [List.length_cons] at h
    obtain ⟨g1, g2⟩ := argsE_other vs (i + 1) (e.put (pa i) v) t (by omega)
    rw [g1, g2, ET.has_put, ET.get_put_ne (fun e => by have := pa_inj e; omega)]
    exact ⟨rfl, rfl⟩
theorem start_sim {ι : Emb} {args : List AV} {vals : Array Value} {nt : Nat} (h : RL ι args vals.toList) (hn : args.length ≤ nt) :
    Sim ι (argsE args 0 (ET.full (Nat.succ (Nat.log2 (Nat.succ nt))))) (vals ++ Array.replicate (nt - vals.size) undef) ∧ (vals ++ Array.replicate (nt - vals.size) undef).size = nt := by
  have hlen : args.length = vals.size := by simpa using h.length
  have hsz : (vals ++ Array.replicate (nt - vals.size) undef).size = nt := by simp; omega
  have hhas : ∀ t, t < nt → (ET.full (Nat.succ (Nat.log2 (Nat.succ nt)))).has (pa t) = true := by
    intro t ht
    refine full_has _ _ _ (Nat.lt_succ_self t) ?_
    have := Nat.lt_log2_self (n := nt + 1)
    show t + 1 < 2 ^ (Nat.log2 (nt + 1) + 1)
    omega
  refine ⟨⟨fun t ht => ?_, fun t ht => ?_⟩, hsz⟩
  · rw [hsz] at ht
    by_cases h1 : t < args.length
    · obtain ⟨g1, _⟩ := argsE_ok args 0 (ET.full (Nat.succ (Nat.log2 (Nat.succ nt)))) (fun t ht => hhas t (by omega)) t (by omega)
      rw [g1, if_pos (Nat.zero_le _)]
      obtain ⟨y, hy, hR⟩ := h.get (i := t) (x := args[t]) (List.getElem?_eq_getElem h1)
      have e1 : (args[t - 0]?).getD AV.undef = args[t] := by simp [h1]
      rw [e1]
      have e2 : (vals ++ Array.replicate (nt - vals.size) undef).getD t undef = y := by
        rw [Array.getElem?_toList] at hy
        rw [Array.getD_eq_getD_getElem?, Array.getElem?_append_left (by omega), hy]
        rfl
      rw [e2]; exact hR
    · obtain ⟨g1, _⟩ := argsE_other args 0 (ET.full (Nat.succ (Nat.log2 (Nat.succ nt)))) t (by omega)
      rw [g1, full_get]
      have e2 : (vals ++ Array.replicate (nt - vals.size) undef).getD t undef = undef := by
        rw [Array.getD_eq_getD_getElem?, Array.getElem?_append_right (by omega)]
        simp only [Array.getElem?_replicate]
        split <;> rfl
      rw [e2]; exact R.undef
  · rw [hsz] at ht
    by_cases h1 : t < args.length
    · exact (argsE_ok args 0 _ (fun t ht => hhas t (by omega)) t (by omega)).2
    · rw [(argsE_other args 0 _ t (by omega)).2]; exact hhas t ht
/-! results -/
theorem res_ok {nt : Nat} {ι : Emb} {e : ET} {tmps : Array Value} {m : Mem} {w : World} (hR : Rep P ι m w) (hS : Sim ι e tmps) (hn : nt ≤ tmps.size) :
    ∀ (rvs : List ResultVar) (rs : List RV) (vs : List AV), optL (rvOf P nt) rvs = some rs → resK e m rs = some vs → ∃ us, (rvs.mapM (fun | .tmp t => pure (tmps.getD t undef) | .cell a t => do loadVar t (← asAddr (tmps.getD a undef)) : ResultVar → Sem Value)).run P w = .ok us w ∧ RL ι vs us
  | [], rs, vs, h1, h2 => by
    have := optL_nil h1; subst this
    have := optL_nil h2; subst this
    exact ⟨[], by simp, RL.nil⟩
  | r :: rvs, rs, vs, h1, h2 => by
    obtain ⟨q, qs, h3, h4, rfl⟩ := optL_cons h1
    obtain ⟨y, ys, h5, h6, rfl⟩ := optL_cons h2
    obtain ⟨us, h7, h8⟩ := res_ok hR hS hn rvs qs ys h4 h6
    have one : ∃ u, (match r with | .tmp t => pure (tmps.getD t undef) | .cell a t => do loadVar t (← asAddr (tmps.getD a undef)) : Sem Value).run P w = .ok u w ∧ R ι y u := by
      unfold rvOf at h3
      split at h3
      · rename_i t
        obtain ⟨g1, g2⟩ := brec (f := none) h3 (by simp)
        have g1 : t + 1 ≤ nt := Nat.le_of_ble_eq_true g1
        cases g2
        cases h5
        exact ⟨_, rfl, hS.get t (Nat.lt_of_lt_of_le (Nat.lt_of_succ_le g1) hn)⟩
      · rename_i t ty
        obtain ⟨g1, g2⟩ := brec (f := none) h3 (by simp)
        have g1 : t + 1 ≤ nt := Nat.le_of_ble_eq_true g1
        obtain ⟨n, hs, g3⟩ := orec (b := none) g2 (by simp)
        cases g3
        have h5 : rLoad (isAgg P ty) n m (e.get (pa t)) = some y := h5
        have hv := hS.get t (Nat.lt_of_lt_of_le (Nat.lt_of_succ_le g1) hn)
        unfold rLoad at h5
        obtain ⟨o, off, he, h5⟩ := pK_some h5
        obtain ⟨l, bty, ex, hg, h5⟩ := blk_rec h5 (by simp)
        rw [he] at hv
        simp only [R] at hv
        obtain ⟨L, hL, hv⟩ := hv
        obtain ⟨L', v, hL', g4, g5⟩ := hR.loadVar hg hs h5
        rw [hL] at hL'; cases hL'
        refine ⟨v, ?_, g5⟩
        dsimp only
        rw [hv]
        simp only [asAddr, Sem.run_bind, Sem.run_pure, Result.andThen_ok, g4]
    obtain ⟨u, hu, hRu⟩ := one
    refine ⟨u :: us, ?_, RL.cons hRu h8⟩
    rw [List.mapM_cons]
    simp only [Sem.run_bind]
    rw [hu]
    simp only [Result.andThen_ok, h7, Sem.run_pure]
theorem results_ok {nt : Nat} {ι : Emb} {e : ET} {tmps : Array Value} {m : Mem} {w : World} {fn : Func} {rs : List RV} {vs : List AV} (hR : Rep P ι m w) (hS : Sim ι e tmps) (hn : nt ≤ tmps.size)
    (h1 : optL (rvOf P nt) fn.results.toList = some rs) (h2 : resK e m rs = some vs) : ∃ u, (results fn tmps).run P w = .ok u w ∧ R ι (oneV vs) u := by
  obtain ⟨us, h3, h4⟩ := res_ok hR hS hn _ rs vs h1 h2
  have hr : (results fn tmps).run P w = .ok (if h : us.toArray.size = 1 then us.toArray[0] else .tuple us.toArray) w := by
    unfold results
    rw [Array.mapM_eq_mapM_toList]
    simp only [Sem.run_bind, Sem.run_map, Sem.run_pure]
    exact congrArg (fun r : Result (List Value) => (r.andThen fun a w' => Result.ok a.toArray w').andThen fun a w' => Result.ok (if h : a.size = 1 then a[0] else Value.tuple a) w') h3
  refine ⟨_, hr, ?_⟩
  have hl := h4.length
  unfold oneV
  split
  · obtain ⟨x, xs, rfl, hx, hxs⟩ := h4.uncons
    have : xs = [] := by simpa [RL] using hxs
    subst this
    simpa using hx
  · rename_i hne
    have : ¬ us.toArray.size = 1 := by
      intro h
      cases vs with
      | nil => simp at hl h; rw [← hl] at h; simp at h
      | cons v vs =>
        cases vs with
        | nil => exact hne v rfl
        | cons => simp at hl h; rw [h] at hl; simp at hl
    rw [dif_neg this]
    simp only [R]
    exact ⟨us, rfl, h4⟩
/-! what is deferred -/
/-- nothing of the elder has changed -/
def Grows (w w' : World) : Prop := w.heap.size ≤ w'.heap.size ∧ ∀ b, b < w.heap.size → w'.heap[b]? = w.heap[b]?
theorem Grows.refl (w : World) : Grows w w := ⟨Nat.le_refl _, fun _ _ => rfl⟩
theorem Grows.trans {a b c : World} (h : Grows a b) (k : Grows b c) : Grows a c := ⟨Nat.le_trans h.1 k.1, fun i hi => (k.2 i (Nat.lt_of_lt_of_le hi h.1)).trans (h.2 i hi)⟩
theorem Rep.grow {ι : Emb} {m : Mem} {w w' : World} (h : Rep P ι m w) (hg : Grows w w') : Rep P ι m w' where
  obj o x hx := by obtain ⟨L, h1, h2⟩ := h.obj o x hx; exact ⟨L, h1, h2.mono (Emb.le_refl _) (hg.2 _ h2.lt)⟩
  inj := h.inj
  gl := h.gl
  wr := h.wr
  fresh := h.fresh
  low o L hL := Nat.lt_of_lt_of_le (h.low o L hL) hg.1
  glob := h.glob
theorem Ext.grow {ι : Emb} {m : Mem} {w w' : World} (h1 : Grows w w') (h2 : w'.tape = w.tape) (h3 : w'.os = w.os) (h4 : w'.output = w.output) : Ext ι m w ι m w' where
  le := Emb.le_refl _
  old _ _ := rfl
  next := Nat.le_refl _
  ro := rfl
  size := h1.1
  tape := h2
  os := h3
  output := h4
  own o x L h1 h2 h3 := .inr ⟨o, x, L, h1, h2, h3, rfl⟩
  kept b hb _ := h1.2 b hb
  live _ x h _ := ⟨x, h⟩
def DnOk (P : Program) (dn : FuncId → Nat → Bool) : Prop := ∀ f n, dn f n = true → ∀ args, args.size = n → ∀ w, (callFunc f args).run P w = .ok (.enter f args) w ∧
  CallsD P f args .returning w (fun e u' w' => (∃ v, e = .returned v) ∧ u' = .returning ∧ Grows w w' ∧ w'.tape = w.tape ∧ w'.os = w.os ∧ w'.output = w.output)
theorem leaves_ok {dn : FuncId → Nat → Bool} (hdn : DnOk P dn) {fn : Func} {tmps : Array Value} {ι : Emb} : ∀ (d : List Df) (ds : List Deferred) (w : World), DefRL ι d ds → d.all (fun x => dn x.f x.args.length) = true → ∀ {K : Ending → World → Prop},
    (∀ w', Grows w w' → w'.tape = w.tape → w'.os = w.os → w'.output = w.output → ∃ v, (results fn tmps).run P w' = .ok v w' ∧ K (.returned v) w') → Leaves P fn tmps K ds .returning w
  | [], ds, w, h, _, K, hK => by
    have : ds = [] := h
    subst this
    exact hK w (Grows.refl _) rfl rfl rfl
  | x :: d, ds, w, h, ha, K, hK => by
    obtain ⟨q, r, rfl, hq, hr⟩ := h
    obtain ⟨args, cap, rfl, hrl⟩ := hq
    simp only [List.all_cons, Bool.and_eq_true] at ha
    obtain ⟨h1, h2⟩ := hdn x.f _ ha.1 (args ++ cap) (by have := hrl.length; rw [this]; simp) w
    refine leaves_cons (by simp) (f := x.f) (args := args ++ cap) h1 (h2.mono fun e u' w' he => ?_)
    obtain ⟨⟨v, rfl⟩, rfl, e1, e2, e3, e4⟩ := he
    show Leaves P fn tmps K r (settle .returning) w'
    exact leaves_ok hdn d r w' hr ha.2 fun w'' f1 f2 f3 f4 => hK w'' (e1.trans f1) (f2.trans e2) (f3.trans e3) (f4.trans e4)
/-! values that speak of old objects alone -/
theorem allB_mem {α : Type} {f : α → Bool} {l : List α} (h : allB f l = true) : ∀ x ∈ l, f x = true := by
  rw [allB_eq] at h
  exact List.all_eq_true.1 h
noncomputable def cleanN (n k : Nat) : AV → Bool := Nat.rec (motive := fun _ => AV → Bool) (fun _ => false) (fun _ ih => clean1 ih n) k
theorem clean_RL {ι ι' : Emb} {f : AV → Bool} (hf : ∀ v u, f v = true → R ι' v u → R ι v u) : ∀ (l : List AV) (us : List Value), (∀ x ∈ l, f x = true) → RL ι' l us → RL ι l us
  | [], us, _, h => h
  | x :: l, us, ha, h => by
    obtain ⟨u, us, rfl, h1, h2⟩ := h.uncons
    exact RL.cons (hf x u (ha x (by simp)) h1) (clean_RL hf l us (fun y hy => ha y (by simp [hy])) h2)
theorem clean_ok {ι ι' : Emb} {n : Nat} (hι : ∀ o, o < n → ι' o = ι o) : ∀ (k : Nat) (v : AV) (u : Value), cleanN n k v = true → R ι' v u → R ι v u
  | 0, v, u, h, _ => by cases h
  | k + 1, v, u, h, hr => by
    have h : clean1 (cleanN n k) n v = true := h
    have ih := clean_ok hι k
    have lt : ∀ o, Nat.ble (Nat.succ o) n = true → ι' o = ι o := fun o ho => hι o (Nat.le_of_ble_eq_true ho)
    cases v with
    | int _ _ => exact hr
    | bool _ => exact hr
    | str _ => exact hr
    | nil q => cases q <;> exact hr
    | ptr o i => simp only [R] at hr ⊢; rw [← lt o h]; exact hr
    | slice o i len c es => simp only [R] at hr ⊢; rw [← lt o h]; exact hr
    | map o => simp only [R] at hr ⊢; rw [← lt o h]; exact hr
    | agg l => simp only [R] at hr ⊢; obtain ⟨vs, e, hl⟩ := hr; exact ⟨vs, e, clean_RL ih l vs (allB_mem h) hl⟩
    | tuple l => simp only [R] at hr ⊢; obtain ⟨vs, e, hl⟩ := hr; exact ⟨vs, e, clean_RL ih l vs (allB_mem h) hl⟩
    | func f a b =>
      simp only [R] at hr ⊢
      obtain ⟨x, y, e, h1, h2⟩ := hr
      have h : (allB (cleanN n k) a && allB (cleanN n k) b) = true := h
      simp only [Bool.and_eq_true] at h
      exact ⟨x, y, e, clean_RL ih a x (allB_mem h.1) h1, clean_RL ih b y (allB_mem h.2) h2⟩
    | iface t a => simp only [R] at hr ⊢; obtain ⟨x, e, h1⟩ := hr; exact ⟨x, e, ih a x h h1⟩
theorem Rep.d {ι : Emb} {m : Mem} {w : World} (h : Rep P ι m w) (d : List Df) : Rep P ι ⟨m.next, m.ro, m.objs, d⟩ w where
  obj o x hx := h.obj o x (by rw [Mem.get_eq] at hx ⊢; exact hx)
  inj o p x y L K h1 h2 := h.inj o p x y L K (by rw [Mem.get_eq] at h1 ⊢; exact h1) (by rw [Mem.get_eq] at h2 ⊢; exact h2)
  gl g x hx := by
    have := h.gl g x hx
    rw [Mem.get_eq] at this ⊢; exact this
  wr o x L h1 h2 h3 := h.wr o x L (by rw [Mem.get_eq] at h1 ⊢; exact h1) h2 h3
  fresh := h.fresh
  low := h.low
  glob := h.glob
/-- nothing that stands may be written -/
theorem Rep.shut {ι : Emb} {m : Mem} {w : World} (h : Rep P ι m w) (d : List Df) : Rep P ι ⟨m.next, m.next, m.objs, d⟩ w where
  obj o x hx := h.obj o x (by rw [Mem.get_eq] at hx ⊢; exact hx)
  inj o p x y L K h1 h2 hL hK _ he := by
    rcases he with he | he
    · rw [h.fresh o he] at hL; cases hL
    · rw [h.fresh p he] at hK; cases hK
  wr o x L h1 he hL := by rw [h.fresh o he] at hL; cases hL
  gl g x hx := by
    have h1 := (h.gl g x hx).1
    refine ⟨by rw [Mem.get_eq] at h1 ⊢; exact h1, ?_⟩
    obtain ⟨L, hL, _⟩ := h.obj _ _ h1
    rcases Nat.lt_or_ge g m.next with e | e
    · exact e
    · rw [h.fresh g e] at hL; cases hL
  fresh := h.fresh
  low := h.low
  glob := h.glob
theorem Ext.d {ι ι' : Emb} {m m' : Mem} {w w' : World} (d d' : List Df) (h : Ext ι m w ι' m' w') : Ext ι ⟨m.next, m.ro, m.objs, d⟩ w ι' ⟨m'.next, m'.ro, m'.objs, d'⟩ w' where
  le := h.le
  old := h.old
  next := h.next
  ro := h.ro
  size := h.size
  tape := h.tape
  os := h.os
  output := h.output
  own o x L h1 h2 h3 := by
    rcases h.own o x L (by rw [Mem.get_eq] at h1 ⊢; exact h1) h2 h3 with e | ⟨p, y, K, h4, h5, h6, h7⟩
    · exact .inl e
    · exact .inr ⟨p, y, K, by rw [Mem.get_eq] at h4 ⊢; exact h4, h5, h6, h7⟩
  kept b hb hn := h.kept b hb fun o x L h1 h2 h3 => hn o x L (by rw [Mem.get_eq] at h1 ⊢; exact h1) h2 h3
  live o x h1 h2 := by
    obtain ⟨y, hy⟩ := h.live o x (by rw [Mem.get_eq] at h1 ⊢; exact h1) h2
    exact ⟨y, by rw [Mem.get_eq] at hy ⊢; exact hy⟩
/-! a call -/
def NoNG (P : Program) : Prop := ∀ (f : FuncId) (fn : Func), P.funcs[f]? = some fn → (fn.name == "runtime.NumGoroutine") = false
theorem enter_run (hng : NoNG P) {f : FuncId} {fn : Func} {c : Code} (hf : P.funcs[f]? = some fn) (hb : fn.body = some c) (args : Array Value) (w : World) : (callFunc f args).run P w = .ok (.enter f args) w := by
  have := hng f fn hf
  simp only [beq_eq_false_iff_ne, ne_eq] at this
  simp [callFunc, hf, hb, this]
/-- the frame's end: the body's outcome -/
theorem fin_ok {dn : FuncId → Nat → Bool} (hdn : DnOk P dn) {fn : Func} {nt : Nat} {rs : List RV} (hrs : optL (rvOf P nt) fn.results.toList = some rs) {x : CR} {ι₀ : Emb} {m₀ : Mem} {w₀ : World} {k p : AV → Mem → FR} {v : AV} {m' : Mem}
    (hk : finK dn rs x k p = .ret v m') (_hp : ∀ v m, p v m ≠ .ret v m') (hp' : ∀ u m u' m', p u m ≠ .ret u' m') (K : Ending → World → Prop)
    (hK : ∀ ι u y m'' w', Rep P ι m'' w' → Ext ι₀ m₀ w₀ ι m'' w' → R ι y u → k y m'' = .ret v m' → K (.returned u) w') : CRPost P nt ι₀ m₀ w₀ nt (bodyPostD P fn K) x := by
  have main : ∀ e m, endK dn rs e m k = .ret v m' → ∀ ι a w, Ahead P nt ι₀ m₀ w₀ nt ι e a m w → Leaves P fn a.tmps K a.defers .returning w := by
    intro e m he ι a w hA
    obtain ⟨n, r, t, d⟩ := m
    have he : Bool.rec (motive := fun _ => FR) .fail (Option.rec (motive := fun _ => FR) .fail (fun vs => k (oneV vs) ⟨n, r, t, []⟩) (resK e ⟨n, r, t, []⟩ rs)) (allB (fun x => Df.casesOn x fun f a => dn f (len a)) d) = .ret v m' := he
    obtain ⟨h1, h2⟩ := brec (f := FR.fail) he (by simp)
    obtain ⟨vs, h3, h4⟩ := orec (b := FR.fail) h2 (by simp)
    rw [allB_eq] at h1
    refine leaves_ok hdn d a.defers w hA.defs (by simpa [len_eq] using h1) fun w' e1 e2 e3 e4 => ?_
    have hR : Rep P ι ⟨n, r, t, []⟩ w' := (hA.rep.d []).grow e1
    obtain ⟨u, h5, h6⟩ := results_ok hR hA.sim hA.nt hrs h3
    refine ⟨u, h5, hK ι u _ _ w' hR ?_ h6 h4⟩
    have : Ext ι₀ m₀ w₀ ι ⟨n, r, t, []⟩ w := by
      have := hA.ext.d m₀.d []
      cases m₀
      exact this
    exact this.trans (Ext.grow e1 e2 e3 e4)
  cases x with
  | fail => cases hk
  | panic u e m =>
    obtain ⟨n, r, t, d⟩ := m
    cases d with
    | nil => exact absurd hk (hp' _ _ _ _)
    | cons => cases hk
  | norm e m => exact fun ι a w hA => main e m hk ι a w hA
  | exit i e m => cases hk
  | ret e m => exact fun ι a w hA => main e m hk ι a w hA
structure CfgOk (c : Cfg) : Prop where
  ng : NoNG c.P
  dn : DnOk c.P c.dn
  prim : ∀ f g, c.prim f = some g → ∀ (args : List AV) (v : AV) (m m' : Mem) (ι : Emb) (w : World) (vals : Array Value), Rep c.P ι m w → RL ι args vals.toList → g args m = some ⟨v, m'⟩ →
    CallsTo c.P f vals w (fun u w' => ∃ ι', Rep c.P ι' m' w' ∧ Ext ι m w ι' m' w' ∧ R ι' v u ∧ m'.d = m.d)
  draw : ∀ (f : FuncId) (fn : Func) (code : Code), c.P.funcs[f]? = some fn → fn.body = some code → ∀ call, CallOk c.P call → ∀ p ∈ Code.draws code, DrawOk c.P fn.ntmps (c.pl f) call p.1 p.2
theorem call_ok (c : Cfg) (hc : CfgOk c) : ∀ fuel, CallOk c.P (callK c fuel)
  | 0 => fun f args m ι w vals v m' _ _ h => by cases h
  | fuel + 1 => by
    intro f args m ι w vals v m' hR hargs h
    have ih := call_ok c hc fuel
    have h : Option.rec (motive := fun _ => FR) (bodyK c.P c.pl c.dn (callK c fuel) c.rounds (c.pure f) f args m) (fun r => VM.rec (motive := fun _ => FR) (fun v m' => .ret v m') r) (Option.rec (motive := fun _ => Option VM) none (fun g => g args m) (c.prim f)) = .ret v m' := h
    cases hp : (Option.rec (motive := fun _ => Option VM) none (fun g => g args m) (c.prim f) : Option VM) with
    | some r =>
      rw [hp] at h
      obtain ⟨y, k⟩ := r
      cases h
      obtain ⟨g, h1, h2⟩ := orec (b := none) hp (by simp)
      exact hc.prim f g h1 args v m m' ι w vals hR hargs h2
    | none =>
      rw [hp] at h
      have h : bodyK c.P c.pl c.dn (callK c fuel) c.rounds (c.pure f) f args m = .ret v m' := h
      unfold bodyK at h
      obtain ⟨fd, hfd, h⟩ := orec (b := FR.fail) h (by simp)
      unfold fdOf at hfd
      split at hfd
      · rename_i fn hfn
        split at hfd
        · rename_i code hb
          obtain ⟨rs, hrs, hfd⟩ := orec (b := none) hfd (by simp)
          cases hfd
          rw [nth_eq, Array.getElem?_toList] at hfn
          obtain ⟨n, r, t, d⟩ := m
          obtain ⟨h1, h⟩ := brec (f := FR.fail) h (by simp)
          have h1 := Nat.le_of_ble_eq_true h1
          rw [len_eq] at h1
          obtain ⟨hsim, hsz⟩ := start_sim hargs h1
          refine .inr ⟨enter_run hc.ng hfn hb vals w, ?_⟩
          have hcode := code_ok ih (c.pl f) c.rounds code (hc.draw f fn code hfn hb _ ih)
          cases hpure : c.pure f with
          | false =>
            rw [hpure] at h
            refine calls_of_wp_defers hfn hb ?_
            have hA : Ahead c.P fn.ntmps ι ⟨n, r, t, []⟩ w fn.ntmps ι (argsE args 0 (ET.full (Nat.succ (Nat.log2 (Nat.succ fn.ntmps))))) { tmps := vals ++ Array.replicate (fn.ntmps - vals.size) undef, defers := [] } ⟨n, r, t, []⟩ w :=
              { rep := hR.d [], sim := hsim, nt := by rw [hsz]; exact Nat.le_refl _, defs := rfl, ext := Ext.refl _ _ _, size := hsz }
            refine hcode _ _ _ _ _ _ _ _ _ _ hA ?_
            refine fin_ok hc.dn hrs h (fun _ _ => by simp) (fun _ _ _ _ => by simp) _ fun ι' u y m'' w' g1 g2 g3 g4 => ?_
            cases g4
            refine ⟨u, rfl, ι', ?_, ?_, g3, ?_⟩
            · obtain ⟨n', r', t', d'⟩ := m''
              exact g1.d d
            · obtain ⟨n', r', t', d'⟩ := m''
              exact g2.d d d
            · cases m''; rfl
          | true =>
            rw [hpure] at h
            refine calls_of_wp_defers hfn hb ?_
            have hA : Ahead c.P fn.ntmps ι ⟨n, n, t, []⟩ w fn.ntmps ι (argsE args 0 (ET.full (Nat.succ (Nat.log2 (Nat.succ fn.ntmps))))) { tmps := vals ++ Array.replicate (fn.ntmps - vals.size) undef, defers := [] } ⟨n, n, t, []⟩ w :=
              { rep := hR.shut [], sim := hsim, nt := by rw [hsz]; exact Nat.le_refl _, defs := rfl, ext := Ext.refl _ _ _, size := hsz }
            refine hcode _ _ _ _ _ _ _ _ _ _ hA ?_
            refine fin_ok hc.dn hrs h (fun _ _ => by simp) (fun _ _ _ _ => by simp) _ fun ι' u y m'' w' g1 g2 g3 g4 => ?_
            obtain ⟨g5, g6⟩ := brec (f := FR.fail) g4 (by simp)
            cases g6
            have hkept : ∀ b, b < w.heap.size → w'.heap[b]? = w.heap[b]? := by
              intro b hb
              refine g2.kept b hb fun o x L q1 q2 q3 => ?_
              have q2 : n ≤ o := q2
              have := hR.fresh o q2
              rw [this] at q3; cases q3
            refine ⟨u, rfl, ι, ?_, ?_, clean_ok (n := n) (fun o ho => g2.old o ho) 6 v u g5 g3, rfl⟩
            · exact { obj := fun o x hx => by
                        obtain ⟨L, hL, hH⟩ := hR.obj o x hx
                        exact ⟨L, hL, hH.mono (Emb.le_refl _) (hkept _ hH.lt)⟩
                      inj := hR.inj
                      gl := hR.gl
                      wr := hR.wr
                      fresh := hR.fresh
                      low := fun o L hL => Nat.lt_of_lt_of_le (hR.low o L hL) g2.size
                      glob := hR.glob }
            · exact { le := Emb.le_refl _, old := fun _ _ => rfl, next := Nat.le_refl _, ro := rfl, size := g2.size, tape := g2.tape, os := g2.os, output := g2.output
                      own := fun o x L q1 q2 q3 => .inr ⟨o, x, L, q1, q2, q3, rfl⟩
                      kept := fun b hb _ => hkept b hb
                      live := fun o x h1 _ => ⟨x, h1⟩ }
        · cases hfd
      · cases hfd
/-- a primitive on values alone -/
theorem prPure_ok {g : List AV → Option AV} {args : List AV} {v : AV} {m m' : Mem} (h : prPure g args m = some ⟨v, m'⟩) : g args = some v ∧ m' = m := by
  unfold prPure at h
  obtain ⟨u, h1, h2⟩ := orec (b := none) h (by simp)
  cases h2
  exact ⟨h1, rfl⟩
end
end Go.K
end
