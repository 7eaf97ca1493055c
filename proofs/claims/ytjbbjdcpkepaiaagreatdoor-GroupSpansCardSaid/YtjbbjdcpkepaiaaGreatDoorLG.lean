/- A part of a proof over an evaluator for programs of this form: KReg KEq KFrame KFrame2 KPrim. -/
import Derived.Test.YtjbbjdcpkepaiaaGreatDoorLF
import Derived.Lib.Bytealg
import Derived.Lib.Builder
set_option linter.all false
set_option autoImplicit false
section
/-! The check of the regions that draw their order, by the kernel. -/
namespace Go.K
open Go (Op)
theorem bit_eq (m i : Nat) : bit m i = m.testBit i := by
  unfold bit
  rw [Nat.testBit_eq_decide_div_mod_eq, Bool.eq_iff_iff]
  have h : Nat.land (Nat.shiftRight m i) 1 = m / 2 ^ i % 2 := by
    show (m >>> i) &&& 1 = _
    rw [Nat.and_one_is_mod, Nat.shiftRight_eq_div_pow]
  rw [h]
  simp
theorem bit_lor (a b i : Nat) : bit (Nat.lor a b) i = (bit a i || bit b i) := by
  rw [bit_eq, bit_eq, bit_eq]
  exact Nat.testBit_or a b i
theorem bit_pow (k i : Nat) : bit (Nat.pow 2 k) i = decide (k = i) := by
  rw [bit_eq]
  exact Nat.testBit_two_pow
theorem bit_zero (i : Nat) : bit 0 i = false := by rw [bit_eq]; simp
theorem maskOf_cons (acc : List Nat) (e : Edge) (es : List Edge) : maskOf acc (e :: es) = Bool.rec (motive := fun _ => Nat) (maskOf acc es) (Nat.lor (Nat.lor (Nat.pow 2 e.on) (Option.rec (motive := fun _ => Nat) 0 (fun b => b) (nth acc e.on))) (maskOf acc es)) (Region.binds .any e) := rfl
theorem maskOf_bit (acc : List Nat) : ∀ (es : List Edge), (∀ e ∈ es, Region.binds .any e = true → bit (maskOf acc es) e.on = true) ∧
    (∀ j, bit (maskOf acc es) j = true → ∃ e ∈ es, Region.binds .any e = true ∧ (e.on = j ∨ ∃ b', acc[e.on]? = some b' ∧ bit b' j = true))
  | [] => ⟨by simp, fun j h => by
      have : maskOf acc [] = 0 := rfl
      rw [this, bit_zero] at h; cases h⟩
  | e :: es => by
    obtain ⟨h1, h2⟩ := maskOf_bit acc es
    rw [maskOf_cons]
    cases hb : Region.binds .any e with
    | false =>
      refine ⟨fun f hf hbf => ?_, fun j hj => ?_⟩
      · rcases List.mem_cons.1 hf with rfl | hf
        · rw [hb] at hbf; cases hbf
        · exact h1 f hf hbf
      · obtain ⟨f, hf, q⟩ := h2 j hj
        exact ⟨f, by simp [hf], q⟩
    | true =>
      refine ⟨fun f hf hbf => ?_, fun j hj => ?_⟩
      · show bit (Nat.lor _ _) f.on = true
        rw [bit_lor, bit_lor, bit_pow]
        rcases List.mem_cons.1 hf with rfl | hf
        · simp
        · rw [h1 f hf hbf]; simp
      · have hj : bit (Nat.lor (Nat.lor (Nat.pow 2 e.on) (Option.rec (motive := fun _ => Nat) 0 (fun b => b) (nth acc e.on))) (maskOf acc es)) j = true := hj
        rw [bit_lor, bit_lor, bit_pow] at hj
        simp only [Bool.or_eq_true, decide_eq_true_eq] at hj
        rcases hj with (hj | hj) | hj
        · exact ⟨e, by simp, hb, .inl hj⟩
        · rw [nth_eq] at hj
          cases ha : acc[e.on]? with
          | none => rw [ha] at hj; rw [bit_zero] at hj; cases hj
          | some b => rw [ha] at hj; exact ⟨e, by simp, hb, .inr ⟨b, ha, hj⟩⟩
        · obtain ⟨f, hf, q⟩ := h2 j hj
          exact ⟨f, by simp [hf], q⟩
noncomputable def paEq (p : Pa) : Pa → Bool :=
  Pa.rec (motive := fun _ => Pa → Bool) (fun q => Pa.rec (motive := fun _ => Bool) true false (fun _ _ => false) (fun _ _ => false) q) (fun q => Pa.rec (motive := fun _ => Bool) false true (fun _ _ => false) (fun _ _ => false) q)
    (fun _ ih q => Pa.rec (motive := fun _ => Bool) false false (fun q _ => ih q) (fun _ _ => false) q) (fun _ ih q => Pa.rec (motive := fun _ => Bool) false false (fun _ _ => false) (fun q _ => ih q) q) p
theorem paEq_self : ∀ p, paEq p p = true
  | .no => rfl
  | .here => rfl
  | .left p => paEq_self p
  | .right p => paEq_self p
def isNo (p : Pa) : Bool := Pa.casesOn p true false (fun _ => false) (fun _ => false)
noncomputable def indepB (x y : DD) : Bool :=
  and (allB (fun p => not (paEq x.d.dst p)) y.d.pas) (and (allB (fun p => not (paEq y.d.dst p)) x.d.pas) (and (or (isNo x.d.dst) (not (paEq x.d.dst y.d.dst))) (not (and x.d.op.isHeavy y.d.op.isHeavy))))
theorem notMem_of {p : Pa} {l : List Pa} (h : allB (fun q => not (paEq p q)) l = true) : p ∉ l := by
  intro hm
  have := allB_mem h p hm
  rw [paEq_self] at this; cases this
theorem indepB_ok {x y : DD} (h : indepB x y = true) (h1 : bit x.b y.i = false) (h2 : x.i ≠ y.i) : Indep x y := by
  unfold indepB at h
  simp only [Bool.and_eq_true] at h
  obtain ⟨a1, a2, a3, a4⟩ := h
  refine ⟨notMem_of a1, notMem_of a2, ?_, by revert a4; cases (x.d.op.isHeavy && y.d.op.isHeavy) <;> simp, h1, h2⟩
  simp only [Bool.or_eq_true] at a3
  rcases a3 with a3 | a3
  · right
    generalize x.d.dst = p at a3
    cases p <;> first | rfl | cases a3
  · left
    intro e
    rw [e, paEq_self] at a3; cases a3
/-- one against all behind it -/
noncomputable def pairB (x : DD) (ys : List DD) : Bool := allB (fun y => and (not (bit x.b y.i)) (or (bit y.b x.i) (indepB x y))) ys
noncomputable def pairsB (xs : List DD) : Bool := List.rec (motive := fun _ => Bool) true (fun x ys ih => Bool.casesOn (pairB x ys) false ih) xs
noncomputable def rowB (n : Nat) (bs : List Nat) (i : Nat) (o : Oper) (b : Nat) : Bool :=
  and (Nat.beq b (maskOf bs o.after.toList)) (and (not (bit b i)) (allB (fun e : Edge => Bool.casesOn (Region.binds .any e) true (Nat.ble (Nat.succ e.on) n)) o.after.toList))
noncomputable def rowsB (n : Nat) (all : List Nat) (os : List Oper) : List Nat → Nat → Bool :=
  List.rec (motive := fun _ => List Nat → Nat → Bool) (fun bs _ => List.casesOn bs true fun _ _ => false) (fun o _ ih bs i => List.casesOn bs false fun b bs => Bool.casesOn (rowB n all i o b) false (ih bs (Nat.succ i))) os
noncomputable def regB (P : Program) (nt : Nat) (ops : Array Oper) (bs : List Nat) : Bool :=
  and (rowsB (len ops.toList) bs ops.toList bs 0) (pairsB (zipD (decR P nt ops.toList) bs 0))
theorem rowsB_ok {n : Nat} {all : List Nat} : ∀ (os : List Oper) (bs : List Nat) (k : Nat), rowsB n all os bs k = true → bs.length = os.length ∧ ∀ (i : Nat) (o : Oper) (b : Nat), os[i]? = some o → bs[i]? = some b → rowB n all (k + i) o b = true
  | [], [], k, _ => ⟨rfl, by simp⟩
  | [], _ :: _, k, h => by cases h
  | _ :: _, [], k, h => by cases h
  | o :: os, b :: bs, k, h => by
    have h' : Bool.rec (motive := fun _ => Bool) false (rowsB n all os bs (Nat.succ k)) (rowB n all k o b) = true := h
    obtain ⟨h1, h2⟩ := brec (f := false) h' (by simp)
    obtain ⟨h3, h4⟩ := rowsB_ok os bs _ h2
    refine ⟨by simp [h3], fun i o' b' q1 q2 => ?_⟩
    cases i with
    | zero => simp at q1 q2; subst q1; subst q2; exact h1
    | succ i =>
      have := h4 i o' b' (by simpa using q1) (by simpa using q2)
      rw [show k + (i + 1) = Nat.succ k + i from by simp only [Nat.succ_eq_add_one]; omega]
      exact this
theorem pairsB_ok : ∀ (xs : List DD), pairsB xs = true → ∀ (i j : Nat) (x y : DD), i < j → xs[i]? = some x → xs[j]? = some y → bit x.b y.i = false ∧ (bit y.b x.i = true ∨ indepB x y = true)
  | [], _, i, j, x, y, _, h, _ => by simp at h
  | z :: zs, h, i, j, x, y, hij, hx, hy => by
    have h' : Bool.rec (motive := fun _ => Bool) false (pairsB zs) (pairB z zs) = true := h
    obtain ⟨h1, h2⟩ := brec (f := false) h' (by simp)
    cases j with
    | zero => omega
    | succ j =>
      cases i with
      | zero =>
        simp at hx; subst hx
        have := allB_mem h1 y (List.mem_of_getElem? (by simpa using hy))
        simp only [Bool.and_eq_true, Bool.or_eq_true] at this
        exact ⟨by simpa using this.1, this.2⟩
      | succ i => exact pairsB_ok zs h2 i j x y (by omega) (by simpa using hx) (by simpa using hy)
theorem regB_ok {P : Program} {nt : Nat} {ops : Array Oper} {bs : List Nat} (h : regB P nt ops bs = true) : RegOk P nt ops bs := by
  unfold regB at h
  simp only [Bool.and_eq_true] at h
  obtain ⟨h1, h2⟩ := h
  obtain ⟨h3, h4⟩ := rowsB_ok _ _ _ h1
  have hl : bs.length = ops.size := by simpa using h3
  have row : ∀ (i : Nat) (o : Oper) (b : Nat), ops[i]? = some o → bs[i]? = some b → b = maskOf bs o.after.toList ∧ bit b i = false ∧ ∀ e ∈ o.after, Region.binds .any e = true → e.on < ops.size := by
    intro i o b ho hb
    have := h4 i o b (by simpa using ho) hb
    unfold rowB at this
    simp only [Bool.and_eq_true] at this
    obtain ⟨g1, g2, g3⟩ := this
    refine ⟨Nat.eq_of_beq_eq_true g1, by simpa using g2, fun e he hbd => ?_⟩
    have := allB_mem g3 e (by simpa using he)
    rw [hbd] at this
    have := Nat.le_of_ble_eq_true this
    rw [len_eq, Array.length_toList] at this
    exact this
  refine ⟨hl, fun i o b ho hb e he hbd => ?_, fun i o b ho hb j hj => ?_, fun i b hb => ?_, fun i j x y hij hx hy => ?_⟩
  · obtain ⟨g1, _, g3⟩ := row i o b ho hb
    refine ⟨g3 e he hbd, ?_⟩
    rw [g1]
    exact (maskOf_bit bs o.after.toList).1 e (by simpa using he) hbd
  · obtain ⟨g1, _, _⟩ := row i o b ho hb
    rw [g1] at hj
    obtain ⟨e, he, q⟩ := (maskOf_bit bs o.after.toList).2 j hj
    exact ⟨e, by simpa using he, q⟩
  · have hi : i < ops.size := by have := (List.getElem?_eq_some_iff.1 hb).1; omega
    exact (row i ops[i] b (Array.getElem?_eq_getElem hi) hb).2.1
  · obtain ⟨g1, g2⟩ := pairsB_ok _ h2 i j x y hij hx hy
    refine ⟨g1, fun hb => ?_⟩
    rcases g2 with g2 | g2
    · rw [hb] at g2; cases g2
    · have hlen : (zipD (decR P nt ops.toList) bs 0).length = ops.size := by
        rw [zip_length _ _ _ (by rw [hl]; unfold decR; rw [mapL_eq]; simp)]
        unfold decR; rw [mapL_eq]; simp
      have idx : ∀ (k : Nat) (z : DD), (zipD (decR P nt ops.toList) bs 0)[k]? = some z → z.i = k := by
        intro k z hz
        have hk : k < ops.size := by rw [← hlen]; exact (List.getElem?_eq_some_iff.1 hz).1
        obtain ⟨o, b, _, _, hxs⟩ := xs_get (P := P) (nt := nt) hl hk
        rw [hz] at hxs
        rw [Option.some.inj hxs]
      exact indepB_ok g2 g1 (by rw [idx i x hx, idx j y hy]; omega)
/-- all drawn regions of a text, by their plan -/
noncomputable def codeB (P : Program) (nt : Nat) (pl : Plan) (c : Code) : Bool :=
  Code.rec (motive := fun _ => Bool) true (fun id ops draw => Bool.casesOn draw true (Option.casesOn (pl id) true fun bs => regB P nt ops bs)) (fun _ _ a b => and a b) (fun _ _ _ a b => and a b) (fun _ _ a => a) (fun _ a => a)
    (fun _ _ _ _ _ _ => true) (fun _ => true) (fun _ _ => true) (fun _ => true) (fun _ => true) true (fun _ => true) c
theorem codeB_ok {P : Program} {nt : Nat} {pl : Plan} (hm : P.follows .mixedOrders = true) {call : CallFn} (hcall : CallOk P call) : ∀ (c : Code), codeB P nt pl c = true → ∀ p ∈ Code.draws c, DrawOk P nt pl call p.1 p.2
  | .skip, _ => by simp [Code.draws]
  | .region id ops false, _ => by simp [Code.draws]
  | .region id ops true, h => by
    intro p hp bs hbs
    simp only [Code.draws, List.mem_singleton] at hp
    subst hp
    have h : Option.rec (motive := fun _ => Bool) true (fun bs => regB P nt ops bs) (pl id) = true := h
    rw [hbs] at h
    exact draw_ok hm hcall id (regB_ok h)
  | .seq x y, h => by
    have h : (codeB P nt pl x && codeB P nt pl y) = true := h
    simp only [Bool.and_eq_true] at h
    intro p hp
    simp only [Code.draws, List.mem_append] at hp
    exact hp.elim (codeB_ok hm hcall x h.1 p) (codeB_ok hm hcall y h.2 p)
  | .cond c x y, h => by
    have h : (codeB P nt pl x && codeB P nt pl y) = true := h
    simp only [Bool.and_eq_true] at h
    intro p hp
    simp only [Code.draws, List.mem_append] at hp
    exact hp.elim (codeB_ok hm hcall x h.1 p) (codeB_ok hm hcall y h.2 p)
  | .block id x, h => fun p hp => codeB_ok hm hcall x h p (by simpa [Code.draws] using hp)
  | .loop x, h => fun p hp => codeB_ok hm hcall x h p (by simpa [Code.draws] using hp)
  | .rangeFunc .., _ => by simp [Code.draws]
  | .exit id, _ => by simp [Code.draws]
  | .scope x, _ => by simp [Code.draws]
  | .label l, _ => by simp [Code.draws]
  | .goto l, _ => by simp [Code.draws]
  | .ret, _ => by simp [Code.draws]
  | .refuse s, _ => by simp [Code.draws]
/-- all functions of a program -/
noncomputable def funcsB (P : Program) (pl : FuncId → Plan) (fs : List Func) : Nat → Bool :=
  List.rec (motive := fun _ => Nat → Bool) (fun _ => true) (fun fn _ ih f => Bool.casesOn (Option.casesOn fn.body true fun c => codeB P fn.ntmps (pl f) c) false (ih (Nat.succ f))) fs
theorem funcsB_ok {P : Program} {pl : FuncId → Plan} : ∀ (fs : List Func) (k : Nat), funcsB P pl fs k = true → ∀ (i : Nat) (fn : Func) (c : Code), fs[i]? = some fn → fn.body = some c → codeB P fn.ntmps (pl (k + i)) c = true
  | [], k, _, i, fn, c, h, _ => by simp at h
  | g :: fs, k, h, i, fn, c, hi, hb => by
    have h' : Bool.rec (motive := fun _ => Bool) false (funcsB P pl fs (Nat.succ k)) (Option.rec (motive := fun _ => Bool) true (fun c => codeB P g.ntmps (pl k) c) g.body) = true := h
    obtain ⟨h1, h2⟩ := brec (f := false) h' (by simp)
    cases i with
    | zero =>
      simp at hi; subst hi
      rw [hb] at h1
      exact h1
    | succ i =>
      have := funcsB_ok fs _ h2 i fn c (by simpa using hi) hb
      rw [show k + (i + 1) = Nat.succ k + i from by simp only [Nat.succ_eq_add_one]; omega]
      exact this
theorem draws_ok {P : Program} {pl : FuncId → Plan} (hm : P.follows .mixedOrders = true) (h : funcsB P pl P.funcs.toList 0 = true) :
    ∀ (f : FuncId) (fn : Func) (code : Code), P.funcs[f]? = some fn → fn.body = some code → ∀ call, CallOk P call → ∀ p ∈ Code.draws code, DrawOk P fn.ntmps (pl f) call p.1 p.2 := by
  intro f fn code hf hb call hcall
  have := funcsB_ok _ 0 h f fn code (by simpa using hf) hb
  rw [Nat.zero_add] at this
  exact codeB_ok hm hcall code this
end Go.K
end
section
/-! Equality of memories, and oracles: results of runs that were proved elsewhere. -/
namespace Go.K
open Go (Op)
noncomputable def eqEs (a : List (List UInt8 × AV)) : List (List UInt8 × AV) → Bool :=
  List.rec (motive := fun _ => List (List UInt8 × AV) → Bool) (fun b => List.casesOn b true fun _ _ => false) (fun p _ ih b => List.casesOn b false fun q qs => Bool.casesOn (and (eqB p.1 q.1) (beqV 12 p.2 q.2)) false (ih qs)) a
noncomputable def eqO (a b : AObj) : Bool :=
  AObj.casesOn a (fun l t e => AObj.casesOn b (fun l' t' e' => and (Nat.beq t t') (and (beqb e e') (beqL (beqV 12) l l'))) (fun _ => false) (fun _ _ => false))
    (fun es => AObj.casesOn b (fun _ _ _ => false) (fun es' => eqEs es es') (fun _ _ => false))
    (fun s i => AObj.casesOn b (fun _ _ _ => false) (fun _ => false) (fun s' i' => and (eqB s s') (Nat.beq i i')))
noncomputable def eqOO (a b : Option AObj) : Bool := Option.casesOn a (Option.casesOn b true fun _ => false) fun x => Option.casesOn b false fun y => eqO x y
noncomputable def eqMT (a : MT) : MT → Bool :=
  MT.rec (motive := fun _ => MT → Bool) (fun b => MT.casesOn b true fun _ _ _ => false) (fun v _ _ il ir b => MT.casesOn b false fun v' l' r' => Bool.casesOn (eqOO v v') false (Bool.casesOn (il l') false (ir r'))) a
noncomputable def eqM (a b : Mem) : Bool :=
  Mem.casesOn a fun n r t d => Mem.casesOn b fun n' r' t' d' => and (and (Nat.beq n n') (Nat.beq r r')) (and (List.casesOn d (List.casesOn d' true fun _ _ => false) fun _ _ => false) (eqMT t t'))
theorem eqEs_eq : ∀ (a b : List (List UInt8 × AV)), eqEs a b = true → a = b
  | [], [], _ => rfl
  | [], _ :: _, h => by cases h
  | _ :: _, [], h => by cases h
  | (k, v) :: a, (k', v') :: b, h => by
    have h' : Bool.rec (motive := fun _ => Bool) false (eqEs a b) (and (eqB k k') (beqV 12 v v')) = true := h
    obtain ⟨h1, h2⟩ := brec (f := false) h' (by simp)
    simp only [Bool.and_eq_true] at h1
    have e1 : k = k' := by have := h1.1; rw [eqB_eq] at this; simpa using this
    rw [e1, beqV_eq 12 v v' h1.2, eqEs_eq a b h2]
theorem eqO_eq {a b : AObj} (h : eqO a b = true) : a = b := by
  cases a with
  | blk l t e =>
    cases b with
    | blk l' t' e' =>
      have h : (and (Nat.beq t t') (and (beqb e e') (beqL (beqV 12) l l'))) = true := h
      simp only [Bool.and_eq_true] at h
      have e2 : e = e' := by have := h.2.1; rw [beqb_eq] at this; simpa using this
      rw [Nat.eq_of_beq_eq_true h.1, e2, beqL_eq (beqV_eq 12) l l' h.2.2]
    | map es => cases h
    | iter s i => cases h
  | map es =>
    cases b with
    | blk l t e => cases h
    | map es' => rw [eqEs_eq es es' h]
    | iter s i => cases h
  | iter s i =>
    cases b with
    | blk l t e => cases h
    | map es => cases h
    | iter s' i' =>
      have h : (and (eqB s s') (Nat.beq i i')) = true := h
      simp only [Bool.and_eq_true] at h
      have e1 : s = s' := by have := h.1; rw [eqB_eq] at this; simpa using this
      rw [e1, Nat.eq_of_beq_eq_true h.2]
theorem eqOO_eq {a b : Option AObj} (h : eqOO a b = true) : a = b := by
  cases a with
  | none => cases b with
    | none => rfl
    | some y => cases h
  | some x => cases b with
    | none => cases h
    | some y => rw [eqO_eq (a := x) (b := y) h]
theorem eqMT_eq' : ∀ (a b : MT), eqMT a b = true → a = b
  | .nil, .nil, _ => rfl
  | .nil, .node .., h => by cases h
  | .node .., .nil, h => by cases h
  | .node v l r, .node v' l' r', h => by
    have h' : Bool.rec (motive := fun _ => Bool) false (Bool.rec (motive := fun _ => Bool) false (eqMT r r') (eqMT l l')) (eqOO v v') = true := h
    obtain ⟨h1, h2⟩ := brec (f := false) h' (by simp)
    obtain ⟨h3, h4⟩ := brec (f := false) h2 (by simp)
    rw [eqOO_eq h1, eqMT_eq' l l' h3, eqMT_eq' r r' h4]
theorem eqM_eq {a b : Mem} (h : eqM a b = true) : a = b := by
  obtain ⟨n, r, t, d⟩ := a
  obtain ⟨n', r', t', d'⟩ := b
  have h : (and (and (Nat.beq n n') (Nat.beq r r')) (and (List.rec (motive := fun _ => Bool) (List.rec (motive := fun _ => Bool) true (fun _ _ _ => false) d') (fun _ _ _ => false) d) (eqMT t t'))) = true := h
  simp only [Bool.and_eq_true] at h
  obtain ⟨⟨h1, h2⟩, h3, h4⟩ := h
  have hd : d = d' := by
    cases d with
    | nil => cases d' with
      | nil => rfl
      | cons => cases h3
    | cons => cases h3
  rw [Nat.eq_of_beq_eq_true h1, Nat.eq_of_beq_eq_true h2, hd, eqMT_eq' t t' h4]
end Go.K
end
section
/-! A run from a small memory, laid into a greater one. -/
namespace Go.K
open Go (Op)
/-! ### other numbers for objects -/
noncomputable def ren1 (ρ : Nat → Option Nat) (rec : AV → Option AV) (v : AV) : Option AV :=
  match v with
  | .int k n => some (.int k n)
  | .bool b => some (.bool b)
  | .str l => some (.str l)
  | .nil k => some (.nil k)
  | .ptr o off => Option.casesOn (ρ o) none fun p => some (.ptr p off)
  | .slice o off n c es => Option.casesOn (ρ o) none fun p => some (.slice p off n c es)
  | .map o => Option.casesOn (ρ o) none fun p => some (.map p)
  | .agg l => Option.casesOn (optL rec l) none fun k => some (.agg k)
  | .tuple l => Option.casesOn (optL rec l) none fun k => some (.tuple k)
  | .func f a b => Option.casesOn (optL rec a) none fun x => Option.casesOn (optL rec b) none fun y => some (.func f x y)
  | .iface t v => Option.casesOn (rec v) none fun x => some (.iface t x)
noncomputable def renV (ρ : Nat → Option Nat) (k : Nat) : AV → Option AV := Nat.rec (motive := fun _ => AV → Option AV) (fun _ => none) (fun _ ih v => ren1 ρ ih v) k
noncomputable def renE (ρ : Nat → Option Nat) (k : Nat) (p : List UInt8 × AV) : Option (List UInt8 × AV) := Prod.casesOn p fun s v => Option.casesOn (renV ρ k v) none fun x => some (s, x)
noncomputable def renO (ρ : Nat → Option Nat) (k : Nat) (x : AObj) : Option AObj :=
  AObj.casesOn x (fun l t e => Option.casesOn (optL (renV ρ k) l) none fun y => some (.blk y t e)) (fun es => Option.casesOn (optL (renE ρ k) es) none fun y => some (.map y)) (fun s i => some (.iter s i))
theorem renL_ok {ρ : Nat → Option Nat} {rec : AV → Option AV} {ι ι' : Emb} (hrec : ∀ v v' u, rec v = some v' → R ι v u → R ι' v' u) : ∀ (l l' : List AV) (us : List Value), optL rec l = some l' → RL ι l us → RL ι' l' us
  | [], l', us, h, hr => by cases optL_nil h; simp only [RL] at hr ⊢; exact hr
  | x :: l, l', us, h, hr => by
    obtain ⟨y, ys, h1, h2, rfl⟩ := optL_cons h
    obtain ⟨u, us, rfl, h3, h4⟩ := hr.uncons
    exact RL.cons (hrec x y u h1 h3) (renL_ok (ρ := ρ) hrec l ys us h2 h4)
theorem renV_ok {ρ : Nat → Option Nat} {ι ι' : Emb} (hρ : ∀ o p L, ρ o = some p → ι o = some L → ι' p = some L) : ∀ (k : Nat) (v v' : AV) (u : Value), renV ρ k v = some v' → R ι v u → R ι' v' u
  | 0, v, v', u, h, _ => by cases h
  | k + 1, v, v', u, h, hr => by
    have h : ren1 ρ (renV ρ k) v = some v' := h
    have ih := renV_ok hρ k
    cases v with
    | int _ _ => cases h; exact hr
    | bool _ => cases h; exact hr
    | str _ => cases h; exact hr
    | nil q => cases h; cases q <;> exact hr
    | ptr o i =>
      obtain ⟨p, h1, h2⟩ := orec (b := none) h (by simp); cases h2
      simp only [R] at hr ⊢; obtain ⟨L, e, hv⟩ := hr; exact ⟨L, hρ o p L h1 e, hv⟩
    | slice o i len c es =>
      obtain ⟨p, h1, h2⟩ := orec (b := none) h (by simp); cases h2
      simp only [R] at hr ⊢; obtain ⟨L, cc, e, hv⟩ := hr; exact ⟨L, cc, hρ o p L h1 e, hv⟩
    | map o =>
      obtain ⟨p, h1, h2⟩ := orec (b := none) h (by simp); cases h2
      simp only [R] at hr ⊢; obtain ⟨L, e, hv⟩ := hr; exact ⟨L, hρ o p L h1 e, hv⟩
    | agg l =>
      obtain ⟨y, h1, h2⟩ := orec (b := none) h (by simp); cases h2
      simp only [R] at hr ⊢; obtain ⟨us, e, hl⟩ := hr; exact ⟨us, e, renL_ok (ρ := ρ) (fun v v' u => ih v v' u) _ _ us h1 hl⟩
    | tuple l =>
      obtain ⟨y, h1, h2⟩ := orec (b := none) h (by simp); cases h2
      simp only [R] at hr ⊢; obtain ⟨us, e, hl⟩ := hr; exact ⟨us, e, renL_ok (ρ := ρ) (fun v v' u => ih v v' u) _ _ us h1 hl⟩
    | func f a b =>
      obtain ⟨x, h1, h2⟩ := orec (b := none) h (by simp)
      obtain ⟨y, h3, h4⟩ := orec (b := none) h2 (by simp); cases h4
      simp only [R] at hr ⊢; obtain ⟨us, ws, e, ha, hb⟩ := hr
      exact ⟨us, ws, e, renL_ok (ρ := ρ) (fun v v' u => ih v v' u) _ _ us h1 ha, renL_ok (ρ := ρ) (fun v v' u => ih v v' u) _ _ ws h3 hb⟩
    | iface t a =>
      obtain ⟨x, h1, h2⟩ := orec (b := none) h (by simp); cases h2
      simp only [R] at hr ⊢; obtain ⟨u', e, ha⟩ := hr; exact ⟨u', e, ih a x u' h1 ha⟩
theorem renM_ok {ρ : Nat → Option Nat} {ι ι' : Emb} (hρ : ∀ o p L, ρ o = some p → ι o = some L → ι' p = some L) (k : Nat) : ∀ (ps qs : List (List UInt8 × AV)) (es : List MapEntry), optL (renE ρ k) ps = some qs → MapR ι ps es → MapR ι' qs es
  | [], qs, es, h, hr => by cases optL_nil h; exact hr
  | p :: ps, qs, es, h, ⟨e, r, h1, h2, h3, h4⟩ => by
    obtain ⟨y, ys, g1, g2, rfl⟩ := optL_cons h
    obtain ⟨s, v⟩ := p
    obtain ⟨x, g3, g4⟩ := orec (b := none) (show Option.rec (motive := fun _ => Option (List UInt8 × AV)) none (fun x => some (s, x)) (renV ρ k v) = some y from g1) (by simp)
    cases g4
    exact ⟨e, r, h1, h2, renV_ok hρ k v x _ g3 h3, renM_ok hρ k ps ys r g2 h4⟩
theorem renO_ok {ρ : Nat → Option Nat} {ι ι' : Emb} (hρ : ∀ o p L, ρ o = some p → ι o = some L → ι' p = some L) (k : Nat) {x y : AObj} {L : Loc} {w : World} (h : renO ρ k x = some y) (hx : Holds ι x L w) : Holds ι' y L w := by
  cases x with
  | blk l ty ex =>
    obtain ⟨z, h1, h2⟩ := orec (b := none) (show Option.rec (motive := fun _ => Option AObj) none (fun z => some (.blk z ty ex)) (optL (renV ρ k) l) = some y from h) (by simp)
    cases h2
    obtain ⟨c, t, fr, e1, e2, e3, e4, e5, e6, e7⟩ := hx
    have hlen := (optL_some h1).1
    refine ⟨c, t, fr, e1, e2, by omega, ?_, e5, e6, fun he => by rw [← hlen]; exact e7 he⟩
    rw [← hlen]
    exact renL_ok (ρ := ρ) (fun v v' u => renV_ok hρ k v v' u) _ _ _ h1 e4
  | map es =>
    obtain ⟨z, h1, h2⟩ := orec (b := none) (show Option.rec (motive := fun _ => Option AObj) none (fun z => some (.map z)) (optL (renE ρ k) es) = some y from h) (by simp)
    cases h2
    obtain ⟨ents, cl, e1, e2⟩ := hx
    exact ⟨ents, cl, e1, renM_ok hρ k _ _ _ h1 e2⟩
  | iter s i => cases h; exact hx
/-! ### what a run came to, its numbers from g on -/
structure Ent where
  v : AV
  xs : List AObj
/-- the number of those that are kept -/
noncomputable def pos (o : Nat) (l : List Nat) : Nat → Option Nat := List.rec (motive := fun _ => Nat → Option Nat) (fun _ => none) (fun x _ ih n => Bool.casesOn (Nat.beq x o) (ih (Nat.succ n)) (some n)) l
noncomputable def rhoK (g : Nat) (keep : List Nat) (o : Nat) : Option Nat := Bool.casesOn (Nat.ble g o) (some o) (pos o keep g)
noncomputable def rhoS (g n : Nat) (o : Nat) : Option Nat := some (Bool.casesOn (Nat.ble g o) o (Nat.add (Nat.sub o g) n))
noncomputable def objsK (g : Nat) (keep : List Nat) (m : Mem) (l : List Nat) : Option (List AObj) := optL (fun o => Option.casesOn (m.get o) none fun x => renO (rhoK g keep) 12 x) l
noncomputable def putAll (xs : List AObj) : Mem → Mem := List.rec (motive := fun _ => Mem → Mem) (fun m => m) (fun x _ ih m => ih (m.new x)) xs
noncomputable def eqXs (a : List AObj) : List AObj → Bool := List.rec (motive := fun _ => List AObj → Bool) (fun b => List.casesOn b true fun _ _ => false) (fun x _ ih b => List.casesOn b false fun y ys => Bool.casesOn (eqO x y) false (ih ys)) a
/-- is this what the run came to? -/
noncomputable def chk (g : Nat) (keep : List Nat) (r : FR) (E : Ent) : Bool :=
  FR.casesOn r false (fun v m => Option.casesOn (renV (rhoK g keep) 12 v) false fun v' => Option.casesOn (objsK g keep m keep) false fun xs => and (beqV 12 v' E.v) (eqXs xs E.xs)) (fun _ _ => false)
/-- laid into a memory -/
noncomputable def entM (g : Nat) (E : Ent) (m : Mem) : Option VM :=
  Mem.casesOn m fun n r t d => Option.casesOn (renV (rhoS g n) 12 E.v) none fun v => Option.casesOn (optL (renO (rhoS g n) 12) E.xs) none fun xs => some ⟨v, putAll xs ⟨n, r, t, d⟩⟩
theorem eqXs_eq : ∀ (a b : List AObj), eqXs a b = true → a = b
  | [], [], _ => rfl
  | [], _ :: _, h => by cases h
  | _ :: _, [], h => by cases h
  | x :: a, y :: b, h => by
    have h' : Bool.rec (motive := fun _ => Bool) false (eqXs a b) (eqO x y) = true := h
    obtain ⟨h1, h2⟩ := brec (f := false) h' (by simp)
    rw [eqO_eq h1, eqXs_eq a b h2]
theorem pos_ok (o : Nat) : ∀ (l : List Nat) (n k : Nat), pos o l n = some k → n ≤ k ∧ l[k - n]? = some o
  | [], n, k, h => by cases h
  | x :: l, n, k, h => by
    have h : Bool.rec (motive := fun _ => Option Nat) (pos o l (n + 1)) (some n) (Nat.beq x o) = some k := h
    cases hb : Nat.beq x o with
    | true => rw [hb] at h; cases h; rw [Nat.eq_of_beq_eq_true hb]; simp
    | false =>
      rw [hb] at h
      obtain ⟨h1, h2⟩ := pos_ok o l (n + 1) k h
      refine ⟨by omega, ?_⟩
      rw [show k - n = (k - (n + 1)) + 1 from by omega]
      simpa using h2
theorem putAll_next : ∀ (xs : List AObj) (m : Mem), (putAll xs m).next = m.next + xs.length ∧ (putAll xs m).ro = m.ro ∧ (putAll xs m).d = m.d
  | [], m => ⟨rfl, rfl, rfl⟩
  | x :: xs, m => by
    obtain ⟨h1, h2, h3⟩ := putAll_next xs (m.new x)
    refine ⟨?_, ?_, ?_⟩
    · show (putAll xs (m.new x)).next = _
      rw [h1]; simp; omega
    · show (putAll xs (m.new x)).ro = _
      rw [h2]; simp
    · show (putAll xs (m.new x)).d = _
      rw [h3]; simp
theorem putAll_get : ∀ (xs : List AObj) (m : Mem) (o : Nat), (putAll xs m).get o = if m.next ≤ o ∧ o < m.next + xs.length then xs[o - m.next]? else m.get o
  | [], m, o => by rw [if_neg (by simp)]; rfl
  | x :: xs, m, o => by
    show (putAll xs (m.new x)).get o = _
    rw [putAll_get xs (m.new x) o]
    have hn : (m.new x).next = m.next + 1 := by simp
    rw [hn, Mem.get_new]
    by_cases h1 : o = m.next
    · subst h1
      rw [if_neg (by omega), if_pos rfl, if_pos (by simp)]
      simp
    · rw [if_neg h1]
      by_cases h2 : m.next ≤ o ∧ o < m.next + (x :: xs).length
      · rw [if_pos h2, if_pos (by simp at h2 ⊢; omega)]
        rw [show o - m.next = (o - (m.next + 1)) + 1 from by omega]
        simp
      · rw [if_neg h2, if_neg (by simp at h2 ⊢; omega)]
/-- the tables alone -/
structure Small (P : Program) (g : Nat) (m₀ : Mem) : Prop where
  next : m₀.next = g
  ro : m₀.ro = g
  size : P.globals.size ≤ g
  to : ∀ o x, m₀.get o = some x → glOf P o = some x
  of : ∀ o x, glOf P o = some x → m₀.get o = some x
noncomputable def flat1 (rec : AV → Bool) (v : AV) : Bool :=
  match v with
  | .int .. | .bool _ | .str _ | .nil _ => true
  | .agg l | .tuple l => allB rec l
  | .iface _ v => rec v
  | _ => false
noncomputable def flatV (k : Nat) : AV → Bool := Nat.rec (motive := fun _ => AV → Bool) (fun _ => false) (fun _ ih v => flat1 ih v) k
theorem flatL {ι ι' : Emb} {f : AV → Bool} (hf : ∀ v u, f v = true → R ι v u → R ι' v u) : ∀ (l : List AV) (us : List Value), (∀ x ∈ l, f x = true) → RL ι l us → RL ι' l us
  | [], us, _, h => by simp only [RL] at h ⊢; exact h
  | x :: l, us, ha, h => by
    obtain ⟨u, us, rfl, h1, h2⟩ := h.uncons
    exact RL.cons (hf x u (ha x (by simp)) h1) (flatL hf l us (fun y hy => ha y (by simp [hy])) h2)
theorem flatV_ok {ι ι' : Emb} : ∀ (k : Nat) (v : AV) (u : Value), flatV k v = true → R ι v u → R ι' v u
  | 0, v, u, h, _ => by cases h
  | k + 1, v, u, h, hr => by
    have h : flat1 (flatV k) v = true := h
    have ih := flatV_ok (ι := ι) (ι' := ι') k
    cases v with
    | int _ _ => exact hr
    | bool _ => exact hr
    | str _ => exact hr
    | nil q => cases q <;> exact hr
    | ptr o i => cases h
    | slice o i len c es => cases h
    | map o => cases h
    | func f a b => cases h
    | agg l => simp only [R] at hr ⊢; obtain ⟨vs, e, hl⟩ := hr; exact ⟨vs, e, flatL ih l vs (allB_mem h) hl⟩
    | tuple l => simp only [R] at hr ⊢; obtain ⟨vs, e, hl⟩ := hr; exact ⟨vs, e, flatL ih l vs (allB_mem h) hl⟩
    | iface t a => simp only [R] at hr ⊢; obtain ⟨x, e, h1⟩ := hr; exact ⟨x, e, ih a x h h1⟩
theorem glOf_flat {P : Program} {g : Nat} {x : AObj} (h : glOf P g = some x) : ∃ l ty ex, x = .blk l ty ex ∧ ∀ y ∈ l, flatV 1 y = true := by
  have row : ∀ (l : List Nat), ∃ k ty ex, rowOf l = .blk k ty ex ∧ ∀ y ∈ k, flatV 1 y = true := by
    intro l
    refine ⟨_, _, _, rfl, ?_⟩
    intro y hy
    rw [mapL_eq] at hy
    simp only [List.mem_map] at hy
    obtain ⟨n, _, rfl⟩ := hy
    rfl
  unfold glOf glName at h
  split at h
  · split at h
    · cases h; exact row _
    · split at h
      · cases h; exact row _
      · cases h
  · cases h
theorem Holds.flat {ι ι' : Emb} {l : List AV} {ty : TypeId} {ex : Bool} {L : Loc} {w : World} (hl : ∀ y ∈ l, flatV 1 y = true) (h : Holds ι (.blk l ty ex) L w) : Holds ι' (.blk l ty ex) L w := by
  obtain ⟨c, t, fr, e1, e2, e3, e4, e5⟩ := h
  exact ⟨c, t, fr, e1, e2, e3, flatL (fun v u => flatV_ok 1 v u) _ _ hl e4, e5⟩
section
variable {P : Program} {g : Nat} {m₀ : Mem} {ι : Emb} {m : Mem} {w : World}
noncomputable def low (P : Program) (ι : Emb) : Emb := fun o => if o < P.globals.size then ι o else none
theorem glOf_lt {o : Nat} {x : AObj} (h : glOf P o = some x) : o < P.globals.size := by
  unfold glOf at h
  split at h
  · rename_i y hy
    exact (Array.getElem?_eq_some_iff.1 hy).1
  · cases h
theorem Small.rep (hs : Small P g m₀) (h : Rep P ι m w) : Rep P (low P ι) m₀ w where
  obj o x hx := by
    have h1 := hs.to o x hx
    obtain ⟨L, hL, hH⟩ := h.obj o x (h.gl o x h1).1
    obtain ⟨l, ty, ex, rfl, hl⟩ := glOf_flat h1
    exact ⟨L, by unfold low; rw [if_pos (glOf_lt h1)]; exact hL, hH.flat hl⟩
  inj o p x y L K hx hy _ _ _ he := by
    have h1 := glOf_lt (hs.to o x hx)
    have h2 := glOf_lt (hs.to p y hy)
    have := hs.size
    rw [hs.ro] at he
    omega
  gl o x hx := ⟨hs.of o x hx, by rw [hs.ro]; have := glOf_lt hx; have := hs.size; omega⟩
  wr o x L hx he _ := by
    have h1 := glOf_lt (hs.to o x hx)
    have := hs.size
    rw [hs.ro] at he
    omega
  fresh o ho := by
    unfold low
    rw [hs.next] at ho
    rw [if_neg (by have := hs.size; omega)]
  low o L hL := by
    unfold K.low at hL
    split at hL
    · exact h.low o L hL
    · cases hL
  glob o ho := by
    obtain ⟨s, r, e⟩ := h.glob o ho
    exact ⟨s, r, by unfold low; rw [if_pos ho]; exact e⟩
/-- where the numbers of the greater memory lie -/
noncomputable def over2 (ι ι₁ : Emb) (n : Nat) (keep : List Nat) : Emb := fun o => if o < n then ι o else match keep[o - n]? with
  | some q => ι₁ q
  | none => none
theorem objsK_get {keep : List Nat} {m₁ : Mem} {l : List Nat} {xs : List AObj} (h : objsK g keep m₁ l = some xs) : xs.length = l.length ∧ ∀ (i o : Nat), l[i]? = some o → ∃ x y, m₁.get o = some x ∧ renO (rhoK g keep) 12 x = some y ∧ xs[i]? = some y := by
  obtain ⟨h1, h2⟩ := optL_some h
  refine ⟨h1.symm, fun i o ho => ?_⟩
  obtain ⟨y, h3, h4⟩ := h2 i o ho
  obtain ⟨x, h5, h6⟩ := orec (b := none) h3 (by simp)
  exact ⟨x, y, h5, h6, h4⟩
noncomputable def emK (g : Nat) (keep : List Nat) (ι₁ : Emb) : Emb := fun o => if o < g then ι₁ o else match keep[o - g]? with
  | some q => ι₁ q
  | none => none
/-- numbers from g on, laid over n: those of the keep -/
theorem rho2 {keep : List Nat} {ι₁ : Emb} {n : Nat} (hn : P.globals.size ≤ n) (hlow : ∀ o L, o < g → ι₁ o = some L → o < P.globals.size ∧ ι o = some L) :
    ∀ o p L, rhoS g n o = some p → emK g keep ι₁ o = some L → over2 ι ι₁ n keep p = some L := by
  intro o p L h1 h2
  unfold rhoS at h1
  unfold emK at h2
  unfold over2
  cases hb : Nat.ble g o with
  | false =>
    rw [hb] at h1
    obtain rfl : o = p := by injection h1
    have hlt : o < g := by
      rcases Nat.lt_or_ge o g with e | e
      · exact e
      · rw [Nat.ble_eq_true_of_le e] at hb; cases hb
    simp only [if_pos hlt] at h2
    obtain ⟨q1, q2⟩ := hlow o L hlt h2
    rw [if_pos (by omega)]
    exact q2
  | true =>
    rw [hb] at h1
    have hge := Nat.le_of_ble_eq_true hb
    have e : p = o - g + n := by injection h1 with h1; exact h1.symm
    subst e
    simp only [if_neg (Nat.not_lt.2 hge)] at h2
    rw [if_neg (by omega), show o - g + n - n = o - g from by omega]
    exact h2
theorem rho1 {keep : List Nat} {ι₁ : Emb} : ∀ o p L, rhoK g keep o = some p → ι₁ o = some L → emK g keep ι₁ p = some L := by
  intro o p L h1 h2
  unfold rhoK at h1
  unfold emK
  cases hb : Nat.ble g o with
  | false =>
    rw [hb] at h1
    obtain rfl : o = p := by injection h1
    have hlt : o < g := by
      rcases Nat.lt_or_ge o g with e | e
      · exact e
      · rw [Nat.ble_eq_true_of_le e] at hb; cases hb
    simp only [if_pos hlt]; exact h2
  | true =>
    rw [hb] at h1
    obtain ⟨h3, h4⟩ := pos_ok o keep g p h1
    simp only [if_neg (Nat.not_lt.2 h3), h4]
    exact h2
end
end Go.K
end
section
/-! The call itself, laid into a greater memory. -/
namespace Go.K
open Go (Op)
noncomputable def rising : List Nat → Nat → Bool := List.rec (motive := fun _ => Nat → Bool) (fun _ => true) (fun x _ ih g => Bool.casesOn (Nat.ble g x) false (ih (Nat.succ x)))
theorem rising_ok : ∀ (l : List Nat) (g : Nat), rising l g = true → (∀ (i q : Nat), l[i]? = some q → g ≤ q) ∧ ∀ (i j q : Nat), l[i]? = some q → l[j]? = some q → i = j
  | [], g, _ => ⟨fun i q h => by simp at h, fun i j q h => by simp at h⟩
  | x :: l, g, h => by
    have h : Bool.rec (motive := fun _ => Bool) false (rising l (Nat.succ x)) (Nat.ble g x) = true := h
    obtain ⟨h1, h2⟩ := brec (f := false) h (by simp)
    have h1 := Nat.le_of_ble_eq_true h1
    obtain ⟨h3, h4⟩ := rising_ok l (Nat.succ x) h2
    refine ⟨fun i q hq => ?_, fun i j q hi hj => ?_⟩
    · cases i with
      | zero => simp at hq; omega
      | succ i => have := h3 i q (by simpa using hq); omega
    · cases i with
      | zero =>
        cases j with
        | zero => rfl
        | succ j => have := h3 j q (by simpa using hj); simp at hi; omega
      | succ i =>
        cases j with
        | zero => have := h3 i q (by simpa using hi); simp at hj; omega
        | succ j => rw [h4 i j q (by simpa using hi) (by simpa using hj)]
theorem CallsTo.mono {P : Program} {f : FuncId} {vals : Array Value} {w : World} {K K' : Value → World → Prop} (h : CallsTo P f vals w K) (hk : ∀ u w', K u w' → K' u w') : CallsTo P f vals w K' := by
  rcases h with ⟨u, w', h1, h2⟩ | ⟨h1, h2⟩
  · exact .inl ⟨u, w', h1, hk _ _ h2⟩
  · exact .inr ⟨h1, h2.mono fun e w' ⟨u, e1, e2⟩ => ⟨u, e1, hk _ _ e2⟩⟩
/-- what a primitive owes -/
def PrimOk (P : Program) (f : FuncId) (args : List AV) (g : Mem → Option VM) : Prop :=
  ∀ (v : AV) (m m' : Mem) (ι : Emb) (w : World) (vals : Array Value), Rep P ι m w → RL ι args vals.toList → g m = some ⟨v, m'⟩ →
    CallsTo P f vals w (fun u w' => ∃ ι', Rep P ι' m' w' ∧ Ext ι m w ι' m' w' ∧ R ι' v u ∧ m'.d = m.d)
theorem lay_ok {P : Program} {g : Nat} {m₀ m₁ m m' : Mem} {ι ι₁ : Emb} {w w' : World} {keep : List Nat} {E : Ent} {v v₁ : AV} {u : Value} (hs : Small P g m₀) (hR : Rep P ι m w)
    (hrise : rising keep g = true) (hv : renV (rhoK g keep) 12 v₁ = some E.v) (hx : objsK g keep m₁ keep = some E.xs) (hm : entM g E m = some ⟨v, m'⟩)
    (hR1 : Rep P ι₁ m₁ w') (hE1 : Ext (low P ι) m₀ w ι₁ m₁ w') (hu : R ι₁ v₁ u) : ∃ ι', Rep P ι' m' w' ∧ Ext ι m w ι' m' w' ∧ R ι' v u ∧ m'.d = m.d := by
  obtain ⟨n, r, t, d⟩ := m
  obtain ⟨v', e1, hm⟩ := orec (b := none) (show Option.rec (motive := fun _ => Option VM) none (fun v => Option.rec (motive := fun _ => Option VM) none (fun xs => some ⟨v, putAll xs ⟨n, r, t, d⟩⟩) (optL (renO (rhoS g n) 12) E.xs)) (renV (rhoS g n) 12 E.v) = some ⟨v, m'⟩ from hm) (by simp)
  obtain ⟨xs, e2, hm⟩ := orec (b := none) hm (by simp)
  cases hm
  have hsz : P.globals.size ≤ n := by
    rcases Nat.lt_or_ge n P.globals.size with e | e
    · obtain ⟨s, _, hs⟩ := hR.glob n e
      have : ι n = none := hR.fresh n (Nat.le_refl _)
      rw [this] at hs; cases hs
    · exact e
  have no₀ : ∀ o x, m₀.get o = some x → m₀.ro ≤ o → False := by
    intro o x h1 h2
    have := glOf_lt (hs.to o x h1)
    have := hs.size
    have := hs.ro
    omega
  have hkept : ∀ b, b < w.heap.size → w'.heap[b]? = w.heap[b]? := fun b hb => hE1.kept b hb fun o x L h1 h2 _ => (no₀ o x h1 h2).elim
  have hlow : ∀ o L, o < g → ι₁ o = some L → o < P.globals.size ∧ ι o = some L := by
    intro o L h1 h2
    rw [hE1.old o (by rw [hs.next]; exact h1)] at h2
    unfold low at h2
    split at h2
    · rename_i h3; exact ⟨h3, h2⟩
    · cases h2
  have r1 := rho1 (g := g) (keep := keep) (ι₁ := ι₁)
  have r2 := rho2 (g := g) (keep := keep) (ι := ι) (ι₁ := ι₁) (n := n) hsz hlow
  obtain ⟨hxl, hxs⟩ := objsK_get hx
  obtain ⟨hyl, hys⟩ := optL_some e2
  obtain ⟨rs1, rs2⟩ := rising_ok keep g hrise
  obtain ⟨pn, pr, pd⟩ := putAll_next xs ⟨n, r, t, d⟩
  have pg := putAll_get xs ⟨n, r, t, d⟩
  -- a new object
  have new : ∀ i x, xs[i]? = some x → ∃ q L, keep[i]? = some q ∧ g ≤ q ∧ ι₁ q = some L ∧ over2 ι ι₁ n keep (n + i) = some L ∧ Holds (over2 ι ι₁ n keep) x L w' ∧ (∃ z, m₁.get q = some z) ∧ w.heap.size ≤ L.b := by
    intro i x hi
    have hlt : i < keep.length := by have := (List.getElem?_eq_some_iff.1 hi).1; omega
    obtain ⟨q, hq⟩ : ∃ q, keep[i]? = some q := ⟨_, List.getElem?_eq_getElem hlt⟩
    obtain ⟨z, y, h1, h2, h3⟩ := hxs i q hq
    obtain ⟨x', h4, h5⟩ := hys i y h3
    rw [hi] at h5; cases h5
    obtain ⟨L, hL, hH⟩ := hR1.obj q z h1
    have hgq := rs1 i q hq
    refine ⟨q, L, hq, hgq, hL, ?_, renO_ok r2 12 h4 (renO_ok r1 12 h2 hH), ⟨z, h1⟩, ?_⟩
    · unfold over2
      rw [if_neg (by omega), show n + i - n = i from by omega, hq]
      exact hL
    · rcases hE1.own q z L h1 (by rw [hs.ro]; exact hgq) hL with e | ⟨p, y', K, g1, g2, _⟩
      · exact e
      · exact (no₀ p y' g1 g2).elim
  have split : ∀ o x, (putAll xs ⟨n, r, t, d⟩).get o = some x → (∃ i, o = n + i ∧ xs[i]? = some x) ∨ (Mem.get ⟨n, r, t, d⟩ o = some x ∧ o < n) := by
    intro o x h
    rw [pg] at h
    split at h
    · rename_i h1
      exact .inl ⟨o - n, by have : n ≤ o := h1.1; omega, h⟩
    · refine .inr ⟨h, ?_⟩
      obtain ⟨L, hL, _⟩ := hR.obj o x h
      rcases Nat.lt_or_ge o n with e | e
      · exact e
      · rw [hR.fresh o e] at hL; cases hL
  have old : ∀ o, o < n → over2 ι ι₁ n keep o = ι o := fun o h => by unfold over2; rw [if_pos h]
  have hle : ι.le (over2 ι ι₁ n keep) := by
    intro o L hL
    rw [old o ?_]
    · exact hL
    · rcases Nat.lt_or_ge o n with e | e
      · exact e
      · rw [hR.fresh o e] at hL; cases hL
  refine ⟨over2 ι ι₁ n keep, ?_, ?_, ?_, pd⟩
  · exact {
      obj := fun o x h => by
        rcases split o x h with ⟨i, rfl, hi⟩ | ⟨h1, h2⟩
        · obtain ⟨q, L, _, _, _, h3, h4, _⟩ := new i x hi
          exact ⟨L, h3, h4⟩
        · obtain ⟨L, hL, hH⟩ := hR.obj o x h1
          exact ⟨L, hle _ _ hL, hH.mono hle (hkept _ hH.lt)⟩
      inj := fun o p x y L K h1 h2 h3 h4 h5 h6 => by
        rcases split o x h1 with ⟨i, rfl, hi⟩ | ⟨g1, g2⟩
        · obtain ⟨q, L', a1, a2, a3, a4, _, ⟨z, a5⟩, a6⟩ := new i x hi
          rw [a4] at h3; cases h3
          rcases split p y h2 with ⟨j, rfl, hj⟩ | ⟨g3, g4⟩
          · obtain ⟨q', K', b1, b2, b3, b4, _, ⟨z', b5⟩, b6⟩ := new j y hj
            rw [b4] at h4; cases h4
            have := hR1.inj q q' z z' _ _ a5 b5 a3 b3 h5 (.inl (by rw [hE1.ro, hs.ro]; exact a2))
            subst this
            rw [rs2 i j q a1 b1]
          · rw [old p g4] at h4
            have := hR.low p K h4
            omega
        · rw [old o g2] at h3
          rcases split p y h2 with ⟨j, rfl, hj⟩ | ⟨g3, g4⟩
          · obtain ⟨q', K', b1, b2, b3, b4, _, ⟨z', b5⟩, b6⟩ := new j y hj
            rw [b4] at h4; cases h4
            have := hR.low o L h3
            omega
          · rw [old p g4] at h4
            rw [pr] at h6
            exact hR.inj o p x y L K g1 g3 h3 h4 h5 h6
      gl := fun o x h => by
        obtain ⟨h1, h2⟩ := hR.gl o x h
        obtain ⟨L, hL, _⟩ := hR.obj o x h1
        have : o < n := by
          rcases Nat.lt_or_ge o n with e | e
          · exact e
          · rw [hR.fresh o e] at hL; cases hL
        refine ⟨?_, by rw [pr]; exact h2⟩
        rw [pg, if_neg (by simp only; omega)]
        exact h1
      fresh := fun o h => by
        rw [pn] at h
        have h : n + xs.length ≤ o := h
        unfold over2
        rw [if_neg (by omega), List.getElem?_eq_none (by omega)]
      low := fun o L h => by
        unfold over2 at h
        split at h
        · exact Nat.lt_of_lt_of_le (hR.low o L h) hE1.size
        · split at h
          · exact hR1.low _ L h
          · cases h
      glob := fun o h => by
        obtain ⟨s, r, e⟩ := hR.glob o h
        exact ⟨s, r, by rw [old o (by omega)]; exact e⟩
      wr := fun o x L h1 h2 h3 => by
        rw [pr] at h2
        rcases split o x h1 with ⟨i, rfl, hi⟩ | ⟨g1, g2⟩
        · obtain ⟨q, L', a1, a2, a3, a4, _, ⟨z, a5⟩, a6⟩ := new i x hi
          rw [a4] at h3; cases h3
          exact hR1.wr q z _ a5 (by rw [hE1.ro, hs.ro]; exact a2) a3
        · rw [old o g2] at h3
          exact hR.wr o x L g1 h2 h3 }
  · exact {
      le := hle
      old := old
      next := by rw [pn]; exact Nat.le_add_right _ _
      ro := pr
      size := hE1.size
      tape := hE1.tape
      os := hE1.os
      output := hE1.output
      own := fun o x L h1 h2 h3 => by
        rcases split o x h1 with ⟨i, rfl, hi⟩ | ⟨g1, g2⟩
        · obtain ⟨q, L', a1, a2, a3, a4, _, ⟨z, a5⟩, a6⟩ := new i x hi
          rw [a4] at h3; cases h3
          exact .inl a6
        · rw [old o g2] at h3
          exact .inr ⟨o, x, L, g1, h2, h3, rfl⟩
      kept := fun b hb _ => hkept b hb
      live := fun o x h1 h2 => by
        rcases split o x h1 with ⟨i, rfl, hi⟩ | ⟨g1, g2⟩
        · have h2 : n + i < n := h2; omega
        · exact ⟨x, g1⟩ }
  · exact renV_ok r2 12 _ _ _ e1 (renV_ok r1 12 _ _ _ hv hu)
theorem ent_ok {c : Cfg} (hc : CfgOk c) {F : Nat} {f : FuncId} {args : List AV} {g : Nat} {m₀ : Mem} {keep : List Nat} {E : Ent} (hs : Small c.P g m₀) (hflat : allB (flatV 6) args = true)
    (hrise : rising keep g = true) (h : chk g keep (callK c F f args m₀) E = true) : PrimOk c.P f args (entM g E) := by
  intro v m m' ι w vals hR hargs hm
  cases hr : callK c F f args m₀ with
  | fail => rw [hr] at h; cases h
  | panic x k => rw [hr] at h; cases h
  | ret v₁ m₁ =>
    rw [hr] at h
    obtain ⟨v', h1, h⟩ := orec (b := false) (show Option.rec (motive := fun _ => Bool) false (fun v' => Option.rec (motive := fun _ => Bool) false (fun xs => and (beqV 12 v' E.v) (eqXs xs E.xs)) (objsK g keep m₁ keep)) (renV (rhoK g keep) 12 v₁) = true from h) (by simp)
    obtain ⟨xs, h2, h⟩ := orec (b := false) h (by simp)
    simp only [Bool.and_eq_true] at h
    have e1 := beqV_eq 12 _ _ h.1
    have e2 := eqXs_eq _ _ h.2
    subst e1
    subst e2
    refine (call_ok c hc F f args m₀ (low c.P ι) w vals v₁ m₁ (hs.rep hR) (flatL (fun v u => flatV_ok 6 v u) _ _ (allB_mem hflat) hargs) hr).mono ?_
    rintro u w' ⟨ι₁, hR1, hE1, hu, _⟩
    exact lay_ok (v₁ := v₁) (E := E) hs hR hrise h1 h2 hm hR1 hE1 hu
end Go.K
end
section
/-! Primitives: functions without bodies, and tables of what runs came to. -/
namespace Go.K
open Go (Op)
abbrev Prims := FuncId → Option (List AV → Mem → Option VM)
def GOk (P : Program) (f : FuncId) (g : List AV → Mem → Option VM) : Prop := ∀ args, PrimOk P f args (g args)
def PrOk (P : Program) (pr : Prims) : Prop := ∀ f g, pr f = some g → GOk P f g
def prNone : Prims := fun _ => none
noncomputable def prOr (f₀ : FuncId) (g₀ : List AV → Mem → Option VM) (pr : Prims) : Prims := fun f => Bool.casesOn (Nat.beq f f₀) (pr f) (some g₀)
theorem prNone_ok {P : Program} : PrOk P prNone := fun _ _ h => by cases h
theorem prOr_ok {P : Program} {f₀ : FuncId} {g₀ : List AV → Mem → Option VM} {pr : Prims} (h₀ : GOk P f₀ g₀) (h : PrOk P pr) : PrOk P (prOr f₀ g₀ pr) := by
  intro f g hg
  unfold prOr at hg
  cases hb : Nat.beq f f₀ with
  | true =>
    rw [hb] at hg
    obtain rfl := Nat.eq_of_beq_eq_true hb
    cases hg
    exact h₀
  | false =>
    rw [hb] at hg
    exact h f g hg
theorem prOr_same (f : FuncId) (g : List AV → Mem → Option VM) (pr : Prims) : prOr f g pr f = some g := by unfold prOr; rw [Nat.beq_refl]
theorem prOr_ne {f f₀ : FuncId} (g : List AV → Mem → Option VM) (pr : Prims) (h : f ≠ f₀) : prOr f₀ g pr f = pr f := by
  unfold prOr
  cases hb : Nat.beq f f₀ with
  | true => exact absurd (Nat.eq_of_beq_eq_true hb) h
  | false => rfl
/-! ### functions of values alone -/
noncomputable def gPure (g : List AV → Option AV) : List AV → Mem → Option VM := prPure g
theorem gPure_ok {P : Program} {f : FuncId} {g : List AV → Option AV} (h : ∀ (args : List AV) (v : AV) (m : Mem) (ι : Emb) (w : World) (vals : Array Value), Rep P ι m w → RL ι args vals.toList → g args = some v →
    CallsTo P f vals w (fun u w' => Grows w w' ∧ w'.tape = w.tape ∧ w'.os = w.os ∧ w'.output = w.output ∧ R ι v u)) : GOk P f (gPure g) := by
  intro args v m m' ι w vals hR ha hg
  obtain ⟨h1, rfl⟩ := prPure_ok hg
  refine (h args v m' ι w vals hR ha h1).mono ?_
  rintro u w' ⟨h2, h3, h4, h5, h6⟩
  exact ⟨ι, hR.grow h2, Ext.grow h2 h3 h4 h5, h6, rfl⟩
/-- .. out of a run of the evaluator, at every memory -/
theorem gPure_run {c : Cfg} (hc : CfgOk c) {f : FuncId} {F : Nat} {g : List AV → Option AV} (h : ∀ args v m, g args = some v → callK c F f args m = .ret v m) : GOk c.P f (gPure g) := by
  intro args v m m' ι w vals hR ha hg
  obtain ⟨h1, rfl⟩ := prPure_ok hg
  exact call_ok c hc F f args m' ι w vals v m' hR ha (h args v m' h1)
/-! ### tables -/
noncomputable def tabF (g : Nat) (tab : List (List AV × Ent)) : List AV → Mem → Option VM := fun args m =>
  List.rec (motive := fun _ => Option VM) none (fun p _ ih => Bool.casesOn (beqL (beqV 6) args p.1) ih (entM g p.2 m)) tab
theorem tabF_ok {P : Program} {f : FuncId} {g : Nat} : ∀ (tab : List (List AV × Ent)), (∀ p ∈ tab, PrimOk P f p.1 (entM g p.2)) → GOk P f (tabF g tab)
  | [], _ => fun args v m m' ι w vals _ _ h => by cases h
  | p :: tab, h => fun args v m m' ι w vals hR ha hg => by
    have hg : Bool.rec (motive := fun _ => Option VM) (tabF g tab args m) (entM g p.2 m) (beqL (beqV 6) args p.1) = some ⟨v, m'⟩ := hg
    cases hb : beqL (beqV 6) args p.1 with
    | true =>
      rw [hb] at hg
      have e := beqL_eq (beqV_eq 6) _ _ hb
      subst e
      exact h p (by simp) v m m' ι w vals hR ha hg
    | false =>
      rw [hb] at hg
      exact tabF_ok tab (fun q hq => h q (by simp [hq])) args v m m' ι w vals hR ha hg
/-! ### functions without bodies -/
noncomputable def ixB (c : Nat) (s : List UInt8) : Nat → Int :=
  List.rec (motive := fun _ => Nat → Int) (fun _ => Int.negSucc 0) (fun b _ ih i => Bool.casesOn (Nat.beq (byteNo b) c) (ih (Nat.succ i)) (Int.ofNat i)) s
noncomputable def gIndexByte : List AV → Option AV := fun args => match args with
  | [.str s, .int .u8 (.ofNat c)] => some (.int .i64 (ixB (Nat.mod c 256) s 0))
  | _ => none
noncomputable def gSame : List AV → Option AV := fun args => match args with
  | [x] => some x
  | _ => none
theorem ixB_eq (b : UInt8) : ∀ (s : List UInt8) (i : Nat), ixB b.toNat s i = if Lib.indexByte s b = -1 then -1 else Lib.indexByte s b + i
  | [], i => by simp [Lib.indexByte]; rfl
  | x :: s, i => by
    have e : ixB b.toNat (x :: s) i = Bool.rec (motive := fun _ => Int) (ixB b.toNat s (i + 1)) (Int.ofNat i) (Nat.beq (byteNo x) b.toNat) := rfl
    have e1 : Nat.beq (byteNo x) b.toNat = (x == b) := byteNo_eq x b
    rw [e, e1]
    unfold Lib.indexByte
    cases hxb : (x == b) with
    | true => simp
    | false =>
      simp only [Bool.false_eq_true, if_false]
      rw [ixB_eq b s (i + 1)]
      have hge := Lib.indexByte_ge s b
      by_cases h : Lib.indexByte s b = -1
      · simp [h]
      · simp only [h, if_false, beq_iff_eq]
        rw [if_neg (by omega)]
        omega
theorem gIndexByte_ok {P : Program} {f : FuncId} {fn : Func} (hf : P.funcs[f]? = some fn) (hname : (fn.name == "runtime.NumGoroutine") = false) (hb : fn.body.isNone = true) (hn : Extern.findNext fn = none) (he : Extern.find fn = some Extern.BytealgIndexByte.indexByte) :
    GOk P f (gPure gIndexByte) := by
  refine gPure_ok fun args v m ι w vals _ ha hv => ?_
  unfold gIndexByte at hv
  split at hv
  · rename_i s c
    cases hv
    obtain ⟨x, xs, e, h1, h2⟩ := ha.uncons
    obtain ⟨y, ys, rfl, h3, h4⟩ := h2.uncons
    simp only [RL] at h4
    subst h4
    simp only [R] at h1 h3
    subst h1; subst h3
    obtain rfl : vals = #[.string ⟨⟨s⟩⟩, .int .u8 (.ofNat c)] := by cases vals; simp_all
    refine .inl ⟨_, w, by rw [run_callFunc_extern hf hname hb hn he, Lib.run_indexByteString]; rfl, Grows.refl _, rfl, rfl, rfl, ?_⟩
    simp only [R]
    congr 1
    have e1 : (Int.ofNat c).toNat.toUInt8.toNat = Nat.mod c 256 := by simp [Nat.toUInt8]; rfl
    have := ixB_eq (Int.ofNat c).toNat.toUInt8 s 0
    rw [e1] at this
    rw [this]
    have hge := Lib.indexByte_ge s (Int.ofNat c).toNat.toUInt8
    split <;> simp_all
  · cases hv
theorem gSame_ok {P : Program} {f : FuncId} {fn : Func} (hf : P.funcs[f]? = some fn) (hname : (fn.name == "runtime.NumGoroutine") = false) (hb : fn.body.isNone = true) (hn : Extern.findNext fn = none) (he : Extern.find fn = some Extern.AbiNoEscape.same) :
    GOk P f (gPure gSame) := by
  refine gPure_ok fun args v m ι w vals _ ha hv => ?_
  unfold gSame at hv
  split at hv
  · cases hv
    obtain ⟨x, xs, e, h1, h2⟩ := ha.uncons
    simp only [RL] at h2
    subst h2
    obtain rfl : vals = #[x] := by cases vals; simp_all
    exact .inl ⟨_, w, by rw [run_callFunc_extern hf hname hb hn he, Lib.run_noEscape]; rfl, Grows.refl _, rfl, rfl, rfl, h1⟩
  · cases hv
end Go.K
end
