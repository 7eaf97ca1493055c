/- A part of a proof over an evaluator for programs of this form: KOps KOps2 KOps3 KOps4 KOps5 KOps6 KOps7 KOps8. -/
import Derived.Test.YtjbbjdcpkepaiaaGreatDoorLB
import Derived.Laws.Bits64
import Derived.Laws.Strings
import Derived.Laws.StructEq
import Derived.Laws.Slices
import Derived.Laws.BytesString
import Derived.Laws.Tables
import Derived.Laws.LoneSync
import Derived.Laws.MakeOwn
set_option linter.all false
set_option autoImplicit false
section
/-! Each operation, as it is told, does what the model's does. -/
namespace Go.K
open Go (Op)

theorem atomOf_ok {ι : Emb} {v : Value} {a : AV} (h : atomOf v = some a) : R ι a v := by
  unfold atomOf at h
  split at h <;> first | (cases h; simp [R]) | cases h
theorem atomsOf_ok {ι : Emb} : ∀ {vs : List Value} {as : List AV}, atomsOf vs = some as → RL ι as vs
  | [], as, h => by have := optL_nil h; subst this; exact RL.nil
  | v :: vs, as, h => by obtain ⟨y, ys, h1, h2, rfl⟩ := optL_cons h; exact RL.cons (atomOf_ok h1) (atomsOf_ok h2)
theorem ofVal_ok {ι : Emb} {v : Value} {a : AV} (h : ofVal v = some a) : R ι a v := by
  unfold ofVal at h
  split at h
  · rename_i cs
    obtain ⟨as, h1, h2⟩ := orec (b := none) h (by simp)
    cases h2
    simp only [R]
    exact ⟨cs.toList, by simp, atomsOf_ok h1⟩
  · cases h; simp [R, RL]
  · obtain ⟨as, h1, h2⟩ := orec (b := none) h (by simp)
    cases h2
    simp only [R]
    exact ⟨_, rfl, atomOf_ok h1⟩
  · cases h; simp only [R]; exact ⟨[], [], rfl, RL.nil, RL.nil⟩
  · exact atomOf_ok h

section
variable {P : Program} {nt : Nat} {ι : Emb} {e : ET} {a : Act} {m : Mem} {w : World}
theorem ev_ok {x : Operand} {od : Od} (hR : Rep P ι m w) (hS : Sim ι e a.tmps) (hn : nt ≤ a.tmps.size) (h : odOf P nt x = some od) : R ι (ev od e) (a.eval x) := by
  unfold odOf at h
  split at h
  · rename_i t
    obtain ⟨h1, h2⟩ := brec (f := none) h (by simp)
    cases h2
    have h3 : t + 1 ≤ nt := by simpa using h1
    exact hS.get t (Nat.lt_of_lt_of_le (Nat.lt_of_succ_le h3) hn)
  · obtain ⟨v, h1, h2⟩ := orec (b := none) h (by simp)
    cases h2
    exact ofVal_ok h1
  · rename_i g
    obtain ⟨h1, h2⟩ := brec (f := none) h (by simp)
    cases h2
    have h3 : g + 1 ≤ P.globals.size := by simpa using h1
    obtain ⟨s, _, hs⟩ := hR.glob g (by omega)
    simp only [ev, R]
    exact ⟨_, hs, rfl⟩
  · cases h
    simp only [ev, R]
    exact ⟨[], [], rfl, RL.nil, RL.nil⟩
theorem evs_ok (hR : Rep P ι m w) (hS : Sim ι e a.tmps) (hn : nt ≤ a.tmps.size) : ∀ {xs : List Operand} {ods : List Od}, odsOf P nt xs = some ods → RL ι (evs ods e) (xs.map a.eval)
  | [], ods, h => by have := optL_nil h; subst this; exact RL.nil
  | x :: xs, ods, h => by
    obtain ⟨y, ys, h1, h2, rfl⟩ := optL_cons h
    exact RL.cons (ev_ok hR hS hn h1) (evs_ok hR hS hn h2)
end

def DefR1 (ι : Emb) (x : Df) (d : Deferred) : Prop := ∃ args cap, d = { target := .fn (.func x.f) cap, args } ∧ RL ι x.args (args ++ cap).toList
/-- what has become of an operation that writes -/
def HOk (P : Program) (ι : Emb) (m : Mem) (w : World) (run : Result Next) (h : HR) : Prop :=
  match h with
  | .fail => True
  | .val r m' => m'.d = m.d ∧ ∃ v w' ι', run = .ok (.value v) w' ∧ Rep P ι' m' w' ∧ Ext ι m w ι' m' w' ∧ R ι' r v
  | .skip m' => ∃ w' ι', Rep P ι' m' w' ∧ Ext ι m w ι' m' w' ∧ ((m'.d = m.d ∧ run = .ok .skip w') ∨ ∃ x d, m'.d = x :: m.d ∧ DefR1 ι' x d ∧ run = .ok (.defer d) w')
  | .panic r m' => m' = m ∧ ∃ v, run = .halt (.panic v) w ∧ R ι r v
/-- what an operation, told so, is known to do -/
def Good (P : Program) (nt : Nat) (o : Oper) (op : IOp) : Prop :=
  ∀ (ι : Emb) (e : ET) (a : Act) (m : Mem) (w : World), Rep P ι m w → Sim ι e a.tmps → nt ≤ a.tmps.size →
    match op with
    | .bad => True
    | .mv x => ∃ v, (execOp a.eval o).run P w = .ok (.value v) w ∧ R ι (ev x e) v
    | .p1 f x => ∀ r, f (ev x e) = some r → ∃ v, (execOp a.eval o).run P w = .ok (.value v) w ∧ R ι r v
    | .p2 f x y => ∀ r, f (ev x e) (ev y e) = some r → ∃ v, (execOp a.eval o).run P w = .ok (.value v) w ∧ R ι r v
    | .pN f xs => ∀ r, f (evs xs e) = some r → ∃ v, (execOp a.eval o).run P w = .ok (.value v) w ∧ R ι r v
    | .r1 f x => ∀ r, f m (ev x e) = some r → ∃ v, (execOp a.eval o).run P w = .ok (.value v) w ∧ R ι r v
    | .r2 f x y => ∀ r, f m (ev x e) (ev y e) = some r → ∃ v, (execOp a.eval o).run P w = .ok (.value v) w ∧ R ι r v
    | .al f mk xs => ∀ b, f (evs xs e) = some b → ∃ v ob base sz, (execOp a.eval o).run P w = .ok (.value v) (w.alloc ob) ∧
        (∀ ι', ι.le ι' → Holds ι' b ⟨w.heap.size, base, sz, true⟩ (w.alloc ob)) ∧ ∀ ι' n, ι' n = some ⟨w.heap.size, base, sz, true⟩ → R ι' (mk n) v
    | .hv f xs => HOk P ι m w ((execOp a.eval o).run P w) (f m (evs xs e))
    | .call f xs => ∃ fv args, (execOp a.eval o).run P w = ((Deferred.ofValue fv args).run P w).andThen (fun d w => (invoke d.target d.args).run P w) ∧ R ι (ev f e) fv ∧ RL ι (evs xs e) args.toList
theorem Good.bad {P : Program} {nt : Nat} {o : Oper} : Good P nt o .bad := fun _ _ _ _ _ _ _ _ => trivial

theorem with1_cases (P : Program) (nt : Nat) (x : Operand) (k : Od → IOp) : with1 P nt x k = .bad ∨ ∃ od, odOf P nt x = some od ∧ with1 P nt x k = k od := by
  unfold with1; cases h : odOf P nt x with
  | none => exact .inl rfl
  | some od => exact .inr ⟨od, rfl, rfl⟩
theorem with2_cases (P : Program) (nt : Nat) (x y : Operand) (k : Od → Od → IOp) : with2 P nt x y k = .bad ∨ ∃ p q, odOf P nt x = some p ∧ odOf P nt y = some q ∧ with2 P nt x y k = k p q := by
  unfold with2; cases h : odOf P nt x with
  | none => exact .inl rfl
  | some p => cases h' : odOf P nt y with
    | none => exact .inl rfl
    | some q => exact .inr ⟨p, q, rfl, rfl, rfl⟩
theorem withN_cases (P : Program) (nt : Nat) (xs : List Operand) (k : List Od → IOp) : withN P nt xs k = .bad ∨ ∃ ods, odsOf P nt xs = some ods ∧ withN P nt xs k = k ods := by
  unfold withN; cases h : odsOf P nt xs with
  | none => exact .inl rfl
  | some ods => exact .inr ⟨ods, rfl, rfl⟩

/-- an operation on one operand, of which only the value counts -/
theorem good1 {P : Program} {nt : Nat} {o : Oper} {x : Operand} {f : F1}
    (h : ∀ (ι : Emb) (ρ : Operand → Value) (w : World) (p r : AV), R ι p (ρ x) → f p = some r → ∃ v, (execOp ρ o).run P w = .ok (.value v) w ∧ R ι r v) : Good P nt o (with1 P nt x (.p1 f)) := by
  rcases with1_cases P nt x (.p1 f) with e | ⟨od, ho, e⟩ <;> rw [e]
  · exact Good.bad
  · exact fun ι e a m w hR hS hn r hr => h ι a.eval w _ r (ev_ok hR hS hn ho) hr
theorem good2 {P : Program} {nt : Nat} {o : Oper} {x y : Operand} {f : F2}
    (h : ∀ (ι : Emb) (ρ : Operand → Value) (w : World) (p q r : AV), R ι p (ρ x) → R ι q (ρ y) → f p q = some r → ∃ v, (execOp ρ o).run P w = .ok (.value v) w ∧ R ι r v) : Good P nt o (with2 P nt x y (.p2 f)) := by
  rcases with2_cases P nt x y (.p2 f) with e | ⟨p, q, hp, hq, e⟩ <;> rw [e]
  · exact Good.bad
  · exact fun ι e a m w hR hS hn r hr => h ι a.eval w _ _ r (ev_ok hR hS hn hp) (ev_ok hR hS hn hq) hr
theorem goodN {P : Program} {nt : Nat} {o : Oper} {xs : List Operand} {f : FN}
    (h : ∀ (ι : Emb) (ρ : Operand → Value) (w : World) (ps : List AV) (r : AV), RL ι ps (xs.map ρ) → f ps = some r → ∃ v, (execOp ρ o).run P w = .ok (.value v) w ∧ R ι r v) : Good P nt o (withN P nt xs (.pN f)) := by
  rcases withN_cases P nt xs (.pN f) with e | ⟨ods, ho, e⟩ <;> rw [e]
  · exact Good.bad
  · exact fun ι e a m w hR hS hn r hr => h ι a.eval w _ r (evs_ok hR hS hn ho) hr
theorem goodR1 {P : Program} {nt : Nat} {o : Oper} {x : Operand} {f : R1}
    (h : ∀ (ι : Emb) (ρ : Operand → Value) (m : Mem) (w : World) (p r : AV), Rep P ι m w → R ι p (ρ x) → f m p = some r → ∃ v, (execOp ρ o).run P w = .ok (.value v) w ∧ R ι r v) : Good P nt o (with1 P nt x (.r1 f)) := by
  rcases with1_cases P nt x (.r1 f) with e | ⟨od, ho, e⟩ <;> rw [e]
  · exact Good.bad
  · exact fun ι e a m w hR hS hn r hr => h ι a.eval m w _ r hR (ev_ok hR hS hn ho) hr

/-! ### integers -/
theorem ikEq_eq {a b : IntKind} (h : ikEq a b = true) : a = b := by cases a <;> cases b <;> first | rfl | (simp [ikEq, ikNo] at h)
theorem wrap_eq (k : IntKind) (n : Int) : wrap k n = k.wrap n := by
  have key : ∀ (k : IntKind) (n : Int), -(ikLow k : Int) ≤ n → n ≤ (ikTop k : Int) → k.wrap n = n := by
    intro k n h1 h2
    cases k <;> simp only [ikLow, ikTop] at h1 h2 <;> simp only [IntKind.wrap, IntKind.bits, IntKind.signed] <;> simp <;> (try split) <;> omega
  cases n with
  | ofNat a =>
    have e : wrap k (Int.ofNat a) = Bool.casesOn (Nat.ble a (ikTop k)) (k.wrap (Int.ofNat a)) (Int.ofNat a) := rfl
    rw [e]
    cases h : Nat.ble a (ikTop k) with
    | false => rfl
    | true => exact (key k (Int.ofNat a) (by have : (0 : Int) ≤ Int.ofNat a := Int.natCast_nonneg a; omega) (by have := Nat.le_of_ble_eq_true h; exact Int.ofNat_le.2 this)).symm
  | negSucc a =>
    have e : wrap k (Int.negSucc a) = Bool.casesOn (Nat.ble (Nat.succ a) (ikLow k)) (k.wrap (Int.negSucc a)) (Int.negSucc a) := rfl
    rw [e]
    cases h : Nat.ble (Nat.succ a) (ikLow k) with
    | false => rfl
    | true =>
      have := Nat.le_of_ble_eq_true h
      exact (key k (Int.negSucc a) (by rw [Int.negSucc_eq]; omega) (by rw [Int.negSucc_eq]; omega)).symm
theorem iadd_eq (a b : Int) : iadd a b = a + b := by cases a <;> cases b <;> rfl
theorem ineg_eq (a : Int) : ineg a = -a := by
  cases a with
  | ofNat n => cases n <;> rfl
  | negSucc n => rfl
theorem imul_eq (a b : Int) : imul a b = a * b := by
  cases a with
  | ofNat m => cases b with
    | ofNat n => rfl
    | negSucc n => show ineg (Int.ofNat (m * n.succ)) = _; rw [ineg_eq]; rfl
  | negSucc m => cases b with
    | ofNat n => show ineg (Int.ofNat (m.succ * n)) = _; rw [ineg_eq]; rfl
    | negSucc n => rfl
theorem ieq_eq (a b : Int) : ieq a b = (a == b) := by
  cases a <;> cases b <;> simp only [ieq] <;> rw [Bool.eq_iff_iff] <;> simp
  omega
theorem ilt_eq (a b : Int) : ilt a b = decide (a < b) := by
  cases a <;> cases b <;> simp only [ilt] <;> rw [Bool.eq_iff_iff] <;> simp [Int.negSucc_eq] <;> omega

theorem iK_some {β : Type} {v : AV} {f : IntKind → Int → Option β} {r : β} (h : iK v none f = some r) : ∃ k n, v = .int k n ∧ f k n = some r := by
  cases v with
  | int k n => exact ⟨k, n, rfl, h⟩
  | _ => cases h
theorem sK_some {β : Type} {v : AV} {f : List UInt8 → Option β} {r : β} (h : sK v none f = some r) : ∃ l, v = .str l ∧ f l = some r := by
  cases v with
  | str l => exact ⟨l, rfl, h⟩
  | _ => cases h
theorem pK_some {β : Type} {v : AV} {f : Nat → Nat → Option β} {r : β} (h : pK v none f = some r) : ∃ o i, v = .ptr o i ∧ f o i = some r := by
  cases v with
  | ptr o i => exact ⟨o, i, rfl, h⟩
  | _ => cases h
end Go.K
end
section
namespace Go.K
open Go (Op)
section
variable {P : Program} {nt : Nat} {dst : Option Tmp} {ty : TypeId} {pos : String} {after : Array Edge} {guard : Option (Nat × Bool)}

theorem good_move (x : Operand) : Good P nt ⟨dst, .move x, ty, pos, after, guard⟩ (with1 P nt x .mv) := by
  rcases with1_cases P nt x .mv with e | ⟨od, ho, e⟩ <;> rw [e]
  · exact Good.bad
  · exact fun ι e a m w hR hS hn => ⟨_, by simp [execOp], ev_ok hR hS hn ho⟩
theorem good_assign (x : Operand) : Good P nt ⟨dst, .assign x, ty, pos, after, guard⟩ (with1 P nt x .mv) := by
  rcases with1_cases P nt x .mv with e | ⟨od, ho, e⟩ <;> rw [e]
  · exact Good.bad
  · exact fun ι e a m w hR hS hn => ⟨_, by simp [execOp], ev_ok hR hS hn ho⟩
theorem good_pick (c x y : Operand) : Good P nt ⟨dst, .pick c x y, ty, pos, after, guard⟩ (withN P nt [c, x, y] (.pN fPick)) := by
  refine goodN fun ι ρ w ps r hps hr => ?_
  simp only [List.map_cons, List.map_nil] at hps
  unfold fPick at hr
  split at hr
  · rename_i b u v
    obtain ⟨x1, l1, e1, h1, t1⟩ := hps.uncons
    obtain ⟨x2, l2, e2, h2, t2⟩ := t1.uncons
    obtain ⟨x3, l3, e3, h3, t3⟩ := t2.uncons
    subst e2; subst e3
    simp only [List.cons.injEq] at e1
    obtain ⟨rfl, rfl, rfl, rfl⟩ := e1
    simp only [R] at h1
    cases b with
    | false => cases hr; exact ⟨_, by simp [execOp, h1, asBool], h3⟩
    | true => cases hr; exact ⟨_, by simp [execOp, h1, asBool], h2⟩
  · cases hr
theorem good_nilCheck (x : Operand) : Good P nt ⟨dst, .nilCheck x, ty, pos, after, guard⟩ (with1 P nt x (.p1 fNilCheck)) := by
  refine good1 fun ι ρ w p r hp hr => ?_
  unfold fNilCheck at hr
  split at hr
  · cases hr
    have hp' := hp
    simp only [R] at hp'
    obtain ⟨L, _, hv⟩ := hp'
    exact ⟨_, by simp [execOp, hv], hv ▸ hp⟩
  · cases hr
    have hp' := hp
    simp only [R] at hp'
    obtain ⟨x1, y1, hv, _⟩ := hp'
    exact ⟨_, by simp [execOp, hv], hv ▸ hp⟩
  · cases hr
theorem good_extract (x : Operand) (i : Nat) : Good P nt ⟨dst, .extract x i, ty, pos, after, guard⟩ (with1 P nt x (.p1 (fExtract i))) := by
  refine good1 fun ι ρ w p r hp hr => ?_
  unfold fExtract at hr
  split at hr
  · simp only [R] at hp
    obtain ⟨vs, hv, hl⟩ := hp
    rw [nth_eq] at hr
    obtain ⟨v, h1, h2⟩ := hl.get hr
    exact ⟨v, by simp [execOp, hv, Instr.extract, h1], h2⟩
  · cases hr
theorem good_iface (t : TypeId) (x : Operand) {d : TypeDesc} (hd : P.underlying t = some d) (hi : ∀ ms, d ≠ .interface ms) :
    Good P nt ⟨dst, .makeInterface t x, ty, pos, after, guard⟩ (with1 P nt x (.p1 (fIface t))) := by
  refine good1 fun ι ρ w p r hp hr => ?_
  cases hr
  refine ⟨.iface t (ρ x), ?_, by simp only [R]; exact ⟨_, rfl, hp⟩⟩
  have : (Instr.makeInterface t (ρ x)).run P w = .ok (.iface t (ρ x)) w := by
    simp only [Instr.makeInterface, Sem.run_bind, run_underlying hd, Result.andThen_ok]
    cases d <;> first | exact absurd rfl (hi _) | simp
  simp [execOp, this]
theorem good_func (f : FuncId) (first caps : Array Operand) : Good P nt ⟨dst, .makeFunc (.func f) first caps, ty, pos, after, guard⟩ (withN P nt (first.toList ++ caps.toList) (.pN (fFunc f first.size))) := by
  refine goodN fun ι ρ w ps r hps hr => ?_
  cases hr
  refine ⟨.func (.func f) (first.map ρ) (caps.map ρ), by simp [execOp, Instr.makeFunc], ?_⟩
  simp only [R]
  refine ⟨(first.map ρ).toList, (caps.map ρ).toList, rfl, ?_, ?_⟩
  · rw [takeL_eq]
    have := hps.take first.size
    simpa [List.map_append, List.take_append] using this
  · rw [dropN_eq]
    have := hps.drop first.size
    simpa [List.map_append, List.drop_append] using this
/-! integers -/
theorem onInts_some {f : IntKind → Int → Int → Option AV} {x y r : AV} (h : onInts f x y = some r) : ∃ k a b, x = .int k a ∧ y = .int k b ∧ f k a b = some r := by
  unfold onInts at h
  obtain ⟨k, a, rfl, g1⟩ := iK_some h
  obtain ⟨k', b, rfl, g2⟩ := iK_some g1
  obtain ⟨h1, h2⟩ := brec (f := none) g2 (by simp)
  have := ikEq_eq h1
  subst this
  exact ⟨k, a, b, rfl, rfl, h2⟩
theorem onStrs_some {f : List UInt8 → List UInt8 → Option AV} {x y r : AV} (h : onStrs f x y = some r) : ∃ a b, x = .str a ∧ y = .str b ∧ f a b = some r := by
  unfold onStrs at h
  obtain ⟨a, rfl, g1⟩ := sK_some h
  obtain ⟨b, rfl, g2⟩ := sK_some g1
  exact ⟨a, b, rfl, rfl, g2⟩
theorem good_ints {op : BinOp} {t yt : TypeId} {x y : Operand} {f : IntKind → Int → Int → Option AV}
    (h : ∀ k a b r (w : World), f k a b = some r → ∃ v, (binOp op t (.int k a) (.int k b)).run P w = .ok v w ∧ ∀ ι, R ι r v) :
    Good P nt ⟨dst, .binOp op t x y yt, ty, pos, after, guard⟩ (with2 P nt x y (.p2 (onInts f))) := by
  refine good2 fun ι ρ w p q r hp hq hr => ?_
  obtain ⟨k, a, b, rfl, rfl, hf⟩ := onInts_some hr
  simp only [R] at hp hq
  obtain ⟨v, h1, h2⟩ := h k a b r w hf
  refine ⟨v, ?_, h2 ι⟩
  have : eqGuard op t x y (.int k a) (.int k b) = pure () := eqGuard_at_int ..
  simp [execOp, this, hp, hq, h1]
theorem good_add (t yt : TypeId) (x y : Operand) : Good P nt ⟨dst, .binOp .add t x y yt, ty, pos, after, guard⟩ (with2 P nt x y (.p2 fAddI)) :=
  good_ints fun k a b r w h => by cases h; exact ⟨.int k (k.wrap (a + b)), by simp [binOp_add, Op.intArith], fun ι => by simp [R, wrap_eq, iadd_eq]⟩
theorem good_sub (t yt : TypeId) (x y : Operand) : Good P nt ⟨dst, .binOp .sub t x y yt, ty, pos, after, guard⟩ (with2 P nt x y (.p2 fSub)) :=
  good_ints fun k a b r w h => by cases h; exact ⟨.int k (k.wrap (a - b)), by simp [binOp_sub, Op.intArith], fun ι => by simp [R, wrap_eq, iadd_eq, ineg_eq, Int.sub_eq_add_neg]⟩
theorem good_mul (t yt : TypeId) (x y : Operand) : Good P nt ⟨dst, .binOp .mul t x y yt, ty, pos, after, guard⟩ (with2 P nt x y (.p2 fMul)) :=
  good_ints fun k a b r w h => by cases h; exact ⟨.int k (k.wrap (a * b)), by simp [binOp_mul, Op.intArith], fun ι => by simp [R, wrap_eq, imul_eq]⟩
theorem good_quo (t yt : TypeId) (x y : Operand) : Good P nt ⟨dst, .binOp .quo t x y yt, ty, pos, after, guard⟩ (with2 P nt x y (.p2 fQuo)) :=
  good_ints fun k a b r w h => by
    rw [ieq_eq] at h
    cases hb : (b == Int.ofNat 0) with
    | true => rw [hb] at h; cases h
    | false =>
      rw [hb] at h; cases h
      have : b ≠ 0 := by simpa using hb
      exact ⟨.int k (k.wrap (a.tdiv b)), by simp [binOp_quo, Op.intDiv, this], fun ι => by simp [R, wrap_eq]⟩
theorem good_rem (t yt : TypeId) (x y : Operand) : Good P nt ⟨dst, .binOp .rem t x y yt, ty, pos, after, guard⟩ (with2 P nt x y (.p2 fRem)) :=
  good_ints fun k a b r w h => by
    rw [ieq_eq] at h
    cases hb : (b == Int.ofNat 0) with
    | true => rw [hb] at h; cases h
    | false =>
      rw [hb] at h; cases h
      have : b ≠ 0 := by simpa using hb
      exact ⟨.int k (a.tmod b), by simp [binOp_rem, Op.intDiv, this], fun ι => by simp [R]⟩
theorem good_lss (t yt : TypeId) (x y : Operand) : Good P nt ⟨dst, .binOp .lss t x y yt, ty, pos, after, guard⟩ (with2 P nt x y (.p2 fLtI)) :=
  good_ints fun k a b r w h => by cases h; exact ⟨.bool (decide (a < b)), by simp [binOp_lss], fun ι => by simp [R, ilt_eq]⟩
theorem good_gtr (t yt : TypeId) (x y : Operand) : Good P nt ⟨dst, .binOp .gtr t x y yt, ty, pos, after, guard⟩ (with2 P nt x y (.p2 fGtI)) :=
  good_ints fun k a b r w h => by cases h; exact ⟨.bool (decide (b < a)), by simp [binOp_gtr], fun ι => by simp [R, ilt_eq]⟩
theorem not_lt_dec (a b : Int) : (!decide (a < b)) = decide (b ≤ a) := by rw [Bool.eq_iff_iff]; simp
theorem good_leq (t yt : TypeId) (x y : Operand) : Good P nt ⟨dst, .binOp .leq t x y yt, ty, pos, after, guard⟩ (with2 P nt x y (.p2 fLeI)) :=
  good_ints fun k a b r w h => by cases h; exact ⟨.bool (decide (a ≤ b)), by simp [binOp_leq], fun ι => by simp [R, ilt_eq, not_lt_dec]⟩
theorem good_geq (t yt : TypeId) (x y : Operand) : Good P nt ⟨dst, .binOp .geq t x y yt, ty, pos, after, guard⟩ (with2 P nt x y (.p2 fGeI)) :=
  good_ints fun k a b r w h => by cases h; exact ⟨.bool (decide (b ≤ a)), by simp [binOp_geq], fun ι => by simp [R, ilt_eq, not_lt_dec]⟩
theorem good_eqI (t yt : TypeId) (x y : Operand) : Good P nt ⟨dst, .binOp .eql t x y yt, ty, pos, after, guard⟩ (with2 P nt x y (.p2 fEqI)) :=
  good_ints fun k a b r w h => by cases h; exact ⟨.bool (a == b), by simp [binOp_eql], fun ι => by simp [R, ieq_eq]⟩
theorem good_neI (t yt : TypeId) (x y : Operand) : Good P nt ⟨dst, .binOp .neq t x y yt, ty, pos, after, guard⟩ (with2 P nt x y (.p2 fNeI)) :=
  good_ints fun k a b r w h => by cases h; exact ⟨.bool (a != b), by simp [binOp_neq], fun ι => by simp [R, ieq_eq, bne]⟩
end
end Go.K
end
section
namespace Go.K
open Go (Op)

theorem byteNo_eq (a b : UInt8) : Nat.beq (byteNo a) (byteNo b) = (a == b) := by
  rw [Bool.eq_iff_iff]; simp only [Nat.beq_eq, beq_iff_eq, byteNo]
  exact ⟨fun h => UInt8.toNat.inj h, fun h => by rw [h]⟩
theorem eqB_eq : ∀ (a b : List UInt8), eqB a b = (a == b)
  | [], [] => rfl
  | [], _ :: _ => rfl
  | _ :: _, [] => rfl
  | x :: xs, y :: ys => by
    have e : eqB (x :: xs) (y :: ys) = Bool.casesOn (Nat.beq (byteNo x) (byteNo y)) false (eqB xs ys) := rfl
    rw [e, byteNo_eq, eqB_eq xs ys]
    cases hxy : (x == y) <;> simp [hxy]
theorem ltB_eq : ∀ (a b : List UInt8), ltB a b = Op.bytesLess a b
  | [], [] => by rfl
  | [], _ :: _ => by rfl
  | _ :: _, [] => by rfl
  | x :: xs, y :: ys => by
    have e : ltB (x :: xs) (y :: ys) = Bool.casesOn (Nat.ble (Nat.succ (byteNo x)) (byteNo y)) (Bool.casesOn (Nat.beq (byteNo x) (byteNo y)) false (ltB xs ys)) true := rfl
    have h : Nat.ble (Nat.succ (byteNo x)) (byteNo y) = decide (x < y) := by
      rw [Bool.eq_iff_iff]; simp only [Nat.ble_eq, decide_eq_true_eq, UInt8.lt_iff_toNat_lt, byteNo]; omega
    rw [e, byteNo_eq, h, ltB_eq xs ys, Op.bytesLess]
    cases h1 : decide (x < y) <;> cases h2 : (x == y) <;> simp
theorem toList_mk (l : List UInt8) : (ByteArray.mk ⟨l⟩).toList = l := by rw [ByteArray.toList_eq]
theorem less_tri : ∀ (a b : List UInt8), (Op.bytesLess a b || a == b) = !Op.bytesLess b a
  | [], [] => by simp [Op.bytesLess]
  | [], _ :: _ => by simp [Op.bytesLess]
  | _ :: _, [] => by simp [Op.bytesLess]
  | x :: xs, y :: ys => by
    have ih := less_tri xs ys
    simp only [Op.bytesLess]
    by_cases h1 : x < y
    · have h2 : ¬ y < x := by simp only [UInt8.lt_iff_toNat_lt] at *; omega
      have h3 : (y == x) = false := by simp only [beq_eq_false_iff_ne]; intro e; subst e; exact h2 h1
      simp [h1, h2, h3]
    · by_cases h2 : y < x
      · have h3 : (x == y) = false := by simp only [beq_eq_false_iff_ne]; intro e; subst e; exact h1 h2
        simp [h1, h2, h3]
      · have e : x = y := by
          apply UInt8.toNat.inj
          simp only [UInt8.lt_iff_toNat_lt] at *; omega
        subst e
        simp [h1, ← ih]

section
variable {P : Program} {nt : Nat} {dst : Option Tmp} {ty : TypeId} {pos : String} {after : Array Edge} {guard : Option (Nat × Bool)}
theorem str_size (l : List UInt8) : (ByteArray.mk ⟨l⟩).size = l.length := rfl
theorem good_strs {op : BinOp} {t yt : TypeId} {x y : Operand} {f : List UInt8 → List UInt8 → Option AV}
    (h : ∀ a b r (w : World), f a b = some r → ∃ v, (binOp op t (.string ⟨⟨a⟩⟩) (.string ⟨⟨b⟩⟩)).run P w = .ok v w ∧ ∀ ι, R ι r v) :
    Good P nt ⟨dst, .binOp op t x y yt, ty, pos, after, guard⟩ (with2 P nt x y (.p2 (onStrs f))) := by
  refine good2 fun ι ρ w p q r hp hq hr => ?_
  obtain ⟨a, b, rfl, rfl, hf⟩ := onStrs_some hr
  simp only [R] at hp hq
  obtain ⟨v, h1, h2⟩ := h a b r w hf
  refine ⟨v, ?_, h2 ι⟩
  have : eqGuard op t x y (.string ⟨⟨a⟩⟩) (.string ⟨⟨b⟩⟩) = pure () := eqGuard_at_string ..
  simp [execOp, this, hp, hq, h1]
theorem good_addS (t yt : TypeId) (x y : Operand) : Good P nt ⟨dst, .binOp .add t x y yt, ty, pos, after, guard⟩ (with2 P nt x y (.p2 fAddS)) :=
  good_strs fun a b r w h => by
    obtain ⟨h1, h2⟩ := brec (f := none) h (by simp)
    cases h2
    rw [len_eq, len_eq] at h1
    have h3 : a.length + b.length ≤ 9223372036854775807 := Nat.le_of_ble_eq_true h1
    refine ⟨.string (⟨⟨a⟩⟩ ++ ⟨⟨b⟩⟩), ?_, fun ι => ?_⟩
    · have : ¬ (((ByteArray.mk ⟨a⟩).size + (ByteArray.mk ⟨b⟩).size : Nat) : Int) > IntKind.i64.max := by rw [IntKind.max_i64, str_size, str_size]; omega
      simp only [binOp, Op.stringOp, if_neg this]
      rfl
    · simp only [R, app_eq]; congr 1
theorem good_ltS (t yt : TypeId) (x y : Operand) : Good P nt ⟨dst, .binOp .lss t x y yt, ty, pos, after, guard⟩ (with2 P nt x y (.p2 fLtS)) :=
  good_strs fun a b r w h => by cases h; exact ⟨.bool (Op.bytesLess a b), by simp [binOp, Op.stringOp], fun ι => by simp [R, ltB_eq]⟩
theorem good_geS (t yt : TypeId) (x y : Operand) : Good P nt ⟨dst, .binOp .geq t x y yt, ty, pos, after, guard⟩ (with2 P nt x y (.p2 fGeS)) :=
  good_strs fun a b r w h => by cases h; exact ⟨.bool (!Op.bytesLess a b), by simp [binOp, Op.stringOp], fun ι => by simp [R, ltB_eq]⟩
theorem good_leS (t yt : TypeId) (x y : Operand) : Good P nt ⟨dst, .binOp .leq t x y yt, ty, pos, after, guard⟩ (with2 P nt x y (.p2 fLeS)) :=
  good_strs fun a b r w h => by cases h; exact ⟨.bool (Op.bytesLess a b || a == b), by simp [binOp, Op.stringOp], fun ι => by simp [R, ltB_eq, less_tri]⟩
theorem good_gtS (t yt : TypeId) (x y : Operand) : Good P nt ⟨dst, .binOp .gtr t x y yt, ty, pos, after, guard⟩ (with2 P nt x y (.p2 fGtS)) :=
  good_strs fun a b r w h => by cases h; exact ⟨.bool (!(Op.bytesLess a b || a == b)), by simp [binOp, Op.stringOp], fun ι => by simp [R, ltB_eq, less_tri]⟩
theorem good_shl (t yt : TypeId) (x y : Operand) : Good P nt ⟨dst, .binOp .shl t x y yt, ty, pos, after, guard⟩ (with2 P nt x y (.p2 fShl)) := by
  refine good2 fun ι ρ w p q r hp hq hr => ?_
  unfold fShl at hr
  split at hr
  · rename_i k a
    split at hr
    · rename_i k' n
      cases hr
      simp only [R] at hp hq
      refine ⟨.int k (k.wrap (a * 2 ^ min n k.bits)), ?_, ?_⟩
      · have h0 : ¬ ((Int.ofNat n) < 0) := by simp
        simp [execOp, hp, hq, binOp_shl, Op.shift, eqGuard_shl]
        intro hlt; omega
      · simp only [R, wrap_eq, imul_eq]
        simp [Nat.min_def]
    · cases hr
  · cases hr
theorem shrI_eq (a : Int) (n : Nat) : shrI a (2 ^ n) = a.fdiv (2 ^ n) := by
  have e : ((2 : Int) ^ n) = ((2 ^ n : Nat) : Int) := by simp
  have hp : 0 < 2 ^ n := Nat.pow_pos (by decide)
  rw [e]
  cases a with
  | ofNat m =>
    unfold shrI
    show Int.ofNat (m / 2 ^ n) = Int.fdiv (Int.ofNat m) ((2 ^ n : Nat) : Int)
    rw [Int.fdiv_eq_ediv_of_nonneg _ (by omega)]
    rfl
  | negSucc m =>
    unfold shrI
    show Int.negSucc (m / 2 ^ n) = Int.fdiv (Int.negSucc m) ((2 ^ n : Nat) : Int)
    generalize 2 ^ n = d at hp
    cases d with
    | zero => cases hp
    | succ d => rfl
theorem good_shr (t yt : TypeId) (x y : Operand) : Good P nt ⟨dst, .binOp .shr t x y yt, ty, pos, after, guard⟩ (with2 P nt x y (.p2 fShr)) := by
  refine good2 fun ι ρ w p q r hp hq hr => ?_
  unfold fShr at hr
  split at hr
  · rename_i k a
    split at hr
    · rename_i k' n
      cases hr
      simp only [R] at hp hq
      refine ⟨.int k (a.fdiv (2 ^ min n k.bits)), ?_, ?_⟩
      · have h0 : ¬ ((Int.ofNat n) < 0) := by simp
        simp [execOp, hp, hq, binOp_shr, Op.shift, eqGuard_shr]
        intro hlt; omega
      · simp only [R]
        exact congrArg _ (shrI_eq a (min n k.bits)).symm
    · cases hr
  · cases hr
end
end Go.K
end
section
namespace Go.K
open Go (Op)
section
variable {P : Program} {nt : Nat} {dst : Option Tmp} {ty : TypeId} {pos : String} {after : Array Edge} {guard : Option (Nat × Bool)}
theorem wrap_mod (k : IntKind) (n : Nat) : k.wrap ((n % 2 ^ k.bits : Nat) : Int) = k.wrap (n : Int) := by
  unfold IntKind.wrap
  have : ((n % 2 ^ k.bits : Nat) : Int) % (2 ^ k.bits : Int) = (n : Int) % (2 ^ k.bits : Int) := by
    rw [Int.natCast_emod]
    simp
  simp only [this]
theorem ofInt_tw (b : Nat) (a : Int) : BitVec.ofInt b a = BitVec.ofNat b (tw b a) := by
  apply BitVec.eq_of_toNat_eq
  rw [BitVec.toNat_ofInt, BitVec.toNat_ofNat]
  cases a with
  | ofNat m =>
    unfold tw
    show ((m : Int) % ((2 ^ b : Nat) : Int)).toNat = m % 2 ^ b
    rw [← Int.natCast_emod, Int.toNat_natCast]
  | negSucc m =>
    unfold tw
    show (Int.negSucc m % ((2 ^ b : Nat) : Int)).toNat = (2 ^ b - (m % 2 ^ b + 1)) % 2 ^ b
    have hp : 0 < 2 ^ b := Nat.pow_pos (by decide)
    generalize 2 ^ b = d at hp
    have h1 : m % d < d := Nat.mod_lt _ hp
    rw [Nat.mod_eq_of_lt (by omega)]
    have h2 : Int.negSucc m % (d : Int) = ((d - (m % d + 1) : Nat) : Int) := by
      rw [Int.negSucc_emod _ (by omega)]
      have : ((m : Int) % (d : Int)) = ((m % d : Nat) : Int) := by simp
      rw [this]
      omega
    rw [h2, Int.toNat_natCast]
theorem good_bits {op : BinOp} {g : Nat → Nat → Nat} (t yt : TypeId) (x y : Operand)
    (h : ∀ (k : IntKind) (a b : Int) (w : World), (binOp op t (.int k a) (.int k b)).run P w = .ok (.int k (k.wrap (g (tw k.bits a) (tw k.bits b) : Nat))) w) :
    Good P nt ⟨dst, .binOp op t x y yt, ty, pos, after, guard⟩ (with2 P nt x y (.p2 (onBits g))) := by
  refine good_ints fun k a b r w hr => ?_
  cases hr
  exact ⟨_, h k _ _ w, fun ι => by simp only [R, wrap_eq]; rfl⟩
theorem good_and (t yt : TypeId) (x y : Operand) : Good P nt ⟨dst, .binOp .and t x y yt, ty, pos, after, guard⟩ (with2 P nt x y (.p2 (onBits Nat.land))) :=
  good_bits t yt x y fun k a b w => by
    rw [binOp_and]
    simp only [Op.intBits]
    show Result.ok (Value.int k (k.wrap ((BitVec.ofInt k.bits a &&& BitVec.ofInt k.bits b).toNat : Nat))) w = _
    rw [ofInt_tw, ofInt_tw, BitVec.toNat_and, BitVec.toNat_ofNat, BitVec.toNat_ofNat, ← Nat.and_mod_two_pow, wrap_mod]
    rfl
theorem good_or (t yt : TypeId) (x y : Operand) : Good P nt ⟨dst, .binOp .or t x y yt, ty, pos, after, guard⟩ (with2 P nt x y (.p2 (onBits Nat.lor))) :=
  good_bits t yt x y fun k a b w => by
    rw [binOp_or]
    simp only [Op.intBits]
    show Result.ok (Value.int k (k.wrap ((BitVec.ofInt k.bits a ||| BitVec.ofInt k.bits b).toNat : Nat))) w = _
    rw [ofInt_tw, ofInt_tw, BitVec.toNat_or, BitVec.toNat_ofNat, BitVec.toNat_ofNat, ← Nat.or_mod_two_pow, wrap_mod]
    rfl
theorem good_xor (t yt : TypeId) (x y : Operand) : Good P nt ⟨dst, .binOp .xor t x y yt, ty, pos, after, guard⟩ (with2 P nt x y (.p2 (onBits Nat.xor))) :=
  good_bits t yt x y fun k a b w => by
    rw [binOp_xor]
    simp only [Op.intBits]
    show Result.ok (Value.int k (k.wrap ((BitVec.ofInt k.bits a ^^^ BitVec.ofInt k.bits b).toNat : Nat))) w = _
    rw [ofInt_tw, ofInt_tw, BitVec.toNat_xor, BitVec.toNat_ofNat, BitVec.toNat_ofNat, ← Nat.xor_mod_two_pow, wrap_mod]
    rfl

/-! '==' -/
theorem beqb_eq (a b : Bool) : beqb a b = (a == b) := by cases a <;> cases b <;> rfl
theorem part_run {ι : Emb} {t : TypeId} {n off : Nat} {xs : List AV} {a : AV} {vs : Array Value} (w : World) (hs : sizeT P t = some n) (hx : RL ι xs vs.toList) (h : part (isAgg P t) n xs off = some a) :
    ∃ v, (Go.part t vs off).run P w = .ok v w ∧ R ι a v := by
  obtain ⟨d, i, hd, _, _⟩ := sizeT_some hs
  cases hA : isAgg P t with
  | true =>
    rw [hA] at h
    obtain ⟨cs, h1, rfl⟩ := part_agg h
    obtain ⟨h2, rfl⟩ := cut_some h1
    refine ⟨.agg (vs.extract off (off + n)), ?_, ?_⟩
    · simp [Go.part, isAgg_run hd, hA, sizeOf_run hs]
    · simp only [R]
      refine ⟨(vs.toList.drop off).take n, ?_, (hx.drop off).take n⟩
      congr 1
      apply Array.ext'
      rw [Array.toList_extract]
      simp [List.extract_eq_take_drop]
  | false =>
    rw [hA] at h
    have h' : nth xs off = some a := h
    rw [nth_eq] at h'
    obtain ⟨v, h1, h2⟩ := hx.get h'
    refine ⟨v, ?_, h2⟩
    rw [Array.getElem?_toList] at h1
    simp [Go.part, isAgg_run hd, hA, h1]
end
end Go.K
end
section
namespace Go.K
open Go (Op)
section
variable {P : Program} {nt : Nat} {dst : Option Tmp} {ty : TypeId} {pos : String} {after : Array Edge} {guard : Option (Nat × Bool)}
theorem eqInt_some {x y : AV} {r : Bool} (h : eqInt x y = some r) : ∃ k a b, x = .int k a ∧ y = .int k b ∧ r = (a == b) := by
  unfold eqInt at h
  obtain ⟨k, a, rfl, g1⟩ := iK_some h
  obtain ⟨k', b, rfl, g2⟩ := iK_some g1
  obtain ⟨h1, h2⟩ := brec (f := none) g2 (by simp)
  have := ikEq_eq h1; subst this
  cases h2
  exact ⟨_, _, _, rfl, rfl, ieq_eq _ _⟩
theorem eqStr_some {x y : AV} {r : Bool} (h : eqStr x y = some r) : ∃ a b, x = .str a ∧ y = .str b ∧ r = (a == b) := by
  unfold eqStr at h
  obtain ⟨a, rfl, g1⟩ := sK_some h
  obtain ⟨b, rfl, g2⟩ := sK_some g1
  cases g2
  exact ⟨_, _, rfl, rfl, eqB_eq _ _⟩
theorem eqBo_some {x y : AV} {r : Bool} (h : eqBo x y = some r) : ∃ a b, x = .bool a ∧ y = .bool b ∧ r = (a == b) := by
  unfold eqBo at h
  split at h
  · split at h
    · cases h; exact ⟨_, _, rfl, rfl, beqb_eq _ _⟩
    · cases h
  · cases h
theorem eqFs_ok {ι : Emb} {xs ys : List AV} {us vs : Array Value} {n : Nat} {ih : TypeId → AV → AV → Option Bool} (hx : RL ι xs us.toList) (hy : RL ι ys vs.toList) (w : World)
    (hih : ∀ t x y u v r, ih t x y = some r → R ι x u → R ι y v → (Op.equalIn n t u v).run P w = .ok r w) :
    ∀ (fs : List Field) (r : Bool), eqFs P ih fs xs ys = some r → (Op.eqFields n us vs fs).run P w = .ok r w
  | [], r, h => by cases h; simp [Op.eqFields]
  | f :: fs, r, h => by
    have e : eqFs P ih (f :: fs) xs ys = Bool.casesOn (f.name == "_")
      (Option.casesOn (sizeT P f.type) none fun n => Option.casesOn (part (isAgg P f.type) n xs f.offset) none fun a => Option.casesOn (part (isAgg P f.type) n ys f.offset) none fun b =>
      Option.casesOn (ih f.type a b) none fun r => Bool.casesOn r (some false) (eqFs P ih fs xs ys)) (eqFs P ih fs xs ys) := rfl
    rw [e] at h
    cases hn : f.name == "_" with
    | true =>
      rw [hn] at h
      have hn' : f.name = "_" := by simpa using hn
      simp only [Op.eqFields, hn', ne_eq, not_true_eq_false, if_false]
      exact eqFs_ok hx hy w hih fs r h
    | false =>
      rw [hn] at h
      have hn' : f.name ≠ "_" := by simpa using hn
      obtain ⟨sz, hs, h⟩ := orec (b := none) h (by simp)
      obtain ⟨a, ha, h⟩ := orec (b := none) h (by simp)
      obtain ⟨b, hb, h⟩ := orec (b := none) h (by simp)
      obtain ⟨q, hq, h⟩ := orec (b := none) h (by simp)
      obtain ⟨u, hu, hau⟩ := part_run w hs hx ha
      obtain ⟨v, hv, hbv⟩ := part_run w hs hy hb
      simp only [Op.eqFields, hn', ne_eq, not_false_eq_true, if_true, Sem.run_bind, hu, hv, Result.andThen_ok, hih _ _ _ _ _ _ hq hau hbv]
      cases q with
      | false => cases h; simp
      | true => simpa using eqFs_ok hx hy w hih fs r h
theorem eqD_ok {ι : Emb} : ∀ (d n : Nat) (t : TypeId) (x y : AV) (u v : Value) (r : Bool) (w : World), d ≤ n → eqD P d t x y = some r → R ι x u → R ι y v → (Op.equalIn n t u v).run P w = .ok r w
  | 0, _, _, _, _, _, _, _, _, _, h, _, _ => by cases h
  | d + 1, 0, _, _, _, _, _, _, _, hn, _, _, _ => by omega
  | d + 1, n + 1, t, x, y, u, v, r, w, hn, h, hx, hy => by
    unfold eqD at h
    simp only at h
    split at h
    · rename_i fs hu
      split at h
      · rename_i xs
        split at h
        · rename_i ys
          cases hst : P.stoodInHeld t with
          | true => rw [hst] at h; cases h
          | false =>
            rw [hst] at h
            simp only [R] at hx hy
            obtain ⟨us, rfl, hxs⟩ := hx
            obtain ⟨vs, rfl, hys⟩ := hy
            have hf : P.fieldsOf t = fs := by simp [Program.fieldsOf, hu]
            rw [run_equalIn_agg w n t _ _ (by rw [hf]; exact hu) hst, hf]
            exact eqFs_ok (by simpa using hxs) (by simpa using hys) w (fun t x y u v r h1 h2 h3 => eqD_ok d n t x y u v r w (by omega) h1 h2 h3) _ _ h
        · cases h
      · cases h
    · rename_i k hu
      obtain ⟨k', a, b, rfl, rfl, rfl⟩ := eqInt_some h
      simp only [R] at hx hy; subst hx; subst hy
      exact run_equalIn_int w n t k' k a b hu
    · rename_i hu
      obtain ⟨a, b, rfl, rfl, rfl⟩ := eqBo_some h
      simp only [R] at hx hy; subst hx; subst hy
      exact run_equalIn_bool' w n t a b hu
    · rename_i hu
      obtain ⟨a, b, rfl, rfl, rfl⟩ := eqStr_some h
      simp only [R] at hx hy; subst hx; subst hy
      rw [run_equalIn_string w n t _ _ hu, toList_mk, toList_mk]
    · cases h
theorem guard_plain : ∀ (d n : Nat) (t : TypeId), d ≤ n → plainEq P d t = true → P.eqGuardType n t = false
  | 0, _, _, _, h => by cases h
  | d + 1, 0, _, hn, _ => by omega
  | d + 1, n + 1, t, hn, h => by
    unfold plainEq at h
    unfold Program.eqGuardType
    split at h
    · rename_i hu; simp [hu]
    · rename_i hu; simp [hu]
    · rename_i hu; simp [hu]
    · rename_i fs hu
      simp only [hu]
      rw [← Array.any_toList]
      rw [List.any_eq_false]
      intro f hf
      rw [List.all_eq_true] at h
      simp [guard_plain d n f.type (by omega) (h f hf)]
    · cases h
theorem eqD_agg (d : Nat) {t : TypeId} {fs : Array Field} {p q : AV} {r : Bool} (hu : P.underlying t = some (.struct fs)) (h : eqD P (d + 1) t p q = some r) : ∃ xs ys, p = .agg xs ∧ q = .agg ys := by
  unfold eqD at h
  simp only [hu] at h
  split at h
  · split at h
    · exact ⟨_, _, rfl, rfl⟩
    · cases h
  · cases h
theorem eq_close {t : TypeId} {u v : Value} {r : Bool} (w : World) (x y : Operand) (hk : ∀ n, (Op.equalIn (n + 1) t u v).run P w = .ok r w) (hb1 : binOp .eql t u v = (do pure (.bool (← Op.equal t u v))))
    (hb2 : binOp .neq t u v = (do pure (.bool (!(← Op.equal t u v))))) (hg : ∀ op, (eqGuard op t x y u v).run P w = .ok () w) :
    (eqGuard .eql t x y u v).run P w = .ok () w ∧ (eqGuard .neq t x y u v).run P w = .ok () w ∧
    (binOp .eql t u v).run P w = .ok (.bool r) w ∧ (binOp .neq t u v).run P w = .ok (.bool (!r)) w := by
  have h : (Op.equal t u v).run P w = .ok r w := hk 9999
  refine ⟨hg _, hg _, ?_, ?_⟩
  · rw [hb1, Sem.run_bind, h]; rfl
  · rw [hb2, Sem.run_bind, h]; rfl
/-- what a comparison by type tells -/
theorem eqT_ok {ι : Emb} {t : TypeId} {f : AV → AV → Option Bool} {p q : AV} {u v : Value} {r : Bool} (w : World) (x y : Operand) (h : eqT P t = some f) (hf : f p q = some r) (hp : R ι p u) (hq : R ι q v) :
    (eqGuard .eql t x y u v).run P w = .ok () w ∧ (eqGuard .neq t x y u v).run P w = .ok () w ∧
    (binOp .eql t u v).run P w = .ok (.bool r) w ∧ (binOp .neq t u v).run P w = .ok (.bool (!r)) w := by
  unfold eqT at h
  split at h
  · cases h
    obtain ⟨a, b, rfl, rfl, rfl⟩ := eqStr_some hf
    simp only [R] at hp hq; subst hp; subst hq
    refine ⟨by simp [eqGuard], by simp [eqGuard], ?_, ?_⟩
    · simp [binOp, Op.stringOp]
    · simp [binOp, Op.stringOp]
  · rename_i hu
    cases h
    obtain ⟨a, b, rfl, rfl, rfl⟩ := eqBo_some hf
    simp only [R] at hp hq; subst hp; subst hq
    exact eq_close w x y (fun n => run_equalIn_bool' w _ t a b hu) rfl rfl (fun op => by cases op <;> simp [eqGuard])
  · rename_i e hu
    split at h
    · rename_i n hs
      cases h
      unfold eqPtr at hf
      split at hf
      · split at hf
        · cases hf
          simp only [R] at hp hq; subst hp; subst hq
          exact eq_close w x y (fun n => by simp [Op.equalIn, run_underlying hu]) rfl rfl (fun op => by cases op <;> simp [eqGuard])
        · cases hf
          simp only [R] at hp hq; subst hp; obtain ⟨L, _, rfl⟩ := hq
          exact eq_close w x y (fun n => by simp [Op.equalIn, run_underlying hu]) rfl rfl (fun op => by cases op <;> simp [eqGuard])
        · cases hf
      · split at hf
        · cases hf
          simp only [R] at hp hq; subst hq; obtain ⟨L, _, rfl⟩ := hp
          exact eq_close w x y (fun n => by simp [Op.equalIn, run_underlying hu]) rfl rfl (fun op => by cases op <;> simp [eqGuard])
        · rename_i o i' _ o' j
          obtain ⟨h1, h2⟩ := brec (f := none) hf (by simp)
          cases h2
          simp only [Bool.and_eq_true] at h1
          obtain ⟨g1, g2⟩ := h1
          have g2' := Nat.eq_of_beq_eq_true g2; subst g2'
          have hn : n ≠ 0 := by have := Nat.le_of_ble_eq_true g1; omega
          simp only [R] at hp hq
          obtain ⟨L, hL, rfl⟩ := hp; obtain ⟨L', hL', rfl⟩ := hq
          rw [hL] at hL'; cases hL'
          have hb : ((⟨L.b, L.base + i', none⟩ : Addr) == ⟨L.b, L.base + j, none⟩) = Nat.beq i' j := by
            rw [Bool.eq_iff_iff]; simp
          exact eq_close w x y (fun k => by simp only [Op.equalIn, Sem.run_bind, run_underlying hu, Result.andThen_ok, sizeOf_run hs, hn, ne_eq, not_false_eq_true, if_true, sameAddr, beq_self_eq_true, hb, Sem.run_pure]) rfl rfl (fun op => by cases op <;> simp [eqGuard])
        · cases hf
      · cases hf
    · cases h
  · rename_i e hu
    cases h
    unfold eqSl at hf
    split at hf
    · split at hf
      · cases hf
        simp only [R] at hp hq; subst hp; subst hq
        exact eq_close w x y (fun n => by simp [Op.equalIn, run_underlying hu]) rfl rfl (fun op => by cases op <;> simp [eqGuard])
      · cases hf
        simp only [R] at hp hq; subst hp; obtain ⟨L, c, _, rfl, _⟩ := hq
        exact eq_close w x y (fun n => by simp [Op.equalIn, run_underlying hu]) rfl rfl (fun op => by cases op <;> simp [eqGuard])
      · cases hf
    · split at hf
      · cases hf
        simp only [R] at hp hq; subst hq; obtain ⟨L, c, _, rfl, _⟩ := hp
        exact eq_close w x y (fun n => by simp [Op.equalIn, run_underlying hu]) rfl rfl (fun op => by cases op <;> simp [eqGuard])
      · cases hf
    · cases hf
  · rename_i k e hu
    cases h
    unfold eqMap at hf
    split at hf
    · split at hf
      · cases hf
        simp only [R] at hp hq; subst hp; subst hq
        exact eq_close w x y (fun n => by simp [Op.equalIn, run_underlying hu]) rfl rfl (fun op => by cases op <;> simp [eqGuard])
      · cases hf
        simp only [R] at hp hq; subst hp; obtain ⟨L, _, rfl⟩ := hq
        exact eq_close w x y (fun n => by simp [Op.equalIn, run_underlying hu]) rfl rfl (fun op => by cases op <;> simp [eqGuard])
      · cases hf
    · split at hf
      · cases hf
        simp only [R] at hp hq; subst hq; obtain ⟨L, _, rfl⟩ := hp
        exact eq_close w x y (fun n => by simp [Op.equalIn, run_underlying hu]) rfl rfl (fun op => by cases op <;> simp [eqGuard])
      · cases hf
    · cases hf
  · rename_i hu
    cases h
    unfold eqFn at hf
    split at hf
    · split at hf
      · cases hf
        simp only [R] at hp hq; subst hp; subst hq
        exact eq_close w x y (fun n => by simp [Op.equalIn, run_underlying hu]) rfl rfl (fun op => by cases op <;> simp [eqGuard])
      · cases hf
        simp only [R] at hp hq; subst hp; obtain ⟨a, b, rfl, _⟩ := hq
        exact eq_close w x y (fun n => by simp [Op.equalIn, run_underlying hu]) rfl rfl (fun op => by cases op <;> simp [eqGuard])
      · cases hf
    · split at hf
      · cases hf
        simp only [R] at hp hq; subst hq; obtain ⟨a, b, rfl, _⟩ := hp
        exact eq_close w x y (fun n => by simp [Op.equalIn, run_underlying hu]) rfl rfl (fun op => by cases op <;> simp [eqGuard])
      · cases hf
    · cases hf
  · rename_i fs hu
    obtain ⟨h1, h2⟩ := brec (f := none) h (by simp)
    cases h2
    simp only [Bool.and_eq_true] at h1
    have hg := guard_plain 8 P.depth t (Nat.le_of_ble_eq_true h1.2) h1.1
    have hx : ∃ xs ys, p = .agg xs ∧ q = .agg ys := eqD_agg 8 hu hf
    obtain ⟨xs, ys, rfl, rfl⟩ := hx
    have hr : ∀ n, 9 ≤ n → (Op.equalIn n t u v).run P w = .ok r w := fun n hn => eqD_ok 9 n t _ _ _ _ r w hn hf hp hq
    simp only [R] at hp hq
    obtain ⟨us, rfl, _⟩ := hp
    obtain ⟨vs, rfl, _⟩ := hq
    refine ⟨run_eqGuard_agg w _ t x y _ _ hg, run_eqGuard_agg w _ t x y _ _ hg, ?_, ?_⟩
    · rw [run_eql_struct, hr _ (by omega)]; rfl
    · rw [run_neq_struct, hr _ (by omega)]; rfl
  · cases h
theorem good_eqT {t yt : TypeId} {x y : Operand} {f : AV → AV → Option Bool} (h : eqT P t = some f) : Good P nt ⟨dst, .binOp .eql t x y yt, ty, pos, after, guard⟩ (with2 P nt x y (.p2 (fEq false f))) := by
  refine good2 fun ι ρ w p q r hp hq hr => ?_
  obtain ⟨b, hb, hr⟩ := orec (b := none) hr (by simp)
  cases hr
  obtain ⟨h1, _, h3, _⟩ := eqT_ok w x y h hb hp hq
  exact ⟨.bool b, by simp [execOp, h1, h3], by simp [R]⟩
theorem good_neT {t yt : TypeId} {x y : Operand} {f : AV → AV → Option Bool} (h : eqT P t = some f) : Good P nt ⟨dst, .binOp .neq t x y yt, ty, pos, after, guard⟩ (with2 P nt x y (.p2 (fEq true f))) := by
  refine good2 fun ι ρ w p q r hp hq hr => ?_
  obtain ⟨b, hb, hr⟩ := orec (b := none) hr (by simp)
  cases hr
  obtain ⟨_, h2, _, h4⟩ := eqT_ok w x y h hb hp hq
  exact ⟨.bool (!b), by simp [execOp, h2, h4], by simp [R]⟩
theorem isNilIface_eq {x : Operand} (h : isNilIface x = true) : x = .const .nilIface := by
  unfold isNilIface at h
  split at h
  · rfl
  · cases h
/-- an interface's value against the literal nil -/
theorem nilIs_ok {ι : Emb} {t : TypeId} {ms : Array (String × TypeId)} {p r : AV} {u : Value} {neq : Bool} (hu : P.underlying t = some (.interface ms)) (w : World) (x y : Operand) (hp : R ι p u) (h : fNilIs neq p = some r) :
    ∃ b, r = .bool b ∧ (((∃ v, x = .const v) ∨ ∃ v, y = .const v) → ((eqGuard (if neq then .neq else .eql) t x y u .nilIface).run P w = .ok () w ∧ (eqGuard (if neq then .neq else .eql) t x y .nilIface u).run P w = .ok () w)) ∧
    (binOp (if neq then .neq else .eql) t u .nilIface).run P w = .ok (.bool b) w ∧ (binOp (if neq then .neq else .eql) t .nilIface u).run P w = .ok (.bool b) w := by
  have key : ∃ b, r = .bool (xor b neq) ∧ (∀ n, (Op.equalIn (n + 1) t u .nilIface).run P w = .ok b w ∧ (Op.equalIn (n + 1) t .nilIface u).run P w = .ok b w) ∧ ((u = .nilIface) ∨ ∃ a b, u = .iface a b) := by
    unfold fNilIs at h
    split at h
    · cases h
      simp only [R] at hp; subst hp
      exact ⟨true, by cases neq <;> rfl, fun n => by simp [Op.equalIn, run_underlying hu], .inl rfl⟩
    · cases h
      simp only [R] at hp; obtain ⟨v, rfl, _⟩ := hp
      exact ⟨false, by cases neq <;> rfl, fun n => by simp [Op.equalIn, run_underlying hu], .inr ⟨_, _, rfl⟩⟩
    · cases h
  obtain ⟨b, hr, hk, hform⟩ := key
  clear h hp
  have e1 : (Op.equal t u .nilIface).run P w = .ok b w := (hk 9999).1
  have e2 : (Op.equal t .nilIface u).run P w = .ok b w := (hk 9999).2
  refine ⟨_, hr, ?_, ?_, ?_⟩
  · intro hc
    rcases hform with rfl | ⟨a, c, rfl⟩
    · rcases hc with ⟨v, rfl⟩ | ⟨v, rfl⟩ <;> cases neq <;> simp [eqGuard]
    · cases neq <;> simp [eqGuard]
  · have : binOp (if neq then .neq else .eql) t u .nilIface = (do pure (Value.bool (xor (← Op.equal t u .nilIface) neq))) := by
      rcases hform with rfl | ⟨a, c, rfl⟩ <;> cases neq <;> simp [binOp]
    rw [this, Sem.run_bind, e1]; rfl
  · have : binOp (if neq then .neq else .eql) t .nilIface u = (do pure (Value.bool (xor (← Op.equal t .nilIface u) neq))) := by
      rcases hform with rfl | ⟨a, c, rfl⟩ <;> cases neq <;> simp [binOp]
    rw [this, Sem.run_bind, e2]; rfl
theorem good_nil {t yt : TypeId} {ms : Array (String × TypeId)} {x y : Operand} (hu : P.underlying t = some (.interface ms)) (neq : Bool) :
    (isNilIface y = true → Good P nt ⟨dst, .binOp (if neq then .neq else .eql) t x y yt, ty, pos, after, guard⟩ (with1 P nt x (.p1 (fNilIs neq)))) ∧
    (isNilIface x = true → Good P nt ⟨dst, .binOp (if neq then .neq else .eql) t x y yt, ty, pos, after, guard⟩ (with1 P nt y (.p1 (fNilIs neq)))) := by
  constructor
  · intro hn
    have := isNilIface_eq hn; subst this
    rcases with1_cases P nt x (.p1 (fNilIs neq)) with e | ⟨od, ho, e⟩ <;> rw [e]
    · exact Good.bad
    · intro ι e a m w hR hS hn r hr
      obtain ⟨b, rfl, h1, h2, _⟩ := nilIs_ok hu w x (.const .nilIface) (ev_ok hR hS hn ho) hr
      have h1 := (h1 (.inr ⟨_, rfl⟩)).1
      refine ⟨.bool b, ?_, by simp [R]⟩
      have : a.eval (.const .nilIface) = .nilIface := rfl
      simp [execOp, this, h1, h2]
  · intro hn
    have := isNilIface_eq hn; subst this
    rcases with1_cases P nt y (.p1 (fNilIs neq)) with e | ⟨od, ho, e⟩ <;> rw [e]
    · exact Good.bad
    · intro ι e a m w hR hS hn r hr
      obtain ⟨b, rfl, h1, _, h2⟩ := nilIs_ok hu w (.const .nilIface) y (ev_ok hR hS hn ho) hr
      have h1 := (h1 (.inl ⟨_, rfl⟩)).2
      refine ⟨.bool b, ?_, by simp [R]⟩
      have : a.eval (.const .nilIface) = .nilIface := rfl
      simp [execOp, this, h1, h2]
end
end Go.K
end
section
namespace Go.K
open Go (Op)
section
variable {P : Program} {nt : Nat} {dst : Option Tmp} {ty : TypeId} {pos : String} {after : Array Edge} {guard : Option (Nat × Bool)}
theorem good_neg (t : TypeId) (x : Operand) : Good P nt ⟨dst, .unOp .neg t x, ty, pos, after, guard⟩ (with1 P nt x (.p1 fNeg)) := by
  refine good1 fun ι ρ w p r hp hr => ?_
  unfold fNeg at hr
  split at hr
  · rename_i k n
    cases hr
    simp only [R] at hp
    exact ⟨.int k (k.wrap (0 - n)), by simp [execOp, hp, Op.unary, Op.intArith], by simp [R, wrap_eq, ineg_eq]⟩
  · cases hr
theorem good_not (t : TypeId) (x : Operand) : Good P nt ⟨dst, .unOp .not t x, ty, pos, after, guard⟩ (with1 P nt x (.p1 fNot)) := by
  refine good1 fun ι ρ w p r hp hr => ?_
  unfold fNot at hr
  split at hr
  · rename_i b
    cases hr
    simp only [R] at hp
    exact ⟨.bool !b, by simp [execOp, hp, Op.unary], by simp [R]⟩
  · cases hr
theorem good_convInt {src d : TypeId} {k k' : IntKind} (x : Operand) (hs : P.underlying src = some (.int k')) (hd : P.underlying d = some (.int k)) :
    Good P nt ⟨dst, .convert src d x, ty, pos, after, guard⟩ (with1 P nt x (.p1 (fConvInt k))) := by
  refine good1 fun ι ρ w p r hp hr => ?_
  unfold fConvInt at hr
  split at hr
  · rename_i k0 n
    cases hr
    simp only [R] at hp
    exact ⟨.int k (k.wrap n), by simp [execOp, hp, convert, run_underlying hs, run_underlying hd, Conv.intToInt], by simp [R, wrap_eq]⟩
  · cases hr
theorem ba_eta (b : ByteArray) : (⟨⟨b.data.toList⟩⟩ : ByteArray) = b := by cases b; rfl
theorem good_intStr {src d : TypeId} {k' : IntKind} (x : Operand) (hs : P.underlying src = some (.int k')) (hd : P.underlying d = some .string) :
    Good P nt ⟨dst, .convert src d x, ty, pos, after, guard⟩ (with1 P nt x (.p1 fIntStr)) := by
  refine good1 fun ι ρ w p r hp hr => ?_
  unfold fIntStr at hr
  split at hr
  · rename_i k0 n
    cases hr
    simp only [R] at hp
    exact ⟨.string (Utf8.encode n), by simp [execOp, hp, convert, run_underlying hs, run_underlying hd, Conv.intToString], by simp only [R, ba_eta]⟩
  · cases hr
theorem good_strStr {src d : TypeId} (x : Operand) (hs : P.underlying src = some .string) (hd : P.underlying d = some .string) :
    Good P nt ⟨dst, .convert src d x, ty, pos, after, guard⟩ (with1 P nt x (.p1 fStr)) := by
  refine good1 fun ι ρ w p r hp hr => ?_
  unfold fStr at hr
  split at hr
  · rename_i l
    cases hr
    simp only [R] at hp
    exact ⟨.string ⟨⟨l⟩⟩, by simp [execOp, hp, convert, run_underlying hs, run_underlying hd], by simp [R]⟩
  · cases hr
/-! fields and elements -/
theorem addr_add (L : Loc) (off k : Nat) : Addr.add ⟨L.b, L.base + off, none⟩ k = ⟨L.b, L.base + (off + k), none⟩ := by rw [add_none, Nat.add_assoc]
theorem good_fieldAddr {t : TypeId} {fs : Array Field} {f : Field} {i n : Nat} (x : Operand) (hu : P.underlying t = some (.struct fs)) (hf : nth fs.toList i = some f) (hs : sizeT P f.type = some (n + 1)) :
    Good P nt ⟨dst, .fieldAddr t x i, ty, pos, after, guard⟩ (with1 P nt x (.p1 (fFieldAddr f.offset))) := by
  refine good1 fun ι ρ w p r hp hr => ?_
  unfold fFieldAddr at hr
  obtain ⟨o, k, rfl, hr⟩ := pK_some hr
  cases hr
  simp only [R] at hp
  obtain ⟨L, hL, hv⟩ := hp
  rw [nth_eq, Array.getElem?_toList] at hf
  refine ⟨.pointer (some ⟨L.b, L.base + (k + f.offset), none⟩), ?_, by simp only [R]; exact ⟨L, hL, rfl⟩⟩
  have e : (Instr.fieldAt t (ρ x) i).run P w = .ok (.pointer (some ⟨L.b, L.base + (k + f.offset), none⟩)) w := by
    rw [hv]
    simp only [Instr.fieldAt, Sem.run_bind, run_underlying hu, Result.andThen_ok, hf, Instr.sureAddr, Sem.run_pure, fieldPlace, sizeOf_run hs, Nat.succ_ne_zero, if_false, addr_add]
  simp [execOp, e]
theorem good_field {t : TypeId} {fs : Array Field} {f : Field} {i n : Nat} (x : Operand) (hu : P.underlying t = some (.struct fs)) (hf : nth fs.toList i = some f) (hs : sizeT P f.type = some n) :
    Good P nt ⟨dst, .field t x i, ty, pos, after, guard⟩ (with1 P nt x (.p1 (fField (isAgg P f.type) n f.offset))) := by
  refine good1 fun ι ρ w p r hp hr => ?_
  unfold fField at hr
  split at hr
  · rename_i cs
    simp only [R] at hp
    obtain ⟨vs, hv, hl⟩ := hp
    rw [nth_eq, Array.getElem?_toList] at hf
    obtain ⟨v, h1, h2⟩ := part_run w (vs := ⟨vs⟩) hs hl hr
    refine ⟨v, ?_, h2⟩
    have e : (Instr.field t (ρ x) i).run P w = .ok v w := by
      rw [hv]
      simp only [Instr.field, Sem.run_bind, run_underlying hu, Result.andThen_ok, hf, asAgg, Sem.run_pure, h1]
    simp [execOp, e]
  · cases hr
theorem good_idxArr {t el : TypeId} {n s : Nat} (x i : Operand) (hu : P.underlying t = some (.array n el)) (hs : sizeT P el = some s) :
    Good P nt ⟨dst, .indexAddr t x i, ty, pos, after, guard⟩ (with2 P nt x i (.p2 (fIdxArr n s))) := by
  refine good2 fun ι ρ w p q r hp hq hr => ?_
  unfold fIdxArr at hr
  split at hr
  · rename_i k j
    split at hr
    · rename_i o off
      obtain ⟨h1, h2⟩ := brec (f := none) hr (by simp)
      cases h2
      have h1 := Nat.le_of_ble_eq_true h1
      simp only [R] at hp hq
      obtain ⟨L, hL, hv⟩ := hp
      refine ⟨.pointer (some ⟨L.b, L.base + (off + j * s), none⟩), ?_, by simp only [R]; exact ⟨L, hL, rfl⟩⟩
      have e : (Instr.indexAt t (ρ x) (ρ i)).run P w = .ok (.pointer (some ⟨L.b, L.base + (off + j * s), none⟩)) w := by
        rw [hv, hq]
        have hc : (0 : Int) ≤ Int.ofNat j ∧ Int.ofNat j < (n : Int) := ⟨Int.natCast_nonneg j, Int.ofNat_lt.2 h1⟩
        simp only [Instr.indexAt, asIntOf, Sem.run_bind, run_underlying hu, Result.andThen_ok, Instr.sureAddr, Sem.run_pure, hc, and_self, if_true, sizeOf_run hs, addr_add]
        simp []
      simp [execOp, e]
    · cases hr
  · cases hr
theorem good_idxSl {t el : TypeId} {s : Nat} (x i : Operand) (hu : P.underlying t = some (.slice el)) (hs : sizeT P el = some s) :
    Good P nt ⟨dst, .indexAddr t x i, ty, pos, after, guard⟩ (with2 P nt x i (.p2 (fIdxSl s))) := by
  refine good2 fun ι ρ w p q r hp hq hr => ?_
  unfold fIdxSl at hr
  split at hr
  · rename_i k j
    split at hr
    · rename_i o off n c es
      obtain ⟨h1, h2⟩ := brec (f := none) hr (by simp)
      cases h2
      simp only [Bool.and_eq_true] at h1
      have h2 := Nat.eq_of_beq_eq_true h1.1; subst h2
      have h1 := Nat.le_of_ble_eq_true h1.2
      simp only [R] at hp hq
      obtain ⟨L, c', hL, hv, _⟩ := hp
      refine ⟨.pointer (some ⟨L.b, L.base + (off + j * s), none⟩), ?_, by simp only [R]; exact ⟨L, hL, rfl⟩⟩
      have e : (Instr.indexAt t (ρ x) (ρ i)).run P w = .ok (.pointer (some ⟨L.b, L.base + (off + j * s), none⟩)) w := by
        rw [hv, hq]
        have hc : (0 : Int) ≤ Int.ofNat j ∧ Int.ofNat j < (n : Int) := ⟨Int.natCast_nonneg j, Int.ofNat_lt.2 h1⟩
        simp only [Instr.indexAt, asIntOf, Sem.run_bind, run_underlying hu, Result.andThen_ok, Sem.run_pure, hc, and_self, if_true, sizeOf_run hs, addr_add]
        simp []
      simp [execOp, e]
    · cases hr
  · cases hr
theorem good_indexStr {t : TypeId} (x i : Operand) (hu : P.underlying t = some .string) : Good P nt ⟨dst, .index t x i, ty, pos, after, guard⟩ (with2 P nt x i (.p2 fIndexStr)) := by
  refine good2 fun ι ρ w p q r hp hq hr => ?_
  unfold fIndexStr at hr
  split at hr
  · rename_i k j
    split at hr
    · rename_i l
      obtain ⟨b, h1, h2⟩ := orec (b := none) hr (by simp)
      cases h2
      simp only [R] at hp hq
      rw [nth_eq] at h1
      refine ⟨.int .u8 b.toNat, ?_, by simp only [R]; rfl⟩
      have hb : (⟨⟨l⟩⟩ : ByteArray)[j]? = some b := by
        obtain ⟨h3, h4⟩ := List.getElem?_eq_some_iff.1 h1
        rw [getElem?_pos (⟨⟨l⟩⟩ : ByteArray) j h3]
        rw [← h4]; rfl
      have e : (Instr.index t (ρ x) (ρ i)).run P w = .ok (.int .u8 b.toNat) w := by
        rw [hp, hq]
        simp only [Instr.index, asIntOf, Sem.run_bind, run_underlying hu, Result.andThen_ok, Sem.run_pure]
        simp [hb]
      simp [execOp, e]
    · cases hr
  · cases hr
theorem good_indexArr {t el : TypeId} {n s : Nat} (x i : Operand) (hu : P.underlying t = some (.array n el)) (hs : sizeT P el = some s) :
    Good P nt ⟨dst, .index t x i, ty, pos, after, guard⟩ (with2 P nt x i (.p2 (fIndexArr (isAgg P el) n s))) := by
  refine good2 fun ι ρ w p q r hp hq hr => ?_
  unfold fIndexArr at hr
  split at hr
  · rename_i k j
    split at hr
    · rename_i cs
      obtain ⟨h1, h2⟩ := brec (f := none) hr (by simp)
      have h1 := Nat.le_of_ble_eq_true h1
      simp only [R] at hp hq
      obtain ⟨vs, hv, hl⟩ := hp
      obtain ⟨v, h3, h4⟩ := part_run w (vs := ⟨vs⟩) hs hl h2
      refine ⟨v, ?_, h4⟩
      have e : (Instr.index t (ρ x) (ρ i)).run P w = .ok v w := by
        rw [hv, hq]
        have hc : (0 : Int) ≤ Int.ofNat j ∧ Int.ofNat j < (n : Int) := ⟨Int.natCast_nonneg j, Int.ofNat_lt.2 h1⟩
        simp only [Instr.index, asIntOf, Sem.run_bind, run_underlying hu, Result.andThen_ok, Sem.run_pure, hc, and_self, if_true, sizeOf_run hs]
        exact h3
      simp [execOp, e]
    · cases hr
  · cases hr
end
end Go.K
end
section
namespace Go.K
open Go (Op)
section
variable {P : Program} {nt : Nat} {dst : Option Tmp} {ty : TypeId} {pos : String} {after : Array Edge} {guard : Option (Nat × Bool)}
theorem exec_builtin (ρ : Operand → Value) (b : Builtin) (args : Array Operand) (ts : Array TypeId) (w : World) :
    ∃ cs, (execOp ρ ⟨dst, .call ⟨.builtin b, args, ts⟩, ty, pos, after, guard⟩).run P w = (builtin b ts ty cs (args.map ρ)).run P w := by
  refine ⟨args.map fun | .const _ => true | _ => false, ?_⟩
  simp only [execOp, resolve, Sem.run_bind, Sem.run_pure, Result.andThen_ok, invoke]
  rfl
theorem arr1 {α : Type} {a : Array α} {x : α} (h : a.toList = [x]) : a = #[x] := by cases a; simpa using h
theorem good_lenS {t : TypeId} {x : Operand} {args : Array Operand} {ts : Array TypeId} (ha : args.toList = [x]) (ht : ts.toList = [t]) (hu : P.underlying t = some .string) :
    Good P nt ⟨dst, .call ⟨.builtin .len, args, ts⟩, ty, pos, after, guard⟩ (with1 P nt x (.p1 fLenS)) := by
  have := arr1 ha; subst this
  have := arr1 ht; subst this
  refine good1 fun ι ρ w p r hp hr => ?_
  obtain ⟨cs, hb⟩ := exec_builtin (P := P) (dst := dst) (ty := ty) (pos := pos) (after := after) (guard := guard) ρ .len #[x] #[t] w
  unfold fLenS at hr
  split at hr
  · rename_i l
    cases hr
    simp only [R] at hp
    refine ⟨goInt l.length, ?_, by simp only [R, len_eq]; rfl⟩
    rw [hb]
    simp [builtin, Builtin.len_, hp, run_underlying hu, str_size]
  · cases hr
theorem good_lenSl {t el : TypeId} {x : Operand} {args : Array Operand} {ts : Array TypeId} (ha : args.toList = [x]) (ht : ts.toList = [t]) (hu : P.underlying t = some (.slice el)) :
    Good P nt ⟨dst, .call ⟨.builtin .len, args, ts⟩, ty, pos, after, guard⟩ (with1 P nt x (.p1 fLenSl)) := by
  have := arr1 ha; subst this
  have := arr1 ht; subst this
  refine good1 fun ι ρ w p r hp hr => ?_
  obtain ⟨cs, hb⟩ := exec_builtin (P := P) (dst := dst) (ty := ty) (pos := pos) (after := after) (guard := guard) ρ .len #[x] #[t] w
  unfold fLenSl at hr
  split at hr
  · rename_i o off n c es
    cases hr
    simp only [R] at hp
    obtain ⟨L, c', _, hv, _⟩ := hp
    refine ⟨goInt n, ?_, by simp only [R]; rfl⟩
    rw [hb]
    simp [builtin, Builtin.len_, hv, run_underlying hu]
  · cases hr
    simp only [R] at hp
    refine ⟨goInt 0, ?_, by simp only [R]; rfl⟩
    rw [hb]
    simp [builtin, Builtin.len_, hp, run_underlying hu]
  · cases hr
theorem good_lenArr {t : TypeId} {n : Nat} {x : Operand} {args : Array Operand} {ts : Array TypeId} (ha : args.toList = [x]) (ht : ts.toList = [t])
    (hu : (∃ el, P.underlying t = some (.array n el)) ∨ ∃ a el, P.underlying t = some (.pointer a) ∧ P.underlying a = some (.array n el)) :
    Good P nt ⟨dst, .call ⟨.builtin .len, args, ts⟩, ty, pos, after, guard⟩ (.mv (.val (.int .i64 (Int.ofNat n)))) := by
  have := arr1 ha; subst this
  have := arr1 ht; subst this
  intro ι e a m w hR hS hn
  obtain ⟨cs, hb⟩ := exec_builtin (P := P) (dst := dst) (ty := ty) (pos := pos) (after := after) (guard := guard) a.eval .len #[x] #[t] w
  refine ⟨goInt n, ?_, by simp only [ev, R]; rfl⟩
  rw [hb]
  rcases hu with ⟨el, hu⟩ | ⟨b, el, hu, hu'⟩
  · simp [builtin, Builtin.len_, run_underlying hu]
  · simp [builtin, Builtin.len_, run_underlying hu, run_underlying hu']
theorem good_cap {t el : TypeId} {x : Operand} {args : Array Operand} {ts : Array TypeId} (ha : args.toList = [x]) (ht : ts.toList = [t]) (hu : P.underlying t = some (.slice el)) :
    Good P nt ⟨dst, .call ⟨.builtin .cap, args, ts⟩, ty, pos, after, guard⟩ (with1 P nt x (.p1 fCap)) := by
  have := arr1 ha; subst this
  have := arr1 ht; subst this
  refine good1 fun ι ρ w p r hp hr => ?_
  obtain ⟨cs, hb⟩ := exec_builtin (P := P) (dst := dst) (ty := ty) (pos := pos) (after := after) (guard := guard) ρ .cap #[x] #[t] w
  unfold fCap at hr
  split at hr
  · rename_i o off n c es
    cases hr
    simp only [R] at hp
    obtain ⟨L, c', _, hv, _, hc, _⟩ := hp
    have := hc _ rfl; subst this
    refine ⟨goInt c', ?_, by simp only [R]; rfl⟩
    rw [hb]
    simp [builtin, Builtin.cap_, hv, run_underlying hu]
  · cases hr
    simp only [R] at hp
    refine ⟨goInt 0, ?_, by simp only [R]; rfl⟩
    rw [hb]
    simp [builtin, Builtin.cap_, hp, run_underlying hu]
  · cases hr
theorem fold_ok {f : F2} {g : Value → Value → Sem Value} {ι : Emb} (w : World) (hfg : ∀ p q r u v, f p q = some r → R ι p u → R ι q v → ∃ z, (g u v).run P w = .ok z w ∧ R ι r z) :
    ∀ (ps : List AV) (vs : List Value) (p r : AV) (u : Value), foldV f ps p = some r → R ι p u → RL ι ps vs → ∃ z, (vs.foldlM g u).run P w = .ok z w ∧ R ι r z
  | [], vs, p, r, u, h, hu, hl => by
    cases h
    have : vs = [] := by simpa only [RL] using hl
    subst this
    exact ⟨u, by simp, hu⟩
  | q :: ps, vs, p, r, u, h, hu, hl => by
    obtain ⟨v, vs, rfl, hv, hl⟩ := hl.uncons
    have e : foldV f (q :: ps) p = Option.casesOn (f p q) none fun z => foldV f ps z := rfl
    rw [e] at h
    obtain ⟨z, hz, h⟩ := orec (b := none) h (by simp)
    obtain ⟨y, h1, h2⟩ := hfg _ _ _ _ _ hz hu hv
    obtain ⟨x, h3, h4⟩ := fold_ok w hfg ps vs z r y h h2 hl
    exact ⟨x, by simp [List.foldlM_cons, h1, h3], h4⟩
theorem good_max {args : Array Operand} {ts : Array TypeId} : Good P nt ⟨dst, .call ⟨.builtin .max, args, ts⟩, ty, pos, after, guard⟩ (withN P nt args.toList (.pN (fFold fMax))) := by
  refine goodN fun ι ρ w ps r hps hr => ?_
  obtain ⟨cs, hb⟩ := exec_builtin (P := P) (dst := dst) (ty := ty) (pos := pos) (after := after) (guard := guard) ρ .max args ts w
  cases ps with
  | nil => cases hr
  | cons p ps =>
    obtain ⟨u, us, he, hu, hl⟩ := hps.uncons
    obtain ⟨z, h1, h2⟩ := fold_ok (P := P) (g := Builtin.max2) w (fun p q r u v h hp hq => by
      obtain ⟨k, a, b, rfl, rfl, hf⟩ := onInts_some h
      cases hf
      simp only [R] at hp hq; subst hp; subst hq
      refine ⟨_, rfl, ?_⟩
      simp only [R, ilt_eq]
      by_cases h : a < b <;> simp [h]) ps us p r u hr hu hl
    refine ⟨z, ?_, h2⟩
    rw [hb]
    have : (args.map ρ).toList = u :: us := by simpa using he
    simp [builtin, Builtin.max_, he, h1]
theorem good_min {args : Array Operand} {ts : Array TypeId} : Good P nt ⟨dst, .call ⟨.builtin .min, args, ts⟩, ty, pos, after, guard⟩ (withN P nt args.toList (.pN (fFold fMin))) := by
  refine goodN fun ι ρ w ps r hps hr => ?_
  obtain ⟨cs, hb⟩ := exec_builtin (P := P) (dst := dst) (ty := ty) (pos := pos) (after := after) (guard := guard) ρ .min args ts w
  cases ps with
  | nil => cases hr
  | cons p ps =>
    obtain ⟨u, us, he, hu, hl⟩ := hps.uncons
    obtain ⟨z, h1, h2⟩ := fold_ok (P := P) (g := Builtin.min2) w (fun p q r u v h hp hq => by
      obtain ⟨k, a, b, rfl, rfl, hf⟩ := onInts_some h
      cases hf
      simp only [R] at hp hq; subst hp; subst hq
      refine ⟨_, rfl, ?_⟩
      simp only [R, ilt_eq]
      by_cases h : b < a <;> simp [h]) ps us p r u hr hu hl
    refine ⟨z, ?_, h2⟩
    rw [hb]
    have : (args.map ρ).toList = u :: us := by simpa using he
    simp [builtin, Builtin.min_, he, h1]
/-! zero values and type assertions -/
theorem zeroOf_ok {ι : Emb} {t : TypeId} {z : List AV} (h : zeroOf P t = some z) (w : World) : ∃ v, (zeroValue t).run P w = .ok v w ∧ RL ι z v.cells.toList ∧ ∃ i, P.info? t = some i ∧ i.zero = some v := by
  unfold zeroOf at h
  split at h
  · rename_i i hi
    split at h
    · rename_i cs hz
      refine ⟨.agg cs, by simp [zeroValue, typeInfo, hi, hz], atomsOf_ok h, i, hi, hz⟩
    · rename_i v hz _
      obtain ⟨a, ha, h⟩ := orec (b := none) h (by simp)
      cases h
      refine ⟨v, by simp [zeroValue, typeInfo, hi, ‹i.zero = some v›], ?_, i, hi, ‹_›⟩
      have hr := atomOf_ok (ι := ι) ha
      have h1 : v.cells = #[v] := by
        cases v <;> first | rfl | (cases ha)
      rw [h1]
      exact RL.cons hr RL.nil
    · cases h
  · cases h
theorem zeroV_ok {ι : Emb} {t : TypeId} {z : AV} (h : zeroV P t = some z) (w : World) : ∃ v, (zeroValue t).run P w = .ok v w ∧ R ι z v := by
  unfold zeroV at h
  split at h
  · rename_i i hi
    split at h
    · rename_i v hz
      exact ⟨v, by simp [zeroValue, typeInfo, hi, hz], ofVal_ok h⟩
    · cases h
  · cases h
theorem good_assert {xt t : TypeId} {d : TypeDesc} {x : Operand} {ok : Bool} (hd : P.underlying t = some d) (hi : ∀ ms, d ≠ .interface ms) :
    Good P nt ⟨dst, .typeAssert x xt t ok, ty, pos, after, guard⟩ (with1 P nt x (.p1 (fAssert t ok (zeroV P t)))) := by
  refine good1 fun ι ρ w p r hp hr => ?_
  have key : ∀ (y : Value), (∃ v, (Instr.typeAssert y xt t ok).run P w = .ok v w ∧ R ι r v) → ρ x = y → ∃ v, (execOp ρ ⟨dst, .typeAssert x xt t ok, ty, pos, after, guard⟩).run P w = .ok (.value v) w ∧ R ι r v := by
    rintro y ⟨v, h1, h2⟩ rfl
    exact ⟨v, by simp [execOp, h1], h2⟩
  have tup : ∀ (a : AV) (v : Value) (b : Bool), R ι a v → R ι (.tuple [a, .bool b]) (.tuple #[v, .bool b]) := by
    intro a v b h
    simp only [R, RL]
    exact ⟨_, rfl, _, _, rfl, h, _, _, rfl, rfl, rfl⟩
  unfold fAssert at hr
  split at hr
  · simp only [R] at hp
    obtain ⟨h1, hr⟩ := brec (f := none) hr (by simp)
    subst h1
    obtain ⟨z, hz, hr⟩ := orec (b := none) hr (by simp)
    cases hr
    obtain ⟨v, h1, h2⟩ := zeroV_ok (ι := ι) hz w
    refine key _ ⟨.tuple #[v, .bool false], ?_, tup _ _ _ h2⟩ hp
    simp only [Instr.typeAssert, Sem.run_bind, run_underlying hd, Result.andThen_ok]
    cases d <;> first | exact absurd rfl (hi _) | simp [h1]
  · rename_i u a
    simp only [R] at hp
    obtain ⟨v, hv, ha⟩ := hp
    cases hb : Nat.beq u t with
    | true =>
      rw [hb] at hr
      have hut := Nat.eq_of_beq_eq_true hb; subst hut
      cases hr
      cases ok with
      | true =>
        refine key _ ⟨.tuple #[v, .bool true], ?_, tup _ _ _ ha⟩ hv
        simp only [Instr.typeAssert, Sem.run_bind, run_underlying hd, Result.andThen_ok]
        cases d <;> first | exact absurd rfl (hi _) | simp
      | false =>
        refine key _ ⟨v, ?_, ha⟩ hv
        simp only [Instr.typeAssert, Sem.run_bind, run_underlying hd, Result.andThen_ok]
        cases d <;> first | exact absurd rfl (hi _) | simp
    | false =>
      rw [hb] at hr
      have hut : u ≠ t := Nat.ne_of_beq_eq_false hb
      obtain ⟨h1, hr⟩ := brec (f := none) hr (by simp)
      subst h1
      obtain ⟨z, hz, hr⟩ := orec (b := none) hr (by simp)
      cases hr
      obtain ⟨y, h1, h2⟩ := zeroV_ok (ι := ι) hz w
      refine key _ ⟨.tuple #[y, .bool false], ?_, tup _ _ _ h2⟩ hv
      simp only [Instr.typeAssert, Sem.run_bind, run_underlying hd, Result.andThen_ok]
      cases d <;> first | exact absurd rfl (hi _) | simp [h1, hut]
  · cases hr
/-! slices -/
/-- an index that is there, or none -/
def OR (ι : Emb) : Option AV → Option Value → Prop
  | none, v => v = none
  | some a, v => ∃ x, v = some x ∧ R ι a x
theorem bound_ok {ι : Emb} {a : AV} {v : Value} {y i y' : Nat} (h : bound a y = some i) (hr : R ι a v) (hy : y ≤ y') (code : BoundsCode) (w : World) : (Instr.sliceBound v y' code).run P w = .ok i w ∧ i ≤ y := by
  unfold bound at h
  split at h
  · rename_i k n
    obtain ⟨h1, h2⟩ := brec (f := none) h (by simp)
    cases h2
    have h1 := Nat.le_of_ble_eq_true h1
    simp only [R] at hr; subst hr
    refine ⟨?_, h1⟩
    exact run_sliceBound w k (Int.ofNat i) y' code (Int.natCast_nonneg _) (Int.ofNat_le.2 (Nat.le_trans h1 hy))
  · cases h
theorem bounds_ok {ι : Emb} {lo hi : Option AV} {low high : Option Value} {n top cap h l : Nat} (isSlice : Bool) (hlo : OR ι lo low) (hhi : OR ι hi high) (htop : top ≤ cap) (hn : n ≤ top)
    (h1 : optBound hi top n = some h) (h2 : optBound lo h 0 = some l) (w : World) : (Instr.sliceBounds isSlice n cap low high none).run P w = .ok (l, h, cap) w ∧ l ≤ h ∧ h ≤ top := by
  cases hi with
  | none =>
    simp only [OR] at hhi; subst hhi; cases h1
    cases lo with
    | none => simp only [OR] at hlo; subst hlo; cases h2; exact ⟨by simp [Instr.sliceBounds], Nat.zero_le _, hn⟩
    | some b =>
      obtain ⟨u, rfl, hu⟩ := hlo
      have e2 := bound_ok (P := P) h2 hu (Nat.le_refl _) .sliceB w
      exact ⟨by simp [Instr.sliceBounds, e2.1], e2.2, hn⟩
  | some a =>
    obtain ⟨v, rfl, hv⟩ := hhi
    have e1 := fun c => bound_ok (P := P) h1 hv htop c w
    cases lo with
    | none => simp only [OR] at hlo; subst hlo; cases h2; exact ⟨by simp [Instr.sliceBounds, (e1 _).1], Nat.zero_le _, (e1 .sliceB).2⟩
    | some b =>
      obtain ⟨u, rfl, hu⟩ := hlo
      have e2 := bound_ok (P := P) h2 hu (Nat.le_refl _) .sliceB w
      exact ⟨by simp [Instr.sliceBounds, (e1 _).1, e2.1], e2.2, (e1 .sliceB).2⟩
theorem bounds3_ok {ι : Emb} {lo : Option AV} {hi mx : AV} {low : Option Value} {hv mv : Value} {n cap m h l : Nat} (isSlice : Bool) (hlo : OR ι lo low) (hhi : R ι hi hv) (hmx : R ι mx mv)
    (h0 : bound mx cap = some m) (h1 : bound hi m = some h) (h2 : optBound lo h 0 = some l) (w : World) : (Instr.sliceBounds isSlice n cap low (some hv) (some mv)).run P w = .ok (l, h, m) w ∧ l ≤ h ∧ h ≤ m ∧ m ≤ cap := by
  have hm := fun c => bound_ok (P := P) h0 hmx (Nat.le_refl _) c w
  have hh := bound_ok (P := P) h1 hhi (Nat.le_refl _) .slice3B w
  cases lo with
  | none => simp only [OR] at hlo; subst hlo; cases h2; exact ⟨by simp [Instr.sliceBounds, (hm _).1, hh.1], Nat.zero_le _, hh.2, (hm .sliceB).2⟩
  | some b =>
    obtain ⟨u, rfl, hu⟩ := hlo
    have e2 := bound_ok (P := P) h2 hu (Nat.le_refl _) .slice3C w
    exact ⟨by simp [Instr.sliceBounds, (hm _).1, hh.1, e2.1], e2.2, hh.2, (hm .sliceB).2⟩
theorem ba_extract (s : List UInt8) (l h : Nat) : (⟨⟨s⟩⟩ : ByteArray).extract l h = ⟨⟨(s.drop l).take (h - l)⟩⟩ := by
  apply ByteArray.ext
  rw [ByteArray.data_extract]
  simp [List.extract_eq_take_drop]
theorem off_add (L : Loc) (off l es c : Nat) : (if c = l then (⟨L.b, L.base + off, none⟩ : Addr) else Addr.add ⟨L.b, L.base + off, none⟩ (l * es)) = ⟨L.b, L.base + (Bool.rec (motive := fun _ => Nat) (Nat.add off (Nat.mul l es)) off (Nat.beq c l)), none⟩ := by
  cases hb : Nat.beq c l with
  | true => have := Nat.eq_of_beq_eq_true hb; simp [this]
  | false => have := Nat.ne_of_beq_eq_false hb; rw [if_neg this, addr_add]; rfl
theorem slice_ok {ι : Emb} {t : TypeId} {k : SK} {x r : AV} {xv : Value} {lo hi : Option AV} {low high : Option Value} (w : World) (hk : skOf P t = some k) (hx : R ι x xv) (hlo : OR ι lo low) (hhi : OR ι hi high) (h : fSlice k x lo hi = some r) :
    ∃ v, (Instr.sliceAt t xv low high none).run P w = .ok v w ∧ R ι r v := by
  unfold skOf at hk
  split at hk
  · rename_i hu
    cases hk
    unfold fSlice at h
    simp only at h
    split at h
    · rename_i s
      simp only [R] at hx; subst hx
      unfold subStr at h
      obtain ⟨hh, h1, h⟩ := orec (b := none) h (by simp)
      obtain ⟨l, h2, h⟩ := orec (b := none) h (by simp)
      cases h
      rw [len_eq] at h1
      obtain ⟨hb, hl, ht⟩ := bounds_ok (P := P) (n := s.length) (cap := s.length) false hlo hhi (Nat.le_refl _) (Nat.le_refl _) h1 h2 w
      refine ⟨.string ((⟨⟨s⟩⟩ : ByteArray).extract l hh), ?_, ?_⟩
      · simp only [Instr.sliceAt, Instr.slice, Sem.run_bind, run_underlying hu, Result.andThen_ok, str_size]
        simp [hb]
      · simp only [R, takeL_eq, dropN_eq]
        rw [ba_extract]
        rfl
    · cases h
  · rename_i el hu
    split at hk
    · rename_i es hs
      cases hk
      unfold fSlice at h
      simp only at h
      split at h
      · rename_i o off n c es'
        obtain ⟨g, h'⟩ := brec (f := none) h (by simp)
        clear h
        have g := Nat.eq_of_beq_eq_true g; subst g
        simp only [R] at hx
        obtain ⟨L, c', hL, rfl, hn, hc, hc'⟩ := hx
        unfold subSl at h'
        cases c with
        | none =>
          obtain ⟨hh, h1, h⟩ := orec (b := none) h' (by simp)
          obtain ⟨l, h2, h⟩ := orec (b := none) h (by simp)
          obtain ⟨g, h⟩ := brec (f := none) h (by simp)
          have g := Nat.le_of_ble_eq_true g
          cases h
          obtain ⟨hb, hl, ht⟩ := bounds_ok (P := P) (n := n) (cap := c') true hlo hhi hn (Nat.le_refl _) h1 h2 w
          refine ⟨.slice (some ⟨L.b, L.base + (off + l * es), none⟩) (hh - l) (c' - l), ?_, ?_⟩
          · have hcl : ¬ c' = l := by omega
            simp only [Instr.sliceAt, Instr.slice, Sem.run_bind, run_underlying hu, Result.andThen_ok, hb, sizeOf_run hs, Sem.run_pure]
            simp [hcl, addr_add]
          · simp only [R]
            refine ⟨L, c' - l, hL, rfl, ?_, by simp, fun _ => ?_⟩
            · show hh - l ≤ c' - l
              omega
            · have := hc' rfl
              show off + l * es + (c' - l) * es = L.sz
              rw [Nat.sub_mul]
              have : l * es ≤ c' * es := Nat.mul_le_mul_right _ (by omega)
              omega
        | some cc =>
          have := hc _ rfl; subst this
          obtain ⟨hh, h1, h⟩ := orec (b := none) h' (by simp)
          obtain ⟨l, h2, h⟩ := orec (b := none) h (by simp)
          cases h
          obtain ⟨hb, hl, ht⟩ := bounds_ok (P := P) (n := n) (cap := c') true hlo hhi (Nat.le_refl _) hn h1 h2 w
          refine ⟨.slice (some (if c' = l then (⟨L.b, L.base + off, none⟩ : Addr) else Addr.add ⟨L.b, L.base + off, none⟩ (l * es))) (hh - l) (c' - l), ?_, ?_⟩
          · simp only [Instr.sliceAt, Instr.slice, Sem.run_bind, run_underlying hu, Result.andThen_ok, hb, sizeOf_run hs, Sem.run_pure]
            split <;> simp
          · rw [off_add]
            simp only [R]
            refine ⟨L, c' - l, hL, rfl, ?_, fun k hk => by cases hk; rfl, by simp⟩
            show hh - l ≤ c' - l
            omega
      · obtain ⟨hh, h1, h⟩ := orec (b := none) h (by simp)
        obtain ⟨l, h2, h⟩ := orec (b := none) h (by simp)
        cases h
        simp only [R] at hx; subst hx
        obtain ⟨hb, hl, ht⟩ := bounds_ok (P := P) (n := 0) (cap := 0) true hlo hhi (Nat.le_refl _) (Nat.le_refl _) h1 h2 w
        refine ⟨.slice none 0 0, ?_, by simp [R]⟩
        have e1 : hh = 0 := by omega
        have e2 : l = 0 := by omega
        subst e1; subst e2
        simp [Instr.sliceAt, Instr.slice, run_underlying hu, hb, sizeOf_run hs]
      · cases h
    · cases hk
  · rename_i n el hu
    split at hk
    · rename_i es hs
      cases hk
      unfold fSlice at h
      simp only at h
      split at h
      · rename_i o off
        simp only [R] at hx
        obtain ⟨L, hL, rfl⟩ := hx
        unfold subArr at h
        obtain ⟨hh, h1, h⟩ := orec (b := none) h (by simp)
        obtain ⟨l, h2, h⟩ := orec (b := none) h (by simp)
        cases h
        obtain ⟨hb, hl, ht⟩ := bounds_ok (P := P) (n := n) (cap := n) false hlo hhi (Nat.le_refl _) (Nat.le_refl _) h1 h2 w
        refine ⟨.slice (some (if n = l then (⟨L.b, L.base + off, none⟩ : Addr) else Addr.add ⟨L.b, L.base + off, none⟩ (l * es))) (hh - l) (n - l), ?_, ?_⟩
        · simp only [Instr.sliceAt, Sem.run_bind, run_underlying hu, Result.andThen_ok, Instr.sureAddr, hb, sizeOf_run hs, Sem.run_pure]
        · rw [off_add]
          simp only [R]
          refine ⟨L, n - l, hL, rfl, ?_, fun k hk => by cases hk; rfl, by simp⟩
          show hh - l ≤ n - l
          omega
      · cases h
    · cases hk
  · cases hk
theorem slice3_ok {ι : Emb} {t : TypeId} {k : SK} {x r hi mx : AV} {xv hv mv : Value} {lo : Option AV} {low : Option Value} (w : World) (hk : skOf P t = some k) (hx : R ι x xv) (hlo : OR ι lo low) (hhi : R ι hi hv) (hmx : R ι mx mv)
    (h : fSlice3 k x lo hi mx = some r) : ∃ v, (Instr.sliceAt t xv low (some hv) (some mv)).run P w = .ok v w ∧ R ι r v := by
  unfold fSlice3 at h
  split at h
  · rename_i es
    split at h
    · rename_i o off n c es'
      obtain ⟨g, h'⟩ := brec (f := none) h (by simp)
      clear h
      have g := Nat.eq_of_beq_eq_true g; subst g
      have hu : ∃ el, P.underlying t = some (.slice el) ∧ sizeT P el = some es := by
        unfold skOf at hk
        split at hk
        · cases hk
        · rename_i el hu
          split at hk
          · rename_i hs; cases hk; exact ⟨el, hu, hs⟩
          · cases hk
        · split at hk <;> cases hk
        · cases hk
      obtain ⟨el, hu, hs⟩ := hu
      simp only [R] at hx
      obtain ⟨L, c', hL, rfl, hn, hc, hc'⟩ := hx
      unfold subSl3 at h'
      obtain ⟨cc, g, h⟩ := orec (b := none) h' (by simp)
      have := hc _ g; subst this
      obtain ⟨m, h0, h⟩ := orec (b := none) h (by simp)
      obtain ⟨hh, h1, h⟩ := orec (b := none) h (by simp)
      obtain ⟨l, h2, h⟩ := orec (b := none) h (by simp)
      cases h
      obtain ⟨hb, hl, ht, hm⟩ := bounds3_ok (P := P) (n := n) (cap := c') true hlo hhi hmx h0 h1 h2 w
      refine ⟨.slice (some (if m = l then (⟨L.b, L.base + off, none⟩ : Addr) else Addr.add ⟨L.b, L.base + off, none⟩ (l * es))) (hh - l) (m - l), ?_, ?_⟩
      · simp only [Instr.sliceAt, Instr.slice, Sem.run_bind, run_underlying hu, Result.andThen_ok, hb, sizeOf_run hs, Sem.run_pure]
        split <;> simp
      · rw [off_add]
        simp only [R]
        refine ⟨L, m - l, hL, rfl, ?_, fun k hk => by cases hk; rfl, by simp⟩
        show hh - l ≤ m - l
        omega
    · cases h
  · cases h
end
end Go.K
end
section
namespace Go.K
open Go (Op)
section
variable {P : Program} {nt : Nat} {dst : Option Tmp} {ty : TypeId} {pos : String} {after : Array Edge} {guard : Option (Nat × Bool)} {ι : Emb}
theorem RL.of1 {ps : List AV} {v : Value} (h : RL ι ps [v]) : ∃ p, ps = [p] ∧ R ι p v := by
  cases ps with
  | nil => simp [RL] at h
  | cons p ps =>
    obtain ⟨x, xs, e, h1, h2⟩ := h.uncons
    cases e
    cases ps with
    | nil => exact ⟨p, rfl, h1⟩
    | cons q qs => simp [RL] at h2
theorem RL.ofCons {ps : List AV} {v : Value} {vs : List Value} (h : RL ι ps (v :: vs)) : ∃ p qs, ps = p :: qs ∧ R ι p v ∧ RL ι qs vs := by
  cases ps with
  | nil => simp [RL] at h
  | cons p ps =>
    obtain ⟨x, xs, e, h1, h2⟩ := h.uncons
    cases e
    exact ⟨p, ps, rfl, h1, h2⟩
theorem RL.ofNil {ps : List AV} (h : RL ι ps []) : ps = [] := by
  cases ps with
  | nil => rfl
  | cons p ps => simp [RL] at h
theorem good_slice (t : TypeId) (x : Operand) (lo hi mx : Option Operand) : Good P nt ⟨dst, .slice t x lo hi mx, ty, pos, after, guard⟩ (decSlice P nt t x lo hi mx) := by
  unfold decSlice
  split
  · exact Good.bad
  · rename_i k hk
    cases mx with
    | none =>
      cases lo with
      | none => cases hi with
        | none =>
          refine goodN fun ι ρ w ps r hps hr => ?_
          obtain ⟨p, rfl, hp⟩ := hps.of1
          obtain ⟨v, h1, h2⟩ := slice_ok (lo := none) (hi := none) (low := none) (high := none) w hk hp rfl rfl hr
          exact ⟨v, by simp [execOp, h1], h2⟩
        | some h =>
          refine goodN fun ι ρ w ps r hps hr => ?_
          obtain ⟨p, qs, rfl, hp, t1⟩ := hps.ofCons
          obtain ⟨q, rfl, hq⟩ := t1.of1
          obtain ⟨v, h1, h2⟩ := slice_ok (lo := none) (hi := some q) (low := none) (high := some (ρ h)) w hk hp rfl ⟨_, rfl, hq⟩ hr
          exact ⟨v, by simp [execOp, h1], h2⟩
      | some l => cases hi with
        | none =>
          refine goodN fun ι ρ w ps r hps hr => ?_
          obtain ⟨p, qs, rfl, hp, t1⟩ := hps.ofCons
          obtain ⟨q, rfl, hq⟩ := t1.of1
          obtain ⟨v, h1, h2⟩ := slice_ok (lo := some q) (hi := none) (low := some (ρ l)) (high := none) w hk hp ⟨_, rfl, hq⟩ rfl hr
          exact ⟨v, by simp [execOp, h1], h2⟩
        | some h =>
          refine goodN fun ι ρ w ps r hps hr => ?_
          obtain ⟨p, qs, rfl, hp, t1⟩ := hps.ofCons
          obtain ⟨q, qs', rfl, hq, t2⟩ := t1.ofCons
          obtain ⟨s, rfl, hs⟩ := t2.of1
          obtain ⟨v, h1, h2⟩ := slice_ok (lo := some q) (hi := some s) (low := some (ρ l)) (high := some (ρ h)) w hk hp ⟨_, rfl, hq⟩ ⟨_, rfl, hs⟩ hr
          exact ⟨v, by simp [execOp, h1], h2⟩
    | some m =>
      cases hi with
      | none => cases lo <;> exact Good.bad
      | some h => cases lo with
        | none =>
          refine goodN fun ι ρ w ps r hps hr => ?_
          obtain ⟨p, qs, rfl, hp, t1⟩ := hps.ofCons
          obtain ⟨q, qs', rfl, hq, t2⟩ := t1.ofCons
          obtain ⟨s, rfl, hs⟩ := t2.of1
          obtain ⟨v, h1, h2⟩ := slice3_ok (lo := none) (low := none) w hk hp rfl hq hs hr
          exact ⟨v, by simp [execOp, h1], h2⟩
        | some l =>
          refine goodN fun ι ρ w ps r hps hr => ?_
          obtain ⟨p, qs, rfl, hp, t1⟩ := hps.ofCons
          obtain ⟨l', qs', rfl, hl, t2⟩ := t1.ofCons
          obtain ⟨q, qs'', rfl, hq, t3⟩ := t2.ofCons
          obtain ⟨s, rfl, hs⟩ := t3.of1
          obtain ⟨v, h1, h2⟩ := slice3_ok (lo := some l') (low := some (ρ l)) w hk hp ⟨_, rfl, hl⟩ hq hs hr
          exact ⟨v, by simp [execOp, h1], h2⟩
/-! laying parts over cells -/
theorem zip_ovr (off : Nat) : ∀ (vs : List Value) (k : Nat) (cs : Array Value), (vs.zipIdx k).foldl (fun cs (c, j) => cs.setIfInBounds (off + j) c) cs = ovr cs (off + k) vs
  | [], _, _ => rfl
  | v :: vs, k, cs => by
    simp only [List.zipIdx_cons, List.foldl_cons, ovr]
    rw [zip_ovr off vs (k + 1)]
    rfl
theorem over_RL {l l' new : List AV} {off : Nat} {c : Array Value} {vs : List Value} (h : over l off new = some l') (hl : RL ι l c.toList) (hn : RL ι new vs) : RL ι l' (ovr c off vs).toList ∧ (new ≠ [] → off + vs.length ≤ c.size) := by
  obtain ⟨p1, p2, p3⟩ := over_some h
  have hlen := hn.length
  have hlc := hl.length
  cases new with
  | nil =>
    have : vs = [] := by simpa [RL] using hn
    subst this
    rw [p2 rfl]
    exact ⟨hl, by simp⟩
  | cons a as =>
    have q1 := p1 (by simp)
    have q3 := p3 (by simp)
    have hb : off + vs.length ≤ c.size := by simp at hlc; omega
    refine ⟨?_, fun _ => hb⟩
    have e : (ovr c off vs).toList = c.toList.take off ++ vs ++ c.toList.drop (off + vs.length) := by
      apply List.ext_getElem?
      intro j
      rw [Array.getElem?_toList, ovr_get _ _ _ _ hb]
      by_cases h1 : j < off
      · rw [if_neg (by omega), List.append_assoc, List.getElem?_append_left (by simp; omega)]
        simp [h1]
      · by_cases h2 : j < off + vs.length
        · rw [if_pos (by omega), List.append_assoc, List.getElem?_append_right (by simp; omega), List.getElem?_append_left (by simp; omega)]
          congr 1; simp; omega
        · rw [if_neg (by omega), List.getElem?_append_right (by simp; omega)]
          simp only [List.length_append, List.length_take, List.getElem?_drop, Array.getElem?_toList]
          congr 1; simp; omega
    rw [e, q3, ← hlen]
    exact ((hl.take off).app hn).app (hl.drop _)
theorem fill_ok (place : Nat → Option (Nat × Nat)) : ∀ (is : List Nat) (ps : List (Nat × Nat)) (us : List AV) (vs : List Value) (z z' : List AV) (c : Array Value), optL place is = some ps → fillAll ps us z = some z' → RL ι us vs → RL ι z c.toList →
    ∃ c', Instr.fill place c (is.zip vs) = some c' ∧ RL ι z' c'.toList
  | [], ps, us, vs, z, z', c, hp, hf, hu, hz => by
    have := optL_nil hp; subst this
    cases us with
    | nil =>
      have : vs = [] := by simpa [RL] using hu
      subst this
      have h' : some z = some z' := hf
      cases h'
      exact ⟨c, rfl, hz⟩
    | cons u us => cases hf
  | i :: is, ps, us, vs, z, z', c, hp, hf, hu, hz => by
    obtain ⟨p, ps, h1, h2, rfl⟩ := optL_cons hp
    cases us with
    | nil => cases hf
    | cons u us =>
      obtain ⟨v, vs, rfl, hv, hu⟩ := hu.uncons
      have e : fillAll (p :: ps) (u :: us) z = Bool.casesOn (and (Nat.beq (len u.cells) p.2) (Nat.ble 1 p.2)) none (Option.casesOn (over z p.1 u.cells) none fun ds => fillAll ps us ds) := rfl
      rw [e] at hf
      obtain ⟨g1, hf⟩ := brec (f := none) hf (by simp)
      obtain ⟨ds, g2, hf⟩ := orec (b := none) hf (by simp)
      simp only [Bool.and_eq_true] at g1
      have g0 := Nat.le_of_ble_eq_true g1.2
      have g1 := Nat.eq_of_beq_eq_true g1.1
      rw [len_eq] at g1
      have hc := hv.cells
      obtain ⟨hds, hb⟩ := over_RL g2 hz hc
      obtain ⟨c', h3, h4⟩ := fill_ok place is ps us vs ds z' _ h2 hf hu hds
      refine ⟨c', ?_, h4⟩
      have hsz : v.cells.size = p.2 := by have := hc.length; simp at this; omega
      simp only [List.zip_cons_cons, Instr.fill, h1]
      have hle : ¬ (p.1 + v.cells.size > c.size) := by
        have hn : u.cells ≠ [] := by intro e; rw [e] at g1; simp at g1; omega
        have := hb hn
        simp at this; omega
      have hz2 : v.cells.zipIdx.foldl (fun cs (c, j) => cs.setIfInBounds (p.1 + j) c) c = ovr c p.1 v.cells.toList := by
        rw [← Array.foldl_toList, Array.toList_zipIdx]
        exact zip_ovr p.1 v.cells.toList 0 c
      simp only [hsz, ne_eq, not_true_eq_false, hz2]
      rw [if_neg (by simp [hsz] at hle; simp [hle])]
      exact h3
end
end Go.K
end
