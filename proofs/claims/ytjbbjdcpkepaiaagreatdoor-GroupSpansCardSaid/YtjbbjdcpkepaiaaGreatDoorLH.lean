/- A part of a proof over an evaluator for programs of this form: KSx KSxO KSxA KSxG. -/
import Derived.Test.YtjbbjdcpkepaiaaGreatDoorLG
set_option linter.all false
set_option autoImplicit false
section
/-! Runs of the evaluator at unknown values. -/
namespace Go.K
open Go (Op)
/-! ### frames -/
def upd1 (g : Nat → AV) (a : Nat) (x : AV) : Nat → AV := fun n => Bool.casesOn (Nat.beq n a) (g n) x
noncomputable def fr (d : Nat) : (Nat → AV) → ET := Nat.rec (motive := fun _ => (Nat → AV) → ET) (fun _ => .nil) (fun _ ih g => .node (g 0) (ih fun n => g (2 * n + 1)) (ih fun n => g (2 * n + 2))) d
theorem upd1_eq (g : Nat → AV) (a b : Nat) (x : AV) : upd1 g a x b = if b = a then x else g b := by
  unfold upd1
  by_cases h : b = a
  · subst h; rw [if_pos rfl, Nat.beq_refl]
  · rw [if_neg h]
    cases hb : Nat.beq b a with
    | true => exact absurd (Nat.eq_of_beq_eq_true hb) h
    | false => rfl
theorem fr_getN : ∀ (d f a : Nat) (g : Nat → AV), a < f → a + 1 < 2 ^ d → (fr d g).get (paN f a) = g a
  | 0, f, a, g, _, h => by simp at h
  | d + 1, 0, a, g, h, _ => by omega
  | d + 1, f + 1, 0, g, _, _ => rfl
  | d + 1, f + 1, a + 1, g, hf, h => by
    rw [Nat.pow_succ] at h
    rw [paN_succ]
    split
    · rename_i h1
      show (fr d fun n => g (2 * n + 1)).get (paN f (a / 2)) = _
      rw [fr_getN d f (a / 2) _ (by omega) (by omega)]
      congr 1; omega
    · rename_i h1
      show (fr d fun n => g (2 * n + 2)).get (paN f (a / 2)) = _
      rw [fr_getN d f (a / 2) _ (by omega) (by omega)]
      congr 1; omega
theorem fr_get {d a : Nat} {g : Nat → AV} (h : a + 1 < 2 ^ d) : (fr d g).get (pa a) = g a := fr_getN d _ a g (Nat.lt_succ_self _) h
theorem fr_putN : ∀ (d f a : Nat) (g : Nat → AV) (x : AV), a < f → a + 1 < 2 ^ d → (fr d g).put (paN f a) x = fr d (upd1 g a x)
  | 0, f, a, g, x, _, h => by simp at h
  | d + 1, 0, a, g, x, h, _ => by omega
  | d + 1, f + 1, 0, g, x, _, _ => by
    rw [paN_zero]
    show ET.node x _ _ = ET.node _ (fr d fun n => upd1 g 0 x (2 * n + 1)) (fr d fun n => upd1 g 0 x (2 * n + 2))
    congr 1
  | d + 1, f + 1, a + 1, g, x, hf, h => by
    rw [Nat.pow_succ] at h
    rw [paN_succ]
    split
    · rename_i h1
      show ET.node _ ((fr d fun n => g (2 * n + 1)).put (paN f (a / 2)) x) _ = ET.node _ (fr d fun n => upd1 g (a + 1) x (2 * n + 1)) (fr d fun n => upd1 g (a + 1) x (2 * n + 2))
      rw [fr_putN d f (a / 2) _ x (by omega) (by omega)]
      have e1 : (upd1 (fun n => g (2 * n + 1)) (a / 2) x) = fun n => upd1 g (a + 1) x (2 * n + 1) := by
        funext n; rw [upd1_eq, upd1_eq]
        by_cases e : n = a / 2
        · rw [if_pos e, if_pos (by omega)]
        · rw [if_neg e, if_neg (by omega)]
      have e2 : (fun n => g (2 * n + 2)) = fun n => upd1 g (a + 1) x (2 * n + 2) := by
        funext n; rw [upd1_eq, if_neg (by omega)]
      rw [e1, ← e2]
      rfl
    · rename_i h1
      show ET.node _ _ ((fr d fun n => g (2 * n + 2)).put (paN f (a / 2)) x) = ET.node _ (fr d fun n => upd1 g (a + 1) x (2 * n + 1)) (fr d fun n => upd1 g (a + 1) x (2 * n + 2))
      rw [fr_putN d f (a / 2) _ x (by omega) (by omega)]
      have e1 : (upd1 (fun n => g (2 * n + 2)) (a / 2) x) = fun n => upd1 g (a + 1) x (2 * n + 2) := by
        funext n; rw [upd1_eq, upd1_eq]
        by_cases e : n = a / 2
        · rw [if_pos e, if_pos (by omega)]
        · rw [if_neg e, if_neg (by omega)]
      have e2 : (fun n => g (2 * n + 1)) = fun n => upd1 g (a + 1) x (2 * n + 1) := by
        funext n; rw [upd1_eq, if_neg (by omega)]
      rw [e1, ← e2]
      rfl
theorem fr_put {d a : Nat} {g : Nat → AV} {x : AV} (h : a + 1 < 2 ^ d) : (fr d g).put (pa a) x = fr d (upd1 g a x) := fr_putN d _ a g x (Nat.lt_succ_self _) h
theorem fr_put_no {d : Nat} {g : Nat → AV} {x : AV} : (fr d g).put .no x = fr d g := rfl
/-- a frame's first state -/
def nilF : Nat → AV := fun _ => .tuple []
theorem fr_full : ∀ d, ET.full d = fr d nilF
  | 0 => rfl
  | d + 1 => by
    show ET.node _ (ET.full d) (ET.full d) = ET.node _ (fr d _) (fr d _)
    rw [fr_full d]
    rfl
/-- the arguments -/
def argF : List AV → Nat → (Nat → AV) → Nat → AV
  | [], _, g => g
  | v :: vs, i, g => argF vs (i + 1) (upd1 g i v)
theorem argsE_fr : ∀ (vs : List AV) (i d : Nat) (g : Nat → AV), i + vs.length < 2 ^ d → argsE vs i (fr d g) = fr d (argF vs i g)
  | [], _, _, _, _ => rfl
  | v :: vs, i, d, g, h => by
    show argsE vs (Nat.succ i) ((fr d g).put (pa i) v) = _
    have h : i + (vs.length + 1) < 2 ^ d := by simpa using h
    rw [fr_put (by omega), argsE_fr vs (i + 1) d _ (by omega)]
    rfl

/-! ### steps -/
noncomputable def oK {α : Type} (o : Option α) (k : α → CR) : CR := Option.casesOn o .fail k
theorem oK_some {α : Type} (x : α) (k : α → CR) : oK (some x) k = k x := rfl
theorem oK_none {α : Type} (k : α → CR) : oK none k = .fail := rfl
section
variable {call : CallFn} {ds : List St} {e : ET} {m : Mem}
theorem seq_nil : seqK call [] e m = .norm e m := rfl
theorem seq_mv {d : Pa} {x : Od} : seqK call (⟨tMv d x⟩ :: ds) e m = seqK call ds (e.put d (ev x e)) m := rfl
theorem seq_1 {d : Pa} {f : F1} {x : Od} : seqK call (⟨t1 d f x⟩ :: ds) e m = oK (f (ev x e)) fun v => seqK call ds (e.put d v) m := rfl
theorem seq_2 {d : Pa} {f : F2} {x y : Od} : seqK call (⟨t2 d f x y⟩ :: ds) e m = oK (f (ev x e) (ev y e)) fun v => seqK call ds (e.put d v) m := rfl
theorem seq_N {d : Pa} {f : FN} {xs : List Od} : seqK call (⟨tN d f xs⟩ :: ds) e m = oK (f (evs xs e)) fun v => seqK call ds (e.put d v) m := rfl
theorem seq_R1 {d : Pa} {f : R1} {x : Od} : seqK call (⟨tR1 d f x⟩ :: ds) e m = oK (f m (ev x e)) fun v => seqK call ds (e.put d v) m := rfl
theorem seq_R2 {d : Pa} {f : Mem → AV → AV → Option AV} {x y : Od} : seqK call (⟨tR2 d f x y⟩ :: ds) e m = oK (f m (ev x e) (ev y e)) fun v => seqK call ds (e.put d v) m := rfl
theorem seq_Al {d : Pa} {f : List AV → Option AObj} {mk : Nat → AV} {xs : List Od} : seqK call (⟨tAl d f mk xs⟩ :: ds) e m = oK (f (evs xs e)) fun b => seqK call ds (e.put d (mk m.next)) (m.new b) := by
  cases m; rfl
/-- what a heavy operation comes to -/
noncomputable def hK (x : HR) (e : ET) (k : AV → Mem → CR) : CR := HR.casesOn x .fail k (fun m => k .undef m) (fun v m => .panic v e m)
theorem hK_val (v : AV) (m : Mem) (e : ET) (k : AV → Mem → CR) : hK (.val v m) e k = k v m := rfl
theorem hK_skip (m : Mem) (e : ET) (k : AV → Mem → CR) : hK (.skip m) e k = k .undef m := rfl
theorem hK_fail (e : ET) (k : AV → Mem → CR) : hK .fail e k = .fail := rfl
theorem hK_panic (v : AV) (m : Mem) (e : ET) (k : AV → Mem → CR) : hK (.panic v m) e k = .panic v e m := rfl
theorem seq_Hv {d : Pa} {f : H} {xs : List Od} : seqK call (⟨tHv d f xs⟩ :: ds) e m = hK (f m (evs xs e)) e fun v m' => seqK call ds (e.put d v) m' := rfl
/-- .. and a call -/
noncomputable def fK (x : FR) (e : ET) (k : AV → Mem → CR) : CR := FR.casesOn x .fail k (fun v m => .panic v e m)
theorem fK_ret (v : AV) (m : Mem) (e : ET) (k : AV → Mem → CR) : fK (.ret v m) e k = k v m := rfl
theorem fK_fail (e : ET) (k : AV → Mem → CR) : fK .fail e k = .fail := rfl
theorem fK_panic (v : AV) (m : Mem) (e : ET) (k : AV → Mem → CR) : fK (.panic v m) e k = .panic v e m := rfl
noncomputable def fnG (v : AV) (f : FuncId → List AV → List AV → CR) : CR := fnK v f
theorem fnG_fn (g : FuncId) (a b : List AV) (f : FuncId → List AV → List AV → CR) : fnG (.func g a b) f = f g a b := rfl
theorem seq_call {d : Pa} {f : Od} {xs : List Od} : seqK call (⟨tCall d f xs⟩ :: ds) e m = fnG (ev f e) fun g first caps => fK (call g (app first (app (evs xs e) caps)) m) e fun v m' => seqK call ds (e.put d v) m' := rfl
theorem app_nil1 {α : Type} (l : List α) : app [] l = l := rfl
theorem app_nil2 {α : Type} (l : List α) : app l [] = l := by rw [app_eq]; simp
/-- a guard -/
noncomputable def gK (v : AV) (want : Bool) (a b : CR) : CR := Bool.casesOn (bK v false fun b => beqb b want) b a
theorem gK_t (b want : Bool) (x y : CR) : gK (.bool b) want x y = if b = want then x else y := by cases b <;> cases want <;> rfl
theorem seq_gd {p : Pa} {want : Bool} {d : Pa} {r : Run} : seqK call (⟨tGd p want d r⟩ :: ds) e m = gK (e.get p) want (seqK call (⟨r⟩ :: ds) e m) (seqK call ds (e.put d .undef) m) := rfl
theorem ev_tmp {p : Pa} : ev (.tmp p) e = e.get p := rfl
theorem ev_val {v : AV} : ev (.val v) e = v := rfl
theorem evs_nil : evs [] e = [] := rfl
theorem evs_cons {x : Od} {xs : List Od} : evs (x :: xs) e = ev x e :: evs xs e := rfl
end

/-! ### code -/
noncomputable def crK (x : CR) (b : CFn) : CR := CR.casesOn x .fail b .exit .ret .panic
theorem crK_norm (e : ET) (m : Mem) (b : CFn) : crK (.norm e m) b = b e m := rfl
theorem crK_exit (i : Nat) (e : ET) (m : Mem) (b : CFn) : crK (.exit i e m) b = .exit i e m := rfl
theorem crK_ret (e : ET) (m : Mem) (b : CFn) : crK (.ret e m) b = .ret e m := rfl
theorem crK_fail (b : CFn) : crK .fail b = .fail := rfl
theorem crK_panic (v : AV) (e : ET) (m : Mem) (b : CFn) : crK (.panic v e m) b = .panic v e m := rfl
section
variable {a b : CFn} {e : ET} {m : Mem}
theorem cSeq_eq : cSeq a b e m = crK (a e m) b := rfl
theorem cCond_eq {x : Od} : cCond (some x) a b e m = isTrue (ev x e) (a e m) (b e m) := rfl
theorem isTrue_bool {c : Bool} {x y : CR} : isTrue (.bool c) x y = if c = true then x else y := by cases c <;> rfl
noncomputable def blK (id : Nat) (x : CR) : CR := CR.casesOn x .fail .norm (fun i e m => Bool.casesOn (Nat.beq i id) (.exit i e m) (.norm e m)) .ret .panic
theorem cBlock_eq {id : Nat} : cBlock id a e m = blK id (a e m) := rfl
theorem blK_norm {id : Nat} : blK id (.norm e m) = .norm e m := rfl
theorem blK_ret {id : Nat} : blK id (.ret e m) = .ret e m := rfl
theorem blK_fail {id : Nat} : blK id .fail = .fail := rfl
theorem blK_panic {id : Nat} {v : AV} : blK id (.panic v e m) = .panic v e m := rfl
theorem blK_exit {id i : Nat} : blK id (.exit i e m) = if i = id then .norm e m else .exit i e m := by
  show (Bool.rec _ _ (Nat.beq i id) : CR) = _
  by_cases h : i = id
  · subst h; rw [Nat.beq_refl, if_pos rfl]
  · rw [if_neg h]
    cases hb : Nat.beq i id with
    | true => exact absurd (Nat.eq_of_beq_eq_true hb) h
    | false => rfl
theorem cLoop_succ {n : Nat} : cLoop (n + 1) a e m = crK (a e m) (cLoop n a) := rfl
/-- code that goes nowhere else -/
noncomputable def cSkip : CFn := fun e m => .norm e m
noncomputable def cExit (i : Nat) : CFn := fun e m => .exit i e m
noncomputable def cRet : CFn := fun e m => .ret e m
noncomputable def cFail : CFn := fun _ _ => .fail
theorem cFail_eq : cFail e m = .fail := rfl
theorem cSkip_eq : cSkip e m = .norm e m := rfl
theorem cExit_eq {i : Nat} : cExit i e m = .exit i e m := rfl
theorem cRet_eq : cRet e m = .ret e m := rfl
end
/-! ### memory -/
/-- nothing that stands may be written; nothing is deferred -/
noncomputable def Mem.shut (m : Mem) : Mem := ⟨m.next, m.next, m.objs, []⟩
noncomputable def Mem.undef (m : Mem) : Mem := ⟨m.next, m.ro, m.objs, []⟩
@[simp] theorem shut_next (m : Mem) : m.shut.next = m.next := rfl
@[simp] theorem shut_ro (m : Mem) : m.shut.ro = m.next := rfl
@[simp] theorem shut_d (m : Mem) : m.shut.d = [] := rfl
@[simp] theorem shut_get (m : Mem) (o : Nat) : m.shut.get o = m.get o := by rw [Mem.get_eq, Mem.get_eq]; rfl
@[simp] theorem undef_next (m : Mem) : m.undef.next = m.next := rfl
@[simp] theorem undef_ro (m : Mem) : m.undef.ro = m.ro := rfl
@[simp] theorem undef_d (m : Mem) : m.undef.d = [] := rfl
@[simp] theorem undef_get (m : Mem) (o : Nat) : m.undef.get o = m.get o := by rw [Mem.get_eq, Mem.get_eq]; rfl
theorem rw_dec (m : Mem) (o : Nat) : m.rw o = decide (m.ro ≤ o) := by
  by_cases h : m.ro ≤ o
  · rw [decide_eq_true h]; exact (Mem.rw_iff m o).2 h
  · rw [decide_eq_false h]
    cases hb : m.rw o with
    | false => rfl
    | true => exact absurd ((Mem.rw_iff m o).1 hb) h
@[simp] theorem backTo_next (d : List Df) (m : Mem) : (backTo d m).next = m.next := by cases m; rfl
@[simp] theorem backTo_ro (d : List Df) (m : Mem) : (backTo d m).ro = m.ro := by cases m; rfl
@[simp] theorem backTo_d (d : List Df) (m : Mem) : (backTo d m).d = d := by cases m; rfl
@[simp] theorem backTo_get (d : List Df) (m : Mem) (o : Nat) : (backTo d m).get o = m.get o := by cases m; rfl
theorem back_undef (m : Mem) : backTo m.d m.undef.undef = m := by cases m; rfl
theorem back_put (m : Mem) (o : Nat) (x : AObj) : backTo m.d (m.undef.put o x).undef = m.put o x := by cases m; rfl
theorem backTo_eq (d : List Df) (m : Mem) : backTo d m = ⟨m.next, m.ro, m.objs, d⟩ := by cases m; rfl

/-! ### a call's frame -/
noncomputable def endF (dn : FuncId → Nat → Bool) (rs : List RV) (e : ET) (m : Mem) (k : AV → Mem → FR) : FR := if m.d.all (fun x => dn x.f (len x.args)) = true then Option.casesOn (resK e m.undef rs) .fail fun vs => k (oneV vs) m.undef else .fail
theorem endK_eq (dn : FuncId → Nat → Bool) (rs : List RV) (e : ET) (m : Mem) (k : AV → Mem → FR) : endK dn rs e m k = endF dn rs e m k := by
  obtain ⟨n, r, t, d⟩ := m
  unfold endF
  show (Bool.rec _ _ (allB _ d) : FR) = _
  rw [allB_eq]
  show _ = if d.all (fun x => dn x.f (len x.args)) = true then _ else _
  have e1 : (d.all fun x => (Df.casesOn x fun f a => dn f (len a) : Bool)) = d.all fun x => dn x.f (len x.args) := rfl
  rw [e1]
  cases d.all fun x => dn x.f (len x.args) <;> rfl
noncomputable def oF {α : Type} (o : Option α) (k : α → FR) : FR := Option.casesOn o .fail k
theorem oF_some {α : Type} (x : α) (k : α → FR) : oF (some x) k = k x := rfl
theorem oF_none {α : Type} (k : α → FR) : oF none k = .fail := rfl
theorem endF_nil {dn : FuncId → Nat → Bool} {rs : List RV} {e : ET} {m : Mem} {k : AV → Mem → FR} (h : m.d = []) : endF dn rs e m k = oF (resK e m.undef rs) fun vs => k (oneV vs) m.undef := by
  unfold endF
  rw [h]
  rfl
noncomputable def endG (d : List Df) (dn : FuncId → Nat → Bool) (rs : List RV) (e : ET) (m : Mem) (k : AV → Mem → FR) : FR := if d.all (fun x => dn x.f (len x.args)) = true then Option.casesOn (resK e m.undef rs) .fail fun vs => k (oneV vs) m.undef else .fail
theorem endF_eq (dn : FuncId → Nat → Bool) (rs : List RV) (e : ET) (m : Mem) (k : AV → Mem → FR) : endF dn rs e m k = endG m.d dn rs e m k := rfl
theorem endG_nil (dn : FuncId → Nat → Bool) (rs : List RV) (e : ET) (m : Mem) (k : AV → Mem → FR) : endG [] dn rs e m k = oF (resK e m.undef rs) fun vs => k (oneV vs) m.undef := rfl
/-- a function's end that keeps what it made -/
noncomputable def finI (dn : FuncId → Nat → Bool) (rs : List RV) (x : CR) (m : Mem) : FR := finK dn rs x (fun v m' => .ret v (backTo m.d m')) (fun v m' => .panic v (backTo m.d m'))
/-- .. and that of a function without traces -/
noncomputable def finP (dn : FuncId → Nat → Bool) (rs : List RV) (x : CR) (m : Mem) : FR := finK dn rs x (fun v _ => Bool.casesOn (clean m.next v) .fail (.ret v m)) (fun _ _ => .fail)
noncomputable def cl (k n : Nat) : AV → Bool := Nat.rec (motive := fun _ => AV → Bool) (fun _ => false) (fun _ ih => clean1 ih n) k
noncomputable def cleanF (b : Bool) (v : AV) (m : Mem) : FR := Bool.casesOn b .fail (.ret v m)
theorem cleanF_t (v : AV) (m : Mem) : cleanF true v m = .ret v m := rfl
theorem cl_int (k n : Nat) (j : IntKind) (x : Int) : cl (k + 1) n (.int j x) = true := rfl
theorem cl_bool (k n : Nat) (b : Bool) : cl (k + 1) n (.bool b) = true := rfl
theorem cl_str (k n : Nat) (s : List UInt8) : cl (k + 1) n (.str s) = true := rfl
theorem cl_nil (k n : Nat) (j : NK) : cl (k + 1) n (.nil j) = true := rfl
theorem cl_agg (k n : Nat) (l : List AV) : cl (k + 1) n (.agg l) = l.all (cl k n) := allB_eq _ _
theorem cl_tuple (k n : Nat) (l : List AV) : cl (k + 1) n (.tuple l) = l.all (cl k n) := allB_eq _ _
theorem cl_ptr (k n o i : Nat) : cl (k + 1) n (.ptr o i) = decide (o < n) := by
  show Nat.ble (Nat.succ o) n = _
  by_cases h : o < n
  · rw [decide_eq_true h, Nat.ble_eq_true_of_le h]
  · rw [decide_eq_false h]
    cases e : Nat.ble (Nat.succ o) n with
    | true => exact absurd (Nat.le_of_ble_eq_true e) h
    | false => rfl
theorem cl_slice (k n o i j : Nat) (c : Option Nat) (es : Nat) : cl (k + 1) n (.slice o i j c es) = decide (o < n) := cl_ptr k n o 0
section
variable {dn : FuncId → Nat → Bool} {rs : List RV} {e : ET} {m m' : Mem}
theorem finI_ret : finI dn rs (.ret e m') m = endF dn rs e m' fun v m' => .ret v (backTo m.d m') := by
  rw [← endK_eq]; rfl
theorem finI_norm : finI dn rs (.norm e m') m = endF dn rs e m' fun v m' => .ret v (backTo m.d m') := by
  rw [← endK_eq]; rfl
theorem finI_fail : finI dn rs .fail m = .fail := rfl
theorem finP_ret : finP dn rs (.ret e m') m = endF dn rs e m' fun v _ => cleanF (cl 6 m.next v) v m := by
  rw [← endK_eq]; rfl
theorem finP_norm : finP dn rs (.norm e m') m = endF dn rs e m' fun v _ => cleanF (cl 6 m.next v) v m := by
  rw [← endK_eq]; rfl
theorem finP_fail : finP dn rs .fail m = .fail := rfl
end
theorem resK_nil (e : ET) (m : Mem) : resK e m [] = some [] := rfl
noncomputable def oL (o : Option AV) (l : Option (List AV)) : Option (List AV) := Option.casesOn o none fun y => Option.casesOn l none fun ys => some (y :: ys)
theorem oL_some (x : AV) (l : List AV) : oL (some x) (some l) = some (x :: l) := rfl
theorem resK_tmp (e : ET) (m : Mem) (p : Pa) (rs : List RV) : resK e m (.tmp p :: rs) = oL (some (e.get p)) (resK e m rs) := rfl
theorem resK_cell (e : ET) (m : Mem) (p : Pa) (n : Nat) (agg : Bool) (rs : List RV) : resK e m (.cell p n agg :: rs) = oL (rLoad agg n m (e.get p)) (resK e m rs) := rfl
theorem oneV_one (v : AV) : oneV [v] = v := rfl
theorem oneV_nil : oneV [] = .tuple [] := rfl
theorem oneV_two (a b : AV) (l : List AV) : oneV (a :: b :: l) = .tuple (a :: b :: l) := rfl
/-- what a program's function is -/
structure Fn (c : Cfg) (f : FuncId) (nt dep : Nat) (rs : List RV) (B : CallFn → CFn) : Prop where
  fd : ∃ code, fdOf c.P f = some ⟨code, nt, dep, rs⟩ ∧ ∀ call, codeK c.P nt (c.pl f) call c.rounds code = B call
/-- is a call of f one of a primitive's? -/
noncomputable def primAt (c : Cfg) (f : FuncId) (args : List AV) (m : Mem) : Option VM := Option.casesOn (c.prim f) none fun g => g args m
theorem callI {c : Cfg} {f : FuncId} {nt dep : Nat} {rs : List RV} {B : CallFn → CFn} (h : Fn c f nt dep rs B) (hp : c.pure f = false) {F : Nat} {args : List AV} {m : Mem} (ha : args.length ≤ nt) (hd : args.length < 2 ^ dep) (hq : primAt c f args m = none) :
    callK c (F + 1) f args m = finI c.dn rs (B (callK c F) (fr dep (argF args 0 nilF)) m.undef) m := by
  obtain ⟨code, h1, h2⟩ := h.fd
  show (Option.rec _ _ (primAt c f args m) : FR) = _
  rw [hq]
  show bodyK c.P c.pl c.dn (callK c F) c.rounds (c.pure f) f args m = _
  unfold bodyK
  rw [h1]
  obtain ⟨n, r, t, d⟩ := m
  have hl : Nat.ble (len args) nt = true := by rw [len_eq]; exact Nat.ble_eq_true_of_le ha
  show (Bool.rec _ _ (Nat.ble (len args) nt) : FR) = _
  rw [hl, hp]
  show finK c.dn rs (codeK c.P nt (c.pl f) (callK c F) c.rounds code (argsE args 0 (ET.full dep)) ⟨n, r, t, []⟩) _ _ = _
  rw [h2, fr_full, argsE_fr _ _ _ _ (by omega)]
  rfl
theorem callP {c : Cfg} {f : FuncId} {nt dep : Nat} {rs : List RV} {B : CallFn → CFn} (h : Fn c f nt dep rs B) (hp : c.pure f = true) {F : Nat} {args : List AV} {m : Mem} (ha : args.length ≤ nt) (hd : args.length < 2 ^ dep) (hq : primAt c f args m = none) :
    callK c (F + 1) f args m = finP c.dn rs (B (callK c F) (fr dep (argF args 0 nilF)) m.shut) m := by
  obtain ⟨code, h1, h2⟩ := h.fd
  show (Option.rec _ _ (primAt c f args m) : FR) = _
  rw [hq]
  show bodyK c.P c.pl c.dn (callK c F) c.rounds (c.pure f) f args m = _
  unfold bodyK
  rw [h1]
  obtain ⟨n, r, t, d⟩ := m
  have hl : Nat.ble (len args) nt = true := by rw [len_eq]; exact Nat.ble_eq_true_of_le ha
  show (Bool.rec _ _ (Nat.ble (len args) nt) : FR) = _
  rw [hl, hp]
  show finK c.dn rs (codeK c.P nt (c.pl f) (callK c F) c.rounds code (argsE args 0 (ET.full dep)) ⟨n, n, t, []⟩) _ _ = _
  rw [h2, fr_full, argsE_fr _ _ _ _ (by omega)]
  rfl
end Go.K
end
section
/-! What the operations come to at unknown values, as equations for simp. -/
namespace Go.K
open Go (Op)
/-! ### numbers -/
theorem onInts_same (f : IntKind → Int → Int → Option AV) (k : IntKind) (a b : Int) : onInts f (.int k a) (.int k b) = f k a b := by cases k <;> rfl
theorem x_addI (k : IntKind) (a b : Int) : fAddI (.int k a) (.int k b) = some (.int k (k.wrap (a + b))) := by unfold fAddI; rw [onInts_same, wrap_eq, iadd_eq]
theorem x_sub (k : IntKind) (a b : Int) : fSub (.int k a) (.int k b) = some (.int k (k.wrap (a - b))) := by unfold fSub; rw [onInts_same, wrap_eq, iadd_eq, ineg_eq, Int.sub_eq_add_neg]
theorem x_mul (k : IntKind) (a b : Int) : fMul (.int k a) (.int k b) = some (.int k (k.wrap (a * b))) := by unfold fMul; rw [onInts_same, wrap_eq, imul_eq]
theorem x_quo (k : IntKind) (a b : Int) : fQuo (.int k a) (.int k b) = if b = 0 then none else some (.int k (k.wrap (Int.tdiv a b))) := by
  unfold fQuo; rw [onInts_same, wrap_eq, ieq_eq]
  by_cases h : b = 0
  · subst h; rfl
  · rw [if_neg h]
    have e : (b == Int.ofNat 0) = false := by simpa using h
    rw [e]
theorem x_rem (k : IntKind) (a b : Int) : fRem (.int k a) (.int k b) = if b = 0 then none else some (.int k (Int.tmod a b)) := by
  unfold fRem; rw [onInts_same, ieq_eq]
  by_cases h : b = 0
  · subst h; rfl
  · rw [if_neg h]
    have e : (b == Int.ofNat 0) = false := by simpa using h
    rw [e]
theorem x_ltI (k : IntKind) (a b : Int) : fLtI (.int k a) (.int k b) = some (.bool (decide (a < b))) := by unfold fLtI; rw [onInts_same, ilt_eq]
theorem x_gtI (k : IntKind) (a b : Int) : fGtI (.int k a) (.int k b) = some (.bool (decide (b < a))) := by unfold fGtI; rw [onInts_same, ilt_eq]
theorem x_leI (k : IntKind) (a b : Int) : fLeI (.int k a) (.int k b) = some (.bool (decide (a ≤ b))) := by
  unfold fLeI; rw [onInts_same, ilt_eq]
  have e : (not (decide (b < a))) = decide (a ≤ b) := by
    by_cases h : b < a
    · simp [h]
    · simp [h, Int.not_lt.1 h]
  rw [e]
theorem x_geI (k : IntKind) (a b : Int) : fGeI (.int k a) (.int k b) = some (.bool (decide (b ≤ a))) := by
  unfold fGeI; rw [onInts_same, ilt_eq]
  have e : (not (decide (a < b))) = decide (b ≤ a) := by
    by_cases h : a < b
    · simp [h]
    · simp [h, Int.not_lt.1 h]
  rw [e]
theorem x_eqI (k : IntKind) (a b : Int) : fEqI (.int k a) (.int k b) = some (.bool (decide (a = b))) := by
  unfold fEqI; rw [onInts_same, ieq_eq]
  have e : (a == b) = decide (a = b) := by by_cases h : a = b <;> simp [h]
  rw [e]
theorem x_neI (k : IntKind) (a b : Int) : fNeI (.int k a) (.int k b) = some (.bool (decide (a ≠ b))) := by
  unfold fNeI; rw [onInts_same, ieq_eq]
  have e : (not (a == b)) = decide (a ≠ b) := by by_cases h : a = b <;> simp [h]
  rw [e]
theorem x_neg (k : IntKind) (a : Int) : fNeg (.int k a) = some (.int k (k.wrap (-a))) := by
  show some (AV.int k (wrap k (ineg a))) = _
  rw [wrap_eq, ineg_eq]
theorem x_not (b : Bool) : fNot (.bool b) = some (.bool (!b)) := rfl
theorem x_conv (k j : IntKind) (n : Int) : fConvInt k (.int j n) = some (.int k (k.wrap n)) := by
  show some (AV.int k (wrap k n)) = _
  rw [wrap_eq]
theorem x_max (k : IntKind) (a b : Int) : fMax (.int k a) (.int k b) = some (.int k (max a b)) := by
  unfold fMax; rw [onInts_same, ilt_eq]
  by_cases h : a < b
  · have e : max a b = b := by omega
    rw [e, decide_eq_true h]
  · have e : max a b = a := by omega
    rw [e, decide_eq_false h]
theorem x_min (k : IntKind) (a b : Int) : fMin (.int k a) (.int k b) = some (.int k (min a b)) := by
  unfold fMin; rw [onInts_same, ilt_eq]
  by_cases h : b < a
  · have e : min a b = b := by omega
    rw [e, decide_eq_true h]
  · have e : min a b = a := by omega
    rw [e, decide_eq_false h]
theorem x_fold2 (f : F2) (x y : AV) : fFold f [x, y] = f x y := by
  show (Option.rec _ _ (f x y) : Option AV) = _
  cases f x y <;> rfl
theorem x_pick (b : Bool) (x y : AV) : fPick [.bool b, x, y] = some (if b = true then x else y) := by cases b <;> rfl
theorem wrap64 {n : Int} (h1 : -9223372036854775808 ≤ n) (h2 : n ≤ 9223372036854775807) : IntKind.wrap .i64 n = n := by
  rw [← wrap_eq]
  cases n with
  | ofNat a =>
    have e : Nat.ble a 9223372036854775807 = true := Nat.ble_eq_true_of_le (by have : ((a : Nat) : Int) ≤ 9223372036854775807 := h2; omega)
    show (Bool.rec _ _ (Nat.ble a 9223372036854775807) : Int) = _
    rw [e]
  | negSucc a =>
    have e : Nat.ble (Nat.succ a) 9223372036854775808 = true := Nat.ble_eq_true_of_le (by omega)
    show (Bool.rec _ _ (Nat.ble (Nat.succ a) 9223372036854775808) : Int) = _
    rw [e]
/-! ### strings -/
theorem onStrs_same (f : List UInt8 → List UInt8 → Option AV) (a b : List UInt8) : onStrs f (.str a) (.str b) = f a b := rfl
theorem x_addS (a b : List UInt8) : fAddS (.str a) (.str b) = if a.length + b.length ≤ 9223372036854775807 then some (.str (a ++ b)) else none := by
  unfold fAddS
  rw [onStrs_same, len_eq, len_eq, app_eq]
  by_cases h : a.length + b.length ≤ 9223372036854775807
  · rw [if_pos h]
    have e : Nat.ble (Nat.add a.length b.length) 9223372036854775807 = true := Nat.ble_eq_true_of_le h
    rw [e]
  · rw [if_neg h]
    cases e : Nat.ble (Nat.add a.length b.length) 9223372036854775807 with
    | true => exact absurd (Nat.le_of_ble_eq_true e) h
    | false => rfl
theorem x_eqS (n : Bool) (a b : List UInt8) : fEq n eqStr (.str a) (.str b) = some (.bool (if n = true then decide (a ≠ b) else decide (a = b))) := by
  show some (AV.bool (Bool.rec _ _ n)) = _
  rw [eqB_eq]
  have e : (a == b) = decide (a = b) := by by_cases h : a = b <;> simp [h]
  cases n
  · rw [e]; rfl
  · rw [e]
    have e2 : (not (decide (a = b))) = decide (a ≠ b) := by by_cases h : a = b <;> simp [h]
    show some (AV.bool (not (decide (a = b)))) = some (AV.bool (if true = true then decide (a ≠ b) else _))
    rw [e2, if_pos rfl]
theorem x_eqBo (n : Bool) (a b : Bool) : fEq n eqBo (.bool a) (.bool b) = some (.bool (if n = true then (a != b) else (a == b))) := by cases n <;> cases a <;> cases b <;> rfl
theorem x_lenS (s : List UInt8) : fLenS (.str s) = some (.int .i64 (s.length : Int)) := by
  show some (AV.int .i64 (Int.ofNat (len s))) = _
  rw [len_eq]; rfl
theorem x_lenSl (o off n : Nat) (c : Option Nat) (es : Nat) : fLenSl (.slice o off n c es) = some (.int .i64 (n : Int)) := rfl
theorem x_lenNil : fLenSl (.nil .slice) = some (.int .i64 0) := rfl
/-- a byte of a string -/
def ixS (s : List UInt8) (n : Int) : Option UInt8 := if 0 ≤ n then s[n.toNat]? else none
theorem ixS_nat (s : List UInt8) (i : Nat) : ixS s (i : Int) = s[i]? := by unfold ixS; rw [if_pos (by omega)]; simp
def byteV (b : UInt8) : AV := .int .u8 (b.toNat : Int)
theorem x_index (s : List UInt8) (k : IntKind) (n : Int) : fIndexStr (.str s) (.int k n) = (ixS s n).map byteV := by
  cases n with
  | ofNat i =>
    show (Option.rec _ _ (nth s i) : Option AV) = (ixS s ((i : Nat) : Int)).map byteV
    rw [nth_eq, ixS_nat]
    cases s[i]? <;> rfl
  | negSucc i =>
    have e : ixS s (Int.negSucc i) = none := by unfold ixS; rw [if_neg (by omega)]
    rw [e]; rfl
theorem oK_map {α β : Type} (f : α → β) (o : Option α) (k : β → CR) : oK (o.map f) k = oK o fun x => k (f x) := by cases o <;> rfl
theorem oK_ite {α : Type} (c : Prop) [Decidable c] (x y : Option α) (k : α → CR) : oK (if c then x else y) k = if c then oK x k else oK y k := by split <;> rfl
theorem bound_int (k : IntKind) (n : Int) (y : Nat) : bound (.int k n) y = if 0 ≤ n ∧ n ≤ (y : Int) then some n.toNat else none := by
  cases n with
  | ofNat i =>
    show (Bool.rec _ _ (Nat.ble i y) : Option Nat) = _
    by_cases h : i ≤ y
    · rw [if_pos ⟨by simp, by simpa using h⟩, Nat.ble_eq_true_of_le h]; rfl
    · rw [if_neg (by simp; omega)]
      cases e : Nat.ble i y with
      | true => exact absurd (Nat.le_of_ble_eq_true e) h
      | false => rfl
  | negSucc i => rw [if_neg (by omega)]; rfl
/-- a piece of a string -/
def sub (s : List UInt8) (lo hi : Int) : Option (List UInt8) := if 0 ≤ lo ∧ lo ≤ hi ∧ hi ≤ (s.length : Int) then some ((s.drop lo.toNat).take (hi.toNat - lo.toNat)) else none
theorem x_sub_ff (s : List UInt8) : fSliceN .str false false [.str s] = some (.str s) := by
  show some (AV.str (takeL (dropN s 0) (Nat.sub (len s) 0))) = _
  rw [takeL_eq, dropN_eq, len_eq]; simp
theorem x_sub_tf (s : List UInt8) (k : IntKind) (lo : Int) : fSliceN .str true false [.str s, .int k lo] = (sub s lo s.length).map .str := by
  show (Option.rec _ _ (bound (.int k lo) (len s)) : Option AV) = _
  rw [bound_int, len_eq]
  unfold sub
  by_cases h : 0 ≤ lo ∧ lo ≤ (s.length : Int)
  · rw [if_pos h, if_pos (by omega)]
    show some (AV.str (takeL (dropN s lo.toNat) (Nat.sub s.length lo.toNat))) = some (AV.str _)
    rw [takeL_eq, dropN_eq]; rfl
  · rw [if_neg h, if_neg (by omega)]; rfl
theorem x_sub_ft (s : List UInt8) (k : IntKind) (hi : Int) : fSliceN .str false true [.str s, .int k hi] = (sub s 0 hi).map .str := by
  show (Option.rec _ _ (bound (.int k hi) (len s)) : Option AV) = _
  rw [bound_int, len_eq]
  unfold sub
  by_cases h : 0 ≤ hi ∧ hi ≤ (s.length : Int)
  · rw [if_pos h, if_pos (by omega)]
    show some (AV.str (takeL (dropN s 0) (Nat.sub hi.toNat 0))) = some (AV.str _)
    rw [takeL_eq, dropN_eq]; rfl
  · rw [if_neg h, if_neg (by omega)]; rfl
theorem x_sub_tt (s : List UInt8) (k j : IntKind) (lo hi : Int) : fSliceN .str true true [.str s, .int k lo, .int j hi] = (sub s lo hi).map .str := by
  show (Option.rec _ _ (bound (.int j hi) (len s)) : Option AV) = _
  rw [bound_int, len_eq]
  unfold sub
  by_cases h : 0 ≤ hi ∧ hi ≤ (s.length : Int)
  · rw [if_pos h]
    show (Option.rec _ _ (bound (.int k lo) hi.toNat) : Option AV) = _
    rw [bound_int]
    by_cases h2 : 0 ≤ lo ∧ lo ≤ ((hi.toNat : Nat) : Int)
    · rw [if_pos h2, if_pos (by omega)]
      show some (AV.str (takeL (dropN s lo.toNat) (Nat.sub hi.toNat lo.toNat))) = some (AV.str _)
      rw [takeL_eq, dropN_eq]; rfl
    · rw [if_neg h2, if_neg (by omega)]; rfl
  · rw [if_neg h, if_neg (by omega)]; rfl
theorem sub_ok {s : List UInt8} {lo hi : Int} (h1 : 0 ≤ lo) (h2 : lo ≤ hi) (h3 : hi ≤ (s.length : Int)) : sub s lo hi = some ((s.drop lo.toNat).take (hi.toNat - lo.toNat)) := by unfold sub; rw [if_pos ⟨h1, h2, h3⟩]
/-! ### aggregates -/
theorem x_extract (vs : List AV) (i : Nat) : fExtract i (.tuple vs) = vs[i]? := by
  show nth vs i = _
  rw [nth_eq]
theorem cut_eq {α : Type} : ∀ (l : List α) (off n : Nat), cut l off n = if n ≤ l.length - off then some ((l.drop off).take n) else none := by
  have key : ∀ (l : List α) (n : Nat), takeN l n = if n ≤ l.length then some (l.take n) else none := by
    intro l
    induction l with
    | nil => intro n; cases n <;> rfl
    | cons x xs ih =>
      intro n
      cases n with
      | zero => rfl
      | succ n =>
        show (Option.rec _ _ (takeN xs n) : Option (List α)) = _
        rw [ih]
        by_cases h : n ≤ xs.length
        · rw [if_pos h, if_pos (by simpa using h)]; rfl
        · rw [if_neg h, if_neg (by simpa using h)]
  intro l off n
  unfold cut
  rw [dropN_eq, key]
  simp
theorem part_f (n off : Nat) (cs : List AV) : part false n cs off = cs[off]? := by show nth cs off = _; rw [nth_eq]
theorem part_t (n off : Nat) (cs : List AV) : part true n cs off = if n ≤ cs.length - off then some (.agg ((cs.drop off).take n)) else none := by
  show (Option.rec _ _ (cut cs off n) : Option AV) = _
  rw [cut_eq]
  split <;> rfl
theorem x_field (agg : Bool) (n off : Nat) (cs : List AV) : fField agg n off (.agg cs) = part agg n cs off := rfl
theorem x_fieldAddr (off o k : Nat) : fFieldAddr off (.ptr o k) = some (.ptr o (k + off)) := rfl
theorem x_nilCheck (o k : Nat) : fNilCheck (.ptr o k) = some (.ptr o k) := rfl
theorem x_iface (t : TypeId) (v : AV) : fIface t v = some (.iface t v) := rfl
/-- a place in a row -/
def ixN (i : Int) (n : Nat) : Option Nat := if 0 ≤ i ∧ i < (n : Int) then some i.toNat else none
theorem ixN_ok {i : Int} {n : Nat} (h1 : 0 ≤ i) (h2 : i < (n : Int)) : ixN i n = some i.toNat := by unfold ixN; rw [if_pos ⟨h1, h2⟩]
theorem x_idxSl (es o off n : Nat) (c : Option Nat) (k : IntKind) (i : Int) : fIdxSl es (.slice o off n c es) (.int k i) = (ixN i n).map fun i => .ptr o (off + i * es) := by
  cases i with
  | ofNat i =>
    show (Bool.rec _ _ (and (Nat.beq es es) (Nat.ble (Nat.succ i) n)) : Option AV) = _
    rw [Nat.beq_refl, Bool.true_and]
    unfold ixN
    by_cases h : i < n
    · rw [if_pos ⟨by simp, by simpa using h⟩, Nat.ble_eq_true_of_le h]; rfl
    · rw [if_neg (by simp; omega)]
      cases e : Nat.ble (Nat.succ i) n with
      | true => exact absurd (Nat.le_of_ble_eq_true e) (by omega)
      | false => rfl
  | negSucc i => unfold ixN; rw [if_neg (by omega)]; rfl
theorem x_idxArr (n s o k : Nat) (j : IntKind) (i : Int) : fIdxArr n s (.ptr o k) (.int j i) = (ixN i n).map fun i => .ptr o (k + i * s) := by
  cases i with
  | ofNat i =>
    show (Bool.rec _ _ (Nat.ble (Nat.succ i) n) : Option AV) = _
    unfold ixN
    by_cases h : i < n
    · rw [if_pos ⟨by simp, by simpa using h⟩, Nat.ble_eq_true_of_le h]; rfl
    · rw [if_neg (by simp; omega)]
      cases e : Nat.ble (Nat.succ i) n with
      | true => exact absurd (Nat.le_of_ble_eq_true e) (by omega)
      | false => rfl
  | negSucc i => unfold ixN; rw [if_neg (by omega)]; rfl
theorem x_eqPtr_nn (n b : Bool) : fEq n (eqPtr b) (.nil .ptr) (.nil .ptr) = some (.bool (!n)) := by cases n <;> rfl
theorem x_eqPtr_pn (n b : Bool) (o i : Nat) : fEq n (eqPtr b) (.ptr o i) (.nil .ptr) = some (.bool n) := by cases n <;> rfl
theorem x_eqSl_sn (n : Bool) (o i k : Nat) (c : Option Nat) (es : Nat) : fEq n eqSl (.slice o i k c es) (.nil .slice) = some (.bool n) := by cases n <;> rfl
theorem x_eqSl_nn (n : Bool) : fEq n eqSl (.nil .slice) (.nil .slice) = some (.bool (!n)) := by cases n <;> rfl
/-! ### memory -/
noncomputable def ldB (x : Option AObj) (agg : Bool) (n off : Nat) : Option AV := match x with
  | some (.blk l _ _) => part agg n l off
  | _ => none
theorem x_load (agg : Bool) (n : Nat) (m : Mem) (o off : Nat) : rLoad agg n m (.ptr o off) = ldB (m.get o) agg n off := by
  show (Option.rec _ _ (m.get o) : Option AV) = _
  cases m.get o with
  | none => rfl
  | some b => cases b <;> rfl
theorem ldB_blk (l : List AV) (ty : TypeId) (ex agg : Bool) (n off : Nat) : ldB (some (.blk l ty ex)) agg n off = part agg n l off := rfl
noncomputable def ovO (m : Mem) (o : Nat) (x : Option AObj) (off : Nat) (cs : List AV) : HR := match x with
  | some (.blk l ty ex) => match over l off cs with
    | some l' => .skip (m.put o (.blk l' ty ex))
    | none => .fail
  | _ => .fail
theorem x_store (n : Nat) (m : Mem) (o off : Nat) (v : AV) : hStore n m [.ptr o off, v] = if m.ro ≤ o ∧ v.cells.length = n ∧ v.cells.all AV.one = true then ovO m o (m.get o) off v.cells else .fail := by
  show (Bool.rec _ _ (and (m.rw o) (and (Nat.beq (len v.cells) n) (allB AV.one v.cells))) : HR) = _
  rw [len_eq, allB_eq, rw_dec]
  by_cases h : m.ro ≤ o ∧ v.cells.length = n ∧ v.cells.all AV.one = true
  · rw [if_pos h, decide_eq_true h.1, h.2.1, Nat.beq_refl, h.2.2]
    show (Option.rec _ _ (m.get o) : HR) = _
    cases m.get o with
    | none => rfl
    | some b =>
      cases b with
      | blk l ty ex =>
        show (Option.rec _ _ (over l off v.cells) : HR) = ovO m o (some (.blk l ty ex)) off v.cells
        unfold ovO
        dsimp only
        generalize over l off v.cells = q
        cases q <;> rfl
      | _ => rfl
  · rw [if_neg h]
    cases e : (and (decide (m.ro ≤ o)) (and (Nat.beq v.cells.length n) (v.cells.all AV.one))) with
    | false => rfl
    | true =>
      simp only [Bool.and_eq_true, decide_eq_true_eq] at e
      exact absurd ⟨e.1, Nat.eq_of_beq_eq_true e.2.1, e.2.2⟩ h
theorem over_eq : ∀ (l : List AV) (n : Nat) (vs : List AV), vs ≠ [] → over l n vs = if n + vs.length ≤ l.length then some (l.take n ++ vs ++ l.drop (n + vs.length)) else none := by
  have key0 : ∀ (l vs : List AV), over0 l vs = if vs.length ≤ l.length then some (vs ++ l.drop vs.length) else none := by
    intro l
    induction l with
    | nil => intro vs; cases vs <;> rfl
    | cons x xs ih =>
      intro vs
      cases vs with
      | nil => rfl
      | cons v vs =>
        show (Option.rec _ _ (over0 xs vs) : Option (List AV)) = _
        rw [ih]
        by_cases h : vs.length ≤ xs.length
        · rw [if_pos h, if_pos (by simpa using h)]; rfl
        · rw [if_neg h, if_neg (by simpa using h)]
  intro l
  induction l with
  | nil =>
    intro n vs hne
    cases vs with
    | nil => exact absurd rfl hne
    | cons v vs => rw [if_neg (by simp)]; rfl
  | cons x xs ih =>
    intro n vs hne
    cases n with
    | zero =>
      show over0 (x :: xs) vs = _
      rw [key0]; simp
    | succ n =>
      show (Option.rec _ _ (over xs n vs) : Option (List AV)) = _
      rw [ih n vs hne]
      by_cases h : n + vs.length ≤ xs.length
      · rw [if_pos h, if_pos (by simp; omega)]
        show some (x :: _) = _
        rw [show n + 1 + vs.length = (n + vs.length) + 1 from by omega]; rfl
      · rw [if_neg h, if_neg (by simp; omega)]
theorem ovO_blk (m : Mem) (o off : Nat) (l : List AV) (ty : TypeId) (ex : Bool) (v : AV) (vs : List AV) :
    ovO m o (some (.blk l ty ex)) off (v :: vs) = if off + (v :: vs).length ≤ l.length then .skip (m.put o (.blk (l.take off ++ (v :: vs) ++ l.drop (off + (v :: vs).length)) ty ex)) else .fail := by
  unfold ovO
  simp only
  rw [over_eq _ _ _ (by simp)]
  by_cases h : off + (v :: vs).length ≤ l.length
  · rw [if_pos h, if_pos h]
  · rw [if_neg h, if_neg h]
theorem hK_ite (c : Prop) [Decidable c] (x y : HR) (e : ET) (k : AV → Mem → CR) : hK (if c then x else y) e k = if c then hK x e k else hK y e k := by split <;> rfl
theorem x_alloc (ty : TypeId) (z xs : List AV) : fAllocBlk ty z xs = some (.blk z ty true) := rfl
theorem x_box (ty : TypeId) (v : AV) : fBoxBlk ty [v] = some (.blk v.cells ty true) := rfl
theorem c_int (k : IntKind) (n : Int) : (AV.int k n).cells = [.int k n] := rfl
theorem c_bool (b : Bool) : (AV.bool b).cells = [.bool b] := rfl
theorem c_str (b : List UInt8) : (AV.str b).cells = [.str b] := rfl
theorem c_ptr (o i : Nat) : (AV.ptr o i).cells = [.ptr o i] := rfl
theorem c_slice (o i n : Nat) (c : Option Nat) (es : Nat) : (AV.slice o i n c es).cells = [.slice o i n c es] := rfl
theorem c_nil (k : NK) : (AV.nil k).cells = [.nil k] := rfl
theorem c_map (o : Nat) : (AV.map o).cells = [.map o] := rfl
theorem c_iface (t : TypeId) (v : AV) : (AV.iface t v).cells = [.iface t v] := rfl
theorem c_func (f : FuncId) (a b : List AV) : (AV.func f a b).cells = [.func f a b] := rfl
theorem c_agg (l : List AV) : (AV.agg l).cells = l := rfl
theorem o_int (k : IntKind) (n : Int) : (AV.int k n).one = true := rfl
theorem o_bool (b : Bool) : (AV.bool b).one = true := rfl
theorem o_str (b : List UInt8) : (AV.str b).one = true := rfl
theorem o_ptr (o i : Nat) : (AV.ptr o i).one = true := rfl
theorem o_slice (o i n : Nat) (c : Option Nat) (es : Nat) : (AV.slice o i n c es).one = true := rfl
theorem o_nil (k : NK) : (AV.nil k).one = true := rfl
theorem o_map (o : Nat) : (AV.map o).one = true := rfl
theorem o_iface (t : TypeId) (v : AV) : (AV.iface t v).one = true := rfl
theorem o_func (f : FuncId) (a b : List AV) : (AV.func f a b).one = true := rfl
end Go.K
end
section
/-! Appending, at unknown values. -/
namespace Go.K
open Go (Op)
/-- a source's cells -/
noncomputable def srcG (x : Option AObj) (off n es : Nat) (k : List AV → HR) : HR := match x with
  | some (.blk l _ _) => if n * es ≤ l.length - off then k ((l.drop off).take (n * es)) else .fail
  | _ => .fail
noncomputable def rowG (m : Mem) (el : TypeId) (es n : Nat) (l : List AV) : HR := if n ≤ lim then .val (.slice m.next 0 n none es) (m.new (.blk l el false)) else .fail
theorem rowNew_eq (m : Mem) (el : TypeId) (es n : Nat) (l : List AV) : rowNew m el es n l = rowG m el es n l := by
  unfold rowG
  show (Bool.rec _ _ (Nat.ble n lim) : HR) = _
  by_cases h : n ≤ lim
  · rw [if_pos h, Nat.ble_eq_true_of_le h]; cases m; rfl
  · rw [if_neg h]
    cases e : Nat.ble n lim with
    | true => exact absurd (Nat.le_of_ble_eq_true e) h
    | false => rfl
/-- onto a slice whose capacity nobody knows -/
noncomputable def apG (el : TypeId) (es : Nat) (m : Mem) (o off n : Nat) (x : Option AObj) (new : List AV) (k : Nat) : HR :=
  Nat.casesOn k (.val (.slice o off n none es) m) fun k => match x with
    | some (.blk l ty ex) => appTo m el o off n none es l ty ex new (k + 1)
    | _ => .fail
noncomputable def apC (el : TypeId) (es : Nat) (m : Mem) (o off n c : Nat) (x : Option AObj) (new : List AV) (k : Nat) : HR :=
  Nat.casesOn k (.val (.slice o off n (some c) es) m) fun k => match x with
    | some (.blk l ty ex) => appTo m el o off n (some c) es l ty ex new (k + 1)
    | _ => .fail
noncomputable def apN (el : TypeId) (es : Nat) (m : Mem) (new : List AV) (k : Nat) : HR :=
  Nat.casesOn k (.val (.nil .slice) m) fun k => rowG m el es (k + 1) new
theorem bytes_map (s : List UInt8) : mapL (fun b => AV.int .u8 (Int.ofNat (byteNo b))) s = s.map byteV := by rw [mapL_eq]; rfl
theorem src_str (m : Mem) (s : List UInt8) : srcOf m 1 (.str s) = some (s.map byteV, s.length) := by
  show some (_, _) = _
  rw [bytes_map, len_eq]
theorem src_sl (m : Mem) (es o off n : Nat) (c : Option Nat) : srcOf m es (.slice o off n c es) = match m.get o with
    | some (.blk l _ _) => if n * es ≤ l.length - off then some ((l.drop off).take (n * es), n) else none
    | _ => none := by
  show (Bool.rec _ _ (Nat.beq es es) : Option (List AV × Nat)) = _
  rw [Nat.beq_refl]
  show (Option.rec _ _ (m.get o) : Option (List AV × Nat)) = _
  cases m.get o with
  | none => rfl
  | some b =>
    cases b with
    | blk l ty ex =>
      show (Option.rec _ _ (cut l off (n * es)) : Option (List AV × Nat)) = _
      rw [cut_eq]
      dsimp only
      by_cases h : n * es ≤ l.length - off
      · rw [if_pos h, if_pos h]
      · rw [if_neg h, if_neg h]
    | _ => rfl
theorem ap_sl (m : Mem) (el : TypeId) (es o off n : Nat) (x : AV) : hAppend el es m [.slice o off n none es, x] = match srcOf m es x with
    | some p => apG el es m o off n (m.get o) p.1 p.2
    | none => .fail := by
  show (Option.rec _ _ (srcOf m es x) : HR) = _
  cases srcOf m es x with
  | none => rfl
  | some p =>
    obtain ⟨l, k⟩ := p
    cases k with
    | zero => rfl
    | succ k =>
      show (Bool.rec _ _ (Nat.beq es es) : HR) = _
      rw [Nat.beq_refl]
      show (Option.rec _ _ (m.get o) : HR) = _
      unfold apG
      cases m.get o with
      | none => rfl
      | some b => cases b <;> rfl
theorem ap_cp (m : Mem) (el : TypeId) (es o off n c : Nat) (x : AV) : hAppend el es m [.slice o off n (some c) es, x] = match srcOf m es x with
    | some p => apC el es m o off n c (m.get o) p.1 p.2
    | none => .fail := by
  show (Option.rec _ _ (srcOf m es x) : HR) = _
  cases srcOf m es x with
  | none => rfl
  | some p =>
    obtain ⟨l, k⟩ := p
    cases k with
    | zero => rfl
    | succ k =>
      show (Bool.rec _ _ (Nat.beq es es) : HR) = _
      rw [Nat.beq_refl]
      show (Option.rec _ _ (m.get o) : HR) = _
      unfold apC
      cases m.get o with
      | none => rfl
      | some b => cases b <;> rfl
theorem ap_nil (m : Mem) (el : TypeId) (es : Nat) (x : AV) : hAppend el es m [.nil .slice, x] = match srcOf m es x with
    | some p => apN el es m p.1 p.2
    | none => .fail := by
  show (Option.rec _ _ (srcOf m es x) : HR) = _
  cases srcOf m es x with
  | none => rfl
  | some p =>
    obtain ⟨l, k⟩ := p
    cases k with
    | zero => rfl
    | succ k => exact rowNew_eq _ _ _ _ _
/-- the forms that code meets -/
theorem x_ap_sl_str (m : Mem) (el : TypeId) (o off n : Nat) (s : List UInt8) : hAppend el 1 m [.slice o off n none 1, .str s] = apG el 1 m o off n (m.get o) (s.map byteV) s.length := by rw [ap_sl, src_str]
theorem x_ap_nil_str (m : Mem) (el : TypeId) (s : List UInt8) : hAppend el 1 m [.nil .slice, .str s] = apN el 1 m (s.map byteV) s.length := by rw [ap_nil, src_str]
theorem x_ap_sl_sl (m : Mem) (el : TypeId) (es o off n o2 off2 n2 : Nat) (c2 : Option Nat) :
    hAppend el es m [.slice o off n none es, .slice o2 off2 n2 c2 es] = srcG (m.get o2) off2 n2 es fun new => apG el es m o off n (m.get o) new n2 := by
  rw [ap_sl, src_sl]
  unfold srcG
  cases m.get o2 with
  | none => rfl
  | some b =>
    cases b with
    | blk l ty ex =>
      dsimp only
      by_cases h : n2 * es ≤ l.length - off2
      · rw [if_pos h, if_pos h]
      · rw [if_neg h, if_neg h]
    | _ => rfl
theorem x_ap_cp_sl (m : Mem) (el : TypeId) (es o off n c o2 off2 n2 : Nat) (c2 : Option Nat) :
    hAppend el es m [.slice o off n (some c) es, .slice o2 off2 n2 c2 es] = srcG (m.get o2) off2 n2 es fun new => apC el es m o off n c (m.get o) new n2 := by
  rw [ap_cp, src_sl]
  unfold srcG
  cases m.get o2 with
  | none => rfl
  | some b =>
    cases b with
    | blk l ty ex =>
      dsimp only
      by_cases h : n2 * es ≤ l.length - off2
      · rw [if_pos h, if_pos h]
      · rw [if_neg h, if_neg h]
    | _ => rfl
theorem x_ap_nil_sl (m : Mem) (el : TypeId) (es o2 off2 n2 : Nat) (c2 : Option Nat) :
    hAppend el es m [.nil .slice, .slice o2 off2 n2 c2 es] = srcG (m.get o2) off2 n2 es fun new => apN el es m new n2 := by
  rw [ap_nil, src_sl]
  unfold srcG
  cases m.get o2 with
  | none => rfl
  | some b =>
    cases b with
    | blk l ty ex =>
      dsimp only
      by_cases h : n2 * es ≤ l.length - off2
      · rw [if_pos h, if_pos h]
      · rw [if_neg h, if_neg h]
    | _ => rfl
theorem x_ap_sl_nil (m : Mem) (el : TypeId) (es o off n : Nat) : hAppend el es m [.slice o off n none es, .nil .slice] = .val (.slice o off n none es) m := rfl
theorem x_ap_nil_nil (m : Mem) (el : TypeId) (es : Nat) : hAppend el es m [.nil .slice, .nil .slice] = .val (.nil .slice) m := rfl
theorem x_ap_cp_nil (m : Mem) (el : TypeId) (es o off n c : Nat) : hAppend el es m [.slice o off n (some c) es, .nil .slice] = .val (.slice o off n (some c) es) m := rfl
theorem srcG_blk (l : List AV) (ty : TypeId) (ex : Bool) (off n es : Nat) (k : List AV → HR) : srcG (some (.blk l ty ex)) off n es k = if n * es ≤ l.length - off then k ((l.drop off).take (n * es)) else .fail := rfl
theorem apN_zero (el : TypeId) (es : Nat) (m : Mem) (new : List AV) : apN el es m new 0 = .val (.nil .slice) m := rfl
theorem apN_pos {el : TypeId} {es : Nat} {m : Mem} {new : List AV} {k : Nat} (h : 0 < k) (hl : k ≤ lim) : apN el es m new k = .val (.slice m.next 0 k none es) (m.new (.blk new el false)) := by
  obtain ⟨k, rfl⟩ : ∃ j, k = j + 1 := ⟨k - 1, by omega⟩
  show rowG _ _ _ _ _ = _
  unfold rowG
  rw [if_pos hl]
theorem apG_zero (el : TypeId) (es : Nat) (m : Mem) (o off n : Nat) (x : Option AObj) (new : List AV) : apG el es m o off n x new 0 = .val (.slice o off n none es) m := rfl
/-- at a block's end: all goes over to a new one -/
theorem apG_end {el : TypeId} {es : Nat} {m : Mem} {o off n : Nat} {l new : List AV} {ex : Bool} {k : Nat} (h : 0 < k) (hro : m.ro ≤ o) (hone : new.all AV.one = true) (he : off + n * es = l.length) (hl : n + k ≤ lim) :
    apG el es m o off n (some (.blk l el ex)) new k = .val (.slice m.next 0 (n + k) none es) ((m.kill o).new (.blk (l.drop off ++ new) el false)) := by
  obtain ⟨k, rfl⟩ : ∃ j, k = j + 1 := ⟨k - 1, by omega⟩
  show appTo m el o off n none es l el ex new (k + 1) = _
  unfold appTo
  show (Bool.rec _ _ (and (m.rw o) (allB AV.one new)) : HR) = _
  rw [(Mem.rw_iff m o).2 hro, allB_eq, hone]
  show (Bool.rec _ _ (Nat.beq (off + n * es) (len l)) : HR) = _
  rw [len_eq, he, Nat.beq_refl, Nat.beq_refl]
  show (Option.rec _ _ (cut l off (n * es)) : HR) = _
  rw [cut_eq, if_pos (by omega)]
  show rowNew (m.kill o) el es (n + (k + 1)) (app (List.take (n * es) (l.drop off)) new) = _
  rw [app_eq, rowNew_eq, List.take_of_length_le (by simp; omega)]
  unfold rowG
  rw [if_pos hl]
  simp
/-- onto what has no room left -/
theorem apC_full {el : TypeId} {es : Nat} {m : Mem} {o off n c : Nat} {l new : List AV} {ty : TypeId} {ex : Bool} {k : Nat} (h : 0 < k) (hc : c < n + k) (he : n * es ≤ l.length - off) (hl : n + k ≤ lim) :
    apC el es m o off n c (some (.blk l ty ex)) new k = .val (.slice m.next 0 (n + k) none es) (m.new (.blk ((l.drop off).take (n * es) ++ new) el false)) := by
  obtain ⟨k, rfl⟩ : ∃ j, k = j + 1 := ⟨k - 1, by omega⟩
  show appTo m el o off n (some c) es l ty ex new (k + 1) = _
  unfold appTo
  show (Bool.rec _ _ (Nat.ble (n + (k + 1)) c) : HR) = _
  have e : Nat.ble (n + (k + 1)) c = false := by
    cases hb : Nat.ble (n + (k + 1)) c with
    | false => rfl
    | true => exact absurd (Nat.le_of_ble_eq_true hb) (by omega)
  rw [e]
  show (Option.rec _ _ (cut l off (n * es)) : HR) = _
  rw [cut_eq, if_pos he]
  show rowNew m el es (n + (k + 1)) (app (List.take (n * es) (l.drop off)) new) = _
  rw [app_eq, rowNew_eq]
  unfold rowG
  rw [if_pos hl]
theorem apC_zero (el : TypeId) (es : Nat) (m : Mem) (o off n c : Nat) (x : Option AObj) (new : List AV) : apC el es m o off n c x new 0 = .val (.slice o off n (some c) es) m := rfl
/-! ### memory steps -/
@[simp] theorem kill_get (m : Mem) (o j : Nat) : (m.kill o).get j = if j = o then none else m.get j := Mem.get_kill m o j
/-- what is kept of a memory -/
structure Keeps (K : Nat → Prop) (m m' : Mem) : Prop where
  next : m.next ≤ m'.next
  ro : m'.ro = m.ro
  d : m'.d = m.d
  get : ∀ p, K p → m'.get p = m.get p
theorem Keeps.refl (K : Nat → Prop) (m : Mem) : Keeps K m m := ⟨Nat.le_refl _, rfl, rfl, fun _ _ => rfl⟩
theorem Keeps.trans {K : Nat → Prop} {a b c : Mem} (h : Keeps K a b) (k : Keeps K b c) : Keeps K a c := ⟨Nat.le_trans h.next k.next, k.ro.trans h.ro, k.d.trans h.d, fun p hp => (k.get p hp).trans (h.get p hp)⟩
theorem Keeps.new {K : Nat → Prop} {m : Mem} (x : AObj) (hK : ∀ p, K p → p < m.next) : Keeps K m (m.new x) := ⟨by simp, by simp, by simp, fun p hp => by rw [Mem.get_new, if_neg (by have := hK p hp; omega)]⟩
theorem Keeps.put {K : Nat → Prop} {m : Mem} (o : Nat) (x : AObj) (hK : ¬ K o) : Keeps K m (m.put o x) := ⟨by simp, by simp, by simp, fun p hp => by rw [Mem.get_put, if_neg (by rintro rfl; exact hK hp)]⟩
theorem Keeps.kill {K : Nat → Prop} {m : Mem} (o : Nat) (hK : ¬ K o) : Keeps K m (m.kill o) := ⟨by simp, by simp, by simp, fun p hp => by rw [Mem.get_kill, if_neg (by rintro rfl; exact hK hp)]⟩
theorem Keeps.mono {K K' : Nat → Prop} {m m' : Mem} (h : Keeps K m m') (hk : ∀ p, K' p → K p) : Keeps K' m m' := ⟨h.next, h.ro, h.d, fun p hp => h.get p (hk p hp)⟩
/-! ### regions that draw their order -/
noncomputable def Mem.bump (m : Mem) (k : Nat) : Mem := ⟨m.next + k, m.ro, m.objs, m.d⟩
@[simp] theorem bump_next (m : Mem) (k : Nat) : (m.bump k).next = m.next + k := rfl
@[simp] theorem bump_ro (m : Mem) (k : Nat) : (m.bump k).ro = m.ro := rfl
@[simp] theorem bump_d (m : Mem) (k : Nat) : (m.bump k).d = m.d := rfl
@[simp] theorem bumped_get (m : Mem) (k o : Nat) : (m.bump k).get o = m.get o := by rw [Mem.get_eq, Mem.get_eq]; rfl
theorem Keeps.bump {K : Nat → Prop} {m : Mem} (k : Nat) : Keeps K m (m.bump k) := ⟨by simp, rfl, rfl, fun p _ => by simp⟩
section
variable {call : CallFn} {base n : Nat} {xs : List DD} {e : ET} {m : Mem} {pend : List Pd} {sn : List Sn} {rd : List Rd}
theorem draw_eq : seqDraw call xs n e m = if m.ro ≤ m.next then seqD call m.next n xs ⟨e, m.bump n, [], [], []⟩ else .fail := by
  obtain ⟨nx, r, t, d⟩ := m
  show (Bool.rec _ _ (Nat.ble r nx) : CR) = _
  by_cases h : r ≤ nx
  · rw [if_pos h, Nat.ble_eq_true_of_le h]; rfl
  · rw [if_neg h]
    cases e : Nat.ble r nx with
    | true => exact absurd (Nat.le_of_ble_eq_true e) h
    | false => rfl
theorem seqD_nil0 : seqD call base n [] ⟨e, m, [], sn, rd⟩ = .norm e m := rfl
theorem seqD_mv {i b : Nat} {d : Pa} {x : Od} : seqD call base n (⟨i, b, ⟨d, none, .mv x⟩⟩ :: xs) ⟨e, m, pend, sn, rd⟩ = seqD call base n xs ⟨e.put d (ev x e), m, pend, sn, rd⟩ := rfl
theorem seqD_1 {i b : Nat} {d : Pa} {f : F1} {x : Od} : seqD call base n (⟨i, b, ⟨d, none, .p1 f x⟩⟩ :: xs) ⟨e, m, pend, sn, rd⟩ = oK (f (ev x e)) fun v => seqD call base n xs ⟨e.put d v, m, pend, sn, rd⟩ := by
  show (Option.rec _ _ (step1 call base n _ _) : CR) = _
  unfold step1 eff effOp act
  dsimp only
  cases f (ev x e) <;> rfl
theorem seqD_2 {i b : Nat} {d : Pa} {f : F2} {x y : Od} : seqD call base n (⟨i, b, ⟨d, none, .p2 f x y⟩⟩ :: xs) ⟨e, m, pend, sn, rd⟩ = oK (f (ev x e) (ev y e)) fun v => seqD call base n xs ⟨e.put d v, m, pend, sn, rd⟩ := by
  show (Option.rec _ _ (step1 call base n _ _) : CR) = _
  unfold step1 eff effOp act
  dsimp only
  cases f (ev x e) (ev y e) <;> rfl
theorem seqD_N {i b : Nat} {d : Pa} {f : FN} {ys : List Od} : seqD call base n (⟨i, b, ⟨d, none, .pN f ys⟩⟩ :: xs) ⟨e, m, pend, sn, rd⟩ = oK (f (evs ys e)) fun v => seqD call base n xs ⟨e.put d v, m, pend, sn, rd⟩ := by
  show (Option.rec _ _ (step1 call base n _ _) : CR) = _
  unfold step1 eff effOp act
  dsimp only
  cases f (evs ys e) <;> rfl
/-- a read where nothing was written yet -/
theorem seqD_R1 {i b : Nat} {d : Pa} {f : R1} {x : Od} : seqD call base n (⟨i, b, ⟨d, none, .r1 f x⟩⟩ :: xs) ⟨e, m, pend, [], rd⟩ = oK (f m (ev x e)) fun v => seqD call base n xs ⟨e.put d v, m, pend, [], ⟨i, fun m => f m (ev x e), v⟩ :: rd⟩ := by
  show (Option.rec _ _ (step1 call base n _ _) : CR) = _
  unfold step1 eff effOp act
  dsimp only
  show (Option.rec _ _ (Option.rec _ _ (f m (ev x e)) : Option DS) : CR) = _
  cases f m (ev x e) <;> rfl
theorem seqD_R2 {i b : Nat} {d : Pa} {f : Mem → AV → AV → Option AV} {x y : Od} : seqD call base n (⟨i, b, ⟨d, none, .r2 f x y⟩⟩ :: xs) ⟨e, m, pend, [], rd⟩ = oK (f m (ev x e) (ev y e)) fun v => seqD call base n xs ⟨e.put d v, m, pend, [], ⟨i, fun m => f m (ev x e) (ev y e), v⟩ :: rd⟩ := by
  show (Option.rec _ _ (step1 call base n _ _) : CR) = _
  unfold step1 eff effOp act
  dsimp only
  show (Option.rec _ _ (Option.rec _ _ (f m (ev x e) (ev y e)) : Option DS) : CR) = _
  cases f m (ev x e) (ev y e) <;> rfl
/-- a heavy operation behind which nothing is looked at again: the reads ahead of it are those that it waits for -/
theorem seqD_Hv {i b : Nat} {d : Pa} {f : H} {ys : List Od} : seqD call base n (⟨i, b, ⟨d, none, .hv f ys⟩⟩ :: xs) ⟨e, m, [], sn, rd⟩ =
    oK (hrO (f m (evs ys e))) fun r => if readsOk b r.m rd = true then seqD call base n xs ⟨e.put d r.v, r.m, [], ⟨i, m⟩ :: sn, rd⟩ else .fail := by
  show (Option.rec _ _ (step1 call base n _ _) : CR) = _
  unfold step1 eff effOp act
  dsimp only
  show (Option.rec _ _ (Option.rec _ _ (hrO (f m (evs ys e))) : Option DS) : CR) = _
  cases hrO (f m (evs ys e)) with
  | none => rfl
  | some r =>
    obtain ⟨v, m'⟩ := r
    show (Option.rec _ _ (Bool.rec _ _ (readsOk b m' rd) : Option DS) : CR) = oK (some _) _
    rw [oK_some]
    cases readsOk b m' rd <;> rfl
theorem hrO_val (v : AV) (m : Mem) : hrO (.val v m) = some ⟨v, m⟩ := rfl
theorem hrO_skip (m : Mem) : hrO (.skip m) = some ⟨.undef, m⟩ := rfl
theorem hrO_fail : hrO .fail = none := rfl
theorem reads_nil (b : Nat) (m : Mem) : readsOk b m [] = true := rfl
theorem reads_cons (b i : Nat) (m : Mem) (r : Mem → Option AV) (v : AV) : readsOk b m (⟨i, r, v⟩ :: rd) = ((bit b i || sameAt m r v) && readsOk b m rd) := by
  show (Bool.rec _ _ (Bool.rec _ _ (bit b i) : Bool) : Bool) = _
  cases bit b i <;> cases sameAt m r v <;> rfl
end
end Go.K
namespace Go.K
theorem bytesOf_map : ∀ (s : List UInt8), bytesOf (s.map byteV) = some s
  | [] => rfl
  | b :: s => by
    have ih := bytesOf_map s
    unfold bytesOf at ih ⊢
    show (Option.rec _ _ (optL _ (s.map byteV)) : Option (List UInt8)) = _
    rw [ih]
    show some (UInt8.ofNat ((b.toNat : Int)).toNat :: s) = _
    simp
theorem x_data_sl (m : Mem) (o off n es : Nat) : hSliceData m [.slice o off (n + 1) none es] = .val (.ptr o off) m := rfl
theorem x_data_nil (m : Mem) : hSliceData m [.nil .slice] = .val (.nil .ptr) m := rfl
theorem x_string_nil (el : TypeId) (m : Mem) (k : IntKind) : hString el m [.nil .ptr, .int k 0] = .val (.str []) m := rfl
theorem x_string {el : TypeId} {m : Mem} {k : IntKind} {o : Nat} {s : List UInt8} {ex : Bool} (h : 0 < s.length) (hl : s.length ≤ 9223372036854775807) (hro : m.ro ≤ o) (hg : m.get o = some (.blk (s.map byteV) el ex)) :
    hString el m [.ptr o 0, .int k (s.length : Int)] = .val (.str s) (m.kill o) := by
  show (Nat.rec _ _ s.length : HR) = _
  obtain ⟨j, hj⟩ : ∃ j, s.length = j + 1 := ⟨s.length - 1, by omega⟩
  rw [hj]
  show (Bool.rec _ _ (and (m.rw o) (Nat.ble (j + 1) 9223372036854775807)) : HR) = _
  rw [(Mem.rw_iff m o).2 hro, Nat.ble_eq_true_of_le (by omega)]
  show (Option.rec _ _ (m.get o) : HR) = _
  rw [hg]
  show (Bool.rec _ _ (Nat.beq el el) : HR) = _
  rw [Nat.beq_refl]
  show (Option.rec _ _ (cut (s.map byteV) 0 (j + 1)) : HR) = _
  rw [cut_eq, if_pos (by simp; omega), List.drop_zero, List.take_of_length_le (by simp; omega)]
  show (Option.rec _ _ (bytesOf (s.map byteV)) : HR) = _
  rw [bytesOf_map]
/-- a builder's pointer to unsafe.Pointer and back -/
theorem x_unsafe {m : Mem} {o : Nat} {x : AV} {l : List AV} {ty : TypeId} (hg : m.get o = some (.blk (x :: l) ty true)) : rUnsafe m (.ptr o 0) = some (.ptr o 0) := by
  show (Option.rec _ _ (m.get o) : Option AV) = _
  rw [hg]; rfl
theorem x_back {P : Program} {m : Mem} {o : Nat} {l : List AV} {ty u : TypeId} (hg : m.get o = some (.blk l ty true)) (h : liesAt P P.depth ty (Nat.div (len l) (P.cellsOf ty)) 0 u 1 = true) : rBack P u m (.ptr o 0) = some (.ptr o 0) := by
  show (Option.rec _ _ (m.get o) : Option AV) = _
  rw [hg]
  show (Bool.rec _ _ (and true (liesAt P P.depth ty (Nat.div (len l) (P.cellsOf ty)) 0 u 1)) : Option AV) = _
  rw [h]; rfl
theorem x_eqPtr_pp (n : Bool) (o i j : Nat) : fEq n (eqPtr true) (.ptr o i) (.ptr o j) = some (.bool (if n = true then decide (i ≠ j) else decide (i = j))) := by
  show (Option.rec _ _ (Bool.rec _ _ (and true (Nat.beq o o)) : Option Bool) : Option AV) = _
  rw [Nat.beq_refl]
  show some (AV.bool (Bool.rec _ _ n)) = _
  have e : Nat.beq i j = decide (i = j) := by
    by_cases h : i = j
    · subst h; rw [Nat.beq_refl, decide_eq_true rfl]
    · rw [decide_eq_false h]
      cases hb : Nat.beq i j with
      | true => exact absurd (Nat.eq_of_beq_eq_true hb) h
      | false => rfl
  cases n
  · rw [e]; rfl
  · rw [e]
    by_cases h : i = j <;> simp [h]
end Go.K
namespace Go.K
section
variable {call : CallFn} {base n : Nat} {xs : List DD} {e : ET} {m : Mem} {pend : List Pd} {sn : List Sn} {rd : List Rd}
theorem snaps_nil (b : Nat) (r : Mem → Option AV) (v : AV) : snapsOk b r v [] = true := rfl
theorem snaps_cons (b i : Nat) (r : Mem → Option AV) (v : AV) (m : Mem) : snapsOk b r v (⟨i, m⟩ :: sn) = ((bit b i || sameAt m r v) && snapsOk b r v sn) := by
  show (Bool.rec _ _ (Bool.rec _ _ (bit b i) : Bool) : Bool) = _
  cases bit b i <;> cases sameAt m r v <;> rfl
theorem seqD_R1s {i b : Nat} {d : Pa} {f : R1} {x : Od} : seqD call base n (⟨i, b, ⟨d, none, .r1 f x⟩⟩ :: xs) ⟨e, m, pend, sn, rd⟩ =
    oK (f m (ev x e)) fun v => if snapsOk b (fun m => f m (ev x e)) v sn = true then seqD call base n xs ⟨e.put d v, m, pend, sn, ⟨i, fun m => f m (ev x e), v⟩ :: rd⟩ else .fail := by
  show (Option.rec _ _ (step1 call base n _ _) : CR) = _
  unfold step1 eff effOp act
  dsimp only
  show (Option.rec _ _ (Option.rec _ _ (f m (ev x e)) : Option DS) : CR) = _
  cases f m (ev x e) with
  | none => rfl
  | some v =>
    show (Option.rec _ _ (Bool.rec _ _ (snapsOk b (fun m => f m (ev x e)) v sn) : Option DS) : CR) = oK (some v) _
    rw [oK_some]
    cases snapsOk b (fun m => f m (ev x e)) v sn <;> rfl
theorem sameAt_ok {r : Mem → Option AV} {v : AV} (h : r m = some v) (hs : same v v = true) : sameAt m r v = true := by
  show (Option.rec _ _ (r m) : Bool) = _
  rw [h]; exact hs
end
theorem eqB_refl (s : List UInt8) : eqB s s = true := by rw [eqB_eq]; simp
theorem same_slice (o i n : Nat) (c : Option Nat) (es : Nat) : same (.slice o i n c es) (.slice o i n c es) = true := by
  show (and (Nat.beq o o) (and (Nat.beq i i) (and (Nat.beq n n) (and (beqO c c) (Nat.beq es es))))) = true
  have hc : beqO c c = true := by cases c with
    | none => rfl
    | some c => exact Nat.beq_refl c
  simp [hc]
theorem same_nil (k : NK) : same (.nil k) (.nil k) = true := by cases k <;> rfl
theorem same_str (s : List UInt8) : same (.str s) (.str s) = true := eqB_refl s
theorem same_int (k : IntKind) (n : Int) : same (.int k n) (.int k n) = true := by
  show (and (ikEq k k) (ieq n n)) = true
  rw [ieq_eq]
  cases k <;> simp <;> rfl
theorem same_bool (b : Bool) : same (.bool b) (.bool b) = true := by cases b <;> rfl
theorem same_ptr (o i : Nat) : same (.ptr o i) (.ptr o i) = true := by
  show (and (Nat.beq o o) (Nat.beq i i)) = true
  simp
/-- what a struct of simple cells is equal to itself -/
theorem beqL_map {f : AV → AV → Bool} : ∀ (l : List AV), (∀ x ∈ l, f x x = true) → beqL f l l = true
  | [], _ => rfl
  | x :: l, h => by
    show (Bool.rec _ _ (f x x) : Bool) = _
    rw [h x (by simp)]
    exact beqL_map l fun y hy => h y (by simp [hy])
def simpleV : AV → Bool
  | .int .. | .bool _ | .str _ | .nil _ | .ptr .. | .slice .. => true
  | _ => false
theorem beqV_simple (k : Nat) (v : AV) (h : simpleV v = true) : beqV (k + 1) v v = true := by
  cases v with
  | int k n => exact same_int k n
  | bool b => exact same_bool b
  | str s => exact same_str s
  | nil k => exact same_nil k
  | ptr o i => exact same_ptr o i
  | slice o i n c es => exact same_slice o i n c es
  | _ => cases h
theorem same_agg (l : List AV) (h : l.all simpleV = true) : same (.agg l) (.agg l) = true := by
  show beqL (beqV 5) l l = true
  exact beqL_map l fun x hx => beqV_simple 4 x (List.all_eq_true.1 h x hx)
end Go.K
namespace Go.K
theorem x_mkPtr (o : Nat) : mkPtr o = .ptr o 0 := rfl
theorem x_mkSl (n es o : Nat) : mkSl n es o = .slice o 0 n (some n) es := rfl
end Go.K
end
section
/-! Slices that grow by append; parts of lists of cells. -/
namespace Go.K
open Go (Op)
theorem ixN_nat {k n : Nat} (h : k < n) : ixN (k : Int) n = some k := by rw [ixN_ok (by omega) (by omega)]; simp
/-- v is a slice of n elements of es cells each, the cells are l; its block is none of K -/
def Grow (K : Nat → Prop) (m : Mem) (v : AV) (el : TypeId) (es : Nat) (l : List AV) (n : Nat) : Prop :=
  (n = 0 ∧ l = [] ∧ (v = .nil .slice ∨ ∃ o ty ex, v = .slice o 0 0 (some 0) es ∧ o < m.next ∧ ¬ K o ∧ m.get o = some (.blk [] ty ex))) ∨
  ∃ o, v = .slice o 0 n none es ∧ 0 < n ∧ m.ro ≤ o ∧ ¬ K o ∧ o < m.next ∧ n * es = l.length ∧ m.get o = some (.blk l el false)
theorem Grow.nil (K : Nat → Prop) (m : Mem) (el : TypeId) (es : Nat) : Grow K m (.nil .slice) el es [] 0 := .inl ⟨rfl, rfl, .inl rfl⟩
theorem Grow.len {K : Nat → Prop} {m : Mem} {v : AV} {el : TypeId} {es : Nat} {l : List AV} {n : Nat} (h : Grow K m v el es l n) : n * es = l.length := by
  rcases h with ⟨rfl, rfl, _⟩ | ⟨o, _, _, _, _, _, h, _⟩
  · simp
  · exact h
theorem Grow.len_eq {K : Nat → Prop} {m : Mem} {v : AV} {el : TypeId} {es : Nat} {l : List AV} {n : Nat} (h : Grow K m v el es l n) : fLenSl v = some (.int .i64 (n : Int)) := by
  rcases h with ⟨rfl, rfl, rfl | ⟨o, ty, ex, rfl, _⟩⟩ | ⟨o, rfl, _⟩ <;> rfl
/-- elsewhere memory may turn; what came behind may be kept -/
theorem Grow.more {K K' : Nat → Prop} {m m' : Mem} {v : AV} {el : TypeId} {es : Nat} {l : List AV} {n : Nat} (h : Grow K m v el es l n) (k : Keeps (· < m.next) m m') (hK : ∀ p, K' p → K p ∨ m.next ≤ p) : Grow K' m' v el es l n := by
  rcases h with ⟨rfl, rfl, rfl | ⟨o, ty, ex, rfl, h1, h2, h3⟩⟩ | ⟨o, rfl, h0, h1, h2, h3, h4, h5⟩
  · exact .nil _ _ _ _
  · refine .inl ⟨rfl, rfl, .inr ⟨o, ty, ex, rfl, Nat.lt_of_lt_of_le h1 k.next, fun h => ?_, by rw [k.get _ h1]; exact h3⟩⟩
    rcases hK o h with h | h
    · exact h2 h
    · omega
  · refine .inr ⟨o, rfl, h0, by rw [k.ro]; exact h1, fun h => ?_, Nat.lt_of_lt_of_le h3 k.next, h4, by rw [k.get _ h3]; exact h5⟩
    rcases hK o h with h | h
    · exact h2 h
    · omega
/-- what is kept less of -/
theorem Grow.less {K K' : Nat → Prop} {m : Mem} {v : AV} {el : TypeId} {es : Nat} {l : List AV} {n : Nat} (h : Grow K m v el es l n) (hK : ∀ p, K' p → K p) : Grow K' m v el es l n :=
  h.more (Keeps.refl _ _) fun p hp => .inl (hK p hp)
theorem Grow.back {K : Nat → Prop} {m : Mem} {v : AV} {el : TypeId} {es : Nat} {l : List AV} {n : Nat} (h : Grow K m v el es l n) (d : List Df) : Grow K (backTo d m.undef) v el es l n := by
  rcases h with ⟨h1, h2, h3 | ⟨o, ty, ex, rfl, h3, h4, h5⟩⟩ | ⟨o, rfl, h0, h1, h2, h3, h4, h5⟩
  · exact .inl ⟨h1, h2, .inl h3⟩
  · exact .inl ⟨h1, h2, .inr ⟨o, ty, ex, rfl, by simpa using h3, h4, by simpa using h5⟩⟩
  · exact .inr ⟨o, rfl, h0, by simpa using h1, h2, by simpa using h3, h4, by simpa using h5⟩
/-- cells behind cells -/
theorem Grow.app {K : Nat → Prop} {m : Mem} {v : AV} {el : TypeId} {es : Nat} {l new : List AV} {n k o2 off2 : Nat} {c2 : Option Nat} (h : Grow K m v el es l n) (hes : 0 < es) (hk : 0 < k) {l2 : List AV} {ty2 : TypeId} {ex2 : Bool} (h2 : m.get o2 = some (.blk l2 ty2 ex2))
    (hle : off2 + k * es ≤ l2.length) (hnew : (l2.drop off2).take (k * es) = new) (hone : new.all AV.one = true) (hK : ∀ p, K p → p < m.next) (hrn : m.ro ≤ m.next) (hl : n + k ≤ lim) :
    ∃ v' m', hAppend el es m [v, .slice o2 off2 k c2 es] = .val v' m' ∧ Grow K m' v' el es (l ++ new) (n + k) ∧ Keeps K m m' := by
  have hnl : new.length = k * es := by rw [← hnew, List.length_take, List.length_drop]; omega
  have hle' : k * es ≤ l2.length - off2 := by omega
  rcases h with ⟨rfl, rfl, rfl | ⟨o, ty, ex, rfl, h1, h3, h4⟩⟩ | ⟨o, rfl, h0, h1, h3, h4, h5, h6⟩
  · refine ⟨.slice m.next 0 k none es, m.new (.blk new el false), ?_, .inr ⟨m.next, by simp, by omega, by simpa using hrn, fun h => by have := hK _ h; omega, by simp, by simpa using hnl.symm, by simp [Mem.get_new]⟩, Keeps.new _ hK⟩
    rw [x_ap_nil_sl, h2, srcG_blk, if_pos hle', hnew, apN_pos hk (by omega)]
  · refine ⟨.slice m.next 0 k none es, m.new (.blk new el false), ?_, .inr ⟨m.next, by simp, by omega, by simpa using hrn, fun h => by have := hK _ h; omega, by simp, by simpa using hnl.symm, by simp [Mem.get_new]⟩, Keeps.new _ hK⟩
    rw [x_ap_cp_sl, h2, srcG_blk, if_pos hle', hnew, h4, apC_full hk (by omega) (by simp) (by omega)]
    simp
  · refine ⟨.slice m.next 0 (n + k) none es, (m.kill o).new (.blk (l ++ new) el false), ?_, .inr ⟨m.next, rfl, by omega, by simpa using hrn, fun h => by have := hK _ h; omega, by simp, by rw [List.length_append, Nat.add_mul, h5, hnl], by simp [Mem.get_new]⟩,
      (Keeps.kill o h3).trans (Keeps.new _ fun p hp => by simpa using hK p hp)⟩
    rw [x_ap_sl_sl, h2, srcG_blk, if_pos hle', hnew, h6, apG_end hk h1 hone (by omega) hl]
    simp
/-- a row of one's own, ahead of an append -/
theorem Grow.one {K : Nat → Prop} {m : Mem} {v : AV} {el : TypeId} {es : Nat} {l new : List AV} {n o2 : Nat} (h : Grow K m v el es l n) (hes : 0 < es) {ty2 : TypeId} {ex2 : Bool} (h2 : m.get o2 = some (.blk new ty2 ex2)) (hnew : new.length = es) (hone : new.all AV.one = true)
    (hK : ∀ p, K p → p < m.next) (hrn : m.ro ≤ m.next) (hl : n + 1 ≤ lim) : ∃ v' m', hAppend el es m [v, .slice o2 0 1 (some 1) es] = .val v' m' ∧ Grow K m' v' el es (l ++ new) (n + 1) ∧ Keeps K m m' :=
  h.app hes (by omega) h2 (by omega) (by rw [List.drop_zero, Nat.one_mul, ← hnew, List.take_length]) hone hK hrn hl
/-! ### building -/
noncomputable def fillF (ps : List (Nat × Nat)) (vs cs : List AV) : Option (List AV) := fillAll ps vs cs
theorem fill_nil (cs : List AV) : fillF [] [] cs = some cs := rfl
noncomputable def oB {α β : Type} (o : Option α) (k : α → Option β) : Option β := Option.casesOn o none k
theorem oB_some {α β : Type} (x : α) (k : α → Option β) : oB (some x) k = k x := rfl
theorem oB_none {α β : Type} (k : α → Option β) : oB none k = none := rfl
theorem fill_cons (p k : Nat) (ps : List (Nat × Nat)) (v : AV) (vs cs : List AV) : fillF ((p, k) :: ps) (v :: vs) cs = if v.cells.length = k ∧ 1 ≤ k then oB (over cs p v.cells) fun ds => fillF ps vs ds else none := by
  show (Bool.rec _ _ (and (Nat.beq (len v.cells) k) (Nat.ble 1 k)) : Option (List AV)) = _
  rw [len_eq]
  by_cases h : v.cells.length = k ∧ 1 ≤ k
  · rw [if_pos h, h.1, Nat.beq_refl, Nat.ble_eq_true_of_le h.2]; rfl
  · rw [if_neg h]
    cases e : (and (Nat.beq v.cells.length k) (Nat.ble 1 k)) with
    | false => rfl
    | true =>
      simp only [Bool.and_eq_true] at e
      exact absurd ⟨Nat.eq_of_beq_eq_true e.1, Nat.le_of_ble_eq_true e.2⟩ h
theorem over_cons (l : List AV) (n : Nat) (v : AV) (vs : List AV) : over l n (v :: vs) = if n + (v :: vs).length ≤ l.length then some (l.take n ++ (v :: vs) ++ l.drop (n + (v :: vs).length)) else none := over_eq _ _ _ (by simp)
theorem x_build (z : List AV) (ps : List (Nat × Nat)) (vs : List AV) : fBuild z ps vs = oB (fillF ps vs z) fun cs => some (.agg cs) := rfl
theorem x_row (ty : TypeId) (z : List AV) (ps : List (Nat × Nat)) (vs : List AV) : fRowBlk ty z ps vs = oB (fillF ps vs z) fun cs => some (.blk cs ty true) := rfl
theorem rep_one {α : Type} (z : List α) : rep 1 z = z := by show app z [] = z; rw [app_eq]; simp
theorem rep_zero {α : Type} (z : List α) : rep 0 z = [] := rfl
theorem oB_ite {α β : Type} (c : Prop) [Decidable c] (x y : Option α) (k : α → Option β) : oB (if c then x else y) k = if c then oB x k else oB y k := by split <;> rfl
/-! ### rows of equal elements -/
theorem flat_drop {α : Type} {f : α → List AV} {es : Nat} (hf : ∀ x, (f x).length = es) : ∀ (l : List α) (k : Nat) (x : α), l[k]? = some x → (l.flatMap f).drop (k * es) = f x ++ (l.drop (k + 1)).flatMap f
  | [], k, x, h => by simp at h
  | y :: l, 0, x, h => by simp at h; subst h; simp
  | y :: l, k + 1, x, h => by
    have ih := flat_drop hf l k x (by simpa using h)
    rw [List.flatMap_cons, show (k + 1) * es = es + k * es from by rw [Nat.add_mul]; omega, ← List.drop_drop, ← hf y, List.drop_left]
    rw [hf y]
    simpa using ih
theorem flat_len {α : Type} {f : α → List AV} {es : Nat} (hf : ∀ x, (f x).length = es) : ∀ (l : List α), (l.flatMap f).length = l.length * es
  | [] => by simp
  | y :: l => by rw [List.flatMap_cons, List.length_append, hf, flat_len hf l, List.length_cons, Nat.add_mul]; omega
theorem flat_part {α : Type} {f : α → List AV} {es : Nat} (hf : ∀ x, (f x).length = es) {l : List α} {k : Nat} {x : α} (h : l[k]? = some x) : part true es (l.flatMap f) (k * es) = some (.agg (f x)) := by
  have hk := (List.getElem?_eq_some_iff.1 h).1
  have hm : (k + 1) * es ≤ l.length * es := Nat.mul_le_mul_right _ hk
  rw [Nat.add_mul, Nat.one_mul] at hm
  rw [part_t, if_pos (by rw [flat_len hf]; omega), flat_drop hf l k x h, ← hf x, List.take_left']
  rfl
/-- a row's element, where it has grown -/
theorem Grow.at {α : Type} {f : α → List AV} {es : Nat} (hf : ∀ x, (f x).length = es) {K : Nat → Prop} {m : Mem} {v : AV} {el : TypeId} {l : List α} (h : Grow K m v el es (l.flatMap f) l.length) {k : Nat} {x : α} (hx : l[k]? = some x) :
    ∃ o, fIdxSl es v (.int .i64 (k : Int)) = some (.ptr o (k * es)) ∧ ldB (m.get o) true es (k * es) = some (.agg (f x)) := by
  have hk := (List.getElem?_eq_some_iff.1 hx).1
  rcases h with ⟨h1, _⟩ | ⟨o, rfl, h0, h1, h2, h3, h4, h5⟩
  · omega
  · exact ⟨o, by rw [x_idxSl, ixN_nat hk]; simp, by rw [h5, ldB_blk, flat_part hf hx]⟩
end Go.K
end
