/- A part of a proof over an evaluator for programs of this form: KEv. -/
import GoSem.Step
import GoSem.Core.Layout
set_option linter.all false
set_option autoImplicit false
/-! An evaluator of the model's code over values and memory of its own: cheap for the kernel. -/
namespace Go.K

inductive NK where | ptr | slice | map | func | iface
inductive AV where
  | int (k : IntKind) (n : Int)
  | bool (b : Bool)
  | str (l : List UInt8)
  | ptr (o off : Nat)
  | slice (o off len : Nat) (cap : Option Nat) (es : Nat)
  | agg (cs : List AV)
  | tuple (vs : List AV)
  | nil (k : NK)
  | map (o : Nat)
  | func (f : FuncId) (first caps : List AV)
  | iface (t : TypeId) (v : AV)

abbrev AV.undef : AV := .tuple []
def AV.cells (v : AV) : List AV := AV.casesOn v (fun k n => [.int k n]) (fun b => [.bool b]) (fun l => [.str l]) (fun o i => [.ptr o i]) (fun o a l c e => [.slice o a l c e])
  (fun cs => cs) (fun vs => [.tuple vs]) (fun k => [.nil k]) (fun o => [.map o]) (fun f a b => [.func f a b]) (fun t v => [.iface t v])

def AV.one (v : AV) : Bool := AV.casesOn v (fun _ _ => true) (fun _ => true) (fun _ => true) (fun _ _ => true) (fun _ _ _ _ _ => true) (fun _ => false) (fun _ => false) (fun _ => true) (fun _ => true) (fun _ _ _ => true) (fun _ _ => true)
/-! ### tries -/
inductive ET where
  | nil
  | node (v : AV) (l r : ET)
/-- a way into such a trie; none -/
inductive Pa where
  | no
  | here
  | left (p : Pa)
  | right (p : Pa)
noncomputable def paN (f : Nat) : Nat → Pa :=
  Nat.rec (motive := fun _ => Nat → Pa) (fun _ => .no) (fun _ ih n => Nat.rec (motive := fun _ => Pa) .here (fun k _ => Nat.rec (motive := fun _ => Pa) (.left (ih (Nat.div k 2))) (fun _ _ => .right (ih (Nat.div k 2))) (Nat.mod k 2)) n) f
/-- the way to number n -/
noncomputable def pa (n : Nat) : Pa := paN (Nat.succ n) n
noncomputable def ET.get (t : ET) (p : Pa) : AV :=
  Pa.rec (motive := fun _ => ET → AV) (fun _ => .tuple []) (fun t => ET.rec (motive := fun _ => AV) (.tuple []) (fun v _ _ _ _ => v) t)
    (fun _ ih t => ET.rec (motive := fun _ => AV) (.tuple []) (fun _ l _ _ _ => ih l) t) (fun _ ih t => ET.rec (motive := fun _ => AV) (.tuple []) (fun _ _ r _ _ => ih r) t) p t
noncomputable def ET.put (t : ET) (p : Pa) (x : AV) : ET :=
  Pa.rec (motive := fun _ => ET → ET) (fun t => t) (fun t => ET.rec (motive := fun _ => ET) .nil (fun _ l r _ _ => .node x l r) t)
    (fun _ ih t => ET.rec (motive := fun _ => ET) .nil (fun v l r _ _ => .node v (ih l) r) t) (fun _ ih t => ET.rec (motive := fun _ => ET) .nil (fun v l r _ _ => .node v l (ih r)) t) p t
noncomputable def ET.full (n : Nat) : ET := Nat.rec .nil (fun _ t => .node (.tuple []) t t) n

/-- no type is known -/
def noTy : TypeId := 4294967295
inductive AObj where
  | blk (l : List AV) (ty : TypeId) (ex : Bool)
  | map (es : List (List UInt8 × AV))
  | iter (s : List UInt8) (pos : Nat)
inductive MT where
  | nil
  | node (v : Option AObj) (l r : MT)
noncomputable def MT.get (t : MT) : Nat → Option AObj :=
  MT.rec (motive := fun _ => Nat → Option AObj) (fun _ => none)
    (fun v _ _ il ir n => Nat.rec (motive := fun _ => Option AObj) v (fun k _ => Nat.rec (motive := fun _ => Option AObj) (il (Nat.div k 2)) (fun _ _ => ir (Nat.div k 2)) (Nat.mod k 2)) n) t
noncomputable def MT.one (f : Nat) : Nat → Option AObj → MT :=
  Nat.rec (motive := fun _ => Nat → Option AObj → MT) (fun _ _ => .nil)
    (fun _ ih n x => Nat.rec (motive := fun _ => MT) (.node x .nil .nil) (fun k _ => Nat.rec (motive := fun _ => MT) (.node none (ih (Nat.div k 2) x) .nil) (fun _ _ => .node none .nil (ih (Nat.div k 2) x)) (Nat.mod k 2)) n) f
noncomputable def MT.put (t : MT) : Nat → Option AObj → MT :=
  MT.rec (motive := fun _ => Nat → Option AObj → MT) (fun n x => MT.one (Nat.succ n) n x)
    (fun v l r il ir n x => Nat.rec (motive := fun _ => MT) (.node x l r) (fun k _ => Nat.rec (motive := fun _ => MT) (.node v (il (Nat.div k 2) x) r) (fun _ _ => .node v l (ir (Nat.div k 2) x)) (Nat.mod k 2)) n) t

structure Df where
  f : FuncId
  args : List AV
structure Mem where
  next : Nat
  ro : Nat
  objs : MT
  d : List Df
noncomputable def Mem.get (m : Mem) (o : Nat) : Option AObj := Mem.casesOn m fun _ _ t _ => t.get o
noncomputable def Mem.put (m : Mem) (o : Nat) (x : AObj) : Mem := Mem.casesOn m fun n r t d => ⟨n, r, t.put o (some x), d⟩
noncomputable def Mem.kill (m : Mem) (o : Nat) : Mem := Mem.casesOn m fun n r t d => ⟨n, r, t.put o none, d⟩
/-- may object o be written? -/
def Mem.rw (m : Mem) (o : Nat) : Bool := Mem.casesOn m fun _ r _ _ => Nat.ble r o
def Mem.tell {α : Type} (m : Mem) (f : Nat → α) : α := Mem.casesOn m fun n _ _ _ => f n
noncomputable def Mem.new (m : Mem) (x : AObj) : Mem := Mem.casesOn m fun n r t d => ⟨Nat.succ n, r, t.put n (some x), d⟩

/-! ### lists -/
noncomputable def nth {α : Type} (l : List α) : Nat → Option α :=
  List.rec (motive := fun _ => Nat → Option α) (fun _ => none) (fun x _ ih n => Nat.rec (motive := fun _ => Option α) (some x) (fun k _ => ih k) n) l
noncomputable def dropN {α : Type} (l : List α) : Nat → List α :=
  List.rec (motive := fun _ => Nat → List α) (fun _ => []) (fun x xs ih n => Nat.rec (motive := fun _ => List α) (x :: xs) (fun k _ => ih k) n) l
noncomputable def takeN {α : Type} (l : List α) : Nat → Option (List α) :=
  List.rec (motive := fun _ => Nat → Option (List α)) (fun n => Nat.rec (motive := fun _ => Option (List α)) (some []) (fun _ _ => none) n)
    (fun x _ ih n => Nat.rec (motive := fun _ => Option (List α)) (some []) (fun k _ => Option.casesOn (ih k) none fun ys => some (x :: ys)) n) l
noncomputable def cut {α : Type} (l : List α) (off n : Nat) : Option (List α) := takeN (dropN l off) n
/-- vs over l from its head on -/
noncomputable def over0 (l : List AV) : List AV → Option (List AV) :=
  List.rec (motive := fun _ => List AV → Option (List AV)) (fun vs => List.casesOn vs (some []) fun _ _ => none)
    (fun x xs ih vs => List.casesOn vs (some (x :: xs)) fun v vs => Option.casesOn (ih vs) none fun ys => some (v :: ys)) l
noncomputable def over (l : List AV) (n : Nat) (vs : List AV) : Option (List AV) :=
  List.rec (motive := fun _ => Nat → Option (List AV)) (fun _ => List.casesOn vs (some []) fun _ _ => none)
    (fun x xs ih n => Nat.rec (motive := fun _ => Option (List AV)) (over0 (x :: xs) vs) (fun k _ => Option.casesOn (ih k) none fun ys => some (x :: ys)) n) l n
noncomputable def len {α : Type} (l : List α) : Nat := List.rec (motive := fun _ => Nat) 0 (fun _ _ n => Nat.succ n) l
noncomputable def app {α : Type} (l k : List α) : List α := List.rec (motive := fun _ => List α) k (fun x _ ih => x :: ih) l
noncomputable def mapL {α β : Type} (f : α → β) (l : List α) : List β := List.rec (motive := fun _ => List β) [] (fun x _ ih => f x :: ih) l
noncomputable def takeL {α : Type} (l : List α) : Nat → List α :=
  List.rec (motive := fun _ => Nat → List α) (fun _ => []) (fun x _ ih n => Nat.rec (motive := fun _ => List α) [] (fun k _ => x :: ih k) n) l
noncomputable def allB {α : Type} (f : α → Bool) (l : List α) : Bool := List.rec (motive := fun _ => Bool) true (fun x _ ih => Bool.casesOn (f x) false ih) l
noncomputable def rep {α : Type} (n : Nat) (l : List α) : List α := Nat.rec (motive := fun _ => List α) [] (fun _ ih => app l ih) n
noncomputable def optL {α β : Type} (f : α → Option β) (l : List α) : Option (List β) :=
  List.rec (motive := fun _ => Option (List β)) (some []) (fun x _ ih => Option.casesOn (f x) none fun y => Option.casesOn ih none fun ys => some (y :: ys)) l

/-! ### numbers and bytes -/
def ikNo (k : IntKind) : Nat := IntKind.casesOn k 0 1 2 3 4 5 6 7
def ikEq (a b : IntKind) : Bool := Nat.beq (ikNo a) (ikNo b)
def ikTop (k : IntKind) : Nat := IntKind.casesOn k 127 32767 2147483647 9223372036854775807 255 65535 4294967295 18446744073709551615
def ikLow (k : IntKind) : Nat := IntKind.casesOn k 128 32768 2147483648 9223372036854775808 0 0 0 0
/-- the same as the model's wrap, without a look at what is in range -/
def wrap (k : IntKind) (n : Int) : Int :=
  Int.casesOn n (fun a => Bool.casesOn (Nat.ble a (ikTop k)) (k.wrap (Int.ofNat a)) (Int.ofNat a))
    (fun a => Bool.casesOn (Nat.ble (Nat.succ a) (ikLow k)) (k.wrap (Int.negSucc a)) (Int.negSucc a))
def iadd (a b : Int) : Int :=
  Int.casesOn a (fun m => Int.casesOn b (fun n => Int.ofNat (Nat.add m n)) (fun n => Int.subNatNat m (Nat.succ n)))
    (fun m => Int.casesOn b (fun n => Int.subNatNat n (Nat.succ m)) (fun n => Int.negSucc (Nat.succ (Nat.add m n))))
def ineg (b : Int) : Int := Int.casesOn b (fun n => Nat.casesOn n (Int.ofNat 0) (fun k => Int.negSucc k)) (fun n => Int.ofNat (Nat.succ n))
def imul (a b : Int) : Int :=
  Int.casesOn a (fun m => Int.casesOn b (fun n => Int.ofNat (Nat.mul m n)) (fun n => ineg (Int.ofNat (Nat.mul m (Nat.succ n)))))
    (fun m => Int.casesOn b (fun n => ineg (Int.ofNat (Nat.mul (Nat.succ m) n))) (fun n => Int.ofNat (Nat.mul (Nat.succ m) (Nat.succ n))))
def ieq (a b : Int) : Bool :=
  Int.casesOn a (fun m => Int.casesOn b (fun n => Nat.beq m n) (fun _ => false)) (fun m => Int.casesOn b (fun _ => false) (fun n => Nat.beq m n))
def ilt (a b : Int) : Bool :=
  Int.casesOn a (fun m => Int.casesOn b (fun n => Nat.ble (Nat.succ m) n) (fun _ => false)) (fun m => Int.casesOn b (fun _ => true) (fun n => Nat.ble (Nat.succ n) m))
def byteNo (b : UInt8) : Nat := b.toNat
noncomputable def eqB (a : List UInt8) : List UInt8 → Bool :=
  List.rec (motive := fun _ => List UInt8 → Bool) (fun b => List.casesOn b true fun _ _ => false)
    (fun x _ ih b => List.casesOn b false fun y ys => Bool.casesOn (Nat.beq (byteNo x) (byteNo y)) false (ih ys)) a
noncomputable def ltB (a : List UInt8) : List UInt8 → Bool :=
  List.rec (motive := fun _ => List UInt8 → Bool) (fun b => List.casesOn b false fun _ _ => true)
    (fun x _ ih b => List.casesOn b false fun y ys => Bool.casesOn (Nat.ble (Nat.succ (byteNo x)) (byteNo y)) (Bool.casesOn (Nat.beq (byteNo x) (byteNo y)) false (ih ys)) true) a

/-! ### constants -/
def atomOf (v : Value) : Option AV :=
  match v with
  | .bool b => some (.bool b)
  | .int k n => some (.int k n)
  | .string s => some (.str s.data.toList)
  | .pointer none => some (.nil .ptr)
  | .slice none 0 0 => some (.nil .slice)
  | .map none => some (.nil .map)
  | .nilFunc => some (.nil .func)
  | .nilIface => some (.nil .iface)
  | _ => none
noncomputable def atomsOf (l : List Value) : Option (List AV) := optL atomOf l
noncomputable def ofVal (v : Value) : Option AV :=
  match v with
  | .agg cs => Option.casesOn (atomsOf cs.toList) none fun as => some (.agg as)
  | .tuple ⟨[]⟩ => some .undef
  | .iface t v => Option.casesOn (atomOf v) none fun a => some (.iface t a)
  | .func (.func f) ⟨[]⟩ ⟨[]⟩ => some (.func f [] [])
  | v => atomOf v

/-! ### operands -/
inductive Od where
  | tmp (p : Pa)
  | val (v : AV)
noncomputable def odOf (P : Program) (nt : Nat) (x : Operand) : Option Od :=
  match x with
  | .tmp t => Bool.casesOn (Nat.ble (Nat.succ t) nt) none (some (.tmp (pa t)))
  | .const v => Option.casesOn (ofVal v) none fun a => some (.val a)
  | .global g => Bool.casesOn (Nat.ble (Nat.succ g) P.globals.size) none (some (.val (.ptr g 0)))
  | .func f => some (.val (.func f [] []))
noncomputable def ev (x : Od) (e : ET) : AV := Od.rec (motive := fun _ => AV) (fun p => e.get p) (fun v => v) x
noncomputable def evs (xs : List Od) (e : ET) : List AV := mapL (fun x => ev x e) xs

/-! ### types -/
noncomputable def zeroOf (P : Program) (t : TypeId) : Option (List AV) :=
  match P.info? t with
  | some i => match i.zero with
    | some (.agg cs) => atomsOf cs.toList
    | some v => Option.casesOn (atomOf v) none fun a => some [a]
    | none => none
  | none => none
def isAgg (P : Program) (t : TypeId) : Bool :=
  match P.underlying t with
  | some (.struct _) | some (.array _ _) => true
  | _ => false
def sizeT (P : Program) (t : TypeId) : Option Nat :=
  match P.underlying t with
  | some _ => match P.info? t with
    | some i => some i.size
    | none => none
  | none => none
/-- types whose '==' is that of all their cells -/
def plainEq (P : Program) : Nat → TypeId → Bool
  | 0, _ => false
  | d + 1, t => match P.underlying t with
    | some (.int _) | some .bool | some .string => true
    | some (.struct fs) => fs.toList.all (fun f => plainEq P d f.type)
    | _ => false

/-! ### operations without memory -/
abbrev F1 := AV → Option AV
abbrev F2 := AV → AV → Option AV
abbrev FN := List AV → Option AV

noncomputable def iK {α : Type} (v : AV) (x : α) (f : IntKind → Int → α) : α :=
  AV.casesOn (motive_1 := fun _ => α) v f (fun _ => x) (fun _ => x) (fun _ _ => x) (fun _ _ _ _ _ => x) (fun _ => x) (fun _ => x) (fun _ => x) (fun _ => x) (fun _ _ _ => x) (fun _ _ => x)
noncomputable def sK {α : Type} (v : AV) (x : α) (f : List UInt8 → α) : α :=
  AV.casesOn (motive_1 := fun _ => α) v (fun _ _ => x) (fun _ => x) f (fun _ _ => x) (fun _ _ _ _ _ => x) (fun _ => x) (fun _ => x) (fun _ => x) (fun _ => x) (fun _ _ _ => x) (fun _ _ => x)
noncomputable def pK {α : Type} (v : AV) (x : α) (f : Nat → Nat → α) : α :=
  AV.casesOn (motive_1 := fun _ => α) v (fun _ _ => x) (fun _ => x) (fun _ => x) f (fun _ _ _ _ _ => x) (fun _ => x) (fun _ => x) (fun _ => x) (fun _ => x) (fun _ _ _ => x) (fun _ _ => x)
noncomputable def onInts (f : IntKind → Int → Int → Option AV) : F2 := fun x y =>
  iK x none fun k a => iK y none fun k' b => Bool.rec (motive := fun _ => Option AV) none (f k a b) (ikEq k k')
noncomputable def fAddI : F2 := onInts fun k a b => some (.int k (wrap k (iadd a b)))
noncomputable def onStrs (f : List UInt8 → List UInt8 → Option AV) : F2 := fun x y => sK x none fun a => sK y none fun b => f a b
noncomputable def fAddS : F2 := onStrs fun a b => Bool.casesOn (Nat.ble (Nat.add (len a) (len b)) 9223372036854775807) none (some (.str (app a b)))
noncomputable def fSub : F2 := onInts fun k a b => some (.int k (wrap k (iadd a (ineg b))))
noncomputable def fMul : F2 := onInts fun k a b => some (.int k (wrap k (imul a b)))
noncomputable def fQuo : F2 := onInts fun k a b => Bool.casesOn (ieq b (Int.ofNat 0)) (some (.int k (wrap k (Int.tdiv a b)))) none
noncomputable def fRem : F2 := onInts fun k a b => Bool.casesOn (ieq b (Int.ofNat 0)) (some (.int k (Int.tmod a b))) none
/-- an integer's bits, of so many -/
noncomputable def tw (b : Nat) (a : Int) : Nat :=
  match a with
  | .ofNat m => m
  | .negSucc m => Nat.sub (Nat.pow 2 b) (Nat.succ (Nat.mod m (Nat.pow 2 b)))
noncomputable def onBits (f : Nat → Nat → Nat) : F2 := onInts fun k a b => some (.int k (wrap k (Int.ofNat (f (tw k.bits a) (tw k.bits b)))))
noncomputable def fShl : F2 := fun x y =>
  match x with
  | .int k a => match y with
    | .int _ (.ofNat n) => some (.int k (wrap k (imul a (Int.ofNat (Nat.pow 2 (Nat.min n k.bits))))))
    | _ => none
  | _ => none
/-- divided by a power of two, downward -/
noncomputable def shrI (a : Int) (d : Nat) : Int :=
  match a with
  | .ofNat m => Int.ofNat (Nat.div m d)
  | .negSucc m => Int.negSucc (Nat.div m d)
noncomputable def fShr : F2 := fun x y =>
  match x with
  | .int k a => match y with
    | .int _ (.ofNat n) => some (.int k (shrI a (Nat.pow 2 (Nat.min n k.bits))))
    | _ => none
  | _ => none
noncomputable def fLtI : F2 := onInts fun _ a b => some (.bool (ilt a b))
noncomputable def fGtI : F2 := onInts fun _ a b => some (.bool (ilt b a))
noncomputable def fLeI : F2 := onInts fun _ a b => some (.bool (not (ilt b a)))
noncomputable def fGeI : F2 := onInts fun _ a b => some (.bool (not (ilt a b)))
noncomputable def fLtS : F2 := onStrs fun a b => some (.bool (ltB a b))
noncomputable def fGtS : F2 := onStrs fun a b => some (.bool (ltB b a))
noncomputable def fLeS : F2 := onStrs fun a b => some (.bool (not (ltB b a)))
noncomputable def fGeS : F2 := onStrs fun a b => some (.bool (not (ltB a b)))
def beqb (a b : Bool) : Bool := Bool.casesOn a (not b) b
noncomputable def eqInt : AV → AV → Option Bool := fun x y => iK x none fun k a => iK y none fun k' b => Bool.rec (motive := fun _ => Option Bool) none (some (ieq a b)) (ikEq k k')
noncomputable def eqStr : AV → AV → Option Bool := fun x y => sK x none fun a => sK y none fun b => some (eqB a b)
noncomputable def eqBo : AV → AV → Option Bool := fun x y => match x with
  | .bool a => match y with
    | .bool b => some (beqb a b)
    | _ => none
  | _ => none
noncomputable def eqPtr (el : Bool) : AV → AV → Option Bool := fun x y => match x with
  | .nil .ptr => match y with
    | .nil .ptr => some true
    | .ptr _ _ => some false
    | _ => none
  | .ptr o i => match y with
    | .nil .ptr => some false
    | .ptr p j => Bool.casesOn (and el (Nat.beq o p)) none (some (Nat.beq i j))
    | _ => none
  | _ => none
noncomputable def eqSl : AV → AV → Option Bool := fun x y => match x with
  | .nil .slice => match y with
    | .nil .slice => some true
    | .slice .. => some false
    | _ => none
  | .slice .. => match y with
    | .nil .slice => some false
    | _ => none
  | _ => none
noncomputable def eqMap : AV → AV → Option Bool := fun x y => match x with
  | .nil .map => match y with
    | .nil .map => some true
    | .map _ => some false
    | _ => none
  | .map _ => match y with
    | .nil .map => some false
    | _ => none
  | _ => none
noncomputable def eqFn : AV → AV → Option Bool := fun x y => match x with
  | .nil .func => match y with
    | .nil .func => some true
    | .func .. => some false
    | _ => none
  | .func .. => match y with
    | .nil .func => some false
    | _ => none
  | _ => none
noncomputable def part (agg : Bool) (n : Nat) (cs : List AV) (off : Nat) : Option AV :=
  Bool.casesOn agg (nth cs off) (Option.casesOn (cut cs off n) none fun ds => some (.agg ds))
/-- of two structs, field by field -/
noncomputable def eqFs (P : Program) (ih : TypeId → AV → AV → Option Bool) (fs : List Field) (xs ys : List AV) : Option Bool :=
  List.rec (motive := fun _ => Option Bool) (some true) (fun f _ rest => Bool.casesOn (f.name == "_")
    (Option.casesOn (sizeT P f.type) none fun n => Option.casesOn (part (isAgg P f.type) n xs f.offset) none fun a => Option.casesOn (part (isAgg P f.type) n ys f.offset) none fun b =>
      Option.casesOn (ih f.type a b) none fun r => Bool.casesOn r (some false) rest) rest) fs
noncomputable def eqD (P : Program) (d : Nat) : TypeId → AV → AV → Option Bool :=
  Nat.rec (motive := fun _ => TypeId → AV → AV → Option Bool) (fun _ _ _ => none) (fun _ ih t x y =>
    match P.underlying t with
    | some (.struct fs) => match x with
      | .agg xs => match y with
        | .agg ys => Bool.casesOn (P.stoodInHeld t) (eqFs P ih fs.toList xs ys) none
        | _ => none
      | _ => none
    | some (.int _) => eqInt x y
    | some .bool => eqBo x y
    | some .string => eqStr x y
    | _ => none) d
noncomputable def fEqI : F2 := onInts fun _ a b => some (.bool (ieq a b))
noncomputable def fNeI : F2 := onInts fun _ a b => some (.bool (not (ieq a b)))
noncomputable def fEq (neq : Bool) (f : AV → AV → Option Bool) : F2 := fun x y => Option.casesOn (f x y) none fun b => some (.bool (Bool.casesOn neq b (not b)))
/-- interface values against the literal nil -/
noncomputable def fNilIs (neq : Bool) : F1 := fun x =>
  match x with
  | .nil .iface => some (.bool (not neq))
  | .iface _ _ => some (.bool neq)
  | _ => none
noncomputable def fNeg : F1 := fun x => match x with
  | .int k n => some (.int k (wrap k (ineg n)))
  | _ => none
noncomputable def fNot : F1 := fun x => match x with
  | .bool b => some (.bool (not b))
  | _ => none
noncomputable def bound (x : AV) (y : Nat) : Option Nat :=
  match x with
  | .int _ (.ofNat i) => Bool.casesOn (Nat.ble i y) none (some i)
  | _ => none
noncomputable def optBound (x : Option AV) (y d : Nat) : Option Nat := Option.casesOn x (some d) fun v => bound v y
/-- s[l:h] -/
noncomputable def subStr (s : List UInt8) (lo hi : Option AV) : Option AV :=
  Option.casesOn (optBound hi (len s) (len s)) none fun h => Option.casesOn (optBound lo h 0) none fun l => some (.str (takeL (dropN s l) (Nat.sub h l)))
/-- of n elements of es cells at (o, off): [l:h] -/
noncomputable def subArr (o off n es : Nat) (lo hi : Option AV) : Option AV :=
  Option.casesOn (optBound hi n n) none fun h => Option.casesOn (optBound lo h 0) none fun l =>
    some (.slice o (Bool.casesOn (Nat.beq n l) (Nat.add off (Nat.mul l es)) off) (Nat.sub h l) (some (Nat.sub n l)) es)
noncomputable def subSl (o off n : Nat) (cap : Option Nat) (es : Nat) (lo hi : Option AV) : Option AV :=
  Option.casesOn cap
    (Option.casesOn (optBound hi n n) none fun h => Option.casesOn (optBound lo h 0) none fun l =>
      Bool.casesOn (Nat.ble (Nat.succ l) n) none (some (.slice o (Nat.add off (Nat.mul l es)) (Nat.sub h l) none es)))
    (fun c => Option.casesOn (optBound hi c n) none fun h => Option.casesOn (optBound lo h 0) none fun l =>
      some (.slice o (Bool.casesOn (Nat.beq c l) (Nat.add off (Nat.mul l es)) off) (Nat.sub h l) (some (Nat.sub c l)) es))
noncomputable def subSl3 (o off : Nat) (cap : Option Nat) (es : Nat) (lo : Option AV) (hi mx : AV) : Option AV :=
  Option.casesOn cap none fun c => Option.casesOn (bound mx c) none fun m => Option.casesOn (bound hi m) none fun h => Option.casesOn (optBound lo h 0) none fun l =>
    some (.slice o (Bool.casesOn (Nat.beq m l) (Nat.add off (Nat.mul l es)) off) (Nat.sub h l) (some (Nat.sub m l)) es)
/-- what is cut: a string; a slice of elements of so many cells; an array -/
inductive SK where
  | str
  | sl (es : Nat)
  | arr (n es : Nat)
noncomputable def fSlice (k : SK) (x : AV) (lo hi : Option AV) : Option AV :=
  match k with
  | .str => match x with
    | .str s => subStr s lo hi
    | _ => none
  | .sl es => match x with
    | .slice o off n c es' => Bool.casesOn (Nat.beq es es') none (subSl o off n c es lo hi)
    | .nil .slice => Option.casesOn (optBound hi 0 0) none fun h => Option.casesOn (optBound lo h 0) none fun _ => some (.nil .slice)
    | _ => none
  | .arr n es => match x with
    | .ptr o off => subArr o off n es lo hi
    | _ => none
noncomputable def fSlice3 (k : SK) (x : AV) (lo : Option AV) (hi mx : AV) : Option AV :=
  match k with
  | .sl es => match x with
    | .slice o off _ c es' => Bool.casesOn (Nat.beq es es') none (subSl3 o off c es lo hi mx)
    | _ => none
  | _ => none
noncomputable def fField (agg : Bool) (n off : Nat) : F1 := fun x =>
  match x with
  | .agg cs => part agg n cs off
  | _ => none
noncomputable def fFieldAddr (off : Nat) : F1 := fun x => pK x none fun o k => some (.ptr o (Nat.add k off))
noncomputable def fIdxArr (n s : Nat) : F2 := fun x i =>
  match i with
  | .int _ (.ofNat i) => match x with
    | .ptr o k => Bool.casesOn (Nat.ble (Nat.succ i) n) none (some (.ptr o (Nat.add k (Nat.mul i s))))
    | _ => none
  | _ => none
noncomputable def fIdxSl (es : Nat) : F2 := fun x i =>
  match i with
  | .int _ (.ofNat i) => match x with
    | .slice o off n _ es' => Bool.casesOn (and (Nat.beq es es') (Nat.ble (Nat.succ i) n)) none (some (.ptr o (Nat.add off (Nat.mul i es))))
    | _ => none
  | _ => none
noncomputable def fIndexStr : F2 := fun x i =>
  match i with
  | .int _ (.ofNat i) => match x with
    | .str s => Option.casesOn (nth s i) none fun b => some (.int .u8 (Int.ofNat (byteNo b)))
    | _ => none
  | _ => none
noncomputable def fIndexArr (agg : Bool) (n s : Nat) : F2 := fun x i =>
  match i with
  | .int _ (.ofNat i) => match x with
    | .agg cs => Bool.casesOn (Nat.ble (Nat.succ i) n) none (part agg s cs (Nat.mul i s))
    | _ => none
  | _ => none
noncomputable def fConvInt (k : IntKind) : F1 := fun x => match x with
  | .int _ n => some (.int k (wrap k n))
  | _ => none
noncomputable def fIntStr : F1 := fun x => match x with
  | .int _ n => some (.str (Utf8.encode n).data.toList)
  | _ => none
noncomputable def fStr : F1 := fun x => match x with
  | .str s => some (.str s)
  | _ => none
noncomputable def fNilCheck : F1 := fun x => match x with
  | .ptr o i => some (.ptr o i)
  | .func f a b => some (.func f a b)
  | _ => none
noncomputable def fExtract (i : Nat) : F1 := fun x => match x with
  | .tuple vs => nth vs i
  | _ => none
noncomputable def fLenS : F1 := fun x => match x with
  | .str s => some (.int .i64 (Int.ofNat (len s)))
  | _ => none
noncomputable def fLenSl : F1 := fun x => match x with
  | .slice _ _ n _ _ => some (.int .i64 (Int.ofNat n))
  | .nil .slice => some (.int .i64 (Int.ofNat 0))
  | _ => none
noncomputable def fCap : F1 := fun x => match x with
  | .slice _ _ _ (some c) _ => some (.int .i64 (Int.ofNat c))
  | .nil .slice => some (.int .i64 (Int.ofNat 0))
  | _ => none
noncomputable def fMax : F2 := onInts fun k a b => some (.int k (Bool.casesOn (ilt a b) a b))
noncomputable def fMin : F2 := onInts fun k a b => some (.int k (Bool.casesOn (ilt b a) a b))
noncomputable def foldV (f : F2) (xs : List AV) : AV → Option AV :=
  List.rec (motive := fun _ => AV → Option AV) (fun x => some x) (fun y _ ih x => Option.casesOn (f x y) none fun z => ih z) xs
noncomputable def fFold (f : F2) : FN := fun vs => List.casesOn vs none fun x xs => foldV f xs x
noncomputable def fAssert (t : TypeId) (ok : Bool) (z : Option AV) : F1 := fun x => match x with
  | .nil .iface => Bool.casesOn ok none (Option.casesOn z none fun z => some (.tuple [z, .bool false]))
  | .iface u v => Bool.casesOn (Nat.beq u t)
      (Bool.casesOn ok none (Option.casesOn z none fun z => some (.tuple [z, .bool false])))
      (some (Bool.casesOn ok v (.tuple [v, .bool true])))
  | _ => none
/-- parts laid over cells: each at its place, of its size -/
noncomputable def fillAll (ps : List (Nat × Nat)) : List AV → List AV → Option (List AV) :=
  List.rec (motive := fun _ => List AV → List AV → Option (List AV)) (fun vs cs => List.casesOn vs (some cs) fun _ _ => none)
    (fun p _ ih vs cs => List.casesOn vs none fun v vs => Bool.casesOn (and (Nat.beq (len v.cells) p.2) (Nat.ble 1 p.2)) none (Option.casesOn (over cs p.1 v.cells) none fun ds => ih vs ds)) ps
noncomputable def fBuild (z : List AV) (ps : List (Nat × Nat)) : FN := fun vs => Option.casesOn (fillAll ps vs z) none fun cs => some (.agg cs)
noncomputable def fPick : FN := fun vs => match vs with
  | [.bool b, x, y] => some (Bool.casesOn b y x)
  | _ => none
noncomputable def fIface (t : TypeId) : F1 := fun x => some (.iface t x)
noncomputable def fFunc (f : FuncId) (k : Nat) : FN := fun vs => some (.func f (takeL vs k) (dropN vs k))

/-! ### memory -/
abbrev R1 := Mem → AV → Option AV
/-- to unsafe.Pointer -/
noncomputable def rUnsafe : R1 := fun m x => pK x none fun o i => Option.casesOn (m.get o) none fun b => AObj.casesOn b (fun l _ ex => Bool.casesOn (and ex (Nat.ble (Nat.succ i) (len l))) none (some (.ptr o i))) (fun _ => none) (fun _ _ => none)
/-- and back, to a variable of type u -/
noncomputable def rBack (P : Program) (u : TypeId) : R1 := fun m x => pK x none fun o i => Option.casesOn (m.get o) none fun b => AObj.casesOn b (fun l ty ex =>
  Bool.casesOn (and ex (liesAt P P.depth ty (Nat.div (len l) (P.cellsOf ty)) i u 1)) none (some (.ptr o i))) (fun _ => none) (fun _ _ => none)
noncomputable def rLoad (agg : Bool) (n : Nat) : R1 := fun m x => pK x none fun o off => Option.casesOn (m.get o) none fun b => AObj.casesOn b (fun l _ _ => part agg n l off) (fun _ => none) (fun _ _ => none)
noncomputable def bytesOf (l : List AV) : Option (List UInt8) :=
  optL (fun x => match x with
    | .int .u8 n => some (UInt8.ofNat n.toNat)
    | _ => none) l
noncomputable def rBytes : R1 := fun m x => match x with
  | .nil .slice => some (.str [])
  | .slice o off n _ _ => Option.casesOn (m.get o) none fun b => AObj.casesOn b (fun l _ _ => Option.casesOn (cut l off n) none fun cs => Option.casesOn (bytesOf cs) none fun s => some (.str s)) (fun _ => none) (fun _ _ => none)
  | _ => none
noncomputable def findM (k : List UInt8) (es : List (List UInt8 × AV)) : Option AV :=
  List.rec (motive := fun _ => Option AV) none (fun p _ ih => Bool.casesOn (eqB k p.1) ih (some p.2)) es
noncomputable def rLookup (ok : Bool) (z : AV) : Mem → AV → AV → Option AV := fun m x k =>
  match k with
  | .str s => Option.casesOn (match x with
      | .nil .map => some []
      | .map o => Option.casesOn (m.get o) none fun b => AObj.casesOn b (fun _ _ _ => none) (fun es => some es) (fun _ _ => none)
      | _ => none) none fun es =>
    Option.casesOn (findM s es) (some (Bool.casesOn ok z (.tuple [z, .bool false]))) fun v => some (Bool.casesOn ok v (.tuple [v, .bool true]))
  | _ => none

inductive HR where
  | fail
  | val (v : AV) (m : Mem)
  | skip (m : Mem)
  | panic (v : AV) (m : Mem)

abbrev H := Mem → List AV → HR
noncomputable def hStore (n : Nat) : H := fun m vs => match vs with
  | [.ptr o off, v] => Bool.casesOn (and (m.rw o) (and (Nat.beq (len v.cells) n) (allB AV.one v.cells))) .fail
      (Option.casesOn (m.get o) .fail fun b => AObj.casesOn b (fun l ty ex => Option.casesOn (over l off v.cells) .fail fun l' => .skip (m.put o (.blk l' ty ex))) (fun _ => .fail) (fun _ _ => .fail))
  | _ => .fail
noncomputable def srcOf (m : Mem) (es : Nat) (x : AV) : Option (List AV × Nat) :=
  match x with
  | .nil .slice => some ([], 0)
  | .str s => Bool.casesOn (Nat.beq es 1) none (some (mapL (fun b => AV.int .u8 (Int.ofNat (byteNo b))) s, len s))
  | .slice o off n _ es' => Bool.casesOn (Nat.beq es es') none (Option.casesOn (m.get o) none fun b => AObj.casesOn b (fun l _ _ => Option.casesOn (cut l off (Nat.mul n es)) none fun cs => some (cs, n)) (fun _ => none) (fun _ _ => none))
  | _ => none
def lim : Nat := 1073741824
noncomputable def rowNew (m : Mem) (el : TypeId) (es n : Nat) (l : List AV) : HR :=
  Bool.casesOn (Nat.ble n lim) .fail (m.tell fun o => .val (.slice o 0 n none es) (m.new (.blk l el false)))
/-- append to a slice: o's cells are l -/
noncomputable def appTo (m : Mem) (el : TypeId) (o off n : Nat) (cap : Option Nat) (es : Nat) (l : List AV) (ty : TypeId) (ex : Bool) (new : List AV) (k : Nat) : HR :=
  Option.casesOn cap
    (Bool.casesOn (and (m.rw o) (allB AV.one new)) .fail
      (Bool.casesOn (Nat.beq (Nat.add off (Nat.mul n es)) (len l))
        (Option.casesOn (over l (Nat.add off (Nat.mul n es)) new) .fail fun l' => .val (.slice o off (Nat.add n k) none es) (m.put o (.blk l' ty ex)))
        (Bool.casesOn (Nat.beq ty el) .fail (Option.casesOn (cut l off (Nat.mul n es)) .fail fun old => rowNew (m.kill o) el es (Nat.add n k) (app old new)))))
    (fun c => Bool.casesOn (Nat.ble (Nat.add n k) c)
      (Option.casesOn (cut l off (Nat.mul n es)) .fail fun old => rowNew m el es (Nat.add n k) (app old new))
      (Bool.casesOn (and (m.rw o) (allB AV.one new)) .fail (Option.casesOn (over l (Nat.add off (Nat.mul n es)) new) .fail fun l' => .val (.slice o off (Nat.add n k) cap es) (m.put o (.blk l' ty ex)))))
noncomputable def hAppend (el : TypeId) (es : Nat) : H := fun m vs => match vs with
  | [s, x] => Option.casesOn (srcOf m es x) .fail fun p => Nat.casesOn p.2
      (match s with
        | .nil .slice => .val s m
        | .slice .. => .val s m
        | _ => .fail)
      (fun _ => match s with
        | .nil .slice => rowNew m el es p.2 p.1
        | .slice o off n cap es' => Bool.casesOn (Nat.beq es es') .fail (Option.casesOn (m.get o) .fail fun b => AObj.casesOn b (fun l ty ex => appTo m el o off n cap es l ty ex p.1 p.2) (fun _ => .fail) (fun _ _ => .fail))
        | _ => .fail)
  | _ => .fail
noncomputable def hCopy (es : Nat) : H := fun m vs => match vs with
  | [.slice o off n _ es', x] => Bool.casesOn (and (Nat.beq es es') (m.rw o)) .fail (Option.casesOn (srcOf m es x) .fail fun p =>
      Option.casesOn (takeN p.1 (Nat.mul (Nat.min p.2 n) es)) .fail fun new => Bool.casesOn (allB AV.one new) .fail (Option.casesOn (m.get o) .fail fun b =>
        AObj.casesOn b (fun l ty ex => Option.casesOn (over l off new) .fail fun l' => .val (.int .i64 (Int.ofNat (Nat.min p.2 n))) (m.put o (.blk l' ty ex))) (fun _ => .fail) (fun _ _ => .fail)))
  | _ => .fail
noncomputable def hStrBytes (el : TypeId) : H := fun m vs => match vs with
  | [.str s] => rowNew m el 1 (len s) (mapL (fun b => AV.int .u8 (Int.ofNat (byteNo b))) s)
  | _ => .fail
noncomputable def hMakeMap : H := fun m _ => m.tell fun o => .val (.map o) (m.new (.map []))
noncomputable def setM (k : List UInt8) (v : AV) (es : List (List UInt8 × AV)) : List (List UInt8 × AV) :=
  List.rec (motive := fun _ => List (List UInt8 × AV)) [(k, v)] (fun p r ih => Bool.casesOn (eqB k p.1) (p :: ih) ((k, v) :: r)) es
noncomputable def hMapSet : H := fun m vs => match vs with
  | [.map o, .str s, v] => Bool.casesOn (m.rw o) .fail (Option.casesOn (m.get o) .fail fun b => AObj.casesOn b (fun _ _ _ => .fail) (fun es => .skip (m.put o (.map (setM s v es)))) (fun _ _ => .fail))
  | _ => .fail
noncomputable def hRange : H := fun m vs => match vs with
  | [.str s] => m.tell fun o => .val (.ptr o 0) (m.new (.iter s 0))
  | _ => .fail
noncomputable def hNext : H := fun m vs => match vs with
  | [.ptr o 0] => Option.casesOn (m.get o) .fail fun b => AObj.casesOn b (fun _ _ _ => .fail) (fun _ => .fail) fun s pos =>
      Bool.casesOn (Nat.ble (Nat.succ pos) (len s)) (.val (.tuple [.bool false]) m)
        (Bool.casesOn (m.rw o) .fail (Prod.casesOn (Utf8.decode ⟨⟨s⟩⟩ pos) fun c w => .val (.tuple [.bool true, .int .i64 (Int.ofNat pos), .int .i32 (Int.ofNat c)]) (m.put o (.iter s (Nat.add pos w)))))
  | _ => .fail
noncomputable def hMakeSlice (el : TypeId) (es : Nat) (z : List AV) : H := fun m vs => match vs with
  | [.int _ (.ofNat l), .int _ (.ofNat c)] => Bool.casesOn (and (Nat.ble l c) (Nat.ble (Nat.mul c es) 16777216)) .fail (m.tell fun o => .val (.slice o 0 l (some c) es) (m.new (.blk (rep c z) el true)))
  | _ => .fail
noncomputable def hSliceData : H := fun m vs => match vs with
  | [.slice o off _ (some (_ + 1)) _] => .val (.ptr o off) m
  | [.slice o off (_ + 1) none _] => .val (.ptr o off) m
  | [.nil .slice] => .val (.nil .ptr) m
  | _ => .fail
noncomputable def hString (el : TypeId) : H := fun m vs => match vs with
  | [.nil .ptr, .int _ (.ofNat 0)] => .val (.str []) m
  | [.ptr o off, .int _ (.ofNat n)] => Nat.casesOn n (.val (.str []) m) fun _ => Bool.casesOn (and (m.rw o) (Nat.ble n 9223372036854775807)) .fail
      (Option.casesOn (m.get o) .fail fun b => AObj.casesOn b (fun l ty _ => Bool.casesOn (Nat.beq ty el) .fail
        (Option.casesOn (cut l off n) .fail fun cs => Option.casesOn (bytesOf cs) .fail fun s => .val (.str s) (m.kill o))) (fun _ => .fail) (fun _ _ => .fail))
  | _ => .fail
noncomputable def hPanic : H := fun m vs => match vs with
  | [.iface t v] => .panic (.iface t v) m
  | _ => .fail
noncomputable def hDefer : H := fun m vs => match vs with
  | .func g first caps :: vs => Mem.casesOn m fun n r t d => .skip ⟨n, r, t, ⟨g, app first (app vs caps)⟩ :: d⟩
  | _ => .fail

/-! ### operations, told by what they need -/
inductive IOp where
  | bad
  | mv (x : Od)
  | p1 (f : F1) (x : Od)
  | p2 (f : F2) (x y : Od)
  | pN (f : FN) (xs : List Od)
  | r1 (f : R1) (x : Od)
  | r2 (f : Mem → AV → AV → Option AV) (x y : Od)
  | al (f : List AV → Option AObj) (mk : Nat → AV) (xs : List Od)
  | hv (f : H) (xs : List Od)
  | call (f : Od) (xs : List Od)

noncomputable def odsOf (P : Program) (nt : Nat) (xs : List Operand) : Option (List Od) := optL (odOf P nt) xs
noncomputable def with1 (P : Program) (nt : Nat) (x : Operand) (k : Od → IOp) : IOp := Option.casesOn (odOf P nt x) .bad k
noncomputable def with2 (P : Program) (nt : Nat) (x y : Operand) (k : Od → Od → IOp) : IOp := Option.casesOn (odOf P nt x) .bad fun a => Option.casesOn (odOf P nt y) .bad fun b => k a b
noncomputable def withN (P : Program) (nt : Nat) (xs : List Operand) (k : List Od → IOp) : IOp := Option.casesOn (odsOf P nt xs) .bad k

def isNilIface (x : Operand) : Bool := match x with
  | .const .nilIface => true
  | _ => false
/-- by the operand's type: of integers, of strings -/
noncomputable def byT (P : Program) (nt : Nat) (t : TypeId) (x y : Operand) (fi fs : F2) : IOp :=
  match P.underlying t with
  | some (.int _) => with2 P nt x y (.p2 fi)
  | some .string => with2 P nt x y (.p2 fs)
  | _ => .bad
/-- the comparison by the operand's type; integers have their own -/
noncomputable def eqT (P : Program) (t : TypeId) : Option (AV → AV → Option Bool) :=
  match P.underlying t with
  | some .string => some eqStr
  | some .bool => some eqBo
  | some (.pointer e) => match sizeT P e with
    | some n => some (eqPtr (Nat.ble 1 n))
    | none => none
  | some (.slice _) => some eqSl
  | some (.map _ _) => some eqMap
  | some (.func _ _ _) => some eqFn
  | some (.struct _) => Bool.casesOn (and (plainEq P 8 t) (Nat.ble 8 P.depth)) none (some (eqD P 9 t))
  | _ => none
def isIfaceT (P : Program) (t : TypeId) : Bool := match P.underlying t with
  | some (.interface _) => true
  | _ => false
noncomputable def decEq (P : Program) (nt : Nat) (neq : Bool) (t : TypeId) (x y : Operand) (fi : F2) : IOp :=
  match P.underlying t with
  | some (.int _) => with2 P nt x y (.p2 fi)
  | some (.interface _) => Bool.casesOn (isNilIface y) (Bool.casesOn (isNilIface x) .bad (with1 P nt y (.p1 (fNilIs neq)))) (with1 P nt x (.p1 (fNilIs neq)))
  | _ => Option.casesOn (eqT P t) .bad fun f => with2 P nt x y (.p2 (fEq neq f))
noncomputable def fBad : F2 := fun _ _ => none
noncomputable def decBin (P : Program) (nt : Nat) (op : BinOp) (t : TypeId) (x y : Operand) : IOp :=
  match op with
  | .add => byT P nt t x y fAddI fAddS
  | .sub => byT P nt t x y fSub fBad
  | .mul => byT P nt t x y fMul fBad
  | .quo => byT P nt t x y fQuo fBad
  | .rem => byT P nt t x y fRem fBad
  | .and => byT P nt t x y (onBits Nat.land) fBad
  | .or => byT P nt t x y (onBits Nat.lor) fBad
  | .xor => byT P nt t x y (onBits Nat.xor) fBad
  | .andNot => .bad
  | .shl => with2 P nt x y (.p2 fShl)
  | .shr => with2 P nt x y (.p2 fShr)
  | .lss => byT P nt t x y fLtI fLtS
  | .leq => byT P nt t x y fLeI fLeS
  | .gtr => byT P nt t x y fGtI fGtS
  | .geq => byT P nt t x y fGeI fGeS
  | .eql => decEq P nt false t x y fEqI
  | .neq => decEq P nt true t x y fNeI
noncomputable def decConv (P : Program) (nt : Nat) (src dst : TypeId) (x : Operand) : IOp :=
  match P.underlying src with
  | some (.int _) => match P.underlying dst with
    | some (.int k) => with1 P nt x (.p1 (fConvInt k))
    | some .string => with1 P nt x (.p1 fIntStr)
    | _ => .bad
  | some .string => match P.underlying dst with
    | some .string => with1 P nt x (.p1 fStr)
    | some (.slice el) => match P.underlying el with
      | some (.int .u8) => withN P nt [x] (.hv (hStrBytes el))
      | _ => .bad
    | _ => .bad
  | some (.slice el) => match P.underlying el, P.underlying dst with
    | some (.int .u8), some .string => with1 P nt x (.r1 rBytes)
    | _, _ => .bad
  | some (.pointer t) => match P.underlying dst, sizeT P t with
    | some .unsafePointer, some (_ + 1) => with1 P nt x (.r1 rUnsafe)
    | _, _ => .bad
  | some .unsafePointer => match P.underlying dst with
    | some (.pointer u) => Option.casesOn (sizeT P u) .bad fun _ => with1 P nt x (.r1 (rBack P u))
    | _ => .bad
  | _ => .bad
/-- low and high: which of them there are -/
noncomputable def fSliceN (k : SK) (lo hi : Bool) : FN := fun vs => match lo, hi, vs with
  | false, false, [x] => fSlice k x none none
  | true, false, [x, l] => fSlice k x (some l) none
  | false, true, [x, h] => fSlice k x none (some h)
  | true, true, [x, l, h] => fSlice k x (some l) (some h)
  | _, _, _ => none
noncomputable def fSlice3N (k : SK) (lo : Bool) : FN := fun vs => match lo, vs with
  | false, [x, h, m] => fSlice3 k x none h m
  | true, [x, l, h, m] => fSlice3 k x (some l) h m
  | _, _ => none
def skOf (P : Program) (t : TypeId) : Option SK := match P.underlying t with
  | some .string => some .str
  | some (.slice el) => match sizeT P el with
    | some s => some (.sl s)
    | none => none
  | some (.array n el) => match sizeT P el with
    | some s => some (.arr n s)
    | none => none
  | _ => none
noncomputable def decSlice (P : Program) (nt : Nat) (t : TypeId) (x : Operand) (lo hi mx : Option Operand) : IOp :=
  match skOf P t with
  | none => .bad
  | some k => match mx with
    | none => match lo, hi with
      | none, none => withN P nt [x] (.pN (fSliceN k false false))
      | some l, none => withN P nt [x, l] (.pN (fSliceN k true false))
      | none, some h => withN P nt [x, h] (.pN (fSliceN k false true))
      | some l, some h => withN P nt [x, l, h] (.pN (fSliceN k true true))
    | some m => match lo, hi with
      | none, some h => withN P nt [x, h, m] (.pN (fSlice3N k false))
      | some l, some h => withN P nt [x, l, h, m] (.pN (fSlice3N k true))
      | _, none => .bad
noncomputable def zeroV (P : Program) (t : TypeId) : Option AV :=
  match P.info? t with
  | some i => match i.zero with
    | some v => ofVal v
    | none => none
  | none => none
/-- a slice's type or a string's -/
def rowLike (P : Program) (t : TypeId) : Bool := match P.underlying t with
  | some (.slice _) | some .string => true
  | _ => false
/-- the zero value has so many cells -/
noncomputable def zLen (P : Program) (t : TypeId) (s : Nat) : Bool := Option.casesOn (zeroOf P t) false fun z => Nat.beq (len z) s
def smallT (P : Program) (t : TypeId) : Bool := match P.info? t with
  | some i => and (Nat.ble 1 i.bytes) (Nat.ble i.bytes 8192)
  | none => false
noncomputable def decBuiltin (P : Program) (nt : Nat) (b : Builtin) (args : List Operand) (ts : List TypeId) : IOp :=
  match b with
  | .len => match ts, args with
    | [t], [x] => match P.underlying t with
      | some .string => with1 P nt x (.p1 fLenS)
      | some (.slice _) => with1 P nt x (.p1 fLenSl)
      | some (.array n _) => .mv (.val (.int .i64 (Int.ofNat n)))
      | some (.pointer a) => match P.underlying a with
        | some (.array n _) => .mv (.val (.int .i64 (Int.ofNat n)))
        | _ => .bad
      | _ => .bad
    | _, _ => .bad
  | .cap => match ts, args with
    | [t], [x] => match P.underlying t with
      | some (.slice _) => with1 P nt x (.p1 fCap)
      | _ => .bad
    | _, _ => .bad
  | .max => withN P nt args (.pN (fFold fMax))
  | .min => withN P nt args (.pN (fFold fMin))
  | .append => match ts with
    | [t, t'] => match P.underlying t with
      | some (.slice el) => match sizeT P el with
        | some (s + 1) => Bool.casesOn (and (rowLike P t') (and (zLen P el (s + 1)) (smallT P el))) .bad (withN P nt args (.hv (hAppend el (s + 1))))
        | _ => .bad
      | _ => .bad
    | _ => .bad
  | .copy => match ts with
    | [t, _] => match P.underlying t with
      | some (.slice el) => match sizeT P el with
        | some (s + 1) => withN P nt args (.hv (hCopy (s + 1)))
        | _ => .bad
      | _ => .bad
    | _ => .bad
  | .unsafeSliceData => withN P nt args (.hv hSliceData)
  | .unsafeString => match ts with
    | pt :: _ => match P.underlying pt with
      | some (.pointer el) => Bool.casesOn (and (Nat.beq (P.cellsOf el) 1) (and (Nat.ble 1 P.depth) (not (Nat.beq el noTy)))) .bad (withN P nt args (.hv (hString el)))
      | _ => .bad
    | _ => .bad
  | _ => .bad
/-- where the parts of a value lie -/
noncomputable def placeFn (P : Program) (t : TypeId) : Option (Nat → Option (Nat × Nat)) :=
  match P.underlying t with
  | some (.struct fs) => Option.casesOn (optL (fun f : Field => Option.casesOn (sizeT P f.type) none fun n => some (f.offset, n)) fs.toList) none fun l => some (nth l)
  | some (.array _ e) => Option.casesOn (sizeT P e) none fun s => some fun i => some (i * s, s)
  | _ => none
noncomputable def fAllocBlk (ty : TypeId) (z : List AV) : List AV → Option AObj := fun _ => some (.blk z ty true)
noncomputable def fBoxBlk (ty : TypeId) : List AV → Option AObj := fun vs => match vs with
  | [v] => some (.blk v.cells ty true)
  | _ => none
noncomputable def fRowBlk (ty : TypeId) (z : List AV) (ps : List (Nat × Nat)) : List AV → Option AObj := fun vs => Option.casesOn (fillAll ps vs z) none fun cs => some (.blk cs ty true)
def mkPtr : Nat → AV := fun o => .ptr o 0
def mkSl (n es : Nat) : Nat → AV := fun o => .slice o 0 n (some n) es
noncomputable def decOp (P : Program) (nt : Nat) (op : Op) : IOp :=
  match op with
  | .move x | .assign x => with1 P nt x .mv
  | .pick c a b => withN P nt [c, a, b] (.pN fPick)
  | .alloc t => Option.casesOn (zeroOf P t) .bad fun z => .al (fAllocBlk t z) mkPtr []
  | .box t x => with1 P nt x fun a => .al (fBoxBlk t) mkPtr [a]
  | .build t parts => Option.casesOn (zeroOf P t) .bad fun z => Option.casesOn (placeFn P t) .bad fun pf => Option.casesOn (optL pf (mapL (·.1) parts.toList)) .bad fun ps => withN P nt (mapL (·.2) parts.toList) (.pN (fBuild z ps))
  | .buildSlice t n parts => match P.underlying t with
    | some (.slice el) => Option.casesOn (zeroOf P el) .bad fun z => Option.casesOn (sizeT P el) .bad fun s =>
        Bool.casesOn (and (Nat.beq (len z) s) (and (Nat.ble 1 s) (Nat.ble (Nat.mul n s) 16777216))) .bad
          (Option.casesOn (optL (fun i => some (Nat.mul i s, s)) (mapL (·.1) parts.toList)) .bad fun ps => withN P nt (mapL (·.2) parts.toList) (.al (fRowBlk el (rep n z) ps) (mkSl n s)))
    | _ => .bad
  | .load t a => Option.casesOn (sizeT P t) .bad fun n => with1 P nt a (.r1 (rLoad (isAgg P t) n))
  | .store t a v => Option.casesOn (sizeT P t) .bad fun n => withN P nt [a, v] (.hv (hStore n))
  | .nilCheck x => with1 P nt x (.p1 fNilCheck)
  | .binOp op t x y _ => decBin P nt op t x y
  | .unOp op _ x => match op with
    | .neg => with1 P nt x (.p1 fNeg)
    | .not => with1 P nt x (.p1 fNot)
    | _ => .bad
  | .convert src dst x => decConv P nt src dst x
  | .makeInterface t x => match P.underlying t with
    | some (.interface _) => .bad
    | some _ => with1 P nt x (.p1 (fIface t))
    | none => .bad
  | .makeFunc (.func f) first caps => withN P nt (first.toList ++ caps.toList) (.pN (fFunc f first.size))
  | .makeMap _ none => .hv hMakeMap []
  | .makeSlice t l c => match P.underlying t with
    | some (.slice el) => Option.casesOn (zeroOf P el) .bad fun z => Option.casesOn (sizeT P el) .bad fun s => Bool.casesOn (and (Nat.beq (len z) s) (and (Nat.ble 1 s) (smallT P el))) .bad (withN P nt [l, c] (.hv (hMakeSlice el s z)))
    | _ => .bad
  | .slice t x lo hi mx => decSlice P nt t x lo hi mx
  | .fieldAddr t x i => match P.underlying t with
    | some (.struct fs) => match nth fs.toList i with
      | some f => match sizeT P f.type with
        | some (_ + 1) => with1 P nt x (.p1 (fFieldAddr f.offset))
        | _ => .bad
      | none => .bad
    | _ => .bad
  | .field t x i => match P.underlying t with
    | some (.struct fs) => match nth fs.toList i with
      | some f => Option.casesOn (sizeT P f.type) .bad fun n => with1 P nt x (.p1 (fField (isAgg P f.type) n f.offset))
      | none => .bad
    | _ => .bad
  | .indexAddr t x i => match P.underlying t with
    | some (.array n el) => Option.casesOn (sizeT P el) .bad fun s => with2 P nt x i (.p2 (fIdxArr n s))
    | some (.slice el) => Option.casesOn (sizeT P el) .bad fun s => with2 P nt x i (.p2 (fIdxSl s))
    | _ => .bad
  | .index t x i => match P.underlying t with
    | some (.array n el) => Option.casesOn (sizeT P el) .bad fun s => with2 P nt x i (.p2 (fIndexArr (isAgg P el) n s))
    | some .string => with2 P nt x i (.p2 fIndexStr)
    | _ => .bad
  | .lookup t x k ok => match P.underlying t with
    | some (.map kt el) => match P.underlying kt with
      | some .string => Option.casesOn (zeroV P el) .bad fun z => with2 P nt x k (.r2 (rLookup ok z))
      | _ => .bad
    | _ => .bad
  | .mapUpdate t x k v => match P.underlying t with
    | some (.map kt _) => match P.underlying kt with
      | some .string => withN P nt [x, k, v] (.hv hMapSet)
      | _ => .bad
    | _ => .bad
  | .range t x => match P.underlying t with
    | some .string => withN P nt [x] (.hv hRange)
    | _ => .bad
  | .next x true => withN P nt [x] (.hv hNext)
  | .typeAssert x _ t ok => match P.underlying t with
    | some (.interface _) => .bad
    | some _ => with1 P nt x (.p1 (fAssert t ok (zeroV P t)))
    | none => .bad
  | .extract x i => with1 P nt x (.p1 (fExtract i))
  | .call { callee := .value f, args, .. } => with1 P nt f fun a => withN P nt args.toList (.call a)
  | .call { callee := .builtin b, args, argTypes } => decBuiltin P nt b args.toList argTypes.toList
  | .defer { callee := .value f, args, .. } => withN P nt (f :: args.toList) (.hv hDefer)
  | .panic x => withN P nt [x] (.hv hPanic)
  | _ => .bad

/-! ### a region in the text's order -/
inductive CR where
  | fail
  | norm (e : ET) (m : Mem)
  | exit (id : Nat) (e : ET) (m : Mem)
  | ret (e : ET) (m : Mem)
  | panic (v : AV) (e : ET) (m : Mem)
inductive FR where
  | fail
  | ret (v : AV) (m : Mem)
  | panic (v : AV) (m : Mem)
abbrev CallFn := FuncId → List AV → Mem → FR

structure DOp where
  dst : Pa
  g : Option (Pa × Bool)
  op : IOp
/-- a guard: the temporary that it looks at; none: it can't be told -/
noncomputable def gdOf (nt : Nat) (ops : List Oper) (o : Oper) : Option (Option (Pa × Bool)) :=
  match o.guard with
  | none => some none
  | some (j, want) => match nth ops j with
    | some x => match x.dst with
      | some d => Bool.casesOn (Nat.ble (Nat.succ d) nt) none (some (some (pa d, want)))
      | none => none
    | none => none
noncomputable def dstOf (d : Option Tmp) : Pa := Option.casesOn d .no pa
noncomputable def dec1 (P : Program) (nt : Nat) (ops : List Oper) (o : Oper) : DOp :=
  Option.casesOn (gdOf nt ops o) ⟨.no, none, .bad⟩ fun g => ⟨dstOf o.dst, g, decOp P nt o.op⟩
noncomputable def decR (P : Program) (nt : Nat) (ops : List Oper) : List DOp := mapL (dec1 P nt ops) ops

noncomputable def bK {α : Type} (v : AV) (x : α) (f : Bool → α) : α :=
  AV.casesOn (motive_1 := fun _ => α) v (fun _ _ => x) (fun b => f b) (fun _ => x) (fun _ _ => x) (fun _ _ _ _ _ => x) (fun _ => x) (fun _ => x) (fun _ => x) (fun _ => x) (fun _ _ _ => x) (fun _ _ => x)
noncomputable def fnK (v : AV) (f : FuncId → List AV → List AV → CR) : CR :=
  AV.casesOn (motive_1 := fun _ => CR) v (fun _ _ => .fail) (fun _ => .fail) (fun _ => .fail) (fun _ _ => .fail) (fun _ _ _ _ _ => .fail) (fun _ => .fail) (fun _ => .fail) (fun _ => .fail) (fun _ => .fail) (fun g a b => f g a b) (fun _ _ => .fail)
noncomputable def wanted (g : Option (Pa × Bool)) (e : ET) : Bool :=
  Option.casesOn g true fun p => bK (e.get p.1) false fun b => beqb b p.2
noncomputable def callV (call : CallFn) (f : AV) (args : List AV) (e : ET) (m : Mem) (k : AV → Mem → CR) : CR :=
  fnK f fun g first caps => FR.rec (motive := fun _ => CR) .fail k (fun v m' => .panic v e m') (call g (app first (app args caps)) m)
noncomputable def hrK (x : HR) (e : ET) (k : AV → Mem → CR) : CR := HR.rec (motive := fun _ => CR) .fail k (fun m => k .undef m) (fun v m => .panic v e m) x
/-- a step: what an operation does, and then k -/
abbrev Run := CallFn → ET → Mem → (ET → Mem → CR) → CR
structure St where
  run : Run
noncomputable def tBad : Run := fun _ _ _ _ => .fail
noncomputable def tMv (d : Pa) (x : Od) : Run := fun _ e m k => k (e.put d (ev x e)) m
noncomputable def t1 (d : Pa) (f : F1) (x : Od) : Run := fun _ e m k => Option.rec (motive := fun _ => CR) .fail (fun v => k (e.put d v) m) (f (ev x e))
noncomputable def t2 (d : Pa) (f : F2) (x y : Od) : Run := fun _ e m k => Option.rec (motive := fun _ => CR) .fail (fun v => k (e.put d v) m) (f (ev x e) (ev y e))
noncomputable def tN (d : Pa) (f : FN) (xs : List Od) : Run := fun _ e m k => Option.rec (motive := fun _ => CR) .fail (fun v => k (e.put d v) m) (f (evs xs e))
noncomputable def tR1 (d : Pa) (f : R1) (x : Od) : Run := fun _ e m k => Option.rec (motive := fun _ => CR) .fail (fun v => k (e.put d v) m) (f m (ev x e))
noncomputable def tR2 (d : Pa) (f : Mem → AV → AV → Option AV) (x y : Od) : Run := fun _ e m k => Option.rec (motive := fun _ => CR) .fail (fun v => k (e.put d v) m) (f m (ev x e) (ev y e))
noncomputable def tAl (d : Pa) (f : List AV → Option AObj) (mk : Nat → AV) (xs : List Od) : Run := fun _ e m k => Option.rec (motive := fun _ => CR) .fail (fun b => m.tell fun o => k (e.put d (mk o)) (m.new b)) (f (evs xs e))
noncomputable def tHv (d : Pa) (f : H) (xs : List Od) : Run := fun _ e m k => hrK (f m (evs xs e)) e fun v m' => k (e.put d v) m'
noncomputable def tCall (d : Pa) (f : Od) (xs : List Od) : Run := fun call e m k => callV call (ev f e) (evs xs e) e m fun v m' => k (e.put d v) m'
noncomputable def tGd (p : Pa) (want : Bool) (d : Pa) (r : Run) : Run := fun call e m k =>
  Bool.rec (motive := fun _ => CR) (k (e.put d .undef) m) (r call e m k) (bK (e.get p) false fun b => beqb b want)
/-- told outright, so that it is found ready -/
noncomputable def stIOp (d : Pa) (op : IOp) : St :=
  IOp.casesOn op ⟨tBad⟩ (fun x => ⟨tMv d x⟩) (fun f x => ⟨t1 d f x⟩) (fun f x y => ⟨t2 d f x y⟩) (fun f xs => ⟨tN d f xs⟩) (fun f x => ⟨tR1 d f x⟩) (fun f x y => ⟨tR2 d f x y⟩) (fun f mk xs => ⟨tAl d f mk xs⟩) (fun f xs => ⟨tHv d f xs⟩) (fun f xs => ⟨tCall d f xs⟩)
noncomputable def stOf (x : DOp) : St := DOp.casesOn x fun d g op => Option.casesOn g (stIOp d op) fun p => Prod.casesOn p fun q w => St.casesOn (stIOp d op) fun r => ⟨tGd q w d r⟩
noncomputable def seqK (call : CallFn) (ds : List St) : ET → Mem → CR :=
  List.rec (motive := fun _ => ET → Mem → CR) (fun e m => .norm e m) (fun s _ ih e m => St.rec (motive := fun _ => CR) (fun r => r call e m ih) s) ds

/-! ### a region that draws its order -/
noncomputable def beqO (a b : Option Nat) : Bool := Option.casesOn a (Option.casesOn b true fun _ => false) fun x => Option.casesOn b false fun y => Nat.beq x y
noncomputable def beqL (f : AV → AV → Bool) (a : List AV) : List AV → Bool :=
  List.rec (motive := fun _ => List AV → Bool) (fun b => List.casesOn b true fun _ _ => false) (fun x _ ih b => List.casesOn b false fun y ys => Bool.casesOn (f x y) false (ih ys)) a
def nkNo (k : NK) : Nat := NK.casesOn k 0 1 2 3 4
noncomputable def beq1 (rec : AV → AV → Bool) (a b : AV) : Bool :=
  match a with
  | .int k n => match b with
    | .int k' n' => and (ikEq k k') (ieq n n')
    | _ => false
  | .bool x => match b with
    | .bool y => beqb x y
    | _ => false
  | .str x => match b with
    | .str y => eqB x y
    | _ => false
  | .ptr o i => match b with
    | .ptr p j => and (Nat.beq o p) (Nat.beq i j)
    | _ => false
  | .slice o i n c s => match b with
    | .slice o' i' n' c' s' => and (Nat.beq o o') (and (Nat.beq i i') (and (Nat.beq n n') (and (beqO c c') (Nat.beq s s'))))
    | _ => false
  | .agg x => match b with
    | .agg y => beqL rec x y
    | _ => false
  | .tuple x => match b with
    | .tuple y => beqL rec x y
    | _ => false
  | .nil k => match b with
    | .nil k' => Nat.beq (nkNo k) (nkNo k')
    | _ => false
  | .map o => match b with
    | .map p => Nat.beq o p
    | _ => false
  | .func f x y => match b with
    | .func g x' y' => and (Nat.beq f g) (and (beqL rec x x') (beqL rec y y'))
    | _ => false
  | .iface t v => match b with
    | .iface u w => and (Nat.beq t u) (rec v w)
    | _ => false
noncomputable def beqV (n : Nat) : AV → AV → Bool := Nat.rec (motive := fun _ => AV → AV → Bool) (fun _ _ => false) (fun _ ih => beq1 ih) n
noncomputable def same (a b : AV) : Bool := beqV 6 a b

def bit (m i : Nat) : Bool := Nat.beq (Nat.land (Nat.shiftRight m i) 1) 1
structure DD where
  i : Nat
  b : Nat
  d : DOp
structure VM where
  v : AV
  m : Mem
/-- what an operation will do, its operands told -/
inductive Ef where
  | val (v : AV)
  | read (r : Mem → Option AV)
  | alloc (v : AV) (x : AObj)
  | heavy (h : Mem → Option VM)
structure Pd where
  i : Nat
  x : AObj
structure Sn where
  i : Nat
  m : Mem
structure Rd where
  i : Nat
  r : Mem → Option AV
  v : AV
structure DS where
  e : ET
  m : Mem
  pend : List Pd
  snaps : List Sn
  reads : List Rd
noncomputable def hrO (x : HR) : Option VM := HR.rec (motive := fun _ => Option VM) none (fun v m => some ⟨v, m⟩) (fun m => some ⟨.undef, m⟩) (fun _ _ => none) x
noncomputable def frO (x : FR) : Option VM := FR.rec (motive := fun _ => Option VM) none (fun v m => some ⟨v, m⟩) (fun _ _ => none) x
noncomputable def fnO (v : AV) (f : FuncId → List AV → List AV → Option VM) : Option VM :=
  AV.casesOn (motive_1 := fun _ => Option VM) v (fun _ _ => none) (fun _ => none) (fun _ => none) (fun _ _ => none) (fun _ _ _ _ _ => none) (fun _ => none) (fun _ => none) (fun _ => none) (fun _ => none) (fun g a b => f g a b) (fun _ _ => none)
noncomputable def effOp (call : CallFn) (o : Nat) (op : IOp) (e : ET) : Option Ef :=
  IOp.casesOn op none
    (fun x => some (.val (ev x e)))
    (fun f x => Option.casesOn (f (ev x e)) none fun v => some (.val v))
    (fun f x y => Option.casesOn (f (ev x e) (ev y e)) none fun v => some (.val v))
    (fun f xs => Option.casesOn (f (evs xs e)) none fun v => some (.val v))
    (fun f x => some (.read fun m => f m (ev x e)))
    (fun f x y => some (.read fun m => f m (ev x e) (ev y e)))
    (fun f mk xs => Option.casesOn (f (evs xs e)) none fun x => some (.alloc (mk o) x))
    (fun f xs => some (.heavy fun m => hrO (f m (evs xs e))))
    (fun f xs => some (.heavy fun m => fnO (ev f e) fun g first caps => frO (call g (app first (app (evs xs e) caps)) m)))
noncomputable def eff (call : CallFn) (base : Nat) (x : DD) (e : ET) : Option Ef :=
  DD.casesOn x fun i _ d => DOp.casesOn d fun _ g op => Bool.casesOn (wanted g e) (some (.val .undef)) (effOp call (Nat.add base i) op e)
noncomputable def sameAt (m : Mem) (r : Mem → Option AV) (v : AV) : Bool := Option.casesOn (r m) false fun u => same u v
noncomputable def findP (l : List Pd) (i : Nat) : Option AObj := List.rec (motive := fun _ => Option AObj) none (fun p _ ih => Pd.casesOn p fun j x => Bool.casesOn (Nat.beq j i) ih (some x)) l
noncomputable def stay (f : Nat → Bool) (l : List Pd) : List Pd := List.rec (motive := fun _ => List Pd) [] (fun p _ ih => Bool.casesOn (f p.i) (p :: ih) ih) l
noncomputable def layAll (base : Nat) (f : Nat → Bool) (l : List Pd) (m : Mem) (n : Nat) : Mem :=
  Nat.rec (motive := fun _ => Mem) m (fun i ih => Bool.casesOn (f i) ih (Option.casesOn (findP l i) ih fun x => ih.put (Nat.add base i) x)) n
noncomputable def lay (base n : Nat) (f : Nat → Bool) (l : List Pd) (m : Mem) : Mem := List.casesOn l m fun _ _ => layAll base f l m n
noncomputable def readsOk (b : Nat) (m : Mem) (l : List Rd) : Bool := allB (fun r => Rd.casesOn r fun i r v => Bool.casesOn (bit b i) (sameAt m r v) true) l
noncomputable def snapsOk (b : Nat) (r : Mem → Option AV) (v : AV) (l : List Sn) : Bool := allB (fun x => Sn.casesOn x fun i m => Bool.casesOn (bit b i) (sameAt m r v) true) l
noncomputable def act (base n i b : Nat) (dst : Pa) (ef : Ef) (s : DS) : Option DS :=
  DS.casesOn s fun e m pend snaps reads => Ef.casesOn ef
    (fun v => some ⟨e.put dst v, m, pend, snaps, reads⟩)
    (fun r => Option.casesOn (r m) none fun v => Bool.casesOn (snapsOk b r v snaps) none (some ⟨e.put dst v, m, pend, snaps, ⟨i, r, v⟩ :: reads⟩))
    (fun v x => some ⟨e.put dst v, m, ⟨i, x⟩ :: pend, snaps, reads⟩)
    (fun h => Option.casesOn (h (lay base n (bit b) pend m)) none fun r => VM.casesOn r fun v m' => Bool.casesOn (readsOk b m' reads) none (some ⟨e.put dst v, m', stay (bit b) pend, ⟨i, m⟩ :: snaps, reads⟩))
noncomputable def step1 (call : CallFn) (base n : Nat) (x : DD) (s : DS) : Option DS :=
  Option.casesOn (eff call base x s.e) none fun ef => DD.casesOn x fun i b d => DOp.casesOn d fun dst _ _ => act base n i b dst ef s
noncomputable def seqD (call : CallFn) (base n : Nat) (xs : List DD) : DS → CR :=
  List.rec (motive := fun _ => DS → CR) (fun s => DS.casesOn s fun e m pend _ _ => .norm e (lay base n (fun _ => true) pend m)) (fun x _ ih s => Option.rec (motive := fun _ => CR) .fail ih (step1 call base n x s)) xs
noncomputable def zipD (ds : List DOp) : List Nat → Nat → List DD :=
  List.rec (motive := fun _ => List Nat → Nat → List DD) (fun _ _ => []) (fun d _ ih bs i => List.casesOn bs [⟨i, 0, ⟨.no, none, .bad⟩⟩] fun b bs => ⟨i, b, d⟩ :: ih bs (Nat.succ i)) ds
noncomputable def seqDraw (call : CallFn) (xs : List DD) (n : Nat) (e : ET) (m : Mem) : CR :=
  Mem.casesOn m fun next r t d => Bool.casesOn (Nat.ble r next) .fail (seqD call next n xs ⟨e, ⟨Nat.add next n, r, t, d⟩, [], [], []⟩)

/-! ### code -/
noncomputable def isTrue (x : AV) (a b : CR) : CR := bK x .fail fun c => Bool.rec (motive := fun _ => CR) b a c
abbrev CFn := ET → Mem → CR
noncomputable def cSeq (a b : CFn) : CFn := fun e m => CR.rec (motive := fun _ => CR) .fail b .exit .ret .panic (a e m)
noncomputable def cCond (x : Option Od) (a b : CFn) : CFn := fun e m => Option.casesOn x .fail fun x => isTrue (ev x e) (a e m) (b e m)
noncomputable def cBlock (id : Nat) (a : CFn) : CFn := fun e m => CR.casesOn (a e m) .fail .norm (fun i e m => Bool.casesOn (Nat.beq i id) (.exit i e m) (.norm e m)) .ret .panic
noncomputable def cLoop (n : Nat) (a : CFn) : CFn := Nat.rec (motive := fun _ => CFn) (fun _ _ => .fail) (fun _ ih e m => CR.rec (motive := fun _ => CR) .fail ih .exit .ret .panic (a e m)) n
/-- the order's plan of a region of this function -/
abbrev Plan := Nat → Option (List Nat)
noncomputable def cRegion (P : Program) (nt : Nat) (pl : Plan) (call : CallFn) (id : Nat) (ops : List Oper) (draw : Bool) : CFn :=
  Bool.casesOn draw (seqK call (mapL stOf (decR P nt ops))) (Option.casesOn (pl id) (fun _ _ => .fail) fun bs => seqDraw call (zipD (decR P nt ops) bs 0) (len ops))
noncomputable def codeK (P : Program) (nt : Nat) (pl : Plan) (call : CallFn) (rounds : Nat) (c : Code) : CFn :=
  Code.rec (motive := fun _ => CFn)
    (fun e m => .norm e m)
    (fun id ops draw => cRegion P nt pl call id ops.toList draw)
    (fun _ _ a b => cSeq a b)
    (fun c _ _ a b => cCond (odOf P nt c) a b)
    (fun id _ a => cBlock id a)
    (fun _ a => cLoop rounds a)
    (fun _ _ _ _ _ _ _ _ => .fail)
    (fun id e m => .exit id e m)
    (fun _ _ _ _ => .fail)
    (fun _ e m => .norm e m)
    (fun _ _ _ => .fail)
    (fun e m => .ret e m)
    (fun _ _ _ => .fail) c

/-! ### calls -/
inductive RV where
  | tmp (t : Pa)
  | cell (t : Pa) (n : Nat) (agg : Bool)
structure FD where
  code : Code
  nt : Nat
  dep : Nat
  res : List RV
noncomputable def rvOf (P : Program) (nt : Nat) (r : ResultVar) : Option RV := match r with
  | .tmp t => Bool.casesOn (Nat.ble (Nat.succ t) nt) none (some (.tmp (pa t)))
  | .cell t ty => Bool.casesOn (Nat.ble (Nat.succ t) nt) none (Option.casesOn (sizeT P ty) none fun n => some (.cell (pa t) n (isAgg P ty)))
noncomputable def fdOf (P : Program) (f : FuncId) : Option FD :=
  match nth P.funcs.toList f with
  | some fn => match fn.body with
    | some c => Option.casesOn (optL (rvOf P fn.ntmps) fn.results.toList) none fun rs => some ⟨c, fn.ntmps, Nat.succ (Nat.log2 (Nat.succ fn.ntmps)), rs⟩
    | none => none
  | none => none
noncomputable def argsE (vs : List AV) : Nat → ET → ET := List.rec (motive := fun _ => Nat → ET → ET) (fun _ e => e) (fun v _ ih i e => ih (Nat.succ i) (e.put (pa i) v)) vs
noncomputable def resK (e : ET) (m : Mem) (rs : List RV) : Option (List AV) :=
  optL (fun r => RV.casesOn r (fun t => some (e.get t)) (fun t n agg => rLoad agg n m (e.get t))) rs
def oneV (vs : List AV) : AV := match vs with
  | [v] => v
  | vs => .tuple vs
noncomputable def clean1 (rec : AV → Bool) (n : Nat) (v : AV) : Bool :=
  match v with
  | .int .. | .bool _ | .str _ | .nil _ => true
  | .ptr o _ | .slice o _ _ _ _ | .map o => Nat.ble (Nat.succ o) n
  | .agg l | .tuple l => allB rec l
  | .func _ a b => and (allB rec a) (allB rec b)
  | .iface _ v => rec v
noncomputable def clean (n : Nat) (v : AV) : Bool := (Nat.rec (motive := fun _ => AV → Bool) (fun _ => false) (fun _ ih => clean1 ih n) 6 : AV → Bool) v
/-- what a frame's end comes to; what is deferred does nothing unless there is a panic -/
noncomputable def endK (dn : FuncId → Nat → Bool) (rs : List RV) (e : ET) (m : Mem) (k : AV → Mem → FR) : FR :=
  Mem.casesOn m fun n r t d => Bool.casesOn (allB (fun x => Df.casesOn x fun f a => dn f (len a)) d) .fail (Option.casesOn (resK e ⟨n, r, t, []⟩ rs) .fail fun vs => k (oneV vs) ⟨n, r, t, []⟩)
noncomputable def finK (dn : FuncId → Nat → Bool) (rs : List RV) (x : CR) (k : AV → Mem → FR) (p : AV → Mem → FR) : FR :=
  CR.casesOn x .fail (fun e m => endK dn rs e m k) (fun _ _ _ => .fail) (fun e m => endK dn rs e m k) (fun v _ m => List.casesOn (Mem.casesOn m fun _ _ _ d => d) (p v m) fun _ _ => .fail)
noncomputable def backTo (d : List Df) (m : Mem) : Mem := Mem.casesOn m fun n r t _ => ⟨n, r, t, d⟩
noncomputable def bodyK (P : Program) (pl : FuncId → Plan) (dn : FuncId → Nat → Bool) (call : CallFn) (rounds : Nat) (pure : Bool) (f : FuncId) (args : List AV) (m : Mem) : FR :=
  Option.casesOn (fdOf P f) .fail fun fd => FD.casesOn fd fun code nt dep rs => Mem.casesOn m fun n r t d => Bool.casesOn (Nat.ble (len args) nt) .fail (
    Bool.casesOn pure
      (finK dn rs (codeK P nt (pl f) call rounds code (argsE args 0 (ET.full dep)) ⟨n, r, t, []⟩) (fun v m' => .ret v (backTo d m')) (fun v m' => .panic v (backTo d m')))
      (finK dn rs (codeK P nt (pl f) call rounds code (argsE args 0 (ET.full dep)) ⟨n, n, t, []⟩) (fun v _ => Bool.casesOn (clean n v) .fail (.ret v m)) (fun _ _ => .fail)))
structure Cfg where
  P : Program
  pl : FuncId → Plan
  rounds : Nat
  pure : FuncId → Bool
  prim : FuncId → Option (List AV → Mem → Option VM)
  dn : FuncId → Nat → Bool
noncomputable def callK (c : Cfg) (fuel : Nat) : CallFn :=
  Nat.rec (motive := fun _ => CallFn) (fun _ _ _ => .fail)
    (fun _ ih f args m => Option.casesOn (Option.casesOn (c.prim f) none fun g => g args m) (bodyK c.P c.pl c.dn ih c.rounds (c.pure f) f args m) fun r => VM.casesOn r fun v m' => .ret v m') fuel
/-- of a function of values alone -/
noncomputable def prPure (g : List AV → Option AV) : List AV → Mem → Option VM := fun args m => Option.casesOn (g args) none fun v => some ⟨v, m⟩

/-! ### plans -/
noncomputable def maskOf (acc : List Nat) (es : List Edge) : Nat :=
  List.rec (motive := fun _ => Nat) 0 (fun e _ ih => Bool.casesOn (Region.binds .any e) ih (Nat.lor (Nat.lor (Nat.pow 2 e.on) (Option.casesOn (nth acc e.on) 0 fun b => b)) ih)) es
noncomputable def masks (ops : List Oper) : List Nat → List Nat :=
  List.rec (motive := fun _ => List Nat → List Nat) (fun acc => acc) (fun o _ ih acc => ih (app acc [maskOf acc o.after.toList])) ops

end Go.K
