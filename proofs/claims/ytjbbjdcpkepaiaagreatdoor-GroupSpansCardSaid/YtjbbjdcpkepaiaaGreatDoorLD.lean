/- A part of a proof over an evaluator for programs of this form: KOps9 KOpsA KOpsB KOpsC KOpsD KOpsE KOpsF. -/
import Derived.Test.YtjbbjdcpkepaiaaGreatDoorLC
import Derived.Laws.IdiomStrings
import Derived.Lib.UnsafeStr
import Derived.Laws.Append
set_option linter.all false
set_option autoImplicit false
section
namespace Go.K
open Go (Op)
section
variable {P : Program} {nt : Nat} {dst : Option Tmp} {ty : TypeId} {pos : String} {after : Array Edge} {guard : Option (Nat × Bool)} {ι : Emb}
theorem parts_zip (ρ : Operand → Value) : ∀ (ps : List (Nat × Operand)), ps.map (fun p => (p.1, ρ p.2)) = (ps.map (·.1)).zip ((ps.map (·.2)).map ρ)
  | [] => rfl
  | p :: ps => by simp [parts_zip ρ ps]
theorem places_mapM : ∀ (fs : List Field) (l : List (Nat × Nat)), optL (fun f : Field => Option.casesOn (sizeT P f.type) none fun n => some (f.offset, n)) fs = some l →
    fs.mapM (fun f => (P.info? f.type).map fun i => (f.offset, i.size)) = some l
  | [], l, h => by have := optL_nil h; subst this; rfl
  | f :: fs, l, h => by
    obtain ⟨y, ys, h1, h2, rfl⟩ := optL_cons h
    obtain ⟨n, hs, h3⟩ := orec (b := none) h1 (by simp)
    cases h3
    obtain ⟨d, i, _, hi, rfl⟩ := sizeT_some hs
    simp [List.mapM_cons, hi, places_mapM fs ys h2]
theorem good_build {t : TypeId} {parts : Array (Nat × Operand)} {z : List AV} {pf : Nat → Option (Nat × Nat)} {ps : List (Nat × Nat)} (hz : zeroOf P t = some z) (hpf : placeFn P t = some pf) (hps : optL pf (mapL (·.1) parts.toList) = some ps) :
    Good P nt ⟨dst, .build t parts, ty, pos, after, guard⟩ (withN P nt (mapL (·.2) parts.toList) (.pN (fBuild z ps))) := by
  refine goodN fun ι ρ w us r hus hr => ?_
  obtain ⟨cs, h1, h2⟩ := orec (b := none) hr (by simp)
  cases h2
  obtain ⟨zv, hzr, hzl, it, hit, hitz⟩ := zeroOf_ok (ι := ι) hz w
  rw [mapL_eq] at hps hus
  obtain ⟨c', h3, h4⟩ := fill_ok pf _ ps us _ z cs zv.cells hps h1 hus hzl
  rw [← parts_zip] at h3
  have hb : P.built t (parts.map fun (i, x) => (i, ρ x)).toList = some c' := by
    unfold Program.built
    unfold placeFn at hpf
    split at hpf
    · rename_i fs hu
      obtain ⟨l, h5, h6⟩ := orec (b := none) hpf (by simp)
      cases h6
      simp only [hit, hu, hitz, places_mapM _ _ h5]
      have : (fun x => l.toArray[x]?) = nth l := by funext x; rw [nth_eq]; simp
      rw [this]
      simpa using h3
    · rename_i n e hu
      obtain ⟨s, h5, h6⟩ := orec (b := none) hpf (by simp)
      cases h6
      obtain ⟨d, i, _, hi, rfl⟩ := sizeT_some h5
      simp only [hit, hu, hitz, hi]
      simpa using h3
    · cases hpf
  refine ⟨.agg c', ?_, by simp only [R]; exact ⟨c'.toList, by simp, h4⟩⟩
  have := run_build w t _ c' hb
  simp only [execOp, Sem.run_bind, this, Result.andThen_ok, Sem.run_pure]
/-! reading -/
theorem good_load {t : TypeId} {n : Nat} (x : Operand) (hs : sizeT P t = some n) : Good P nt ⟨dst, .load t x, ty, pos, after, guard⟩ (with1 P nt x (.r1 (rLoad (isAgg P t) n))) := by
  refine goodR1 fun ι ρ m w p r hR hp hr => ?_
  unfold rLoad at hr
  obtain ⟨o, off, rfl, hr⟩ := pK_some hr
  obtain ⟨l, bty, ex, hg, hr⟩ := blk_rec hr (by simp)
  obtain ⟨L, v, hL, h1, h2⟩ := hR.loadVar hg hs hr
  simp only [R] at hp
  obtain ⟨L', hL', hv⟩ := hp
  rw [hL] at hL'; cases hL'
  refine ⟨v, ?_, h2⟩
  have e : (Instr.loadAt t (ρ x)).run P w = .ok v w := by
    rw [hv]
    simp only [Instr.loadAt, Instr.sureAddr, Sem.run_bind, Sem.run_pure, Result.andThen_ok, h1]
  simp [execOp, e]
theorem bytesOf_ok : ∀ {cs : List AV} {s : List UInt8} {vs : List Value}, bytesOf cs = some s → RL ι cs vs → ∃ ns : List Int, vs = ns.map (Value.int .u8) ∧ s = ns.map (fun n => UInt8.ofNat n.toNat)
  | [], s, vs, h, hr => by
    have := optL_nil h; subst this
    have : vs = [] := by simpa [RL] using hr
    subst this
    exact ⟨[], rfl, rfl⟩
  | c :: cs, s, vs, h, hr => by
    obtain ⟨y, ys, h1, h2, rfl⟩ := optL_cons h
    obtain ⟨v, vs, rfl, hv, hl⟩ := hr.uncons
    obtain ⟨ns, rfl, rfl⟩ := bytesOf_ok h2 hl
    split at h1
    · rename_i n
      cases h1
      simp only [R] at hv; subst hv
      exact ⟨n :: ns, rfl, rfl⟩
    · cases h1
theorem push_list (ns : List Int) : ∀ (r : List UInt8), ns.foldl (fun r n => r.push (UInt8.ofNat n.toNat)) (⟨⟨r⟩⟩ : ByteArray) = ⟨⟨r ++ ns.map (fun n => UInt8.ofNat n.toNat)⟩⟩ := by
  induction ns with
  | nil => intro r; simp
  | cons n ns ih =>
    intro r
    have e : (⟨⟨r⟩⟩ : ByteArray).push (UInt8.ofNat n.toNat) = ⟨⟨r ++ [UInt8.ofNat n.toNat]⟩⟩ := by apply ByteArray.ext; simp [ByteArray.push]
    simp only [List.foldl_cons, e, ih]
    simp
theorem good_bytes {src d el : TypeId} (x : Operand) (hs : P.underlying src = some (.slice el)) (he : P.underlying el = some (.int .u8)) (hd : P.underlying d = some .string) :
    Good P nt ⟨dst, .convert src d x, ty, pos, after, guard⟩ (with1 P nt x (.r1 rBytes)) := by
  refine goodR1 fun ι ρ m w p r hR hp hr => ?_
  unfold rBytes at hr
  split at hr
  · cases hr
    simp only [R] at hp
    refine ⟨.string .empty, ?_, by simp only [R]; rfl⟩
    simp [execOp, hp, convert, run_underlying hs, run_underlying hd, run_underlying he, Conv.bytesToString]
  · rename_i o off n c es
    obtain ⟨l, bty, ex, hg, hr⟩ := blk_rec hr (by simp)
    obtain ⟨cs, h1, hr⟩ := orec (b := none) hr (by simp)
    obtain ⟨s, h2, hr⟩ := orec (b := none) hr (by simp)
    cases hr
    simp only [R] at hp
    obtain ⟨L, c', hL, hv, _⟩ := hp
    obtain ⟨L', vs, hL', h3, h4⟩ := hR.loadCells hg h1
    rw [hL] at hL'; cases hL'
    obtain ⟨ns, rfl, rfl⟩ := bytesOf_ok h2 h4
    have e := run_bytesToString (P := P) w ⟨L.b, L.base + off, none⟩ n c' ns (by simpa using h3)
    refine ⟨.string (ns.foldl (fun r n => r.push (UInt8.ofNat n.toNat)) ByteArray.empty), ?_, ?_⟩
    · simp [execOp, hv, convert, run_underlying hs, run_underlying hd, run_underlying he, e]
    · simp only [R]
      have := push_list ns []
      simp only [List.nil_append] at this
      exact congrArg Value.string this
  · cases hr
theorem good_unsafe {src d t : TypeId} {n : Nat} (x : Operand) (hs : P.underlying src = some (.pointer t)) (hd : P.underlying d = some .unsafePointer) (hn : sizeT P t = some (n + 1)) :
    Good P nt ⟨dst, .convert src d x, ty, pos, after, guard⟩ (with1 P nt x (.r1 rUnsafe)) := by
  refine goodR1 fun ι ρ m w p r hR hp hr => ?_
  unfold rUnsafe at hr
  obtain ⟨o, off, rfl, hr⟩ := pK_some hr
  obtain ⟨l, bty, ex, hg, hr⟩ := blk_rec hr (by simp)
  obtain ⟨h1, hr⟩ := brec (f := none) hr (by simp)
  cases hr
  simp only [Bool.and_eq_true] at h1
  have hlt := Nat.le_of_ble_eq_true h1.2
  rw [len_eq] at hlt
  have hp' := hp
  simp only [R] at hp
  obtain ⟨L, hL, hv⟩ := hp
  obtain ⟨a, ha⟩ : ∃ a, nth l off = some a := ⟨l[off]'(by omega), by rw [nth_eq]; exact List.getElem?_eq_getElem (by omega)⟩
  obtain ⟨L', v, hL', hc, _⟩ := hR.load hg ha
  rw [hL] at hL'; cases hL'
  obtain ⟨dd, i, _, hi, hsz⟩ := sizeT_some hn
  refine ⟨_, ?_, hp'⟩
  have := run_convert_to_unsafe (P := P) hs hd (by simp [hi, hsz]) hc
  rw [hv]
  simp only [execOp, Sem.run_bind, hv, this, Result.andThen_ok, Sem.run_pure]
theorem good_back {src d u : TypeId} {n : Nat} (x : Operand) (hs : P.underlying src = some .unsafePointer) (hd : P.underlying d = some (.pointer u)) (hn : sizeT P u = some n) :
    Good P nt ⟨dst, .convert src d x, ty, pos, after, guard⟩ (with1 P nt x (.r1 (rBack P u))) := by
  refine goodR1 fun ι ρ m w p r hR hp hr => ?_
  unfold rBack at hr
  obtain ⟨o, off, rfl, hr⟩ := pK_some hr
  obtain ⟨l, bty, ex, hg, hr⟩ := blk_rec hr (by simp)
  obtain ⟨h1, hr⟩ := brec (f := none) hr (by simp)
  cases hr
  simp only [Bool.and_eq_true] at h1
  have hp' := hp
  simp only [R] at hp
  obtain ⟨L, hL, hv⟩ := hp
  obtain ⟨L', hL', hH⟩ := hR.obj _ _ hg
  rw [hL] at hL'; cases hL'
  obtain ⟨c, t, fr, hb, _, _, _, _, _, h5⟩ := hH
  obtain ⟨rfl, e2, e3⟩ := h5 h1.1
  have hsh : w.shape? L.b = some (t, c.size) := by simp [World.shape?, hb]
  refine ⟨_, ?_, hp'⟩
  have e : (convert src d (.pointer (some ⟨L.b, L.base + off, none⟩))).run P w = .ok (.pointer (some ⟨L.b, L.base + off, none⟩)) w := by
    have hl : liesAt P P.depth t (c.size / P.cellsOf t) (L.base + off) u 1 = true := by
      rw [e3, e2, Nat.zero_add]
      have := h1.2
      rw [len_eq] at this
      exact this
    simp [convert, Conv.unsafePointer, Conv.seenAt, viewAt, variablesAt, sizeOf_run hn, run_underlying hs, run_underlying hd, hsh, hl]
  rw [hv]
  simp only [execOp, Sem.run_bind, hv, e, Result.andThen_ok, Sem.run_pure]
/-! maps -/
theorem findM_ok {k : List UInt8} : ∀ {es : List (List UInt8 × AV)} {ents : List MapEntry} (i : Nat), MapR ι es ents →
    (findM k es = none → Instr.findNow .string (.string ⟨⟨k⟩⟩) ents i = some none) ∧ (∀ a, findM k es = some a → ∃ j v, Instr.findNow .string (.string ⟨⟨k⟩⟩) ents i = some (some (i + j, v)) ∧ R ι a v)
  | [], ents, i, h => by
    have : ents = [] := h
    subst this
    exact ⟨fun _ => rfl, fun a ha => by cases ha⟩
  | p :: es, ents, i, h => by
    obtain ⟨e, r, rfl, hk, hv, hr⟩ := h
    obtain ⟨ih1, ih2⟩ := findM_ok (k := k) (i + 1) hr
    have ef : findM k (p :: es) = Bool.casesOn (eqB k p.1) (findM k es) (some p.2) := rfl
    have en : Instr.findNow .string (.string ⟨⟨k⟩⟩) (e :: r) i = if eqB k p.1 then some (some (i, e.val)) else Instr.findNow .string (.string ⟨⟨k⟩⟩) r (i + 1) := by
      have : ((⟨⟨k⟩⟩ : ByteArray) == ⟨⟨p.1⟩⟩) = eqB k p.1 := by rw [beq_toListBytes, toList_mk, toList_mk, eqB_eq]
      simp only [Instr.findNow, Instr.sameNow, hk, this]
      cases eqB k p.1 <;> simp
    rw [ef, en]
    cases hb : eqB k p.1 with
    | true =>
      refine ⟨fun h => (by cases h), fun a ha => ⟨0, e.val, by simp, ?_⟩⟩
      cases ha
      exact hv
    | false =>
      refine ⟨fun h => by simpa using ih1 h, fun a ha => ?_⟩
      obtain ⟨j, v, h1, h2⟩ := ih2 a ha
      exact ⟨j + 1, v, by simp [h1]; omega, h2⟩
theorem checkKey_string {kt : TypeId} (hk : P.underlying kt = some .string) (b : Bool) (n : Nat) (s : ByteArray) (w : World) : (Instr.checkKey b (n + 1) kt (.string s)).run P w = .ok () w := by
  simp [Instr.checkKey, run_underlying hk]
theorem good_lookup {t kt el : TypeId} {z : AV} {ok : Bool} (x k : Operand) (hu : P.underlying t = some (.map kt el)) (hk : P.underlying kt = some .string) (hz : zeroV P el = some z) :
    Good P nt ⟨dst, .lookup t x k ok, ty, pos, after, guard⟩ (with2 P nt x k (.r2 (rLookup ok z))) := by
  rcases with2_cases P nt x k (.r2 (rLookup ok z)) with e | ⟨px, pk, hpx, hpk, e⟩ <;> rw [e]
  · exact Good.bad
  intro ι e a m w hR hS hn r hr
  have hx := ev_ok hR hS hn hpx
  have hy := ev_ok hR hS hn hpk
  generalize ev px e = xa at hx hr
  generalize ev pk e = ka at hy hr
  unfold rLookup at hr
  split at hr
  · rename_i s
    obtain ⟨es, h1, hr⟩ := orec (b := none) hr (by simp)
    simp only [R] at hy
    have hm : ∃ (ents : Array MapEntry), MapR ι es ents.toList ∧ ((∃ L c, a.eval x = .map (some L) ∧ (getObj L).run P w = .ok (.map ents c) w) ∨ (a.eval x = .map none ∧ ents = #[])) := by
      split at h1
      · cases h1
        simp only [R] at hx
        exact ⟨#[], rfl, .inr ⟨hx, rfl⟩⟩
      · rename_i o
        cases hg : m.get o with
        | none => rw [hg] at h1; cases h1
        | some b =>
          rw [hg] at h1
          cases b with
          | map es' =>
            cases h1
            obtain ⟨L, hL, ents, c, hb, hMR⟩ := hR.obj _ _ hg
            simp only [R] at hx
            obtain ⟨L', hL', hv⟩ := hx
            rw [hL] at hL'; cases hL'
            exact ⟨ents, hMR, .inl ⟨L.b, c, hv, by simp [getObj, Sem.run, hb]⟩⟩
          | blk l t ex => cases h1
          | iter s p => cases h1
      · cases h1
    obtain ⟨ents, hMR, hform⟩ := hm
    obtain ⟨q1, q2⟩ := findM_ok (k := s) 0 hMR
    have tup : ∀ (a : AV) (v : Value) (b : Bool), R ι a v → R ι (Bool.rec (motive := fun _ => AV) a (.tuple [a, .bool b]) ok) (if ok then .tuple #[v, .bool b] else v) := by
      intro a v b h
      cases ok with
      | false => exact h
      | true => simp only [R, RL]; exact ⟨_, rfl, _, _, rfl, h, _, _, rfl, rfl, rfl⟩
    have hrun : ∀ (v : Value) (b : Bool), (Instr.findKey kt (.string ⟨⟨s⟩⟩) ents.toList).run P w = .ok (if b then some (0, v) else none) w → True := fun _ _ _ => trivial
    dsimp only at hr
    cases hf : findM s es with
    | none =>
      rw [hf] at hr
      cases hr
      obtain ⟨zv, hz1, hz2⟩ := zeroV_ok (ι := ι) hz w
      refine ⟨_, ?_, tup _ _ _ hz2⟩
      have hfk : (Instr.findKey kt (.string ⟨⟨s⟩⟩) ents.toList).run P w = .ok none w := by
        simp [Instr.findKey, run_underlying hk, q1 hf]
      have e : (Instr.lookup t (a.eval x) (a.eval k) ok).run P w = .ok (if ok then .tuple #[zv, .bool false] else zv) w := by
        rw [hy]
        rcases hform with ⟨L, c, hv, hget⟩ | ⟨hv, rfl⟩
        · rw [hv]
          simp only [Instr.lookup, Sem.run_bind, run_underlying hu, Result.andThen_ok, hget, checkKey_string hk _ 9999, Sem.run_pure, hfk, hz1]
        · rw [hv]
          simp only [Instr.lookup, Sem.run_bind, run_underlying hu, Result.andThen_ok, checkKey_string hk _ 9999, Sem.run_pure, hfk, hz1]
      simp only [execOp, Sem.run_bind, e, Result.andThen_ok, Sem.run_pure]
    | some b =>
      rw [hf] at hr
      cases hr
      obtain ⟨j, v, h2, h3⟩ := q2 b hf
      refine ⟨_, ?_, tup _ _ _ h3⟩
      have hfk : (Instr.findKey kt (.string ⟨⟨s⟩⟩) ents.toList).run P w = .ok (some (0 + j, v)) w := by
        simp only [Instr.findKey, Sem.run_bind, run_underlying hk, Result.andThen_ok, h2, Sem.run_pure]
      have e : (Instr.lookup t (a.eval x) (a.eval k) ok).run P w = .ok (if ok then .tuple #[v, .bool true] else v) w := by
        rw [hy]
        rcases hform with ⟨L, c, hv, hget⟩ | ⟨hv, rfl⟩
        · rw [hv]
          simp only [Instr.lookup, Sem.run_bind, run_underlying hu, Result.andThen_ok, hget, checkKey_string hk _ 9999, Sem.run_pure, hfk]
        · rw [hv]
          simp only [Instr.lookup, Sem.run_bind, run_underlying hu, Result.andThen_ok, checkKey_string hk _ 9999, Sem.run_pure, hfk]
      simp only [execOp, Sem.run_bind, e, Result.andThen_ok, Sem.run_pure]
  · cases hr
end
end Go.K
end
section
namespace Go.K
open Go (Op)
section
variable {P : Program} {nt : Nat} {dst : Option Tmp} {ty : TypeId} {pos : String} {after : Array Edge} {guard : Option (Nat × Bool)} {ι : Emb} {m : Mem} {w : World} {run : Result Next}
theorem HOk.opt {α : Type} {x : Option α} {k : α → HR} (h : ∀ v, x = some v → HOk P ι m w run (k v)) : HOk P ι m w run (Option.rec (motive := fun _ => HR) .fail k x) := by
  cases x with
  | none => trivial
  | some v => exact h v rfl
theorem HOk.bool {b : Bool} {t : HR} (h : b = true → HOk P ι m w run t) : HOk P ι m w run (Bool.rec (motive := fun _ => HR) .fail t b) := by
  cases b with
  | false => trivial
  | true => exact h rfl
theorem HOk.blk {x : Option AObj} {f : List AV → TypeId → Bool → HR} (h : ∀ l ty ex, x = some (.blk l ty ex) → HOk P ι m w run (f l ty ex)) :
    HOk P ι m w run (Option.rec (motive := fun _ => HR) .fail (fun b => AObj.rec (motive := fun _ => HR) f (fun _ => .fail) (fun _ _ => .fail) b) x) := by
  cases x with
  | none => trivial
  | some b => cases b with
    | blk l ty ex => exact h l ty ex rfl
    | map es => trivial
    | iter s p => trivial
theorem goodH {o : Oper} {xs : List Operand} {f : H} (h : ∀ (ι : Emb) (ρ : Operand → Value) (m : Mem) (w : World) (ps : List AV), Rep P ι m w → RL ι ps (xs.map ρ) → HOk P ι m w ((execOp ρ o).run P w) (f m ps)) :
    Good P nt o (withN P nt xs (.hv f)) := by
  rcases withN_cases P nt xs (.hv f) with e | ⟨ods, ho, e⟩ <;> rw [e]
  · exact Good.bad
  · exact fun ι e a m w hR hS hn => h ι a.eval m w _ hR (evs_ok hR hS hn ho)
theorem RL.ext : ∀ {a : List AV} {v : List Value}, a.length = v.length → (∀ (i : Nat) (x : AV) (y : Value), a[i]? = some x → v[i]? = some y → R ι x y) → RL ι a v
  | [], [], _, _ => RL.nil
  | x :: xs, y :: ys, h, hg => RL.cons (hg 0 x y (by simp) (by simp)) (RL.ext (by simpa using h) fun i x y h1 h2 => hg (i + 1) x y (by simpa using h1) (by simpa using h2))
  | [], _ :: _, h, _ => by simp at h
  | _ :: _, [], h, _ => by simp at h
theorem rep_succ {α : Type} (n : Nat) (l : List α) : rep (n + 1) l = l ++ rep n l := by rw [← app_eq]; rfl
theorem rep_length {α : Type} (l : List α) : ∀ n, (rep n l).length = n * l.length
  | 0 => by show ([] : List α).length = _; simp
  | n + 1 => by rw [rep_succ, List.length_append, rep_length l n, Nat.succ_mul, Nat.add_comm]
theorem rep_get {α : Type} (l : List α) : ∀ (n i : Nat), i < n * l.length → (rep n l)[i]? = l[i % l.length]?
  | 0, i, h => by simp at h
  | n + 1, i, h => by
    rw [rep_succ]
    rw [Nat.succ_mul] at h
    by_cases h1 : i < l.length
    · rw [List.getElem?_append_left h1, Nat.mod_eq_of_lt h1]
    · rw [List.getElem?_append_right (by omega), rep_get l n (i - l.length) (by omega)]
      rw [Nat.mod_eq_sub_mod (by omega : l.length ≤ i)]
/-- so many zero values side by side -/
theorem rep_RL {z : List AV} {zs : Array Value} (hz : RL ι z zs.toList) (h0 : 1 ≤ z.length) (n : Nat) : RL ι (rep n z) ((Array.range (n * z.length)).map (zs[· % zs.size]!)).toList := by
  have hl : z.length = zs.size := by have := hz.length; simpa using this
  apply RL.ext
  · simp [rep_length]
  · intro i x y h1 h2
    have hi : i < n * z.length := by
      have := (List.getElem?_eq_some_iff.1 h1).1
      rwa [rep_length] at this
    rw [rep_get z n i hi] at h1
    have hm : i % z.length < z.length := Nat.mod_lt _ (by omega)
    obtain ⟨y', h3, h4⟩ := hz.get h1
    have : y = y' := by
      rw [Array.getElem?_toList, Array.getElem?_map] at h2
      have hr : (Array.range (n * z.length))[i]? = some i := by
        rw [Array.getElem?_eq_getElem (by simpa using hi)]
        simp
      rw [hr] at h2
      simp only [Option.map_some, Option.some.injEq] at h2
      rw [← h2, ← hl]
      rw [Array.getElem?_toList] at h3
      obtain ⟨h5, h6⟩ := Array.getElem?_eq_some_iff.1 h3
      rw [← h6, getElem!_pos zs (i % z.length) h5]
    rw [this]; exact h4
/-! new variables -/
theorem newRow_run (el : TypeId) (cells : Array Value) (w : World) : (Go.newRow el cells).run P w = .ok ⟨w.heap.size, 0, none⟩ (w.alloc (.cells cells el)) := by
  simp [Go.newRow]
theorem good_alloc {t : TypeId} {z : List AV} (hz : zeroOf P t = some z) : Good P nt ⟨dst, .alloc t, ty, pos, after, guard⟩ (.al (fAllocBlk t z) mkPtr []) := by
  intro ι e a m w hR hS hn b hb
  cases hb
  obtain ⟨v, h1, h2, _⟩ := zeroOf_ok (ι := ι) hz w
  refine ⟨.pointer (some ⟨w.heap.size, 0, none⟩), .cells ⟨v.cells.toList⟩ t, 0, v.cells.toList.length, ?_, ?_, ?_⟩
  · simp [execOp, Instr.alloc, h1, newVar, newRow_run]
  · have hl := h2.length
    exact Holds.cells (by rw [hl, List.take_length]; exact h2) (by omega) (fun _ => hl.symm)
  · intro ι' n hn
    simp only [mkPtr, R]
    exact ⟨_, hn, rfl⟩
theorem evs_one {x : Operand} {od : Od} (h : odOf P nt x = some od) : odsOf P nt [x] = some [od] := by
  show Option.rec (motive := fun _ => Option (List Od)) none (fun y => some [y]) (odOf P nt x) = some [od]
  rw [h]
theorem good_box {t : TypeId} (x : Operand) : Good P nt ⟨dst, .box t x, ty, pos, after, guard⟩ (with1 P nt x fun a => .al (fBoxBlk t) mkPtr [a]) := by
  rcases with1_cases P nt x (fun a => .al (fBoxBlk t) mkPtr [a]) with e | ⟨od, ho, e⟩ <;> rw [e]
  · exact Good.bad
  intro ι e a m w hR hS hn b hb
  have hv := ev_ok hR hS hn ho
  cases hb
  have h2 := hv.cells
  have hl := h2.length
  refine ⟨.pointer (some ⟨w.heap.size, 0, none⟩), .cells ⟨(a.eval x).cells.toList⟩ t, 0, (a.eval x).cells.toList.length, ?_, ?_, ?_⟩
  · simp [execOp, Instr.box, newVar, newRow_run]
  · exact Holds.cells (l := (ev od e).cells) (by rw [hl, List.take_length]; exact h2) (Nat.le_of_eq hl) (fun _ => hl.symm)
  · intro ι' n hn
    simp only [mkPtr, R]
    exact ⟨_, hn, rfl⟩
theorem good_buildSlice {t el : TypeId} {n s : Nat} {z : List AV} {ps : List (Nat × Nat)} {parts : Array (Nat × Operand)} (hu : P.underlying t = some (.slice el)) (hz : zeroOf P el = some z) (hs : sizeT P el = some s)
    (hzl : z.length = s) (h1 : 1 ≤ s) (hb : n * s ≤ 16777216) (hps : optL (fun i => some (Nat.mul i s, s)) (mapL (·.1) parts.toList) = some ps) :
    Good P nt ⟨dst, .buildSlice t n parts, ty, pos, after, guard⟩ (withN P nt (mapL (·.2) parts.toList) (.al (fRowBlk el (rep n z) ps) (mkSl n s))) := by
  rcases withN_cases P nt (mapL (·.2) parts.toList) (.al (fRowBlk el (rep n z) ps) (mkSl n s)) with e | ⟨ods, ho, e⟩ <;> rw [e]
  · exact Good.bad
  intro ι e a m w hR hS hn b hb'
  have hus := evs_ok hR hS hn ho
  obtain ⟨cs, g1, g2⟩ := orec (b := none) hb' (by simp)
  cases g2
  obtain ⟨zv, hzr, hzl', _⟩ := zeroOf_ok (ι := ι) hz w
  rw [mapL_eq] at hps hus
  have hrep := rep_RL (zs := zv.cells) hzl' (by omega) n
  obtain ⟨c', h3, h4⟩ := fill_ok (fun i => some (Nat.mul i s, s)) _ ps _ _ (rep n z) cs _ hps g1 hus hrep
  rw [← parts_zip] at h3
  have hl := h4.length
  have hsz : cs.length = n * s := by
    have hle : ∀ (ps : List (Nat × Nat)) (us : List AV) (z z' : List AV), fillAll ps us z = some z' → z'.length = z.length := by
      intro ps
      induction ps with
      | nil => intro us z z' h; cases us with
        | nil => have h' : some z = some z' := h; cases h'; rfl
        | cons => cases h
      | cons p ps ih =>
        intro us z z' h
        cases us with
        | nil => cases h
        | cons u us =>
          obtain ⟨_, h⟩ := brec (f := none) h (by simp)
          obtain ⟨ds, g, h⟩ := orec (b := none) h (by simp)
          obtain ⟨q1, q2, q3⟩ := over_some g
          rw [ih us ds z' h]
          by_cases hne : u.cells = []
          · rw [q2 hne]
          · rw [q3 hne]; have := q1 hne; simp; omega
    rw [hle _ _ _ _ g1, rep_length, hzl]
  refine ⟨.slice (some ⟨w.heap.size, 0, none⟩) n n, .cells ⟨c'.toList⟩ el, 0, c'.toList.length, ?_, ?_, ?_⟩
  · have hle : ¬ (n * s > 2 ^ 24) := by simp; omega
    have e : (Instr.buildSlice t n (parts.map fun (i, x) => (i, a.eval x))).run P w = .ok (.slice (some ⟨w.heap.size, 0, none⟩) n n) (w.alloc (.cells c' el)) := by
      rw [hzl] at h3
      unfold Instr.buildSlice
      by_cases h0 : n * s = 0
      · have hr0 : Array.range 0 = #[] := rfl
        have h3' : Instr.fill (fun i => some (i * s, s)) #[] (parts.toList.map fun p => (p.1, a.eval p.2)) = some c' := by rw [h0, hr0] at h3; simpa using h3
        simp [run_underlying hu, sizeOf_run hs, h0, hr0, h3', newRow_run]
      · have h3' : Instr.fill (fun i => some (i * s, s)) (Array.map (fun x => zv.cells[x % zv.cells.size]!) (Array.range (n * s))) (parts.toList.map fun p => (p.1, a.eval p.2)) = some c' := h3
        simp [run_underlying hu, sizeOf_run hs, hle, h0, hzr]
        rw [h3']
        simp [newRow_run]
    simp only [execOp, Sem.run_bind, e, Result.andThen_ok, Sem.run_pure]
  · exact Holds.cells (by rw [hl, List.take_length]; exact h4) (by omega) (fun _ => hl.symm)
  · intro ι' k hk
    simp only [mkSl, R]
    exact ⟨_, n, hk, rfl, Nat.le_refl _, fun k hk => by cases hk; rfl, by simp⟩
end
end Go.K
end
section
namespace Go.K
open Go (Op)
section
variable {P : Program} {nt : Nat} {dst : Option Tmp} {ty : TypeId} {pos : String} {after : Array Edge} {guard : Option (Nat × Bool)} {ι : Emb} {m : Mem} {w : World} {run : Result Next}
theorem good_store {t : TypeId} {n : Nat} (x y : Operand) (hs : sizeT P t = some n) : Good P nt ⟨dst, .store t x y, ty, pos, after, guard⟩ (withN P nt [x, y] (.hv (hStore n))) := by
  refine goodH fun ι ρ m w ps hR hps => ?_
  unfold hStore
  split
  · rename_i o off v
    obtain ⟨p, qs, e1, hp, t1⟩ := hps.ofCons
    obtain ⟨q, e2, hv⟩ := t1.of1
    subst e2
    simp only [List.cons.injEq, and_true] at e1
    obtain ⟨rfl, rfl⟩ := e1
    refine HOk.bool fun h1 => ?_
    refine HOk.blk fun l bty ex hg => ?_
    refine HOk.opt fun l' ho => ?_
    simp only [Bool.and_eq_true] at h1
    obtain ⟨h1, h2, h3⟩ := h1
    have h2 := Nat.eq_of_beq_eq_true h2
    rw [len_eq] at h2
    rw [allB_eq] at h3
    have hro := (Mem.rw_iff m o).1 h1
    simp only [R] at hp
    obtain ⟨L, hL, hpv⟩ := hp
    have hc := hv.cells
    obtain ⟨L', w', hL', hst, hR', hE⟩ := hR.over hg hro ho hc h3
    rw [hL] at hL'; cases hL'
    have hsz : (ρ y).cells.size = n := by have := hc.length; simp at this; omega
    refine ⟨w', ι, hR', hE, .inl ⟨by simp, ?_⟩⟩
    have e : (Instr.storeAt t (ρ x) (ρ y)).run P w = .ok () w' := by
      rw [hpv]
      simp only [Instr.storeAt, Instr.sureAddr, storeVar, Sem.run_bind, Sem.run_pure, Result.andThen_ok, sizeOf_run hs, hsz, ne_eq, not_true_eq_false, if_false]
      exact hst
    simp only [execOp, Sem.run_bind, e, Result.andThen_ok, Sem.run_pure]
  · trivial
/-! maps -/
theorem good_makeMap {t : TypeId} : Good P nt ⟨dst, .makeMap t none, ty, pos, after, guard⟩ (.hv hMakeMap []) := by
  intro ι e a m w hR hS hn
  show HOk P ι m w _ (hMakeMap m _)
  unfold hMakeMap
  rw [Mem.tell_eq]
  obtain ⟨h1, h2⟩ := hR.new (x := .map []) (ob := .map #[] 0) (base := 0) (sz := 0) (fun ι' _ => ⟨#[], 0, by rw [alloc_heap, if_pos rfl], rfl⟩)
  refine ⟨by simp, .map (some w.heap.size), w.alloc (.map #[] 0), _, ?_, h1, h2, ?_⟩
  · simp [execOp, Instr.makeMap]
  · simp only [R]
    exact ⟨_, upd_same _ _, rfl⟩
theorem setM_ok {k : List UInt8} {v : AV} {vv : Value} (hv : R ι v vv) : ∀ {es : List (List UInt8 × AV)} {ents : List MapEntry} (i : Nat), MapR ι es ents →
    (Instr.findNow .string (.string ⟨⟨k⟩⟩) ents i = some none ∧ ∀ c, MapR ι (setM k v es) (ents ++ [{ key := .string ⟨⟨k⟩⟩, val := vv, born := c }])) ∨
    (∃ j u, Instr.findNow .string (.string ⟨⟨k⟩⟩) ents i = some (some (i + j, u)) ∧ (∃ e, ents[j]? = some e ∧ e.key = .string ⟨⟨k⟩⟩) ∧ MapR ι (setM k v es) (ents.modify j fun e => { e with key := .string ⟨⟨k⟩⟩, val := vv }))
  | [], ents, i, h => by
    have : ents = [] := h
    subst this
    exact .inl ⟨rfl, fun c => ⟨_, [], rfl, rfl, hv, rfl⟩⟩
  | p :: es, ents, i, h => by
    obtain ⟨e, r, rfl, hk, hpv, hr⟩ := h
    have ef : setM k v (p :: es) = Bool.casesOn (eqB k p.1) (p :: setM k v es) ((k, v) :: es) := rfl
    have en : Instr.findNow .string (.string ⟨⟨k⟩⟩) (e :: r) i = if eqB k p.1 then some (some (i, e.val)) else Instr.findNow .string (.string ⟨⟨k⟩⟩) r (i + 1) := by
      have : ((⟨⟨k⟩⟩ : ByteArray) == ⟨⟨p.1⟩⟩) = eqB k p.1 := by rw [beq_toListBytes, toList_mk, toList_mk, eqB_eq]
      simp only [Instr.findNow, Instr.sameNow, hk, this]
      cases eqB k p.1 <;> simp
    rw [ef, en]
    cases hb : eqB k p.1 with
    | true =>
      have hkp : k = p.1 := by rw [eqB_eq] at hb; simpa using hb
      exact .inr ⟨0, e.val, by simp, ⟨e, rfl, by rw [hk, hkp]⟩, ⟨{ e with key := .string ⟨⟨k⟩⟩, val := vv }, r, by simp, rfl, hv, hr⟩⟩
    | false =>
      rcases setM_ok hv (i + 1) hr with ⟨h1, h2⟩ | ⟨j, u, h1, h2, h3⟩
      · exact .inl ⟨by simp [h1], fun c => ⟨e, _, rfl, hk, hpv, h2 c⟩⟩
      · exact .inr ⟨j + 1, u, by simp [h1]; omega, by simpa using h2, ⟨e, _, by simp, hk, hpv, h3⟩⟩
theorem setObj_map {b : Nat} {es : Array MapEntry} {c : Nat} (o : Obj) (h : w.heap[b]? = some (.map es c)) : (setObj b o).run P w = .ok () (atB w b o) := by
  simp [setObj, Sem.run, atB, h]
theorem setObj_iter {b : Nat} {s : ByteArray} {c : Nat} (o : Obj) (h : w.heap[b]? = some (.stringIter s c)) : (setObj b o).run P w = .ok () (atB w b o) := by
  simp [setObj, Sem.run, atB, h]
theorem good_mapSet {t kt el : TypeId} (x k v : Operand) (hu : P.underlying t = some (.map kt el)) (hk : P.underlying kt = some .string) :
    Good P nt ⟨dst, .mapUpdate t x k v, ty, pos, after, guard⟩ (withN P nt [x, k, v] (.hv hMapSet)) := by
  refine goodH fun ι ρ m w ps hR hps => ?_
  unfold hMapSet
  split
  · rename_i o s va
    obtain ⟨p, qs, e1, hp, t1⟩ := hps.ofCons
    obtain ⟨q, qs', e2, hq, t2⟩ := t1.ofCons
    obtain ⟨z, e3, hz⟩ := t2.of1
    subst e3; subst e2
    simp only [List.cons.injEq, and_true] at e1
    obtain ⟨rfl, rfl, rfl⟩ := e1
    refine HOk.bool fun h1 => ?_
    have hro := (Mem.rw_iff m o).1 h1
    cases hg : m.get o with
    | none => trivial
    | some b =>
      cases b with
      | blk l t ex => trivial
      | iter s p => trivial
      | map es =>
        simp only [R] at hp hq
        obtain ⟨L, hL, hpv⟩ := hp
        obtain ⟨L', hL', ents, c, hb, hMR⟩ := hR.obj _ _ hg
        rw [hL] at hL'; cases hL'
        have hlt := lt_of_block hb
        have hget : (getObj L.b).run P w = .ok (.map ents c) w := by simp [getObj, Sem.run, hb]
        have fin : ∀ (ents' : Array MapEntry) (c' : Nat), MapR ι (setM s va es) ents'.toList → (Instr.mapUpdate t (ρ x) (ρ k) (ρ v)).run P w = .ok () (atB w L.b (.map ents' c')) →
            HOk P ι m w ((execOp ρ ⟨dst, .mapUpdate t x k v, ty, pos, after, guard⟩).run P w) (.skip (m.put o (.map (setM s va es)))) := by
          intro ents' c' hM he
          refine ⟨atB w L.b (.map ents' c'), ι, hR.set hg hL hro ⟨ents', c', by rw [atB_heap, if_pos ⟨rfl, hlt⟩], hM⟩, Ext.set hg hL hro, .inl ⟨by simp, ?_⟩⟩
          simp only [execOp, Sem.run_bind, he, Result.andThen_ok, Sem.run_pure]
        rcases setM_ok (k := s) hz 0 hMR with ⟨h2, h3⟩ | ⟨j, u, h2, ⟨en, h4, h5⟩, h3⟩
        · refine fin (ents.push { key := .string ⟨⟨s⟩⟩, val := ρ v, born := c }) (c + 1) (by simpa using h3 c) ?_
          rw [hpv, hq]
          have hfk : (Instr.findKey kt (.string ⟨⟨s⟩⟩) ents.toList).run P w = .ok none w := by simp [Instr.findKey, run_underlying hk, h2]
          simp only [Instr.mapUpdate, Sem.run_bind, run_underlying hu, Result.andThen_ok, hget, checkKey_string hk _ 9999, hfk, setObj_map _ hb]
        · refine fin (ents.modify j fun e => { e with key := .string ⟨⟨s⟩⟩, val := ρ v }) c (by simpa using h3) ?_
          rw [hpv, hq]
          have hfk : (Instr.findKey kt (.string ⟨⟨s⟩⟩) ents.toList).run P w = .ok (some (0 + j, u)) w := by
            simp only [Instr.findKey, Sem.run_bind, run_underlying hk, Result.andThen_ok, h2, Sem.run_pure]
          have hen : ents[j]? = some en := by simpa using h4
          have hks : (Instr.keyThatStays en.key (.string ⟨⟨s⟩⟩)).run P w = .ok (.string ⟨⟨s⟩⟩) w := by
            have : Instr.sameBits 10000 en.key (.string ⟨⟨s⟩⟩) = true := by
              rw [h5]
              have : ∀ n, Instr.sameBits n (.string ⟨⟨s⟩⟩) (.string ⟨⟨s⟩⟩) = true := by
                intro n; simp [Instr.sameBits, beq_toListBytes]
              exact this _
            simp [Instr.keyThatStays, this]
          simp only [Instr.mapUpdate, Sem.run_bind, run_underlying hu, Result.andThen_ok, hget, checkKey_string hk _ 9999, hfk, Nat.zero_add, hen, Option.map_some, Option.getD_some, hks, setObj_map _ hb]
  · trivial
/-! ranging over strings -/
theorem good_range {t : TypeId} (x : Operand) (hu : P.underlying t = some .string) : Good P nt ⟨dst, .range t x, ty, pos, after, guard⟩ (withN P nt [x] (.hv hRange)) := by
  refine goodH fun ι ρ m w ps hR hps => ?_
  unfold hRange
  split
  · rename_i s
    obtain ⟨p, e1, hp⟩ := hps.of1
    cases e1
    rw [Mem.tell_eq]
    simp only [R] at hp
    obtain ⟨h1, h2⟩ := hR.new (x := .iter s 0) (ob := .stringIter ⟨⟨s⟩⟩ 0) (base := 0) (sz := 0) (fun ι' _ => ⟨rfl, by rw [alloc_heap, if_pos rfl]⟩)
    refine ⟨by simp, .pointer (some ⟨w.heap.size, 0, none⟩), w.alloc (.stringIter ⟨⟨s⟩⟩ 0), _, ?_, h1, h2, ?_⟩
    · simp [execOp, Instr.range, hp, run_underlying hu]
    · simp only [R]
      exact ⟨_, upd_same _ _, rfl⟩
  · trivial
theorem good_next (x : Operand) : Good P nt ⟨dst, .next x true, ty, pos, after, guard⟩ (withN P nt [x] (.hv hNext)) := by
  refine goodH fun ι ρ m w ps hR hps => ?_
  unfold hNext
  split
  · rename_i o
    obtain ⟨p, e1, hp⟩ := hps.of1
    cases e1
    cases hg : m.get o with
    | none => trivial
    | some b =>
      cases b with
      | blk l t ex => trivial
      | map es => trivial
      | iter s pos' =>
        simp only [R] at hp
        obtain ⟨L, hL, hpv⟩ := hp
        obtain ⟨L', hL', h0, hb⟩ := hR.obj _ _ hg
        rw [hL] at hL'; cases hL'
        have hlt := lt_of_block hb
        rw [h0] at hpv
        have hget : (getObj L.b).run P w = .ok (.stringIter ⟨⟨s⟩⟩ pos') w := by simp [getObj, Sem.run, hb]
        show HOk P ι m w _ (Bool.rec _ _ (Nat.ble (Nat.succ pos') (len s)))
        rw [len_eq]
        cases hle : Nat.ble (Nat.succ pos') s.length with
        | false =>
          have hnl : ¬ pos' < s.length := by intro h; have := Nat.ble_eq_true_of_le (Nat.succ_le_of_lt h); rw [hle] at this; cases this
          refine ⟨rfl, .tuple #[.bool false], w, ι, ?_, hR, Ext.refl _ _ _, ?_⟩
          · have e : (Instr.next (ρ x) true ty).run P w = .ok (.tuple #[.bool false]) w := by
              rw [hpv]
              simp only [Instr.next, Sem.run_bind, hget, Result.andThen_ok, str_size, hnl, if_false, Sem.run_pure]
            simp only [execOp, Sem.run_bind, e, Result.andThen_ok, Sem.run_pure]
          · simp only [R, RL]; exact ⟨_, rfl, _, _, rfl, rfl, rfl⟩
        | true =>
          have hl : pos' < s.length := Nat.le_of_ble_eq_true hle
          refine HOk.bool fun h1 => ?_
          have hro := (Mem.rw_iff m o).1 h1
          obtain ⟨c, wd⟩ : ∃ c wd, Utf8.decode ⟨⟨s⟩⟩ pos' = (c, wd) := ⟨_, _, rfl⟩
          obtain ⟨wd, hd⟩ := wd
          rw [hd]
          refine ⟨by simp, .tuple #[.bool true, goInt pos', .int .i32 c], atB w L.b (.stringIter ⟨⟨s⟩⟩ (pos' + wd)), ι, ?_, hR.set hg hL hro ⟨h0, by rw [atB_heap, if_pos ⟨rfl, hlt⟩]; rfl⟩, Ext.set hg hL hro, ?_⟩
          · have e : (Instr.next (ρ x) true ty).run P w = .ok (.tuple #[.bool true, goInt pos', .int .i32 c]) (atB w L.b (.stringIter ⟨⟨s⟩⟩ (pos' + wd))) := by
              rw [hpv]
              simp only [Instr.next, Sem.run_bind, hget, Result.andThen_ok, str_size, hl, if_true, hd, setObj_iter _ hb, Sem.run_pure]
            simp only [execOp, Sem.run_bind, e, Result.andThen_ok, Sem.run_pure]
          · simp only [R, RL]; exact ⟨_, rfl, _, _, rfl, rfl, _, _, rfl, rfl, _, _, rfl, rfl, rfl⟩
  · trivial
/-! new rows -/
theorem good_makeSlice {t el : TypeId} {s : Nat} {z : List AV} (l c : Operand) (hu : P.underlying t = some (.slice el)) (hz : zeroOf P el = some z) (hs : sizeT P el = some s) (hzl : z.length = s) (h1 : 1 ≤ s) (hsm : smallT P el = true) :
    Good P nt ⟨dst, .makeSlice t l c, ty, pos, after, guard⟩ (withN P nt [l, c] (.hv (hMakeSlice el s z))) := by
  refine goodH fun ι ρ m w ps hR hps => ?_
  unfold hMakeSlice
  split
  · rename_i kl nl kc nc
    obtain ⟨p, qs, e1, hp, t1⟩ := hps.ofCons
    obtain ⟨q, e2, hq⟩ := t1.of1
    subst e2
    simp only [List.cons.injEq, and_true] at e1
    obtain ⟨rfl, rfl⟩ := e1
    refine HOk.bool fun h2 => ?_
    simp only [Bool.and_eq_true] at h2
    have hlc := Nat.le_of_ble_eq_true h2.1
    have hcs : nc * s ≤ 16777216 := Nat.le_of_ble_eq_true h2.2
    rw [Mem.tell_eq]
    simp only [R] at hp hq
    obtain ⟨zv, hzr, hzl', i, hi, hiz⟩ := zeroOf_ok (ι := ι) hz w
    have hsm' : i.bytes ≤ 8192 := by unfold smallT at hsm; rw [hi] at hsm; simp only [Bool.and_eq_true] at hsm; exact Nat.le_of_ble_eq_true hsm.2
    obtain ⟨d, i', _, hi', his⟩ := sizeT_some hs
    rw [hi] at hi'; cases hi'
    have hnc : nc ≤ 16777216 := Nat.le_trans (Nat.le_mul_of_pos_right nc (by omega)) hcs
    have hrun := run_makeSlice (P := P) w t el i zv hu hi hiz kl kc (Int.ofNat nl) (Int.ofNat nc) (Int.natCast_nonneg _) (Int.ofNat_le.2 hlc) (by rw [his]; exact hcs)
      (by have : i.bytes * nc ≤ 8192 * 16777216 := Nat.mul_le_mul hsm' hnc
          have h3 : ((i.bytes * nc : Nat) : Int) ≤ ((281474976710656 : Nat) : Int) := Int.ofNat_le.2 (by omega)
          simpa using h3) (by have := Int.ofNat_le.2 hnc; simp at this ⊢; omega)
    have hrep := rep_RL (zs := zv.cells) hzl' (by omega) nc
    rw [hzl] at hrep
    have hml : madeCells zv.cells (nc * s) = (Array.range (nc * s)).map (zv.cells[· % zv.cells.size]!) := rfl
    have hlen := hrep.length
    obtain ⟨g1, g2⟩ := hR.new (x := .blk (rep nc z) el true) (ob := .cells ⟨(madeCells zv.cells (nc * s)).toList⟩ el) (base := 0) (sz := (madeCells zv.cells (nc * s)).toList.length)
      (Holds.cells (by rw [hml, hlen, List.take_length]; exact hrep) (Nat.le_of_eq (by rw [hml]; exact hlen)) (fun _ => by rw [hml]; exact hlen.symm))
    refine ⟨by simp, .slice (some ⟨w.heap.size, 0, none⟩) nl nc, _, _, ?_, g1, g2, ?_⟩
    · have hrun' : (Instr.makeSlice t (ρ l) (ρ c)).run P w = .ok (.slice (some ⟨w.heap.size, 0, none⟩) nl nc) (w.alloc (.cells ⟨(madeCells zv.cells (nc * s)).toList⟩ el)) := by
        rw [hp, hq, hrun, his]
        rfl
      simp only [execOp, Sem.run_bind, hrun', Result.andThen_ok, Sem.run_pure]
    · simp only [R]
      exact ⟨_, nc, upd_same _ _, rfl, hlc, fun k hk => by cases hk; rfl, by simp⟩
  · trivial
/-! unsafe -/
theorem arr_of {args : Array Operand} {ρ : Operand → Value} {vs : List Value} (h : args.toList.map ρ = vs) : args.map ρ = vs.toArray := by
  apply Array.ext'
  simp [h]
theorem good_sliceData {args : Array Operand} {ts : Array TypeId} : Good P nt ⟨dst, .call ⟨.builtin .unsafeSliceData, args, ts⟩, ty, pos, after, guard⟩ (withN P nt args.toList (.hv hSliceData)) := by
  refine goodH fun ι ρ m w ps hR hps => ?_
  obtain ⟨cs, hb⟩ := exec_builtin (P := P) (dst := dst) (ty := ty) (pos := pos) (after := after) (guard := guard) ρ .unsafeSliceData args ts w
  generalize hvs : args.toList.map ρ = vs at hps
  have ha := arr_of hvs
  unfold hSliceData
  split
  · rename_i o off n c es
    obtain ⟨v, vs', e1, hv, t1⟩ := hps.uncons
    have : vs' = [] := by simpa [RL] using t1
    subst this; subst e1
    have hv' := hv
    simp only [R] at hv
    obtain ⟨L, c', hL, rfl, _, hc, _⟩ := hv
    have := hc _ rfl; subst this
    refine ⟨rfl, .pointer (some ⟨L.b, L.base + off, none⟩), w, ι, ?_, hR, Ext.refl _ _ _, by simp only [R]; exact ⟨L, hL, rfl⟩⟩
    rw [hb, ha]
    simp [builtin, Lib.run_unsafeSliceData_row (P := P) w _ _ _ _ _ (Nat.succ_ne_zero _)]
  · rename_i o off n es
    obtain ⟨v, vs', e1, hv, t1⟩ := hps.uncons
    have : vs' = [] := by simpa [RL] using t1
    subst this; subst e1
    simp only [R] at hv
    obtain ⟨L, c', hL, rfl, hn, _⟩ := hv
    refine ⟨rfl, .pointer (some ⟨L.b, L.base + off, none⟩), w, ι, ?_, hR, Ext.refl _ _ _, by simp only [R]; exact ⟨L, hL, rfl⟩⟩
    rw [hb, ha]
    have h0 : c' ≠ 0 := by omega
    simp [builtin, Lib.run_unsafeSliceData_row (P := P) w _ _ _ _ _ h0]
  · obtain ⟨v, vs', e1, hv, t1⟩ := hps.uncons
    have : vs' = [] := by simpa [RL] using t1
    subst this; subst e1
    simp only [R] at hv
    subst hv
    refine ⟨rfl, .pointer none, w, ι, ?_, hR, Ext.refl _ _ _, by simp [R]⟩
    rw [hb, ha]
    simp [builtin, Lib.run_unsafeSliceData_nil]
  · trivial
/-! panics and what is deferred -/
theorem good_panic (x : Operand) : Good P nt ⟨dst, .panic x, ty, pos, after, guard⟩ (withN P nt [x] (.hv hPanic)) := by
  refine goodH fun ι ρ m w ps hR hps => ?_
  unfold hPanic
  split
  · rename_i t v
    obtain ⟨p, e1, hp⟩ := hps.of1
    cases e1
    have hp' := hp
    simp only [R] at hp
    obtain ⟨u, hu, _⟩ := hp
    exact ⟨rfl, _, by simp [execOp, hu, Instr.panic], hu ▸ hp'⟩
  · trivial
theorem good_defer {args : Array Operand} {ts : Array TypeId} (f : Operand) : Good P nt ⟨dst, .defer ⟨.value f, args, ts⟩, ty, pos, after, guard⟩ (withN P nt (f :: args.toList) (.hv hDefer)) := by
  refine goodH fun ι ρ m w ps hR hps => ?_
  unfold hDefer
  split
  · rename_i g first caps vs
    obtain ⟨p, qs, e1, hp, t1⟩ := hps.ofCons
    simp only [List.cons.injEq] at e1
    obtain ⟨rfl, rfl⟩ := e1
    obtain ⟨n, ro, objs, d⟩ := m
    simp only [R] at hp
    obtain ⟨xs, ys, hf, hx, hy⟩ := hp
    refine ⟨w, ι, ?_, ?_, .inr ⟨_, { target := .fn (.func g) ⟨ys⟩, args := ⟨xs⟩ ++ args.map ρ }, rfl, ⟨_, _, rfl, ?_⟩, ?_⟩⟩
    · exact ⟨hR.obj, hR.inj, hR.gl, hR.fresh, hR.low, hR.glob, hR.wr⟩
    · exact ⟨Emb.le_refl _, fun _ _ => rfl, Nat.le_refl _, rfl, Nat.le_refl _, rfl, rfl, rfl, fun o x L h1 h2 h3 => .inr ⟨o, x, L, h1, h2, h3, rfl⟩, fun _ _ _ => rfl, fun _ x h _ => ⟨x, h⟩⟩
    · rw [app_eq, app_eq]
      simp only [Array.toList_append, Array.toList_map]
      rw [List.append_assoc]
      exact hx.app (t1.app hy)
    · simp [execOp, resolve, hf, Deferred.ofValue]
  · trivial
end
end Go.K
end
section
namespace Go.K
open Go (Op)
section
variable {P : Program} {nt : Nat} {dst : Option Tmp} {ty : TypeId} {pos : String} {after : Array Edge} {guard : Option (Nat × Bool)} {ι : Emb} {m : Mem} {w : World} {run : Result Next}
theorem Rep.killAt {o : Nat} {x : AObj} {L : Loc} {w' : World} (h : Rep P ι m w) (hg : m.get o = some x) (hL : ι o = some L) (hro : m.ro ≤ o) (hs : w'.heap.size = w.heap.size) (hk : ∀ b, b ≠ L.b → w'.heap[b]? = w.heap[b]?) : Rep P ι (m.kill o) w' where
  obj p z hp := by
    rw [Mem.get_kill] at hp
    split at hp
    · cases hp
    · rename_i e
      obtain ⟨K, hK, hH⟩ := h.obj p z hp
      refine ⟨K, hK, hH.mono (Emb.le_refl _) (hk _ fun e' => e (h.inj p o z x K L hp hg hK hL e' (.inr hro)))⟩
  gl g z hz := by
    obtain ⟨h1, h2⟩ := h.gl g z hz
    rw [Mem.get_kill, if_neg (by omega)]
    exact ⟨h1, by simpa using h2⟩
  wr p x L hp hr hL := by
    rw [Mem.get_kill] at hp
    split at hp
    · cases hp
    · exact h.wr p x L hp (by simpa using hr) hL
  inj p q z u K J hp hq hK hJ e he := by
    rw [Mem.get_kill] at hp hq
    split at hp
    · cases hp
    · split at hq
      · cases hq
      · exact h.inj p q z u K J hp hq hK hJ e (by simpa using he)
  fresh p hp := h.fresh p (by simpa using hp)
  low p K hK := by rw [hs]; exact h.low p K hK
  glob := h.glob
theorem Ext.killAt {o : Nat} {x : AObj} {L : Loc} {w' : World} (hg : m.get o = some x) (hL : ι o = some L) (hro : m.ro ≤ o) (hs : w'.heap.size = w.heap.size) (hk : ∀ b, b ≠ L.b → w'.heap[b]? = w.heap[b]?)
    (h1 : w'.tape = w.tape) (h2 : w'.os = w.os) (h3 : w'.output = w.output) : Ext ι m w ι (m.kill o) w' where
  le := Emb.le_refl _
  old _ _ := rfl
  next := by simp
  ro := by simp
  size := by rw [hs]; exact Nat.le_refl _
  tape := h1
  os := h2
  output := h3
  own p z K hp hr hK := by
    rw [Mem.get_kill] at hp
    split at hp
    · cases hp
    · exact .inr ⟨p, z, K, hp, hr, hK, rfl⟩
  kept b hb hn := hk b fun e => hn o x L hg hro hL e.symm
  live p z hp _ := by
    rw [Mem.get_kill] at hp
    split at hp
    · cases hp
    · exact ⟨z, hp⟩
/-! unsafe.String -/
theorem loadBytes_ns : ∀ (ns : List Int) (a : Addr) (acc : ByteArray), (∀ j n, ns[j]? = some n → w.cell? (a.add j) = some (.int .u8 n)) →
    (loadBytes a acc ns.length).run P w = .ok (ns.foldl (fun r n => r.push (UInt8.ofNat n.toNat)) acc) w
  | [], a, acc, _ => by simp [loadBytes]
  | x :: l, a, acc, h => by
    have h0 : w.cell? a = some (.int .u8 x) := by
      have := h 0 x rfl
      simpa [Addr.add] using this
    have ih := loadBytes_ns l (a.add 1) (acc.push (UInt8.ofNat x.toNat)) (fun j y hy => by
      have := h (j + 1) y (by simpa using hy)
      have e : (a.add 1).add j = a.add (j + 1) := by
        unfold Addr.add
        by_cases hj : j = 0
        · subst hj; simp
        · simp [hj]; omega
      rw [e]; exact this)
    have hx : x.toNat.toUInt8 = UInt8.ofNat x.toNat := rfl
    simp only [List.length_cons, loadBytes, Sem.run_bind, run_load, h0, Result.andThen, hx]
    rw [ih]
    rfl
theorem liesAt_row {e : TypeId} (hc : P.cellsOf e = 1) (count off n : Nat) (hn : off + n ≤ count) : liesAt P P.depth e count off e n = true := by
  have hd : P.depth = (2 * (P.types.size + Made.depth) + 1) + 1 := rfl
  rw [hd]
  simp only [liesAt, Bool.or_eq_true]
  left
  rw [hd]
  simp [rowAt, hc, hn, sameLayout, Nat.mod_one]
theorem string_run {ts : Array TypeId} {pt el : TypeId} {k : IntKind} {n : Nat} {a : Addr} {s : ByteArray} (hts : ts[0]? = some pt) (hp : P.underlying pt = some (.pointer el)) (hn : n ≠ 0) (h63 : n ≤ 9223372036854775807)
    (hv : (variablesAt a el n).run P w = .ok true w) (hl : (loadBytes a .empty n).run P w = .ok s w) (rt : TypeId) :
    (Builtin.unsafeString_ ts rt #[.pointer (some a), .int k (Int.ofNat n)]).run P w = .ok (.string s) (w.freeze a n) := by
  show (Bind.bind (asInt (.int k (Int.ofNat n))) _ : Sem Value).run P w = _
  have hmax : IntKind.i64.max = 9223372036854775807 := rfl
  have hneg : ¬ (n : Int) < 0 := by omega
  have h63' : ¬ (9223372036854775807 : Int) < (n : Int) := by omega
  have hn' : ¬ (n : Int) = 0 := by omega
  simp only [Int.ofNat_eq_natCast] at *
  simp [asInt, asIntOf, hmax, h63', hn, hts, elemOf, run_underlying hp, hv, hl]
  intro h
  exact absurd h hneg
theorem freeze_heap (w : World) (a : Addr) (n b : Nat) (h : b ≠ a.block) : (w.freeze a n).heap[b]? = w.heap[b]? := by
  unfold World.freeze
  split
  · rfl
  · simp only [Array.getElem?_modify]
    rw [if_neg (Ne.symm h)]
theorem freeze_size (w : World) (a : Addr) (n : Nat) : (w.freeze a n).heap.size = w.heap.size := by
  unfold World.freeze
  split
  · rfl
  · simp
theorem arr0 {α : Type} {a : Array α} {x : α} {l : List α} (h : a.toList = x :: l) : a[0]? = some x := by
  rw [← Array.getElem?_toList, h]; rfl
theorem good_string {args : Array Operand} {ts : Array TypeId} {pt el : TypeId} {rest : List TypeId} (hts : ts.toList = pt :: rest) (hp : P.underlying pt = some (.pointer el)) (hc : P.cellsOf el = 1) (hel : el ≠ noTy) :
    Good P nt ⟨dst, .call ⟨.builtin .unsafeString, args, ts⟩, ty, pos, after, guard⟩ (withN P nt args.toList (.hv (hString el))) := by
  refine goodH fun ι ρ m w ps hR hps => ?_
  obtain ⟨cs, hb⟩ := exec_builtin (P := P) (dst := dst) (ty := ty) (pos := pos) (after := after) (guard := guard) ρ .unsafeString args ts w
  generalize hvs : args.toList.map ρ = vs at hps
  have ha := arr_of hvs
  have hts0 := arr0 hts
  unfold hString
  split
  · rename_i k
    obtain ⟨v, vs', e1, hv, t1⟩ := hps.uncons
    obtain ⟨u, vs'', e2, hu, t2⟩ := t1.uncons
    have : vs'' = [] := by simpa [RL] using t2
    subst this; subst e2; subst e1
    simp only [R] at hv hu
    subst hv; subst hu
    refine ⟨rfl, .string .empty, w, ι, ?_, hR, Ext.refl _ _ _, by simp only [R]; rfl⟩
    rw [hb, ha]
    have hmax : IntKind.i64.max = 9223372036854775807 := rfl
    have : (Builtin.unsafeString_ ts ty #[.pointer none, .int k (Int.ofNat 0)]).run P w = .ok (.string .empty) w := by
      show (Bind.bind (asInt (.int k (Int.ofNat 0))) _ : Sem Value).run P w = _
      simp [asInt, asIntOf, hts0, hmax]
    simp only [builtin, Sem.run_bind, this, Result.andThen_ok, Sem.run_pure]
  · rename_i o off k n
    obtain ⟨v, vs', e1, hv, t1⟩ := hps.uncons
    obtain ⟨u, vs'', e2, hu, t2⟩ := t1.uncons
    have : vs'' = [] := by simpa [RL] using t2
    subst this; subst e2; subst e1
    simp only [R] at hv hu
    obtain ⟨L, hL, rfl⟩ := hv
    subst hu
    cases n with
    | zero =>
      refine ⟨rfl, .string .empty, w, ι, ?_, hR, Ext.refl _ _ _, by simp only [R]; rfl⟩
      rw [hb, ha]
      have hmax : IntKind.i64.max = 9223372036854775807 := rfl
      have : (Builtin.unsafeString_ ts ty #[.pointer (some ⟨L.b, L.base + off, none⟩), .int k (Int.ofNat 0)]).run P w = .ok (.string .empty) w := by
        show (Bind.bind (asInt (.int k (Int.ofNat 0))) _ : Sem Value).run P w = _
        simp [asInt, asIntOf, hts0, hmax]
      simp only [builtin, Sem.run_bind, this, Result.andThen_ok, Sem.run_pure]
    | succ n =>
      refine HOk.bool fun h1 => ?_
      simp only [Bool.and_eq_true] at h1
      have hro := (Mem.rw_iff m o).1 h1.1
      have h63 := Nat.le_of_ble_eq_true h1.2
      refine HOk.blk fun l bty ex hg => ?_
      refine HOk.bool fun h2 => ?_
      have h2 := Nat.eq_of_beq_eq_true h2
      subst h2
      refine HOk.opt fun cs' h3 => ?_
      refine HOk.opt fun s h4 => ?_
      obtain ⟨L', hL', hH⟩ := hR.obj _ _ hg
      rw [hL] at hL'; cases hL'
      obtain ⟨L', vs, hL', h5, h6⟩ := hR.loadCells hg h3
      rw [hL] at hL'; cases hL'
      obtain ⟨ns, rfl, rfl⟩ := bytesOf_ok h4 h6
      obtain ⟨hcl, hcs⟩ := cut_some h3
      have hnsl : ns.length = n + 1 := by
        have := h6.length
        rw [hcs] at this
        simp at this; omega
      obtain ⟨c, t, fr, hbk, q1, q2, q3, _, q5, _⟩ := hH
      have hT := q5 hel
      subst hT
      have hvar : (variablesAt ⟨L.b, L.base + off, none⟩ t (n + 1)).run P w = .ok true w := by
        have hsh : w.shape? L.b = some (t, c.size) := by simp [World.shape?, hbk]
        have := liesAt_row (P := P) hc c.size (L.base + off) (n + 1) (by omega)
        simp [variablesAt, hsh, hc, this]
      have hcell : ∀ j x, ns[j]? = some x → w.cell? ((⟨L.b, L.base + off, none⟩ : Addr).add j) = some (.int .u8 x) := by
        intro j x hj
        have hjl := (List.getElem?_eq_some_iff.1 hj).1
        rw [add_none, cell_of hbk]
        have hlc : (loadCells ⟨L.b, L.base + off, none⟩ (n + 1)).run P w = .ok ⟨((c.toList.drop (L.base + off)).take (n + 1))⟩ w := by
          have := loadCells_run (P := P) hbk (vs := (c.toList.drop (L.base + off)).take (n + 1)) (i := L.base + off) (fun j hj => by
            have hl : ((c.toList.drop (L.base + off)).take (n + 1)).length = n + 1 := by simp; omega
            rw [hl] at hj
            rw [drop_take _ _ _ _ hj, Array.getElem?_toList])
          have hl : ((c.toList.drop (L.base + off)).take (n + 1)).length = n + 1 := by simp; omega
          rwa [hl] at this
        rw [hlc] at h5
        simp only [Result.ok.injEq, Array.mk.injEq, and_true] at h5
        have : (((c.toList.drop (L.base + off)).take (n + 1)))[j]? = some (.int .u8 x) := by rw [h5]; simp [hj]
        rw [drop_take _ _ _ _ (by omega), Array.getElem?_toList] at this
        exact this
      have hlb := loadBytes_ns (P := P) ns ⟨L.b, L.base + off, none⟩ .empty hcell
      rw [hnsl] at hlb
      have hrun := string_run (P := P) (k := k) hts0 hp (Nat.succ_ne_zero n) h63 hvar hlb ty
      refine ⟨by simp, .string (ns.foldl (fun r n => r.push (UInt8.ofNat n.toNat)) ByteArray.empty), w.freeze ⟨L.b, L.base + off, none⟩ (n + 1), ι, ?_, hR.killAt hg hL hro (freeze_size _ _ _) (fun b hb => freeze_heap _ _ _ _ hb), Ext.killAt hg hL hro (freeze_size _ _ _) (fun b hb => freeze_heap _ _ _ _ hb) ?_ ?_ ?_, ?_⟩
      · rw [hb, ha]
        simp only [builtin, Sem.run_bind]
        rw [show (#[Value.pointer (some ⟨L.b, L.base + off, none⟩), Value.int k (Int.ofNat (n + 1))] : Array Value) = #[Value.pointer (some ⟨L.b, L.base + off, none⟩), Value.int k (Int.ofNat (n + 1))] from rfl, hrun]
        rfl
      · unfold World.freeze; split <;> rfl
      · unfold World.freeze; split <;> rfl
      · unfold World.freeze; split <;> rfl
      · simp only [R]
        have := push_list ns []
        simp only [List.nil_append] at this
        exact congrArg Value.string this
  · trivial
end
end Go.K
end
section
namespace Go.K
open Go (Op)
section
variable {P : Program} {nt : Nat} {dst : Option Tmp} {ty : TypeId} {pos : String} {after : Array Edge} {guard : Option (Nat × Bool)} {ι : Emb} {m : Mem} {w : World} {run : Result Next}
theorem HOk.trans0 {ι₀ : Emb} {m₀ : Mem} {w₀ : World} (hE : Ext ι₀ m₀ w₀ ι m w) (hd : m.d = m₀.d) {v : AV} {m' : Mem} (h : HOk P ι m w run (.val v m')) : HOk P ι₀ m₀ w₀ run (.val v m') := by
  obtain ⟨h1, u, w', ι', h2, h3, h4, h5⟩ := h
  exact ⟨h1.trans hd, u, w', ι', h2, h3, hE.trans h4, h5⟩
/-- a new row of elements -/
theorem rowNew_ok {el : TypeId} {es n cap : Nat} {l : List AV} {row : List Value} {fr : Nat × Nat} (hR : Rep P ι m w) (hrow : RL ι l (row.take l.length)) (hlen : l.length ≤ row.length)
    (hfr : ∀ i, i < row.length → ¬ (fr.1 ≤ i ∧ i < fr.2)) (hcap : cap * es = row.length) (hn : n ≤ cap)
    (hrun : n ≤ lim → run = .ok (.value (.slice (some ⟨w.heap.size, 0, none⟩) n cap)) (w.drew.alloc (.cells ⟨row⟩ el fr))) : HOk P ι m w run (rowNew m el es n l) := by
  unfold rowNew
  refine HOk.bool fun h => ?_
  have h := Nat.le_of_ble_eq_true h
  rw [Mem.tell_eq]
  have hR' : Rep P ι m w.drew := hR.world rfl
  have hE : Ext ι m w ι m w.drew := Ext.world rfl rfl rfl rfl
  obtain ⟨g1, g2⟩ := hR'.new (x := .blk l el false) (ob := .cells ⟨row⟩ el fr) (base := 0) (sz := row.length) (fun ι' hle => by
    refine ⟨⟨row⟩, el, fr, by rw [alloc_heap, if_pos rfl], by simp, hlen, by simpa using hrow.mono hle, fun _ i hi => by simpa using hfr i hi, fun _ => rfl, fun h => by cases h⟩)
  refine ⟨by simp, _, _, _, hrun h, g1, hE.trans g2, ?_⟩
  simp only [R]
  exact ⟨_, cap, upd_same _ _, rfl, hn, by simp, fun _ => by simpa using hcap⟩
theorem takeN_of_le {α : Type} : ∀ {l : List α} {n : Nat}, n ≤ l.length → takeN l n = some (l.take n)
  | [], 0, _ => rfl
  | [], n + 1, h => by simp at h
  | x :: xs, 0, _ => rfl
  | x :: xs, n + 1, h => by
    have ih := takeN_of_le (l := xs) (n := n) (by simpa using h)
    have e : takeN (x :: xs) (n + 1) = Option.rec (motive := fun _ => Option (List α)) none (fun ys => some (x :: ys)) (takeN xs n) := rfl
    rw [e, ih]
    rfl
theorem cut_of_le {α : Type} {l : List α} {off n : Nat} (h : n ≤ l.length - off) : cut l off n = some ((l.drop off).take n) := by
  unfold cut
  rw [dropN_eq]
  exact takeN_of_le (by simpa using h)
theorem optNone {α β : Type} {x : Option α} (h : x = none) {k : α → Option β} : Option.rec (motive := fun _ => Option β) none k x = none := by rw [h]
theorem srcOf_ok {es n : Nat} {x : AV} {xv : Value} {cs : List AV} (hR : Rep P ι m w) (hx : R ι x xv) (h : srcOf m es x = some (cs, n)) :
    ∃ vs, (Builtin.lenOf xv).run P w = .ok n w ∧ (∀ k, k ≤ n → (Builtin.firstCells es k xv).run P w = .ok ⟨vs.take (k * es)⟩ w) ∧ RL ι cs vs ∧ cs.length = n * es := by
  unfold srcOf at h
  split at h
  · cases h
    simp only [R] at hx; subst hx
    exact ⟨[], rfl, fun k hk => by simp [Builtin.firstCells], RL.nil, by simp⟩
  · rename_i s
    obtain ⟨h1, h2⟩ := brec (f := none) h (by simp)
    have h1 := Nat.eq_of_beq_eq_true h1
    subst h1
    cases h2
    simp only [R] at hx; subst hx
    refine ⟨s.map fun b => .int .u8 b.toNat, by simp [Builtin.lenOf, str_size, len_eq], fun k hk => ?_, ?_, by simp [mapL_eq, len_eq]⟩
    · have e : Builtin.firstCells 1 k (.string ⟨⟨s⟩⟩) = pure (((⟨⟨s⟩⟩ : ByteArray).extract 0 k).data.map fun b => .int .u8 b.toNat) := rfl
      rw [e, ba_extract]
      simp [List.map_take]
    · rw [mapL_eq]
      apply RL.ext
      · simp
      · intro i x y h1 h2
        simp only [List.getElem?_map, Option.map_eq_some_iff] at h1 h2
        obtain ⟨b, hb, rfl⟩ := h1
        obtain ⟨b', hb', rfl⟩ := h2
        rw [hb] at hb'; cases hb'
        simp only [R]; rfl
  · rename_i o off k c es'
    obtain ⟨h1, h2⟩ := brec (f := none) h (by simp)
    have h1 := Nat.eq_of_beq_eq_true h1
    subst h1
    obtain ⟨l, bty, ex, hg, h2⟩ := blk_rec h2 (by simp)
    obtain ⟨ds, h3, h4⟩ := orec (b := none) h2 (by simp)
    cases h4
    simp only [R] at hx
    obtain ⟨L, c', hL, rfl, _⟩ := hx
    obtain ⟨L', vs, hL', h5, h6⟩ := hR.loadCells hg h3
    rw [hL] at hL'; cases hL'
    obtain ⟨q1, q2⟩ := cut_some h3
    have q1' : n * es ≤ l.length - off := q1
    refine ⟨vs, rfl, fun j hj => ?_, h6, by rw [q2]; simp; exact Nat.min_eq_left q1'⟩
    have hje : j * es ≤ n * es := Nat.mul_le_mul_right _ hj
    have h7 : cut l off (j * es) = some (cs.take (j * es)) := by
      rw [cut_of_le (by omega), q2, List.take_take]
      congr 2
      have : Nat.mul n es = n * es := rfl
      rw [this]; omega
    obtain ⟨L', us, hL', h8, h9⟩ := hR.loadCells hg h7
    rw [hL] at hL'; cases hL'
    have e : Builtin.firstCells es j (.slice (some ⟨L.b, L.base + off, none⟩) n c') = loadCells ⟨L.b, L.base + off, none⟩ (j * es) := rfl
    rw [e, h8]
    have hus : us = vs.take (j * es) := by
      obtain ⟨L', hL', hH⟩ := hR.obj _ _ hg
      rw [hL] at hL'; cases hL'
      obtain ⟨c0, t, fr, hbk, q3, q4, _⟩ := hH
      have full : ∀ N, N ≤ l.length - off → (loadCells ⟨L.b, L.base + off, none⟩ N).run P w = .ok ⟨(c0.toList.drop (L.base + off)).take N⟩ w := by
        intro N hN
        have hl : ((c0.toList.drop (L.base + off)).take N).length = N := by simp; omega
        have := loadCells_run (P := P) hbk (vs := (c0.toList.drop (L.base + off)).take N) (i := L.base + off) (fun j hj => by
          rw [hl] at hj
          rw [drop_take _ _ _ _ hj, Array.getElem?_toList])
        rwa [hl] at this
      have a1 := full _ q1'
      have a2 := full (j * es) (by omega)
      have h5' : (loadCells ⟨L.b, L.base + off, none⟩ (n * es)).run P w = .ok ⟨vs⟩ w := h5
      rw [a1] at h5'
      rw [a2] at h8
      simp only [Result.ok.injEq, Array.mk.injEq, and_true] at h5' h8
      rw [← h5', ← h8, List.take_take]
      congr 1
      omega
    rw [hus]
  · cases h
/-! append -/
theorem growBy_le (nl : Nat) : ∀ (r c : Nat), Builtin.growBy nl r c ≤ max c (2 * nl + 192)
  | 0, c => by simp only [Builtin.growBy]; omega
  | r + 1, c => by
    simp only [Builtin.growBy]
    split
    · omega
    · have := growBy_le nl r (c + (c + 768) / 4)
      omega
theorem nsc_le {need c : Nat} (h : c < need) : Builtin.nextslicecap need c ≤ 2 * need + 192 := by
  unfold Builtin.nextslicecap
  split
  · omega
  · split
    · omega
    · have := growBy_le need 4 c
      omega
theorem grown_ge (w : World) (need old : Nat) (e : TypeId) : need ≤ grownCap w need old e := by
  simp [grownCap, Question.cut]
theorem rowLike_cases {t : TypeId} (h : rowLike P t = true) : P.underlying t = some .string ∨ ∃ e, P.underlying t = some (.slice e) := by
  unfold rowLike at h
  split at h
  · rename_i e he; exact .inr ⟨e, he⟩
  · rename_i he; exact .inl he
  · cases h
theorem append_fits {ts : Array TypeId} {t t' rt el : TypeId} {s xv : Value} {base : Option Addr} {n c k es : Nat} {vs : List Value} {w' : World} (hts : ts = #[t, t']) (hu : P.underlying t = some (.slice el)) (ht' : rowLike P t' = true) (hs : sizeT P el = some es)
    (hsv : s = .slice base n c) (hl : (Builtin.lenOf xv).run P w = .ok k w) (hf : (Builtin.firstCells es k xv).run P w = .ok ⟨vs⟩ w) (hfit : n + k ≤ c)
    (hst : match base with | some a => (storeCells (a.add (n * es)) vs).run P w = .ok () w' | none => w' = w) : (Builtin.append_ ts rt #[s, xv]).run P w = .ok (.slice base (n + k) c) w' := by
  subst hts; subst hsv
  have hd := rowLike_cases ht'
  unfold Builtin.append_
  cases base with
  | none =>
    simp only at hst; subst hst
    rcases hd with hd | ⟨e', hd⟩ <;> simp [run_underlying hu, run_underlying hd, sizeOf_run hs, hl, hfit, hf]
  | some a =>
    simp only at hst
    rcases hd with hd | ⟨e', hd⟩ <;> simp [run_underlying hu, run_underlying hd, sizeOf_run hs, hl, hfit, hf, hst]
theorem append_grows {ts : Array TypeId} {t t' rt el : TypeId} {s xv zv : Value} {base : Option Addr} {n c k es : Nat} {olds news : List Value} {i : TypeInfo} (hts : ts = #[t, t']) (hu : P.underlying t = some (.slice el)) (ht' : rowLike P t' = true)
    (hs : sizeT P el = some es) (hi : P.info? el = some i) (hz : i.zero = some zv) (hby : i.bytes ≤ 8192) (hpos : 0 < i.bytes)
    (hsv : s = .slice base n c) (hl : (Builtin.lenOf xv).run P w = .ok k w) (hfo : (Builtin.firstCells es n s).run P w.drew = .ok ⟨olds⟩ w.drew) (hf : (Builtin.firstCells es k xv).run P w.drew = .ok ⟨news⟩ w.drew) (hfit : ¬ n + k ≤ c) (hlim : n + k ≤ lim) :
    (Builtin.append_ ts rt #[s, xv]).run P w = .ok (.slice (some ⟨w.heap.size, 0, none⟩) (n + k) (grownCap w (n + k) c el))
      (w.drew.alloc (.cells ⟨olds ++ news ++ (Builtin.zeroCells zv.cells (grownCap w (n + k) c el - (n + k))).toList⟩ el)) := by
  subst hts; subst hsv
  have hd := rowLike_cases ht'
  have hlim' : n + k ≤ 1073741824 := hlim
  have hb : ¬ (281474976710656 < Builtin.nextslicecap (n + k) c * i.bytes) := by
    have h1 := nsc_le (show c < n + k by omega)
    have h2 : Builtin.nextslicecap (n + k) c * i.bytes ≤ (2 * (n + k) + 192) * 8192 := Nat.mul_le_mul h1 hby
    omega
  have hti : (typeInfo el).run P w = .ok i w := by simp [typeInfo, hi]
  have hti' : (typeInfo el).run P w.drew = .ok i w.drew := by simp [typeInfo, hi]
  have hch : (choose (.appendCap (n + k) c el)).run P w = .ok (grownCap w (n + k) c el) w.drew := by
    rw [run_choose]; simp [Question.forced, grownCap]
  have hzv : (zeroValue el).run P w.drew = .ok zv w.drew := by simp [zeroValue, typeInfo, hi, hz]
  have hne : i.bytes ≠ 0 := by omega
  have hso : (sizeOf el).run P w = .ok es w := sizeOf_run hs w
  unfold Builtin.append_
  have hgt : ¬ ((n : Int) + (k : Int) > IntKind.i64.max) := by
    have hm : IntKind.i64.max = 9223372036854775807 := rfl
    rw [hm]; omega
  rcases hd with hd | ⟨e', hd⟩ <;> simp [run_underlying hu, run_underlying hd, hso, hl, hfit, hf, hfo, hti, hti', hzv, hne, hb, newRow_run]
  all_goals
    simp only [Question.forced, Bool.false_eq_true, if_false, grownCap]
    congr 3
    apply Array.ext'
    simp
theorem zeroCells_size (z : Array Value) (n : Nat) : (Builtin.zeroCells z n).size = n * z.size := by simp [Builtin.zeroCells]
theorem arr2 {α : Type} {a : Array α} {x y : α} (h : a.toList = [x, y]) : a = #[x, y] := by cases a; simpa using h
theorem cells_len {t : TypeId} {es : Nat} {i : TypeInfo} {zv : Value} (h : zLen P t es = true) (hi : P.info? t = some i) (hz : i.zero = some zv) : zv.cells.size = es := by
  unfold zLen at h
  cases hzo : zeroOf P t with
  | none => rw [hzo] at h; cases h
  | some z =>
    rw [hzo] at h
    have h := Nat.eq_of_beq_eq_true h
    rw [len_eq] at h
    obtain ⟨v, _, h2, i', hi', hz'⟩ := zeroOf_ok (ι := fun _ => none) hzo default
    rw [hi] at hi'; cases hi'
    rw [hz] at hz'; cases hz'
    have := h2.length
    simp at this; omega
/-- an append that does not fit, or may not: a new row -/
theorem append_row {ts : Array TypeId} {t t' rt el : TypeId} {sv xv zv : Value} {base : Option Addr} {n c k es : Nat} {oldA newA : List AV} {olds news : List Value} {i : TypeInfo} {ι₀ : Emb} {m₀ : Mem}
    (hts : ts = #[t, t']) (hu : P.underlying t = some (.slice el)) (ht' : rowLike P t' = true) (hs : sizeT P el = some es) (hi : P.info? el = some i) (hz : i.zero = some zv) (hby : i.bytes ≤ 8192) (hpos : 0 < i.bytes) (hzs : zv.cells.size = es)
    (hR : Rep P ι m w) (hE : Ext ι₀ m₀ w ι m w) (hd : m.d = m₀.d)
    (hsv : sv = .slice base n c) (hl : (Builtin.lenOf xv).run P w = .ok k w) (hfo : (Builtin.firstCells es n sv).run P w.drew = .ok ⟨olds⟩ w.drew) (hf : (Builtin.firstCells es k xv).run P w.drew = .ok ⟨news⟩ w.drew) (hfit : ¬ n + k ≤ c)
    (ho : RL ι oldA olds) (hol : olds.length = n * es) (hn : RL ι newA news) (hnl : news.length = k * es)
    (hrun : ∀ v w', (Builtin.append_ ts rt #[sv, xv]).run P w = .ok v w' → run = .ok (.value v) w') : HOk P ι₀ m₀ w run (rowNew m el es (n + k) (oldA ++ newA)) := by
  have hge := grown_ge w (n + k) c el
  have hlen : (oldA ++ newA).length = (olds ++ news).length := by simp [ho.length, hn.length]
  have key : HOk P ι m w run (rowNew m el es (n + k) (oldA ++ newA)) := by
    refine rowNew_ok (cap := grownCap w (n + k) c el) (row := olds ++ news ++ (Builtin.zeroCells zv.cells (grownCap w (n + k) c el - (n + k))).toList) (fr := (0, 0)) hR ?_ ?_ ?_ ?_ hge ?_
    · rw [hlen, List.take_left']
      · exact ho.app hn
      · rfl
    · rw [hlen]; simp
    · intro i _; simp
    · simp only [List.length_append, Array.length_toList, zeroCells_size, hzs, hol, hnl]
      rw [← Nat.add_mul, ← Nat.add_mul]
      congr 1
      omega
    · intro hlim
      exact hrun _ _ (append_grows hts hu ht' hs hi hz hby hpos hsv hl hfo hf hfit hlim)
  revert key
  unfold rowNew
  cases Nat.ble (n + k) lim with
  | false => exact fun h => h
  | true =>
    rw [Mem.tell_eq]
    exact fun h => h.trans0 hE hd
end
end Go.K
end
section
namespace Go.K
open Go (Op)
section
variable {P : Program} {nt : Nat} {dst : Option Tmp} {ty : TypeId} {pos : String} {after : Array Edge} {guard : Option (Nat × Bool)} {ι : Emb} {m : Mem} {w : World} {run : Result Next}
/-- one more number for a block that stands -/
theorem Rep.alias {o : Nat} {L' : Loc} (h : Rep P ι m w) (ho : ι o = none) (hlt : o < m.next) (hb : L'.b < w.heap.size) : Rep P (upd ι o L') m w where
  obj p x hp := by
    obtain ⟨L, hL, hH⟩ := h.obj p x hp
    exact ⟨L, le_upd ho p L hL, hH.mono (le_upd ho) rfl⟩
  gl := h.gl
  wr p x L hp hr hL := by
    obtain ⟨L1, hL1, _⟩ := h.obj p x hp
    have e1 := le_upd (L := L') ho p L1 hL1
    rw [e1] at hL; cases hL
    exact h.wr p x _ hp hr hL1
  inj p q x y L K hp hq hL hK e he := by
    obtain ⟨L1, hL1, _⟩ := h.obj p x hp
    obtain ⟨K1, hK1, _⟩ := h.obj q y hq
    have e1 := le_upd (L := L') ho p L1 hL1
    have e2 := le_upd (L := L') ho q K1 hK1
    rw [e1] at hL; rw [e2] at hK
    injection hL with hL; injection hK with hK
    subst hL; subst hK
    exact h.inj p q x y _ _ hp hq hL1 hK1 e he
  fresh p hp := by rw [upd_ne _ (by omega)]; exact h.fresh p hp
  low p K hK := by
    unfold upd at hK
    split at hK
    · cases hK; exact hb
    · exact h.low p K hK
  glob g hg := by
    obtain ⟨s, r, hs⟩ := h.glob g hg
    exact ⟨s, r, le_upd ho g _ hs⟩
/-- a block goes over to another number -/
theorem Rep.move {o : Nat} {x y : AObj} {L L' : Loc} {w' : World} (h : Rep P ι m w) (hg : m.get o = some x) (hL : ι o = some L) (hro : m.ro ≤ o) (hs : w'.heap.size = w.heap.size) (hk : ∀ b, b ≠ L.b → w'.heap[b]? = w.heap[b]?)
    (h1 : w'.tape = w.tape) (h2 : w'.os = w.os) (h3 : w'.output = w.output) (hb : L'.b = L.b) (hw : L'.rw = true) (hy : ∀ ι', ι.le ι' → Holds ι' y L' w') :
    Rep P (upd ι m.next L') ((m.kill o).new y) w' ∧ Ext ι m w (upd ι m.next L') ((m.kill o).new y) w' := by
  have hK := h.killAt hg hL hro hs hk
  have hE := Ext.killAt (m := m) hg hL hro hs hk h1 h2 h3
  have hn := h.fresh m.next (Nat.le_refl _)
  have hlt := h.low o L hL
  refine ⟨?_, ?_⟩
  · rw [new_eq]
    have hb' : L'.b < w'.heap.size := by rw [hb, hs]; exact hlt
    have hnx : (m.kill o).next = m.next := by simp
    rw [hnx]
    refine ((hK.bump (n := m.next + 1) (by simp)).alias hn (Nat.lt_succ_self _) hb').adopt (by
      rw [bump_get, Mem.get_kill]
      split
      · rfl
      · cases hg : m.get m.next with
        | none => rfl
        | some y => obtain ⟨L, hL, _⟩ := h.obj _ _ hg; rw [hn] at hL; cases hL) hw (upd_same _ _) (hy _ (le_upd hn)) ?_
    intro p z K hpo hp hKp
    rw [bump_get] at hp
    rw [upd_ne _ hpo] at hKp
    rw [Mem.get_kill] at hp
    split at hp
    · cases hp
    · rename_i hne
      intro e
      exact hne (h.inj p o z x K L hp hg hKp hL (e.trans hb) (.inr hro))
  · have hlive : ∀ p z, ((m.kill o).new y).get p = some z → p = m.next ∨ (p ≠ m.next ∧ m.get p = some z) := by
      intro p z hp
      rw [Mem.get_new] at hp
      split at hp
      · rename_i e; simp at e; exact .inl e
      · rename_i e
        rw [Mem.get_kill] at hp
        split at hp
        · cases hp
        · exact .inr ⟨by simpa using e, hp⟩
    exact
      { le := le_upd hn
        old := fun p hp => upd_ne _ (by omega)
        next := by simp
        ro := by simp
        size := by rw [hs]; exact Nat.le_refl _
        tape := h1
        os := h2
        output := h3
        own := fun p z K hp hr hKp => by
          rcases hlive p z hp with e | ⟨e, hp'⟩
          · subst e; rw [upd_same] at hKp; cases hKp; exact .inr ⟨o, x, L, hg, hro, hL, hb.symm⟩
          · rw [upd_ne _ e] at hKp; exact .inr ⟨p, z, K, hp', hr, hKp, rfl⟩
        kept := hE.kept
        live := fun p z hp hlt => by
          rcases hlive p z hp with e | ⟨_, hp'⟩
          · omega
          · exact ⟨z, hp'⟩ }
theorem take_all {α : Type} {l : List α} {n : Nat} (h : l.length = n) : l.take n = l := by rw [← h, List.take_length]
theorem good_append {args : Array Operand} {ts : Array TypeId} {t t' el : TypeId} {s : Nat} (hts : ts.toList = [t, t']) (hu : P.underlying t = some (.slice el)) (hs : sizeT P el = some (s + 1))
    (ht' : rowLike P t' = true) (hzl : zLen P el (s + 1) = true) (hsm : smallT P el = true) :
    Good P nt ⟨dst, .call ⟨.builtin .append, args, ts⟩, ty, pos, after, guard⟩ (withN P nt args.toList (.hv (hAppend el (s + 1)))) := by
  refine goodH fun ι ρ m w ps hR hps => ?_
  obtain ⟨cs, hb⟩ := exec_builtin (P := P) (dst := dst) (ty := ty) (pos := pos) (after := after) (guard := guard) ρ .append args ts w
  generalize hvs : args.toList.map ρ = vs at hps
  have ha := arr_of hvs
  have hts2 := arr2 hts
  obtain ⟨i, hi, hby, hpos⟩ : ∃ i, P.info? el = some i ∧ i.bytes ≤ 8192 ∧ 0 < i.bytes := by
    unfold smallT at hsm
    split at hsm
    · rename_i i hi
      simp only [Bool.and_eq_true] at hsm
      exact ⟨i, hi, Nat.le_of_ble_eq_true hsm.2, Nat.le_of_ble_eq_true hsm.1⟩
    · cases hsm
  obtain ⟨zv, hz⟩ : ∃ zv, i.zero = some zv := by
    unfold zLen at hzl
    cases hzo : zeroOf P el with
    | none => rw [hzo] at hzl; cases hzl
    | some z =>
      obtain ⟨v, _, _, i', hi', hz'⟩ := zeroOf_ok (ι := ι) hzo w
      rw [hi] at hi'; cases hi'
      exact ⟨v, hz'⟩
  have hzs := cells_len hzl hi hz
  unfold hAppend
  split
  · rename_i sa xa
    obtain ⟨sv, vs', e1, hsv, t1⟩ := hps.uncons
    obtain ⟨xv, vs'', e2, hxv, t2⟩ := t1.uncons
    have : vs'' = [] := by simpa [RL] using t2
    subst this; subst e2; subst e1
    have hrun : ∀ v w', (Builtin.append_ ts ty #[sv, xv]).run P w = .ok v w' → (execOp ρ ⟨dst, .call ⟨.builtin .append, args, ts⟩, ty, pos, after, guard⟩).run P w = .ok (.value v) w' := by
      intro v w' h
      rw [hb, ha]
      simp only [builtin, Sem.run_bind]
      rw [show ([sv, xv] : List Value).toArray = #[sv, xv] from rfl, h]
      rfl
    refine HOk.opt fun p hp => ?_
    obtain ⟨ca, k⟩ := p
    obtain ⟨xs, hlen, hfc, hxs, hcl⟩ := srcOf_ok hR hxv hp
    obtain ⟨xs', hlen', hfc', hxs', hcl'⟩ := srcOf_ok (w := w.drew) (hR.world rfl) hxv hp
    have hxl : xs.length = k * (s + 1) := by have := hxs.length; omega
    have hxl' : xs'.length = k * (s + 1) := by have := hxs'.length; omega
    have hff := hfc k (Nat.le_refl _)
    have hff' := hfc' k (Nat.le_refl _)
    rw [take_all hxl] at hff
    rw [take_all hxl'] at hff'
    cases k with
    | zero =>
      have hxn : xs = [] := by simpa using hxl
      subst hxn
      dsimp only
      split
      · simp only [R] at hsv
        refine ⟨rfl, .slice none 0 0, w, ι, hrun _ _ ?_, hR, Ext.refl _ _ _, by simp [R]⟩
        exact append_fits hts2 hu ht' hs hsv hlen hff (Nat.le_refl _) rfl
      · rename_i o off n c es
        have hsv' := hsv
        simp only [R] at hsv
        obtain ⟨L, c', hL, hsv2, hn, _⟩ := hsv
        refine ⟨rfl, .slice (some ⟨L.b, L.base + off, none⟩) n c', w, ι, hrun _ _ ?_, hR, Ext.refl _ _ _, hsv2 ▸ hsv'⟩
        exact append_fits (w' := w) hts2 hu ht' hs hsv2 hlen hff (by omega) (by simp [storeCells])
      · trivial
    | succ k =>
      dsimp only
      split
      · simp only [R] at hsv
        have := append_row (rt := ty) (run := (execOp ρ ⟨dst, .call ⟨.builtin .append, args, ts⟩, ty, pos, after, guard⟩).run P w) (oldA := []) (olds := []) hts2 hu ht' hs hi hz hby hpos hzs hR (Ext.refl _ _ _) rfl hsv hlen (by rw [hsv]; rfl) hff' (by omega) RL.nil (by simp) hxs' hxl' hrun
        simpa using this
      · rename_i o off n cap es'
        refine HOk.bool fun g => ?_
        have g := Nat.eq_of_beq_eq_true g
        subst g
        refine HOk.blk fun l bty ex hg => ?_
        simp only [R] at hsv
        obtain ⟨L, c', hL, hsv2, hn, hc1, hc2⟩ := hsv
        obtain ⟨L', hL', hH⟩ := hR.obj _ _ hg
        rw [hL] at hL'; cases hL'
        have hcpos : ca ≠ [] := by intro e; rw [e] at hcl; simp at hcl
        -- in place, within the cells that are known
        have inplace : ∀ l', m.ro ≤ o → over l (off + n * (s + 1)) ca = some l' → ca.all AV.one = true → n + (k + 1) ≤ c' → (∀ k, cap = some k → c' = k) → (cap = none → off + c' * (s + 1) = L.sz) →
            HOk P ι m w ((execOp ρ ⟨dst, .call ⟨.builtin .append, args, ts⟩, ty, pos, after, guard⟩).run P w) (.val (.slice o off (n + (k + 1)) cap (s + 1)) (m.put o (.blk l' bty ex))) := by
          intro l' hro hov hone hfit q1 q2
          obtain ⟨L', w', hL', hst, hR', hE⟩ := hR.over hg hro hov hxs hone
          rw [hL] at hL'; cases hL'
          refine ⟨by simp, .slice (some ⟨L.b, L.base + off, none⟩) (n + (k + 1)) c', w', ι, hrun _ _ ?_, hR', hE, ?_⟩
          · exact append_fits hts2 hu ht' hs hsv2 hlen hff hfit (by show (storeCells (Addr.add ⟨L.b, L.base + off, none⟩ (n * (s + 1))) xs).run P w = .ok () _; rw [addr_add]; exact hst)
          · simp only [R]; exact ⟨L, c', hL, rfl, hfit, q1, q2⟩
        -- a new row
        have anew : ∀ old, cut l off (n * (s + 1)) = some old → ¬ n + (k + 1) ≤ c' →  HOk P ι m w ((execOp ρ ⟨dst, .call ⟨.builtin .append, args, ts⟩, ty, pos, after, guard⟩).run P w) (rowNew m el (s + 1) (n + (k + 1)) (old ++ ca)) ∧
            (m.ro ≤ o → HOk P ι m w ((execOp ρ ⟨dst, .call ⟨.builtin .append, args, ts⟩, ty, pos, after, guard⟩).run P w) (rowNew (m.kill o) el (s + 1) (n + (k + 1)) (old ++ ca))) := by
          intro old hcut hfit
          obtain ⟨L', us, hL', h5, h6⟩ := (hR.world (w' := w.drew) rfl).loadCells hg hcut
          rw [hL] at hL'; cases hL'
          have hul : us.length = n * (s + 1) := by
            obtain ⟨q1, q2⟩ := cut_some hcut
            have := h6.length; rw [q2] at this; simp at this; omega
          have hfo : (Builtin.firstCells (s + 1) n sv).run P w.drew = .ok ⟨us⟩ w.drew := by rw [hsv2]; exact h5
          exact ⟨append_row (rt := ty) hts2 hu ht' hs hi hz hby hpos hzs hR (Ext.refl _ _ _) rfl hsv2 hlen hfo hff' hfit h6 hul hxs' hxl' hrun,
            fun hro => append_row (rt := ty) hts2 hu ht' hs hi hz hby hpos hzs (hR.kill hro) (Ext.kill o) (by simp) hsv2 hlen hfo hff' hfit h6 hul hxs' hxl' hrun⟩
        unfold appTo
        cases cap with
        | some cc =>
          have := hc1 _ rfl; subst this
          show HOk P ι m w _ (Bool.rec _ _ (Nat.ble (Nat.add n (k + 1)) c'))
          cases hble : Nat.ble (Nat.add n (k + 1)) c' with
          | false =>
            refine HOk.opt fun old hcut => ?_
            dsimp only
            rw [app_eq]
            have hnf : ¬ n + (k + 1) ≤ c' := by intro h; have := Nat.ble_eq_true_of_le h; have e : n + (k + 1) = Nat.add n (k + 1) := rfl; rw [e] at this; rw [hble] at this; cases this
            exact (anew old hcut hnf).1
          | true =>
            have hfit : n + (k + 1) ≤ c' := Nat.le_of_ble_eq_true hble
            refine HOk.bool fun h1 => ?_
            simp only [Bool.and_eq_true] at h1
            have hro := (Mem.rw_iff m o).1 h1.1
            have hone := h1.2
            rw [allB_eq] at hone
            refine HOk.opt fun l' hov => ?_
            exact inplace l' hro hov hone hfit hc1 hc2
        | none =>
          refine HOk.bool fun h1 => ?_
          simp only [Bool.and_eq_true] at h1
          have hro := (Mem.rw_iff m o).1 h1.1
          have hone := h1.2
          rw [allB_eq] at hone
          have hsz := hc2 rfl
          show HOk P ι m w _ (Bool.rec _ _ (Nat.beq (Nat.add off (Nat.mul n (s + 1))) (len l)))
          obtain ⟨c, t0, fr, hbk, p1, p2, p3, p4, p5, p6⟩ := hH
          cases hbe : Nat.beq (Nat.add off (Nat.mul n (s + 1))) (len l) with
          | false =>
            refine HOk.opt fun l' hov => ?_
            have hov' : over l (off + n * (s + 1)) ca = some l' := hov
            obtain ⟨q1, _, _⟩ := over_some hov'
            have q1 := q1 hcpos
            have hfit : n + (k + 1) ≤ c' := by
              have h2 : (n + (k + 1)) * (s + 1) ≤ c' * (s + 1) := by rw [Nat.add_mul]; omega
              exact Nat.le_of_mul_le_mul_right h2 (Nat.succ_pos s)
            exact inplace l' hro hov' hone hfit hc1 hc2
          | true =>
            have hbe' := Nat.eq_of_beq_eq_true hbe
            rw [len_eq] at hbe'
            have hfr : off + n * (s + 1) = l.length := hbe'
            refine HOk.bool fun h2 => ?_
            have h2 := Nat.eq_of_beq_eq_true h2
            refine HOk.opt fun old hcut => ?_
            dsimp only
            rw [app_eq]
            by_cases hfit : n + (k + 1) ≤ c'
            · -- in place, at the end of what is known
              have hsum : (n + (k + 1)) * (s + 1) ≤ c' * (s + 1) := Nat.mul_le_mul_right _ hfit
              rw [Nat.add_mul] at hsum
              have p4 := p4 (hR.wr o _ L hg hro hL)
              have hone' : ∀ v ∈ xs, Value.oneCell v = true := by
                intro v hv
                obtain ⟨j, hj, rfl⟩ := List.mem_iff_getElem.1 hv
                have hj' : j < ca.length := by omega
                obtain ⟨y, hy, hRy⟩ := hxs.get (i := j) (x := ca[j]) (List.getElem?_eq_getElem hj')
                rw [List.getElem?_eq_getElem hj] at hy
                cases hy
                exact hRy.oneCell (by simpa using (List.all_eq_true.1 hone) ca[j] (List.getElem_mem hj'))
              have hst := storeCells_run (P := P) xs w c (L.base + (off + n * (s + 1))) 0 hbk hone' (by omega) (fun j hj => by have := p4 (off + n * (s + 1) + j) (by omega); rw [show L.base + (off + n * (s + 1)) + 0 + j = L.base + (off + n * (s + 1) + j) from by omega]; exact this)
              have hlt := lt_of_block hbk
              have hheap : ∀ b, b ≠ L.b → (atB w L.b (.cells (ovr c (L.base + (off + n * (s + 1)) + 0) xs) t0 fr)).heap[b]? = w.heap[b]? := by
                intro b hne
                rw [atB_heap, if_neg (fun e => hne e.1)]
              obtain ⟨q1, q2⟩ := cut_some hcut
              have q1' : n * (s + 1) ≤ l.length - off := q1
              have hob : ovr c (L.base + (off + n * (s + 1)) + 0) xs = ovr c (L.base + (off + n * (s + 1))) xs := rfl
              have hHy : ∀ ι', ι.le ι' → Holds ι' (.blk (old ++ ca) el false) ⟨L.b, L.base + off, c' * (s + 1), true⟩ (atB w L.b (.cells (ovr c (L.base + (off + n * (s + 1)) + 0) xs) t0 fr)) := by
                intro ι' hle
                have hol : old.length = n * (s + 1) := by rw [q2]; simp; exact Nat.min_eq_left q1'
                refine ⟨_, t0, fr, by rw [atB_heap, if_pos ⟨rfl, hlt⟩], by rw [ovr_size]; show L.base + off + c' * (s + 1) ≤ c.size; omega, by simp only [List.length_append, hol, hcl]; show n * (s + 1) + (k + 1) * (s + 1) ≤ c' * (s + 1); omega, ?_, fun _ j hj => ?_, fun hne => h2 ▸ p5 (h2 ▸ hne), fun h => by cases h⟩
                · have hR1 : RL ι (old ++ ca) (((c.toList.drop (L.base + off)).take (n * (s + 1))) ++ xs) := by
                    refine RL.app ?_ hxs
                    rw [q2]
                    have := (p3.drop off).take (n * (s + 1))
                    have e : List.take (n * (s + 1)) (List.drop off (List.take l.length (List.drop L.base c.toList))) = List.take (n * (s + 1)) (List.drop (L.base + off) c.toList) := by
                      rw [List.drop_take, List.take_take, List.drop_drop, Nat.min_eq_left (by omega)]
                    rw [e] at this
                    exact this
                  have e2 : List.take (old ++ ca).length (List.drop (L.base + off) (ovr c (L.base + (off + n * (s + 1)) + 0) xs).toList) = ((c.toList.drop (L.base + off)).take (n * (s + 1))) ++ xs := by
                    apply List.ext_getElem?
                    intro j
                    have hll : (old ++ ca).length = n * (s + 1) + xs.length := by simp [hol]; omega
                    rw [hll]
                    have hl1 : ((c.toList.drop (L.base + off)).take (n * (s + 1))).length = n * (s + 1) := by simp; omega
                    by_cases hj : j < n * (s + 1) + xs.length
                    · rw [List.getElem?_take_of_lt hj, List.getElem?_drop, Array.getElem?_toList, ovr_get _ _ _ _ (by omega)]
                      by_cases hj1 : j < n * (s + 1)
                      · rw [if_neg (by omega), List.getElem?_append_left (by omega), List.getElem?_take_of_lt hj1, List.getElem?_drop, Array.getElem?_toList]
                      · rw [if_pos (by omega), List.getElem?_append_right (by omega), hl1]
                        congr 1; omega
                    · rw [List.getElem?_eq_none (by simp; omega), List.getElem?_eq_none (by simp; omega)]
                  rw [e2]
                  exact hR1.mono hle
                · have hj' : j < c' * (s + 1) := hj
                  have := p4 (off + j) (by omega)
                  show ¬ (fr.1 ≤ L.base + off + j ∧ L.base + off + j < fr.2)
                  rw [Nat.add_assoc]; exact this
              obtain ⟨g1, g2⟩ := Rep.move (L' := ⟨L.b, L.base + off, c' * (s + 1), true⟩) (y := .blk (old ++ ca) el false) hR hg hL hro (atB_size _ _ _) hheap rfl rfl rfl rfl rfl hHy
              unfold rowNew
              refine HOk.bool fun _ => ?_
              rw [Mem.tell_eq]
              refine ⟨by simp, .slice (some ⟨L.b, L.base + off, none⟩) (n + (k + 1)) c', _, _, hrun _ _ ?_, g1, g2, ?_⟩
              · exact append_fits hts2 hu ht' hs hsv2 hlen hff hfit (by show (storeCells (Addr.add ⟨L.b, L.base + off, none⟩ (n * (s + 1))) xs).run P w = .ok () _; rw [addr_add]; exact hst)
              · simp only [R]
                refine ⟨⟨L.b, L.base + off, c' * (s + 1), true⟩, c', by rw [Mem.next_kill]; exact upd_same _ _, rfl, hfit, fun k hk => (by cases hk), fun _ => by simp⟩
            · exact (anew old hcut hfit).2 hro
      · trivial
  · trivial
end
end Go.K
end
section
namespace Go.K
open Go (Op)
section
variable {P : Program} {nt : Nat} {dst : Option Tmp} {ty : TypeId} {pos : String} {after : Array Edge} {guard : Option (Nat × Bool)} {ι : Emb} {m : Mem} {w : World} {run : Result Next}
theorem good_copy {args : Array Operand} {ts : Array TypeId} {t t' el : TypeId} {es : Nat} (hts : ts.toList = [t, t']) (hu : P.underlying t = some (.slice el)) (hs : sizeT P el = some es) :
    Good P nt ⟨dst, .call ⟨.builtin .copy, args, ts⟩, ty, pos, after, guard⟩ (withN P nt args.toList (.hv (hCopy es))) := by
  refine goodH fun ι ρ m w ps hR hps => ?_
  obtain ⟨cs, hb⟩ := exec_builtin (P := P) (dst := dst) (ty := ty) (pos := pos) (after := after) (guard := guard) ρ .copy args ts w
  generalize hvs : args.toList.map ρ = vs at hps
  have ha := arr_of hvs
  have hts2 := arr2 hts
  unfold hCopy
  split
  · rename_i o off n c es' xa
    obtain ⟨sv, vs', e1, hsv, t1⟩ := hps.uncons
    obtain ⟨xv, vs'', e2, hxv, t2⟩ := t1.uncons
    have : vs'' = [] := by simpa [RL] using t2
    subst this; subst e2; subst e1
    refine HOk.bool fun h1 => ?_
    simp only [Bool.and_eq_true] at h1
    have g := Nat.eq_of_beq_eq_true h1.1
    subst g
    have hro := (Mem.rw_iff m o).1 h1.2
    refine HOk.opt fun p hp => ?_
    obtain ⟨ca, k⟩ := p
    refine HOk.opt fun new hnew => ?_
    refine HOk.bool fun hone => ?_
    rw [allB_eq] at hone
    refine HOk.blk fun l bty ex hg => ?_
    refine HOk.opt fun l' hov => ?_
    obtain ⟨xs, hlen, hfc, hxs, hcl⟩ := srcOf_ok hR hxv hp
    have hff := hfc (Nat.min k n) (Nat.min_le_left _ _)
    obtain ⟨q1, q2⟩ := takeN_some hnew
    have hnl : RL ι new (xs.take (Nat.min k n * es)) := by rw [q2]; exact hxs.take _
    obtain ⟨L, w', hL, hst, hR', hE⟩ := hR.over hg hro hov hnl hone
    simp only [R] at hsv
    obtain ⟨L', c', hL', hsv2, _⟩ := hsv
    rw [hL] at hL'; cases hL'
    refine ⟨by simp, goInt (Nat.min k n : Nat), w', ι, ?_, hR', hE, by simp only [R]; rfl⟩
    have e : (Builtin.copy_ ts ty #[sv, xv]).run P w = .ok (goInt (Nat.min k n : Nat)) w' := by
      subst hts2; subst hsv2
      unfold Builtin.copy_
      simp [run_underlying hu, hlen, sizeOf_run hs, hff, hst]
    rw [hb, ha]
    simp only [builtin, Sem.run_bind]
    rw [show ([sv, xv] : List Value).toArray = #[sv, xv] from rfl, e]
    rfl
  · trivial
theorem good_strBytes {src d el : TypeId} (x : Operand) (hs : P.underlying src = some .string) (hd : P.underlying d = some (.slice el)) (he : P.underlying el = some (.int .u8)) :
    Good P nt ⟨dst, .convert src d x, ty, pos, after, guard⟩ (withN P nt [x] (.hv (hStrBytes el))) := by
  refine goodH fun ι ρ m w ps hR hps => ?_
  unfold hStrBytes
  split
  · rename_i s
    obtain ⟨p, e1, hp⟩ := hps.of1
    cases e1
    simp only [R] at hp
    have hrun := run_bytes_of_string (P := P) w src d el ⟨⟨s⟩⟩ hs hd he
    have hge := grown_ge w s.length 0 el
    rw [len_eq, mapL_eq]
    have hsz : (bytesRow ⟨⟨s⟩⟩ (grownCap w s.length 0 el)).toList.length = grownCap w s.length 0 el := by
      simp [bytesRow, str_size]; omega
    refine rowNew_ok (cap := grownCap w s.length 0 el) (row := (bytesRow ⟨⟨s⟩⟩ (grownCap w s.length 0 el)).toList) (fr := ((bytesRow ⟨⟨s⟩⟩ (grownCap w s.length 0 el)).size, (bytesRow ⟨⟨s⟩⟩ (grownCap w s.length 0 el)).size + 1)) hR ?_ ?_ ?_ ?_ hge ?_
    · have e : List.take (List.map (fun b => AV.int .u8 (Int.ofNat (byteNo b))) s).length (bytesRow ⟨⟨s⟩⟩ (grownCap w s.length 0 el)).toList = s.map fun b => Value.int .u8 b.toNat := by
        simp [bytesRow]
      rw [e]
      apply RL.ext
      · simp
      · intro i x y h1 h2
        simp only [List.getElem?_map, Option.map_eq_some_iff] at h1 h2
        obtain ⟨b, hb, rfl⟩ := h1
        obtain ⟨b', hb', rfl⟩ := h2
        rw [hb] at hb'; cases hb'
        simp only [R]; rfl
    · rw [hsz]; simpa using hge
    · intro i hi
      simp at hi
      omega
    · rw [hsz]; simp
    · intro _
      simp only [execOp, Sem.run_bind, hp]
      rw [str_size] at hrun
      rw [hrun]
      rfl
  · trivial
end
end Go.K
end
