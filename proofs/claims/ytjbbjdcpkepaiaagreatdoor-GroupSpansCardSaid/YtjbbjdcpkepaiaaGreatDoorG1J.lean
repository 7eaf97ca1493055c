/- A part of a proof over an evaluator for programs of this form: G1J. -/
import Derived.Test.YtjbbjdcpkepaiaaGreatDoorG1I
import Derived.Test.YtjbbjdcpkepaiaaGreatDoorG1Z
import Derived.Test.YtjbbjdcpkepaiaaGreatDoorLI
import Derived.Test.YtjbbjdcpkepaiaaGreatDoorCards
import Derived.Test.YtjbbjdcpkepaiaaGreatDoorTie
import Derived.WalkKit
import Derived.ProofKit
import Derived.OpenShut
import Derived.Deep.DeepHandedRow
import Derived.Deep.DeepWitnessRowRef
import Derived.Deep.SlicePairs
import Derived.Lay
set_option linter.all false
set_option autoImplicit false
namespace Go.K
open Go Go.Proofs Go.Proofs.YtjbbjdcpkepaiaaGreatDoor
open Go.ChangeShapes Go.WideShapes Go.ChangeAt Go.RowKit
/-! A call's beginning in this program: the tables. -/
theorem laid_plain {W : World} (h : laidMetH Tryz.prog Rows.groupSpansRow.laid W) : laidMet Tryz.prog Rows.groupSpansRow.laid W := by
  have e : (Rows.groupSpansRow.laid.filter fun x => x.2.handleName?.isSome) = [] := by kernel_rfl
  unfold laidMetH at h
  rw [e] at h
  exact h
theorem tabs {W : World} (h : laidMetH Tryz.prog Rows.groupSpansRow.laid W) : Tabs Tryz.prog W := by
  obtain ⟨ps, hl, _, _⟩ := laid_plain h
  have gsz : Tryz.prog.globals.size = 8 := by kernel_rfl
  have at0 : ∀ (n : String) d g, (n, d) ∈ Rows.groupSpansRow.laid → Tryz.prog.globalNamed n = some g → ∃ (c : Array Value) (ty t : TypeId) (fr : Nat × Nat) (fuel : Nat) (p : List MemPlace), (Tryz.prog.globals[g]?).map (·.type) = some t ∧ W.heap[g]? = some (.cells c ty fr) ∧ DataW.trod (fun _ => ()) Tryz.prog W 0 (fun _ => true) false fuel t c.toList = some (d, p) := by
    intro n d g hm hg
    obtain ⟨g', t, cs, fuel, p, h1, h2, h3, h4⟩ := laid_mem hl n d hm
    obtain ⟨g2, c, ty, fr, k1, k2, rfl⟩ := laid_heap h3
    rw [hg] at h1 k1
    cases h1; cases k1
    exact ⟨c, ty, t, fr, fuel, p, h2, k2, h4⟩
  refine ⟨?_, ?_⟩
  · obtain ⟨c, ty, t, fr, fuel, p, _, k, _⟩ := at0 "math/bits.deBruijn64tab" Rows.laid_math_bits_deBruijn64tab 7 (by simp [Rows.groupSpansRow]) (by kernel_rfl)
    rw [gsz]
    have := (Array.getElem?_eq_some_iff.1 k).1
    omega
  · intro o x hx
    have hlt := glOf_lt hx
    rw [gsz] at hlt
    have hx' : mG.get o = some x := mG_small.of o x hx
    have h0 : o = 0 ∨ o = 1 := by
      unfold mG at hx'
      rw [Mem.get_put, Mem.get_put] at hx'
      by_cases e1 : o = 1
      · exact .inr e1
      · by_cases e0 : o = 0
        · exact .inl e0
        · simp [e0, e1] at hx'
          cases hx'
    rcases h0 with rfl | rfl
    · obtain ⟨c, ty, t, fr, fuel, p, k1, k2, k3⟩ := at0 "unicode/utf8.first" Rows.laid_unicode_utf8_first 0 (by simp [Rows.groupSpansRow]) (by kernel_rfl)
      have ht : t = 281 := by
        have : (Tryz.prog.globals[0]?).map (·.type) = some 281 := by kernel_rfl
        rw [this] at k1; cases k1; rfl
      subst ht
      have hd : (Rows.laid_unicode_utf8_first : DataW Unit) = Lib.tabData .u8 (firstTab.map Int.ofNat) := by kernel_rfl
      rw [hd] at k3
      have hc := Lib.cells_of_tab Tryz.underlying281 Tryz.underlying5 (by kernel_rfl) (by kernel_rfl) k3
      have hr : glOf Tryz.prog 0 = some (rowOf firstTab) := by kernel_rfl
      rw [hr] at hx; cases hx
      exact ⟨firstTab, c, ty, fr, rfl, k2, by rw [hc, List.map_map]; rfl⟩
    · obtain ⟨c, ty, t, fr, fuel, p, k1, k2, k3⟩ := at0 "unicode/utf8.acceptRanges" Rows.laid_unicode_utf8_acceptRanges 1 (by simp [Rows.groupSpansRow]) (by kernel_rfl)
      have ht : t = 284 := by
        have : (Tryz.prog.globals[1]?).map (·.type) = some 284 := by kernel_rfl
        rw [this] at k1; cases k1; rfl
      subst ht
      have hd : (Rows.laid_unicode_utf8_acceptRanges : DataW Unit) = .agg ((([(128, 191), (160, 191), (128, 159), (144, 191), (128, 143)] ++ List.replicate 11 (0, 0) : List (Int × Int))).map fun z : Int × Int => .agg [.lit (.int .u8 z.1), .lit (.int .u8 z.2)]) := by kernel_rfl
      rw [hd] at k3
      have hc := cells_of_pairs Tryz.underlying284 Tryz.underlying283 rfl rfl Tryz.underlying5 Tryz.underlying5 (by kernel_rfl) (by kernel_rfl) (by kernel_rfl) (by kernel_rfl) k3
      have hr : glOf Tryz.prog 1 = some (rowOf acceptTab) := by kernel_rfl
      rw [hr] at hx; cases hx
      exact ⟨acceptTab, c, ty, fr, rfl, k2, by rw [hc]; rfl⟩
theorem std6 : StdGS pr6 where
  cc := rfl
  ws := rfl
  wb := rfl
  st := rfl
  ne := rfl
  law := rfl
  text := rfl
  spans := rfl
  head F m := by cases m; rfl
def partsV (ps : List Pt) : List Value := ps.flatMap fun p => [Value.int .i64 p.1, .string ⟨⟨p.2⟩⟩]
theorem partsV_len : ∀ (ps : List Pt), (partsV ps).length = ps.length * 2
  | [] => rfl
  | p :: ps => by
    show ([Value.int .i64 p.1, .string ⟨⟨p.2⟩⟩] ++ partsV ps).length = _
    rw [List.length_append, partsV_len ps]; simp; omega
theorem parts_R {ι : Emb} : ∀ (ps : List Pt), RL ι (parts ps) (partsV ps)
  | [] => by simp [parts, partsV, RL]
  | p :: ps => by
    show RL ι (.int .i64 p.1 :: .str p.2 :: parts ps) (Value.int .i64 p.1 :: .string ⟨⟨p.2⟩⟩ :: partsV ps)
    exact RL.cons (by simp [R]) (RL.cons (by simp [R]) (parts_R ps))
theorem partsV_get : ∀ (ps : List Pt) (j : Nat) (v : Value), (partsV ps)[j]? = some v → ∃ i p, ps[i]? = some p ∧ ((j = i * 2 ∧ v = .int .i64 p.1) ∨ (j = i * 2 + 1 ∧ v = .string ⟨⟨p.2⟩⟩))
  | [], j, v, h => by cases h
  | p :: ps, 0, v, h => ⟨0, p, rfl, .inl ⟨rfl, by cases h; rfl⟩⟩
  | p :: ps, 1, v, h => ⟨0, p, rfl, .inr ⟨rfl, by cases h; rfl⟩⟩
  | p :: ps, j + 2, v, h => by
    obtain ⟨i, q, h1, h2⟩ := partsV_get ps j v h
    exact ⟨i + 1, q, h1, h2.imp (fun ⟨a, b⟩ => ⟨by omega, b⟩) (fun ⟨a, b⟩ => ⟨by omega, b⟩)⟩
theorem body7 : Tryz.f7.body.isSome = true := by kernel_rfl
theorem calls_at7 {args : List AV} {vals : Array Value} {m m' : Mem} {v : AV} {ι : Emb} {w : World} (hR : Rep Tryz.prog ι m w) (hro : m.ro = m.next) (hargs : RL ι args vals.toList)
    (h : callK (cfgP pr6) 5 7 args m = .ret v m') : Calls Tryz.prog 7 vals w (fun e w' => ∃ u, e = .returned u ∧ (∃ ι', R ι' v u) ∧ Go.RowKit.Below w.heap.size w w') :=
  calls_of_run (c := cfgP pr6) (f := 7) (fn := Tryz.f7) (cfg_ok pr6_ok) hR hro hargs Tryz.func7 body7 h
theorem RL_one {ι : Emb} {a : AV} {v : Value} (h : R ι a v) : RL ι [a] (#[v] : Array Value).toList := RL.cons h RL.nil
theorem R_true {ι : Emb} {u : Value} (h : R ι (.bool true) u) : u = .bool true := h
theorem add_at (b o j : Nat) : (⟨b, o, none⟩ : Addr).add j = ⟨b, o + j, none⟩ := by unfold Addr.add; split <;> simp_all
set_option maxRecDepth 100000 in
theorem walk_GS {W : World} (h : laidMetH Tryz.prog Rows.groupSpansRow.laid W) {H : Type} {enc : TypeId × Value → H} {v : Value} {d : DataW H} {ps : List MemPlace} {base : Nat} (hok : Value.okWide Tryz.prog W .any base 29 v)
    (ht : DataW.Trod enc Tryz.prog W 0 (fun _ => true) true 29 v d ps) : Calls Tryz.prog 7 #[v] W fun e W' => e = .returned (.bool true) ∧ Below W.heap.size W W' := by
  have hR := (tabs h).rep mG_small
  have fin : ∀ {m m' : Mem} {ι : Emb} {a : AV}, Rep Tryz.prog ι m W → m.ro = m.next → R ι a v → callK (cfgP pr6) 5 id_florinlaw18_GroupSpans [a] m = .ret (.bool true) m' → Calls Tryz.prog 7 #[v] W fun e W' => e = .returned (.bool true) ∧ Below W.heap.size W W' := by
    intro m m' ι a h1 h2 h3 h4
    refine (calls_at7 h1 h2 (RL_one h3) h4).mono fun e W' ⟨u, e1, ⟨ι', e2⟩, e3⟩ => ?_
    subst e1
    rw [R_true e2]
    exact ⟨rfl, e3⟩
  obtain ⟨a0, len0, cap0, rfl⟩ := okWide_slice Tryz.underlying29 hok
  obtain ⟨fuel, hf⟩ := ht
  rcases Go.Deep.open_slice_pairs Tryz.underlying29 Tryz.underlying68 (by kernel_rfl) rfl rfl (by kernel_rfl) (by kernel_rfl) hf with ⟨hc, _⟩ | ⟨a, len, cap, m, k, V0, V1, D0, D1, P0, P1, hc, _, hle, hmax, rfl, _, each⟩
  · simp [Value.cells] at hc
    obtain ⟨rfl, rfl, rfl⟩ := hc
    exact fin hR (by rw [mG_small.ro, mG_small.next]) (a := .nil .slice) (by simp [R]) (run_GS_nil std6)
  · simp [Value.cells] at hc
    obtain ⟨rfl, rfl, rfl⟩ := hc
    have hsp : a.spot = none ∧ ∃ row cells, W.shape? a.block = some (row, cells) := by
      simp only [Value.okWide, Tryz.underlying29, Cell.okWide, Cell.ok, World.has] at hok
      obtain ⟨_, _, _, h2, row, cells, h3, _⟩ := hok
      exact ⟨h2, row, cells, h3⟩
    obtain ⟨hspot, row, cells, hsh⟩ := hsp
    obtain ⟨b, off, spot⟩ := a
    simp only at hspot
    subst hspot
    simp only [if_true] at each
    have hv : ∀ i, i < len0 → ∃ p : Pt, V0 i = .int .i64 p.1 ∧ V1 i = .string ⟨⟨p.2⟩⟩ := by
      intro i hi
      obtain ⟨_, _, h3, h4⟩ := each i (by omega)
      obtain ⟨n, e1, _⟩ := DataW.trod_int Tryz.underlying66 h3
      obtain ⟨s, e2, _⟩ := DataW.trod_string Tryz.underlying9 h4
      exact ⟨⟨n, s.data.toList⟩, by simpa using e1, by simpa using e2⟩
    -- the parts
    have hps : ∃ ps : List Pt, ps.length = len0 ∧ ∀ i p, ps[i]? = some p → V0 i = .int .i64 p.1 ∧ V1 i = .string ⟨⟨p.2⟩⟩ := by
      refine ⟨List.ofFn fun i : Fin len0 => (hv i.1 i.2).choose, by simp, fun i p hp => ?_⟩
      obtain ⟨hi, e⟩ := List.getElem?_eq_some_iff.1 hp
      simp at hi e
      subst e
      exact (hv i hi).choose_spec
    obtain ⟨ps, hn, hps⟩ := hps
    have cells : ∀ j v, (partsV ps)[j]? = some v → W.cell? ⟨b, off + j, none⟩ = some v := by
      intro j v hj
      obtain ⟨i, p, hp, hh⟩ := partsV_get ps j v hj
      obtain ⟨q1, q2⟩ := hps i p hp
      obtain ⟨c1, c2, _⟩ := each i (by have := (List.getElem?_eq_some_iff.1 hp).1; omega)
      rcases hh with ⟨rfl, rfl⟩ | ⟨rfl, rfl⟩
      · rw [add_at, q1] at c1; exact c1
      · rw [add_at, q2] at c2; exact c2
    rcases Nat.eq_zero_or_pos len0 with e | hpos
    · subst e
      obtain rfl : ps = [] := List.eq_nil_of_length_eq_zero hn
      have hR2 := hR.arg (x := .blk [] noTy false) (L := ⟨b, 0, 0, false⟩) (none_holds hsh)
      refine fin hR2 (by simp) (a := .slice mG.next off 0 (some cap0) 2) ?_ (run_GS (ps := []) std6 rfl (by omega) (.inl rfl) (by simp))
      simp only [R]
      exact ⟨_, cap0, upd_same _ _, by simp, by omega, by intro k hk; cases hk; rfl, by intro hk; cases hk⟩
    · have hR2 := hR.arg (x := .blk (parts ps) noTy false) (L := ⟨b, off, (partsV ps).length, false⟩) (row_holds (by rw [partsV_len]; omega) cells fun ι => parts_R ps)
      have ha : R (upd (iota0 Tryz.prog W) mG.next ⟨b, off, (partsV ps).length, false⟩) (.slice mG.next 0 len0 (some cap0) 2) (.slice (some ⟨b, off, none⟩) len0 cap0) := by
        simp only [R]
        exact ⟨_, cap0, upd_same _ _, by simp, by omega, by intro k hk; cases hk; rfl, by intro hk; cases hk⟩
      by_cases h40 : 40 < len0
      · exact fin hR2 (by simp) ha (run_GS_long std6 h40)
      · refine fin hR2 (by simp) ha (run_GS std6 hn (by omega) (.inr ⟨parts ps, noTy, false, ?_, ?_, ?_⟩) (by simp))
        · rw [shut_get, Mem.get_new, if_pos rfl]
        · rw [parts_len]; omega
        · rw [List.drop_zero, ← parts_len, List.take_length]
theorem laid_out : laidOutB Tryz.prog = true := by kernel_rfl
theorem read29 : Tryz.prog.readableRec 29 = true ∧ 29 < Tryz.prog.types.size := ⟨by kernel_rfl, of_decide_eq_true (by kernel_rfl)⟩
end Go.K
