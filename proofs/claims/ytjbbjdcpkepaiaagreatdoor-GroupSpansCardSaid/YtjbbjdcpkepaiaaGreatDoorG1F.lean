/- A part of a proof over an evaluator for programs of this form: G1F. -/
import Derived.Test.YtjbbjdcpkepaiaaGreatDoorG1E
import Derived.Test.YtjbbjdcpkepaiaaGreatDoorH1
set_option linter.all false
set_option autoImplicit false
namespace Go.K
open Go Go.Proofs
/-! strings.HasPrefix as a primitive; the tables alone. -/
noncomputable def prefB (p : List UInt8) : List UInt8 → Bool :=
  List.rec (motive := fun _ => List UInt8 → Bool) (fun _ => true) (fun b _ ih s => List.casesOn s false fun c s => Bool.casesOn (Nat.beq (byteNo b) (byteNo c)) false (ih s)) p
noncomputable def gPref : List AV → Option AV := fun args => match args with
  | [.str s, .str p] => some (.bool (prefB p s))
  | _ => none
theorem prefB_eq : ∀ (p s : List UInt8), prefB p s = decide (p <+: s)
  | [], s => by simp [prefB]
  | b :: p, [] => by simp [prefB]
  | b :: p, c :: s => by
    have e : prefB (b :: p) (c :: s) = Bool.rec (motive := fun _ => Bool) false (prefB p s) (Nat.beq (byteNo b) (byteNo c)) := rfl
    rw [e, byteNo_eq, prefB_eq p s]
    cases h : (b == c) with
    | true =>
      have : b = c := by simpa using h
      subst this
      simp [List.cons_prefix_cons]
    | false =>
      have : b ≠ c := by simpa using h
      simp [List.cons_prefix_cons, this]
theorem gPref_ok : GOk Tryz.prog id_strings_HasPrefix (gPure gPref) := by
  refine gPure_run (cfg_ok pr0_ok) (F := 2) fun args v m h => ?_
  unfold gPref at h
  split at h
  · cases h
    rw [prefB_eq]
    exact run_HasPrefix _ _ _ 0 rfl rfl
  · cases h
noncomputable def pr1 : Prims := prOr id_strings_HasPrefix (gPure gPref) pr0
theorem pr1_ok : PrOk Tryz.prog pr1 := prOr_ok gPref_ok pr0_ok
noncomputable def mG : Mem := ((⟨64, 64, .nil, []⟩ : Mem).put 0 (rowOf firstTab)).put 1 (rowOf acceptTab)
theorem mG_small : Small Tryz.prog 64 mG where
  next := rfl
  ro := rfl
  size := by decide
  to o x h := by
    unfold mG at h
    rw [Mem.get_put, Mem.get_put] at h
    split at h
    · rename_i e; subst e; cases h; kernel_rfl
    · split at h
      · rename_i e; subst e; cases h; kernel_rfl
      · cases o <;> cases h
  of o x h := by
    have h1 := glOf_lt h
    have h2 : Tryz.prog.globals.size = 8 := by kernel_rfl
    rw [h2] at h1
    have k0 : glOf Tryz.prog 0 = mG.get 0 := by kernel_rfl
    have k1 : glOf Tryz.prog 1 = mG.get 1 := by kernel_rfl
    have k2 : glOf Tryz.prog 2 = mG.get 2 := by kernel_rfl
    have k3 : glOf Tryz.prog 3 = mG.get 3 := by kernel_rfl
    have k4 : glOf Tryz.prog 4 = mG.get 4 := by kernel_rfl
    have k5 : glOf Tryz.prog 5 = mG.get 5 := by kernel_rfl
    have k6 : glOf Tryz.prog 6 = mG.get 6 := by kernel_rfl
    have k7 : glOf Tryz.prog 7 = mG.get 7 := by kernel_rfl
    have key : ∀ i, i < 8 → glOf Tryz.prog i = mG.get i := by
      intro i hi
      rcases (by omega : i = 0 ∨ i = 1 ∨ i = 2 ∨ i = 3 ∨ i = 4 ∨ i = 5 ∨ i = 6 ∨ i = 7) with rfl | rfl | rfl | rfl | rfl | rfl | rfl | rfl
      · exact k0
      · exact k1
      · exact k2
      · exact k3
      · exact k4
      · exact k5
      · exact k6
      · exact k7
    rw [← key o h1]; exact h
end Go.K
