/- A part of a proof over an evaluator for programs of this form: G1E. -/
import Derived.Test.YtjbbjdcpkepaiaaGreatDoorG1D
set_option linter.all false
set_option autoImplicit false
namespace Go.K
open Go Go.Proofs
theorem mixed : Tryz.prog.follows .mixedOrders = true := by kernel_rfl
theorem funcs_ok : funcsB Tryz.prog planT Tryz.prog.funcs.toList 0 = true := by kernel_rfl
theorem ng_all : (Tryz.prog.funcs.toList.all fun fn => (fn.name == "runtime.NumGoroutine") == false) = true := by kernel_rfl
theorem ng_ok : NoNG Tryz.prog := by
  intro f fn hf
  have := List.all_eq_true.1 ng_all fn (by rw [Array.mem_toList_iff]; exact Array.mem_of_getElem? hf)
  simpa using this
theorem cfg_ok {pr : Prims} (h : PrOk Tryz.prog pr) : CfgOk (cfgP pr) where
  ng := ng_ok
  dn := dn_ok
  prim f g hg args v m m' ι w vals := h f g hg args v m m' ι w vals
  draw := draws_ok mixed funcs_ok
noncomputable def pr0 : Prims := prOr id_internal_bytealg_IndexByteString (gPure gIndexByte) (prOr id_internal_abi_NoEscape (gPure gSame) prNone)
theorem pr0_ok : PrOk Tryz.prog pr0 :=
  prOr_ok (gIndexByte_ok Tryz.func225 (by kernel_rfl) (by kernel_rfl) (by kernel_rfl) (by kernel_rfl)) (prOr_ok (gSame_ok Tryz.func104 (by kernel_rfl) (by kernel_rfl) (by kernel_rfl) (by kernel_rfl)) prNone_ok)
end Go.K
