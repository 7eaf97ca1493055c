/- A part of a proof over an evaluator for programs of this form: G1I. -/
import Derived.Test.YtjbbjdcpkepaiaaGreatDoorG1H0
import Derived.Test.YtjbbjdcpkepaiaaGreatDoorG1H1
import Derived.Test.YtjbbjdcpkepaiaaGreatDoorG1H2
set_option linter.all false
set_option autoImplicit false
namespace Go.K
open Go Go.Proofs
set_option maxRecDepth 100000
/-! Each locale as a primitive; then the heads. -/
noncomputable def g18 : List AV → Mem → Option VM := fun args m => match args with
  | [.int .i64 n] => pick3 (thr n) (entM 64 E_florinlaw18_Base_0 m) (entM 64 E_florinlaw18_Base_1 m) (entM 64 E_florinlaw18_Base_2 m)
  | _ => none
theorem g18_ok : GOk Tryz.prog id_florinlaw18_Base g18 := by
  intro args v m m' ι w vals hR ha hg
  unfold g18 at hg
  split at hg
  · rename_i n
    rcases thr_cases n with h | h | h
    · rw [pick3_0 h] at hg
      exact ent_ok (cfg_ok pr4_ok) mG_small (by kernel_rfl) (by kernel_rfl) (E18_0_ok n h) v m m' ι w vals hR ha hg
    · rw [pick3_1 h] at hg
      exact ent_ok (cfg_ok pr4_ok) mG_small (by kernel_rfl) (by kernel_rfl) (E18_1_ok n h) v m m' ι w vals hR ha hg
    · rw [pick3_2 h] at hg
      exact ent_ok (cfg_ok pr4_ok) mG_small (by kernel_rfl) (by kernel_rfl) (E18_2_ok n h) v m m' ι w vals hR ha hg
  · cases hg
noncomputable def pr5 : Prims := prOr id_florinlaw18_Base g18 pr4
theorem pr5_ok : PrOk Tryz.prog pr5 := prOr_ok g18_ok pr4_ok
noncomputable def E_true : Ent := ⟨.bool true, []⟩
theorem florinlaw18_head_run : chk 64 [] (callK (cfgP pr5) 100 id_florinlaw18_head [] mG) E_true = true := by kernel_rfl
theorem florinlaw18_head_ok : GOk Tryz.prog id_florinlaw18_head (tabF 64 [([], E_true)]) := tabF_ok _ (List.forall_mem_cons.2 ⟨ent_ok (cfg_ok pr5_ok) mG_small (by kernel_rfl) (by kernel_rfl) florinlaw18_head_run, fun _ h => by cases h⟩)
theorem florinlaw21_head_run : chk 64 [] (callK (cfgP pr5) 100 id_florinlaw21_head [] mG) E_true = true := by kernel_rfl
theorem florinlaw21_head_ok : GOk Tryz.prog id_florinlaw21_head (tabF 64 [([], E_true)]) := tabF_ok _ (List.forall_mem_cons.2 ⟨ent_ok (cfg_ok pr5_ok) mG_small (by kernel_rfl) (by kernel_rfl) florinlaw21_head_run, fun _ h => by cases h⟩)
noncomputable def pr6 : Prims := prOr id_florinlaw21_head (tabF 64 [([], E_true)]) (prOr id_florinlaw18_head (tabF 64 [([], E_true)]) (pr5))
theorem pr6_ok : PrOk Tryz.prog pr6 := prOr_ok florinlaw21_head_ok (prOr_ok florinlaw18_head_ok (pr5_ok))
end Go.K
