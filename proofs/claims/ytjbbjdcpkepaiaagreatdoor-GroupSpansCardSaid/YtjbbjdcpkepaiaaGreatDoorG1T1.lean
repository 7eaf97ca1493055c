/- A part of a proof over an evaluator for programs of this form: G1T1. -/
import Derived.Test.YtjbbjdcpkepaiaaGreatDoorG1P10
set_option linter.all false
set_option autoImplicit false
namespace Go.K
open Go Go.Proofs
noncomputable def t_cpat_Parse : List (List AV × Ent) := [([.str [48, 75]], E_cpat_Parse_0),
  ([.str [48, 48, 75]], E_cpat_Parse_1),
  ([.str [48, 48, 48, 75]], E_cpat_Parse_2),
  ([.str [48, 77]], E_cpat_Parse_3),
  ([.str [48, 48, 77]], E_cpat_Parse_4),
  ([.str [48, 48, 48, 77]], E_cpat_Parse_5),
  ([.str [48, 66]], E_cpat_Parse_6),
  ([.str [48, 32, 116, 104, 111, 117, 115, 97, 110, 100]], E_cpat_Parse_7),
  ([.str [48, 32, 116, 104, 111, 117, 115, 97, 110, 100, 115]], E_cpat_Parse_8),
  ([.str [48, 32, 109, 105, 108, 108, 105, 111, 110]], E_cpat_Parse_9),
  ([.str [48, 32, 109, 105, 108, 108, 105, 111, 110, 115]], E_cpat_Parse_10),
  ([.str [194, 164, 48, 75]], E_cpat_Parse_11),
  ([.str [194, 164, 48, 48, 75]], E_cpat_Parse_12),
  ([.str [194, 164, 48, 48, 48, 75]], E_cpat_Parse_13),
  ([.str [194, 164, 48, 77]], E_cpat_Parse_14),
  ([.str [194, 164, 48, 48, 77]], E_cpat_Parse_15),
  ([.str [194, 164, 48, 48, 48, 77]], E_cpat_Parse_16),
  ([.str [194, 164, 48, 66]], E_cpat_Parse_17),
  ([.str [48]], E_cpat_Parse_18),
  ([.str [48, 87]], E_cpat_Parse_19),
  ([.str [48, 89]], E_cpat_Parse_20)]
theorem t_cpat_Parse_ok : GOk Tryz.prog id_cpat_Parse (tabF 64 t_cpat_Parse) := tabF_ok _ (List.forall_mem_cons.2 ⟨ent_ok (cfg_ok pr2_ok) mG_small (by kernel_rfl) (by kernel_rfl) E_cpat_Parse_0_ok,
    List.forall_mem_cons.2 ⟨ent_ok (cfg_ok pr2_ok) mG_small (by kernel_rfl) (by kernel_rfl) E_cpat_Parse_1_ok,
    List.forall_mem_cons.2 ⟨ent_ok (cfg_ok pr2_ok) mG_small (by kernel_rfl) (by kernel_rfl) E_cpat_Parse_2_ok,
    List.forall_mem_cons.2 ⟨ent_ok (cfg_ok pr2_ok) mG_small (by kernel_rfl) (by kernel_rfl) E_cpat_Parse_3_ok,
    List.forall_mem_cons.2 ⟨ent_ok (cfg_ok pr2_ok) mG_small (by kernel_rfl) (by kernel_rfl) E_cpat_Parse_4_ok,
    List.forall_mem_cons.2 ⟨ent_ok (cfg_ok pr2_ok) mG_small (by kernel_rfl) (by kernel_rfl) E_cpat_Parse_5_ok,
    List.forall_mem_cons.2 ⟨ent_ok (cfg_ok pr2_ok) mG_small (by kernel_rfl) (by kernel_rfl) E_cpat_Parse_6_ok,
    List.forall_mem_cons.2 ⟨ent_ok (cfg_ok pr2_ok) mG_small (by kernel_rfl) (by kernel_rfl) E_cpat_Parse_7_ok,
    List.forall_mem_cons.2 ⟨ent_ok (cfg_ok pr2_ok) mG_small (by kernel_rfl) (by kernel_rfl) E_cpat_Parse_8_ok,
    List.forall_mem_cons.2 ⟨ent_ok (cfg_ok pr2_ok) mG_small (by kernel_rfl) (by kernel_rfl) E_cpat_Parse_9_ok,
    List.forall_mem_cons.2 ⟨ent_ok (cfg_ok pr2_ok) mG_small (by kernel_rfl) (by kernel_rfl) E_cpat_Parse_10_ok,
    List.forall_mem_cons.2 ⟨ent_ok (cfg_ok pr2_ok) mG_small (by kernel_rfl) (by kernel_rfl) E_cpat_Parse_11_ok,
    List.forall_mem_cons.2 ⟨ent_ok (cfg_ok pr2_ok) mG_small (by kernel_rfl) (by kernel_rfl) E_cpat_Parse_12_ok,
    List.forall_mem_cons.2 ⟨ent_ok (cfg_ok pr2_ok) mG_small (by kernel_rfl) (by kernel_rfl) E_cpat_Parse_13_ok,
    List.forall_mem_cons.2 ⟨ent_ok (cfg_ok pr2_ok) mG_small (by kernel_rfl) (by kernel_rfl) E_cpat_Parse_14_ok,
    List.forall_mem_cons.2 ⟨ent_ok (cfg_ok pr2_ok) mG_small (by kernel_rfl) (by kernel_rfl) E_cpat_Parse_15_ok,
    List.forall_mem_cons.2 ⟨ent_ok (cfg_ok pr2_ok) mG_small (by kernel_rfl) (by kernel_rfl) E_cpat_Parse_16_ok,
    List.forall_mem_cons.2 ⟨ent_ok (cfg_ok pr2_ok) mG_small (by kernel_rfl) (by kernel_rfl) E_cpat_Parse_17_ok,
    List.forall_mem_cons.2 ⟨ent_ok (cfg_ok pr2_ok) mG_small (by kernel_rfl) (by kernel_rfl) E_cpat_Parse_18_ok,
    List.forall_mem_cons.2 ⟨ent_ok (cfg_ok pr2_ok) mG_small (by kernel_rfl) (by kernel_rfl) E_cpat_Parse_19_ok,
    List.forall_mem_cons.2 ⟨ent_ok (cfg_ok pr2_ok) mG_small (by kernel_rfl) (by kernel_rfl) E_cpat_Parse_20_ok,
    (fun _ h => by cases h)⟩⟩⟩⟩⟩⟩⟩⟩⟩⟩⟩⟩⟩⟩⟩⟩⟩⟩⟩⟩⟩)
noncomputable def pr3 : Prims := prOr id_cpat_Parse (tabF 64 t_cpat_Parse) (pr2)
theorem pr3_ok : PrOk Tryz.prog pr3 := prOr_ok t_cpat_Parse_ok (pr2_ok)
end Go.K
