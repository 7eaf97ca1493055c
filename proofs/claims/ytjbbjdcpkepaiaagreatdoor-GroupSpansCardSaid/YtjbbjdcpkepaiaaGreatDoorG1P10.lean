/- A part of a proof over an evaluator for programs of this form: G1P10. -/
import Derived.Test.YtjbbjdcpkepaiaaGreatDoorG1T0
set_option linter.all false
set_option autoImplicit false
/-! What runs at the tables' texts come to: made by program. -/
namespace Go.K
open Go Go.Proofs
set_option maxRecDepth 100000
noncomputable def E_cpat_Parse_0 : Ent := ⟨.tuple [.agg [.int .i64 1, .bool false, .nil .slice, .slice 64 0 1 none 3, .nil .slice, .nil .slice, .bool false, .int .i64 0, .int .i64 1, .int .i64 0, .int .i64 0, .int .i64 0, .int .i64 0], .int .i64 0, .int .i64 0],
    [.blk [.int .i64 0, .str [75], .int .i64 0] 113 false]⟩
theorem E_cpat_Parse_0_ok : chk 64 [65] (callK (cfgP pr2) 100 id_cpat_Parse [.str [48, 75]] mG) E_cpat_Parse_0 = true := by kernel_rfl
noncomputable def E_cpat_Parse_1 : Ent := ⟨.tuple [.agg [.int .i64 2, .bool false, .nil .slice, .slice 64 0 1 none 3, .nil .slice, .nil .slice, .bool false, .int .i64 0, .int .i64 2, .int .i64 0, .int .i64 0, .int .i64 0, .int .i64 0], .int .i64 0, .int .i64 0],
    [.blk [.int .i64 0, .str [75], .int .i64 0] 113 false]⟩
theorem E_cpat_Parse_1_ok : chk 64 [65] (callK (cfgP pr2) 100 id_cpat_Parse [.str [48, 48, 75]] mG) E_cpat_Parse_1 = true := by kernel_rfl
noncomputable def E_cpat_Parse_2 : Ent := ⟨.tuple [.agg [.int .i64 3, .bool false, .nil .slice, .slice 64 0 1 none 3, .nil .slice, .nil .slice, .bool false, .int .i64 0, .int .i64 3, .int .i64 0, .int .i64 0, .int .i64 0, .int .i64 0], .int .i64 0, .int .i64 0],
    [.blk [.int .i64 0, .str [75], .int .i64 0] 113 false]⟩
theorem E_cpat_Parse_2_ok : chk 64 [65] (callK (cfgP pr2) 100 id_cpat_Parse [.str [48, 48, 48, 75]] mG) E_cpat_Parse_2 = true := by kernel_rfl
noncomputable def E_cpat_Parse_3 : Ent := ⟨.tuple [.agg [.int .i64 1, .bool false, .nil .slice, .slice 64 0 1 none 3, .nil .slice, .nil .slice, .bool false, .int .i64 0, .int .i64 1, .int .i64 0, .int .i64 0, .int .i64 0, .int .i64 0], .int .i64 0, .int .i64 0],
    [.blk [.int .i64 0, .str [77], .int .i64 0] 113 false]⟩
theorem E_cpat_Parse_3_ok : chk 64 [65] (callK (cfgP pr2) 100 id_cpat_Parse [.str [48, 77]] mG) E_cpat_Parse_3 = true := by kernel_rfl
noncomputable def E_cpat_Parse_4 : Ent := ⟨.tuple [.agg [.int .i64 2, .bool false, .nil .slice, .slice 64 0 1 none 3, .nil .slice, .nil .slice, .bool false, .int .i64 0, .int .i64 2, .int .i64 0, .int .i64 0, .int .i64 0, .int .i64 0], .int .i64 0, .int .i64 0],
    [.blk [.int .i64 0, .str [77], .int .i64 0] 113 false]⟩
theorem E_cpat_Parse_4_ok : chk 64 [65] (callK (cfgP pr2) 100 id_cpat_Parse [.str [48, 48, 77]] mG) E_cpat_Parse_4 = true := by kernel_rfl
noncomputable def E_cpat_Parse_5 : Ent := ⟨.tuple [.agg [.int .i64 3, .bool false, .nil .slice, .slice 64 0 1 none 3, .nil .slice, .nil .slice, .bool false, .int .i64 0, .int .i64 3, .int .i64 0, .int .i64 0, .int .i64 0, .int .i64 0], .int .i64 0, .int .i64 0],
    [.blk [.int .i64 0, .str [77], .int .i64 0] 113 false]⟩
theorem E_cpat_Parse_5_ok : chk 64 [65] (callK (cfgP pr2) 100 id_cpat_Parse [.str [48, 48, 48, 77]] mG) E_cpat_Parse_5 = true := by kernel_rfl
noncomputable def E_cpat_Parse_6 : Ent := ⟨.tuple [.agg [.int .i64 1, .bool false, .nil .slice, .slice 64 0 1 none 3, .nil .slice, .nil .slice, .bool false, .int .i64 0, .int .i64 1, .int .i64 0, .int .i64 0, .int .i64 0, .int .i64 0], .int .i64 0, .int .i64 0],
    [.blk [.int .i64 0, .str [66], .int .i64 0] 113 false]⟩
theorem E_cpat_Parse_6_ok : chk 64 [65] (callK (cfgP pr2) 100 id_cpat_Parse [.str [48, 66]] mG) E_cpat_Parse_6 = true := by kernel_rfl
noncomputable def E_cpat_Parse_7 : Ent := ⟨.tuple [.agg [.int .i64 1, .bool false, .nil .slice, .slice 64 0 1 none 3, .nil .slice, .nil .slice, .bool false, .int .i64 0, .int .i64 1, .int .i64 0, .int .i64 0, .int .i64 0, .int .i64 0], .int .i64 0, .int .i64 0],
    [.blk [.int .i64 0, .str [32, 116, 104, 111, 117, 115, 97, 110, 100], .int .i64 0] 113 false]⟩
theorem E_cpat_Parse_7_ok : chk 64 [65] (callK (cfgP pr2) 100 id_cpat_Parse [.str [48, 32, 116, 104, 111, 117, 115, 97, 110, 100]] mG) E_cpat_Parse_7 = true := by kernel_rfl
noncomputable def E_cpat_Parse_8 : Ent := ⟨.tuple [.agg [.int .i64 1, .bool false, .nil .slice, .slice 64 0 1 none 3, .nil .slice, .nil .slice, .bool false, .int .i64 0, .int .i64 1, .int .i64 0, .int .i64 0, .int .i64 0, .int .i64 0], .int .i64 0, .int .i64 0],
    [.blk [.int .i64 0, .str [32, 116, 104, 111, 117, 115, 97, 110, 100, 115], .int .i64 0] 113 false]⟩
theorem E_cpat_Parse_8_ok : chk 64 [65] (callK (cfgP pr2) 100 id_cpat_Parse [.str [48, 32, 116, 104, 111, 117, 115, 97, 110, 100, 115]] mG) E_cpat_Parse_8 = true := by kernel_rfl
noncomputable def E_cpat_Parse_9 : Ent := ⟨.tuple [.agg [.int .i64 1, .bool false, .nil .slice, .slice 64 0 1 none 3, .nil .slice, .nil .slice, .bool false, .int .i64 0, .int .i64 1, .int .i64 0, .int .i64 0, .int .i64 0, .int .i64 0], .int .i64 0, .int .i64 0],
    [.blk [.int .i64 0, .str [32, 109, 105, 108, 108, 105, 111, 110], .int .i64 0] 113 false]⟩
theorem E_cpat_Parse_9_ok : chk 64 [65] (callK (cfgP pr2) 100 id_cpat_Parse [.str [48, 32, 109, 105, 108, 108, 105, 111, 110]] mG) E_cpat_Parse_9 = true := by kernel_rfl
noncomputable def E_cpat_Parse_10 : Ent := ⟨.tuple [.agg [.int .i64 1, .bool false, .nil .slice, .slice 64 0 1 none 3, .nil .slice, .nil .slice, .bool false, .int .i64 0, .int .i64 1, .int .i64 0, .int .i64 0, .int .i64 0, .int .i64 0], .int .i64 0, .int .i64 0],
    [.blk [.int .i64 0, .str [32, 109, 105, 108, 108, 105, 111, 110, 115], .int .i64 0] 113 false]⟩
theorem E_cpat_Parse_10_ok : chk 64 [65] (callK (cfgP pr2) 100 id_cpat_Parse [.str [48, 32, 109, 105, 108, 108, 105, 111, 110, 115]] mG) E_cpat_Parse_10 = true := by kernel_rfl
noncomputable def E_cpat_Parse_11 : Ent := ⟨.tuple [.agg [.int .i64 1, .bool false, .slice 64 0 1 none 3, .slice 65 0 1 none 3, .nil .slice, .nil .slice, .bool false, .int .i64 0, .int .i64 1, .int .i64 0, .int .i64 0, .int .i64 0, .int .i64 0], .int .i64 0, .int .i64 0],
    [.blk [.int .i64 5, .str [], .int .i64 1] 113 false,
      .blk [.int .i64 0, .str [75], .int .i64 0] 113 false]⟩
theorem E_cpat_Parse_11_ok : chk 64 [65, 66] (callK (cfgP pr2) 100 id_cpat_Parse [.str [194, 164, 48, 75]] mG) E_cpat_Parse_11 = true := by kernel_rfl
noncomputable def E_cpat_Parse_12 : Ent := ⟨.tuple [.agg [.int .i64 2, .bool false, .slice 64 0 1 none 3, .slice 65 0 1 none 3, .nil .slice, .nil .slice, .bool false, .int .i64 0, .int .i64 2, .int .i64 0, .int .i64 0, .int .i64 0, .int .i64 0], .int .i64 0, .int .i64 0],
    [.blk [.int .i64 5, .str [], .int .i64 1] 113 false,
      .blk [.int .i64 0, .str [75], .int .i64 0] 113 false]⟩
theorem E_cpat_Parse_12_ok : chk 64 [65, 66] (callK (cfgP pr2) 100 id_cpat_Parse [.str [194, 164, 48, 48, 75]] mG) E_cpat_Parse_12 = true := by kernel_rfl
noncomputable def E_cpat_Parse_13 : Ent := ⟨.tuple [.agg [.int .i64 3, .bool false, .slice 64 0 1 none 3, .slice 65 0 1 none 3, .nil .slice, .nil .slice, .bool false, .int .i64 0, .int .i64 3, .int .i64 0, .int .i64 0, .int .i64 0, .int .i64 0], .int .i64 0, .int .i64 0],
    [.blk [.int .i64 5, .str [], .int .i64 1] 113 false,
      .blk [.int .i64 0, .str [75], .int .i64 0] 113 false]⟩
theorem E_cpat_Parse_13_ok : chk 64 [65, 66] (callK (cfgP pr2) 100 id_cpat_Parse [.str [194, 164, 48, 48, 48, 75]] mG) E_cpat_Parse_13 = true := by kernel_rfl
noncomputable def E_cpat_Parse_14 : Ent := ⟨.tuple [.agg [.int .i64 1, .bool false, .slice 64 0 1 none 3, .slice 65 0 1 none 3, .nil .slice, .nil .slice, .bool false, .int .i64 0, .int .i64 1, .int .i64 0, .int .i64 0, .int .i64 0, .int .i64 0], .int .i64 0, .int .i64 0],
    [.blk [.int .i64 5, .str [], .int .i64 1] 113 false,
      .blk [.int .i64 0, .str [77], .int .i64 0] 113 false]⟩
theorem E_cpat_Parse_14_ok : chk 64 [65, 66] (callK (cfgP pr2) 100 id_cpat_Parse [.str [194, 164, 48, 77]] mG) E_cpat_Parse_14 = true := by kernel_rfl
noncomputable def E_cpat_Parse_15 : Ent := ⟨.tuple [.agg [.int .i64 2, .bool false, .slice 64 0 1 none 3, .slice 65 0 1 none 3, .nil .slice, .nil .slice, .bool false, .int .i64 0, .int .i64 2, .int .i64 0, .int .i64 0, .int .i64 0, .int .i64 0], .int .i64 0, .int .i64 0],
    [.blk [.int .i64 5, .str [], .int .i64 1] 113 false,
      .blk [.int .i64 0, .str [77], .int .i64 0] 113 false]⟩
theorem E_cpat_Parse_15_ok : chk 64 [65, 66] (callK (cfgP pr2) 100 id_cpat_Parse [.str [194, 164, 48, 48, 77]] mG) E_cpat_Parse_15 = true := by kernel_rfl
noncomputable def E_cpat_Parse_16 : Ent := ⟨.tuple [.agg [.int .i64 3, .bool false, .slice 64 0 1 none 3, .slice 65 0 1 none 3, .nil .slice, .nil .slice, .bool false, .int .i64 0, .int .i64 3, .int .i64 0, .int .i64 0, .int .i64 0, .int .i64 0], .int .i64 0, .int .i64 0],
    [.blk [.int .i64 5, .str [], .int .i64 1] 113 false,
      .blk [.int .i64 0, .str [77], .int .i64 0] 113 false]⟩
theorem E_cpat_Parse_16_ok : chk 64 [65, 66] (callK (cfgP pr2) 100 id_cpat_Parse [.str [194, 164, 48, 48, 48, 77]] mG) E_cpat_Parse_16 = true := by kernel_rfl
noncomputable def E_cpat_Parse_17 : Ent := ⟨.tuple [.agg [.int .i64 1, .bool false, .slice 64 0 1 none 3, .slice 65 0 1 none 3, .nil .slice, .nil .slice, .bool false, .int .i64 0, .int .i64 1, .int .i64 0, .int .i64 0, .int .i64 0, .int .i64 0], .int .i64 0, .int .i64 0],
    [.blk [.int .i64 5, .str [], .int .i64 1] 113 false,
      .blk [.int .i64 0, .str [66], .int .i64 0] 113 false]⟩
theorem E_cpat_Parse_17_ok : chk 64 [65, 66] (callK (cfgP pr2) 100 id_cpat_Parse [.str [194, 164, 48, 66]] mG) E_cpat_Parse_17 = true := by kernel_rfl
noncomputable def E_cpat_Parse_18 : Ent := ⟨.tuple [.agg [.int .i64 1, .bool true, .nil .slice, .nil .slice, .nil .slice, .nil .slice, .bool false, .int .i64 0, .int .i64 1, .int .i64 0, .int .i64 0, .int .i64 0, .int .i64 0], .int .i64 0, .int .i64 0],
    []⟩
theorem E_cpat_Parse_18_ok : chk 64 [] (callK (cfgP pr2) 100 id_cpat_Parse [.str [48]] mG) E_cpat_Parse_18 = true := by kernel_rfl
noncomputable def E_cpat_Parse_19 : Ent := ⟨.tuple [.agg [.int .i64 1, .bool false, .nil .slice, .slice 64 0 1 none 3, .nil .slice, .nil .slice, .bool false, .int .i64 0, .int .i64 1, .int .i64 0, .int .i64 0, .int .i64 0, .int .i64 0], .int .i64 0, .int .i64 0],
    [.blk [.int .i64 0, .str [87], .int .i64 0] 113 false]⟩
theorem E_cpat_Parse_19_ok : chk 64 [65] (callK (cfgP pr2) 100 id_cpat_Parse [.str [48, 87]] mG) E_cpat_Parse_19 = true := by kernel_rfl
noncomputable def E_cpat_Parse_20 : Ent := ⟨.tuple [.agg [.int .i64 1, .bool false, .nil .slice, .slice 64 0 1 none 3, .nil .slice, .nil .slice, .bool false, .int .i64 0, .int .i64 1, .int .i64 0, .int .i64 0, .int .i64 0, .int .i64 0], .int .i64 0, .int .i64 0],
    [.blk [.int .i64 0, .str [89], .int .i64 0] 113 false]⟩
theorem E_cpat_Parse_20_ok : chk 64 [65] (callK (cfgP pr2) 100 id_cpat_Parse [.str [48, 89]] mG) E_cpat_Parse_20 = true := by kernel_rfl
end Go.K
