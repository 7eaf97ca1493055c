/- A part of a proof over an evaluator for programs of this form: G1P00. -/
import Derived.Test.YtjbbjdcpkepaiaaGreatDoorG1F
set_option linter.all false
set_option autoImplicit false
/-! What runs at the tables' texts come to: made by program. -/
namespace Go.K
open Go Go.Proofs
set_option maxRecDepth 100000
noncomputable def E_pattern_Parse_0 : Ent := ⟨.tuple [.agg [.nil .slice, .nil .slice, .nil .slice, .nil .slice, .bool false, .int .i64 3, .int .i64 1, .int .i64 0, .int .i64 3, .int .i64 3, .int .i64 0], .int .i64 0, .int .i64 0],
    []⟩
theorem E_pattern_Parse_0_ok : chk 64 [] (callK (cfgP pr1) 100 id_pattern_Parse [.str [35, 44, 35, 35, 48, 46, 35, 35, 35]] mG) E_pattern_Parse_0 = true := by kernel_rfl
noncomputable def E_pattern_Parse_1 : Ent := ⟨.tuple [.agg [.nil .slice, .slice 64 0 1 none 3, .nil .slice, .nil .slice, .bool false, .int .i64 3, .int .i64 1, .int .i64 0, .int .i64 0, .int .i64 3, .int .i64 0], .int .i64 0, .int .i64 0],
    [.blk [.int .i64 3, .str [], .int .i64 0] 113 false]⟩
theorem E_pattern_Parse_1_ok : chk 64 [357] (callK (cfgP pr1) 100 id_pattern_Parse [.str [35, 44, 35, 35, 48, 37]] mG) E_pattern_Parse_1 = true := by kernel_rfl
noncomputable def E_pattern_Parse_2 : Ent := ⟨.tuple [.agg [.slice 64 0 1 none 3, .nil .slice, .nil .slice, .nil .slice, .bool false, .int .i64 3, .int .i64 1, .int .i64 2, .int .i64 2, .int .i64 3, .int .i64 0], .int .i64 0, .int .i64 0],
    [.blk [.int .i64 5, .str [], .int .i64 1] 113 false]⟩
theorem E_pattern_Parse_2_ok : chk 64 [146] (callK (cfgP pr1) 100 id_pattern_Parse [.str [194, 164, 35, 44, 35, 35, 48, 46, 48, 48]] mG) E_pattern_Parse_2 = true := by kernel_rfl
noncomputable def E_pattern_Parse_3 : Ent := ⟨.tuple [.agg [.slice 64 0 1 none 3, .nil .slice, .slice 65 0 2 none 3, .slice 66 0 1 none 3, .bool true, .int .i64 3, .int .i64 1, .int .i64 2, .int .i64 2, .int .i64 3, .int .i64 0], .int .i64 0, .int .i64 0],
    [.blk [.int .i64 5, .str [], .int .i64 1] 113 false,
      .blk [.int .i64 0, .str [40], .int .i64 0, .int .i64 5, .str [], .int .i64 1] 113 false,
      .blk [.int .i64 0, .str [41], .int .i64 0] 113 false]⟩
theorem E_pattern_Parse_3_ok : chk 64 [146, 757, 1183] (callK (cfgP pr1) 100 id_pattern_Parse [.str [194, 164, 35, 44, 35, 35, 48, 46, 48, 48, 59, 40, 194, 164, 35, 44, 35, 35, 48, 46, 48, 48, 41]] mG) E_pattern_Parse_3 = true := by kernel_rfl
noncomputable def E_pattern_Parse_4 : Ent := ⟨.tuple [.agg [.nil .slice, .slice 64 0 1 none 3, .nil .slice, .nil .slice, .bool false, .int .i64 0, .int .i64 1, .int .i64 0, .int .i64 0, .int .i64 0, .int .i64 0], .int .i64 0, .int .i64 0],
    [.blk [.int .i64 0, .str [75], .int .i64 0] 113 false]⟩
theorem E_pattern_Parse_4_ok : chk 64 [359] (callK (cfgP pr1) 100 id_pattern_Parse [.str [48, 75]] mG) E_pattern_Parse_4 = true := by kernel_rfl
noncomputable def E_pattern_Parse_5 : Ent := ⟨.tuple [.agg [.nil .slice, .slice 64 0 1 none 3, .nil .slice, .nil .slice, .bool false, .int .i64 0, .int .i64 2, .int .i64 0, .int .i64 0, .int .i64 0, .int .i64 0], .int .i64 0, .int .i64 0],
    [.blk [.int .i64 0, .str [75], .int .i64 0] 113 false]⟩
theorem E_pattern_Parse_5_ok : chk 64 [371] (callK (cfgP pr1) 100 id_pattern_Parse [.str [48, 48, 75]] mG) E_pattern_Parse_5 = true := by kernel_rfl
noncomputable def E_pattern_Parse_6 : Ent := ⟨.tuple [.agg [.nil .slice, .slice 64 0 1 none 3, .nil .slice, .nil .slice, .bool false, .int .i64 0, .int .i64 3, .int .i64 0, .int .i64 0, .int .i64 0, .int .i64 0], .int .i64 0, .int .i64 0],
    [.blk [.int .i64 0, .str [75], .int .i64 0] 113 false]⟩
theorem E_pattern_Parse_6_ok : chk 64 [383] (callK (cfgP pr1) 100 id_pattern_Parse [.str [48, 48, 48, 75]] mG) E_pattern_Parse_6 = true := by kernel_rfl
noncomputable def E_pattern_Parse_7 : Ent := ⟨.tuple [.agg [.nil .slice, .slice 64 0 1 none 3, .nil .slice, .nil .slice, .bool false, .int .i64 0, .int .i64 1, .int .i64 0, .int .i64 0, .int .i64 0, .int .i64 0], .int .i64 0, .int .i64 0],
    [.blk [.int .i64 0, .str [77], .int .i64 0] 113 false]⟩
theorem E_pattern_Parse_7_ok : chk 64 [359] (callK (cfgP pr1) 100 id_pattern_Parse [.str [48, 77]] mG) E_pattern_Parse_7 = true := by kernel_rfl
noncomputable def E_pattern_Parse_8 : Ent := ⟨.tuple [.agg [.nil .slice, .slice 64 0 1 none 3, .nil .slice, .nil .slice, .bool false, .int .i64 0, .int .i64 2, .int .i64 0, .int .i64 0, .int .i64 0, .int .i64 0], .int .i64 0, .int .i64 0],
    [.blk [.int .i64 0, .str [77], .int .i64 0] 113 false]⟩
theorem E_pattern_Parse_8_ok : chk 64 [371] (callK (cfgP pr1) 100 id_pattern_Parse [.str [48, 48, 77]] mG) E_pattern_Parse_8 = true := by kernel_rfl
noncomputable def E_pattern_Parse_9 : Ent := ⟨.tuple [.agg [.nil .slice, .slice 64 0 1 none 3, .nil .slice, .nil .slice, .bool false, .int .i64 0, .int .i64 3, .int .i64 0, .int .i64 0, .int .i64 0, .int .i64 0], .int .i64 0, .int .i64 0],
    [.blk [.int .i64 0, .str [77], .int .i64 0] 113 false]⟩
theorem E_pattern_Parse_9_ok : chk 64 [383] (callK (cfgP pr1) 100 id_pattern_Parse [.str [48, 48, 48, 77]] mG) E_pattern_Parse_9 = true := by kernel_rfl
noncomputable def E_pattern_Parse_10 : Ent := ⟨.tuple [.agg [.nil .slice, .slice 64 0 1 none 3, .nil .slice, .nil .slice, .bool false, .int .i64 0, .int .i64 1, .int .i64 0, .int .i64 0, .int .i64 0, .int .i64 0], .int .i64 0, .int .i64 0],
    [.blk [.int .i64 0, .str [66], .int .i64 0] 113 false]⟩
theorem E_pattern_Parse_10_ok : chk 64 [359] (callK (cfgP pr1) 100 id_pattern_Parse [.str [48, 66]] mG) E_pattern_Parse_10 = true := by kernel_rfl
noncomputable def E_pattern_Parse_11 : Ent := ⟨.tuple [.agg [.nil .slice, .slice 64 0 1 none 3, .nil .slice, .nil .slice, .bool false, .int .i64 0, .int .i64 1, .int .i64 0, .int .i64 0, .int .i64 0, .int .i64 0], .int .i64 0, .int .i64 0],
    [.blk [.int .i64 0, .str [32, 116, 104, 111, 117, 115, 97, 110, 100], .int .i64 0] 113 false]⟩
theorem E_pattern_Parse_11_ok : chk 64 [359] (callK (cfgP pr1) 100 id_pattern_Parse [.str [48, 32, 116, 104, 111, 117, 115, 97, 110, 100]] mG) E_pattern_Parse_11 = true := by kernel_rfl
noncomputable def E_pattern_Parse_12 : Ent := ⟨.tuple [.agg [.nil .slice, .slice 64 0 1 none 3, .nil .slice, .nil .slice, .bool false, .int .i64 0, .int .i64 1, .int .i64 0, .int .i64 0, .int .i64 0, .int .i64 0], .int .i64 0, .int .i64 0],
    [.blk [.int .i64 0, .str [32, 116, 104, 111, 117, 115, 97, 110, 100, 115], .int .i64 0] 113 false]⟩
theorem E_pattern_Parse_12_ok : chk 64 [359] (callK (cfgP pr1) 100 id_pattern_Parse [.str [48, 32, 116, 104, 111, 117, 115, 97, 110, 100, 115]] mG) E_pattern_Parse_12 = true := by kernel_rfl
noncomputable def E_pattern_Parse_13 : Ent := ⟨.tuple [.agg [.nil .slice, .slice 64 0 1 none 3, .nil .slice, .nil .slice, .bool false, .int .i64 0, .int .i64 1, .int .i64 0, .int .i64 0, .int .i64 0, .int .i64 0], .int .i64 0, .int .i64 0],
    [.blk [.int .i64 0, .str [32, 109, 105, 108, 108, 105, 111, 110], .int .i64 0] 113 false]⟩
theorem E_pattern_Parse_13_ok : chk 64 [359] (callK (cfgP pr1) 100 id_pattern_Parse [.str [48, 32, 109, 105, 108, 108, 105, 111, 110]] mG) E_pattern_Parse_13 = true := by kernel_rfl
noncomputable def E_pattern_Parse_14 : Ent := ⟨.tuple [.agg [.nil .slice, .slice 64 0 1 none 3, .nil .slice, .nil .slice, .bool false, .int .i64 0, .int .i64 1, .int .i64 0, .int .i64 0, .int .i64 0, .int .i64 0], .int .i64 0, .int .i64 0],
    [.blk [.int .i64 0, .str [32, 109, 105, 108, 108, 105, 111, 110, 115], .int .i64 0] 113 false]⟩
theorem E_pattern_Parse_14_ok : chk 64 [359] (callK (cfgP pr1) 100 id_pattern_Parse [.str [48, 32, 109, 105, 108, 108, 105, 111, 110, 115]] mG) E_pattern_Parse_14 = true := by kernel_rfl
noncomputable def E_pattern_Parse_15 : Ent := ⟨.tuple [.agg [.slice 64 0 1 none 3, .slice 65 0 1 none 3, .nil .slice, .nil .slice, .bool false, .int .i64 0, .int .i64 1, .int .i64 0, .int .i64 0, .int .i64 0, .int .i64 0], .int .i64 0, .int .i64 0],
    [.blk [.int .i64 5, .str [], .int .i64 1] 113 false,
      .blk [.int .i64 0, .str [75], .int .i64 0] 113 false]⟩
theorem E_pattern_Parse_15_ok : chk 64 [146, 435] (callK (cfgP pr1) 100 id_pattern_Parse [.str [194, 164, 48, 75]] mG) E_pattern_Parse_15 = true := by kernel_rfl
noncomputable def E_pattern_Parse_16 : Ent := ⟨.tuple [.agg [.slice 64 0 1 none 3, .slice 65 0 1 none 3, .nil .slice, .nil .slice, .bool false, .int .i64 0, .int .i64 2, .int .i64 0, .int .i64 0, .int .i64 0, .int .i64 0], .int .i64 0, .int .i64 0],
    [.blk [.int .i64 5, .str [], .int .i64 1] 113 false,
      .blk [.int .i64 0, .str [75], .int .i64 0] 113 false]⟩
theorem E_pattern_Parse_16_ok : chk 64 [146, 447] (callK (cfgP pr1) 100 id_pattern_Parse [.str [194, 164, 48, 48, 75]] mG) E_pattern_Parse_16 = true := by kernel_rfl
noncomputable def E_pattern_Parse_17 : Ent := ⟨.tuple [.agg [.slice 64 0 1 none 3, .slice 65 0 1 none 3, .nil .slice, .nil .slice, .bool false, .int .i64 0, .int .i64 3, .int .i64 0, .int .i64 0, .int .i64 0, .int .i64 0], .int .i64 0, .int .i64 0],
    [.blk [.int .i64 5, .str [], .int .i64 1] 113 false,
      .blk [.int .i64 0, .str [75], .int .i64 0] 113 false]⟩
theorem E_pattern_Parse_17_ok : chk 64 [146, 459] (callK (cfgP pr1) 100 id_pattern_Parse [.str [194, 164, 48, 48, 48, 75]] mG) E_pattern_Parse_17 = true := by kernel_rfl
noncomputable def E_pattern_Parse_18 : Ent := ⟨.tuple [.agg [.slice 64 0 1 none 3, .slice 65 0 1 none 3, .nil .slice, .nil .slice, .bool false, .int .i64 0, .int .i64 1, .int .i64 0, .int .i64 0, .int .i64 0, .int .i64 0], .int .i64 0, .int .i64 0],
    [.blk [.int .i64 5, .str [], .int .i64 1] 113 false,
      .blk [.int .i64 0, .str [77], .int .i64 0] 113 false]⟩
theorem E_pattern_Parse_18_ok : chk 64 [146, 435] (callK (cfgP pr1) 100 id_pattern_Parse [.str [194, 164, 48, 77]] mG) E_pattern_Parse_18 = true := by kernel_rfl
noncomputable def E_pattern_Parse_19 : Ent := ⟨.tuple [.agg [.slice 64 0 1 none 3, .slice 65 0 1 none 3, .nil .slice, .nil .slice, .bool false, .int .i64 0, .int .i64 2, .int .i64 0, .int .i64 0, .int .i64 0, .int .i64 0], .int .i64 0, .int .i64 0],
    [.blk [.int .i64 5, .str [], .int .i64 1] 113 false,
      .blk [.int .i64 0, .str [77], .int .i64 0] 113 false]⟩
theorem E_pattern_Parse_19_ok : chk 64 [146, 447] (callK (cfgP pr1) 100 id_pattern_Parse [.str [194, 164, 48, 48, 77]] mG) E_pattern_Parse_19 = true := by kernel_rfl
noncomputable def E_pattern_Parse_20 : Ent := ⟨.tuple [.agg [.slice 64 0 1 none 3, .slice 65 0 1 none 3, .nil .slice, .nil .slice, .bool false, .int .i64 0, .int .i64 3, .int .i64 0, .int .i64 0, .int .i64 0, .int .i64 0], .int .i64 0, .int .i64 0],
    [.blk [.int .i64 5, .str [], .int .i64 1] 113 false,
      .blk [.int .i64 0, .str [77], .int .i64 0] 113 false]⟩
theorem E_pattern_Parse_20_ok : chk 64 [146, 459] (callK (cfgP pr1) 100 id_pattern_Parse [.str [194, 164, 48, 48, 48, 77]] mG) E_pattern_Parse_20 = true := by kernel_rfl
noncomputable def E_pattern_Parse_21 : Ent := ⟨.tuple [.agg [.slice 64 0 1 none 3, .slice 65 0 1 none 3, .nil .slice, .nil .slice, .bool false, .int .i64 0, .int .i64 1, .int .i64 0, .int .i64 0, .int .i64 0, .int .i64 0], .int .i64 0, .int .i64 0],
    [.blk [.int .i64 5, .str [], .int .i64 1] 113 false,
      .blk [.int .i64 0, .str [66], .int .i64 0] 113 false]⟩
theorem E_pattern_Parse_21_ok : chk 64 [146, 435] (callK (cfgP pr1) 100 id_pattern_Parse [.str [194, 164, 48, 66]] mG) E_pattern_Parse_21 = true := by kernel_rfl
noncomputable def E_pattern_Parse_22 : Ent := ⟨.tuple [.agg [.nil .slice, .slice 64 0 2 none 3, .nil .slice, .nil .slice, .bool false, .int .i64 3, .int .i64 1, .int .i64 2, .int .i64 2, .int .i64 3, .int .i64 0], .int .i64 0, .int .i64 0],
    [.blk [.int .i64 0, .str [194, 160], .int .i64 0, .int .i64 5, .str [], .int .i64 1] 113 false]⟩
theorem E_pattern_Parse_22_ok : chk 64 [572] (callK (cfgP pr1) 100 id_pattern_Parse [.str [35, 44, 35, 35, 48, 46, 48, 48, 194, 160, 194, 164]] mG) E_pattern_Parse_22 = true := by kernel_rfl
noncomputable def E_pattern_Parse_23 : Ent := ⟨.tuple [.agg [.nil .slice, .nil .slice, .nil .slice, .nil .slice, .bool false, .int .i64 5, .int .i64 1, .int .i64 0, .int .i64 3, .int .i64 3, .int .i64 2], .int .i64 0, .int .i64 0],
    []⟩
theorem E_pattern_Parse_23_ok : chk 64 [] (callK (cfgP pr1) 100 id_pattern_Parse [.str [35, 44, 35, 35, 44, 35, 35, 48, 46, 35, 35, 35]] mG) E_pattern_Parse_23 = true := by kernel_rfl
noncomputable def E_pattern_Parse_24 : Ent := ⟨.tuple [.agg [.slice 64 0 1 none 3, .nil .slice, .nil .slice, .nil .slice, .bool false, .int .i64 3, .int .i64 1, .int .i64 0, .int .i64 0, .int .i64 3, .int .i64 0], .int .i64 0, .int .i64 0],
    [.blk [.int .i64 3, .str [], .int .i64 0] 113 false]⟩
theorem E_pattern_Parse_24_ok : chk 64 [110] (callK (cfgP pr1) 100 id_pattern_Parse [.str [37, 35, 44, 35, 35, 48]] mG) E_pattern_Parse_24 = true := by kernel_rfl
noncomputable def E_pattern_Parse_25 : Ent := ⟨.tuple [.agg [.nil .slice, .slice 64 0 1 none 3, .slice 65 0 2 none 3, .nil .slice, .bool true, .int .i64 3, .int .i64 1, .int .i64 2, .int .i64 2, .int .i64 3, .int .i64 0], .int .i64 0, .int .i64 0],
    [.blk [.int .i64 5, .str [], .int .i64 3] 113 false,
      .blk [.int .i64 5, .str [], .int .i64 1, .int .i64 1, .str [], .int .i64 0] 113 false]⟩
theorem E_pattern_Parse_25_ok : chk 64 [465, 666] (callK (cfgP pr1) 100 id_pattern_Parse [.str [35, 44, 35, 35, 48, 46, 48, 48, 194, 164, 194, 164, 194, 164, 59, 194, 164, 45, 35, 44, 35, 35, 48, 46, 48, 48]] mG) E_pattern_Parse_25 = true := by kernel_rfl
noncomputable def E_pattern_Parse_26 : Ent := ⟨.tuple [.agg [.nil .slice, .nil .slice, .nil .slice, .nil .slice, .bool false, .int .i64 0, .int .i64 1, .int .i64 0, .int .i64 0, .int .i64 0, .int .i64 0], .int .i64 0, .int .i64 0],
    []⟩
theorem E_pattern_Parse_26_ok : chk 64 [] (callK (cfgP pr1) 100 id_pattern_Parse [.str [48]] mG) E_pattern_Parse_26 = true := by kernel_rfl
noncomputable def E_pattern_Parse_27 : Ent := ⟨.tuple [.agg [.nil .slice, .slice 64 0 1 none 3, .nil .slice, .nil .slice, .bool false, .int .i64 0, .int .i64 1, .int .i64 0, .int .i64 0, .int .i64 0, .int .i64 0], .int .i64 0, .int .i64 0],
    [.blk [.int .i64 0, .str [87], .int .i64 0] 113 false]⟩
theorem E_pattern_Parse_27_ok : chk 64 [359] (callK (cfgP pr1) 100 id_pattern_Parse [.str [48, 87]] mG) E_pattern_Parse_27 = true := by kernel_rfl
noncomputable def E_pattern_Parse_28 : Ent := ⟨.tuple [.agg [.nil .slice, .slice 64 0 1 none 3, .nil .slice, .nil .slice, .bool false, .int .i64 0, .int .i64 1, .int .i64 0, .int .i64 0, .int .i64 0, .int .i64 0], .int .i64 0, .int .i64 0],
    [.blk [.int .i64 0, .str [89], .int .i64 0] 113 false]⟩
theorem E_pattern_Parse_28_ok : chk 64 [359] (callK (cfgP pr1) 100 id_pattern_Parse [.str [48, 89]] mG) E_pattern_Parse_28 = true := by kernel_rfl
noncomputable def E_class_Parse_0 : Ent := ⟨.tuple [.slice 64 0 5 none 2, .int .i64 0, .int .i64 0],
    [.blk [.int .i32 0, .int .i32 35, .int .i32 37, .int .i32 39, .int .i32 41, .int .i32 164, .int .i32 166, .int .i32 8363, .int .i32 8365, .int .i32 1114111] 208 false]⟩
theorem E_class_Parse_0_ok : chk 64 [1302] (callK (cfgP pr1) 100 id_class_Parse [.str [91, 94, 92, 117, 123, 50, 52, 125, 92, 117, 123, 50, 48, 97, 99, 125, 92, 117, 123, 97, 53, 125, 40, 93]] mG) E_class_Parse_0 = true := by kernel_rfl
noncomputable def E_class_Parse_1 : Ent := ⟨.tuple [.slice 64 0 2 none 2, .int .i64 0, .int .i64 0],
    [.blk [.int .i32 48, .int .i32 57, .int .i32 1632, .int .i32 1641] 208 false]⟩
theorem E_class_Parse_1_ok : chk 64 [948] (callK (cfgP pr1) 100 id_class_Parse [.str [91, 48, 45, 57, 92, 117, 123, 54, 54, 48, 125, 45, 92, 117, 123, 54, 54, 57, 125, 93]] mG) E_class_Parse_1 = true := by kernel_rfl
noncomputable def E_rule_Parse_0 : Ent := ⟨.tuple [.slice 68 0 1 none 3, .int .i64 0, .int .i64 0],
    [.blk [.int .i64 1, .int .i64 1] 306 false,
      .blk [.int .i64 0, .int .i64 0] 306 false,
      .blk [.int .u8 105, .int .i64 0, .bool false, .slice 64 0 1 none 2, .int .u8 118, .int .i64 0, .bool false, .slice 65 0 1 none 2] 293 false,
      .blk [.slice 66 0 2 none 4] 275 false,
      .blk [.int .i64 1, .slice 67 0 1 none 1, .str []] 246 false]⟩
theorem E_rule_Parse_0_ok : chk 64 [834, 1528, 1564, 1646, 1761] (callK (cfgP pr1) 100 id_rule_Parse [.str [111, 110, 101, 58, 32, 105, 32, 61, 32, 49, 32, 97, 110, 100, 32, 118, 32, 61, 32, 48]] mG) E_rule_Parse_0 = true := by kernel_rfl
noncomputable def E_rule_Parse_1 : Ent := ⟨.tuple [.slice 84 0 3 none 3, .int .i64 0, .int .i64 0],
    [.blk [.int .i64 1, .int .i64 1] 306 false,
      .blk [.int .i64 0, .int .i64 0] 306 false,
      .blk [.int .u8 105, .int .i64 0, .bool false, .slice 64 0 1 none 2, .int .u8 118, .int .i64 0, .bool false, .slice 65 0 1 none 2] 293 false,
      .blk [.slice 66 0 2 none 4] 275 false,
      .blk [.int .i64 0, .int .i64 0] 306 false,
      .blk [.int .i64 2, .int .i64 4] 306 false,
      .blk [.int .i64 12, .int .i64 14] 306 false,
      .blk [.int .u8 118, .int .i64 0, .bool false, .slice 68 0 1 none 2, .int .u8 105, .int .i64 10, .bool false, .slice 69 0 1 none 2, .int .u8 105, .int .i64 100, .bool true, .slice 70 0 1 none 2] 293 false,
      .blk [.slice 71 0 3 none 4] 275 false,
      .blk [.int .i64 0, .int .i64 0] 306 false,
      .blk [.int .i64 1, .int .i64 1] 306 false,
      .blk [.int .i64 0, .int .i64 1] 306 false,
      .blk [.int .u8 118, .int .i64 0, .bool false, .slice 73 0 1 none 2, .int .u8 105, .int .i64 0, .bool true, .slice 74 0 1 none 2, .int .u8 105, .int .i64 10, .bool false, .slice 75 0 1 none 2] 293 false,
      .blk [.int .i64 0, .int .i64 0] 306 false,
      .blk [.int .i64 5, .int .i64 9] 306 false,
      .blk [.int .u8 118, .int .i64 0, .bool false, .slice 77 0 1 none 2, .int .u8 105, .int .i64 10, .bool false, .slice 78 0 1 none 2] 293 false,
      .blk [.int .i64 0, .int .i64 0] 306 false,
      .blk [.int .i64 12, .int .i64 14] 306 false,
      .blk [.int .u8 118, .int .i64 0, .bool false, .slice 80 0 1 none 2, .int .u8 105, .int .i64 100, .bool false, .slice 81 0 1 none 2] 293 false,
      .blk [.slice 76 0 3 none 4, .slice 79 0 2 none 4, .slice 82 0 2 none 4] 275 false,
      .blk [.int .i64 1, .slice 67 0 1 none 1, .str [], .int .i64 3, .slice 72 0 1 none 1, .str [], .int .i64 4, .slice 83 0 3 none 1, .str []] 246 false]⟩
theorem E_rule_Parse_1_ok : chk 64 [834, 1528, 1564, 1646, 2594, 3604, 4729, 4765, 4847, 5837, 6519, 7530, 7588, 8401, 9411, 9469, 10282, 11418, 11454, 11536, 11651] (callK (cfgP pr1) 100 id_rule_Parse [.str [111, 110, 101, 58, 32, 105, 32, 61, 32, 49, 32, 97, 110, 100, 32, 118, 32, 61, 32, 48, 59, 32, 102, 101, 119, 58, 32, 118, 32, 61, 32, 48, 32, 97, 110, 100, 32, 105, 32, 37, 32, 49, 48, 32, 61, 32, 50, 46, 46, 52, 32, 97, 110, 100, 32, 105, 32, 37, 32, 49, 48, 48, 32, 33, 61, 32, 49, 50, 46, 46, 49, 52, 59, 32, 109, 97, 110, 121, 58, 32, 118, 32, 61, 32, 48, 32, 97, 110, 100, 32, 105, 32, 33, 61, 32, 49, 32, 97, 110, 100, 32, 105, 32, 37, 32, 49, 48, 32, 61, 32, 48, 46, 46, 49, 32, 111, 114, 32, 118, 32, 61, 32, 48, 32, 97, 110, 100, 32, 105, 32, 37, 32, 49, 48, 32, 61, 32, 53, 46, 46, 57, 32, 111, 114, 32, 118, 32, 61, 32, 48, 32, 97, 110, 100, 32, 105, 32, 37, 32, 49, 48, 48, 32, 61, 32, 49, 50, 46, 46, 49, 52]] mG) E_rule_Parse_1 = true := by kernel_rfl
noncomputable def E_rule_Parse_2 : Ent := ⟨.tuple [.slice 79 0 5 none 3, .int .i64 0, .int .i64 0],
    [.blk [.int .i64 0, .int .i64 0] 306 false,
      .blk [.int .u8 110, .int .i64 0, .bool false, .slice 64 0 1 none 2] 293 true,
      .blk [.slice 65 0 1 (some 1) 4] 275 false,
      .blk [.int .i64 1, .int .i64 1] 306 false,
      .blk [.int .u8 110, .int .i64 0, .bool false, .slice 67 0 1 none 2] 293 true,
      .blk [.slice 68 0 1 (some 1) 4] 275 false,
      .blk [.int .i64 2, .int .i64 2] 306 false,
      .blk [.int .u8 110, .int .i64 0, .bool false, .slice 70 0 1 none 2] 293 true,
      .blk [.slice 71 0 1 (some 1) 4] 275 false,
      .blk [.int .i64 3, .int .i64 10] 306 false,
      .blk [.int .u8 110, .int .i64 100, .bool false, .slice 73 0 1 none 2] 293 true,
      .blk [.slice 74 0 1 (some 1) 4] 275 false,
      .blk [.int .i64 11, .int .i64 99] 306 false,
      .blk [.int .u8 110, .int .i64 100, .bool false, .slice 76 0 1 none 2] 293 true,
      .blk [.slice 77 0 1 (some 1) 4] 275 false,
      .blk [.int .i64 0, .slice 66 0 1 none 1, .str [], .int .i64 1, .slice 69 0 1 none 1, .str [], .int .i64 2, .slice 72 0 1 none 1, .str [], .int .i64 3, .slice 75 0 1 none 1, .str [], .int .i64 4, .slice 78 0 1 none 1, .str []] 246 false]⟩
theorem E_rule_Parse_2_ok : chk 64 [854, 889, 971, 1897, 1932, 2014, 2940, 2975, 3057, 4383, 4418, 4500, 5910, 5945, 6027, 6142] (callK (cfgP pr1) 100 id_rule_Parse [.str [122, 101, 114, 111, 58, 32, 110, 32, 61, 32, 48, 59, 32, 111, 110, 101, 58, 32, 110, 32, 61, 32, 49, 59, 32, 116, 119, 111, 58, 32, 110, 32, 61, 32, 50, 59, 32, 102, 101, 119, 58, 32, 110, 32, 37, 32, 49, 48, 48, 32, 61, 32, 51, 46, 46, 49, 48, 59, 32, 109, 97, 110, 121, 58, 32, 110, 32, 37, 32, 49, 48, 48, 32, 61, 32, 49, 49, 46, 46, 57, 57]] mG) E_rule_Parse_2 = true := by kernel_rfl
noncomputable def E_brace_Parse_0 : Ent := ⟨.tuple [.agg [.slice 65 0 2 none 1, .slice 64 0 1 none 1], .int .i64 0, .int .i64 0],
    [.blk [.int .i64 0] 3 false,
      .blk [.str [], .str [32, 100, 97, 121]] 9 false]⟩
theorem E_brace_Parse_0_ok : chk 64 [85, 95] (callK (cfgP pr1) 100 id_brace_Parse [.str [123, 48, 125, 32, 100, 97, 121], .int .i64 1] mG) E_brace_Parse_0 = true := by kernel_rfl
noncomputable def E_brace_Parse_1 : Ent := ⟨.tuple [.agg [.slice 65 0 2 none 1, .slice 64 0 1 none 1], .int .i64 0, .int .i64 0],
    [.blk [.int .i64 0] 3 false,
      .blk [.str [], .str [32, 100, 97, 121, 115]] 9 false]⟩
theorem E_brace_Parse_1_ok : chk 64 [85, 95] (callK (cfgP pr1) 100 id_brace_Parse [.str [123, 48, 125, 32, 100, 97, 121, 115], .int .i64 1] mG) E_brace_Parse_1 = true := by kernel_rfl
noncomputable def E_brace_Parse_2 : Ent := ⟨.tuple [.agg [.slice 65 0 2 none 1, .slice 64 0 1 none 1], .int .i64 0, .int .i64 0],
    [.blk [.int .i64 0] 3 false,
      .blk [.str [], .str [32, 107, 109]] 9 false]⟩
theorem E_brace_Parse_2_ok : chk 64 [85, 95] (callK (cfgP pr1) 100 id_brace_Parse [.str [123, 48, 125, 32, 107, 109], .int .i64 1] mG) E_brace_Parse_2 = true := by kernel_rfl
noncomputable def E_brace_Parse_3 : Ent := ⟨.tuple [.agg [.slice 65 0 3 none 1, .slice 64 0 2 none 1], .int .i64 0, .int .i64 0],
    [.blk [.int .i64 0, .int .i64 1] 3 false,
      .blk [.str [], .str [32], .str []] 9 false]⟩
theorem E_brace_Parse_3_ok : chk 64 [104, 114] (callK (cfgP pr1) 100 id_brace_Parse [.str [123, 48, 125, 32, 123, 49, 125], .int .i64 2] mG) E_brace_Parse_3 = true := by kernel_rfl
noncomputable def E_brace_Parse_4 : Ent := ⟨.tuple [.agg [.slice 65 0 2 none 1, .slice 64 0 1 none 1], .int .i64 0, .int .i64 0],
    [.blk [.int .i64 0] 3 false,
      .blk [.str [], .str [32, 100, 122, 105, 101, 197, 132]] 9 false]⟩
theorem E_brace_Parse_4_ok : chk 64 [85, 95] (callK (cfgP pr1) 100 id_brace_Parse [.str [123, 48, 125, 32, 100, 122, 105, 101, 197, 132], .int .i64 1] mG) E_brace_Parse_4 = true := by kernel_rfl
noncomputable def E_brace_Parse_5 : Ent := ⟨.tuple [.agg [.slice 65 0 2 none 1, .slice 64 0 1 none 1], .int .i64 0, .int .i64 0],
    [.blk [.int .i64 0] 3 false,
      .blk [.str [], .str [32, 100, 110, 105]] 9 false]⟩
theorem E_brace_Parse_5_ok : chk 64 [85, 95] (callK (cfgP pr1) 100 id_brace_Parse [.str [123, 48, 125, 32, 100, 110, 105], .int .i64 1] mG) E_brace_Parse_5 = true := by kernel_rfl
noncomputable def E_brace_Parse_6 : Ent := ⟨.tuple [.agg [.slice 65 0 2 none 1, .slice 64 0 1 none 1], .int .i64 0, .int .i64 0],
    [.blk [.int .i64 0] 3 false,
      .blk [.str [], .str [32, 100, 110, 105, 97]] 9 false]⟩
theorem E_brace_Parse_6_ok : chk 64 [85, 95] (callK (cfgP pr1) 100 id_brace_Parse [.str [123, 48, 125, 32, 100, 110, 105, 97], .int .i64 1] mG) E_brace_Parse_6 = true := by kernel_rfl
end Go.K
