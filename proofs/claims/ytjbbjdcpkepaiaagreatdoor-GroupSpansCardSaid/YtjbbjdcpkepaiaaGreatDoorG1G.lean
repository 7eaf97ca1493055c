/- A part of a proof over an evaluator for programs of this form: G1G. -/
import Derived.Test.YtjbbjdcpkepaiaaGreatDoorG1B2
set_option linter.all false
set_option autoImplicit false
namespace Go.K
open Go Go.Proofs
set_option maxRecDepth 100000
/-! Base at any number: one of three. -/
noncomputable def crE (x : CR) : ET := CR.casesOn x .nil (fun e _ => e) (fun _ e _ => e) (fun e _ => e) (fun _ e _ => e)
noncomputable def crM (x : CR) : Mem := CR.casesOn x ⟨0, 0, .nil, []⟩ (fun _ m => m) (fun _ _ m => m) (fun _ m => m) (fun _ _ m => m)
theorem cSeq_step {a b : CFn} {e e' : ET} {m m' : Mem} (h : a e m = .norm e' m') : cSeq a b e m = b e' m' := by rw [cSeq_eq, h, crK_norm]
theorem cSeq_assoc {a b c : CFn} : cSeq a (cSeq b c) = cSeq (cSeq a b) c := by
  funext e m
  rw [cSeq_eq, cSeq_eq, cSeq_eq]
  cases a e m <;> rfl
/-- which of the three -/
noncomputable def thr (n : Int) : Int := wrap .i64 (Int.tmod (wrap .u64 n) 3)
noncomputable abbrev call3 : CallFn := callK (cfgP pr3) 99
noncomputable def pre15 : CFn := cSeq (S0_florinlaw15_Base call3) (cSeq (S1_florinlaw15_Base call3) (cSeq (S2_florinlaw15_Base call3) (cSeq (S3_florinlaw15_Base call3) (cSeq (S4_florinlaw15_Base call3) (cSeq (S5_florinlaw15_Base call3) (cSeq (S6_florinlaw15_Base call3) (cSeq (S7_florinlaw15_Base call3) (S8_florinlaw15_Base call3))))))))
noncomputable def rest15 : CFn := cSeq (S9b_florinlaw15_Base call3) (cSeq (S10_florinlaw15_Base call3) (S11_florinlaw15_Base call3))
theorem pre15_eq : B_florinlaw15_Base call3 = cSeq pre15 (cSeq (S9a_florinlaw15_Base call3) rest15) := by
  unfold B_florinlaw15_Base pre15 rest15 S9_florinlaw15_Base
  simp only [cSeq_assoc]
noncomputable def x15 (n : Int) : CR := pre15 (fr 7 (argF [.int .i64 n] 0 nilF)) mG.undef
theorem x15_norm (n : Int) : pre15 (fr 7 (argF [.int .i64 n] 0 nilF)) mG.undef = .norm (crE (x15 n)) (crM (x15 n)) := by kernel_rfl
noncomputable def e15 (n x : Int) : ET := ((((crE (x15 n)).put (pa 66) (.int .i64 n)).put (pa 67) (.int .u64 (wrap .u64 n))).put (pa 68) (.int .u64 (Int.tmod (wrap .u64 n) 3))).put (pa 69) (.int .i64 x)
theorem s9_norm (n : Int) : S9a_florinlaw15_Base call3 (crE (x15 n)) (crM (x15 n)) = .norm (e15 n (thr n)) (crM (x15 n)) := by kernel_rfl
theorem call15 (n : Int) : callK (cfgP pr3) 100 id_florinlaw15_Base [.int .i64 n] mG = finI dnT [.cell (pa 2) 34 true] (rest15 (e15 n (thr n)) (crM (x15 n))) mG := by
  rw [callI F_florinlaw15_Base rfl (by simp) (by simp) rfl]
  rw [pre15_eq, cSeq_step (x15_norm n), cSeq_step (s9_norm n)]
  rfl
noncomputable def E_florinlaw15_Base_0 : Ent := ⟨.agg [.str [48], .str [49], .str [50], .str [51], .str [52], .str [53], .str [54], .str [55], .str [56], .str [57], .str [45], .str [43], .str [37], .str [226, 128, 176], .str [46], .str [44], .int .i64 1, .str [35, 44, 35, 35, 48, 46, 35, 35, 35], .str [35, 44, 35, 35, 48, 37], .str [194, 164, 35, 44, 35, 35, 48, 46, 48, 48], .str [194, 164, 35, 44, 35, 35, 48, 46, 48, 48, 59, 40, 194, 164, 35, 44, 35, 35, 48, 46, 48, 48, 41], .str [111, 110, 101, 58, 32, 105, 32, 61, 32, 49, 32, 97, 110, 100, 32, 118, 32, 61, 32, 48], .slice 77 0 7 none 2, .slice 82 0 2 (some 2) 2, .slice 79 0 7 none 2, .slice 86 0 4 (some 4) 8, .slice 89 0 2 (some 2) 2, .slice 90 0 1 (some 1) 2, .str [91, 94, 92, 117, 123, 50, 52, 125, 92, 117, 123, 50, 48, 97, 99, 125, 92, 117, 123, 97, 53, 125, 40, 93], .str [91, 48, 45, 57, 92, 117, 123, 54, 54, 48, 125, 45, 92, 117, 123, 54, 54, 57, 125, 93], .str [194, 160], .str [91, 94, 92, 117, 123, 50, 52, 125, 92, 117, 123, 50, 48, 97, 99, 125, 92, 117, 123, 97, 53, 125, 40, 93], .str [91, 48, 45, 57, 92, 117, 123, 54, 54, 48, 125, 45, 92, 117, 123, 54, 54, 57, 125, 93], .str [194, 160]],
    [.blk [.int .i64 5, .str [48, 75]] 141 true,
      .blk [.int .i64 5, .str [194, 164, 48, 75]] 141 true,
      .blk [.int .i64 5, .str [48, 48, 75]] 141 true,
      .blk [.int .i64 5, .str [194, 164, 48, 48, 75]] 141 true,
      .blk [.int .i64 5, .str [48, 48, 48, 75]] 141 true,
      .blk [.int .i64 5, .str [194, 164, 48, 48, 48, 75]] 141 true,
      .blk [.int .i64 5, .str [48, 77]] 141 true,
      .blk [.int .i64 5, .str [194, 164, 48, 77]] 141 true,
      .blk [.int .i64 5, .str [48, 48, 77]] 141 true,
      .blk [.int .i64 5, .str [194, 164, 48, 48, 77]] 141 true,
      .blk [.int .i64 5, .str [48, 48, 48, 77]] 141 true,
      .blk [.int .i64 5, .str [194, 164, 48, 48, 48, 77]] 141 true,
      .blk [.int .i64 5, .str [48, 66]] 141 true,
      .blk [.int .i64 3, .slice 64 0 1 (some 1) 2, .int .i64 4, .slice 66 0 1 (some 1) 2, .int .i64 5, .slice 68 0 1 (some 1) 2, .int .i64 6, .slice 70 0 1 (some 1) 2, .int .i64 7, .slice 72 0 1 (some 1) 2, .int .i64 8, .slice 74 0 1 (some 1) 2, .int .i64 9, .slice 76 0 1 (some 1) 2] 137 false,
      .blk [.int .i64 5, .str [194, 164, 48, 66]] 141 true,
      .blk [.int .i64 3, .slice 65 0 1 (some 1) 2, .int .i64 4, .slice 67 0 1 (some 1) 2, .int .i64 5, .slice 69 0 1 (some 1) 2, .int .i64 6, .slice 71 0 1 (some 1) 2, .int .i64 7, .slice 73 0 1 (some 1) 2, .int .i64 8, .slice 75 0 1 (some 1) 2, .int .i64 9, .slice 78 0 1 (some 1) 2] 137 false,
      .blk [.int .i64 1, .str [48, 32, 116, 104, 111, 117, 115, 97, 110, 100], .int .i64 5, .str [48, 32, 116, 104, 111, 117, 115, 97, 110, 100, 115]] 141 true,
      .blk [.int .i64 1, .str [48, 32, 109, 105, 108, 108, 105, 111, 110], .int .i64 5, .str [48, 32, 109, 105, 108, 108, 105, 111, 110, 115]] 141 true,
      .blk [.int .i64 3, .slice 80 0 2 (some 2) 2, .int .i64 6, .slice 81 0 2 (some 2) 2] 137 true,
      .blk [.int .i64 1, .str [101, 117, 114, 111], .int .i64 5, .str [101, 117, 114, 111, 115]] 141 true,
      .blk [.int .i64 5, .str [121, 101, 110]] 141 true,
      .blk [.int .i64 1, .str [100, 111, 108, 108, 97, 114], .int .i64 5, .str [100, 111, 108, 108, 97, 114, 115]] 141 true,
      .blk [.str [67, 72, 70], .str [], .str [], .nil .slice, .int .i64 2, .int .i64 0, .int .i64 2, .int .i64 5, .str [69, 85, 82], .str [226, 130, 172], .str [226, 130, 172], .slice 83 0 2 (some 2) 2, .int .i64 2, .int .i64 0, .int .i64 2, .int .i64 0, .str [74, 80, 89], .str [194, 165], .str [], .slice 84 0 1 (some 1) 2, .int .i64 0, .int .i64 0, .int .i64 0, .int .i64 0, .str [85, 83, 68], .str [36], .str [36], .slice 85 0 2 (some 2) 2, .int .i64 2, .int .i64 0, .int .i64 2, .int .i64 0] 131 true,
      .blk [.int .i64 1, .str [123, 48, 125, 32, 100, 97, 121], .int .i64 5, .str [123, 48, 125, 32, 100, 97, 121, 115]] 141 true,
      .blk [.int .i64 5, .str [123, 48, 125, 32, 107, 109]] 141 true,
      .blk [.str [100, 97, 121], .slice 87 0 2 (some 2) 2, .str [107, 109], .slice 88 0 1 (some 1) 2] 124 true,
      .blk [.int .i64 5, .str [123, 48, 125, 32, 123, 49, 125]] 141 true]⟩
noncomputable def E_florinlaw15_Base_1 : Ent := ⟨.agg [.str [48], .str [49], .str [50], .str [51], .str [52], .str [53], .str [54], .str [55], .str [56], .str [57], .str [226, 136, 146], .str [43], .str [37], .str [226, 128, 176], .str [44], .str [194, 160], .int .i64 2, .str [35, 44, 35, 35, 48, 46, 35, 35, 35], .str [35, 44, 35, 35, 48, 37], .str [35, 44, 35, 35, 48, 46, 48, 48, 194, 160, 194, 164], .str [35, 44, 35, 35, 48, 46, 48, 48, 194, 160, 194, 164], .str [111, 110, 101, 58, 32, 105, 32, 61, 32, 49, 32, 97, 110, 100, 32, 118, 32, 61, 32, 48, 59, 32, 102, 101, 119, 58, 32, 118, 32, 61, 32, 48, 32, 97, 110, 100, 32, 105, 32, 37, 32, 49, 48, 32, 61, 32, 50, 46, 46, 52, 32, 97, 110, 100, 32, 105, 32, 37, 32, 49, 48, 48, 32, 33, 61, 32, 49, 50, 46, 46, 49, 52, 59, 32, 109, 97, 110, 121, 58, 32, 118, 32, 61, 32, 48, 32, 97, 110, 100, 32, 105, 32, 33, 61, 32, 49, 32, 97, 110, 100, 32, 105, 32, 37, 32, 49, 48, 32, 61, 32, 48, 46, 46, 49, 32, 111, 114, 32, 118, 32, 61, 32, 48, 32, 97, 110, 100, 32, 105, 32, 37, 32, 49, 48, 32, 61, 32, 53, 46, 46, 57, 32, 111, 114, 32, 118, 32, 61, 32, 48, 32, 97, 110, 100, 32, 105, 32, 37, 32, 49, 48, 48, 32, 61, 32, 49, 50, 46, 46, 49, 52], .slice 77 0 7 none 2, .slice 82 0 2 (some 2) 2, .slice 79 0 7 none 2, .slice 86 0 4 (some 4) 8, .slice 88 0 2 (some 2) 2, .slice 89 0 1 (some 1) 2, .str [91, 94, 92, 117, 123, 50, 52, 125, 92, 117, 123, 50, 48, 97, 99, 125, 92, 117, 123, 97, 53, 125, 40, 93], .str [91, 48, 45, 57, 92, 117, 123, 54, 54, 48, 125, 45, 92, 117, 123, 54, 54, 57, 125, 93], .str [194, 160], .str [91, 94, 92, 117, 123, 50, 52, 125, 92, 117, 123, 50, 48, 97, 99, 125, 92, 117, 123, 97, 53, 125, 40, 93], .str [91, 48, 45, 57, 92, 117, 123, 54, 54, 48, 125, 45, 92, 117, 123, 54, 54, 57, 125, 93], .str [194, 160]],
    [.blk [.int .i64 5, .str [48, 75]] 141 true,
      .blk [.int .i64 5, .str [194, 164, 48, 75]] 141 true,
      .blk [.int .i64 5, .str [48, 48, 75]] 141 true,
      .blk [.int .i64 5, .str [194, 164, 48, 48, 75]] 141 true,
      .blk [.int .i64 5, .str [48, 48, 48, 75]] 141 true,
      .blk [.int .i64 5, .str [194, 164, 48, 48, 48, 75]] 141 true,
      .blk [.int .i64 5, .str [48, 77]] 141 true,
      .blk [.int .i64 5, .str [194, 164, 48, 77]] 141 true,
      .blk [.int .i64 5, .str [48, 48, 77]] 141 true,
      .blk [.int .i64 5, .str [194, 164, 48, 48, 77]] 141 true,
      .blk [.int .i64 5, .str [48, 48, 48, 77]] 141 true,
      .blk [.int .i64 5, .str [194, 164, 48, 48, 48, 77]] 141 true,
      .blk [.int .i64 5, .str [48, 66]] 141 true,
      .blk [.int .i64 3, .slice 64 0 1 (some 1) 2, .int .i64 4, .slice 66 0 1 (some 1) 2, .int .i64 5, .slice 68 0 1 (some 1) 2, .int .i64 6, .slice 70 0 1 (some 1) 2, .int .i64 7, .slice 72 0 1 (some 1) 2, .int .i64 8, .slice 74 0 1 (some 1) 2, .int .i64 9, .slice 76 0 1 (some 1) 2] 137 false,
      .blk [.int .i64 5, .str [194, 164, 48, 66]] 141 true,
      .blk [.int .i64 3, .slice 65 0 1 (some 1) 2, .int .i64 4, .slice 67 0 1 (some 1) 2, .int .i64 5, .slice 69 0 1 (some 1) 2, .int .i64 6, .slice 71 0 1 (some 1) 2, .int .i64 7, .slice 73 0 1 (some 1) 2, .int .i64 8, .slice 75 0 1 (some 1) 2, .int .i64 9, .slice 78 0 1 (some 1) 2] 137 false,
      .blk [.int .i64 1, .str [48, 32, 116, 104, 111, 117, 115, 97, 110, 100], .int .i64 5, .str [48, 32, 116, 104, 111, 117, 115, 97, 110, 100, 115]] 141 true,
      .blk [.int .i64 1, .str [48, 32, 109, 105, 108, 108, 105, 111, 110], .int .i64 5, .str [48, 32, 109, 105, 108, 108, 105, 111, 110, 115]] 141 true,
      .blk [.int .i64 3, .slice 80 0 2 (some 2) 2, .int .i64 6, .slice 81 0 2 (some 2) 2] 137 true,
      .blk [.int .i64 1, .str [101, 117, 114, 111], .int .i64 5, .str [101, 117, 114, 111, 115]] 141 true,
      .blk [.int .i64 5, .str [121, 101, 110]] 141 true,
      .blk [.int .i64 1, .str [100, 111, 108, 108, 97, 114], .int .i64 5, .str [100, 111, 108, 108, 97, 114, 115]] 141 true,
      .blk [.str [67, 72, 70], .str [], .str [], .nil .slice, .int .i64 2, .int .i64 0, .int .i64 2, .int .i64 5, .str [69, 85, 82], .str [226, 130, 172], .str [226, 130, 172], .slice 83 0 2 (some 2) 2, .int .i64 2, .int .i64 0, .int .i64 2, .int .i64 0, .str [74, 80, 89], .str [194, 165], .str [], .slice 84 0 1 (some 1) 2, .int .i64 0, .int .i64 0, .int .i64 0, .int .i64 0, .str [85, 83, 68], .str [36], .str [36], .slice 85 0 2 (some 2) 2, .int .i64 2, .int .i64 0, .int .i64 2, .int .i64 0] 131 true,
      .blk [.int .i64 5, .str [123, 48, 125, 32, 107, 109]] 141 true,
      .blk [.str [100, 97, 121], .slice 90 0 3 (some 3) 2, .str [107, 109], .slice 87 0 1 (some 1) 2] 124 true,
      .blk [.int .i64 5, .str [123, 48, 125, 32, 123, 49, 125]] 141 true,
      .blk [.int .i64 1, .str [123, 48, 125, 32, 100, 122, 105, 101, 197, 132], .int .i64 4, .str [123, 48, 125, 32, 100, 110, 105], .int .i64 5, .str [123, 48, 125, 32, 100, 110, 105, 97]] 141 true]⟩
noncomputable def E_florinlaw15_Base_2 : Ent := ⟨.agg [.str [217, 160], .str [217, 161], .str [217, 162], .str [217, 163], .str [217, 164], .str [217, 165], .str [217, 166], .str [217, 167], .str [217, 168], .str [217, 169], .str [45], .str [43], .str [37], .str [226, 128, 176], .str [217, 171], .str [217, 172], .int .i64 1, .str [35, 44, 35, 35, 44, 35, 35, 48, 46, 35, 35, 35], .str [37, 35, 44, 35, 35, 48], .str [35, 44, 35, 35, 48, 46, 48, 48, 194, 164, 194, 164, 194, 164, 59, 194, 164, 45, 35, 44, 35, 35, 48, 46, 48, 48], .str [194, 164, 35, 44, 35, 35, 48, 46, 48, 48, 59, 40, 194, 164, 35, 44, 35, 35, 48, 46, 48, 48, 41], .str [122, 101, 114, 111, 58, 32, 110, 32, 61, 32, 48, 59, 32, 111, 110, 101, 58, 32, 110, 32, 61, 32, 49, 59, 32, 116, 119, 111, 58, 32, 110, 32, 61, 32, 50, 59, 32, 102, 101, 119, 58, 32, 110, 32, 37, 32, 49, 48, 48, 32, 61, 32, 51, 46, 46, 49, 48, 59, 32, 109, 97, 110, 121, 58, 32, 110, 32, 37, 32, 49, 48, 48, 32, 61, 32, 49, 49, 46, 46, 57, 57], .slice 86 0 3 (some 3) 2, .slice 74 0 2 (some 2) 2, .slice 71 0 7 none 2, .slice 78 0 4 (some 4) 8, .slice 81 0 2 (some 2) 2, .slice 82 0 1 (some 1) 2, .str [91, 94, 92, 117, 123, 50, 52, 125, 92, 117, 123, 50, 48, 97, 99, 125, 92, 117, 123, 97, 53, 125, 40, 93], .str [91, 48, 45, 57, 92, 117, 123, 54, 54, 48, 125, 45, 92, 117, 123, 54, 54, 57, 125, 93], .str [194, 160], .str [91, 94, 92, 117, 123, 50, 52, 125, 92, 117, 123, 50, 48, 97, 99, 125, 92, 117, 123, 97, 53, 125, 40, 93], .str [91, 48, 45, 57, 92, 117, 123, 54, 54, 48, 125, 45, 92, 117, 123, 54, 54, 57, 125, 93], .str [194, 160]],
    [.blk [.int .i64 5, .str [194, 164, 48, 75]] 141 true,
      .blk [.int .i64 5, .str [194, 164, 48, 48, 75]] 141 true,
      .blk [.int .i64 5, .str [194, 164, 48, 48, 48, 75]] 141 true,
      .blk [.int .i64 5, .str [194, 164, 48, 77]] 141 true,
      .blk [.int .i64 5, .str [194, 164, 48, 48, 77]] 141 true,
      .blk [.int .i64 5, .str [194, 164, 48, 48, 48, 77]] 141 true,
      .blk [.int .i64 5, .str [194, 164, 48, 66]] 141 true,
      .blk [.int .i64 3, .slice 64 0 1 (some 1) 2, .int .i64 4, .slice 65 0 1 (some 1) 2, .int .i64 5, .slice 66 0 1 (some 1) 2, .int .i64 6, .slice 67 0 1 (some 1) 2, .int .i64 7, .slice 68 0 1 (some 1) 2, .int .i64 8, .slice 69 0 1 (some 1) 2, .int .i64 9, .slice 70 0 1 (some 1) 2] 137 false,
      .blk [.int .i64 1, .str [48, 32, 116, 104, 111, 117, 115, 97, 110, 100], .int .i64 5, .str [48, 32, 116, 104, 111, 117, 115, 97, 110, 100, 115]] 141 true,
      .blk [.int .i64 1, .str [48, 32, 109, 105, 108, 108, 105, 111, 110], .int .i64 5, .str [48, 32, 109, 105, 108, 108, 105, 111, 110, 115]] 141 true,
      .blk [.int .i64 3, .slice 72 0 2 (some 2) 2, .int .i64 6, .slice 73 0 2 (some 2) 2] 137 true,
      .blk [.int .i64 1, .str [101, 117, 114, 111], .int .i64 5, .str [101, 117, 114, 111, 115]] 141 true,
      .blk [.int .i64 5, .str [121, 101, 110]] 141 true,
      .blk [.int .i64 1, .str [100, 111, 108, 108, 97, 114], .int .i64 5, .str [100, 111, 108, 108, 97, 114, 115]] 141 true,
      .blk [.str [67, 72, 70], .str [], .str [], .nil .slice, .int .i64 2, .int .i64 0, .int .i64 2, .int .i64 5, .str [69, 85, 82], .str [226, 130, 172], .str [226, 130, 172], .slice 75 0 2 (some 2) 2, .int .i64 2, .int .i64 0, .int .i64 2, .int .i64 0, .str [74, 80, 89], .str [194, 165], .str [], .slice 76 0 1 (some 1) 2, .int .i64 0, .int .i64 0, .int .i64 0, .int .i64 0, .str [85, 83, 68], .str [36], .str [36], .slice 77 0 2 (some 2) 2, .int .i64 2, .int .i64 0, .int .i64 2, .int .i64 0] 131 true,
      .blk [.int .i64 1, .str [123, 48, 125, 32, 100, 97, 121], .int .i64 5, .str [123, 48, 125, 32, 100, 97, 121, 115]] 141 true,
      .blk [.int .i64 5, .str [123, 48, 125, 32, 107, 109]] 141 true,
      .blk [.str [100, 97, 121], .slice 79 0 2 (some 2) 2, .str [107, 109], .slice 80 0 1 (some 1) 2] 124 true,
      .blk [.int .i64 5, .str [123, 48, 125, 32, 123, 49, 125]] 141 true,
      .blk [.int .i64 5, .str [48]] 141 true,
      .blk [.int .i64 5, .str [48, 87]] 141 true,
      .blk [.int .i64 5, .str [48, 89]] 141 true,
      .blk [.int .i64 0, .slice 83 0 1 (some 1) 2, .int .i64 4, .slice 84 0 1 (some 1) 2, .int .i64 8, .slice 85 0 1 (some 1) 2] 137 true]⟩
theorem E15_0_ok (n : Int) (h : thr n = 0) : chk 64 [78, 92, 105, 119, 132, 146, 159, 173, 186, 200, 213, 227, 240, 241, 254, 255, 256, 257, 258, 259, 260, 261, 262, 263, 264, 265, 266] (callK (cfgP pr3) 100 id_florinlaw15_Base [.int .i64 n] mG) E_florinlaw15_Base_0 = true := by
  rw [call15, h]
  kernel_rfl
theorem E15_1_ok (n : Int) (h : thr n = 1) : chk 64 [78, 92, 105, 119, 132, 146, 159, 173, 186, 200, 213, 227, 240, 241, 254, 255, 256, 257, 258, 259, 260, 261, 262, 264, 265, 266, 267] (callK (cfgP pr3) 100 id_florinlaw15_Base [.int .i64 n] mG) E_florinlaw15_Base_1 = true := by
  rw [call15, h]
  kernel_rfl
theorem E15_2_ok (n : Int) (h : thr n = 2) : chk 64 [92, 119, 146, 173, 200, 227, 254, 255, 256, 257, 258, 259, 260, 261, 262, 263, 264, 265, 266, 277, 278, 279, 280] (callK (cfgP pr3) 100 id_florinlaw15_Base [.int .i64 n] mG) E_florinlaw15_Base_2 = true := by
  rw [call15, h]
  kernel_rfl
/-- .. as a primitive -/
noncomputable def pick3 {α : Type} (x : Int) (a b c : α) : α := Bool.casesOn (ieq x 1) (Bool.casesOn (ieq x 2) a c) b
theorem thr_cases (n : Int) : thr n = 0 ∨ thr n = 1 ∨ thr n = 2 := by
  unfold thr
  rw [wrap_eq, wrap_eq]
  have h : 0 ≤ IntKind.wrap .u64 n := by
    show 0 ≤ n % 18446744073709551616
    omega
  generalize IntKind.wrap .u64 n = x at h
  have e : Int.tmod x 3 = x % 3 := Int.tmod_eq_emod_of_nonneg h
  rw [e]
  have h1 : 0 ≤ x % 3 ∧ x % 3 < 3 := by omega
  rw [wrap64 (by omega) (by omega)]
  omega
noncomputable def g15 : List AV → Mem → Option VM := fun args m => match args with
  | [.int .i64 n] => pick3 (thr n) (entM 64 E_florinlaw15_Base_0 m) (entM 64 E_florinlaw15_Base_1 m) (entM 64 E_florinlaw15_Base_2 m)
  | _ => none
theorem pick3_0 {α : Type} {x : Int} (h : x = 0) (a b c : α) : pick3 x a b c = a := by subst h; rfl
theorem pick3_1 {α : Type} {x : Int} (h : x = 1) (a b c : α) : pick3 x a b c = b := by subst h; rfl
theorem pick3_2 {α : Type} {x : Int} (h : x = 2) (a b c : α) : pick3 x a b c = c := by subst h; rfl
theorem g15_ok : GOk Tryz.prog id_florinlaw15_Base g15 := by
  intro args v m m' ι w vals hR ha hg
  unfold g15 at hg
  split at hg
  · rename_i n
    rcases thr_cases n with h | h | h
    · rw [pick3_0 h] at hg
      exact ent_ok (cfg_ok pr3_ok) mG_small (by kernel_rfl) (by kernel_rfl) (E15_0_ok n h) v m m' ι w vals hR ha hg
    · rw [pick3_1 h] at hg
      exact ent_ok (cfg_ok pr3_ok) mG_small (by kernel_rfl) (by kernel_rfl) (E15_1_ok n h) v m m' ι w vals hR ha hg
    · rw [pick3_2 h] at hg
      exact ent_ok (cfg_ok pr3_ok) mG_small (by kernel_rfl) (by kernel_rfl) (E15_2_ok n h) v m m' ι w vals hR ha hg
  · cases hg
noncomputable def pr4 : Prims := prOr id_florinlaw15_Base g15 pr3
theorem pr4_ok : PrOk Tryz.prog pr4 := prOr_ok g15_ok pr3_ok
noncomputable def vmOf (o : Option VM) : VM := Option.casesOn o ⟨.undef, ⟨0, 0, .nil, []⟩⟩ fun x => x
theorem callPrim {c : Cfg} {f : FuncId} {args : List AV} {m m' : Mem} {v : AV} {F : Nat} (h : primAt c f args m = some ⟨v, m'⟩) : callK c (F + 1) f args m = .ret v m' := by
  show (Option.rec _ _ (primAt c f args m) : FR) = _
  rw [h]
end Go.K
