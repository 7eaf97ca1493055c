/- A part of a proof over an evaluator for programs of this form: G1BX. -/
import Derived.Test.YtjbbjdcpkepaiaaGreatDoorG1C
import Derived.Test.YtjbbjdcpkepaiaaGreatDoorLH
set_option linter.all false
set_option autoImplicit false
namespace Go.K
open Go Go.Proofs
noncomputable def L0_group_Text (call : CallFn) : CFn :=
  cSeq (seqK call [⟨t2 (pa 9) fLtI (.tmp (pa 8)) (.tmp (pa 7))⟩])
  (cSeq (cCond (some (.tmp (pa 9)))
      (cSkip)
      (cExit 0))
  (cSeq (cBlock 1 (cSeq (seqK call [⟨t2 (pa 10) (fIdxSl 2) (.tmp (pa 6)) (.tmp (pa 8))⟩,
        ⟨tR1 (pa 11) (rLoad true 2) (.tmp (pa 10))⟩,
        ⟨tAl (pa 5) (fAllocBlk 68 [.int .i64 0, .str []]) mkPtr []⟩,
        ⟨tHv .no (hStore 2) [(.tmp (pa 5)), (.tmp (pa 11))]⟩])
    (seqK call [⟨t1 (pa 12) (fFieldAddr 1) (.tmp (pa 5))⟩,
      ⟨tR1 (pa 13) (rLoad false 1) (.tmp (pa 12))⟩,
      ⟨tCall (pa 14) (.val (.func id_strings_Builder_WriteString [] [])) [(.tmp (pa 3)), (.tmp (pa 13))]⟩])))
  (seqK call [⟨t2 (pa 15) fAddI (.tmp (pa 8)) (.val (.int .i64 1))⟩,
    ⟨tMv (pa 8) (.tmp (pa 15))⟩])))
noncomputable def B_group_Text (call : CallFn) : CFn :=
  cSeq (seqK call [⟨tMv (pa 2) (.val (.str []))⟩])
  (cSeq (seqK call [⟨tAl (pa 3) (fAllocBlk 98 [.nil .ptr, .nil .slice]) mkPtr []⟩])
  (cSeq (cSeq (seqK call [⟨tMv (pa 6) (.tmp (pa 0))⟩,
        ⟨t1 (pa 7) fLenSl (.tmp (pa 6))⟩,
        ⟨tMv (pa 8) (.val (.int .i64 0))⟩])
    (cBlock 0 (cLoop 1000 (L0_group_Text call))))
  (cSeq (seqK call [⟨tCall (pa 16) (.val (.func id_strings_Builder_String [] [])) [(.tmp (pa 3))]⟩,
      ⟨tMv (pa 2) (.tmp (pa 16))⟩])
  (cRet))))
theorem F_group_Text {pr : Prims} : Fn (cfgP pr) id_group_Text 17 5 [.tmp (pa 2)] B_group_Text :=
  ⟨⟨Tryz.f15.body.getD .skip, by kernel_rfl, fun call => by kernel_rfl⟩⟩
noncomputable def L0_group_Spans (call : CallFn) : CFn :=
  cSeq (seqK call [⟨t2 (pa 11) fLtI (.tmp (pa 10)) (.tmp (pa 9))⟩])
  (cSeq (cCond (some (.tmp (pa 11)))
      (cSkip)
      (cExit 0))
  (cSeq (cBlock 1 (cSeq (seqK call [⟨t2 (pa 12) (fIdxSl 2) (.tmp (pa 8)) (.tmp (pa 10))⟩,
        ⟨tR1 (pa 13) (rLoad true 2) (.tmp (pa 12))⟩,
        ⟨tAl (pa 6) (fAllocBlk 68 [.int .i64 0, .str []]) mkPtr []⟩,
        ⟨tHv .no (hStore 2) [(.tmp (pa 6)), (.tmp (pa 13))]⟩])
    (cSeq (seqK call [⟨t1 (pa 14) (fFieldAddr 1) (.tmp (pa 6))⟩,
        ⟨tR1 (pa 15) (rLoad false 1) (.tmp (pa 14))⟩,
        ⟨t1 (pa 16) fLenS (.tmp (pa 15))⟩,
        ⟨tMv (pa 7) (.tmp (pa 16))⟩])
    (cSeq (seqK call [⟨tMv (pa 17) (.tmp (pa 7))⟩,
        ⟨t2 (pa 18) fGtI (.tmp (pa 17)) (.val (.int .i64 0))⟩])
    (cCond (some (.tmp (pa 18)))
      (cSeq (seqK call [⟨tMv (pa 19) (.tmp (pa 3))⟩,
          ⟨t1 (pa 20) (fFieldAddr 0) (.tmp (pa 6))⟩,
          ⟨tR1 (pa 21) (rLoad false 1) (.tmp (pa 20))⟩,
          ⟨tMv (pa 22) (.tmp (pa 4))⟩,
          ⟨tMv (pa 23) (.tmp (pa 4))⟩,
          ⟨tMv (pa 24) (.tmp (pa 7))⟩,
          ⟨t2 (pa 25) fAddI (.tmp (pa 23)) (.tmp (pa 24))⟩,
          ⟨tN (pa 26) (fBuild [.int .i64 0, .int .i64 0, .int .i64 0] [(0, 1), (1, 1), (2, 1)]) [(.tmp (pa 21)), (.tmp (pa 22)), (.tmp (pa 25))]⟩,
          ⟨tAl (pa 27) (fRowBlk 85 (rep 1 [.int .i64 0, .int .i64 0, .int .i64 0]) [(0, 3)]) (mkSl 1 3) [(.tmp (pa 26))]⟩,
          ⟨tHv (pa 28) (hAppend 85 3) [(.tmp (pa 19)), (.tmp (pa 27))]⟩,
          ⟨tMv (pa 3) (.tmp (pa 28))⟩])
      (seqK call [⟨tMv (pa 29) (.tmp (pa 4))⟩,
        ⟨tMv (pa 30) (.tmp (pa 7))⟩,
        ⟨t2 (pa 31) fAddI (.tmp (pa 29)) (.tmp (pa 30))⟩,
        ⟨tMv (pa 4) (.tmp (pa 31))⟩]))
      (cSkip))))))
  (seqK call [⟨t2 (pa 32) fAddI (.tmp (pa 10)) (.val (.int .i64 1))⟩,
    ⟨tMv (pa 10) (.tmp (pa 32))⟩])))
noncomputable def B_group_Spans (call : CallFn) : CFn :=
  cSeq (seqK call [⟨tMv (pa 2) (.val (.nil .slice))⟩])
  (cSeq (seqK call [⟨tMv (pa 3) (.val (.nil .slice))⟩])
  (cSeq (seqK call [⟨tMv (pa 4) (.val (.int .i64 0))⟩])
  (cSeq (cSeq (seqK call [⟨tMv (pa 8) (.tmp (pa 0))⟩,
        ⟨t1 (pa 9) fLenSl (.tmp (pa 8))⟩,
        ⟨tMv (pa 10) (.val (.int .i64 0))⟩])
    (cBlock 0 (cLoop 1000 (L0_group_Spans call))))
  (cSeq (seqK call [⟨tMv (pa 33) (.tmp (pa 3))⟩,
      ⟨tMv (pa 2) (.tmp (pa 33))⟩])
  (cRet)))))
theorem F_group_Spans {pr : Prims} : Fn (cfgP pr) id_group_Spans 34 6 [.tmp (pa 2)] B_group_Spans :=
  ⟨⟨Tryz.f24.body.getD .skip, by kernel_rfl, fun call => by kernel_rfl⟩⟩
end Go.K
