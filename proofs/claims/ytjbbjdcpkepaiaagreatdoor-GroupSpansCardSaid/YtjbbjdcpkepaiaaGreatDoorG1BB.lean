/- A part of a proof over an evaluator for programs of this form: G1BB. -/
import Derived.Test.YtjbbjdcpkepaiaaGreatDoorG1C
import Derived.Test.YtjbbjdcpkepaiaaGreatDoorLH
set_option linter.all false
set_option autoImplicit false
namespace Go.K
open Go Go.Proofs
noncomputable def B_strings_Builder_WriteString (call : CallFn) : CFn :=
  cSeq (seqK call [⟨tMv (pa 4) (.val (.int .i64 0))⟩,
      ⟨tMv (pa 5) (.val (.nil .iface))⟩])
  (cSeq (seqK call [⟨tMv (pa 6) (.tmp (pa 0))⟩,
      ⟨tCall (pa 7) (.val (.func id_strings_Builder_copyCheck [] [])) [(.tmp (pa 6))]⟩])
  (cSeq (seqK call [⟨tMv (pa 8) (.tmp (pa 0))⟩,
      ⟨tMv (pa 9) (.tmp (pa 0))⟩,
      ⟨t1 (pa 10) fNilCheck (.tmp (pa 9))⟩,
      ⟨t1 (pa 11) (fFieldAddr 1) (.tmp (pa 10))⟩,
      ⟨tR1 (pa 12) (rLoad false 1) (.tmp (pa 11))⟩,
      ⟨tMv (pa 13) (.tmp (pa 1))⟩,
      ⟨tHv (pa 14) (hAppend 5 1) [(.tmp (pa 12)), (.tmp (pa 13))]⟩,
      ⟨t1 (pa 15) fNilCheck (.tmp (pa 8))⟩,
      ⟨t1 (pa 16) (fFieldAddr 1) (.tmp (pa 15))⟩,
      ⟨tHv .no (hStore 1) [(.tmp (pa 16)), (.tmp (pa 14))]⟩])
  (cSeq (seqK call [⟨tMv (pa 17) (.tmp (pa 1))⟩,
      ⟨t1 (pa 18) fLenS (.tmp (pa 17))⟩,
      ⟨tMv (pa 4) (.tmp (pa 18))⟩,
      ⟨tMv (pa 5) (.val (.nil .iface))⟩])
  (cRet))))
theorem F_strings_Builder_WriteString {pr : Prims} : Fn (cfgP pr) id_strings_Builder_WriteString 19 5 [.tmp (pa 4), .tmp (pa 5)] B_strings_Builder_WriteString :=
  ⟨⟨Tryz.f30.body.getD .skip, by kernel_rfl, fun call => by kernel_rfl⟩⟩
noncomputable def B_strings_Builder_String (call : CallFn) : CFn :=
  cSeq (seqK call [⟨tMv (pa 2) (.val (.str []))⟩])
  (cSeq (seqDraw call [⟨0, 0, ⟨(pa 3), none, (.mv (.tmp (pa 0)))⟩⟩, ⟨1, 1, ⟨(pa 4), none, (.p1 fNilCheck (.tmp (pa 3)))⟩⟩, ⟨2, 3, ⟨(pa 5), none, (.p1 (fFieldAddr 1) (.tmp (pa 4)))⟩⟩, ⟨3, 7, ⟨(pa 6), none, (.r1 (rLoad false 1) (.tmp (pa 5)))⟩⟩, ⟨4, 15, ⟨(pa 7), none, (.hv hSliceData [(.tmp (pa 6))])⟩⟩, ⟨5, 0, ⟨(pa 8), none, (.mv (.tmp (pa 0)))⟩⟩, ⟨6, 32, ⟨(pa 9), none, (.p1 fNilCheck (.tmp (pa 8)))⟩⟩, ⟨7, 96, ⟨(pa 10), none, (.p1 (fFieldAddr 1) (.tmp (pa 9)))⟩⟩, ⟨8, 224, ⟨(pa 11), none, (.r1 (rLoad false 1) (.tmp (pa 10)))⟩⟩, ⟨9, 480, ⟨(pa 12), none, (.p1 fLenSl (.tmp (pa 11)))⟩⟩, ⟨10, 1023, ⟨(pa 13), none, (.hv (hString 5) [(.tmp (pa 7)), (.tmp (pa 12))])⟩⟩, ⟨11, 2047, ⟨(pa 2), none, (.mv (.tmp (pa 13)))⟩⟩] 12)
  (cRet))
theorem F_strings_Builder_String {pr : Prims} : Fn (cfgP pr) id_strings_Builder_String 14 4 [.tmp (pa 2)] B_strings_Builder_String :=
  ⟨⟨Tryz.f31.body.getD .skip, by kernel_rfl, fun call => by kernel_rfl⟩⟩
noncomputable def B_strings_Builder_copyCheck (call : CallFn) : CFn :=
  cSeq (seqK call [⟨tMv (pa 2) (.tmp (pa 0))⟩,
      ⟨t1 (pa 3) fNilCheck (.tmp (pa 2))⟩,
      ⟨t1 (pa 4) (fFieldAddr 0) (.tmp (pa 3))⟩,
      ⟨tR1 (pa 5) (rLoad false 1) (.tmp (pa 4))⟩,
      ⟨t2 (pa 6) (fEq false (eqPtr true)) (.tmp (pa 5)) (.val (.nil .ptr))⟩])
  (cCond (some (.tmp (pa 6)))
    (seqK call [⟨tMv (pa 7) (.tmp (pa 0))⟩,
      ⟨tMv (pa 8) (.tmp (pa 0))⟩,
      ⟨tR1 (pa 9) rUnsafe (.tmp (pa 8))⟩,
      ⟨tCall (pa 10) (.val (.func id_internal_abi_NoEscape [] [])) [(.tmp (pa 9))]⟩,
      ⟨tR1 (pa 11) (rBack Tryz.prog 98) (.tmp (pa 10))⟩,
      ⟨t1 (pa 12) fNilCheck (.tmp (pa 7))⟩,
      ⟨t1 (pa 13) (fFieldAddr 0) (.tmp (pa 12))⟩,
      ⟨tHv .no (hStore 1) [(.tmp (pa 13)), (.tmp (pa 11))]⟩])
    (cSeq (seqK call [⟨tMv (pa 14) (.tmp (pa 0))⟩,
        ⟨t1 (pa 15) fNilCheck (.tmp (pa 14))⟩,
        ⟨t1 (pa 16) (fFieldAddr 0) (.tmp (pa 15))⟩,
        ⟨tR1 (pa 17) (rLoad false 1) (.tmp (pa 16))⟩,
        ⟨tMv (pa 18) (.tmp (pa 0))⟩,
        ⟨t2 (pa 19) (fEq true (eqPtr true)) (.tmp (pa 17)) (.tmp (pa 18))⟩])
    (cCond (some (.tmp (pa 19)))
      (cFail)
      (cSkip))))
theorem F_strings_Builder_copyCheck {pr : Prims} : Fn (cfgP pr) id_strings_Builder_copyCheck 20 5 [] B_strings_Builder_copyCheck :=
  ⟨⟨Tryz.f56.body.getD .skip, by kernel_rfl, fun call => by kernel_rfl⟩⟩
noncomputable def B_strings_Builder_WriteByte (call : CallFn) : CFn :=
  cSeq (seqK call [⟨tMv (pa 4) (.val (.nil .iface))⟩])
  (cSeq (seqK call [⟨tMv (pa 5) (.tmp (pa 0))⟩,
      ⟨tCall (pa 6) (.val (.func id_strings_Builder_copyCheck [] [])) [(.tmp (pa 5))]⟩])
  (cSeq (seqK call [⟨tMv (pa 7) (.tmp (pa 0))⟩,
      ⟨tMv (pa 8) (.tmp (pa 0))⟩,
      ⟨t1 (pa 9) fNilCheck (.tmp (pa 8))⟩,
      ⟨t1 (pa 10) (fFieldAddr 1) (.tmp (pa 9))⟩,
      ⟨tR1 (pa 11) (rLoad false 1) (.tmp (pa 10))⟩,
      ⟨tMv (pa 12) (.tmp (pa 1))⟩,
      ⟨tAl (pa 13) (fRowBlk 5 (rep 1 [.int .u8 0]) [(0, 1)]) (mkSl 1 1) [(.tmp (pa 12))]⟩,
      ⟨tHv (pa 14) (hAppend 5 1) [(.tmp (pa 11)), (.tmp (pa 13))]⟩,
      ⟨t1 (pa 15) fNilCheck (.tmp (pa 7))⟩,
      ⟨t1 (pa 16) (fFieldAddr 1) (.tmp (pa 15))⟩,
      ⟨tHv .no (hStore 1) [(.tmp (pa 16)), (.tmp (pa 14))]⟩])
  (cSeq (seqK call [⟨tMv (pa 4) (.val (.nil .iface))⟩])
  (cRet))))
theorem F_strings_Builder_WriteByte {pr : Prims} : Fn (cfgP pr) id_strings_Builder_WriteByte 17 5 [.tmp (pa 4)] B_strings_Builder_WriteByte :=
  ⟨⟨Tryz.f202.body.getD .skip, by kernel_rfl, fun call => by kernel_rfl⟩⟩
end Go.K
