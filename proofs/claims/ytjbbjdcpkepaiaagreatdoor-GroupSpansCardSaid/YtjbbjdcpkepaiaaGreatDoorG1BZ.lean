/- A part of a proof over an evaluator for programs of this form: G1BZ. -/
import Derived.Test.YtjbbjdcpkepaiaaGreatDoorG1C
import Derived.Test.YtjbbjdcpkepaiaaGreatDoorLH
set_option linter.all false
set_option autoImplicit false
namespace Go.K
open Go Go.Proofs
noncomputable def L0_florinlaw18_GroupSpans (call : CallFn) : CFn :=
  cSeq (seqK call [⟨t2 (pa 18) fLtI (.tmp (pa 17)) (.tmp (pa 16))⟩])
  (cSeq (cCond (some (.tmp (pa 18)))
      (cSkip)
      (cExit 0))
  (cSeq (cBlock 1 (cSeq (seqK call [⟨t2 (pa 19) (fIdxSl 2) (.tmp (pa 15)) (.tmp (pa 17))⟩,
        ⟨tR1 (pa 20) (rLoad true 2) (.tmp (pa 19))⟩,
        ⟨tAl (pa 6) (fAllocBlk 68 [.int .i64 0, .str []]) mkPtr []⟩,
        ⟨tHv .no (hStore 2) [(.tmp (pa 6)), (.tmp (pa 20))]⟩])
    (cSeq (cSeq (seqK call [⟨t1 (pa 21) (fFieldAddr 1) (.tmp (pa 6))⟩,
          ⟨tR1 (pa 22) (rLoad false 1) (.tmp (pa 21))⟩,
          ⟨t1 (pa 23) fLenS (.tmp (pa 22))⟩,
          ⟨t2 (pa 24) fGtI (.tmp (pa 23)) (.val (.int .i64 60))⟩])
      (cCond (some (.tmp (pa 24)))
        (cSeq (seqK call [⟨tMv (pa 2) (.val (.bool true))⟩])
        (cRet))
        (cSkip)))
    (cSeq (cSeq (seqK call [⟨t1 (pa 25) (fFieldAddr 1) (.tmp (pa 6))⟩,
          ⟨tR1 (pa 26) (rLoad false 1) (.tmp (pa 25))⟩,
          ⟨t2 (pa 27) (fEq true eqStr) (.tmp (pa 26)) (.val (.str []))⟩])
      (cCond (some (.tmp (pa 27)))
        (seqK call [⟨tMv (pa 28) (.tmp (pa 4))⟩,
          ⟨t1 (pa 29) (fFieldAddr 0) (.tmp (pa 6))⟩,
          ⟨tR1 (pa 30) (rLoad false 1) (.tmp (pa 29))⟩,
          ⟨tMv (pa 31) (.tmp (pa 3))⟩,
          ⟨t1 (pa 32) fLenS (.tmp (pa 31))⟩,
          ⟨tMv (pa 33) (.tmp (pa 3))⟩,
          ⟨t1 (pa 34) fLenS (.tmp (pa 33))⟩,
          ⟨t1 (pa 35) (fFieldAddr 1) (.tmp (pa 6))⟩,
          ⟨tR1 (pa 36) (rLoad false 1) (.tmp (pa 35))⟩,
          ⟨t1 (pa 37) fLenS (.tmp (pa 36))⟩,
          ⟨t2 (pa 38) fAddI (.tmp (pa 34)) (.tmp (pa 37))⟩,
          ⟨tN (pa 39) (fBuild [.int .i64 0, .int .i64 0, .int .i64 0] [(0, 1), (1, 1), (2, 1)]) [(.tmp (pa 30)), (.tmp (pa 32)), (.tmp (pa 38))]⟩,
          ⟨tAl (pa 40) (fRowBlk 85 (rep 1 [.int .i64 0, .int .i64 0, .int .i64 0]) [(0, 3)]) (mkSl 1 3) [(.tmp (pa 39))]⟩,
          ⟨tHv (pa 41) (hAppend 85 3) [(.tmp (pa 28)), (.tmp (pa 40))]⟩,
          ⟨tMv (pa 4) (.tmp (pa 41))⟩])
        (cSkip)))
    (seqK call [⟨tMv (pa 42) (.tmp (pa 3))⟩,
      ⟨t1 (pa 43) (fFieldAddr 1) (.tmp (pa 6))⟩,
      ⟨tR1 (pa 44) (rLoad false 1) (.tmp (pa 43))⟩,
      ⟨t2 (pa 45) fAddS (.tmp (pa 42)) (.tmp (pa 44))⟩,
      ⟨tMv (pa 3) (.tmp (pa 45))⟩])))))
  (seqK call [⟨t2 (pa 46) fAddI (.tmp (pa 17)) (.val (.int .i64 1))⟩,
    ⟨tMv (pa 17) (.tmp (pa 46))⟩])))
noncomputable def L1_florinlaw18_GroupSpans (call : CallFn) : CFn :=
  cSeq (seqK call [⟨t2 (pa 63) fLtI (.tmp (pa 62)) (.tmp (pa 61))⟩])
  (cSeq (cCond (some (.tmp (pa 63)))
      (cSkip)
      (cExit 2))
  (cSeq (cBlock 3 (cSeq (seqK call [⟨tMv (pa 64) (.tmp (pa 62))⟩,
        ⟨tMv (pa 8) (.tmp (pa 64))⟩])
    (cSeq (seqDraw call [⟨0, 0, ⟨(pa 65), none, (.mv (.tmp (pa 7)))⟩⟩, ⟨1, 0, ⟨(pa 66), none, (.mv (.tmp (pa 8)))⟩⟩, ⟨2, 3, ⟨(pa 67), none, (.p2 (fIdxSl 3) (.tmp (pa 65)) (.tmp (pa 66)))⟩⟩, ⟨3, 7, ⟨(pa 68), none, (.r1 (rLoad true 3) (.tmp (pa 67)))⟩⟩, ⟨4, 0, ⟨(pa 69), none, (.mv (.tmp (pa 4)))⟩⟩, ⟨5, 0, ⟨(pa 70), none, (.mv (.tmp (pa 8)))⟩⟩, ⟨6, 48, ⟨(pa 71), none, (.p2 (fIdxSl 3) (.tmp (pa 69)) (.tmp (pa 70)))⟩⟩, ⟨7, 112, ⟨(pa 72), none, (.r1 (rLoad true 3) (.tmp (pa 71)))⟩⟩, ⟨8, 255, ⟨(pa 73), none, (.p2 (fEq true (eqD Tryz.prog 9 85)) (.tmp (pa 68)) (.tmp (pa 72)))⟩⟩] 9)
    (cCond (some (.tmp (pa 73)))
      (cSeq (seqK call [⟨tMv (pa 2) (.val (.bool false))⟩])
      (cRet))
      (cSkip)))))
  (seqK call [⟨t2 (pa 74) fAddI (.tmp (pa 62)) (.val (.int .i64 1))⟩,
    ⟨tMv (pa 62) (.tmp (pa 74))⟩])))
noncomputable def B_florinlaw18_GroupSpans (call : CallFn) : CFn :=
  cSeq (seqK call [⟨tMv (pa 2) (.val (.bool false))⟩])
  (cSeq (cSeq (seqK call [⟨tCall (pa 9) (.val (.func id_florinlaw18_head [] [])) []⟩,
        ⟨t1 (pa 10) fNot (.tmp (pa 9))⟩])
    (cCond (some (.tmp (pa 10)))
      (cSeq (seqK call [⟨tMv (pa 2) (.val (.bool false))⟩])
      (cRet))
      (cSkip)))
  (cSeq (cSeq (seqK call [⟨tMv (pa 11) (.tmp (pa 0))⟩,
        ⟨t1 (pa 12) fLenSl (.tmp (pa 11))⟩,
        ⟨t2 (pa 13) fGtI (.tmp (pa 12)) (.val (.int .i64 40))⟩])
    (cCond (some (.tmp (pa 13)))
      (cSeq (seqK call [⟨tMv (pa 2) (.val (.bool true))⟩])
      (cRet))
      (cSkip)))
  (cSeq (seqK call [⟨tMv (pa 3) (.val (.str []))⟩])
  (cSeq (seqK call [⟨tAl (pa 14) (fRowBlk 85 (rep 0 [.int .i64 0, .int .i64 0, .int .i64 0]) []) (mkSl 0 3) []⟩,
      ⟨tMv (pa 4) (.tmp (pa 14))⟩])
  (cSeq (cSeq (seqK call [⟨tMv (pa 15) (.tmp (pa 0))⟩,
        ⟨t1 (pa 16) fLenSl (.tmp (pa 15))⟩,
        ⟨tMv (pa 17) (.val (.int .i64 0))⟩])
    (cBlock 0 (cLoop 1000 (L0_florinlaw18_GroupSpans call))))
  (cSeq (seqK call [⟨tMv (pa 47) (.tmp (pa 0))⟩,
      ⟨tCall (pa 48) (.val (.func id_group_Spans [] [])) [(.tmp (pa 47))]⟩,
      ⟨tMv (pa 7) (.tmp (pa 48))⟩])
  (cSeq (cSeq (seqK call [⟨tMv (pa 49) (.tmp (pa 0))⟩,
        ⟨tCall (pa 50) (.val (.func id_group_Text [] [])) [(.tmp (pa 49))]⟩,
        ⟨tMv (pa 51) (.tmp (pa 3))⟩,
        ⟨t2 (pa 52) (fEq true eqStr) (.tmp (pa 50)) (.tmp (pa 51))⟩,
        ⟨tMv (pa 53) (.tmp (pa 52))⟩,
        ⟨tGd (pa 53) false (pa 54) (tMv (pa 54) (.tmp (pa 7)))⟩,
        ⟨tGd (pa 53) false (pa 55) (t1 (pa 55) fLenSl (.tmp (pa 54)))⟩,
        ⟨tGd (pa 53) false (pa 56) (tMv (pa 56) (.tmp (pa 4)))⟩,
        ⟨tGd (pa 53) false (pa 57) (t1 (pa 57) fLenSl (.tmp (pa 56)))⟩,
        ⟨tGd (pa 53) false (pa 58) (t2 (pa 58) fNeI (.tmp (pa 55)) (.tmp (pa 57)))⟩,
        ⟨tN (pa 59) fPick [(.tmp (pa 53)), (.val (.bool true)), (.tmp (pa 58))]⟩])
    (cCond (some (.tmp (pa 59)))
      (cSeq (seqK call [⟨tMv (pa 2) (.val (.bool false))⟩])
      (cRet))
      (cSkip)))
  (cSeq (cSeq (seqK call [⟨tMv (pa 60) (.tmp (pa 7))⟩,
        ⟨t1 (pa 61) fLenSl (.tmp (pa 60))⟩,
        ⟨tMv (pa 62) (.val (.int .i64 0))⟩])
    (cBlock 2 (cLoop 1000 (L1_florinlaw18_GroupSpans call))))
  (cSeq (seqK call [⟨tMv (pa 2) (.val (.bool true))⟩])
  (cRet))))))))))
theorem F_florinlaw18_GroupSpans {pr : Prims} : Fn (cfgP pr) id_florinlaw18_GroupSpans 75 7 [.tmp (pa 2)] B_florinlaw18_GroupSpans :=
  ⟨⟨Tryz.f7.body.getD .skip, by kernel_rfl, fun call => by kernel_rfl⟩⟩
end Go.K
