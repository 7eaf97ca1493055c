/- A part of a proof over an evaluator for programs of this form: G1B2. -/
import Derived.Test.YtjbbjdcpkepaiaaGreatDoorG1T1
import Derived.Test.YtjbbjdcpkepaiaaGreatDoorLH
set_option linter.all false
set_option autoImplicit false
namespace Go.K
open Go Go.Proofs
noncomputable def L0_florinlaw15_Base (call : CallFn) : CFn :=
  cSeq (seqK call [⟨t2 (pa 12) fLtI (.tmp (pa 11)) (.tmp (pa 10))⟩])
  (cSeq (cCond (some (.tmp (pa 12)))
      (cSkip)
      (cExit 0))
  (cSeq (cBlock 1 (cSeq (seqK call [⟨tMv (pa 13) (.tmp (pa 11))⟩,
        ⟨t2 (pa 14) (fIdxSl 1) (.tmp (pa 9)) (.tmp (pa 11))⟩,
        ⟨tR1 (pa 15) (rLoad false 1) (.tmp (pa 14))⟩,
        ⟨tMv (pa 4) (.tmp (pa 13))⟩,
        ⟨tMv (pa 5) (.tmp (pa 15))⟩])
    (cSeq (seqDraw call [⟨0, 0, ⟨(pa 16), none, (.p1 (fFieldAddr 22) (.tmp (pa 3)))⟩⟩, ⟨1, 1, ⟨(pa 17), none, (.r1 (rLoad false 1) (.tmp (pa 16)))⟩⟩, ⟨2, 0, ⟨(pa 18), none, (.mv (.tmp (pa 4)))⟩⟩, ⟨3, 4, ⟨(pa 19), none, (.p2 fAddI (.val (.int .i64 3)) (.tmp (pa 18)))⟩⟩, ⟨4, 0, ⟨(pa 20), none, (.mv (.tmp (pa 5)))⟩⟩, ⟨5, 16, ⟨(pa 21), none, (.call (.val (.func id_florinlaw15_One [] [])) [(.tmp (pa 20))])⟩⟩, ⟨6, 60, ⟨(pa 22), none, (.pN (fBuild [.int .i64 0, .nil .slice] [(0, 1), (1, 1)]) [(.tmp (pa 19)), (.tmp (pa 21))])⟩⟩, ⟨7, 124, ⟨(pa 23), none, (.al (fRowBlk 137 (rep 1 [.int .i64 0, .nil .slice]) [(0, 2)]) (mkSl 1 2) [(.tmp (pa 22))])⟩⟩, ⟨8, 255, ⟨(pa 24), none, (.hv (hAppend 137 2) [(.tmp (pa 17)), (.tmp (pa 23))])⟩⟩, ⟨9, 511, ⟨(pa 25), none, (.p1 (fFieldAddr 22) (.tmp (pa 3)))⟩⟩, ⟨10, 1023, ⟨.no, none, (.hv (hStore 1) [(.tmp (pa 25)), (.tmp (pa 24))])⟩⟩] 11)
    (seqDraw call [⟨0, 0, ⟨(pa 26), none, (.p1 (fFieldAddr 24) (.tmp (pa 3)))⟩⟩, ⟨1, 1, ⟨(pa 27), none, (.r1 (rLoad false 1) (.tmp (pa 26)))⟩⟩, ⟨2, 0, ⟨(pa 28), none, (.mv (.tmp (pa 4)))⟩⟩, ⟨3, 4, ⟨(pa 29), none, (.p2 fAddI (.val (.int .i64 3)) (.tmp (pa 28)))⟩⟩, ⟨4, 0, ⟨(pa 30), none, (.mv (.tmp (pa 5)))⟩⟩, ⟨5, 16, ⟨(pa 31), none, (.p2 fAddS (.val (.str [194, 164])) (.tmp (pa 30)))⟩⟩, ⟨6, 48, ⟨(pa 32), none, (.call (.val (.func id_florinlaw15_One [] [])) [(.tmp (pa 31))])⟩⟩, ⟨7, 124, ⟨(pa 33), none, (.pN (fBuild [.int .i64 0, .nil .slice] [(0, 1), (1, 1)]) [(.tmp (pa 29)), (.tmp (pa 32))])⟩⟩, ⟨8, 252, ⟨(pa 34), none, (.al (fRowBlk 137 (rep 1 [.int .i64 0, .nil .slice]) [(0, 2)]) (mkSl 1 2) [(.tmp (pa 33))])⟩⟩, ⟨9, 511, ⟨(pa 35), none, (.hv (hAppend 137 2) [(.tmp (pa 27)), (.tmp (pa 34))])⟩⟩, ⟨10, 1023, ⟨(pa 36), none, (.p1 (fFieldAddr 24) (.tmp (pa 3)))⟩⟩, ⟨11, 2047, ⟨.no, none, (.hv (hStore 1) [(.tmp (pa 36)), (.tmp (pa 35))])⟩⟩] 12))))
  (seqK call [⟨t2 (pa 37) fAddI (.tmp (pa 11)) (.val (.int .i64 1))⟩,
    ⟨tMv (pa 11) (.tmp (pa 37))⟩])))
noncomputable def L1_florinlaw15_Base (call : CallFn) : CFn :=
  cSeq (seqK call [⟨t2 (pa 92) fLtI (.tmp (pa 91)) (.val (.int .i64 10))⟩])
  (cSeq (cCond (some (.tmp (pa 92)))
      (cSkip)
      (cExit 3))
  (cSeq (cBlock 4 (cSeq (seqK call [⟨tMv (pa 93) (.tmp (pa 91))⟩,
        ⟨tMv (pa 6) (.tmp (pa 93))⟩])
    (seqK call [⟨tMv (pa 94) (.tmp (pa 6))⟩,
      ⟨tMv (pa 95) (.tmp (pa 6))⟩,
      ⟨t1 (pa 96) (fConvInt .u8) (.tmp (pa 95))⟩,
      ⟨t2 (pa 97) fAddI (.val (.int .u8 160)) (.tmp (pa 96))⟩,
      ⟨tAl (pa 98) (fRowBlk 5 (rep 2 [.int .u8 0]) [(0, 1), (1, 1)]) (mkSl 2 1) [(.val (.int .u8 217)), (.tmp (pa 97))]⟩,
      ⟨tR1 (pa 99) rBytes (.tmp (pa 98))⟩,
      ⟨t1 (pa 100) (fFieldAddr 0) (.tmp (pa 3))⟩,
      ⟨t2 (pa 101) (fIdxArr 10 1) (.tmp (pa 100)) (.tmp (pa 94))⟩,
      ⟨tHv .no (hStore 1) [(.tmp (pa 101)), (.tmp (pa 99))]⟩])))
  (seqK call [⟨t2 (pa 102) fAddI (.tmp (pa 91)) (.val (.int .i64 1))⟩,
    ⟨tMv (pa 91) (.tmp (pa 102))⟩])))
noncomputable def S0_florinlaw15_Base (call : CallFn) : CFn :=
  seqK call [⟨tAl (pa 2) (fAllocBlk 47 [.str [], .str [], .str [], .str [], .str [], .str [], .str [], .str [], .str [], .str [], .str [], .str [], .str [], .str [], .str [], .str [], .int .i64 0, .str [], .str [], .str [], .str [], .str [], .nil .slice, .nil .slice, .nil .slice, .nil .slice, .nil .slice, .nil .slice, .str [], .str [], .str [], .str [], .str [], .str []]) mkPtr []⟩]
noncomputable def S1_florinlaw15_Base (call : CallFn) : CFn :=
  seqK call [⟨tCall (pa 7) (.val (.func id_glyph_Plain [] [])) []⟩,
    ⟨tN (pa 8) (fBuild [.str [], .str [], .str [], .str [], .str [], .str [], .str [], .str [], .str [], .str [], .str [], .str [], .str [], .str [], .str [], .str [], .int .i64 0, .str [], .str [], .str [], .str [], .str [], .nil .slice, .nil .slice, .nil .slice, .nil .slice, .nil .slice, .nil .slice, .str [], .str [], .str [], .str [], .str [], .str []] [(0, 10), (10, 1), (11, 1), (12, 1), (13, 1), (14, 1), (15, 1), (16, 1), (17, 1), (18, 1), (19, 1), (20, 1), (21, 1)]) [(.tmp (pa 7)), (.val (.str [45])), (.val (.str [43])), (.val (.str [37])), (.val (.str [226, 128, 176])), (.val (.str [46])), (.val (.str [44])), (.val (.int .i64 1)), (.val (.str [35, 44, 35, 35, 48, 46, 35, 35, 35])), (.val (.str [35, 44, 35, 35, 48, 37])), (.val (.str [194, 164, 35, 44, 35, 35, 48, 46, 48, 48])), (.val (.str [194, 164, 35, 44, 35, 35, 48, 46, 48, 48, 59, 40, 194, 164, 35, 44, 35, 35, 48, 46, 48, 48, 41])), (.val (.str [111, 110, 101, 58, 32, 105, 32, 61, 32, 49, 32, 97, 110, 100, 32, 118, 32, 61, 32, 48]))]⟩,
    ⟨tAl (pa 3) (fAllocBlk 47 [.str [], .str [], .str [], .str [], .str [], .str [], .str [], .str [], .str [], .str [], .str [], .str [], .str [], .str [], .str [], .str [], .int .i64 0, .str [], .str [], .str [], .str [], .str [], .nil .slice, .nil .slice, .nil .slice, .nil .slice, .nil .slice, .nil .slice, .str [], .str [], .str [], .str [], .str [], .str []]) mkPtr []⟩,
    ⟨tHv .no (hStore 34) [(.tmp (pa 3)), (.tmp (pa 8))]⟩]
noncomputable def S2a_florinlaw15_Base (call : CallFn) : CFn :=
  seqK call [⟨tAl (pa 9) (fRowBlk 9 (rep 7 [.str []]) [(0, 1), (1, 1), (2, 1), (3, 1), (4, 1), (5, 1), (6, 1)]) (mkSl 7 1) [(.val (.str [48, 75])), (.val (.str [48, 48, 75])), (.val (.str [48, 48, 48, 75])), (.val (.str [48, 77])), (.val (.str [48, 48, 77])), (.val (.str [48, 48, 48, 77])), (.val (.str [48, 66]))]⟩,
    ⟨t1 (pa 10) fLenSl (.tmp (pa 9))⟩,
    ⟨tMv (pa 11) (.val (.int .i64 0))⟩]
noncomputable def S2b_florinlaw15_Base (call : CallFn) : CFn :=
  cBlock 0 (cLoop 1000 (L0_florinlaw15_Base call))
noncomputable def S2_florinlaw15_Base (call : CallFn) : CFn := cSeq (S2a_florinlaw15_Base call) (S2b_florinlaw15_Base call)
noncomputable def S3_florinlaw15_Base (call : CallFn) : CFn :=
  seqK call [⟨tCall (pa 38) (.val (.func id_florinlaw15_Two [] [])) [(.val (.str [48, 32, 116, 104, 111, 117, 115, 97, 110, 100])), (.val (.str [48, 32, 116, 104, 111, 117, 115, 97, 110, 100, 115]))]⟩,
    ⟨tN (pa 39) (fBuild [.int .i64 0, .nil .slice] [(0, 1), (1, 1)]) [(.val (.int .i64 3)), (.tmp (pa 38))]⟩,
    ⟨tCall (pa 40) (.val (.func id_florinlaw15_Two [] [])) [(.val (.str [48, 32, 109, 105, 108, 108, 105, 111, 110])), (.val (.str [48, 32, 109, 105, 108, 108, 105, 111, 110, 115]))]⟩,
    ⟨tN (pa 41) (fBuild [.int .i64 0, .nil .slice] [(0, 1), (1, 1)]) [(.val (.int .i64 6)), (.tmp (pa 40))]⟩,
    ⟨tAl (pa 42) (fRowBlk 137 (rep 2 [.int .i64 0, .nil .slice]) [(0, 2), (2, 2)]) (mkSl 2 2) [(.tmp (pa 39)), (.tmp (pa 41))]⟩,
    ⟨t1 (pa 43) (fFieldAddr 23) (.tmp (pa 3))⟩,
    ⟨tHv .no (hStore 1) [(.tmp (pa 43)), (.tmp (pa 42))]⟩]
noncomputable def S4_florinlaw15_Base (call : CallFn) : CFn :=
  seqK call [⟨tN (pa 44) (fBuild [.str [], .str [], .str [], .nil .slice, .int .i64 0, .int .i64 0, .int .i64 0, .int .i64 0] [(0, 1), (4, 1), (6, 1), (7, 1)]) [(.val (.str [67, 72, 70])), (.val (.int .i64 2)), (.val (.int .i64 2)), (.val (.int .i64 5))]⟩,
    ⟨tCall (pa 45) (.val (.func id_florinlaw15_Two [] [])) [(.val (.str [101, 117, 114, 111])), (.val (.str [101, 117, 114, 111, 115]))]⟩,
    ⟨tN (pa 46) (fBuild [.str [], .str [], .str [], .nil .slice, .int .i64 0, .int .i64 0, .int .i64 0, .int .i64 0] [(0, 1), (1, 1), (2, 1), (3, 1), (4, 1), (6, 1)]) [(.val (.str [69, 85, 82])), (.val (.str [226, 130, 172])), (.val (.str [226, 130, 172])), (.tmp (pa 45)), (.val (.int .i64 2)), (.val (.int .i64 2))]⟩,
    ⟨tCall (pa 47) (.val (.func id_florinlaw15_One [] [])) [(.val (.str [121, 101, 110]))]⟩,
    ⟨tN (pa 48) (fBuild [.str [], .str [], .str [], .nil .slice, .int .i64 0, .int .i64 0, .int .i64 0, .int .i64 0] [(0, 1), (1, 1), (3, 1)]) [(.val (.str [74, 80, 89])), (.val (.str [194, 165])), (.tmp (pa 47))]⟩,
    ⟨tCall (pa 49) (.val (.func id_florinlaw15_Two [] [])) [(.val (.str [100, 111, 108, 108, 97, 114])), (.val (.str [100, 111, 108, 108, 97, 114, 115]))]⟩,
    ⟨tN (pa 50) (fBuild [.str [], .str [], .str [], .nil .slice, .int .i64 0, .int .i64 0, .int .i64 0, .int .i64 0] [(0, 1), (1, 1), (2, 1), (3, 1), (4, 1), (6, 1)]) [(.val (.str [85, 83, 68])), (.val (.str [36])), (.val (.str [36])), (.tmp (pa 49)), (.val (.int .i64 2)), (.val (.int .i64 2))]⟩,
    ⟨tAl (pa 51) (fRowBlk 131 (rep 4 [.str [], .str [], .str [], .nil .slice, .int .i64 0, .int .i64 0, .int .i64 0, .int .i64 0]) [(0, 8), (8, 8), (16, 8), (24, 8)]) (mkSl 4 8) [(.tmp (pa 44)), (.tmp (pa 46)), (.tmp (pa 48)), (.tmp (pa 50))]⟩,
    ⟨t1 (pa 52) (fFieldAddr 25) (.tmp (pa 3))⟩,
    ⟨tHv .no (hStore 1) [(.tmp (pa 52)), (.tmp (pa 51))]⟩]
noncomputable def S5_florinlaw15_Base (call : CallFn) : CFn :=
  seqK call [⟨tCall (pa 53) (.val (.func id_florinlaw15_Two [] [])) [(.val (.str [123, 48, 125, 32, 100, 97, 121])), (.val (.str [123, 48, 125, 32, 100, 97, 121, 115]))]⟩,
    ⟨tN (pa 54) (fBuild [.str [], .nil .slice] [(0, 1), (1, 1)]) [(.val (.str [100, 97, 121])), (.tmp (pa 53))]⟩,
    ⟨tCall (pa 55) (.val (.func id_florinlaw15_One [] [])) [(.val (.str [123, 48, 125, 32, 107, 109]))]⟩,
    ⟨tN (pa 56) (fBuild [.str [], .nil .slice] [(0, 1), (1, 1)]) [(.val (.str [107, 109])), (.tmp (pa 55))]⟩,
    ⟨tAl (pa 57) (fRowBlk 124 (rep 2 [.str [], .nil .slice]) [(0, 2), (2, 2)]) (mkSl 2 2) [(.tmp (pa 54)), (.tmp (pa 56))]⟩,
    ⟨t1 (pa 58) (fFieldAddr 26) (.tmp (pa 3))⟩,
    ⟨tHv .no (hStore 1) [(.tmp (pa 58)), (.tmp (pa 57))]⟩]
noncomputable def S6_florinlaw15_Base (call : CallFn) : CFn :=
  seqK call [⟨tCall (pa 59) (.val (.func id_florinlaw15_One [] [])) [(.val (.str [123, 48, 125, 32, 123, 49, 125]))]⟩,
    ⟨t1 (pa 60) (fFieldAddr 27) (.tmp (pa 3))⟩,
    ⟨tHv .no (hStore 1) [(.tmp (pa 60)), (.tmp (pa 59))]⟩]
noncomputable def S7_florinlaw15_Base (call : CallFn) : CFn :=
  seqK call [⟨tN (pa 61) (fBuild [.str [], .str [], .str []] [(0, 1), (1, 1), (2, 1)]) [(.val (.str [91, 94, 92, 117, 123, 50, 52, 125, 92, 117, 123, 50, 48, 97, 99, 125, 92, 117, 123, 97, 53, 125, 40, 93])), (.val (.str [91, 48, 45, 57, 92, 117, 123, 54, 54, 48, 125, 45, 92, 117, 123, 54, 54, 57, 125, 93])), (.val (.str [194, 160]))]⟩,
    ⟨t1 (pa 62) (fFieldAddr 28) (.tmp (pa 3))⟩,
    ⟨tHv .no (hStore 3) [(.tmp (pa 62)), (.tmp (pa 61))]⟩]
noncomputable def S8_florinlaw15_Base (call : CallFn) : CFn :=
  seqK call [⟨t1 (pa 63) (fFieldAddr 28) (.tmp (pa 3))⟩,
    ⟨tR1 (pa 64) (rLoad true 3) (.tmp (pa 63))⟩,
    ⟨t1 (pa 65) (fFieldAddr 31) (.tmp (pa 3))⟩,
    ⟨tHv .no (hStore 3) [(.tmp (pa 65)), (.tmp (pa 64))]⟩]
noncomputable def S9a_florinlaw15_Base (call : CallFn) : CFn :=
  seqK call [⟨tMv (pa 66) (.tmp (pa 0))⟩,
    ⟨t1 (pa 67) (fConvInt .u64) (.tmp (pa 66))⟩,
    ⟨t2 (pa 68) fRem (.tmp (pa 67)) (.val (.int .u64 3))⟩,
    ⟨t1 (pa 69) (fConvInt .i64) (.tmp (pa 68))⟩]
noncomputable def S9b_florinlaw15_Base (call : CallFn) : CFn :=
  cBlock 2 (cSeq (seqK call [⟨t2 (pa 71) fEqI (.tmp (pa 69)) (.val (.int .i64 1))⟩,
      ⟨tMv (pa 70) (.tmp (pa 71))⟩])
  (cCond (some (.tmp (pa 70)))
    (cSeq (seqK call [⟨t1 (pa 72) (fFieldAddr 14) (.tmp (pa 3))⟩,
        ⟨tHv .no (hStore 1) [(.tmp (pa 72)), (.val (.str [44]))]⟩])
    (cSeq (seqK call [⟨t1 (pa 73) (fFieldAddr 15) (.tmp (pa 3))⟩,
        ⟨tHv .no (hStore 1) [(.tmp (pa 73)), (.val (.str [194, 160]))]⟩])
    (cSeq (seqK call [⟨t1 (pa 74) (fFieldAddr 10) (.tmp (pa 3))⟩,
        ⟨tHv .no (hStore 1) [(.tmp (pa 74)), (.val (.str [226, 136, 146]))]⟩])
    (cSeq (seqK call [⟨t1 (pa 75) (fFieldAddr 16) (.tmp (pa 3))⟩,
        ⟨tHv .no (hStore 1) [(.tmp (pa 75)), (.val (.int .i64 2))]⟩])
    (cSeq (seqK call [⟨t1 (pa 76) (fFieldAddr 19) (.tmp (pa 3))⟩,
        ⟨tHv .no (hStore 1) [(.tmp (pa 76)), (.val (.str [35, 44, 35, 35, 48, 46, 48, 48, 194, 160, 194, 164]))]⟩])
    (cSeq (seqK call [⟨t1 (pa 77) (fFieldAddr 19) (.tmp (pa 3))⟩,
        ⟨tR1 (pa 78) (rLoad false 1) (.tmp (pa 77))⟩,
        ⟨t1 (pa 79) (fFieldAddr 20) (.tmp (pa 3))⟩,
        ⟨tHv .no (hStore 1) [(.tmp (pa 79)), (.tmp (pa 78))]⟩])
    (cSeq (seqK call [⟨t1 (pa 80) (fFieldAddr 21) (.tmp (pa 3))⟩,
        ⟨tHv .no (hStore 1) [(.tmp (pa 80)), (.val (.str [111, 110, 101, 58, 32, 105, 32, 61, 32, 49, 32, 97, 110, 100, 32, 118, 32, 61, 32, 48, 59, 32, 102, 101, 119, 58, 32, 118, 32, 61, 32, 48, 32, 97, 110, 100, 32, 105, 32, 37, 32, 49, 48, 32, 61, 32, 50, 46, 46, 52, 32, 97, 110, 100, 32, 105, 32, 37, 32, 49, 48, 48, 32, 33, 61, 32, 49, 50, 46, 46, 49, 52, 59, 32, 109, 97, 110, 121, 58, 32, 118, 32, 61, 32, 48, 32, 97, 110, 100, 32, 105, 32, 33, 61, 32, 49, 32, 97, 110, 100, 32, 105, 32, 37, 32, 49, 48, 32, 61, 32, 48, 46, 46, 49, 32, 111, 114, 32, 118, 32, 61, 32, 48, 32, 97, 110, 100, 32, 105, 32, 37, 32, 49, 48, 32, 61, 32, 53, 46, 46, 57, 32, 111, 114, 32, 118, 32, 61, 32, 48, 32, 97, 110, 100, 32, 105, 32, 37, 32, 49, 48, 48, 32, 61, 32, 49, 50, 46, 46, 49, 52]))]⟩])
    (seqK call [⟨t1 (pa 81) (fFieldAddr 26) (.tmp (pa 3))⟩,
      ⟨tR1 (pa 82) (rLoad false 1) (.tmp (pa 81))⟩,
      ⟨tN (pa 83) (fBuild [.int .i64 0, .str []] [(0, 1), (1, 1)]) [(.val (.int .i64 1)), (.val (.str [123, 48, 125, 32, 100, 122, 105, 101, 197, 132]))]⟩,
      ⟨tN (pa 84) (fBuild [.int .i64 0, .str []] [(0, 1), (1, 1)]) [(.val (.int .i64 4)), (.val (.str [123, 48, 125, 32, 100, 110, 105]))]⟩,
      ⟨tN (pa 85) (fBuild [.int .i64 0, .str []] [(0, 1), (1, 1)]) [(.val (.int .i64 5)), (.val (.str [123, 48, 125, 32, 100, 110, 105, 97]))]⟩,
      ⟨tAl (pa 86) (fRowBlk 141 (rep 3 [.int .i64 0, .str []]) [(0, 2), (2, 2), (4, 2)]) (mkSl 3 2) [(.tmp (pa 83)), (.tmp (pa 84)), (.tmp (pa 85))]⟩,
      ⟨t2 (pa 87) (fIdxSl 2) (.tmp (pa 82)) (.val (.int .i64 0))⟩,
      ⟨t1 (pa 88) (fFieldAddr 1) (.tmp (pa 87))⟩,
      ⟨tHv .no (hStore 1) [(.tmp (pa 88)), (.tmp (pa 86))]⟩]))))))))
    (cSeq (seqK call [⟨t2 (pa 90) fEqI (.tmp (pa 69)) (.val (.int .i64 2))⟩,
        ⟨tMv (pa 89) (.tmp (pa 90))⟩])
    (cCond (some (.tmp (pa 89)))
      (cSeq (cSeq (seqK call [⟨tMv (pa 91) (.val (.int .i64 0))⟩])
        (cBlock 3 (cLoop 1000 (L1_florinlaw15_Base call))))
      (cSeq (seqK call [⟨t1 (pa 103) (fFieldAddr 14) (.tmp (pa 3))⟩,
          ⟨tHv .no (hStore 1) [(.tmp (pa 103)), (.val (.str [217, 171]))]⟩])
      (cSeq (seqK call [⟨t1 (pa 104) (fFieldAddr 15) (.tmp (pa 3))⟩,
          ⟨tHv .no (hStore 1) [(.tmp (pa 104)), (.val (.str [217, 172]))]⟩])
      (cSeq (seqK call [⟨t1 (pa 105) (fFieldAddr 17) (.tmp (pa 3))⟩,
          ⟨tHv .no (hStore 1) [(.tmp (pa 105)), (.val (.str [35, 44, 35, 35, 44, 35, 35, 48, 46, 35, 35, 35]))]⟩])
      (cSeq (seqK call [⟨t1 (pa 106) (fFieldAddr 18) (.tmp (pa 3))⟩,
          ⟨tHv .no (hStore 1) [(.tmp (pa 106)), (.val (.str [37, 35, 44, 35, 35, 48]))]⟩])
      (cSeq (seqK call [⟨t1 (pa 107) (fFieldAddr 19) (.tmp (pa 3))⟩,
          ⟨tHv .no (hStore 1) [(.tmp (pa 107)), (.val (.str [35, 44, 35, 35, 48, 46, 48, 48, 194, 164, 194, 164, 194, 164, 59, 194, 164, 45, 35, 44, 35, 35, 48, 46, 48, 48]))]⟩])
      (cSeq (seqK call [⟨t1 (pa 108) (fFieldAddr 21) (.tmp (pa 3))⟩,
          ⟨tHv .no (hStore 1) [(.tmp (pa 108)), (.val (.str [122, 101, 114, 111, 58, 32, 110, 32, 61, 32, 48, 59, 32, 111, 110, 101, 58, 32, 110, 32, 61, 32, 49, 59, 32, 116, 119, 111, 58, 32, 110, 32, 61, 32, 50, 59, 32, 102, 101, 119, 58, 32, 110, 32, 37, 32, 49, 48, 48, 32, 61, 32, 51, 46, 46, 49, 48, 59, 32, 109, 97, 110, 121, 58, 32, 110, 32, 37, 32, 49, 48, 48, 32, 61, 32, 49, 49, 46, 46, 57, 57]))]⟩])
      (seqK call [⟨tCall (pa 109) (.val (.func id_florinlaw15_One [] [])) [(.val (.str [48]))]⟩,
        ⟨tN (pa 110) (fBuild [.int .i64 0, .nil .slice] [(0, 1), (1, 1)]) [(.val (.int .i64 0)), (.tmp (pa 109))]⟩,
        ⟨tCall (pa 111) (.val (.func id_florinlaw15_One [] [])) [(.val (.str [48, 87]))]⟩,
        ⟨tN (pa 112) (fBuild [.int .i64 0, .nil .slice] [(0, 1), (1, 1)]) [(.val (.int .i64 4)), (.tmp (pa 111))]⟩,
        ⟨tCall (pa 113) (.val (.func id_florinlaw15_One [] [])) [(.val (.str [48, 89]))]⟩,
        ⟨tN (pa 114) (fBuild [.int .i64 0, .nil .slice] [(0, 1), (1, 1)]) [(.val (.int .i64 8)), (.tmp (pa 113))]⟩,
        ⟨tAl (pa 115) (fRowBlk 137 (rep 3 [.int .i64 0, .nil .slice]) [(0, 2), (2, 2), (4, 2)]) (mkSl 3 2) [(.tmp (pa 110)), (.tmp (pa 112)), (.tmp (pa 114))]⟩,
        ⟨t1 (pa 116) (fFieldAddr 22) (.tmp (pa 3))⟩,
        ⟨tHv .no (hStore 1) [(.tmp (pa 116)), (.tmp (pa 115))]⟩]))))))))
      (cSkip)))))
noncomputable def S9_florinlaw15_Base (call : CallFn) : CFn := cSeq (S9a_florinlaw15_Base call) (S9b_florinlaw15_Base call)
noncomputable def S10_florinlaw15_Base (call : CallFn) : CFn :=
  seqK call [⟨tR1 (pa 117) (rLoad true 34) (.tmp (pa 3))⟩,
    ⟨tHv .no (hStore 34) [(.tmp (pa 2)), (.tmp (pa 117))]⟩]
noncomputable def S11_florinlaw15_Base (call : CallFn) : CFn :=
  cRet
noncomputable def B_florinlaw15_Base (call : CallFn) : CFn :=
  cSeq (S0_florinlaw15_Base call) (cSeq (S1_florinlaw15_Base call) (cSeq (S2_florinlaw15_Base call) (cSeq (S3_florinlaw15_Base call) (cSeq (S4_florinlaw15_Base call) (cSeq (S5_florinlaw15_Base call) (cSeq (S6_florinlaw15_Base call) (cSeq (S7_florinlaw15_Base call) (cSeq (S8_florinlaw15_Base call) (cSeq (S9_florinlaw15_Base call) (cSeq (S10_florinlaw15_Base call) ((S11_florinlaw15_Base call))))))))))))
theorem F_florinlaw15_Base {pr : Prims} : Fn (cfgP pr) id_florinlaw15_Base 118 7 [.cell (pa 2) 34 true] B_florinlaw15_Base :=
  ⟨⟨Tryz.f26.body.getD .skip, by kernel_rfl, fun call => by kernel_rfl⟩⟩
noncomputable def B_florinlaw18_Base (call : CallFn) : CFn :=
  cSeq (seqK call [⟨tMv (pa 2) (.val (.nil .ptr))⟩])
  (cSeq (seqK call [⟨tMv (pa 6) (.tmp (pa 0))⟩,
      ⟨tCall (pa 7) (.val (.func id_florinlaw15_Base [] [])) [(.tmp (pa 6))]⟩,
      ⟨tCall (pa 8) (.val (.func id_locale_New [] [])) [(.tmp (pa 7))]⟩,
      ⟨tMv (pa 5) (.tmp (pa 8))⟩,
      ⟨t1 (pa 9) (fExtract 0) (.tmp (pa 5))⟩,
      ⟨t1 (pa 10) (fExtract 1) (.tmp (pa 5))⟩,
      ⟨tMv (pa 3) (.tmp (pa 9))⟩,
      ⟨tMv (pa 4) (.tmp (pa 10))⟩])
  (cSeq (cSeq (seqK call [⟨tMv (pa 11) (.tmp (pa 4))⟩,
        ⟨t2 (pa 12) fNeI (.tmp (pa 11)) (.val (.int .i64 0))⟩])
    (cCond (some (.tmp (pa 12)))
      (cSeq (seqK call [⟨tMv (pa 2) (.val (.nil .ptr))⟩])
      (cRet))
      (cSkip)))
  (cSeq (seqK call [⟨tMv (pa 13) (.tmp (pa 3))⟩,
      ⟨tMv (pa 2) (.tmp (pa 13))⟩])
  (cRet))))
theorem F_florinlaw18_Base {pr : Prims} : Fn (cfgP pr) id_florinlaw18_Base 14 4 [.tmp (pa 2)] B_florinlaw18_Base :=
  ⟨⟨Tryz.f9.body.getD .skip, by kernel_rfl, fun call => by kernel_rfl⟩⟩
end Go.K
