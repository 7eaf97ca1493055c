/- A part of a proof over an evaluator for programs of this form: G1B. -/
import Derived.Test.YtjbbjdcpkepaiaaGreatDoorG1C
import Derived.Test.YtjbbjdcpkepaiaaGreatDoorLH
set_option linter.all false
set_option autoImplicit false
namespace Go.K
open Go Go.Proofs
noncomputable def B_strings_HasPrefix (call : CallFn) : CFn :=
  cSeq (seqK call [⟨tMv (pa 4) (.val (.bool false))⟩])
  (cSeq (seqK call [⟨tMv (pa 5) (.tmp (pa 0))⟩,
      ⟨tMv (pa 6) (.tmp (pa 1))⟩,
      ⟨tCall (pa 7) (.val (.func id_internal_stringslite_HasPrefix [] [])) [(.tmp (pa 5)), (.tmp (pa 6))]⟩,
      ⟨tMv (pa 4) (.tmp (pa 7))⟩])
  (cRet))
theorem F_strings_HasPrefix {pr : Prims} : Fn (cfgP pr) id_strings_HasPrefix 8 4 [.tmp (pa 4)] B_strings_HasPrefix :=
  ⟨⟨Tryz.f55.body.getD .skip, by kernel_rfl, fun call => by kernel_rfl⟩⟩
noncomputable def B_internal_stringslite_HasPrefix (call : CallFn) : CFn :=
  cSeq (seqK call [⟨tMv (pa 4) (.val (.bool false))⟩])
  (cSeq (seqK call [⟨tMv (pa 5) (.tmp (pa 0))⟩,
      ⟨t1 (pa 6) fLenS (.tmp (pa 5))⟩,
      ⟨tMv (pa 7) (.tmp (pa 1))⟩,
      ⟨t1 (pa 8) fLenS (.tmp (pa 7))⟩,
      ⟨t2 (pa 9) fGeI (.tmp (pa 6)) (.tmp (pa 8))⟩,
      ⟨tMv (pa 10) (.tmp (pa 9))⟩,
      ⟨tGd (pa 10) true (pa 11) (tMv (pa 11) (.tmp (pa 0)))⟩,
      ⟨tGd (pa 10) true (pa 12) (tMv (pa 12) (.tmp (pa 1)))⟩,
      ⟨tGd (pa 10) true (pa 13) (t1 (pa 13) fLenS (.tmp (pa 12)))⟩,
      ⟨tGd (pa 10) true (pa 14) (tN (pa 14) (fSliceN .str false true) [(.tmp (pa 11)), (.tmp (pa 13))])⟩,
      ⟨tGd (pa 10) true (pa 15) (tMv (pa 15) (.tmp (pa 1)))⟩,
      ⟨tGd (pa 10) true (pa 16) (t2 (pa 16) (fEq false eqStr) (.tmp (pa 14)) (.tmp (pa 15)))⟩,
      ⟨tN (pa 17) fPick [(.tmp (pa 10)), (.tmp (pa 16)), (.val (.bool false))]⟩,
      ⟨tMv (pa 4) (.tmp (pa 17))⟩])
  (cRet))
theorem F_internal_stringslite_HasPrefix {pr : Prims} : Fn (cfgP pr) id_internal_stringslite_HasPrefix 18 5 [.tmp (pa 4)] B_internal_stringslite_HasPrefix :=
  ⟨⟨Tryz.f103.body.getD .skip, by kernel_rfl, fun call => by kernel_rfl⟩⟩
end Go.K
