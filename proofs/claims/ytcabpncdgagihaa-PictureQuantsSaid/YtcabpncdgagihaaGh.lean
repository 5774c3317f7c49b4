/-
  Contracts of chapter 10: macroblocks, equality with the macroblock of zeros.
-/
import Derived.Test.YtcabpncdgagihaaGg
namespace Go.Proofs.Ytcabpncdgagihaa.Sc
set_option linter.all false
set_option linter.unusedVariables false
set_option linter.unusedSimpArgs false
open Pm Ty Go.RowKit

def zl384 : List Int := List.replicate 384 0
def zMb : Mb := ⟨0, false, false, false, false, 0, 0, 0, 0, 0, 0, 0, 0, 0, 0, 0, 0, 0, false, false, false, false, false, false, zl384⟩
def zmv : List PV := mbc zMb
theorem mbc_len (m : Mb) (hl : m.lv.length = 384) : (mbc m).length = 408 := by
  simp only [mbc, List.length_cons, is_len, hl]
end Go.Proofs.Ytcabpncdgagihaa.Sc
