/-
  Bits: how a list of bits is packed into bytes. No program in sight.
-/
import Derived.Test.YtcabpncdgagihaaBs
namespace Go.Proofs.Ytcabpncdgagihaa.Sc
set_option linter.all false
set_option linter.unusedVariables false
set_option linter.unusedSimpArgs false
open Pm Ty Go.RowKit

def bn (l : List Bool) (k : Nat) : Nat := (l[k]?.getD false).toNat
/-- The n last bits of V, the most significant first. -/
def vbits (V n : Nat) : List Bool := (List.range n).map fun i => decide (V / 2 ^ (n - 1 - i) % 2 = 1)
theorem vbits_len (V n : Nat) : (vbits V n).length = n := by simp [vbits]
theorem vbits_take (V n i : Nat) (h : i < n) : (vbits V n).take (i + 1) = (vbits V n).take i ++ [decide (V / 2 ^ (n - 1 - i) % 2 = 1)] := by
  rw [List.take_succ_eq_append_getElem (by rw [vbits_len]; exact h)]
  simp [vbits]
end Go.Proofs.Ytcabpncdgagihaa.Sc
