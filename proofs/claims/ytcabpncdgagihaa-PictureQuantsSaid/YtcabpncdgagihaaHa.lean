/-
  Contracts of the codes of numbers: package vlc and its reference.
-/
import Derived.Test.YtcabpncdgagihaaBy
import Derived.Test.YtcabpncdgagihaaPmZ
namespace Go.Proofs.Ytcabpncdgagihaa.Sc
set_option linter.all false
set_option linter.unusedVariables false
set_option linter.unusedSimpArgs false
open Pm Ty Go.RowKit

theorem _root_.Go.Proofs.Ytcabpncdgagihaa.Pm.CallOk.fin {P : Program} {f : FuncId} {args : List PV} {v v' : PV} {H H1 Hout : Heap} (h : CallOk P f args H v' H1) (hf : HSc H → H.length ≤ Hout.length ∧ CutH H1 Hout ∧ Fz Hout.length H1 v' v) : CallOk P f args H v Hout :=
  ⟨h.1, fun C us w hw hargs => (h.2 C us w hw hargs).mono fun e w' ⟨C', u, q1, q2, q3, q4, q5⟩ => by
    obtain ⟨hlen, hcut, hfz⟩ := hf hw.hsc
    obtain ⟨g1, g2⟩ := q2.cutN hcut
    exact ⟨_, u, ((q1.toN _).trans (g1.less hlen)).full hw.lenv, g2, q3, q4, hfz.sound q2 q5⟩⟩
theorem _root_.Go.Proofs.Ytcabpncdgagihaa.Pm.CallOk.base {P : Program} {f : FuncId} {args : List PV} {v v' : PV} {H K : Heap} (h : CallOk P f args H v' (H ++ K)) (hf : Fz H.length (H ++ K) v' v) : CallOk P f args H v H :=
  h.fin fun hs => ⟨Nat.le_refl _, CutH.base hs, hf⟩
/-! ### the number of bits -/
/-! ### writing -/
/-! ### the reference -/
end Go.Proofs.Ytcabpncdgagihaa.Sc
