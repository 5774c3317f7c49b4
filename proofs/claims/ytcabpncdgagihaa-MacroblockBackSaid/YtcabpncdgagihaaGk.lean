/-
  Contracts of chapter 10: the state at a slice's beginning.
-/
import Derived.Test.YtcabpncdgagihaaGj
import Derived.Test.YtcabpncdgagihaaAx
namespace Go.Proofs.Ytcabpncdgagihaa.Sc
set_option linter.all false
set_option linter.unusedVariables false
set_option linter.unusedSimpArgs false
open Pm Ty Go.RowKit

/-- A state: the quantiser, three DC values, two vectors. -/
structure St where
  q : Int
  da : Int
  db : Int
  dc : Int
  va : Int
  vb : Int
  vc : Int
  vd : Int
def stc (s : St) : List PV := [.int .i64 s.q, .int .i64 s.da, .int .i64 s.db, .int .i64 s.dc, .int .i64 s.va, .int .i64 s.vb, .int .i64 s.vc, .int .i64 s.vd]
def st0 (q : Int) : St := ⟨q, 0, 0, 0, 0, 0, 0, 0⟩
theorem stc_scoped (s : St) (n : Nat) : Scoped n (.agg (stc s)) := ag_scoped fun x hx => by
  simp only [stc, List.mem_cons, List.not_mem_nil, or_false] at hx
  rcases hx with rfl | rfl | rfl | rfl | rfl | rfl | rfl | rfl <;> exact .int _ _
theorem start_ok (q : Int) (H : Heap) : CallOk Try.prog 20 [.int .i64 q] H (.agg (stc (st0 q))) H := by
  refine CallOk.body (F0 := [(0, .int .i64 q)]) Try.func20 rfl Try.ntmps20 Try.results20 rfl (by kernel_rfl) rfl ?_
  (repeat refine PW.seq ?_); refine PW.rg rfl fun K hK => ?_; simp (maxSteps := 3000000) (disch := omega) only [go_sem, ↓reduceIte, reduceCtorEq, pappend, plen]; refine hK _ _ ?_; clear hK K
  (repeat refine PW.seq ?_); refine PW.rg rfl fun K hK => ?_; simp (maxSteps := 3000000) (disch := omega) only [go_sem, ↓reduceIte, reduceCtorEq, pappend, plen]; refine hK _ _ ?_; clear hK K
  refine PW.ret ⟨.agg [.int .i64 q, .int .i64 0, .int .i64 0, .int .i64 0, .int .i64 0, .int .i64 0, .int .i64 0, .int .i64 0], by simp (maxSteps := 3000000) (disch := omega) only [go_sem, ↓reduceIte, reduceCtorEq, pappend, plen, presults, presult, List.mapM_cons, List.mapM_nil, Option.pure_def, Option.bind_eq_bind, Option.bind_some, Array.toList], ?_⟩
  exact Fin.base (.id (stc_scoped (st0 q) _))
theorem eqSt (q : Int) : peqG Try.prog .eql 34 (.agg [.int .i64 q, .int .i64 0, .int .i64 0, .int .i64 0, .int .i64 0, .int .i64 0, .int .i64 0, .int .i64 0]) (.agg [.int .i64 q, .int .i64 0, .int .i64 0, .int .i64 0, .int .i64 0, .int .i64 0, .int .i64 0, .int .i64 0]) = some (.bool ((q == q) && true)) := by kernel_rfl

end Go.Proofs.Ytcabpncdgagihaa.Sc
