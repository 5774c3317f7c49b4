/-
  Contracts of chapter 10: the state at a slice's beginning.
-/
import Derived.Test.YthmladiijdlgkaaGreatGj
namespace Go.Proofs.YthmladiijdlgkaaGreat.Sc
set_option linter.all false
set_option linter.unusedVariables false
set_option linter.unusedSimpArgs false
open Pm Ty Go.RowKit
structure St where
  q : Int
  da : Int
  db : Int
  dc : Int
  va : Int
  vb : Int
  vc : Int
  vd : Int
def stc (s : St) : List PV := [.int .i64 s.q, .int .i64 s.da, .int .i64 s.db, .int .i64 s.dc, .int .i64 s.va, .int .i64 s.vb, .int .i64 s.vc, .int .i64 s.vd]
def st0 (q : Int) : St := ⟨q, 0, 0, 0, 0, 0, 0, 0⟩
theorem stc_scoped (s : St) (n : Nat) : Scoped n (.agg (stc s)) := ag_scoped fun x hx => by
  simp only [stc, List.mem_cons, List.not_mem_nil, or_false] at hx
  rcases hx with rfl | rfl | rfl | rfl | rfl | rfl | rfl | rfl <;> exact .int _ _
theorem start_ok (q : Int) (H : Heap) : CallOk Tryz.prog 15 [.int .i64 q] H (.agg (stc (st0 q))) H := by
  refine CallOk.body (F0 := [(0, .int .i64 q)]) Tryz.func15 rfl Tryz.ntmps15 Tryz.results15 rfl (by kernel_rfl) rfl ?_
  (repeat refine PW.seq ?_); refine PW.rg rfl fun K hK => ?_; simp (disch:=omega) only [go_sem]; refine hK _ _ ?_; clear hK K
  (repeat refine PW.seq ?_); refine PW.rg rfl fun K hK => ?_; simp (disch:=omega) only [go_sem, ↓reduceIte]; refine hK _ _ ?_; clear hK K
  refine PW.ret ⟨.agg [.int .i64 q, .int .i64 0, .int .i64 0, .int .i64 0, .int .i64 0, .int .i64 0, .int .i64 0, .int .i64 0], by simp (disch:=omega) only [go_sem, ↓reduceIte, presults, presult], ?_⟩
  exact Fin.base (.id (stc_scoped (st0 q) _))
end Go.Proofs.YthmladiijdlgkaaGreat.Sc
