/-
  Contracts of chapter 11: which pictures fit; their contexts.
-/
import Derived.Test.YthmladiijdlgkaaGreatPb
import Derived.Test.YthmladiijdlgkaaGreatGk
namespace Go.Proofs.YthmladiijdlgkaaGreat.Sc
set_option linter.all false
set_option linter.unusedVariables false
set_option linter.unusedSimpArgs false
open Pm Ty Go.RowKit
theorem sqc_cell (s : Sq) : (sqc s).all PV.cell = true := by simp [sqc, bs, PV.cell]
theorem sqc_len (s : Sq) (hs : SqOk s) : (sqc s).length = 135 := by
  obtain ⟨_, _, _, _, _, _, h1, h2⟩ := hs
  simp [sqc, length_bs, h1, h2]
theorem sqc_tk (s : Sq) (hs : SqOk s) : List.take 135 (sqc s) = sqc s := List.take_of_length_le (by rw [sqc_len s hs]; exact Nat.le_refl _)
theorem sqc_w (s : Sq) : (sqc s)[0]? = some (.int .i64 s.w) := rfl
theorem sqc_i (s : Sq) : (sqc s)[4]? = some (.bool s.il) := rfl
def fitB (s : Sq) (p : Pi) (b : Bool) : Bool := pvalid s p && !(b && decide (p.st = 3))
def cxP (s : Sq) (p : Pi) (b : Bool) : Cx := ⟨p.ty, p.st, s.il, b⟩
theorem fits_ok (s : Sq) (p : Pi) (b : Bool) (H : Heap) (hs : SqOk s) : CallOk Tryz.prog 10 [.agg (sqc s), .agg (pic p), .bool b] H (.bool (fitB s p b)) H := by
  have pv := fun K => pvalid_ok s p K hs
  have h1 := sqc_cell s
  have h2 := sqc_len s hs
  have h3 := sqc_tk s hs
  have hst : (p.st == 3) = decide (p.st = 3) := rfl
  generalize hr : fitB s p b = r
  unfold fitB at hr
  generalize pvalid s p = v at *
  refine CallOk.body (F0 := [(0, .agg (sqc s)), (1, .agg (pic p)), (2, .bool b)]) Tryz.func10 rfl Tryz.ntmps10 Tryz.results10 rfl (by kernel_rfl) rfl ?_
  (repeat refine PW.seq ?_); refine PW.rg rfl fun K hK => ?_; simp (disch:=omega) only [go_sem, h1, pic]; refine hK _ _ ?_; clear hK K
  cases v <;> cases b
  all_goals
    (repeat refine PW.seq ?_); refine PW.rg rfl fun K hK => ?_; simp (disch:=omega) only [go_sem, ↓reduceIte, h2, h3]
    refine VCx.call (pv _) rfl ?_; simp (disch:=omega) only [go_sem, ↓reduceIte]; refine hK _ _ ?_; clear hK K
    refine PW.ret ⟨_, rfl, Fin.base (.id' ?_ (.bool _))⟩
    subst hr
    first | (simp [slot]; done) | (simp [slot]; rfl)
theorem may_ref (s : Sq) (p : Pi) (b : Bool) (H : Heap) (hs : SqOk s) : CallOk Tryz.prog 18 [.agg (sqc s), .agg (pic p), .bool b] H (.bool (fitB s p b)) H := by
  have pv := fun K => pvalid_ref s p K hs
  have h1 := sqc_cell s
  have h2 := sqc_len s hs
  have h3 := sqc_tk s hs
  generalize hr : fitB s p b = r
  unfold fitB at hr
  generalize pvalid s p = v at *
  refine CallOk.body (F0 := [(0, .agg (sqc s)), (1, .agg (pic p)), (2, .bool b)]) Tryz.func18 rfl Tryz.ntmps18 Tryz.results18 rfl (by kernel_rfl) rfl ?_
  (repeat refine PW.seq ?_); refine PW.rg rfl fun K hK => ?_; simp (disch:=omega) only [go_sem, h1, pic]; refine hK _ _ ?_; clear hK K
  cases v <;> cases b
  all_goals
    (repeat refine PW.seq ?_); refine PW.rg rfl fun K hK => ?_; simp (disch:=omega) only [go_sem, ↓reduceIte, h2, h3]
    refine VCx.call (pv _) rfl ?_; simp (disch:=omega) only [go_sem, ↓reduceIte]; refine hK _ _ ?_; clear hK K
    refine PW.ret ⟨_, rfl, Fin.base (.id' ?_ (.bool _))⟩
    subst hr
    first | (simp [slot]; done) | (simp [slot]; rfl)
theorem ctx_ok (s : Sq) (p : Pi) (b : Bool) (H : Heap) (hs : SqOk s) : CallOk Tryz.prog 14 [.agg (sqc s), .agg (pic p), .bool b] H (.agg (cxc (cxP s p b))) H := by
  have h1 := sqc_cell s
  have h2 := sqc_len s hs
  have h4 := sqc_i s
  refine CallOk.body (F0 := [(0, .agg (sqc s)), (1, .agg (pic p)), (2, .bool b)]) Tryz.func14 rfl Tryz.ntmps14 Tryz.results14 rfl (by kernel_rfl) rfl ?_
  (repeat refine PW.seq ?_); refine PW.rg rfl fun K hK => ?_; simp (disch:=omega) only [go_sem, h1, pic]; refine hK _ _ ?_; clear hK K
  (repeat refine PW.seq ?_); refine PW.rg rfl fun K hK => ?_; simp (disch:=omega) only [go_sem, ↓reduceIte, h4]; refine hK _ _ ?_; clear hK K
  refine PW.ret ⟨.agg [.int .i64 p.ty, .int .i64 p.st, .bool s.il, .bool b], by simp (disch:=omega) only [go_sem, ↓reduceIte, presults, presult], ?_⟩
  refine Fin.base (.id (ag_scoped fun x hx => ?_))
  simp only [List.mem_cons, List.not_mem_nil, or_false] at hx
  rcases hx with rfl | rfl | rfl | rfl
  · exact .int _ _
  · exact .int _ _
  · exact .bool _
  · exact .bool _
theorem ctx_ref (s : Sq) (p : Pi) (b : Bool) (H : Heap) (hs : SqOk s) : CallOk Tryz.prog 22 [.agg (sqc s), .agg (pic p), .bool b] H (.agg (cxc (cxP s p b))) H := by
  have h1 := sqc_cell s
  have h2 := sqc_len s hs
  have h4 := sqc_i s
  refine CallOk.body (F0 := [(0, .agg (sqc s)), (1, .agg (pic p)), (2, .bool b)]) Tryz.func22 rfl Tryz.ntmps22 Tryz.results22 rfl (by kernel_rfl) rfl ?_
  (repeat refine PW.seq ?_); refine PW.rg rfl fun K hK => ?_; simp (disch:=omega) only [go_sem, h1, pic]; refine hK _ _ ?_; clear hK K
  (repeat refine PW.seq ?_); refine PW.rg rfl fun K hK => ?_; simp (disch:=omega) only [go_sem, ↓reduceIte, h4]; refine hK _ _ ?_; clear hK K
  refine PW.ret ⟨.agg [.int .i64 p.ty, .int .i64 p.st, .bool s.il, .bool b], by simp (disch:=omega) only [go_sem, ↓reduceIte, presults, presult], ?_⟩
  refine Fin.base (.id (ag_scoped fun x hx => ?_))
  simp only [List.mem_cons, List.not_mem_nil, or_false] at hx
  rcases hx with rfl | rfl | rfl | rfl
  · exact .int _ _
  · exact .int _ _
  · exact .bool _
  · exact .bool _
end Go.Proofs.YthmladiijdlgkaaGreat.Sc
