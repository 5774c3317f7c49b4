/-
  Contracts of package block: the closure that Take defers.
-/
import Derived.Test.YtcabpncdgagihaaRd
import Derived.Test.YtcabpncdgagihaaPmPz
import Derived.Defers
import Derived.Recover
namespace Go.Proofs.Ytcabpncdgagihaa.Sc
set_option linter.all false
set_option linter.unusedVariables false
set_option linter.unusedSimpArgs false
open Pm Ty Go.RowKit

theorem catch_idle (x y : Value) (w : World) : CallsD Try.prog 114 #[x, y] .returning w fun e u' w' => e = .returned (.tuple #[]) ∧ u' = .returning ∧ w' = w := by
  refine callsD_of_wpS Try.func114 rfl fun c₀ cs hu => ?_
  apply wpS_seq
  apply wpS_region
  simp [wpOpsS, go_sem, recoverD, hu, Try.ntmps114, Exit.thenS]
  apply wpS_seq
  apply wpS_region
  simp [wpOpsS, go_sem, Exit.thenS]
  refine wpS_cond (t := false) (by simp [Act.eval, Array.replicate]) ?_
  simp only [Bool.false_eq_true, if_false]
  refine wpS_of_wp (wp_skip ?_)
  cases c₀
  simp_all [bodyPostS, results, Try.results114]

/-- What the closure does when read has panicked. -/
def caughtR (C : Ctx) (H' : Heap) (w : World) (e : Nat) : Ending → FrameMode → World → Prop := fun x u' w' =>
  x = .returned (.tuple #[]) ∧ u' = .panicking [{ v := .iface 175 (.agg #[.int .i64 ((e : Int) + 1)]), recovered := true }] ∧ ∃ C', CLe C C' ∧ WRel C' H' w' ∧ Below C.B w w'

set_option maxHeartbeats 1000000 in
theorem catch_pan (i4 i5 e : Nat) (l : List Int) (z : Int) (H : Heap) (C : Ctx) (x y : Value) (w : World) (h4 : H[i4]? = some ⟨46, 0, is l⟩) (h5 : H[i5]? = some ⟨35, 0, [.int .i64 z]⟩) (hl : l.length = 64) (hne : i4 ≠ i5)
    (hw : WRel C H w) (hx : VRel C (.ptr i4 0 0) x) (hy : VRel C (.ptr i5 0 0) y) :
    CallsD Try.prog 114 #[x, y] (.panicking (bpn e)) w (caughtR C ((H.set i4 ⟨46, 0, is z64⟩).set i5 ⟨35, 0, [.int .i64 ((e : Int) + 1)]⟩) w e) := by
  refine callsD_of_wpS Try.func114 rfl fun c₀ cs hu => ?_
  unfold bpn pnc at hu
  apply wpS_seq
  apply wpS_region
  simp [wpOpsS, go_sem, recoverD, hu, Try.ntmps114, Exit.thenS]
  apply wpS_seq
  apply wpS_region
  simp [wpOpsS, go_sem, Exit.thenS]
  refine wpS_cond (t := true) (by simp [Act.eval, Array.replicate]) ?_
  simp only [if_true]
  refine wpS_of_wp ?_
  have hp4 : i4 < H.length := (List.getElem?_eq_some_iff.1 h4).1
  have hp5 : i5 < H.length := (List.getElem?_eq_some_iff.1 h5).1
  have hfr : FRel C 17 (slot [(0, .ptr i4 0 0), (1, .ptr i5 0 0)]) { tmps := #[x, y] ++ ((((Array.replicate 15 undef).setIfInBounds 3 (Value.iface 175 (.agg #[.int .i64 ((e : Int) + 1)]))).setIfInBounds 0 (Value.iface 175 (.agg #[.int .i64 ((e : Int) + 1)]))).setIfInBounds 4 (Value.iface 175 (.agg #[.int .i64 ((e : Int) + 1)]))).setIfInBounds 5 (Value.bool true), defers := [] } := by
    refine ⟨by simp, fun t => ?_⟩
    match t with
    | 0 => exact hx
    | 1 => exact hy
    | t + 2 => exact .undef _
  have hil : (is l).length = 64 := by rw [is_len, hl]
  have hz : (is z64).length = 64 := by rw [is_len]; simp [z64]
  have hzc : (is z64).all PV.cell = true := is_cell z64
  have hdl : List.drop 64 (is l) = [] := List.drop_of_length_le (by omega)
  have hbz : ∀ Q : List PV → Prop, Q (is z64) → Q (List.replicate 64 (.int .i64 0)) := fun Q h => by simpa [is, z64] using h
  have h5' : (H.set i4 ⟨46, 0, is z64⟩)[i5]? = some ⟨35, 0, [.int .i64 z]⟩ := by rw [List.getElem?_set_ne hne]; exact h5
  generalize hPQ : bodyPostS Try.prog _ c₀ cs _ = PQ
  refine wp_seq (wp_region_list ?_)
  refine wpL_op (v := .agg (is z64)) (H' := H) hw hfr rfl rfl rfl (by kernel_rfl) fun C1 u1 w1 p1 p2 p3 p4 => ?_
  refine wpL_op (v := .tup []) (H' := H.set i4 ⟨46, 0, is z64⟩) p2 p4 rfl rfl rfl (by simp (maxSteps := 3000000) (disch := omega) only [go_sem, ↓reduceIte, reduceCtorEq, pappend, plen, h4, hz, hil, hdl]) fun C2 u2 w2 r1 r2 r3 r4 => ?_
  refine wpL_op (v := .tup []) (H' := (H.set i4 ⟨46, 0, is z64⟩).set i5 ⟨35, 0, [.int .i64 3]⟩) r2 r4 rfl rfl rfl (by simp (maxSteps := 3000000) (disch := omega) only [go_sem, ↓reduceIte, reduceCtorEq, pappend, plen, h5']) fun C3 u3 w3 s1 s2 s3 s4 => ?_
  refine wp_seq (wp_region_list ?_)
  refine wpL_val (u := .iface 175 (.agg #[.int .i64 ((e : Int) + 1)])) rfl (by kernel_rfl) ?_
  have t1 := s4.put (some 10) (fun t ht => by injection ht with ht; omega) (VRel.undef (C := C3) (Value.iface 175 (.agg #[.int .i64 ((e : Int) + 1)])))
  refine wpL_val (u := .tuple #[.agg #[.int .i64 ((e : Int) + 1)], .bool true]) rfl (by kernel_rfl) ?_
  have hvt : VRel C3 (.tup [.agg [.int .i64 ((e : Int) + 1)], .bool true]) (.tuple #[.agg #[.int .i64 ((e : Int) + 1)], .bool true]) := by
    refine .tup (us := [.agg #[.int .i64 ((e : Int) + 1)], .bool true]) rfl fun j x u hx hu => ?_
    match j with
    | 0 =>
      injection hx with hx; injection hu with hu
      subst hx hu
      refine .agg (us := [.int .i64 ((e : Int) + 1)]) rfl (by simp [PV.cell]) fun j x u hx hu => ?_
      match j with
      | 0 => injection hx with hx; injection hu with hu; subst hx hu; exact .int _ _
      | j + 1 => cases hx
    | 1 => injection hx with hx; injection hu with hu; subst hx hu; exact .bool _
    | j + 2 => cases hx
  have t2 := t1.put (some 11) (fun t ht => by injection ht with ht; omega) hvt
  rw [← get_put, ← get_put] at t2
  have hl2 : ((H.set i4 ⟨46, 0, is z64⟩).set i5 ⟨35, 0, [.int .i64 3]⟩).length = H.length := by simp
  have g5 : ((H.set i4 ⟨46, 0, is z64⟩).set i5 ⟨35, 0, [.int .i64 3]⟩)[i5]? = some ⟨35, 0, [.int .i64 3]⟩ := by simp [hp5]
  have hss : ((H.set i4 ⟨46, 0, is z64⟩).set i5 ⟨35, 0, [.int .i64 3]⟩).set i5 ⟨35, 0, [.int .i64 ((e : Int) + 1)]⟩ = (H.set i4 ⟨46, 0, is z64⟩).set i5 ⟨35, 0, [.int .i64 ((e : Int) + 1)]⟩ := List.set_set ..
  have hscF : HSc H → HSc ((H.set i4 ⟨46, 0, is z64⟩).set i5 ⟨35, 0, [.int .i64 ((e : Int) + 1)]⟩) := fun h => HSc.set (HSc.set h (is_scoped _ _)) fun x hx => by
    simp only [List.mem_cons, List.not_mem_nil, or_false] at hx
    subst hx; exact .int _ _
  have hlF : H.length = ((H.set i4 ⟨46, 0, is z64⟩).set i5 ⟨35, 0, [.int .i64 ((e : Int) + 1)]⟩).length := by simp
  generalize (H.set i4 ⟨46, 0, is z64⟩).set i5 ⟨35, 0, [.int .i64 3]⟩ = H2 at *
  generalize (H.set i4 ⟨46, 0, is z64⟩).set i5 ⟨35, 0, [.int .i64 ((e : Int) + 1)]⟩ = H3 at *
  refine vops_sound (N := 17) _ _ _ rfl (K := fun F' H' => kp [1, 3, 4] F' = [(1, .ptr i5 0 0), (3, .ptr H2.length 0 0), (4, .bool true)] ∧ H' = H2 ++ [⟨175, 0, [.int .i64 ((e : Int) + 1)]⟩]) (VO_sound _ _ _ ?_) C3 _ w3 rfl s2 t2 _ ?_
  · simp (maxSteps := 3000000) (disch := omega) only [go_sem, ↓reduceIte, reduceCtorEq, pappend, plen]
  intro C4 F4 H4 a4 w4 k1 k2 k3 k4 k5 ⟨k6, k7⟩
  subst k7
  have k5' := k5.keep [1, 3, 4]
  rw [k6] at k5'
  have g5x := get_ext (K := [(⟨175, 0, [.int .i64 ((e : Int) + 1)]⟩ : Blk)]) g5
  have hsx : ∀ B : Blk, (H2 ++ [(⟨175, 0, [.int .i64 ((e : Int) + 1)]⟩ : Blk)]).set i5 B = H2.set i5 B ++ [⟨175, 0, [.int .i64 ((e : Int) + 1)]⟩] := fun B => by
    exact List.set_append_left _ _ (by omega)
  have gF := hp0 H2 [] ⟨175, 0, [.int .i64 ((e : Int) + 1)]⟩
  have pw : ∀ {c : Code} {Q : Exit → Act → World → Prop}, PW Try.prog ⟨17, H2 ++ [⟨175, 0, [.int .i64 ((e : Int) + 1)]⟩]⟩ c [(1, .ptr i5 0 0), (3, .ptr H2.length 0 0), (4, .bool true)] (H2 ++ [⟨175, 0, [.int .i64 ((e : Int) + 1)]⟩]) (fun x _ H' => x = .normal ∧ H' = H3 ++ [⟨175, 0, [.int .i64 ((e : Int) + 1)]⟩]) →
      (∀ C' a' w', CLe C4 C' → a'.defers = [] → WRel C' (H3 ++ [⟨175, 0, [.int .i64 ((e : Int) + 1)]⟩]) w' → Below C4.B w4 w' → a'.tmps.size = 17 → Q .normal a' w') → c.wp Try.prog Q a4 w4 := fun h hQ => by
    refine wp_mono (h k3.hsc C4 a4 w4 k2 k3 k5') ?_
    rintro x a' w' ⟨C', F', H', y1, y2, y3, y4, y5, rfl, rfl⟩
    exact hQ C' a' w' (y1.full k3.lenv) y2 y3 y4 y5.1
  refine pw ?_ ?_
  · (repeat refine PW.seq ?_); refine PW.rg rfl fun K hK => ?_; simp (maxSteps := 3000000) (disch := omega) only [go_sem, ↓reduceIte, reduceCtorEq, pappend, plen]; refine hK _ _ ?_; clear hK K
    (repeat refine PW.seq ?_); refine PW.cond (t := _) rfl (fun h => ?_) (fun h => ?_)
    rotate_left
    · cases h
    (repeat refine PW.seq ?_); refine PW.rg rfl fun K hK => ?_; simp (maxSteps := 3000000) (disch := omega) only [go_sem, ↓reduceIte, reduceCtorEq, pappend, plen, gF, g5x, hsx, hss]; refine hK _ _ ?_; clear hK K
    exact ⟨rfl, rfl⟩
  intro C5 a5 w5 y1 y2 y3 y4 y5
  show PQ _ _ _ _
  rw [← hPQ]
  have c1 := p1.trans r1
  have c2 := c1.trans s1
  have c3 := c2.trans k1
  have c4 := c3.trans y1
  have b1 := p3.trans (by rw [← p1.B]; exact r3)
  have b2 := b1.trans (by rw [← c1.B]; exact s3)
  have b3 := b2.trans (by rw [← c2.B]; exact k4)
  have b4 := b3.trans (by rw [← c3.B]; exact y4)
  obtain ⟨C', d1, d2⟩ := WRel.drop hw hlF (hscF hw.hsc) c4 y3
  exact ⟨y2, _, rfl, .tuple #[], by simp [results, Try.results114], rfl, rfl, C', d1, d2, b4⟩

end Go.Proofs.Ytcabpncdgagihaa.Sc
