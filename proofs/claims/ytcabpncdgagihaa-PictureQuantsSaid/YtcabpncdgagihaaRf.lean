/-
  Contracts of package block: Take.
-/
import Derived.Test.YtcabpncdgagihaaRe
namespace Go.Proofs.Ytcabpncdgagihaa.Sc
set_option linter.all false
set_option linter.unusedVariables false
set_option linter.unusedSimpArgs false
open Pm Ty Go.RowKit

def rvB : Rr (List Int) → PV
  | .ok l _ => .tup [.agg (is l), .int .i64 0]
  | .er e _ => .tup [.agg (is z64), .int .i64 ((e : Int) + 1)]
theorem rvB_sc (k : Nat) (x : Rr (List Int)) : Scoped k (rvB x) := by
  cases x <;> refine .tup fun j x hx => ?_
  all_goals
    have := List.mem_of_getElem? hx
    simp only [List.mem_cons, List.not_mem_nil, or_false] at this
    rcases this with rfl | rfl
    · exact ag_scoped (is_scoped _ _)
    · exact .int _ _
/-- What Take has in memory. -/
def tkH (H : Heap) (i : Nat) (p : List UInt8) (n a : Nat) (l : List Int) (e : Int) : Heap := H.set i (rA p n a) ++ [⟨46, 0, is l⟩, ⟨35, 0, [.int .i64 e]⟩]

set_option maxHeartbeats 1000000 in
set_option maxRecDepth 100000 in
theorem btake_ok (i : Nat) (p : List UInt8) (n a fr : Nat) (H : Heap) (hA : H[i]? = some (rA p n a)) (ha : a ≤ n) (hn : n ≤ 8 * p.length) (hp : p.length ≤ 100000000) (hfr : fr ≤ 1) :
    CallOk Try.prog 97 [.ptr i 0 0, .int .i64 (fr : Int)] H (rvB (tkBl p n fr a)) (H.set i (rA p n (tkBl p n fr a).at)) := by
  have hi := (List.getElem?_eq_some_iff.1 hA).1
  have hself := set_self hA
  refine ⟨by kernel_rfl, fun C us w hw hargs => calls_of_wp_defers Try.func97 rfl ?_⟩
  have hfr0 := frel_args (N := 18) hargs (Nat.le_of_ble_eq_true rfl)
  change FRel C 18 (slot [(0, .ptr i 0 0), (1, .int .i64 (fr : Int))]) _ at hfr0
  have vo := fun K => vst_ok fr K hfr
  have hAx := fun K => get_ext (K := K) hA
  refine wp_seq ?_
  refine PW.hand [0, 1, 4, 5] (F1 := [(0, .ptr i 0 0), (1, .int .i64 (fr : Int)), (4, .ptr H.length 0 0), (5, .ptr (H.length + 1) 0 0)]) (H1 := tkH H i p n a z64 0) ?_ rfl hw hfr0 ?_
  · (repeat refine PW.seq ?_); refine PW.rg rfl fun K hK => ?_; simp (maxSteps := 3000000) (disch := omega) only [go_sem, ↓reduceIte, reduceCtorEq, pappend, plen]; refine hK _ _ ?_; clear hK K
    refine ⟨rfl, rfl, ?_⟩
    unfold tkH; rw [hself]; rfl
  intro C1 a1 w1 p1 p2 p3 p4 p5
  refine wp_seq ?_
  have g0 : (tkH H i p n a z64 0)[i]? = some (rA p n a) := by unfold tkH; rw [hself]; exact hAx _
  refine PW.hand [0, 1, 4, 5] (F1 := [(0, .ptr i 0 0), (1, .int .i64 (fr : Int)), (4, .ptr H.length 0 0), (5, .ptr (H.length + 1) 0 0)]) (H1 := tkH H i p n a z64 0) ?_ p2 p3 p5 ?_
  · (repeat refine PW.seq ?_); refine PW.rg rfl fun K hK => ?_; simp (maxSteps := 3000000) (disch := omega) only [go_sem, ↓reduceIte, reduceCtorEq, pappend, plen, g0, rA]
    refine VCx.call (vo _) rfl ?_; simp (maxSteps := 3000000) (disch := omega) only [go_sem, ↓reduceIte, reduceCtorEq, pappend, plen]; refine hK _ _ ?_; clear hK K
    (repeat refine PW.seq ?_); refine PW.cond (t := _) rfl (fun h => ?_) (fun h => ?_)
    · cases h
    exact PW.skip ⟨rfl, rfl, rfl⟩
  intro C2 a2 w2 r1 r2 r3 r4 r5
  refine wp_seq (wp_region_list ?_)
  have hx := r5.2 4
  have hy := r5.2 5
  generalize hxv : a2.tmps.getD 4 Go.undef = x at hx
  generalize hyv : a2.tmps.getD 5 Go.undef = y at hy
  refine wpL_val (u := .func (.func 114) #[] #[x, y]) rfl ?_ ?_
  · subst hxv hyv
    simp [execOp, Instr.makeFunc, Act.eval]
  refine wpL_defer (d := ⟨.fn (.func 114) #[x, y], #[]⟩) rfl ?_ ?_
  · have e14 : (a2.put (some 14) (Value.func (.func 114) #[] #[x, y])).eval (.tmp 14) = Value.func (.func 114) #[] #[x, y] := by
      have := r5.1
      simp [Act.put, Act.eval, this]
    simp [execOp, resolve, e14, Deferred.ofValue]
  have t1 := r5.put (some 14) (fun t ht => by injection ht with ht; omega) (VRel.undef (C := C2) (Value.func (.func 114) #[] #[x, y]))
  rw [← get_put] at t1
  have t2 : FRel C2 18 (slot [(14, .undef), (0, .ptr i 0 0), (1, .int .i64 (fr : Int)), (4, .ptr H.length 0 0), (5, .ptr (H.length + 1) 0 0)]) ({ a2.put (some 14) (Value.func (.func 114) #[] #[x, y]) with defers := ⟨.fn (.func 114) #[x, y], #[]⟩ :: a2.defers }) := t1
  have hhsc := fun a' => hsc_rA H i p n a' hw.hsc
  have cB1 : CLe C C2 := p1.trans r1
  have bB1 : Below C.B w w2 := p4.trans (by rw [← p1.B]; exact r4)
  have htk : ∀ a' l z, (tkH H i p n a l z).set i (rA p n a') = tkH H i p n a' l z := fun a' l z => by
    unfold tkH; rw [List.set_append_left _ _ (by simpa using hi), List.set_set]
  have h4 : ∀ a' l z, (tkH H i p n a' l z)[H.length]? = some ⟨46, 0, is l⟩ := fun a' l z => by
    have := hp0 (H.set i (rA p n a')) [⟨35, 0, [.int .i64 z]⟩] ⟨46, 0, is l⟩
    rwa [List.length_set] at this
  have h5 : ∀ a' l z, (tkH H i p n a' l z)[H.length + 1]? = some ⟨35, 0, [.int .i64 z]⟩ := fun a' l z => by
    have := hp1 (H.set i (rA p n a')) [] ⟨46, 0, is l⟩ ⟨35, 0, [.int .i64 z]⟩
    rwa [List.length_set] at this
  have s4 : ∀ a' l z l', (tkH H i p n a' l z).set H.length ⟨46, 0, is l'⟩ = tkH H i p n a' l' z := fun a' l z l' => by
    have := hs0 (H.set i (rA p n a')) [⟨35, 0, [.int .i64 z]⟩] ⟨46, 0, is l⟩ ⟨46, 0, is l'⟩
    rwa [List.length_set] at this
  have s5 : ∀ a' l z z', (tkH H i p n a' l z).set (H.length + 1) ⟨35, 0, [.int .i64 z']⟩ = tkH H i p n a' l z' := fun a' l z z' => by
    have := hs1 (H.set i (rA p n a')) [] ⟨46, 0, is l⟩ ⟨35, 0, [.int .i64 z]⟩ ⟨35, 0, [.int .i64 z']⟩
    rwa [List.length_set] at this
  have hz : (is z64).length = 64 := by rw [is_len]; simp [z64]
  have hsl : ∀ a', H.length = (H.set i (rA p n a')).length := fun a' => by simp
  refine wp_seq ?_
  cases hr : tkBl p n fr a with
  | ok l a' =>
    have rd := read_ok i p n a fr a' l (tkH H i p n a z64 0) g0 ha hn hp hfr hr
    rw [htk] at rd
    have hll : l.length = 64 := by
      have := (tkB_b _ _ _ _ hr ha).2.2
      simpa [z64] using this
    have hil : (is l).length = 64 := by rw [is_len, hll]
    have htl : List.take 64 (is l) = is l := List.take_of_length_le (by omega)
    have hcl := is_cell l
    have hdz : List.drop 64 (is z64) = [] := List.drop_of_length_le (by omega)
    refine wp_region_cut 5 rfl (K := fun F' H' => kp [4, 5] F' = [(4, .ptr H.length 0 0), (5, .ptr (H.length + 1) 0 0)] ∧ H' = tkH H i p n a' l 0) ?_ (D := [⟨.fn (.func 114) #[x, y], #[]⟩]) (by simp [Act.put, r2]) r3 t2 ?_
    · simp (maxSteps := 3000000) (disch := omega) only [go_sem, ↓reduceIte, reduceCtorEq, pappend, plen]
      refine VCx.call (rd) rfl ?_; simp (maxSteps := 3000000) (disch := omega) only [go_sem, ↓reduceIte, reduceCtorEq, pappend, plen, h4, h5, s4, s5, hil, hz, hcl, hdz]
    intro C3 F3 H3 a3 w3 q1 q2 q3 q4 q5 ⟨q6, q7⟩
    subst q7
    have q5' := q5.keep [4, 5]
    rw [q6] at q5'
    refine wp_ret ?_
    show Leaves _ _ _ _ _ _ _
    rw [q2]
    refine leaves_cons (by simp) (by kernel_rfl) ((catch_idle x y w3).mono ?_)
    rintro _ _ _ ⟨rfl, rfl, rfl⟩
    obtain ⟨u, u1, u2⟩ := presults_sound (P := Try.prog) (fn := Try.f97) (v := .tup [.agg (is l), .int .i64 0]) q3 q5' (by simp (maxSteps := 3000000) (disch := omega) only [go_sem, ↓reduceIte, reduceCtorEq, pappend, plen, presults, presult, List.mapM_cons, List.mapM_nil, Option.pure_def, Option.bind_eq_bind, Option.bind_some, Array.toList, Try.results97, h4, h5, hil, htl])
    obtain ⟨C', d1, d2, d3⟩ := WRel.dropV hw (hsl a') (hhsc a') (cB1.trans q1) q3 u1 (rvB_sc _ (.ok l a'))
    exact ⟨u, u2, C', u, d1, d2, bB1.trans (by rw [← cB1.B]; exact q4), rfl, d3⟩
  | er e a' =>
    have rd := read_pan i p n a fr e a' (tkH H i p n a z64 0) g0 ha hn hp hfr hr
    rw [htk] at rd
    refine wp_region_cut 2 rfl (K := fun F' H' => kp [4, 5, 15, 16] F' = [(4, .ptr H.length 0 0), (5, .ptr (H.length + 1) 0 0), (15, .ptr i 0 0), (16, .int .i64 (fr : Int))] ∧ H' = tkH H i p n a z64 0) ?_ (D := [⟨.fn (.func 114) #[x, y], #[]⟩]) (by simp [Act.put, r2]) r3 t2 ?_
    · simp (maxSteps := 3000000) (disch := omega) only [go_sem, ↓reduceIte, reduceCtorEq, pappend, plen]
    intro C3 F3 H3 a3 w3 q1 q2 q3 q4 q5 ⟨q6, q7⟩
    subst q7
    have q5' := q5.keep [4, 5, 15, 16]
    rw [q6] at q5'
    show wpList _ _ _ (_ :: _) _ _
    unfold wpList
    rw [if_pos (by kernel_rfl)]
    left
    refine execPan_sound q3 q5' (by simp (maxSteps := 3000000) (disch := omega) only [go_sem, ↓reduceIte, reduceCtorEq, pappend, plen, pcallee]) rd _ _ fun C4 w4 y1 y2 y3 y4 => ?_
    show Leaves _ _ _ _ _ _ _
    rw [q2]
    have hx4 := hx.mono (q1.trans y1)
    have hy4 := hy.mono (q1.trans y1)
    have cp := catch_pan H.length (H.length + 1) e z64 0 (tkH H i p n a' z64 0) C4 x y w4 (h4 _ _ _) (h5 _ _ _) (by simp [z64]) (by omega) y2 hx4 hy4
    rw [s4, s5] at cp
    refine leaves_cons (by simp) (by kernel_rfl) (cp.mono ?_)
    rintro _ _ w5 ⟨rfl, rfl, C5, v1, v2, v3⟩
    have htl : List.take 64 (is z64) = is z64 := List.take_of_length_le (by omega)
    obtain ⟨u, u1, u2⟩ := presults_sound (P := Try.prog) (fn := Try.f97) (v := .tup [.agg (is z64), .int .i64 ((e : Int) + 1)]) v2 (y4.mono v1) (by simp (maxSteps := 3000000) (disch := omega) only [go_sem, ↓reduceIte, reduceCtorEq, pappend, plen, presults, presult, List.mapM_cons, List.mapM_nil, Option.pure_def, Option.bind_eq_bind, Option.bind_some, Array.toList, Try.results97, h4, h5, hz, htl])
    have c3 := (cB1.trans q1).trans y1
    obtain ⟨C', d1, d2, d3⟩ := WRel.dropV hw (hsl a') (hhsc a') (c3.trans v1) v2 u1 (rvB_sc _ (.er e a'))
    have b2 := bB1.trans (by rw [← cB1.B]; exact q4)
    have b3 := b2.trans (by rw [← (cB1.trans q1).B]; exact y3)
    exact ⟨u, u2, C', u, d1, d2, b3.trans (by rw [← c3.B]; exact v3), rfl, d3⟩

end Go.Proofs.Ytcabpncdgagihaa.Sc
