/-
  Contracts of chapter 31: the films that the laws make.
-/
import Derived.Test.YtnjnikafhbholaaQd
namespace Go.Proofs.Ytnjnikafhbholaa.Sc
set_option linter.all false
set_option linter.unusedVariables false
set_option linter.unusedSimpArgs false
open Pm Ty Go.RowKit

/-- An expression: what a frame of a film shows. -/
structure Ex where
  op : Int
  m : List UInt8
  fr : Int
  x3 : Int
  x4 : Int
  x5 : Int
  x6 : List UInt8
  xs : List PV
  n : Nat
  g : Bool
def exc (e : Ex) : List PV := [.int .i64 e.op, .str e.m, .int .i64 e.fr, .int .i64 e.x3, .int .i64 e.x4, .int .i64 e.x5, .str e.x6, .slice e.xs e.n e.g]
structure ExOk (e : Ex) : Prop where
  sc : ∀ k, Scoped k (.slice e.xs e.n e.g)
  src : e.op = 1 → e.x3 = 0 ∧ e.x4 = 0 ∧ e.x5 = 0 ∧ e.x6 = [] ∧ e.xs = [] ∧ e.n = 0 ∧ e.g = true ∧ 0 ≤ e.fr ∧ e.fr < 100
def ex0 : Ex := ⟨0, [], 0, 0, 0, 0, [], [], 0, true⟩
def exD (c : List PV) : Ex := match c with
  | [.int .i64 op, .str m, .int .i64 fr, .int .i64 x3, .int .i64 x4, .int .i64 x5, .str x6, .slice xs n g] => ⟨op, m, fr, x3, x4, x5, x6, xs, n, g⟩
  | _ => ex0
theorem exD_ok {c : List PV} (h : exOk c) : exc (exD c) = c ∧ ExOk (exD c) := by
  obtain ⟨op, m, fr, x3, x4, x5, x6, xs, n, g, rfl, h1, h2⟩ := h
  exact ⟨rfl, h1, h2⟩
theorem exc_sc (n : Nat) (e : Ex) (h : ExOk e) : ∀ x ∈ exc e, Scoped n x := fun x hx => by
  simp only [exc, List.mem_cons, List.not_mem_nil, or_false] at hx
  rcases hx with rfl | rfl | rfl | rfl | rfl | rfl | rfl | rfl
  · exact .int _ _
  · exact .str _
  · exact .int _ _
  · exact .int _ _
  · exact .int _ _
  · exact .int _ _
  · exact .str _
  · exact h.sc n
theorem exl_sc (n : Nat) (l : List Ex) (h : ∀ e ∈ l, ExOk e) : ∀ x ∈ l.flatMap exc, Scoped n x := fun x hx => by
  obtain ⟨e, he, hx⟩ := List.mem_flatMap.1 hx
  exact exc_sc n e (h e he) x hx
theorem exl_len (l : List Ex) : (l.flatMap exc).length = l.length * 8 := fm_len exc 8 (fun _ => rfl) l

def src (m : Int) (fr : Int) : Ex := ⟨1, nm [109] m, fr, 0, 0, 0, [], [], 0, true⟩
theorem src_ok (m fr : Int) (h : 0 ≤ fr ∧ fr < 100) : ExOk (src m fr) := ⟨fun k => sl_scoped (by simp [src]), fun _ => ⟨rfl, rfl, rfl, rfl, rfl, rfl, rfl, h.1, h.2⟩⟩
def srcs (m fr : Int) : Nat → List Ex
  | 0 => []
  | n + 1 => srcs m fr n ++ [src m (fr + n)]
theorem srcs_len (m fr : Int) : ∀ n, (srcs m fr n).length = n
  | 0 => rfl
  | n + 1 => by simp [srcs, srcs_len m fr n]
theorem srcs_ok (m fr : Int) (h : 0 ≤ fr) : ∀ n : Nat, fr + n ≤ 100 → ∀ e ∈ srcs m fr n, ExOk e
  | 0, _, e, he => by simp [srcs] at he
  | n + 1, hn, e, he => by
    simp only [srcs, List.mem_append, List.mem_singleton] at he
    rcases he with he | rfl
    · exact srcs_ok m fr h n (by omega) e he
    · exact src_ok _ _ (by omega)
/-- One more run, or one more frame. -/
def seg (L : List Int) (a : Nat) : List Ex × Nat := if tn L a 4 = 0 then ([exD (exP L 2 (a + 1)).1], (exP L 2 (a + 1)).2) else (srcs (tn L (a + 1) 3) (tn L (a + 2) 9) ((tn L (a + 3) 10).toNat + 1), a + 4)
def segs (L : List Int) (a : Nat) : Nat → List Ex × Nat
  | 0 => ([], a)
  | k + 1 => ((segs L a k).1 ++ (seg L (segs L a k).2).1, (seg L (segs L a k).2).2)
theorem seg_ok (L : List Int) (a : Nat) : (∀ e ∈ (seg L a).1, ExOk e) ∧ (seg L a).2 ≤ a + 100 ∧ (seg L a).1.length ≤ 10 := by
  unfold seg
  split
  · have h := exP_ok L 2 (a + 1)
    refine ⟨fun e he => ?_, ?_, ?_⟩
    · simp only [List.mem_singleton] at he
      rw [he]; exact (exD_ok h.1).2
    · have := h.2.1; dsimp only; omega
    · simp
  · have h1 := tn_range L (a + 2) 9 (by omega)
    have h2 := tn_range L (a + 3) 10 (by omega)
    refine ⟨srcs_ok _ _ h1.1 _ (by omega), by dsimp only; omega, ?_⟩
    dsimp only
    rw [srcs_len]
    omega
theorem segs_ok (L : List Int) (a : Nat) : ∀ k, (∀ e ∈ (segs L a k).1, ExOk e) ∧ (segs L a k).2 ≤ a + 100 * k ∧ (segs L a k).1.length ≤ 10 * k
  | 0 => ⟨fun e he => by simp [segs] at he, Nat.le_refl _, Nat.le_refl _⟩
  | k + 1 => by
    obtain ⟨h1, h2, h3⟩ := segs_ok L a k
    obtain ⟨g1, g2, g3⟩ := seg_ok L (segs L a k).2
    refine ⟨fun e he => ?_, ?_, ?_⟩
    · simp only [segs, List.mem_append] at he
      rcases he with he | he
      · exact h1 e he
      · exact g1 e he
    · simp only [segs]; omega
    · simp only [segs, List.length_append]; omega

/-- A film. -/
structure Fl where
  s : Sq
  top : Bool
  ex : List Ex
  me : List Ix
def flc (f : Fl) : List PV := sqc f.s ++ [.bool f.top, .slice (f.ex.flatMap exc) f.ex.length false, .slice (f.me.flatMap ixc) f.me.length false]
def hdS (il : Bool) (h : Int) : Sq := ⟨16, h, 25, 1, il, 400000, 100000, List.replicate 64 16, List.replicate 64 16⟩
theorem hdr_eq : hdr = sqc (hdS false 16) := by
  unfold hdr sqc hdS bs
  simp only [List.map_replicate, List.replicate_append_replicate]
  rfl
theorem hdS_L (il : Bool) (h : Int) : SqL (hdS il h) := ⟨rfl, rfl⟩
def flS (L : List Int) : Sq := hdS (decide (tn L 1 3 = 0)) 32
def flX (L : List Int) : List Ix × Nat := ixs L (flS L) 2 3
def flK (L : List Int) : Nat := (tn L (flX L).2 6).toNat
/-- The film of a tape. -/
def flm (L : List Int) : Fl := ⟨flS L, decide (tn L 0 4 > 0), (segs L ((flX L).2 + 1) (flK L)).1, (flX L).1⟩

def filmZ : List PV := [.int .i64 0, .int .i64 0, .int .i64 0, .int .i64 0, .bool false, .int .i64 0, .int .i64 0] ++ List.replicate 128 (.int .u8 0) ++ [.bool false, .slice [] 0 true, .slice [] 0 true]
def hdT : List PV := bs (List.replicate 64 16) ++ bs (List.replicate 64 16)
theorem hd16 (b : Bool) : sqc (hdS b 16) = .int .i64 16 :: .int .i64 16 :: .int .i64 25 :: .int .i64 1 :: .bool b :: .int .i64 400000 :: .int .i64 100000 :: hdT := rfl
theorem hd32 (b : Bool) : sqc (hdS b 32) = .int .i64 16 :: .int .i64 32 :: .int .i64 25 :: .int .i64 1 :: .bool b :: .int .i64 400000 :: .int .i64 100000 :: hdT := rfl
theorem hdT_c : hdT.all PV.cell = true := bs_cells _ _
theorem hdT_l : hdT.length = 128 := by unfold hdT; rw [List.length_append, length_bs, List.length_replicate]
theorem hdT_t : hdT.take 128 = hdT := sq_all _ _ List.length_replicate List.length_replicate
theorem hdT_s (n : Nat) : ∀ x ∈ hdT, Scoped n x := fun x hx => by
  rcases List.mem_append.1 hx with h | h <;> exact bs_scoped _ _ _ h
theorem header16 (K : Heap) : CallOk Try.prog 83 [] K (.agg (.int .i64 16 :: .int .i64 16 :: .int .i64 25 :: .int .i64 1 :: .bool false :: .int .i64 400000 :: .int .i64 100000 :: hdT)) K := by
  have := header_ok K
  rwa [hdr_eq, hd16] at this
theorem flc_eq (L : List Int) : flc (flm L) = .int .i64 16 :: .int .i64 32 :: .int .i64 25 :: .int .i64 1 :: .bool (decide (tn L 1 3 = 0)) :: .int .i64 400000 :: .int .i64 100000 :: (hdT ++ [.bool (decide (tn L 0 4 > 0)), .slice ((segs L ((flX L).2 + 1) (flK L)).1.flatMap exc) (segs L ((flX L).2 + 1) (flK L)).1.length false, .slice ((flX L).1.flatMap ixc) 3 false]) := by
  have hxlen : (flX L).1.length = 3 := ixs_len L (flS L) 2 3
  unfold flc flm
  dsimp only
  rw [show sqc (flS L) = _ from hd32 _, hxlen]
  rfl
theorem indexes32 (L : List Int) (f : Bool) (i : Nat) (K : Heap) (h : K[i]? = some (tb L f 2)) : CallOk Try.prog 84 [.ptr i 0 0, .agg (.int .i64 16 :: .int .i64 32 :: .int .i64 25 :: .int .i64 1 :: .bool (decide (tn L 1 3 = 0)) :: .int .i64 400000 :: .int .i64 100000 :: hdT)] K (.slice ((flX L).1.flatMap ixc) 3 false) (K.set i (tb L f (flX L).2)) := by
  have := indexes_ok L f (flS L) 2 i K h (by omega) (hdS_L _ _)
  rwa [show sqc (flS L) = _ from hd32 _] at this

set_option maxHeartbeats 4000000 in
theorem made_ok (L : List Int) (f : Bool) (H : Heap) : CallOk Try.prog 27 [.slice (is L) L.length f] H (.agg (flc (flm L))) H := by
  have hho := header16
  have ixo := indexes32 L f
  have hxle : (flX L).2 ≤ 302 := ixs_le L (flS L) 2 3
  have r0 := tn_range L 0 4 (by omega)
  have r1 := tn_range L 1 3 (by omega)
  have r2 := tn_range L (flX L).2 6 (by omega)
  have hkk : tn L (flX L).2 6 = (flK L : Int) := by unfold flK; omega
  rw [flc_eq]
  have c1 := hdT_c
  have l1 := hdT_l
  have t1 := hdT_t
  have s1 := hdT_s
  generalize hdT = tl at *
  have hsg := segs_ok L ((flX L).2 + 1)
  have hss : ∀ k, segs L ((flX L).2 + 1) (k + 1) = ((segs L ((flX L).2 + 1) k).1 ++ (seg L (segs L ((flX L).2 + 1) k).2).1, (seg L (segs L ((flX L).2 + 1) k).2).2) := fun _ => rfl
  have hS0 : segs L ((flX L).2 + 1) 0 = ([], (flX L).2 + 1) := rfl
  generalize segs L ((flX L).2 + 1) = S at *
  have hM := ixl_sc 0 (flX L).1
  have hMs : ∀ n, ∀ x ∈ (flX L).1.flatMap ixc, Scoped n x := fun n => ixl_sc n _
  generalize (flX L).1.flatMap ixc = M at *
  generalize (flX L).2 = a0 at *
  generalize flK L = kk at *
  have tk2 : ∀ r, List.take 128 (tl ++ r) = tl := fun r => by rw [← l1]; exact List.take_left
  have g0 : ∀ x y z : PV, (tl ++ [x, y, z])[128]? = some x := fun x y z => by rw [← l1]; simp
  have g1 : ∀ x y z : PV, (tl ++ [x, y, z])[129]? = some y := fun x y z => by rw [List.getElem?_append_right (by omega), l1]; rfl
  have g2 : ∀ x y z : PV, (tl ++ [x, y, z])[130]? = some z := fun x y z => by rw [List.getElem?_append_right (by omega), l1]; rfl
  have e1 : ∀ x y z w : PV, (tl ++ [x, y, z]).set 129 w = tl ++ [x, w, z] := fun x y z w => by rw [List.set_append_right _ _ (by omega), l1]; rfl
  have e2 : ∀ x y z w : PV, (tl ++ [x, y, z]).set 130 w = tl ++ [x, y, w] := fun x y z w => by rw [List.set_append_right _ _ (by omega), l1]; rfl
  have dr9 : ∀ x y z : PV, List.drop 129 (tl ++ [x, y, z]) = [y, z] := fun x y z => by rw [List.drop_append, List.drop_of_length_le (by omega), l1]; rfl
  have tka : ∀ x y z : PV, List.take 131 (tl ++ [x, y, z]) = tl ++ [x, y, z] := fun x y z => List.take_of_length_le (by simp [l1])
  refine CallOk.body (F0 := [(0, .slice (is L) L.length f)]) Try.func27 rfl Try.ntmps27 Try.results27 rfl (by kernel_rfl) rfl ?_
  (repeat refine PW.seq ?_); refine PW.rg rfl fun K hK => ?_; simp (maxSteps := 3000000) (disch := omega) only [go_sem, ↓reduceIte, reduceCtorEq, pappend, plen]; refine hK _ _ ?_; clear hK K
  (repeat refine PW.seq ?_); refine PW.rg rfl fun K hK => ?_; simp (maxSteps := 3000000) (disch := omega) only [go_sem, ↓reduceIte, reduceCtorEq, pappend, plen]; refine hK _ _ ?_; clear hK K
  (repeat refine PW.seq ?_); refine PW.rg rfl fun K hK => ?_; simp (maxSteps := 3000000) (disch := omega) only [go_sem, ↓reduceIte, reduceCtorEq, pappend, plen]
  refine VCx.call (hho _) rfl ?_; simp (maxSteps := 3000000) (disch := omega) only [go_sem, ↓reduceIte, reduceCtorEq, pappend, plen]
  refine VCx.call (next_ok L f 0 4 (H.length + 1) _ (hp1 _ _ _ _) (by omega) (by omega)) rfl ?_; simp (maxSteps := 3000000) (disch := omega) only [go_sem, ↓reduceIte, reduceCtorEq, pappend, plen, c1, l1, tk2, dr9, List.length_append, List.all_append]
  refine hK _ _ ?_; clear hK K
  (repeat refine PW.seq ?_); refine PW.rg rfl fun K hK => ?_; simp (maxSteps := 3000000) (disch := omega) only [go_sem, ↓reduceIte, reduceCtorEq, pappend, plen, l1, List.length_append]; refine VCx.call (next_ok L f 1 3 (H.length + 1) _ (hp1 _ _ _ _) (by omega) (by omega)) rfl ?_; simp (maxSteps := 3000000) (disch := omega) only [go_sem, ↓reduceIte, reduceCtorEq, pappend, plen, l1, List.length_append]; refine hK _ _ ?_; clear hK K
  have hq3 : (tn L 1 3 == 0) = decide (tn L 1 3 = 0) := by rw [Bool.eq_iff_iff]; simp
  (repeat refine PW.seq ?_); refine PW.rg rfl fun K hK => ?_; simp (maxSteps := 3000000) (disch := omega) only [go_sem, ↓reduceIte, reduceCtorEq, pappend, plen, hq3, l1, tk2, e2, hp2, hs2, List.length_append]; refine VCx.call (ixo (H.length + 1) _ (hp1 _ _ _ _)) rfl ?_; simp (maxSteps := 3000000) (disch := omega) only [go_sem, ↓reduceIte, reduceCtorEq, pappend, plen, hq3, l1, tk2, e2, hp2, hs2, List.length_append]; refine hK _ _ ?_; clear hK K
  (repeat refine PW.seq ?_); refine PW.rg rfl fun K hK => ?_; simp (maxSteps := 3000000) (disch := omega) only [go_sem, ↓reduceIte, reduceCtorEq, pappend, plen, hkk]; refine VCx.call (next_ok L f a0 6 (H.length + 1) _ (hp1 _ _ _ _) (by omega) (by omega)) rfl ?_; simp (maxSteps := 3000000) (disch := omega) only [go_sem, ↓reduceIte, reduceCtorEq, pappend, plen, hkk]; refine hK _ _ ?_; clear hK K
  (repeat refine PW.seq ?_)
  refine PW.view (Vs.ghostH (id := H.length + 2) (j := 136) 81 8 (hp2 _ _ _ _ _) (show (tl ++ [_, _, _])[129]? = _ by rw [g1])) ?_
  (repeat refine PW.seq ?_); refine PW.block (PW.loop ?_)
  suffices hloop : ∀ j, j ≤ kk → PL Try.prog _ _ [(2, .ptr H.length 0 0), (3, .ptr (H.length + 1) 0 0), (4, .ptr (H.length + 2) 0 0), (5, .int .i64 ((kk : Int) - (j : Int)))] (H ++ [⟨50, 0, filmZ⟩, tb L f (S j).2, ⟨50, 0, .int .i64 16 :: .int .i64 32 :: .int .i64 25 :: .int .i64 1 :: .bool (decide (tn L 1 3 = 0)) :: .int .i64 400000 :: .int .i64 100000 :: (tl ++ [.bool (decide (0 < tn L 0 4)), .msl (H.length + 3) ((S j).1.length * 8) 0 (S j).1.length 8 true, .slice M 3 false])⟩, ⟨81, (S j).1.length * 8, (S j).1.flatMap exc⟩]) _ by
    refine PL.at [2, 3, 4, 5] (hloop 0 (by omega)) ?_ ?_
    · simp (maxSteps := 3000000) (disch := omega) only [go_sem, ↓reduceIte, reduceCtorEq, pappend, plen]
      simp
    · rw [hs2, hS0]
      simp only [List.set_cons_succ, e1, Nat.zero_mul, List.flatMap_nil, List.length_nil]
      simp [filmZ]
  intro j hj
  induction hd : kk - j using Nat.strongRecOn generalizing j with
  | _ d ih =>
    obtain ⟨q1, q2, q3⟩ := hsg j
    have hel := exl_len (S j).1
    refine PL.round ?_; (repeat refine PW.seq ?_); refine PW.rg rfl fun K hK => ?_; simp (maxSteps := 3000000) (disch := omega) only [go_sem, ↓reduceIte, reduceCtorEq, pappend, plen]; refine hK _ _ ?_; clear hK K
    (repeat refine PW.seq ?_); refine PW.cond (t := _) rfl (fun h => ?_) (fun h => ?_)
    rotate_left
    · have h4 : j = kk := by have := of_decide_eq_false h; omega
      subst h4
      refine PW.exit ?_
      (repeat refine PW.seq ?_)
      refine PW.view (Vs.frzCell (id := H.length + 3) (id' := H.length + 2) (j := 136) (hp3 _ _ _ _ _ _) (hp2 _ _ _ _ _) (by omega) (show (tl ++ [_, _, _])[129]? = _ by rw [g1]) hel) ?_
      refine PW.eq rfl (show _ = H ++ [⟨50, 0, filmZ⟩, tb L f (S j).2, ⟨50, 0, .int .i64 16 :: .int .i64 32 :: .int .i64 25 :: .int .i64 1 :: .bool (decide (tn L 1 3 = 0)) :: .int .i64 400000 :: .int .i64 100000 :: (tl ++ [.bool (decide (0 < tn L 0 4)), .slice ((S j).1.flatMap exc) (S j).1.length false, .slice M 3 false])⟩, ⟨81, (S j).1.length * 8 + 1, []⟩] by rw [hs3, hs2]; simp only [List.set_cons_succ, e1]) ?_
      (repeat refine PW.seq ?_); refine PW.rg rfl fun K hK => ?_; simp (maxSteps := 3000000) (disch := omega) only [go_sem, ↓reduceIte, reduceCtorEq, pappend, plen, hp2, hp0, hs0, l1, tka, c1, List.length_append, List.all_append, filmZ, List.length_replicate]; refine hK _ _ ?_; clear hK K
      refine PW.ret ⟨.agg (.int .i64 16 :: .int .i64 32 :: .int .i64 25 :: .int .i64 1 :: .bool (decide (tn L 1 3 = 0)) :: .int .i64 400000 :: .int .i64 100000 :: (tl ++ [.bool (decide (0 < tn L 0 4)), .slice ((S j).1.flatMap exc) (S j).1.length false, .slice M 3 false])), by simp (maxSteps := 3000000) (disch := omega) only [go_sem, ↓reduceIte, reduceCtorEq, pappend, plen, presults, presult, List.mapM_cons, List.mapM_nil, Option.pure_def, Option.bind_eq_bind, Option.bind_some, Array.toList, hp0, tka, l1, c1, List.length_append, List.all_append], ?_⟩
      refine Fin.base (.id (ag_scoped fun x hx => ?_))
      simp only [List.mem_cons, List.mem_append, List.not_mem_nil, or_false] at hx
      rcases hx with rfl | rfl | rfl | rfl | rfl | rfl | rfl | hx | rfl | rfl | rfl
      · exact .int _ _
      · exact .int _ _
      · exact .int _ _
      · exact .int _ _
      · exact .bool _
      · exact .int _ _
      · exact .int _ _
      · exact s1 _ _ hx
      · exact .bool _
      · exact sl_scoped (exl_sc _ _ q1)
      · exact sl_scoped (hMs _)
    · have h4 : j < kk := by have := of_decide_eq_true h; omega
      have hnew := hss j
      have hj1 := hsg (j + 1)
      have hsge := seg_ok L (S j).2
      have hseg : seg L (S j).2 = _ := rfl
      rw [hseg] at hnew
      unfold seg at hnew
      refine PW.skip ?_; (repeat refine PW.seq ?_); refine PW.block ?_
      have r3 := tn_range L (S j).2 4 (by omega)
      (repeat refine PW.seq ?_); refine PW.rg rfl fun K hK => ?_; simp (maxSteps := 3000000) (disch := omega) only [go_sem, ↓reduceIte, reduceCtorEq, pappend, plen]; refine VCx.call (next_ok L f (S j).2 4 (H.length + 1) _ (hp1 _ _ _ _) (by omega) (by omega)) rfl ?_; simp (maxSteps := 3000000) (disch := omega) only [go_sem, ↓reduceIte, reduceCtorEq, pappend, plen]; refine hK _ _ ?_; clear hK K
      (repeat refine PW.seq ?_); refine PW.cond (t := _) rfl (fun h => ?_) (fun h => ?_)
      · have h5 : tn L (S j).2 4 = 0 := by simpa using h
        rw [if_pos h5] at hnew
        have hP := exP_ok L 2 ((S j).2 + 1)
        have hD := exD_ok hP.1
        have xo := expr2 L f ((S j).2 + 1)
        rw [← hD.1] at xo
        simp only [exc] at xo
        (repeat refine PW.seq ?_); refine PW.drawi [H.length + 1, H.length + 3, H.length + 2] [(42, [0]), (41, [1]), (45, [1]), (4, [2]), (40, [2]), (46, [2])] [] [] mix (by kernel_rfl) (by simp <;> omega) fun K hK => ?_
        simp (maxSteps := 3000000) (disch := omega) only [go_sem, ↓reduceIte, reduceCtorEq, pappend, plen, hp1, hp2, hp3, g1, l1, List.length_append]
        refine VCj.wr1 (hp1 _ _ _ _) (fun _ hL _ => xo _ _ hL (by omega)) (by simp (maxSteps := 3000000) (disch := omega) only [go_sem, ↓reduceIte, reduceCtorEq, pappend, plen]) (.inl rfl) rfl ?_
        simp (maxSteps := 3000000) (disch := omega) only [go_sem, ↓reduceIte, reduceCtorEq, pappend, plen, hp1, hp2, hp3, hs1, hs2, hs3, g1, e1, l1, hel, List.length_append]
        refine hK _ _ ?_; clear hK K
        refine PW.exit ?_
        (repeat refine PW.seq ?_); refine PW.rg rfl fun K hK => ?_; simp (maxSteps := 3000000) (disch := omega) only [go_sem, ↓reduceIte, reduceCtorEq, pappend, plen]; refine hK _ _ ?_; clear hK K
        have e8 : (S (j + 1)).1.flatMap exc = (S j).1.flatMap exc ++ exc (exD (exP L 2 ((S j).2 + 1)).1) := by rw [hnew]; simp
        have e9 : (S (j + 1)).1.length = (S j).1.length + 1 := by rw [hnew]; simp
        have e7 : (S (j + 1)).2 = (exP L 2 ((S j).2 + 1)).2 := by rw [hnew]
        refine PL.at [2, 3, 4, 5] (ih (kk - (j + 1)) (by omega) (j + 1) (by omega) rfl) ?_ ?_
        · simp (maxSteps := 3000000) (disch := omega) only [go_sem, ↓reduceIte, reduceCtorEq, pappend, plen]
          simp; omega
        · rw [e8, e9, e7]
          simp [exc, Nat.add_mul]
      · have h5 : tn L (S j).2 4 ≠ 0 := by simpa using h
        rw [if_neg h5] at hnew
        have r4 := tn_range L ((S j).2 + 1) 3 (by omega)
        have r5 := tn_range L ((S j).2 + 2) 9 (by omega)
        have r6 := tn_range L ((S j).2 + 3) 10 (by omega)
        refine PW.skip ?_
        (repeat refine PW.seq ?_); refine PW.rg rfl fun K hK => ?_; simp (maxSteps := 3000000) (disch := omega) only [go_sem, ↓reduceIte, reduceCtorEq, pappend, plen]
        refine VCx.call (next_ok L f ((S j).2 + 1) 3 (H.length + 1) _ (hp1 _ _ _ _) (by omega) (by omega)) rfl ?_; simp (maxSteps := 3000000) (disch := omega) only [go_sem, ↓reduceIte, reduceCtorEq, pappend, plen]
        refine VCx.call (next_ok L f ((S j).2 + 2) 9 (H.length + 1) _ (hp1 _ _ _ _) (by omega) (by omega)) rfl ?_; simp (maxSteps := 3000000) (disch := omega) only [go_sem, ↓reduceIte, reduceCtorEq, pappend, plen]
        refine hK _ _ ?_; clear hK K
        (repeat refine PW.seq ?_); refine PW.rg rfl fun K hK => ?_; simp (maxSteps := 3000000) (disch := omega) only [go_sem, ↓reduceIte, reduceCtorEq, pappend, plen]; refine VCx.call (next_ok L f ((S j).2 + 3) 10 (H.length + 1) _ (hp1 _ _ _ _) (by omega) (by omega)) rfl ?_; simp (maxSteps := 3000000) (disch := omega) only [go_sem, ↓reduceIte, reduceCtorEq, pappend, plen]; refine hK _ _ ?_; clear hK K
        obtain ⟨nn, hnn⟩ : ∃ nn : Nat, tn L ((S j).2 + 3) 10 = nn := ⟨(tn L ((S j).2 + 3) 10).toNat, by omega⟩
        rw [hnn] at hnew r6
        rw [Int.toNat_natCast] at hnew
        rw [hnn]
        (repeat refine PW.seq ?_); refine PW.block (PW.loop ?_)
        suffices hin : ∀ n, n ≤ nn + 1 → PL Try.prog _ _ [(2, .ptr H.length 0 0), (3, .ptr (H.length + 1) 0 0), (4, .ptr (H.length + 2) 0 0), (5, .int .i64 ((kk : Int) - (j : Int))), (6, .int .i64 (tn L ((S j).2 + 1) 3)), (7, .int .i64 (tn L ((S j).2 + 2) 9 + (n : Int))), (8, .int .i64 ((nn : Int) - (n : Int)))] (H ++ [⟨50, 0, filmZ⟩, tb L f ((S j).2 + 4), ⟨50, 0, .int .i64 16 :: .int .i64 32 :: .int .i64 25 :: .int .i64 1 :: .bool (decide (tn L 1 3 = 0)) :: .int .i64 400000 :: .int .i64 100000 :: (tl ++ [.bool (decide (0 < tn L 0 4)), .msl (H.length + 3) (((S j).1.length + n) * 8) 0 ((S j).1.length + n) 8 true, .slice M 3 false])⟩, ⟨81, ((S j).1.length + n) * 8, ((S j).1 ++ srcs (tn L ((S j).2 + 1) 3) (tn L ((S j).2 + 2) 9) n).flatMap exc⟩]) _ by
          refine PL.at [2, 3, 4, 5, 6, 7, 8] (hin 0 (by omega)) ?_ ?_
          · simp (maxSteps := 3000000) (disch := omega) only [go_sem, ↓reduceIte, reduceCtorEq, pappend, plen]
            simp
          · simp [srcs]
        intro n hn
        induction hd2 : nn + 1 - n using Nat.strongRecOn generalizing n with
        | _ d2 ih2 =>
          have hel2 := exl_len ((S j).1 ++ srcs (tn L ((S j).2 + 1) 3) (tn L ((S j).2 + 2) 9) n)
          rw [List.length_append, srcs_len] at hel2
          refine PL.round ?_; (repeat refine PW.seq ?_); refine PW.rg rfl fun K hK => ?_; simp (maxSteps := 3000000) (disch := omega) only [go_sem, ↓reduceIte, reduceCtorEq, pappend, plen]; refine hK _ _ ?_; clear hK K
          (repeat refine PW.seq ?_); refine PW.cond (t := _) rfl (fun h => ?_) (fun h => ?_)
          rotate_left
          · have h6 : n = nn + 1 := by have := of_decide_eq_false h; omega
            subst h6
            refine PW.exit ?_
            (repeat refine PW.seq ?_); refine PW.rg rfl fun K hK => ?_; simp (maxSteps := 3000000) (disch := omega) only [go_sem, ↓reduceIte, reduceCtorEq, pappend, plen]; refine hK _ _ ?_; clear hK K
            have e8 : (S (j + 1)).1.flatMap exc = ((S j).1 ++ srcs (tn L ((S j).2 + 1) 3) (tn L ((S j).2 + 2) 9) (nn + 1)).flatMap exc := by rw [hnew]
            have e9 : (S (j + 1)).1.length = (S j).1.length + (nn + 1) := by rw [hnew]; simp [srcs_len]
            have e7 : (S (j + 1)).2 = (S j).2 + 4 := by rw [hnew]
            refine PL.at [2, 3, 4, 5] (ih (kk - (j + 1)) (by omega) (j + 1) (by omega) rfl) ?_ ?_
            · simp (maxSteps := 3000000) (disch := omega) only [go_sem, ↓reduceIte, reduceCtorEq, pappend, plen]
              simp; omega
            · rw [e8, e9, e7]
          · have h6 : n < nn + 1 := by have := of_decide_eq_true h; omega
            refine PW.skip ?_; (repeat refine PW.seq ?_); refine PW.block ?_
            (repeat refine PW.seq ?_); refine PW.rg rfl fun K hK => ?_; simp (maxSteps := 3000000) (disch := omega) only [go_sem, ↓reduceIte, reduceCtorEq, pappend, plen, w32s, hp2, hp3, hs2, hs3, g1, e1, l1, hel2, List.length_append]; refine hK _ _ ?_; clear hK K
            (repeat refine PW.seq ?_); refine PW.rg rfl fun K hK => ?_; simp (maxSteps := 3000000) (disch := omega) only [go_sem, ↓reduceIte, reduceCtorEq, pappend, plen]; refine hK _ _ ?_; clear hK K
            (repeat refine PW.seq ?_); refine PW.rg rfl fun K hK => ?_; simp (maxSteps := 3000000) (disch := omega) only [go_sem, ↓reduceIte, reduceCtorEq, pappend, plen]; refine hK _ _ ?_; clear hK K
            have e8 : ((S j).1 ++ srcs (tn L ((S j).2 + 1) 3) (tn L ((S j).2 + 2) 9) (n + 1)).flatMap exc = ((S j).1 ++ srcs (tn L ((S j).2 + 1) 3) (tn L ((S j).2 + 2) 9) n).flatMap exc ++ exc (src (tn L ((S j).2 + 1) 3) (tn L ((S j).2 + 2) 9 + n)) := by simp [srcs]
            refine PL.at [2, 3, 4, 5, 6, 7, 8] (ih2 (nn + 1 - (n + 1)) (by omega) (n + 1) (by omega) rfl) ?_ ?_
            · simp (maxSteps := 3000000) (disch := omega) only [go_sem, ↓reduceIte, reduceCtorEq, pappend, plen]
              simp; omega
            · rw [e8]
              simp [exc, src, nm]
              omega

end Go.Proofs.Ytnjnikafhbholaa.Sc
