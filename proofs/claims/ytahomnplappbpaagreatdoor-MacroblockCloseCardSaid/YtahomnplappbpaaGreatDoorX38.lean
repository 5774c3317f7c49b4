/-
  Parts of the proof, put together in one text. No condition.
-/
import Derived.Test.YtahomnplappbpaaGreatDoorX37
import Derived.Test.YtahomnplappbpaaGreatDoorX28
import Derived.Test.YtahomnplappbpaaGreatDoorX16
import Derived.Test.YtahomnplappbpaaGreatDoorX21
import Derived.Test.YtahomnplappbpaaGreatDoorX22
namespace Go.Proofs.YtahomnplappbpaaGreatDoor.Sc
set_option linter.all false
set_option linter.unusedVariables false
set_option linter.unusedSimpArgs false
open Pm Ty Go.RowKit

def zBk (n : Nat) : Blk := ⟨5, 1, bs (List.replicate n 0)⟩
theorem zBk_fl (N : Nat) (f : Nat → Int) : zBk N = ⟨5, 1, bs (flB N f 0)⟩ := by unfold zBk; rw [flB_0, bs_zero]
theorem hscQ {K0 L L' : Heap} {X : Blk} (hl : L'.length = L.length) (hL : ∀ b ∈ L', ∀ x ∈ b.cells, Scoped (K0.length + (L.length + 1)) x) (h : HSc (K0 ++ (L ++ [X]))) : HSc (K0 ++ (L' ++ [X])) := fun id k hk x hx => by
  have e : (K0 ++ (L' ++ [X])).length = K0.length + (L.length + 1) := by simp [hl]
  rw [e]
  by_cases h1 : id < K0.length
  · rw [List.getElem?_append_left h1] at hk
    have := h id k (by rw [List.getElem?_append_left h1]; exact hk) x hx
    simpa using this
  · rw [List.getElem?_append_right (by omega)] at hk
    by_cases h2 : id - K0.length < L'.length
    · rw [List.getElem?_append_left h2] at hk
      exact hL k (List.mem_of_getElem? hk) x hx
    · rw [List.getElem?_append_right (by omega)] at hk
      have := h id k (by rw [List.getElem?_append_right (by omega), List.getElem?_append_right (by omega), ← hl]; exact hk) x hx
      simpa using this
theorem mcF_nat (A B X Y : Nat) (y u v : List UInt8) : mcF ⟨((16 * A : Nat) : Int), ((16 * B : Nat) : Int), y, u, v⟩ (X : Int) (Y : Int) = ⟨16, 16, ctl y (16 * Y * (16 * A) + 16 * X) (16 * A) 16 16, ctl u (8 * Y * (8 * A) + 8 * X) (8 * A) 8 8, ctl v (8 * Y * (8 * A) + 8 * X) (8 * A) 8 8⟩ := by
  have d1 : ((16 * A : Nat) : Int) / 2 = ((8 * A : Nat) : Int) := by omega
  have d5 : (16 : Int) * (X : Int) = ((16 * X : Nat) : Int) := by omega
  have d6 : (16 : Int) * (Y : Int) = ((16 * Y : Nat) : Int) := by omega
  have d7 : (8 : Int) * (X : Int) = ((8 * X : Nat) : Int) := by omega
  have d8 : (8 : Int) * (Y : Int) = ((8 * Y : Nat) : Int) := by omega
  have t1 : (((16 * Y : Nat) : Int) * ((16 * A : Nat) : Int) + ((16 * X : Nat) : Int)).toNat = 16 * Y * (16 * A) + 16 * X := by
    have : ((16 * Y : Nat) : Int) * ((16 * A : Nat) : Int) = ((16 * Y * (16 * A) : Nat) : Int) := (Int.natCast_mul _ _).symm
    rw [this]; omega
  have t2 : (((8 * Y : Nat) : Int) * ((8 * A : Nat) : Int) + ((8 * X : Nat) : Int)).toNat = 8 * Y * (8 * A) + 8 * X := by
    have : ((8 * Y : Nat) : Int) * ((8 * A : Nat) : Int) = ((8 * Y * (8 * A) : Nat) : Int) := (Int.natCast_mul _ _).symm
    rw [this]; omega
  unfold mcF
  simp only [d1, d5, d6, d7, d8, t1, t2, Int.toNat_natCast]

set_option maxHeartbeats 1600000 in
set_option maxRecDepth 100000 in
theorem blank_ref (K0 : Heap) : CallOk Tryz.prog 48 [.int .i64 16, .int .i64 16] (K0 ++ [plc, plc, plc]) (.agg [.int .i64 16, .int .i64 16, .msl K0.length 1 0 256 1 true, .msl (K0.length + 1) 1 0 64 1 true, .msl (K0.length + 2) 1 0 64 1 true]) (K0 ++ [zBk 256, zBk 64, zBk 64]) := by
  have d1 : (16 : Int).tdiv 2 = 8 := rfl
  obtain ⟨N1, h1⟩ : ∃ N : Nat, N = 256 := ⟨_, rfl⟩
  obtain ⟨N2, h2⟩ : ∃ N : Nat, N = 64 := ⟨_, rfl⟩
  have m1 : (16 : Int) * 16 = (N1 : Int) := by rw [h1]; rfl
  have m2 : (8 : Int) * 8 = (N2 : Int) := by rw [h2]; rfl
  rw [← h1, ← h2]
  have z1 : (List.replicate N1 [PV.int .u8 0]).flatten = bs (List.replicate N1 0) := bs_zero N1
  have z2 : (List.replicate N2 [PV.int .u8 0]).flatten = bs (List.replicate N2 0) := bs_zero N2
  refine CallOk.body (F0 := [(0, .int .i64 16), (1, .int .i64 16)]) Tryz.func48 rfl Tryz.ntmps48 Tryz.results48 rfl (by kernel_rfl) rfl ?_
  (repeat refine PW.seq ?_); refine PW.rg rfl fun K hK => ?_; simp (disch := omega) only [go_sem, ↓reduceIte, reduceCtorEq, pappend, plen, plc]; refine hK _ _ ?_; clear hK K
  (repeat refine PW.seq ?_); refine PW.drawi [K0.length, K0.length + 1, K0.length + 2, K0.length + 3] [(4, [3]), (10, [0]), (16, [1]), (22, [2])] [(10, 0), (16, 1), (22, 2)] [] mix (by kernel_rfl) (by simp <;> omega) fun K hK => ?_
  simp (disch := omega) only [go_sem, ↓reduceIte, reduceCtorEq, pappend, plen, arith, plc, d1, m1, m2]
  refine hK _ _ ?_; clear hK K
  rw [z1, z2]
  refine PW.ret ⟨.agg [.int .i64 16, .int .i64 16, .msl K0.length 1 0 N1 1 true, .msl (K0.length + 1) 1 0 N2 1 true, .msl (K0.length + 2) 1 0 N2 1 true], by simp (disch := omega) only [go_sem, ↓reduceIte, reduceCtorEq, pappend, plen, presults, presult, List.mapM_cons, List.mapM_nil, Option.pure_def, Option.bind_eq_bind, Option.bind_some, Array.toList], ?_⟩
  refine Fin.cut (A := K0 ++ [zBk N1, zBk N2, zBk N2]) (List.append_assoc _ [_, _, _] [_]).symm (by simp) (hscP (by simp) fun b hb x hx => ?_) (.id (ag_scoped fun x hx => ?_))
  · simp only [List.mem_cons, List.not_mem_nil, or_false] at hb
    rcases hb with rfl | rfl | rfl <;> exact bs_scoped _ _ x hx
  · simp only [List.mem_cons, List.not_mem_nil, or_false] at hx
    rcases hx with rfl | rfl | rfl | rfl | rfl
    · exact .int _ _
    · exact .int _ _
    · exact .msl (by simp only [List.length_append, List.length_cons, List.length_nil]; omega)
    · exact .msl (by simp only [List.length_append, List.length_cons, List.length_nil]; omega)
    · exact .msl (by simp only [List.length_append, List.length_cons, List.length_nil]; omega)

set_option maxHeartbeats 1600000 in
set_option maxRecDepth 100000 in
theorem pasteR_ref (A B X Y : Nat) (y u v : List UInt8) (K0 : Heap) (Xb : Blk) (hA : 1 ≤ A ∧ A ≤ 4) (hB : 1 ≤ B ∧ B ≤ 4) (hX : X < A) (hY : Y < B) (ly : y.length = 16 * A * (16 * B)) (lu : u.length = 8 * A * (8 * B)) (lv : v.length = 8 * A * (8 * B)) :
    CallOk Tryz.prog 49 [.agg [.int .i64 16, .int .i64 16, .msl K0.length 1 0 256 1 true, .msl (K0.length + 1) 1 0 64 1 true, .msl (K0.length + 2) 1 0 64 1 true], .int .i64 0, .int .i64 0, .agg (fmc ⟨((16 * A : Nat) : Int), ((16 * B : Nat) : Int), y, u, v⟩), .int .i64 ((16 * X : Nat) : Int), .int .i64 ((16 * Y : Nat) : Int), .int .i64 16, .int .i64 16]
      (K0 ++ [zBk 256, zBk 64, zBk 64, Xb]) (.tup []) (K0 ++ [cpB (ctl y (16 * Y * (16 * A) + 16 * X) (16 * A) 16 16), cpB (ctl u (8 * Y * (8 * A) + 8 * X) (8 * A) 8 8), cpB (ctl v (8 * Y * (8 * A) + 8 * X) (8 * A) 8 8), Xb]) := by
  have bA : 16 * A * (16 * B) ≤ 64 * 64 := Nat.mul_le_mul (by omega) (by omega)
  have bB : 8 * A * (8 * B) ≤ 32 * 32 := Nat.mul_le_mul (by omega) (by omega)
  have d1 : (16 : Int).tdiv 2 = ((8 : Nat) : Int) := rfl
  have d2 : ((16 * A : Nat) : Int).tdiv 2 = ((8 * A : Nat) : Int) := by rw [tdiv_pos _ _ (by omega)]; omega
  have d3 : ((16 * X : Nat) : Int).tdiv 2 = ((8 * X : Nat) : Int) := by rw [tdiv_pos _ _ (by omega)]; omega
  have d4 : ((16 * Y : Nat) : Int).tdiv 2 = ((8 * Y : Nat) : Int) := by rw [tdiv_pos _ _ (by omega)]; omega
  have d5 : (0 : Int).tdiv 2 = 0 := rfl
  have c1 := fun L hL => cutR_ref y K0.length (16 * A) (16 * X) (16 * Y) 16 16 true false L (by rw [← zBk_fl]; exact hL) (by omega) (by omega) (by omega) (by omega) (rows_in ly (by omega) (by omega))
  have c2 := fun L hL => cutR_ref u (K0.length + 1) (8 * A) (8 * X) (8 * Y) 8 8 true false L (by rw [← zBk_fl]; exact hL) (by omega) (by omega) (by omega) (by omega) (rows_in lu (by omega) (by omega))
  have c3 := fun L hL => cutR_ref v (K0.length + 2) (8 * A) (8 * X) (8 * Y) 8 8 true false L (by rw [← zBk_fl]; exact hL) (by omega) (by omega) (by omega) (by omega) (rows_in lv (by omega) (by omega))
  simp only [Nat.reduceMul] at c1 c2 c3
  have i16 : ((16 : Nat) : Int) = 16 := rfl
  simp only [i16] at c1
  obtain ⟨P1, hP1⟩ : ∃ P, ctl y (16 * Y * (16 * A) + 16 * X) (16 * A) 16 16 = P := ⟨_, rfl⟩
  obtain ⟨P2, hP2⟩ : ∃ P, ctl u (8 * Y * (8 * A) + 8 * X) (8 * A) 8 8 = P := ⟨_, rfl⟩
  obtain ⟨P3, hP3⟩ : ∃ P, ctl v (8 * Y * (8 * A) + 8 * X) (8 * A) 8 8 = P := ⟨_, rfl⟩
  rw [hP1] at c1 ⊢
  rw [hP2] at c2 ⊢
  rw [hP3] at c3 ⊢
  simp only [fmc]
  refine CallOk.body (F0 := [(0, .agg [.int .i64 16, .int .i64 16, .msl K0.length 1 0 256 1 true, .msl (K0.length + 1) 1 0 64 1 true, .msl (K0.length + 2) 1 0 64 1 true]), (1, .int .i64 0), (2, .int .i64 0), (3, .agg [.int .i64 ((16 * A : Nat) : Int), .int .i64 ((16 * B : Nat) : Int), .slice (bs y) y.length false, .slice (bs u) u.length false, .slice (bs v) v.length false]), (4, .int .i64 ((16 * X : Nat) : Int)), (5, .int .i64 ((16 * Y : Nat) : Int)), (6, .int .i64 16), (7, .int .i64 16)]) Tryz.func49 rfl Tryz.ntmps49 Tryz.results49 rfl (by kernel_rfl) rfl ?_
  (repeat refine PW.seq ?_); refine PW.rg rfl fun K hK => ?_; simp (disch := omega) only [go_sem, ↓reduceIte, reduceCtorEq, pappend, plen]; refine hK _ _ ?_; clear hK K
  (repeat refine PW.seq ?_); refine PW.rg rfl fun K hK => ?_; simp (disch := omega) only [go_sem, ↓reduceIte, reduceCtorEq, pappend, plen]; refine VCx.call (c1 _ (hp0 _ _ _)) rfl ?_; simp (disch := omega) only [go_sem, ↓reduceIte, reduceCtorEq, pappend, plen]; refine hK _ _ ?_; clear hK K
  (repeat refine PW.seq ?_); refine PW.rg rfl fun K hK => ?_; simp (disch := omega) only [go_sem, ↓reduceIte, reduceCtorEq, pappend, plen, d1, d2, d3, d4, d5]; refine VCx.call (c2 _ (hp1 _ _ _ _)) rfl ?_; simp (disch := omega) only [go_sem, ↓reduceIte, reduceCtorEq, pappend, plen, d1, d2, d3, d4, d5]; refine hK _ _ ?_; clear hK K
  (repeat refine PW.seq ?_); refine PW.rg rfl fun K hK => ?_; simp (disch := omega) only [go_sem, ↓reduceIte, reduceCtorEq, pappend, plen, d1, d2, d3, d4, d5]; refine VCx.call (c3 _ (hp2 _ _ _ _ _)) rfl ?_; simp (disch := omega) only [go_sem, ↓reduceIte, reduceCtorEq, pappend, plen, d1, d2, d3, d4, d5]; refine hK _ _ ?_; clear hK K
  refine Exists.intro _ (And.intro rfl ?_)
  refine Fin.cut (A := K0 ++ [cpB P1, cpB P2, cpB P3, Xb]) (List.append_assoc _ [_, _, _, _] [_, _]).symm (by simp) (fun hh => hscQ (L := [zBk 256, zBk 64, zBk 64]) (L' := [cpB P1, cpB P2, cpB P3]) rfl (fun b hb x hx => ?_) hh) (.id (.tup (asc fun x hx => by cases hx)))
  simp only [List.mem_cons, List.not_mem_nil, or_false] at hb
  rcases hb with rfl | rfl | rfl <;> exact bs_scoped _ _ x hx

set_option maxHeartbeats 1600000 in
set_option maxRecDepth 100000 in
theorem mcb_ref (f : Fm) (mx my : Int) (hm : hasM f mx my = true) (H : Heap) : CallOk Tryz.prog 18 [.agg (fmc f), .int .i64 mx, .int .i64 my] H (.tup [.agg (fmc (mcF f mx my)), .int .i64 0]) H := by
  have ho := fun L => has_ref f mx my L
  rw [hm] at ho
  simp only [hasM, Bool.and_eq_true, decide_eq_true_eq] at hm
  obtain ⟨hv, m1, m2, m3, m4⟩ := hm
  obtain ⟨A, B, a1, a2, b1, b2, ew, eh, ly, lu, lv⟩ := fvd_nat hv
  obtain ⟨X, hX⟩ : ∃ X : Nat, mx = (X : Int) := ⟨mx.toNat, by omega⟩
  obtain ⟨Y, hY⟩ : ∃ Y : Nat, my = (Y : Int) := ⟨my.toNat, by omega⟩
  obtain ⟨w, ht, y, u, v⟩ := f
  simp only at ew eh ly lu lv m2 m4
  subst hX hY ew eh
  have hx : X < A := by omega
  have hy : Y < B := by omega
  rw [mcF_nat]
  have n1 := ctl_len y (16 * Y * (16 * A) + 16 * X) (16 * A) 16 16 (rows_in ly (by omega) (by omega))
  have n2 := ctl_len u (8 * Y * (8 * A) + 8 * X) (8 * A) 8 8 (rows_in lu (by omega) (by omega))
  have n3 := ctl_len v (8 * Y * (8 * A) + 8 * X) (8 * A) 8 8 (rows_in lv (by omega) (by omega))
  have x1 : (16 : Int) * (X : Int) = ((16 * X : Nat) : Int) := by omega
  have x2 : (16 : Int) * (Y : Int) = ((16 * Y : Nat) : Int) := by omega
  have bl := blank_ref (H ++ [⟨53, 0, fmc ⟨((16 * A : Nat) : Int), ((16 * B : Nat) : Int), y, u, v⟩⟩, ⟨53, 0, [.int .i64 0, .int .i64 0, .slice [] 0 true, .slice [] 0 true, .slice [] 0 true]⟩])
  have pa := fun Xb => pasteR_ref A B X Y y u v (H ++ [⟨53, 0, fmc ⟨((16 * A : Nat) : Int), ((16 * B : Nat) : Int), y, u, v⟩⟩, ⟨53, 0, [.int .i64 0, .int .i64 0, .slice [] 0 true, .slice [] 0 true, .slice [] 0 true]⟩]) Xb (by omega) (by omega) hx hy ly lu lv
  simp only [fmc, plc, n1, n2, n3, hl2, List.append_assoc, List.cons_append, List.nil_append, Nat.add_assoc, Nat.reduceAdd, Nat.reduceMul] at ho bl pa ⊢
  generalize ctl y (16 * Y * (16 * A) + 16 * X) (16 * A) 16 16 = P1 at pa n1 ⊢
  generalize ctl u (8 * Y * (8 * A) + 8 * X) (8 * A) 8 8 = P2 at pa n2 ⊢
  generalize ctl v (8 * Y * (8 * A) + 8 * X) (8 * A) 8 8 = P3 at pa n3 ⊢
  refine CallOk.body (F0 := [(0, .agg [.int .i64 ((16 * A : Nat) : Int), .int .i64 ((16 * B : Nat) : Int), .slice (bs y) y.length false, .slice (bs u) u.length false, .slice (bs v) v.length false]), (1, .int .i64 (X : Int)), (2, .int .i64 (Y : Int))]) Tryz.func18 rfl Tryz.ntmps18 Tryz.results18 rfl (by kernel_rfl) rfl ?_
  (repeat refine PW.seq ?_); refine PW.rg rfl fun K hK => ?_; simp (disch := omega) only [go_sem, ↓reduceIte, reduceCtorEq, pappend, plen]; refine hK _ _ ?_; clear hK K
  (repeat refine PW.seq ?_); refine PW.rg rfl fun K hK => ?_; simp (disch := omega) only [go_sem, ↓reduceIte, reduceCtorEq, pappend, plen]; refine VCx.call (ho _) rfl ?_; simp (disch := omega) only [go_sem, ↓reduceIte, reduceCtorEq, pappend, plen]; refine hK _ _ ?_; clear hK K
  (repeat refine PW.seq ?_); refine PW.cond (t := _) rfl (fun h => ?_) (fun h => ?_)
  · cases h
  refine PW.skip ?_
  refine PW.view (Vs.place 5) ?_
  refine PW.view (Vs.place 5) ?_
  refine PW.view (Vs.place 5) ?_
  (repeat refine PW.seq ?_); refine PW.rg rfl fun K hK => ?_; simp (disch := omega) only [go_sem, ↓reduceIte, reduceCtorEq, pappend, plen]; refine VCx.call (bl) rfl ?_; simp (disch := omega) only [go_sem, ↓reduceIte, reduceCtorEq, pappend, plen]; refine hK _ _ ?_; clear hK K
  (repeat refine PW.seq ?_); refine PW.rg rfl fun K hK => ?_; simp (disch := omega) only [go_sem, ↓reduceIte, reduceCtorEq, pappend, plen, x1, x2]; refine VCx.call (pa _) rfl ?_; simp (disch := omega) only [go_sem, ↓reduceIte, reduceCtorEq, pappend, plen, x1, x2]; refine hK _ _ ?_; clear hK K
  (repeat refine PW.seq ?_); refine PW.rg rfl fun K hK => ?_; simp (disch := omega) only [go_sem, ↓reduceIte, reduceCtorEq, pappend, plen]; refine hK _ _ ?_; clear hK K
  refine PW.ret ⟨.tup [.agg [.int .i64 16, .int .i64 16, .msl (H.length + 2) 1 0 256 1 true, .msl (H.length + 3) 1 0 64 1 true, .msl (H.length + 4) 1 0 64 1 true], .int .i64 0], by simp (disch := omega) only [go_sem, ↓reduceIte, reduceCtorEq, pappend, plen, presults, presult, List.mapM_cons, List.mapM_nil, Option.pure_def, Option.bind_eq_bind, Option.bind_some, Array.toList], ?_⟩
  refine Fin.base (Fz.tupC ⟨Fz.aggC ⟨.id (.int _ _), .id (.int _ _), Fz.mslC (e := 5) (xs := bs P1) (by omega) (apn _ _ 2) (by rw [length_bs]; omega) (FzC.refl (bs_scoped _ _)), Fz.mslC (e := 5) (xs := bs P2) (by omega) (apn _ _ 3) (by rw [length_bs]; omega) (FzC.refl (bs_scoped _ _)), Fz.mslC (e := 5) (xs := bs P3) (by omega) (apn _ _ 4) (by rw [length_bs]; omega) (FzC.refl (bs_scoped _ _)), trivial⟩, .id (.int _ _), trivial⟩)

/-! ### distances -/
set_option maxHeartbeats 1600000 in
set_option maxRecDepth 100000 in
theorem apart_ref (a b : List UInt8) (f g : Bool) (H : Heap) (hl : a.length = b.length) (ha : a.length ≤ 8192) : CallOk Tryz.prog 51 [.slice (bs a) a.length f, .slice (bs b) b.length g] H (.int .i64 (apt a b a.length)) H := by
  refine CallOk.body (F0 := [(0, .slice (bs a) a.length f), (1, .slice (bs b) b.length g)]) Tryz.func51 rfl Tryz.ntmps51 Tryz.results51 rfl (by kernel_rfl) rfl ?_
  (repeat refine PW.seq ?_); refine PW.rg rfl fun K hK => ?_; simp (disch := omega) only [go_sem, ↓reduceIte, reduceCtorEq, pappend, plen]; refine hK _ _ ?_; clear hK K
  (repeat refine PW.seq ?_); refine PW.rg rfl fun K hK => ?_; simp (disch := omega) only [go_sem, ↓reduceIte, reduceCtorEq, pappend, plen]; refine hK _ _ ?_; clear hK K
  (repeat refine PW.seq ?_); refine PW.rg rfl fun K hK => ?_; simp (disch := omega) only [go_sem, ↓reduceIte, reduceCtorEq, pappend, plen]; refine hK _ _ ?_; clear hK K
  (repeat refine PW.seq ?_); refine PW.block (PW.loop ?_)
  suffices h1 : ∀ k : Nat, k ≤ a.length → PL Tryz.prog _ _ [(0, .slice (bs a) a.length f), (1, .slice (bs b) b.length g), (5, .int .i64 (apt a b k)), (6, .int .i64 (k : Int))] H _ by
    exact PL.at [0, 1, 5, 6] (h1 0 (by omega)) rfl rfl
  refine cnt a.length (fun k hk ih => ?_) ?_
  · have ct := lt_t hk
    have r1 := byt_range a k
    have r2 := byt_range b k
    have n1 := apt_nn a b k
    have n2 := apt_hi a b k
    have mx : mx3 (apt a b k) (byt a k - byt b k) (byt b k - byt a k) = apt a b (k + 1) := by rw [apt]; unfold mx3; omega
    unfold mx3 at mx
    refine PL.round ?_; (repeat refine PW.seq ?_); refine PW.rg rfl fun K hK => ?_; simp (disch := omega) only [go_sem, ↓reduceIte, reduceCtorEq, pappend, plen, ct]; refine hK _ _ ?_; clear hK K; (repeat refine PW.seq ?_); refine PW.cond (t := _) rfl (fun h => ?_) (fun h => ?_)
    rotate_left
    · cases h
    refine PW.skip ?_; (repeat refine PW.seq ?_); refine PW.block ?_
    (repeat refine PW.seq ?_); refine PW.draw mix (by kernel_rfl) fun K hK => ?_; simp (disch := omega) only [go_sem, ↓reduceIte, reduceCtorEq, pappend, plen, bs_get, length_bs, mx]; refine hK _ _ ?_; clear hK K
    (repeat refine PW.seq ?_); refine PW.rg rfl fun K hK => ?_; simp (disch := omega) only [go_sem, ↓reduceIte, reduceCtorEq, pappend, plen]; refine hK _ _ ?_; clear hK K
    exact PL.at [0, 1, 5, 6] ih rfl rfl
  refine PL.round ?_; (repeat refine PW.seq ?_); refine PW.rg rfl fun K hK => ?_; simp (disch := omega) only [go_sem, ↓reduceIte, reduceCtorEq, pappend, plen, lt_f a.length]; refine hK _ _ ?_; clear hK K; (repeat refine PW.seq ?_); refine PW.cond (t := _) rfl (fun h => ?_) (fun h => ?_)
  · cases h
  refine PW.exit ?_
  (repeat refine PW.seq ?_); refine PW.rg rfl fun K hK => ?_; simp (disch := omega) only [go_sem, ↓reduceIte, reduceCtorEq, pappend, plen]; refine hK _ _ ?_; clear hK K
  (refine PW.ret ⟨_, rfl, ?_⟩; first | refine .inl ⟨?_, rfl⟩ | refine Fin.base (.id' ?_ (.bool _)) | refine Fin.base (.id' ?_ (.int _ _)))
  rfl

set_option maxHeartbeats 1600000 in
set_option maxRecDepth 100000 in
theorem distance_ref (f g : Fm) (H : Heap) : CallOk Tryz.prog 19 [.agg (fmc f), .agg (fmc g)] H (.int .i64 (dstF f g)) H := by
  have fo := fun L => formed_ref f L
  have go := fun L => formed_ref g L
  have hr : dstF f g = if (fmd f && (fmd g && (decide (f.w = g.w) && decide (f.h = g.h)))) = true then max (max (apt f.y g.y f.y.length) (apt f.u g.u f.u.length)) (apt f.v g.v f.v.length) else -1 := rfl
  have hc : (fmd f && (fmd g && (decide (f.w = g.w) && decide (f.h = g.h)))) = true → (f.y.length = g.y.length ∧ f.u.length = g.u.length ∧ f.v.length = g.v.length) ∧ f.y.length ≤ 8192 ∧ f.u.length ≤ 8192 ∧ f.v.length ≤ 8192 := fun hc => by
    simp only [Bool.and_eq_true, decide_eq_true_eq, fmd] at hc
    obtain ⟨⟨hs, fy, fu, fv⟩, ⟨_, gy, gu, gv⟩, hw, hh⟩ := hc
    obtain ⟨g1, g2, g3, g4, g5, g6⟩ := fsz_of hs
    have m1 := mul_b (a := f.w) (b := f.h) (by omega)
    have m2 := mul_b (a := f.w / 2) (b := f.h / 2) (by omega)
    rw [← hw, ← hh] at gy gu gv
    omega
  generalize dstF f g = r at hr ⊢
  generalize fmd f = b1 at fo hr hc
  generalize fmd g = b2 at go hr hc
  obtain ⟨w, ht, y, u, v⟩ := f
  obtain ⟨w', ht', y', u', v'⟩ := g
  simp only [fmc] at fo go hr hc ⊢
  refine CallOk.body (F0 := [(0, .agg [.int .i64 w, .int .i64 ht, .slice (bs y) y.length false, .slice (bs u) u.length false, .slice (bs v) v.length false]), (1, .agg [.int .i64 w', .int .i64 ht', .slice (bs y') y'.length false, .slice (bs u') u'.length false, .slice (bs v') v'.length false])]) Tryz.func19 rfl Tryz.ntmps19 Tryz.results19 rfl (by kernel_rfl) rfl ?_
  (repeat refine PW.seq ?_); refine PW.rg rfl fun K hK => ?_; simp (disch := omega) only [go_sem, ↓reduceIte, reduceCtorEq, pappend, plen]; refine hK _ _ ?_; clear hK K
  (repeat refine PW.seq ?_)
  refine PW.rgv (P := Tryz.prog) [2, 3, 4] 26 (.bool (!(b1 && (b2 && (decide (w = w') && decide (ht = ht')))))) ?_ ?_ ?_
  · rfl
  · clear hr hc
    simp (disch := omega) only [go_sem, ↓reduceIte, reduceCtorEq, pappend, plen]; (repeat' (first | ((first | refine VO_cond ?_ ?_ | refine VOd_cond ?_ ?_ | refine VOg_cond ?_ ?_ | refine VOh_cond ?_ ?_ | refine VOi_cond ?_ ?_ | refine And.intro ?_ ?_) <;> intro h <;> (try simp only [Bool.not_eq_true', Bool.not_eq_false', decide_eq_true_eq, decide_eq_false_iff_not] at h) <;> simp (disch := omega) only [go_sem, ↓reduceIte, reduceCtorEq, pappend, plen, h]) | ((first | refine VCx.call (fo _) rfl ?_ | refine VCx.call (go _) rfl ?_ | refine VCy.call (fo _) rfl ?_ | refine VCy.call (go _) rfl ?_ | refine VCz.call (fun _ => fo _) rfl ?_ | refine VCz.call (fun _ => go _) rfl ?_ | refine VCk.call (fun _ _ => fo _) rfl ?_ | refine VCk.call (fun _ _ => go _) rfl ?_ | refine VCj.now (fo _) rfl ?_ | refine VCj.now (go _) rfl ?_); simp (disch := omega) only [go_sem, ↓reduceIte, reduceCtorEq, pappend, plen])))
    all_goals (clear fo go; (simp_all [slot, Nat.beq] <;> first | rfl | omega | (rw [Bool.eq_iff_iff]; simp; done) | (rw [Bool.eq_iff_iff]; simp; omega)))
  (repeat refine PW.seq ?_); refine PW.cond (t := _) rfl (fun h => ?_) (fun h => ?_)
  · have hb : (b1 && (b2 && (decide (w = w') && decide (ht = ht')))) = false := by
      cases hx : (b1 && (b2 && (decide (w = w') && decide (ht = ht')))) with
      | false => rfl
      | true => rw [hx] at h; cases h
    rw [hb, if_neg (by simp)] at hr
    (repeat refine PW.seq ?_); refine PW.rg rfl fun K hK => ?_; simp (disch := omega) only [go_sem, ↓reduceIte, reduceCtorEq, pappend, plen]; refine hK _ _ ?_; clear hK K
    (refine PW.ret ⟨_, rfl, ?_⟩; first | refine .inl ⟨?_, rfl⟩ | refine Fin.base (.id' ?_ (.bool _)) | refine Fin.base (.id' ?_ (.int _ _)))
    rw [hr]; rfl
  have hb : (b1 && (b2 && (decide (w = w') && decide (ht = ht')))) = true := by
    cases hx : (b1 && (b2 && (decide (w = w') && decide (ht = ht')))) with
    | true => rfl
    | false => rw [hx] at h; cases h
  rw [hb, if_pos rfl] at hr
  obtain ⟨⟨l1, l2, l3⟩, k1, k2, k3⟩ := hc hb
  have a1 := fun L => apart_ref y y' false false L l1 k1
  have a2 := fun L => apart_ref u u' false false L l2 k2
  have a3 := fun L => apart_ref v v' false false L l3 k3
  have mx : mx3 (apt y y' y.length) (apt u u' u.length) (apt v v' v.length) = r := by rw [hr]; unfold mx3; omega
  unfold mx3 at mx
  refine PW.skip ?_
  (repeat refine PW.seq ?_); refine PW.draw mix (by kernel_rfl) fun K hK => ?_; simp (disch := omega) only [go_sem, ↓reduceIte, reduceCtorEq, pappend, plen]
  (repeat' (first | ((first | refine VO_cond ?_ ?_ | refine VOd_cond ?_ ?_ | refine VOg_cond ?_ ?_ | refine VOh_cond ?_ ?_ | refine VOi_cond ?_ ?_ | refine And.intro ?_ ?_) <;> intro h <;> (try simp only [Bool.not_eq_true', Bool.not_eq_false', decide_eq_true_eq, decide_eq_false_iff_not] at h) <;> simp (disch := omega) only [go_sem, ↓reduceIte, reduceCtorEq, pappend, plen, mx, h]) | ((first | refine VCx.call (a1 _) rfl ?_ | refine VCx.call (a2 _) rfl ?_ | refine VCx.call (a3 _) rfl ?_ | refine VCy.call (a1 _) rfl ?_ | refine VCy.call (a2 _) rfl ?_ | refine VCy.call (a3 _) rfl ?_ | refine VCz.call (fun _ => a1 _) rfl ?_ | refine VCz.call (fun _ => a2 _) rfl ?_ | refine VCz.call (fun _ => a3 _) rfl ?_ | refine VCk.call (fun _ _ => a1 _) rfl ?_ | refine VCk.call (fun _ _ => a2 _) rfl ?_ | refine VCk.call (fun _ _ => a3 _) rfl ?_ | refine VCj.now (a1 _) rfl ?_ | refine VCj.now (a2 _) rfl ?_ | refine VCj.now (a3 _) rfl ?_); simp (disch := omega) only [go_sem, ↓reduceIte, reduceCtorEq, pappend, plen, mx])))
  refine hK _ _ ?_; clear hK K
  (refine PW.ret ⟨_, rfl, ?_⟩; first | refine .inl ⟨?_, rfl⟩ | refine Fin.base (.id' ?_ (.bool _)) | refine Fin.base (.id' ?_ (.int _ _)))
  rfl

end Go.Proofs.YtahomnplappbpaaGreatDoor.Sc

namespace Go.Proofs.YtahomnplappbpaaGreatDoor.Sc
set_option linter.all false
set_option linter.unusedVariables false
set_option linter.unusedSimpArgs false
open Pm Ty Go.RowKit

/-! ### a case -/
def rfs (pa fu fi : Fm) : List PV := fmc pa ++ (fmc fu ++ fmc fi)
def csc (c : Cx) (s : Sq) (al : Bool) (q : Int) (m : Mb) (pa fu fi : Fm) (X Y : Int) : List PV := cxc c ++ (sqc s ++ ([.bool al, .int .i64 q] ++ (mbc m ++ (rfs pa fu fi ++ [.int .i64 X, .int .i64 Y]))))
structure Cok (s : Sq) (m : Mb) : Prop where
  a : s.ia.length = 64
  b : s.ie.length = 64
  l : m.lv.length = 384
section
variable {c : Cx} {s : Sq} {al : Bool} {q : Int} {m : Mb} {pa fu fi : Fm} {X Y : Int}
theorem csc_1 : csc c s al q m pa fu fi X Y = (cxc c ++ sqc s) ++ ([.bool al, .int .i64 q] ++ (mbc m ++ (rfs pa fu fi ++ [.int .i64 X, .int .i64 Y]))) := by simp [csc]
theorem csc_2 : csc c s al q m pa fu fi X Y = (cxc c ++ (sqc s ++ [.bool al, .int .i64 q])) ++ (mbc m ++ (rfs pa fu fi ++ [.int .i64 X, .int .i64 Y])) := by simp [csc]
theorem csc_3 : csc c s al q m pa fu fi X Y = (cxc c ++ (sqc s ++ ([.bool al, .int .i64 q] ++ mbc m))) ++ (rfs pa fu fi ++ [.int .i64 X, .int .i64 Y]) := by simp [csc]
theorem csc_4 : csc c s al q m pa fu fi X Y = (cxc c ++ (sqc s ++ ([.bool al, .int .i64 q] ++ (mbc m ++ rfs pa fu fi)))) ++ [.int .i64 X, .int .i64 Y] := by simp [csc]
theorem len_1 (h : Cok s m) : (cxc c ++ sqc s).length = 139 := by rw [List.length_append, sqc_len s h.a h.b]; rfl
set_option maxRecDepth 100000 in
theorem len_2 (h : Cok s m) : (cxc c ++ (sqc s ++ [PV.bool al, .int .i64 q])).length = 141 := by rw [List.length_append, List.length_append, sqc_len s h.a h.b]; rfl
set_option maxRecDepth 100000 in
theorem len_3 (h : Cok s m) : (cxc c ++ (sqc s ++ ([PV.bool al, .int .i64 q] ++ mbc m))).length = 549 := by rw [List.length_append, List.length_append, List.length_append, sqc_len s h.a h.b, mbc_lenA m h.l]; rfl
set_option maxRecDepth 100000 in
theorem len_4 (h : Cok s m) : (cxc c ++ (sqc s ++ ([PV.bool al, .int .i64 q] ++ (mbc m ++ rfs pa fu fi)))).length = 564 := by rw [List.length_append, List.length_append, List.length_append, List.length_append, sqc_len s h.a h.b, mbc_lenA m h.l]; rfl
theorem csc_len (h : Cok s m) : (csc c s al q m pa fu fi X Y).length = 566 := by rw [csc_4, List.length_append, len_4 h]; rfl
theorem csc_cell : (csc c s al q m pa fu fi X Y).all PV.cell = true := by
  have h1 := sqc_cell s
  have h2 := mbc_cellA m
  have h3 : (rfs pa fu fi).all PV.cell = true := rfl
  have h4 : (cxc c).all PV.cell = true := rfl
  simp [csc, h1, h2, h3, h4, PV.cell]
theorem csc_c : List.take 4 (csc c s al q m pa fu fi X Y) = cxc c := rfl
theorem csc_ct : (csc c s al q m pa fu fi X Y)[0]? = some (.int .i64 c.t) := rfl
theorem csc_cs : (csc c s al q m pa fu fi X Y)[1]? = some (.int .i64 c.s) := rfl
theorem csc_cn : (csc c s al q m pa fu fi X Y)[3]? = some (.bool c.n) := rfl
theorem csc_s (h : Cok s m) : List.take 135 (List.drop 4 (csc c s al q m pa fu fi X Y)) = sqc s := List.take_left' (sqc_len s h.a h.b)
set_option maxRecDepth 100000 in
theorem csc_al (h : Cok s m) : (csc c s al q m pa fu fi X Y)[139]? = some (.bool al) := by
  rw [csc_1, List.getElem?_append_right (by rw [len_1 h]; omega), len_1 h]; rfl
set_option maxRecDepth 100000 in
theorem csc_q (h : Cok s m) : (csc c s al q m pa fu fi X Y)[140]? = some (.int .i64 q) := by
  rw [csc_1, List.getElem?_append_right (by rw [len_1 h]; omega), len_1 h]; rfl
theorem csc_m (h : Cok s m) : List.take 408 (List.drop 141 (csc c s al q m pa fu fi X Y)) = mbc m := by
  rw [csc_2, List.drop_left' (len_2 h), List.take_left' (mbc_lenA m h.l)]
set_option maxRecDepth 100000 in
theorem csc_k (h : Cok s m) : (csc c s al q m pa fu fi X Y)[141]? = some (.int .i64 m.k) := by
  rw [csc_2, List.getElem?_append_right (by rw [len_2 h]; omega), len_2 h]; rfl
theorem csc_r (h : Cok s m) : List.take 15 (List.drop 549 (csc c s al q m pa fu fi X Y)) = rfs pa fu fi := by
  rw [csc_3, List.drop_left' (len_3 h)]; rfl
theorem csc_pa (h : Cok s m) : List.take 5 (List.drop 549 (csc c s al q m pa fu fi X Y)) = fmc pa := by
  rw [csc_3, List.drop_left' (len_3 h)]; rfl
theorem csc_fu (h : Cok s m) : List.take 5 (List.drop 554 (csc c s al q m pa fu fi X Y)) = fmc fu := by
  rw [show 554 = 549 + 5 from rfl, ← List.drop_drop, csc_3, List.drop_left' (len_3 h)]; rfl
set_option maxRecDepth 100000 in
theorem csc_X (h : Cok s m) : (csc c s al q m pa fu fi X Y)[564]? = some (.int .i64 X) := by
  rw [csc_4, List.getElem?_append_right (by rw [len_4 h]; omega), len_4 h]; rfl
set_option maxRecDepth 100000 in
theorem csc_Y (h : Cok s m) : (csc c s al q m pa fu fi X Y)[565]? = some (.int .i64 Y) := by
  rw [csc_4, List.getElem?_append_right (by rw [len_4 h]; omega), len_4 h]; rfl
theorem csc_sX (h : Cok s m) (x : Int) : (csc c s al q m pa fu fi X Y).set 564 (.int .i64 x) = csc c s al q m pa fu fi x Y := by
  rw [csc_4, List.set_append_right _ _ (by rw [len_4 h]; omega), len_4 h, csc_4]; rfl
theorem csc_sY (h : Cok s m) (x : Int) : (csc c s al q m pa fu fi X Y).set 565 (.int .i64 x) = csc c s al q m pa fu fi X x := by
  rw [csc_4, List.set_append_right _ _ (by rw [len_4 h]; omega), len_4 h, csc_4]; rfl
theorem csc_sr (h : Cok s m) (pa' fu' fi' : Fm) : List.take 549 (csc c s al q m pa fu fi X Y) ++ (rfs pa' fu' fi' ++ List.drop 564 (csc c s al q m pa fu fi X Y)) = csc c s al q m pa' fu' fi' X Y := by
  have e1 : List.take 549 (csc c s al q m pa fu fi X Y) = cxc c ++ (sqc s ++ ([.bool al, .int .i64 q] ++ mbc m)) := by rw [csc_3, List.take_left' (len_3 h)]
  have e2 : List.drop 564 (csc c s al q m pa fu fi X Y) = [.int .i64 X, .int .i64 Y] := by rw [csc_4, List.drop_left' (len_4 h)]
  rw [e1, e2, csc_3]
theorem csc_sp (h : Cok s m) (pa' : Fm) : List.take 549 (csc c s al q m pa fu fi X Y) ++ (fmc pa' ++ List.drop 554 (csc c s al q m pa fu fi X Y)) = csc c s al q m pa' fu fi X Y := by
  have e1 : List.take 549 (csc c s al q m pa fu fi X Y) = cxc c ++ (sqc s ++ ([.bool al, .int .i64 q] ++ mbc m)) := by rw [csc_3, List.take_left' (len_3 h)]
  have e2 : List.drop 554 (csc c s al q m pa fu fi X Y) = fmc fu ++ (fmc fi ++ [.int .i64 X, .int .i64 Y]) := by
    rw [show 554 = 549 + 5 from rfl, ← List.drop_drop, csc_3, List.drop_left' (len_3 h)]; rfl
  rw [e1, e2, csc_3]; rfl
set_option maxRecDepth 100000 in
theorem csc_sf (h : Cok s m) (fu' : Fm) : List.take 554 (csc c s al q m pa fu fi X Y) ++ (fmc fu' ++ List.drop 559 (csc c s al q m pa fu fi X Y)) = csc c s al q m pa fu' fi X Y := by
  have e0 : csc c s al q m pa fu fi X Y = (cxc c ++ (sqc s ++ ([.bool al, .int .i64 q] ++ (mbc m ++ fmc pa)))) ++ (fmc fu ++ (fmc fi ++ [.int .i64 X, .int .i64 Y])) := by simp [csc, rfs]
  have l0 : (cxc c ++ (sqc s ++ ([PV.bool al, .int .i64 q] ++ (mbc m ++ fmc pa)))).length = 554 := by rw [List.length_append, List.length_append, List.length_append, List.length_append, sqc_len s h.a h.b, mbc_lenA m h.l]; rfl
  have e1 : List.take 554 (csc c s al q m pa fu fi X Y) = cxc c ++ (sqc s ++ ([.bool al, .int .i64 q] ++ (mbc m ++ fmc pa))) := by rw [e0, List.take_left' l0]
  have e2 : List.drop 559 (csc c s al q m pa fu fi X Y) = fmc fi ++ [.int .i64 X, .int .i64 Y] := by
    rw [show 559 = 554 + 5 from rfl, ← List.drop_drop, e0, List.drop_left' l0]; rfl
  rw [e1, e2]; simp [csc, rfs]
theorem csc_sm (h : Cok s m) (m' : Mb) : List.take 141 (csc c s al q m pa fu fi X Y) ++ (mbc m' ++ List.drop 549 (csc c s al q m pa fu fi X Y)) = csc c s al q m' pa fu fi X Y := by
  have e1 : List.take 141 (csc c s al q m pa fu fi X Y) = cxc c ++ (sqc s ++ [.bool al, .int .i64 q]) := by rw [csc_2, List.take_left' (len_2 h)]
  have e2 : List.drop 549 (csc c s al q m pa fu fi X Y) = rfs pa fu fi ++ [.int .i64 X, .int .i64 Y] := by rw [csc_3, List.drop_left' (len_3 h)]
  rw [e1, e2, csc_2]
end

set_option maxHeartbeats 1600000 in
set_option maxRecDepth 100000 in
theorem built_ok (c : Cx) (s : Sq) (al : Bool) (q : Int) (m : Mb) (pa fu fi : Fm) (X Y : Int) (h : Cok s m) (H : Heap) :
    CallOk Tryz.prog 14 [.agg (csc c s al q m pa fu fi X Y)] H (.tup [.agg (fmc (recS c s.ia s.ie al q m pa fu fi X Y).1), .int .i64 (recS c s.ia s.ie al q m pa fu fi X Y).2]) H := by
  have sa := fun L => samec_ok c L
  have re := fun L => recon_ok c s al q m pa fu fi X Y L h.l h.a h.b
  have e1 := csc_c (c := c) (s := s) (al := al) (q := q) (m := m) (pa := pa) (fu := fu) (fi := fi) (X := X) (Y := Y)
  have e2 := csc_s (c := c) (al := al) (q := q) (pa := pa) (fu := fu) (fi := fi) (X := X) (Y := Y) h
  have e3 := csc_al (c := c) (al := al) (q := q) (pa := pa) (fu := fu) (fi := fi) (X := X) (Y := Y) h
  have e4 := csc_q (c := c) (al := al) (q := q) (pa := pa) (fu := fu) (fi := fi) (X := X) (Y := Y) h
  have e5 := csc_m (c := c) (al := al) (q := q) (pa := pa) (fu := fu) (fi := fi) (X := X) (Y := Y) h
  have e6 := csc_r (c := c) (al := al) (q := q) (pa := pa) (fu := fu) (fi := fi) (X := X) (Y := Y) h
  have e7 := csc_X (c := c) (al := al) (q := q) (pa := pa) (fu := fu) (fi := fi) (X := X) (Y := Y) h
  have e8 := csc_Y (c := c) (al := al) (q := q) (pa := pa) (fu := fu) (fi := fi) (X := X) (Y := Y) h
  have e9 := csc_len (c := c) (al := al) (q := q) (pa := pa) (fu := fu) (fi := fi) (X := X) (Y := Y) h
  have e0 := csc_cell (c := c) (s := s) (al := al) (q := q) (m := m) (pa := pa) (fu := fu) (fi := fi) (X := X) (Y := Y)
  change ∀ L, CallOk _ _ [_, _, _, _, _, .agg (rfs pa fu fi), _, _] L _ L at re
  generalize csc c s al q m pa fu fi X Y = C at *
  generalize recS c s.ia s.ie al q m pa fu fi X Y = T at re ⊢
  obtain ⟨g, e⟩ := T
  simp only at re ⊢
  have g5 : (fmc g).all PV.cell = true := rfl
  have g7 : (fmc g).length = 5 := rfl
  have g8 : List.take 5 (fmc g) = fmc g := rfl
  have z9 : List.drop 5 [PV.int .i64 0, PV.int .i64 0, PV.slice [] 0 true, PV.slice [] 0 true, PV.slice [] 0 true] = [] := rfl
  refine CallOk.body (F0 := [(0, .agg C)]) Tryz.func14 rfl Tryz.ntmps14 Tryz.results14 rfl (by kernel_rfl) rfl ?_
  (repeat refine PW.seq ?_); refine PW.rg rfl fun K hK => ?_; simp (disch := omega) only [go_sem, ↓reduceIte, reduceCtorEq, pappend, plen, e0]; refine hK _ _ ?_; clear hK K
  (repeat refine PW.seq ?_); refine PW.drawi [H.length + 1] [(2, [0])] [] [6, 21] mix (by kernel_rfl) (by simp <;> omega) fun K hK => ?_
  simp (disch := omega) only [go_sem, ↓reduceIte, reduceCtorEq, pappend, plen, arith, e1, e2, e3, e4, e5, e6, e7, e8, e9]
  refine VCj.read (fun _ _ => sa _) rfl ?_
  simp (disch := omega) only [go_sem, ↓reduceIte, reduceCtorEq, pappend, plen, arith, e1, e2, e3, e4, e5, e6, e7, e8, e9]
  refine VCj.read (fun _ _ => re _) rfl ?_
  simp (disch := omega) only [go_sem, ↓reduceIte, reduceCtorEq, pappend, plen, g5, g7, z9]
  refine hK _ _ ?_; clear hK K
  refine PW.ret ⟨.tup [.agg (fmc g), .int .i64 e], by simp (disch := omega) only [go_sem, ↓reduceIte, reduceCtorEq, pappend, plen, presults, presult, List.mapM_cons, List.mapM_nil, Option.pure_def, Option.bind_eq_bind, Option.bind_some, Array.toList, g7, g8], ?_⟩
  exact Fin.base (.id (fe_scoped _ _ _ _ _ _ _ _ _ _))

end Go.Proofs.YtahomnplappbpaaGreatDoor.Sc

namespace Go.Proofs.YtahomnplappbpaaGreatDoor.Lcs
set_option linter.all false
set_option linter.unusedVariables false
set_option linter.unusedSimpArgs false
open Go.ChangeShapes Go.WideShapes Go.ChangeAt Go.RowKit Pm Sc

theorem own : ownKnob Tryz.prog.godebug = none := by kernel_rfl
theorem laidOut : laidOutB Tryz.prog = true := by kernel_rfl
theorem shp_case {ps : List PV} (h : Shp Tryz.prog 57 ps) : ∃ (c : Cx) (s : Sq) (al : Bool) (q : Int) (m : Mb) (pa fu fi : Fm) (X Y : Int), ps = csc c s al q m pa fu fi X Y ∧ Cok s m := by
  obtain ⟨pss, rfl, hf⟩ := h.fields Tryz.underlying57
  match pss, hf with
  | [a, b, c, d, e, f, g, i], ⟨ha, hb, hc, hd, he, hf, hg, hi, _⟩ =>
    obtain ⟨c0, rfl⟩ := Ln.shp_cx ha
    obtain ⟨s, rfl, hs⟩ := Lp.shp_seq hb
    obtain ⟨al, rfl⟩ := Ln.shp_bool hc
    obtain ⟨q, rfl, _⟩ := Ln.shp_int hd
    obtain ⟨m, rfl, hm⟩ := Lm.shp_mb he
    obtain ⟨pa, fu, fi, rfl⟩ := Ln.shp_refs hf
    obtain ⟨X, rfl, _⟩ := Ln.shp_int hg
    obtain ⟨Y, rfl, _⟩ := Ln.shp_int hi
    exact ⟨c0, s, al, q, m, pa, fu, fi, X, Y, by simp [csc, rfs], ⟨hs.ia, hs.ie, hm.1⟩⟩

end Go.Proofs.YtahomnplappbpaaGreatDoor.Lcs
