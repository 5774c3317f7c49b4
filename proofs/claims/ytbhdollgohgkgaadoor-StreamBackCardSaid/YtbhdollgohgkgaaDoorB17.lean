/-
  Parts of the proof. No condition.
-/
import Derived.Test.YtbhdollgohgkgaaDoorB16
import Derived.Test.YtbhdollgohgkgaaDoorB10
import Derived.Test.YtbhdollgohgkgaaDoorB08
namespace Go.Proofs.YtbhdollgohgkgaaDoor.Sc
set_option linter.all false
set_option linter.unusedVariables false
set_option linter.unusedSimpArgs false
open Pm Ty Go.RowKit

theorem eqM_i (p q : List UInt8) (h : p.length = 64) (h' : q.length = 64) : (if szT Tryd.prog 5 = some 1 ∧ (bs p).length = 64 ∧ (bs q).length = 64 then peqI (.int .u8) (bs p) (bs q) else none) = some (p == q) := by
  rw [← eqU_def]
  exact eqU p q h h'
theorem eqB (p q : List UInt8) (h : p.length = 64) (h' : q.length = 64) : peqI (.int .u8) (bs p) (bs q) = some (p == q) := by
  have := eqM_i p q h h'
  rwa [if_pos ⟨by kernel_rfl, by rw [length_bs]; exact h, by rw [length_bs]; exact h'⟩] at this
theorem two_appU {H K : Heap} {i j : Nat} {A B : Blk} (hi : i < H.length) (hj : j < H.length) : two (H ++ K) i j A B = two H i j A B ++ K := by
  unfold two
  rw [List.set_append_left _ _ hi, List.set_append_left _ _ (by rw [List.length_set]; exact hj)]
theorem two_sc {H : Heap} {i j : Nat} {A B : Blk} (hA : ∀ x ∈ A.cells, Scoped H.length x) (hB : ∀ x ∈ B.cells, Scoped H.length x) (h : HSc H) : HSc (two H i j A B) :=
  HSc.set (HSc.set h hA) (by rw [List.length_set]; exact hB)
theorem wA_sc {n j : Nat} (l : List Bool) (h : j < n) : ∀ x ∈ (wA j l).cells, Scoped n x := fun x hx => by
  simp only [wA, List.mem_cons, List.not_mem_nil, or_false] at hx
  rcases hx with rfl | rfl
  · exact .msl h
  · exact .int _ _
theorem wB_sc (n : Nat) (l : List Bool) : ∀ x ∈ (wB l).cells, Scoped n x := fun x hx => bs_scoped _ _ x hx
theorem two_two' (H : Heap) (i j : Nat) (A B A' B' : Blk) (h : i ≠ j) : two (two H i j A B) i j A' B' = two H i j A' B' := by
  unfold two
  rw [List.set_comm _ _ (Ne.symm h), List.set_set, List.set_set]
theorem scV_at (p : Nat) (h : p < 64) : scV[p]? = some (.int .i64 (sk p : Int)) := by
  unfold scV sk
  rw [List.getElem?_map, List.getD, List.getElem?_eq_getElem (by rw [scn_len]; exact h)]
  rfl

theorem pflag_ok (i j : Nat) (l : List Bool) (b : Bool) (H : Heap) (hA : H[i]? = some (wA j l)) (hB : H[j]? = some (wB l)) (hne : i ≠ j) (hl : l.length ≤ 1000000000) :
    CallOk Tryd.prog 36 [.ptr i 0 0, .bool b] H (.tup []) (two H i j (wA j (l ++ [b])) (wB (l ++ [b]))) := by
  have hv := vbits1 b
  refine CallOk.body (F0 := [(0, .ptr i 0 0), (1, .bool b)]) Tryd.func36 rfl Tryd.ntmps36 Tryd.results36 rfl (by kernel_rfl) rfl ?_
  (repeat refine PW.seq ?_); refine PW.rg rfl fun K hK => ?_; simp (maxSteps := 3000000) (disch := omega) only [go_sem, ↓reduceIte, reduceCtorEq, pappend, plen]; refine hK _ _ ?_; clear hK K; (repeat refine PW.seq ?_); refine PW.rg rfl fun K hK => ?_; simp (maxSteps := 3000000) (disch := omega) only [go_sem, ↓reduceIte, reduceCtorEq, pappend, plen]; refine hK _ _ ?_; clear hK K
  cases b with
  | true =>
    have hp := put_ok i j l 1 1 H hA hB hne (by omega) (by decide) hl
    simp only [if_true] at hv
    rw [hv] at hp
    (repeat refine PW.seq ?_); refine PW.cond (t := _) rfl (fun h => ?_) (fun h => ?_)
    rotate_left
    · cases h
    (repeat refine PW.seq ?_); refine PW.rg rfl fun K hK => ?_; simp (maxSteps := 3000000) (disch := omega) only [go_sem, ↓reduceIte, reduceCtorEq, pappend, plen]; refine hK _ _ ?_; clear hK K
    (repeat refine PW.seq ?_); refine PW.rg rfl fun K hK => ?_; simp (maxSteps := 3000000) (disch := omega) only [go_sem, ↓reduceIte, reduceCtorEq, pappend, plen]; refine VCx.call (hp) rfl ?_; simp (maxSteps := 3000000) (disch := omega) only [go_sem, ↓reduceIte, reduceCtorEq, pappend, plen]; refine hK _ _ ?_; clear hK K
    exact Exists.intro _ (And.intro rfl Fin.now)
  | false =>
    have hp := put_ok i j l 0 1 H hA hB hne (by omega) (by decide) hl
    simp only [Bool.false_eq_true, if_false] at hv
    rw [hv] at hp
    (repeat refine PW.seq ?_); refine PW.cond (t := _) rfl (fun h => ?_) (fun h => ?_)
    · cases h
    refine PW.skip ?_
    (repeat refine PW.seq ?_); refine PW.rg rfl fun K hK => ?_; simp (maxSteps := 3000000) (disch := omega) only [go_sem, ↓reduceIte, reduceCtorEq, pappend, plen]; refine VCx.call (hp) rfl ?_; simp (maxSteps := 3000000) (disch := omega) only [go_sem, ↓reduceIte, reduceCtorEq, pappend, plen]; refine hK _ _ ?_; clear hK K
    exact Exists.intro _ (And.intro rfl Fin.now)

set_option maxHeartbeats 4000000 in
theorem pmat_ok (i j : Nat) (l : List Bool) (m u : List UInt8) (H : Heap) (hA : H[i]? = some (wA j l)) (hB : H[j]? = some (wB l)) (hne : i ≠ j) (hl : l.length ≤ 1000000) (hm : m.length = 64) (hu : u.length = 64) :
    CallOk Tryd.prog 37 [.ptr i 0 0, .agg (bs m), .agg (bs u)] H (.tup []) (two H i j (wA j (l ++ mxb m u)) (wB (l ++ mxb m u))) := by
  have hi := (List.getElem?_eq_some_iff.1 hA).1
  have hj := (List.getElem?_eq_some_iff.1 hB).1
  have e1 := eqB m u hm hu
  have am : (bs m).all PV.cell = true := by simp [bs, PV.cell]
  have au : (bs u).all PV.cell = true := by simp [bs, PV.cell]
  have lm : (bs m).length = 64 := by rw [length_bs]; exact hm
  have lu : (bs u).length = 64 := by rw [length_bs]; exact hu
  have tm : List.take 64 (bs m) = bs m := List.take_of_length_le (by omega)
  have tu : List.take 64 (bs u) = bs u := List.take_of_length_le (by omega)
  have fin : ∀ L K, Fin H (.tup []) (two H i j (wA j L) (wB L)) (.tup []) (two H i j (wA j L) (wB L) ++ K) := fun L K =>
    Fin.cut rfl (by rw [two_len]) (two_sc (wA_sc _ hj) (wB_sc _ _)) (.id (.tup (by simp)))
  refine CallOk.body (F0 := [(0, .ptr i 0 0), (1, .agg (bs m)), (2, .agg (bs u))]) Tryd.func37 rfl Tryd.ntmps37 Tryd.results37 rfl (by kernel_rfl) rfl ?_
  (repeat refine PW.seq ?_); refine PW.rg rfl fun K hK => ?_; simp (maxSteps := 3000000) (disch := omega) only [go_sem, ↓reduceIte, reduceCtorEq, pappend, plen, am, au]; refine hK _ _ ?_; clear hK K
  obtain ⟨K, hK0⟩ : ∃ K : Heap, K = [⟨27, 0, bs m⟩, ⟨27, 0, bs u⟩] := ⟨_, rfl⟩
  have gA : ∀ L, (two H i j (wA j L) (wB L) ++ K)[i]? = some (wA j L) := fun L => by
    rw [List.getElem?_append_left (by rw [two_len]; exact hi)]; exact two_0 _ _ _ _ _ ⟨hi, hne⟩
  have gB : ∀ L, (two H i j (wA j L) (wB L) ++ K)[j]? = some (wB L) := fun L => by
    rw [List.getElem?_append_left (by rw [two_len]; exact hj)]; exact two_1 _ _ _ _ _ hj
  have pf : ∀ L b, L.length ≤ 1000000000 → CallOk Tryd.prog 36 [.ptr i 0 0, .bool b] (two H i j (wA j L) (wB L) ++ K) (.tup []) (two H i j (wA j (L ++ [b])) (wB (L ++ [b])) ++ K) := fun L b hL => by
    have := pflag_ok i j L b _ (gA L) (gB L) hne hL
    rw [two_appU (by rw [two_len]; exact hi) (by rw [two_len]; exact hj), two_two' _ _ _ _ _ _ _ hne] at this
    exact this
  have pt : ∀ (L : List Bool) (V n : Nat), n ≤ 32 → V / 2 ^ n = 0 → L.length ≤ 1000000000 → CallOk Tryd.prog 35 [.ptr i 0 0, .int .u32 (V : Int), .int .i64 (n : Int)] (two H i j (wA j L) (wB L) ++ K) (.int .i64 0) (two H i j (wA j (L ++ vbits V n)) (wB (L ++ vbits V n)) ++ K) := fun L V n hn hV hL => by
    have := put_ok i j L V n _ (gA L) (gB L) hne hn hV hL
    rw [two_appU (by rw [two_len]; exact hi) (by rw [two_len]; exact hj), two_two' _ _ _ _ _ _ _ hne] at this
    exact this
  have g4 : ∀ L, (two H i j (wA j L) (wB L) ++ K)[H.length]? = some ⟨27, 0, bs m⟩ := fun L => by
    rw [List.getElem?_append_right (by rw [two_len]; omega), two_len, Nat.sub_self, hK0]; rfl
  have g5 : ∀ L, (two H i j (wA j L) (wB L) ++ K)[H.length + 1]? = some ⟨27, 0, bs u⟩ := fun L => by
    rw [List.getElem?_append_right (by rw [two_len]; omega), two_len, show H.length + 1 - H.length = 1 by omega, hK0]; rfl
  refine PW.at [0, 4, 5] (F1 := [(0, .ptr i 0 0), (4, .ptr H.length 0 0), (5, .ptr (H.length + 1) 0 0)]) (H1 := two H i j (wA j l) (wB l) ++ K) ?_ rfl (by rw [two_self hA hB, hK0])
  have p1 := pf l (!(m == u)) (by omega)
  (repeat refine PW.seq ?_); refine PW.rg rfl fun K hK => ?_; simp (maxSteps := 3000000) (disch := omega) only [go_sem, ↓reduceIte, reduceCtorEq, pappend, plen, g4, g5, lm, lu, tm, tu, e1]
  refine VCx.call (p1) rfl ?_; simp (maxSteps := 3000000) (disch := omega) only [go_sem, ↓reduceIte, reduceCtorEq, pappend, plen]; refine hK _ _ ?_; clear hK K
  (repeat refine PW.seq ?_); refine PW.rg rfl fun K hK => ?_; simp (maxSteps := 3000000) (disch := omega) only [go_sem, ↓reduceIte, reduceCtorEq, pappend, plen, g4, g5, lm, lu, tm, tu, e1]; refine hK _ _ ?_; clear hK K
  have bg : ∀ p, p < 64 → (bs m)[sk p]? = some (.int .u8 ((m.getD (sk p) 0).toNat : Int)) := fun p hp => by
    rw [bs_get _ _ (by rw [hm]; exact sk_lt p hp)]; rfl
  cases he : (m == u) with
  | true =>
    have hmu : mxb m u = [!(m == u)] := by unfold mxb; rw [if_pos (by simpa using he), he]; rfl
    (repeat refine PW.seq ?_); refine PW.cond (t := _) rfl (fun h => ?_) (fun h => ?_)
    rotate_left
    · cases h
    refine PW.ret ⟨_, rfl, ?_⟩
    rw [hmu, he]
    exact fin _ K
  | false =>
    have hmu : mxb m u = true :: mxe m 64 := by unfold mxb; rw [if_neg (by simpa using he)]
    (repeat refine PW.seq ?_); refine PW.cond (t := _) rfl (fun h => ?_) (fun h => ?_)
    · cases h
    refine PW.skip ?_
    (repeat refine PW.seq ?_); refine PW.rg rfl fun K hK => ?_; simp (maxSteps := 3000000) (disch := omega) only [go_sem, ↓reduceIte, reduceCtorEq, pappend, plen]; refine VCx.call (scan_ok _) rfl ?_; simp (maxSteps := 3000000) (disch := omega) only [go_sem, ↓reduceIte, reduceCtorEq, pappend, plen]; refine hK _ _ ?_; clear hK K
    (repeat refine PW.seq ?_); refine PW.block (PW.loop ?_)
    suffices hloop : ∀ k : Nat, k ≤ 64 → PL Tryd.prog _ _ [(0, .ptr i 0 0), (4, .ptr H.length 0 0), (16, .agg scV), (17, .int .i64 (k : Int))] (two H i j (wA j (l ++ (true :: mxe m k))) (wB (l ++ (true :: mxe m k))) ++ K) _ by
      exact PL.at [0, 4, 16, 17] (hloop 0 (by omega)) rfl rfl
    have sl : scV.length = 64 := rfl
    clear p1 pf e1
    intro k hk
    induction hd : 64 - k using Nat.strongRecOn generalizing k with
    | _ n ih =>
      refine PL.round ?_; (repeat refine PW.seq ?_); refine PW.rg rfl fun K hK => ?_; simp (maxSteps := 3000000) (disch := omega) only [go_sem, ↓reduceIte, reduceCtorEq, pappend, plen]; refine hK _ _ ?_; clear hK K
      (repeat refine PW.seq ?_); refine PW.cond (t := _) rfl (fun h => ?_) (fun h => ?_)
      · have h4 : k < 64 := by have := of_decide_eq_true h; omega
        have s1 := scV_at k h4
        have b1 := bg k h4
        have b2 := sk_lt k h4
        have hv : (m.getD (sk k) 0).toNat < 256 := UInt8.toNat_lt _
        have p1 := pt (l ++ (true :: mxe m k)) (m.getD (sk k) 0).toNat 8 (by omega) (Nat.div_eq_of_lt hv) (by rw [List.length_append, List.length_cons, mxe_len]; omega)
        have hnext := ih (64 - (k + 1)) (by omega) (k + 1) (by omega) rfl
        rw [mxe, show l ++ true :: (mxe m k ++ vbits (m.getD (sk k) 0).toNat 8) = l ++ (true :: mxe m k) ++ vbits (m.getD (sk k) 0).toNat 8 by simp] at hnext
        have g6 := g4 (l ++ (true :: mxe m k))
        generalize (m.getD (sk k) 0).toNat = V at *
        generalize l ++ (true :: mxe m k) = L at *
        generalize sk k = q at *
        generalize l ++ true :: mxe m 64 = L2 at *
        refine PW.skip ?_; (repeat refine PW.seq ?_); refine PW.block ?_
        (repeat refine PW.seq ?_); refine PW.rg rfl fun K hK => ?_; simp (maxSteps := 3000000) (disch := omega) only [go_sem, ↓reduceIte, reduceCtorEq, pappend, plen, s1, sl]; refine hK _ _ ?_; clear hK K
        (repeat refine PW.seq ?_); refine PW.rg rfl fun K hK => ?_; simp (maxSteps := 3000000) (disch := omega) only [go_sem, ↓reduceIte, reduceCtorEq, pappend, plen, g6, lm, b1]; refine VCx.call (p1) rfl ?_; simp (maxSteps := 3000000) (disch := omega) only [go_sem, ↓reduceIte, reduceCtorEq, pappend, plen]; refine hK _ _ ?_; clear hK K
        (repeat refine PW.seq ?_); refine PW.rg rfl fun K hK => ?_; simp (maxSteps := 3000000) (disch := omega) only [go_sem, ↓reduceIte, reduceCtorEq, pappend, plen]; refine hK _ _ ?_; clear hK K
        exact PL.at [0, 4, 16, 17] hnext rfl rfl
      · have h4 : k = 64 := by have := of_decide_eq_false h; omega
        subst h4
        refine PW.exit ?_
        refine Exists.intro _ (And.intro rfl ?_)
        rw [hmu]
        exact fin _ K

end Go.Proofs.YtbhdollgohgkgaaDoor.Sc

namespace Go.Proofs.YtbhdollgohgkgaaDoor.Sc
set_option linter.all false
set_option linter.unusedVariables false
set_option linter.unusedSimpArgs false
open Pm Ty Go.RowKit

theorem sqc_cell' (s : Sq) : (sqc s).all PV.cell = true := by
  simp [sqc, bs, PV.cell]
theorem vseq_f {s : Sq} (h : vseq s = true) : (16 ≤ s.w ∧ s.w ≤ 64) ∧ (16 ≤ s.h ∧ s.h ≤ 64) ∧ (1 ≤ s.num ∧ s.num ≤ 1048576) ∧ (1 ≤ s.den ∧ s.den ≤ 65536) ∧ (1 ≤ s.br ∧ s.br ≤ 16777216) ∧ (1 ≤ s.bf ∧ s.bf ≤ 8388608) := by
  have h0 := vseq_h h
  simp only [vseq, vrt, vbr, Bool.and_eq_true, decide_eq_true_eq] at h
  obtain ⟨_, ⟨⟨⟨h1, h2⟩, h3⟩, h4⟩, ⟨⟨⟨h5, h6⟩, h7⟩, h8⟩, _⟩ := h
  have := ratOk_pos h1
  omega
/-- What PutSeq has in memory. -/
def sHU (H : Heap) (s : Sq) (L : List Bool) : Heap := H ++ [⟨29, 0, sqc s⟩, ⟨50, 0, [.int .i64 0, .slice [] 0 true]⟩, wA (H.length + 3) L, wB L]
theorem two_sH (H : Heap) (s : Sq) (L M : List Bool) : two (sHU H s L) (H.length + 2) (H.length + 3) (wA (H.length + 3) M) (wB M) = sHU H s M := by
  unfold two sHU
  simp only [aps, List.set_cons_succ, List.set_cons_zero]
theorem sH_0 (H : Heap) (s : Sq) (L : List Bool) : (sHU H s L)[H.length]? = some ⟨29, 0, sqc s⟩ := hp0 _ _ _
theorem sH_1 (H : Heap) (s : Sq) (L : List Bool) : (sHU H s L)[H.length + 1]? = some ⟨50, 0, [.int .i64 0, .slice [] 0 true]⟩ := hp1 _ _ _ _
theorem sH_2 (H : Heap) (s : Sq) (L : List Bool) : (sHU H s L)[H.length + 2]? = some (wA (H.length + 3) L) := hp2 _ _ _ _ _
theorem sH_3 (H : Heap) (s : Sq) (L : List Bool) : (sHU H s L)[H.length + 3]? = some (wB L) := hp3 _ _ _ _ _ _
theorem sH_l (H : Heap) (s : Sq) (L : List Bool) : (sHU H s L).length = H.length + 4 := by simp [sHU]

set_option maxHeartbeats 4000000 in
theorem puts_ok (s : Sq) (H : Heap) (hs : SqOk s) : CallOk Tryd.prog 18 [.agg (sqc s)] H (.tup [uv (putS s).1 (putS s).2.1, .int .i64 (putS s).2.2]) H := by
  have hvo := fun K => vseq_ok s K hs
  have hcl := sqc_cell' s
  have hln : (bs s.ia ++ bs s.ie).length = 128 := by simp [length_bs, hs.ia, hs.ie]
  have htk := sq_all s.ia s.ie hs.ia hs.ie
  have tia := sq_ia s.ia s.ie hs.ia
  have tie := sq_ie s.ia s.ie hs.ia
  have tk := sq_tk s.ie hs.ie
  have lia : (bs s.ia).length = 64 := by rw [length_bs]; exact hs.ia
  have lie : (bs s.ie).length = 64 := by rw [length_bs]; exact hs.ie
  generalize hr : putS s = r
  unfold putS at hr
  refine CallOk.body (F0 := [(0, .agg (sqc s))]) Tryd.func18 rfl Tryd.ntmps18 Tryd.results18 rfl (by kernel_rfl) rfl ?_
  (repeat refine PW.seq ?_); refine PW.rg rfl fun K hK => ?_; simp (maxSteps := 3000000) (disch := omega) only [go_sem, ↓reduceIte, reduceCtorEq, pappend, plen, hcl]; refine hK _ _ ?_; clear hK K
  cases hv : vseq s with
  | false =>
    rw [hv, if_neg (by decide)] at hr
    rw [hv] at hvo
    (repeat refine PW.seq ?_); refine PW.rg rfl fun K hK => ?_; simp (maxSteps := 3000000) (disch := omega) only [go_sem, ↓reduceIte, reduceCtorEq, pappend, plen, sqc, hln, htk]
    refine VCx.call (hvo _) rfl ?_; simp (maxSteps := 3000000) (disch := omega) only [go_sem, ↓reduceIte, reduceCtorEq, pappend, plen]; refine hK _ _ ?_; clear hK K
    (repeat refine PW.seq ?_); refine PW.cond (t := _) rfl (fun h => ?_) (fun h => ?_)
    rotate_left
    · cases h
    (repeat refine PW.seq ?_); refine PW.rg rfl fun K hK => ?_; simp (maxSteps := 3000000) (disch := omega) only [go_sem, ↓reduceIte, reduceCtorEq, pappend, plen]; refine hK _ _ ?_; clear hK K
    refine PW.ret ⟨.tup [.agg [.int .i64 0, .slice [] 0 true], .int .i64 1], by simp (maxSteps := 3000000) (disch := omega) only [go_sem, ↓reduceIte, reduceCtorEq, pappend, plen, presults, presult, List.mapM_cons, List.mapM_nil, Option.pure_def, Option.bind_eq_bind, Option.bind_some, Array.toList], ?_⟩
    rw [← hr]
    exact Fin.base (Fz.tupC ⟨Fz.aggC ⟨.id (.int _ _), .slice rfl (fun j x y hx => by simp at hx) (fun e => by cases e), trivial⟩, .id (.int _ _), trivial⟩)
  | true =>
    rw [hv, if_pos rfl] at hr
    rw [hv] at hvo
    obtain ⟨v1, v2, v3, v4, v5, v6⟩ := vseq_f hv
    (repeat refine PW.seq ?_); refine PW.rg rfl fun K hK => ?_; simp (maxSteps := 3000000) (disch := omega) only [go_sem, ↓reduceIte, reduceCtorEq, pappend, plen, sqc, hln, htk]
    refine VCx.call (hvo _) rfl ?_; simp (maxSteps := 3000000) (disch := omega) only [go_sem, ↓reduceIte, reduceCtorEq, pappend, plen]; refine hK _ _ ?_; clear hK K
    (repeat refine PW.seq ?_); refine PW.cond (t := _) rfl (fun h => ?_) (fun h => ?_)
    · cases h
    refine PW.skip ?_
    (repeat refine PW.seq ?_); refine PW.rg rfl fun K hK => ?_; simp (maxSteps := 3000000) (disch := omega) only [go_sem, ↓reduceIte, reduceCtorEq, pappend, plen]; refine VCx.call (neww_ok _) rfl ?_; simp (maxSteps := 3000000) (disch := omega) only [go_sem, ↓reduceIte, reduceCtorEq, pappend, plen]; refine hK _ _ ?_; clear hK K
    refine PW.view (Vs.ghostH (id := H.length + 2) (j := 0) 5 1 (hp2 _ _ _ _ _) rfl) ?_
    refine PW.at [1, 2, 4] (F1 := [(1, .ptr H.length 0 0), (2, .ptr (H.length + 1) 0 0), (4, .ptr (H.length + 2) 0 0)]) (H1 := sHU H s []) ?_ rfl (by unfold sHU; rw [wA0, wB0]; simp [hs2, sqc])
    have hw : s.w.tdiv 16 = ((s.w / 16).toNat : Int) := by rw [tdiv_pos _ _ (by omega)]; omega
    have hh : s.h.tdiv 16 = ((s.h / 16).toNat : Int) := by rw [tdiv_pos _ _ (by omega)]; omega
    have hwb : (s.w / 16).toNat ≤ 4 := by omega
    have hhb : (s.h / 16).toNat ≤ 4 := by omega
    have en : s.num = (s.num.toNat : Int) := by omega
    have ed : s.den = (s.den.toNat : Int) := by omega
    have er : s.br = (s.br.toNat : Int) := by omega
    have ef : s.bf = (s.bf.toNat : Int) := by omega
    have p1 : ∀ (L : List Bool) (V n : Nat), n ≤ 32 → V < 2 ^ n → L.length ≤ 1000000 → CallOk Tryd.prog 35 [.ptr (H.length + 2) 0 0, .int .u32 (V : Int), .int .i64 (n : Int)] (sHU H s L) (.int .i64 0) (sHU H s (L ++ vbits V n)) := fun L V n hn hV hL => by
      have := put_ok (H.length + 2) (H.length + 3) L V n (sHU H s L) (sH_2 H s L) (sH_3 H s L) (by omega) hn (Nat.div_eq_of_lt hV) (by omega)
      rwa [two_sH] at this
    have p2 : ∀ (L : List Bool) (b : Bool), L.length ≤ 1000000 → CallOk Tryd.prog 36 [.ptr (H.length + 2) 0 0, .bool b] (sHU H s L) (.tup []) (sHU H s (L ++ [b])) := fun L b hL => by
      have := pflag_ok (H.length + 2) (H.length + 3) L b (sHU H s L) (sH_2 H s L) (sH_3 H s L) (by omega) (by omega)
      rwa [two_sH] at this
    have p3 : ∀ (L : List Bool) (m u : List UInt8), m.length = 64 → u.length = 64 → L.length ≤ 100000 → ∀ (K : Heap), K[H.length + 2]? = some (wA (H.length + 3) L) → K[H.length + 3]? = some (wB L) → CallOk Tryd.prog 37 [.ptr (H.length + 2) 0 0, .agg (bs m), .agg (bs u)] K (.tup []) (two K (H.length + 2) (H.length + 3) (wA (H.length + 3) (L ++ mxb m u)) (wB (L ++ mxb m u))) := fun L m u hm hu hL K k1 k2 =>
      pmat_ok (H.length + 2) (H.length + 3) L m u K k1 k2 (by omega) (by omega) hm hu
    have p4 : ∀ (L : List Bool), L.length ≤ 1000000 → CallOk Tryd.prog 40 [.ptr (H.length + 2) 0 0] (sHU H s L) (.slice (bs (pk (L ++ [true]))) (pk (L ++ [true])).length false) (sHU H s L) := fun L hL => payload_ok (H.length + 2) (H.length + 3) L (sHU H s L) (sH_2 H s L) (sH_3 H s L) (by omega)
    have q1 := p1 [] (s.w / 16).toNat 8 (by omega) (by omega) (by simp)
    (repeat refine PW.seq ?_); refine PW.rg rfl fun K hK => ?_; simp (maxSteps := 3000000) (disch := omega) only [go_sem, ↓reduceIte, reduceCtorEq, pappend, plen, sH_0, sqc, hw]; refine VCx.call (q1) rfl ?_; simp (maxSteps := 3000000) (disch := omega) only [go_sem, ↓reduceIte, reduceCtorEq, pappend, plen]; refine hK _ _ ?_; clear hK K
    obtain ⟨L1, h1⟩ : ∃ L, L = vbits (s.w / 16).toNat 8 := ⟨_, rfl⟩
    have n1 : L1.length = 8 := by rw [h1]; simp [vbits_len]
    rw [← h1]
    have q2 := p1 L1 (s.h / 16).toNat 8 (by omega) (by omega) (by omega)
    (repeat refine PW.seq ?_); refine PW.rg rfl fun K hK => ?_; simp (maxSteps := 3000000) (disch := omega) only [go_sem, ↓reduceIte, reduceCtorEq, pappend, plen, sH_0, sqc, hh]; refine VCx.call (q2) rfl ?_; simp (maxSteps := 3000000) (disch := omega) only [go_sem, ↓reduceIte, reduceCtorEq, pappend, plen]; refine hK _ _ ?_; clear hK K
    obtain ⟨L2, h2⟩ : ∃ L, L = L1 ++ vbits (s.h / 16).toNat 8 := ⟨_, rfl⟩
    have n2 : L2.length = 16 := by rw [h2]; simp [vbits_len, n1]
    rw [← h2]
    have q3 := p1 L2 s.num.toNat 32 (by omega) (by omega) (by omega)
    rw [← en] at q3
    (repeat refine PW.seq ?_); refine PW.rg rfl fun K hK => ?_; simp (maxSteps := 3000000) (disch := omega) only [go_sem, ↓reduceIte, reduceCtorEq, pappend, plen, sH_0, sqc]; refine VCx.call (q3) rfl ?_; simp (maxSteps := 3000000) (disch := omega) only [go_sem, ↓reduceIte, reduceCtorEq, pappend, plen]; refine hK _ _ ?_; clear hK K
    obtain ⟨L3, h3⟩ : ∃ L, L = L2 ++ vbits s.num.toNat 32 := ⟨_, rfl⟩
    have n3 : L3.length = 48 := by rw [h3]; simp [vbits_len, n2]
    rw [← h3]
    have q4 := p1 L3 s.den.toNat 32 (by omega) (by omega) (by omega)
    rw [← ed] at q4
    (repeat refine PW.seq ?_); refine PW.rg rfl fun K hK => ?_; simp (maxSteps := 3000000) (disch := omega) only [go_sem, ↓reduceIte, reduceCtorEq, pappend, plen, sH_0, sqc]; refine VCx.call (q4) rfl ?_; simp (maxSteps := 3000000) (disch := omega) only [go_sem, ↓reduceIte, reduceCtorEq, pappend, plen]; refine hK _ _ ?_; clear hK K
    obtain ⟨L4, h4⟩ : ∃ L, L = L3 ++ vbits s.den.toNat 32 := ⟨_, rfl⟩
    have n4 : L4.length = 80 := by rw [h4]; simp [vbits_len, n3]
    rw [← h4]
    have q5 := p2 L4 s.il (by omega)
    (repeat refine PW.seq ?_); refine PW.rg rfl fun K hK => ?_; simp (maxSteps := 3000000) (disch := omega) only [go_sem, ↓reduceIte, reduceCtorEq, pappend, plen, sH_0, sqc]; refine VCx.call (q5) rfl ?_; simp (maxSteps := 3000000) (disch := omega) only [go_sem, ↓reduceIte, reduceCtorEq, pappend, plen]; refine hK _ _ ?_; clear hK K
    obtain ⟨L5, h5⟩ : ∃ L, L = L4 ++ [s.il] := ⟨_, rfl⟩
    have n5 : L5.length = 81 := by rw [h5]; simp [n4]
    rw [← h5]
    have q6 := p1 L5 s.br.toNat 32 (by omega) (by omega) (by omega)
    rw [← er] at q6
    (repeat refine PW.seq ?_); refine PW.rg rfl fun K hK => ?_; simp (maxSteps := 3000000) (disch := omega) only [go_sem, ↓reduceIte, reduceCtorEq, pappend, plen, sH_0, sqc]; refine VCx.call (q6) rfl ?_; simp (maxSteps := 3000000) (disch := omega) only [go_sem, ↓reduceIte, reduceCtorEq, pappend, plen]; refine hK _ _ ?_; clear hK K
    obtain ⟨L6, h6⟩ : ∃ L, L = L5 ++ vbits s.br.toNat 32 := ⟨_, rfl⟩
    have n6 : L6.length = 113 := by rw [h6]; simp [vbits_len, n5]
    rw [← h6]
    have q7 := p1 L6 s.bf.toNat 32 (by omega) (by omega) (by omega)
    rw [← ef] at q7
    (repeat refine PW.seq ?_); refine PW.rg rfl fun K hK => ?_; simp (maxSteps := 3000000) (disch := omega) only [go_sem, ↓reduceIte, reduceCtorEq, pappend, plen, sH_0, sqc]; refine VCx.call (q7) rfl ?_; simp (maxSteps := 3000000) (disch := omega) only [go_sem, ↓reduceIte, reduceCtorEq, pappend, plen]; refine hK _ _ ?_; clear hK K
    obtain ⟨L7, h7⟩ : ∃ L, L = L6 ++ vbits s.bf.toNat 32 := ⟨_, rfl⟩
    have n7 : L7.length = 145 := by rw [h7]; simp [vbits_len, n6]
    rw [← h7]
    clear q1 q2 q3 q4 q5 q6 q7 p1 p2
    have x8 := mxb_len s.ia dIn
    have x9 := mxb_len s.ie dIt
    (repeat refine PW.seq ?_); refine PW.drawi [H.length + 2, H.length + 3] [(4, [0, 1]), (48, [0, 1])] [] [51] mix (by kernel_rfl) (by simp <;> omega) fun K hK => ?_
    simp (maxSteps := 3000000) (disch := omega) only [go_sem, ↓reduceIte, reduceCtorEq, pappend, plen, sH_0, sqc, tia, List.length_append, lia, lie]
    refine VCj.read (fun _ _ => din_ok _) rfl ?_; simp (maxSteps := 3000000) (disch := omega) only [go_sem, ↓reduceIte, reduceCtorEq, pappend, plen]
    refine VCj.wrT (i := H.length + 2) (j := H.length + 3) (sH_2 H s L7) (sH_3 H s L7) (by omega) (p3 L7 s.ia dIn hs.ia dIn_len (by omega)) (by simp (maxSteps := 3000000) (disch := omega) only [go_sem, ↓reduceIte, reduceCtorEq, pappend, plen]) (by simp (maxSteps := 3000000) (disch := omega) only [go_sem, ↓reduceIte, reduceCtorEq, pappend, plen]) (by simp (maxSteps := 3000000) (disch := omega) only [go_sem, ↓reduceIte, reduceCtorEq, pappend, plen]) (by simp (maxSteps := 3000000) (disch := omega) only [go_sem, ↓reduceIte, reduceCtorEq, pappend, plen]) rfl ?_
    simp (maxSteps := 3000000) (disch := omega) only [go_sem, ↓reduceIte, reduceCtorEq, pappend, plen, two_sH]; refine hK _ _ ?_; clear hK K
    obtain ⟨L8, h8⟩ : ∃ L, L = L7 ++ mxb s.ia dIn := ⟨_, rfl⟩
    have n8 : L8.length ≤ 145 + 513 := by rw [h8, List.length_append]; omega
    rw [← h8]
    (repeat refine PW.seq ?_); refine PW.drawi [H.length + 2, H.length + 3] [(4, [0, 1]), (53, [0, 1])] [] [56] mix (by kernel_rfl) (by simp <;> omega) fun K hK => ?_
    simp (maxSteps := 3000000) (disch := omega) only [go_sem, ↓reduceIte, reduceCtorEq, pappend, plen, sH_0, sqc, tie, tk, List.length_append, lia, lie]
    refine VCj.read (fun _ _ => dit_ok _) rfl ?_; simp (maxSteps := 3000000) (disch := omega) only [go_sem, ↓reduceIte, reduceCtorEq, pappend, plen]
    refine VCj.wrT (i := H.length + 2) (j := H.length + 3) (sH_2 H s L8) (sH_3 H s L8) (by omega) (p3 L8 s.ie dIt hs.ie dIt_len (by omega)) (by simp (maxSteps := 3000000) (disch := omega) only [go_sem, ↓reduceIte, reduceCtorEq, pappend, plen]) (by simp (maxSteps := 3000000) (disch := omega) only [go_sem, ↓reduceIte, reduceCtorEq, pappend, plen]) (by simp (maxSteps := 3000000) (disch := omega) only [go_sem, ↓reduceIte, reduceCtorEq, pappend, plen]) (by simp (maxSteps := 3000000) (disch := omega) only [go_sem, ↓reduceIte, reduceCtorEq, pappend, plen]) rfl ?_
    simp (maxSteps := 3000000) (disch := omega) only [go_sem, ↓reduceIte, reduceCtorEq, pappend, plen, two_sH]; refine hK _ _ ?_; clear hK K
    obtain ⟨L9, h9⟩ : ∃ L, L = L8 ++ mxb s.ie dIt := ⟨_, rfl⟩
    have n9 : L9.length ≤ 145 + 513 + 513 := by rw [h9, List.length_append]; omega
    rw [← h9]
    have hL : sbits s = L9 := by rw [h9, h8, h7, h6, h5, h4, h3, h2, h1]; simp [sbits]
    have q9 := p4 L9 (by omega)
    (repeat refine PW.seq ?_); refine PW.rg rfl fun K hK => ?_; simp (maxSteps := 3000000) (disch := omega) only [go_sem, ↓reduceIte, reduceCtorEq, pappend, plen]; refine VCx.call (q9) rfl ?_; simp (maxSteps := 3000000) (disch := omega) only [go_sem, ↓reduceIte, reduceCtorEq, pappend, plen, sH_1, sH_l]
    refine hK _ _ ?_; clear hK K
    generalize hP : pk (L9 ++ [true]) = P at *
    have hE : (sHU H s L9).set (H.length + 1) ⟨50, 0, [.int .i64 179, .slice (bs P) P.length false]⟩ = H ++ [⟨29, 0, sqc s⟩, ⟨50, 0, [.int .i64 179, .slice (bs P) P.length false]⟩, wA (H.length + 3) L9, wB L9] := hs1 _ _ _ _ _
    refine PW.eq rfl hE ?_
    refine PW.ret ⟨.tup [.agg [.int .i64 179, .slice (bs P) P.length false], .int .i64 0], by simp (maxSteps := 3000000) (disch := omega) only [go_sem, ↓reduceIte, reduceCtorEq, pappend, plen, presults, presult, List.mapM_cons, List.mapM_nil, Option.pure_def, Option.bind_eq_bind, Option.bind_some, Array.toList], ?_⟩
    rw [← hr, hL, hP]
    exact Fin.base (.id (uve_scoped _ _ _ _))

/-- What PutGroup has in memory. -/
def gH (H : Heap) (X : List PV) (L : List Bool) : Heap := H ++ [⟨31, 0, X⟩, ⟨50, 0, [.int .i64 0, .slice [] 0 true]⟩, wA (H.length + 3) L, wB L]
theorem two_gH (H : Heap) (X : List PV) (L M : List Bool) : two (gH H X L) (H.length + 2) (H.length + 3) (wA (H.length + 3) M) (wB M) = gH H X M := by
  unfold two gH
  simp only [aps, List.set_cons_succ, List.set_cons_zero]
theorem gH_0 (H : Heap) (X : List PV) (L : List Bool) : (gH H X L)[H.length]? = some ⟨31, 0, X⟩ := hp0 _ _ _
theorem gH_1 (H : Heap) (X : List PV) (L : List Bool) : (gH H X L)[H.length + 1]? = some ⟨50, 0, [.int .i64 0, .slice [] 0 true]⟩ := hp1 _ _ _ _
theorem gH_2 (H : Heap) (X : List PV) (L : List Bool) : (gH H X L)[H.length + 2]? = some (wA (H.length + 3) L) := hp2 _ _ _ _ _
theorem gH_3 (H : Heap) (X : List PV) (L : List Bool) : (gH H X L)[H.length + 3]? = some (wB L) := hp3 _ _ _ _ _ _

set_option maxHeartbeats 4000000 in
theorem putg_ok (c b : Bool) (t : Int) (H : Heap) (ht : i64r t) : CallOk Tryd.prog 19 [.agg [.bool c, .bool b, .int .i64 t]] H (.tup [uv (putG c b t).1 (putG c b t).2.1, .int .i64 (putG c b t).2.2]) H := by
  generalize hr : putG c b t = r
  unfold putG at hr
  refine CallOk.body (F0 := [(0, .agg [.bool c, .bool b, .int .i64 t])]) Tryd.func19 rfl Tryd.ntmps19 Tryd.results19 rfl (by kernel_rfl) rfl ?_
  (repeat refine PW.seq ?_); refine PW.rg rfl fun K hK => ?_; simp (maxSteps := 3000000) (disch := omega) only [go_sem, ↓reduceIte, reduceCtorEq, pappend, plen]; refine hK _ _ ?_; clear hK K
  by_cases hc : 0 ≤ t ∧ t < 16777216
  rotate_left
  · rw [if_neg hc] at hr
    suffices hrest : PW Tryd.prog _ _ [(1, .ptr H.length 0 0), (2, .ptr (H.length + 1) 0 0), (12, .bool true)] (H ++ [⟨31, 0, [.bool c, .bool b, .int .i64 t]⟩, ⟨50, 0, [.int .i64 0, .slice [] 0 true]⟩]) _ by
      by_cases h0 : t < 0
      · have d0 : decide (t < 0) = true := decide_eq_true h0
        (repeat refine PW.seq ?_); refine PW.rg rfl fun K hK => ?_; simp (maxSteps := 3000000) (disch := omega) only [go_sem, ↓reduceIte, reduceCtorEq, pappend, plen, d0]; refine hK _ _ ?_; clear hK K
        exact PW.at [1, 2, 12] hrest rfl rfl
      · have d0 : decide (t < 0) = false := decide_eq_false h0
        have d1 : decide (16777216 ≤ t) = true := decide_eq_true (by omega)
        (repeat refine PW.seq ?_); refine PW.rg rfl fun K hK => ?_; simp (maxSteps := 3000000) (disch := omega) only [go_sem, ↓reduceIte, reduceCtorEq, pappend, plen, d0, d1]; refine hK _ _ ?_; clear hK K
        exact PW.at [1, 2, 12] hrest rfl rfl
    (repeat refine PW.seq ?_); refine PW.cond (t := _) rfl (fun h => ?_) (fun h => ?_)
    rotate_left
    · cases h
    (repeat refine PW.seq ?_); refine PW.rg rfl fun K hK => ?_; simp (maxSteps := 3000000) (disch := omega) only [go_sem, ↓reduceIte, reduceCtorEq, pappend, plen]; refine hK _ _ ?_; clear hK K
    refine PW.ret ⟨.tup [.agg [.int .i64 0, .slice [] 0 true], .int .i64 1], by simp (maxSteps := 3000000) (disch := omega) only [go_sem, ↓reduceIte, reduceCtorEq, pappend, plen, presults, presult, List.mapM_cons, List.mapM_nil, Option.pure_def, Option.bind_eq_bind, Option.bind_some, Array.toList], ?_⟩
    rw [← hr]
    exact Fin.base (Fz.tupC ⟨Fz.aggC ⟨.id (.int _ _), .slice rfl (fun j x y hx => by simp at hx) (fun e => by cases e), trivial⟩, .id (.int _ _), trivial⟩)
  rw [if_pos hc] at hr
  have d0 : decide (t < 0) = false := decide_eq_false (by omega)
  have d1 : decide (16777216 ≤ t) = false := decide_eq_false (by omega)
  (repeat refine PW.seq ?_); refine PW.rg rfl fun K hK => ?_; simp (maxSteps := 3000000) (disch := omega) only [go_sem, ↓reduceIte, reduceCtorEq, pappend, plen, d0, d1]; refine hK _ _ ?_; clear hK K
  (repeat refine PW.seq ?_); refine PW.cond (t := _) rfl (fun h => ?_) (fun h => ?_)
  · cases h
  refine PW.skip ?_
  (repeat refine PW.seq ?_); refine PW.rg rfl fun K hK => ?_; simp (maxSteps := 3000000) (disch := omega) only [go_sem, ↓reduceIte, reduceCtorEq, pappend, plen]; refine VCx.call (neww_ok _) rfl ?_; simp (maxSteps := 3000000) (disch := omega) only [go_sem, ↓reduceIte, reduceCtorEq, pappend, plen]; refine hK _ _ ?_; clear hK K
  refine PW.view (Vs.ghostH (id := H.length + 2) (j := 0) 5 1 (hp2 _ _ _ _ _) rfl) ?_
  obtain ⟨X, hX⟩ : ∃ X, X = [PV.bool c, .bool b, .int .i64 t] := ⟨_, rfl⟩
  refine PW.at [1, 2, 4] (F1 := [(1, .ptr H.length 0 0), (2, .ptr (H.length + 1) 0 0), (4, .ptr (H.length + 2) 0 0)]) (H1 := gH H X []) ?_ rfl (by unfold gH; rw [wA0, wB0, hX]; simp [hs2])
  have p1 : ∀ (L : List Bool) (V n : Nat), n ≤ 32 → V < 2 ^ n → L.length ≤ 1000000 → CallOk Tryd.prog 35 [.ptr (H.length + 2) 0 0, .int .u32 (V : Int), .int .i64 (n : Int)] (gH H X L) (.int .i64 0) (gH H X (L ++ vbits V n)) := fun L V n hn hV hL => by
    have := put_ok (H.length + 2) (H.length + 3) L V n (gH H X L) (gH_2 H X L) (gH_3 H X L) (by omega) hn (Nat.div_eq_of_lt hV) (by omega)
    rwa [two_gH] at this
  have p2 : ∀ (L : List Bool) (b : Bool), L.length ≤ 1000000 → CallOk Tryd.prog 36 [.ptr (H.length + 2) 0 0, .bool b] (gH H X L) (.tup []) (gH H X (L ++ [b])) := fun L b hL => by
    have := pflag_ok (H.length + 2) (H.length + 3) L b (gH H X L) (gH_2 H X L) (gH_3 H X L) (by omega) (by omega)
    rwa [two_gH] at this
  have g0 : ∀ L, (gH H X L)[H.length]? = some ⟨31, 0, [.bool c, .bool b, .int .i64 t]⟩ := fun L => by rw [gH_0, hX]
  have q1 := p2 [] c (by simp)
  (repeat refine PW.seq ?_); refine PW.rg rfl fun K hK => ?_; simp (maxSteps := 3000000) (disch := omega) only [go_sem, ↓reduceIte, reduceCtorEq, pappend, plen, g0]; refine VCx.call (q1) rfl ?_; simp (maxSteps := 3000000) (disch := omega) only [go_sem, ↓reduceIte, reduceCtorEq, pappend, plen]; refine hK _ _ ?_; clear hK K
  have q2 := p2 [c] b (by simp)
  (repeat refine PW.seq ?_); refine PW.rg rfl fun K hK => ?_; simp (maxSteps := 3000000) (disch := omega) only [go_sem, ↓reduceIte, reduceCtorEq, pappend, plen, g0]; refine VCx.call (q2) rfl ?_; simp (maxSteps := 3000000) (disch := omega) only [go_sem, ↓reduceIte, reduceCtorEq, pappend, plen]; refine hK _ _ ?_; clear hK K
  have q3 := p1 [c, b] t.toNat 24 (by omega) (by omega) (by simp)
  have et : t = (t.toNat : Int) := by omega
  rw [← et] at q3
  (repeat refine PW.seq ?_); refine PW.rg rfl fun K hK => ?_; simp (maxSteps := 3000000) (disch := omega) only [go_sem, ↓reduceIte, reduceCtorEq, pappend, plen, g0]; refine VCx.call (q3) rfl ?_; simp (maxSteps := 3000000) (disch := omega) only [go_sem, ↓reduceIte, reduceCtorEq, pappend, plen]; refine hK _ _ ?_; clear hK K
  have hgb : gbits c b t = c :: b :: vbits t.toNat 24 := rfl
  have hgl : (gbits c b t).length = 26 := by simp [gbits, vbits_len]
  rw [← hgb]
  have q9 := payload_ok (H.length + 2) (H.length + 3) (gbits c b t) (gH H X (gbits c b t)) (gH_2 H X _) (gH_3 H X _) (by omega)
  (repeat refine PW.seq ?_); refine PW.rg rfl fun K hK => ?_; simp (maxSteps := 3000000) (disch := omega) only [go_sem, ↓reduceIte, reduceCtorEq, pappend, plen]; refine VCx.call (q9) rfl ?_; simp (maxSteps := 3000000) (disch := omega) only [go_sem, ↓reduceIte, reduceCtorEq, pappend, plen, gH_1]; refine hK _ _ ?_; clear hK K
  generalize hP : pk (gbits c b t ++ [true]) = P at *
  have hE : (gH H X (gbits c b t)).set (H.length + 1) ⟨50, 0, [.int .i64 184, .slice (bs P) P.length false]⟩ = H ++ [⟨31, 0, X⟩, ⟨50, 0, [.int .i64 184, .slice (bs P) P.length false]⟩, wA (H.length + 3) (gbits c b t), wB (gbits c b t)] := hs1 _ _ _ _ _
  refine PW.eq rfl hE ?_
  refine PW.ret ⟨.tup [.agg [.int .i64 184, .slice (bs P) P.length false], .int .i64 0], by simp (maxSteps := 3000000) (disch := omega) only [go_sem, ↓reduceIte, reduceCtorEq, pappend, plen, presults, presult, List.mapM_cons, List.mapM_nil, Option.pure_def, Option.bind_eq_bind, Option.bind_some, Array.toList], ?_⟩
  rw [← hr]
  exact Fin.base (.id (uve_scoped _ _ _ _))

end Go.Proofs.YtbhdollgohgkgaaDoor.Sc

namespace Go.Proofs.YtbhdollgohgkgaaDoor.Sc
set_option linter.all false
set_option linter.unusedVariables false
set_option linter.unusedSimpArgs false
open Pm Ty Go.RowKit

end Go.Proofs.YtbhdollgohgkgaaDoor.Sc

namespace Go.Proofs.YtbhdollgohgkgaaDoor.Sc
set_option linter.all false
set_option linter.unusedVariables false
set_option linter.unusedSimpArgs false
open Pm Ty Go.RowKit

/-! ### the program's -/
def tkBU (i : Nat) (e : Nat) : Blk := ⟨127, 0, [.ptr i 0 0, .int .i64 (e : Int)]⟩
theorem num_ok (c i : Nat) (q : List UInt8) (n a e k : Nat) (H : Heap) (hC : H[c]? = some (tkBU i e)) (hA : H[i]? = some (rA q n a)) (hne : c ≠ i) (ha : a ≤ n) (hn : n ≤ 8 * q.length) (hq : q.length ≤ 100000000) (hk : k ≤ 32) (he : e ≤ 4) :
    CallOk Tryd.prog 64 [.ptr c 0 0, .int .i64 (k : Int)] H (.int .i64 ((nm true q n (a, e) k).1 : Int)) (two H c i (tkBU i (nm true q n (a, e) k).2.2) (rA q n (nm true q n (a, e) k).2.1)) := by
  have hc := (List.getElem?_eq_some_iff.1 hC).1
  have hself := two_self hC hA
  refine CallOk.body (F0 := [(0, .ptr c 0 0), (1, .int .i64 (k : Int))]) Tryd.func64 rfl Tryd.ntmps64 Tryd.results64 rfl (by kernel_rfl) rfl ?_
  (repeat refine PW.seq ?_); refine PW.rg rfl fun K hK => ?_; simp (maxSteps := 3000000) (disch := omega) only [go_sem, ↓reduceIte, reduceCtorEq, pappend, plen]; refine hK _ _ ?_; clear hK K
  by_cases h0 : e = 0
  · subst h0
    (repeat refine PW.seq ?_); refine PW.rg rfl fun K hK => ?_; simp (maxSteps := 3000000) (disch := omega) only [go_sem, ↓reduceIte, reduceCtorEq, pappend, plen, hC, tkBU]; refine hK _ _ ?_; clear hK K
    (repeat refine PW.seq ?_); refine PW.cond (t := _) rfl (fun h => ?_) (fun h => ?_)
    · cases h
    refine PW.skip ?_
    by_cases h1 : a + k ≤ n
    · have e1 : nm true q n (a, 0) k = (vl q a k, a + k, 0) := by
        unfold nm
        rw [if_neg (by simp), if_pos h1]
      rw [e1]
      have rt := rtake_ok i q n a k H hA h1 hn hq hk
      have g1 : (H.set i (rA q n (a + k)))[c]? = some (tkBU i 0) := by rw [List.getElem?_set_ne (Ne.symm hne)]; exact hC
      have vb := vl_lt q a k
      have vb2 : vl q a k < 4294967296 := Nat.lt_of_lt_of_le vb (Nat.pow_le_pow_right (by omega) hk)
      (repeat refine PW.seq ?_); refine PW.rg rfl fun K hK => ?_; simp (maxSteps := 3000000) (disch := omega) only [go_sem, ↓reduceIte, reduceCtorEq, pappend, plen, hC, tkBU]; refine VCx.call (rt) rfl ?_; simp (maxSteps := 3000000) (disch := omega) only [go_sem, ↓reduceIte, reduceCtorEq, pappend, plen]; refine hK _ _ ?_; clear hK K
      (repeat refine PW.seq ?_); refine PW.rg rfl fun K hK => ?_; simp (maxSteps := 3000000) (disch := omega) only [go_sem, ↓reduceIte, reduceCtorEq, pappend, plen, g1, tkBU]; refine hK _ _ ?_; clear hK K
      (repeat refine PW.seq ?_); refine PW.rg rfl fun K hK => ?_; simp (maxSteps := 3000000) (disch := omega) only [go_sem, ↓reduceIte, reduceCtorEq, pappend, plen]; refine hK _ _ ?_; clear hK K
      refine PW.ret ⟨_, rfl, .inl ⟨rfl, ?_⟩⟩
      unfold two
      rw [List.set_comm _ _ (Ne.symm hne)]
      rfl
    · have e1 : nm true q n (a, 0) k = (0, a, 4) := by
        unfold nm
        rw [if_neg (by simp), if_neg h1]; rfl
      rw [e1]
      have rt := rtake_short i q n a k H hA ha (by omega) hk (by omega)
      (repeat refine PW.seq ?_); refine PW.rg rfl fun K hK => ?_; simp (maxSteps := 3000000) (disch := omega) only [go_sem, ↓reduceIte, reduceCtorEq, pappend, plen, hC, tkBU]; refine VCx.call (rt) rfl ?_; simp (maxSteps := 3000000) (disch := omega) only [go_sem, ↓reduceIte, reduceCtorEq, pappend, plen]; refine hK _ _ ?_; clear hK K
      (repeat refine PW.seq ?_); refine PW.rg rfl fun K hK => ?_; simp (maxSteps := 3000000) (disch := omega) only [go_sem, ↓reduceIte, reduceCtorEq, pappend, plen, hC, tkBU]; refine hK _ _ ?_; clear hK K
      (repeat refine PW.seq ?_); refine PW.rg rfl fun K hK => ?_; simp (maxSteps := 3000000) (disch := omega) only [go_sem, ↓reduceIte, reduceCtorEq, pappend, plen]; refine hK _ _ ?_; clear hK K
      refine PW.ret ⟨_, rfl, .inl ⟨rfl, ?_⟩⟩
      unfold two
      rw [List.set_comm _ _ hne, set_self hA]
      rfl
  · have e1 : nm true q n (a, e) k = (0, a, e) := by
      unfold nm
      rw [if_pos (by simpa using h0)]
    rw [e1]
    have b1 : ((e : Int) != 0) = true := by simp; omega
    (repeat refine PW.seq ?_); refine PW.rg rfl fun K hK => ?_; simp (maxSteps := 3000000) (disch := omega) only [go_sem, ↓reduceIte, reduceCtorEq, pappend, plen, hC, tkBU, b1]; refine hK _ _ ?_; clear hK K
    (repeat refine PW.seq ?_); refine PW.cond (t := _) rfl (fun h => ?_) (fun h => ?_)
    rotate_left
    · cases h
    (repeat refine PW.seq ?_); refine PW.rg rfl fun K hK => ?_; simp (maxSteps := 3000000) (disch := omega) only [go_sem, ↓reduceIte, reduceCtorEq, pappend, plen]; refine hK _ _ ?_; clear hK K
    refine PW.ret ⟨_, rfl, .inl ⟨rfl, ?_⟩⟩
    exact hself.symm
theorem nm_e {q : List UInt8} {n a e k : Nat} (he : e ≤ 4) : (nm true q n (a, e) k).2.2 ≤ 4 := by
  unfold nm
  split
  · exact he
  · split
    · exact Nat.zero_le _
    · exact Nat.le_refl _
theorem flg_ok (c i : Nat) (q : List UInt8) (n a e : Nat) (H : Heap) (hC : H[c]? = some (tkBU i e)) (hA : H[i]? = some (rA q n a)) (hne : c ≠ i) (ha : a ≤ n) (hn : n ≤ 8 * q.length) (hq : q.length ≤ 100000000) (he : e ≤ 4) :
    CallOk Tryd.prog 65 [.ptr c 0 0] H (.bool (decide ((nm true q n (a, e) 1).1 = 1))) (two H c i (tkBU i (nm true q n (a, e) 1).2.2) (rA q n (nm true q n (a, e) 1).2.1)) := by
  have nk := num_ok c i q n a e 1 H hC hA hne ha hn hq (by omega) he
  have b1 : (((nm true q n (a, e) 1).1 : Int) == 1) = decide ((nm true q n (a, e) 1).1 = 1) := by
    rw [Bool.eq_iff_iff]; simp; omega
  refine CallOk.body (F0 := [(0, .ptr c 0 0)]) Tryd.func65 rfl Tryd.ntmps65 Tryd.results65 rfl (by kernel_rfl) rfl ?_
  (repeat refine PW.seq ?_); refine PW.rg rfl fun K hK => ?_; simp (maxSteps := 3000000) (disch := omega) only [go_sem, ↓reduceIte, reduceCtorEq, pappend, plen]; refine hK _ _ ?_; clear hK K
  (repeat refine PW.seq ?_); refine PW.rg rfl fun K hK => ?_; simp (maxSteps := 3000000) (disch := omega) only [go_sem, ↓reduceIte, reduceCtorEq, pappend, plen]; refine VCx.call (nk) rfl ?_; simp (maxSteps := 3000000) (disch := omega) only [go_sem, ↓reduceIte, reduceCtorEq, pappend, plen, b1]; refine hK _ _ ?_; clear hK K
  exact PW.ret ⟨_, rfl, Fin.now⟩
theorem bs_setU (m : List UInt8) (i : Nat) (v : Nat) : (bs m).set i (.int .u8 (IntKind.u8.wrap (v : Int))) = bs (m.set i (UInt8.ofNat v)) := by
  have : IntKind.u8.wrap (v : Int) = ((UInt8.ofNat v).toNat : Int) := by
    simp [IntKind.wrap, IntKind.signed, IntKind.bits]
  rw [this, bs_set]
theorem rdE_len (st : Bool) (q : List UInt8) (n : Nat) (x : Nat × Nat) : ∀ p, (rdE st q n x p).1.length = 64
  | 0 => by simp only [rdE, List.length_replicate]
  | p + 1 => by rw [rdE, List.length_set]; exact rdE_len st q n x p
/-- A heap with a reader's place and error. -/
def tH (H : Heap) (c i : Nat) (q : List UInt8) (n : Nat) (x : Nat × Nat) : Heap := two H c i (tkBU i x.2) (rA q n x.1)
theorem tH_len (H : Heap) (c i : Nat) (q : List UInt8) (n : Nat) (x : Nat × Nat) : (tH H c i q n x).length = H.length := two_len _ _ _ _ _
theorem tH_app {H K : Heap} {c i : Nat} {q : List UInt8} {n : Nat} {x : Nat × Nat} (hc : c < H.length) (hi : i < H.length) : tH (H ++ K) c i q n x = tH H c i q n x ++ K := two_appU hc hi
theorem tH_n (H K : Heap) (c i : Nat) (q : List UInt8) (n : Nat) (x : Nat × Nat) (k : Nat) : (tH H c i q n x ++ K)[H.length + k]? = K[k]? := by
  rw [List.getElem?_append_right (by rw [tH_len]; omega), tH_len, show H.length + k - H.length = k by omega]
theorem tH_z (H K : Heap) (c i : Nat) (q : List UInt8) (n : Nat) (x : Nat × Nat) : (tH H c i q n x ++ K)[H.length]? = K[0]? := tH_n H K c i q n x 0
theorem tH_s (H K : Heap) (c i : Nat) (q : List UInt8) (n : Nat) (x : Nat × Nat) (k : Nat) (X : Blk) : (tH H c i q n x ++ K).set (H.length + k) X = tH H c i q n x ++ K.set k X := by
  rw [List.set_append_right _ _ (by rw [tH_len]; omega), tH_len, show H.length + k - H.length = k by omega]
theorem tH_sz (H K : Heap) (c i : Nat) (q : List UInt8) (n : Nat) (x : Nat × Nat) (X : Blk) : (tH H c i q n x ++ K).set H.length X = tH H c i q n x ++ K.set 0 X := tH_s H K c i q n x 0 X
structure Tk (H : Heap) (c i : Nat) (q : List UInt8) (n : Nat) : Prop where
  hc : c < H.length
  hi : i < H.length
  ne : c ≠ i
  hn : n ≤ 8 * q.length
  hq : q.length ≤ 100000000
structure RkU (n : Nat) (x : Nat × Nat) : Prop where
  a : x.1 ≤ n
  e : x.2 ≤ 4
theorem RkU.nm {q : List UInt8} {n : Nat} {x : Nat × Nat} (h : RkU n x) (k : Nat) : RkU n (nm true q n x k).2 := ⟨nm_le h.a, nm_e h.e⟩
theorem RkU.rdE {q : List UInt8} {n : Nat} {x : Nat × Nat} (h : RkU n x) : ∀ p, RkU n (rdE true q n x p).2
  | 0 => h
  | p + 1 => (RkU.rdE h p).nm 8
theorem RkU.rdM {q : List UInt8} {n : Nat} {x : Nat × Nat} {u : List UInt8} (h : RkU n x) : RkU n (rdM true q n u x).2 := by
  unfold Sc.rdM
  split
  · exact (h.nm 1).rdE 64
  · exact h.nm 1
theorem num_at {H : Heap} {c i : Nat} {q : List UInt8} {n : Nat} (t : Tk H c i q n) (K : Heap) (x : Nat × Nat) (k : Nat) (r : RkU n x) (hk : k ≤ 32) :
    CallOk Tryd.prog 64 [.ptr c 0 0, .int .i64 (k : Int)] (tH H c i q n x ++ K) (.int .i64 ((nm true q n x k).1 : Int)) (tH H c i q n (nm true q n x k).2 ++ K) := by
  have h1 : (tH H c i q n x ++ K)[c]? = some (tkBU i x.2) := by
    rw [List.getElem?_append_left (by rw [tH_len]; exact t.hc)]; exact two_0 _ _ _ _ _ ⟨t.hc, t.ne⟩
  have h2 : (tH H c i q n x ++ K)[i]? = some (rA q n x.1) := by
    rw [List.getElem?_append_left (by rw [tH_len]; exact t.hi)]; exact two_1 _ _ _ _ _ t.hi
  have := num_ok c i q n x.1 x.2 k _ h1 h2 t.ne r.a t.hn t.hq hk r.e
  rw [two_appU (by rw [tH_len]; exact t.hc) (by rw [tH_len]; exact t.hi), tH, two_two' _ _ _ _ _ _ _ t.ne] at this
  exact this
theorem flg_at {H : Heap} {c i : Nat} {q : List UInt8} {n : Nat} (t : Tk H c i q n) (K : Heap) (x : Nat × Nat) (r : RkU n x) :
    CallOk Tryd.prog 65 [.ptr c 0 0] (tH H c i q n x ++ K) (.bool (decide ((nm true q n x 1).1 = 1))) (tH H c i q n (nm true q n x 1).2 ++ K) := by
  have h1 : (tH H c i q n x ++ K)[c]? = some (tkBU i x.2) := by
    rw [List.getElem?_append_left (by rw [tH_len]; exact t.hc)]; exact two_0 _ _ _ _ _ ⟨t.hc, t.ne⟩
  have h2 : (tH H c i q n x ++ K)[i]? = some (rA q n x.1) := by
    rw [List.getElem?_append_left (by rw [tH_len]; exact t.hi)]; exact two_1 _ _ _ _ _ t.hi
  have := flg_ok c i q n x.1 x.2 _ h1 h2 t.ne r.a t.hn t.hq r.e
  rw [two_appU (by rw [tH_len]; exact t.hc) (by rw [tH_len]; exact t.hi), tH, two_two' _ _ _ _ _ _ _ t.ne] at this
  exact this
def z64U : List UInt8 := List.replicate 64 0
theorem z64_len : z64U.length = 64 := List.length_replicate
theorem z64_eq : zcells Tryd.prog 27 = some (bs z64U) := by kernel_rfl
theorem tkB_sc {i e n : Nat} (h : i < n) : ∀ x ∈ (tkBU i e).cells, Scoped n x := fun x hx => by
  simp only [tkBU, List.mem_cons, List.not_mem_nil, or_false] at hx
  rcases hx with rfl | rfl
  · exact .ptr h
  · exact .int _ _
theorem rA_scU {p : List UInt8} {k a n : Nat} : ∀ x ∈ (rA p k a).cells, Scoped n x := fun x hx => by
  simp only [rA, List.mem_cons, List.not_mem_nil, or_false] at hx
  rcases hx with rfl | rfl | rfl
  · exact sl_scoped (bs_scoped _ _)
  · exact .int _ _
  · exact .int _ _
theorem bs64 (l : List UInt8) (h : l.length = 64) : (bs l).all PV.cell = true ∧ (bs l).length = 64 ∧ List.take 64 (bs l) = bs l ∧ List.drop 64 (bs l) = [] := by
  have hl : (bs l).length = 64 := by rw [length_bs]; exact h
  exact ⟨by simp [bs, PV.cell], hl, List.take_of_length_le (by omega), List.drop_of_length_le (by omega)⟩

set_option maxHeartbeats 4000000 in
theorem tmat_ok {H : Heap} {c i : Nat} {q : List UInt8} {n : Nat} (t : Tk H c i q n) (K : Heap) (x : Nat × Nat) (r : RkU n x) (u : List UInt8) (hu : u.length = 64) :
    CallOk Tryd.prog 66 [.ptr c 0 0, .agg (bs u)] (tH H c i q n x ++ K) (.agg (bs (rdM true q n u x).1)) (tH H c i q n (rdM true q n u x).2 ++ K) := by
  obtain ⟨au, lu, tu, du⟩ := bs64 u hu
  obtain ⟨az, lz, tz, dz⟩ := bs64 z64U z64_len
  obtain ⟨B, hB⟩ : ∃ B, B = tH H c i q n x ++ K := ⟨_, rfl⟩
  have hBl : B.length = H.length + K.length := by rw [hB, List.length_append, tH_len]
  have tB : Tk B c i q n := ⟨by have := t.hc; omega, by have := t.hi; omega, t.ne, t.hn, t.hq⟩
  have hB2 : ∀ y, tH B c i q n y = tH H c i q n y ++ K := fun y => by
    rw [hB, tH_app (by rw [tH_len]; exact t.hc) (by rw [tH_len]; exact t.hi)]
    congr 1
    exact two_two' _ _ _ _ _ _ _ t.ne
  have hB1 : B = tH B c i q n x := by rw [hB2, hB]
  rw [← hB, ← hB2]
  clear hB2 hB hBl
  have fin : ∀ (v : List UInt8) y K, Fin B (.agg (bs v)) (tH B c i q n y) (.agg (bs v)) (tH B c i q n y ++ K) := fun v y K =>
    Fin.cut rfl (by rw [tH_len]) (two_sc (tkB_sc tB.hi) rA_scU) (.id (ag_scoped (bs_scoped _ _)))
  unfold rdM
  have fo := fun K => flg_at tB K x r
  have hx := r.nm (q := q) 1
  refine CallOk.body (F0 := [(0, .ptr c 0 0), (1, .agg (bs u))]) Tryd.func66 rfl Tryd.ntmps66 Tryd.results66 rfl (by kernel_rfl) rfl ?_
  refine PW.eq rfl hB1 ?_
  (repeat refine PW.seq ?_); refine PW.rg rfl fun K hK => ?_; simp (maxSteps := 3000000) (disch := omega) only [go_sem, ↓reduceIte, reduceCtorEq, pappend, plen, au, ↓z64_eq]; refine hK _ _ ?_; clear hK K
  (repeat refine PW.seq ?_); refine PW.rg rfl fun K hK => ?_; simp (maxSteps := 3000000) (disch := omega) only [go_sem, ↓reduceIte, reduceCtorEq, pappend, plen]; refine VCx.call (fo _) rfl ?_; simp (maxSteps := 3000000) (disch := omega) only [go_sem, ↓reduceIte, reduceCtorEq, pappend, plen, tH_len]; refine hK _ _ ?_; clear hK K
  generalize (nm true q n x 1).1 = v at *
  generalize (nm true q n x 1).2 = y at *
  by_cases hv : v = 1
  rotate_left
  · rw [if_neg hv]
    have dv : decide (v = 1) = false := decide_eq_false hv
    (repeat refine PW.seq ?_); refine PW.cond (t := _) rfl (fun h => ?_) (fun h => ?_)
    rotate_left
    · simp [hv] at h
    (repeat refine PW.seq ?_); refine PW.rg rfl fun K hK => ?_; simp (maxSteps := 3000000) (disch := omega) only [go_sem, ↓reduceIte, reduceCtorEq, pappend, plen, tH_z, tH_n, tH_s, lu, tu, lz, dz]; refine hK _ _ ?_; clear hK K
    refine PW.ret ⟨.agg (bs u), by simp (maxSteps := 3000000) (disch := omega) only [go_sem, ↓reduceIte, reduceCtorEq, pappend, plen, presults, presult, List.mapM_cons, List.mapM_nil, Option.pure_def, Option.bind_eq_bind, Option.bind_some, Array.toList, tH_z, tH_n, lu, tu], ?_⟩
    exact fin u y _
  rw [if_pos hv]
  (repeat refine PW.seq ?_); refine PW.cond (t := _) rfl (fun h => ?_) (fun h => ?_)
  · simp [hv] at h
  refine PW.skip ?_
  (repeat refine PW.seq ?_); refine PW.rg rfl fun K hK => ?_; simp (maxSteps := 3000000) (disch := omega) only [go_sem, ↓reduceIte, reduceCtorEq, pappend, plen, tH_len, ↓z64_eq]; refine hK _ _ ?_; clear hK K
  (repeat refine PW.seq ?_); refine PW.rg rfl fun K hK => ?_; simp (maxSteps := 3000000) (disch := omega) only [go_sem, ↓reduceIte, reduceCtorEq, pappend, plen]; refine VCx.call (scan_ok _) rfl ?_; simp (maxSteps := 3000000) (disch := omega) only [go_sem, ↓reduceIte, reduceCtorEq, pappend, plen]; refine hK _ _ ?_; clear hK K
  (repeat refine PW.seq ?_); refine PW.block (PW.loop ?_)
  suffices hloop : ∀ p : Nat, p ≤ 64 → PL Tryd.prog _ _ [(0, .ptr c 0 0), (4, .ptr (B.length + 1) 0 0), (5, .ptr (B.length + 2) 0 0), (12, .agg scV), (13, .int .i64 (p : Int))] (tH B c i q n (rdE true q n y p).2 ++ [⟨27, 0, bs u⟩, ⟨27, 0, bs z64U⟩, ⟨27, 0, bs (rdE true q n y p).1⟩]) _ by
    exact PL.at [0, 4, 5, 12, 13] (hloop 0 (by omega)) rfl rfl
  have sl : scV.length = 64 := rfl
  intro p hp
  induction hd : 64 - p using Nat.strongRecOn generalizing p with
  | _ d ih =>
    refine PL.round ?_; (repeat refine PW.seq ?_); refine PW.rg rfl fun K hK => ?_; simp (maxSteps := 3000000) (disch := omega) only [go_sem, ↓reduceIte, reduceCtorEq, pappend, plen]; refine hK _ _ ?_; clear hK K
    (repeat refine PW.seq ?_); refine PW.cond (t := _) rfl (fun h => ?_) (fun h => ?_)
    · have h4 : p < 64 := by have := of_decide_eq_true h; omega
      have s1 := scV_at p h4
      have b2 := sk_lt p h4
      have lE : (bs (rdE true q n y p).1).length = 64 := by rw [length_bs]; exact rdE_len _ _ _ _ p
      have rE := hx.rdE (q := q) p
      have no := fun K => num_at tB K (rdE true q n y p).2 8 rE (by omega)
      have hnext := ih (64 - (p + 1)) (by omega) (p + 1) (by omega) rfl
      rw [rdE] at hnext
      have bv : (nm true q n (rdE true q n y p).2 8).1 < 2 ^ 8 := nm_lt _ _ _ _ _
      generalize (rdE true q n y p).1 = E at *
      generalize (rdE true q n y p).2 = z at *
      generalize (nm true q n z 8).1 = V at *
      generalize (nm true q n z 8).2 = z2 at *
      have wv : IntKind.u8.wrap (V : Int) = (V : Int) := by rw [w8 _ (by omega)]
      have sv := bs_setU E (sk p) V
      rw [wv] at sv
      generalize sk p = k at *
      refine PW.skip ?_; (repeat refine PW.seq ?_); refine PW.block ?_
      (repeat refine PW.seq ?_); refine PW.rg rfl fun K hK => ?_; simp (maxSteps := 3000000) (disch := omega) only [go_sem, ↓reduceIte, reduceCtorEq, pappend, plen, s1, sl]; refine hK _ _ ?_; clear hK K
      (repeat refine PW.seq ?_); refine PW.rg rfl fun K hK => ?_; simp (maxSteps := 3000000) (disch := omega) only [go_sem, ↓reduceIte, reduceCtorEq, pappend, plen]; refine VCx.call (no _) rfl ?_; simp (maxSteps := 3000000) (disch := omega) only [go_sem, ↓reduceIte, reduceCtorEq, pappend, plen, tH_n, tH_s, lE, sv]; refine hK _ _ ?_; clear hK K
      (repeat refine PW.seq ?_); refine PW.rg rfl fun K hK => ?_; simp (maxSteps := 3000000) (disch := omega) only [go_sem, ↓reduceIte, reduceCtorEq, pappend, plen]; refine hK _ _ ?_; clear hK K
      exact PL.at [0, 4, 5, 12, 13] hnext rfl rfl
    · have h4 : p = 64 := by have := of_decide_eq_false h; omega
      subst h4
      have lE : (rdE true q n y 64).1.length = 64 := rdE_len _ _ _ _ 64
      obtain ⟨E, hE⟩ : ∃ E, E = (rdE true q n y 64).1 := ⟨_, rfl⟩
      obtain ⟨z, hz⟩ : ∃ E, E = (rdE true q n y 64).2 := ⟨_, rfl⟩
      rw [← hE] at lE ⊢
      rw [← hz]
      obtain ⟨aE, lE, tE, dE⟩ := bs64 E lE
      refine PW.exit ?_
      (repeat refine PW.seq ?_); refine PW.rg rfl fun K hK => ?_; simp (maxSteps := 3000000) (disch := omega) only [go_sem, ↓reduceIte, reduceCtorEq, pappend, plen, tH_z, tH_n, tH_s, lE, tE, lz, dz]; refine hK _ _ ?_; clear hK K
      refine PW.ret ⟨.agg (bs E), by simp (maxSteps := 3000000) (disch := omega) only [go_sem, ↓reduceIte, reduceCtorEq, pappend, plen, presults, presult, List.mapM_cons, List.mapM_nil, Option.pure_def, Option.bind_eq_bind, Option.bind_some, Array.toList, tH_z, tH_n, lE, tE], ?_⟩
      exact fin E z _

end Go.Proofs.YtbhdollgohgkgaaDoor.Sc

namespace Go.Proofs.YtbhdollgohgkgaaDoor.Sc
set_option linter.all false
set_option linter.unusedVariables false
set_option linter.unusedSimpArgs false
open Pm Ty Go.RowKit

structure WkU (H : Heap) (i j v : Nat) (q : List UInt8) (n : Nat) : Prop where
  hi : i < H.length
  hB : H[j]? = some (rB q v)
  ne : i ≠ j
  hn : n ≤ 8 * q.length
  hq : q.length ≤ 100000000
structure Rf (n : Nat) (x : Nat × Nat) : Prop where
  a : x.1 ≤ n
  e : x.2 = 0
theorem nm_e0 {q : List UInt8} {n k : Nat} {x : Nat × Nat} (he : x.2 = 0) : (nm false q n x k).2.2 = 0 := by
  unfold nm
  rw [if_neg (by simp [he])]
  split <;> rfl
theorem Rf.nm {q : List UInt8} {n : Nat} {x : Nat × Nat} (h : Rf n x) (k : Nat) : Rf n (nm false q n x k).2 := ⟨nm_le h.a, nm_e0 h.e⟩
theorem Rf.rdE {q : List UInt8} {n : Nat} {x : Nat × Nat} (h : Rf n x) : ∀ p, Rf n (rdE false q n x p).2
  | 0 => h
  | p + 1 => (Rf.rdE h p).nm 8
theorem Rf.rdM {q : List UInt8} {n : Nat} {x : Nat × Nat} {u : List UInt8} (h : Rf n x) : Rf n (rdM false q n u x).2 := by
  unfold Sc.rdM
  split
  · exact (h.nm 1).rdE 64
  · exact h.nm 1
end Go.Proofs.YtbhdollgohgkgaaDoor.Sc
