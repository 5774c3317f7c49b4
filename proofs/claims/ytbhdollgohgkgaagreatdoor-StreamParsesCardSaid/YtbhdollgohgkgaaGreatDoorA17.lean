/-
  Parts of the proof. No condition.
-/
import Derived.Test.YtbhdollgohgkgaaGreatDoorA16
import Derived.Test.YtbhdollgohgkgaaGreatDoorA10
import Derived.Test.YtbhdollgohgkgaaGreatDoorA08
namespace Go.Proofs.YtbhdollgohgkgaaGreatDoor.Sc
set_option linter.all false
set_option linter.unusedVariables false
set_option linter.unusedSimpArgs false
open Pm Ty Go.RowKit

theorem eqM_i (p q : List UInt8) (h : p.length = 64) (h' : q.length = 64) : (if szT Tryz.prog 5 = some 1 ∧ (bs p).length = 64 ∧ (bs q).length = 64 then peqI (.int .u8) (bs p) (bs q) else none) = some (p == q) := by
  rw [← eqU_def]
  exact eqU p q h h'
theorem eqB (p q : List UInt8) (h : p.length = 64) (h' : q.length = 64) : peqI (.int .u8) (bs p) (bs q) = some (p == q) := by
  have := eqM_i p q h h'
  rwa [if_pos ⟨by kernel_rfl, by rw [length_bs]; exact h, by rw [length_bs]; exact h'⟩] at this
theorem two_appU {H K : Heap} {i j : Nat} {A B : Blk} (hi : i < H.length) (hj : j < H.length) : two (H ++ K) i j A B = two H i j A B ++ K := by
  unfold two
  rw [List.set_append_left _ _ hi, List.set_append_left _ _ (by rw [List.length_set]; exact hj)]
theorem two_sc {H : Heap} {i j : Nat} {A B : Blk} (hA : ∀ x ∈ A.cells, Scoped H.length x) (hB : ∀ x ∈ B.cells, Scoped H.length x) (h : HSc H) : HSc (two H i j A B) :=
  HSc.set (HSc.set h hA) (by rw [List.length_set]; exact hB)
theorem wA_sc {n j : Nat} (l : List Bool) (h : j < n) : ∀ x ∈ (wA j l).cells, Scoped n x := fun x hx => by
  simp only [wA, List.mem_cons, List.not_mem_nil, or_false] at hx
  rcases hx with rfl | rfl
  · exact .msl h
  · exact .int _ _
theorem wB_sc (n : Nat) (l : List Bool) : ∀ x ∈ (wB l).cells, Scoped n x := fun x hx => bs_scoped _ _ x hx
theorem two_two' (H : Heap) (i j : Nat) (A B A' B' : Blk) (h : i ≠ j) : two (two H i j A B) i j A' B' = two H i j A' B' := by
  unfold two
  rw [List.set_comm _ _ (Ne.symm h), List.set_set, List.set_set]
theorem scV_at (p : Nat) (h : p < 64) : scV[p]? = some (.int .i64 (sk p : Int)) := by
  unfold scV sk
  rw [List.getElem?_map, List.getD, List.getElem?_eq_getElem (by rw [scn_len]; exact h)]
  rfl

theorem pflag_ok (i j : Nat) (l : List Bool) (b : Bool) (H : Heap) (hA : H[i]? = some (wA j l)) (hB : H[j]? = some (wB l)) (hne : i ≠ j) (hl : l.length ≤ 1000000000) :
    CallOk Tryz.prog 96 [.ptr i 0 0, .bool b] H (.tup []) (two H i j (wA j (l ++ [b])) (wB (l ++ [b]))) := by
  have hv := vbits1 b
  refine CallOk.body (F0 := [(0, .ptr i 0 0), (1, .bool b)]) Tryz.func96 rfl Tryz.ntmps96 Tryz.results96 rfl (by kernel_rfl) rfl ?_
  (repeat refine PW.seq ?_); refine PW.rg rfl fun K hK => ?_; simp (maxSteps := 3000000) (disch := omega) only [go_sem, ↓reduceIte, reduceCtorEq, pappend, plen]; refine hK _ _ ?_; clear hK K; (repeat refine PW.seq ?_); refine PW.rg rfl fun K hK => ?_; simp (maxSteps := 3000000) (disch := omega) only [go_sem, ↓reduceIte, reduceCtorEq, pappend, plen]; refine hK _ _ ?_; clear hK K
  cases b with
  | true =>
    have hp := put_ok i j l 1 1 H hA hB hne (by omega) (by decide) hl
    simp only [if_true] at hv
    rw [hv] at hp
    (repeat refine PW.seq ?_); refine PW.cond (t := _) rfl (fun h => ?_) (fun h => ?_)
    rotate_left
    · cases h
    (repeat refine PW.seq ?_); refine PW.rg rfl fun K hK => ?_; simp (maxSteps := 3000000) (disch := omega) only [go_sem, ↓reduceIte, reduceCtorEq, pappend, plen]; refine hK _ _ ?_; clear hK K
    (repeat refine PW.seq ?_); refine PW.rg rfl fun K hK => ?_; simp (maxSteps := 3000000) (disch := omega) only [go_sem, ↓reduceIte, reduceCtorEq, pappend, plen]; refine VCx.call (hp) rfl ?_; simp (maxSteps := 3000000) (disch := omega) only [go_sem, ↓reduceIte, reduceCtorEq, pappend, plen]; refine hK _ _ ?_; clear hK K
    exact Exists.intro _ (And.intro rfl Fin.now)
  | false =>
    have hp := put_ok i j l 0 1 H hA hB hne (by omega) (by decide) hl
    simp only [Bool.false_eq_true, if_false] at hv
    rw [hv] at hp
    (repeat refine PW.seq ?_); refine PW.cond (t := _) rfl (fun h => ?_) (fun h => ?_)
    · cases h
    refine PW.skip ?_
    (repeat refine PW.seq ?_); refine PW.rg rfl fun K hK => ?_; simp (maxSteps := 3000000) (disch := omega) only [go_sem, ↓reduceIte, reduceCtorEq, pappend, plen]; refine VCx.call (hp) rfl ?_; simp (maxSteps := 3000000) (disch := omega) only [go_sem, ↓reduceIte, reduceCtorEq, pappend, plen]; refine hK _ _ ?_; clear hK K
    exact Exists.intro _ (And.intro rfl Fin.now)

set_option maxHeartbeats 4000000 in
theorem pmat_ok (i j : Nat) (l : List Bool) (m u : List UInt8) (H : Heap) (hA : H[i]? = some (wA j l)) (hB : H[j]? = some (wB l)) (hne : i ≠ j) (hl : l.length ≤ 1000000) (hm : m.length = 64) (hu : u.length = 64) :
    CallOk Tryz.prog 97 [.ptr i 0 0, .agg (bs m), .agg (bs u)] H (.tup []) (two H i j (wA j (l ++ mxb m u)) (wB (l ++ mxb m u))) := by
  have hi := (List.getElem?_eq_some_iff.1 hA).1
  have hj := (List.getElem?_eq_some_iff.1 hB).1
  have e1 := eqB m u hm hu
  have am : (bs m).all PV.cell = true := by simp [bs, PV.cell]
  have au : (bs u).all PV.cell = true := by simp [bs, PV.cell]
  have lm : (bs m).length = 64 := by rw [length_bs]; exact hm
  have lu : (bs u).length = 64 := by rw [length_bs]; exact hu
  have tm : List.take 64 (bs m) = bs m := List.take_of_length_le (by omega)
  have tu : List.take 64 (bs u) = bs u := List.take_of_length_le (by omega)
  have fin : ∀ L K, Fin H (.tup []) (two H i j (wA j L) (wB L)) (.tup []) (two H i j (wA j L) (wB L) ++ K) := fun L K =>
    Fin.cut rfl (by rw [two_len]) (two_sc (wA_sc _ hj) (wB_sc _ _)) (.id (.tup (by simp)))
  refine CallOk.body (F0 := [(0, .ptr i 0 0), (1, .agg (bs m)), (2, .agg (bs u))]) Tryz.func97 rfl Tryz.ntmps97 Tryz.results97 rfl (by kernel_rfl) rfl ?_
  (repeat refine PW.seq ?_); refine PW.rg rfl fun K hK => ?_; simp (maxSteps := 3000000) (disch := omega) only [go_sem, ↓reduceIte, reduceCtorEq, pappend, plen, am, au]; refine hK _ _ ?_; clear hK K
  obtain ⟨K, hK0⟩ : ∃ K : Heap, K = [⟨49, 0, bs m⟩, ⟨49, 0, bs u⟩] := ⟨_, rfl⟩
  have gA : ∀ L, (two H i j (wA j L) (wB L) ++ K)[i]? = some (wA j L) := fun L => by
    rw [List.getElem?_append_left (by rw [two_len]; exact hi)]; exact two_0 _ _ _ _ _ ⟨hi, hne⟩
  have gB : ∀ L, (two H i j (wA j L) (wB L) ++ K)[j]? = some (wB L) := fun L => by
    rw [List.getElem?_append_left (by rw [two_len]; exact hj)]; exact two_1 _ _ _ _ _ hj
  have pf : ∀ L b, L.length ≤ 1000000000 → CallOk Tryz.prog 96 [.ptr i 0 0, .bool b] (two H i j (wA j L) (wB L) ++ K) (.tup []) (two H i j (wA j (L ++ [b])) (wB (L ++ [b])) ++ K) := fun L b hL => by
    have := pflag_ok i j L b _ (gA L) (gB L) hne hL
    rw [two_appU (by rw [two_len]; exact hi) (by rw [two_len]; exact hj), two_two' _ _ _ _ _ _ _ hne] at this
    exact this
  have pt : ∀ (L : List Bool) (V n : Nat), n ≤ 32 → V / 2 ^ n = 0 → L.length ≤ 1000000000 → CallOk Tryz.prog 95 [.ptr i 0 0, .int .u32 (V : Int), .int .i64 (n : Int)] (two H i j (wA j L) (wB L) ++ K) (.int .i64 0) (two H i j (wA j (L ++ vbits V n)) (wB (L ++ vbits V n)) ++ K) := fun L V n hn hV hL => by
    have := put_ok i j L V n _ (gA L) (gB L) hne hn hV hL
    rw [two_appU (by rw [two_len]; exact hi) (by rw [two_len]; exact hj), two_two' _ _ _ _ _ _ _ hne] at this
    exact this
  have g4 : ∀ L, (two H i j (wA j L) (wB L) ++ K)[H.length]? = some ⟨49, 0, bs m⟩ := fun L => by
    rw [List.getElem?_append_right (by rw [two_len]; omega), two_len, Nat.sub_self, hK0]; rfl
  have g5 : ∀ L, (two H i j (wA j L) (wB L) ++ K)[H.length + 1]? = some ⟨49, 0, bs u⟩ := fun L => by
    rw [List.getElem?_append_right (by rw [two_len]; omega), two_len, show H.length + 1 - H.length = 1 by omega, hK0]; rfl
  refine PW.at [0, 4, 5] (F1 := [(0, .ptr i 0 0), (4, .ptr H.length 0 0), (5, .ptr (H.length + 1) 0 0)]) (H1 := two H i j (wA j l) (wB l) ++ K) ?_ rfl (by rw [two_self hA hB, hK0])
  have p1 := pf l (!(m == u)) (by omega)
  (repeat refine PW.seq ?_); refine PW.rg rfl fun K hK => ?_; simp (maxSteps := 3000000) (disch := omega) only [go_sem, ↓reduceIte, reduceCtorEq, pappend, plen, g4, g5, lm, lu, tm, tu, e1]
  refine VCx.call (p1) rfl ?_; simp (maxSteps := 3000000) (disch := omega) only [go_sem, ↓reduceIte, reduceCtorEq, pappend, plen]; refine hK _ _ ?_; clear hK K
  (repeat refine PW.seq ?_); refine PW.rg rfl fun K hK => ?_; simp (maxSteps := 3000000) (disch := omega) only [go_sem, ↓reduceIte, reduceCtorEq, pappend, plen, g4, g5, lm, lu, tm, tu, e1]; refine hK _ _ ?_; clear hK K
  have bg : ∀ p, p < 64 → (bs m)[sk p]? = some (.int .u8 ((m.getD (sk p) 0).toNat : Int)) := fun p hp => by
    rw [bs_get _ _ (by rw [hm]; exact sk_lt p hp)]; rfl
  cases he : (m == u) with
  | true =>
    have hmu : mxb m u = [!(m == u)] := by unfold mxb; rw [if_pos (by simpa using he), he]; rfl
    (repeat refine PW.seq ?_); refine PW.cond (t := _) rfl (fun h => ?_) (fun h => ?_)
    rotate_left
    · cases h
    refine PW.ret ⟨_, rfl, ?_⟩
    rw [hmu, he]
    exact fin _ K
  | false =>
    have hmu : mxb m u = true :: mxe m 64 := by unfold mxb; rw [if_neg (by simpa using he)]
    (repeat refine PW.seq ?_); refine PW.cond (t := _) rfl (fun h => ?_) (fun h => ?_)
    · cases h
    refine PW.skip ?_
    (repeat refine PW.seq ?_); refine PW.rg rfl fun K hK => ?_; simp (maxSteps := 3000000) (disch := omega) only [go_sem, ↓reduceIte, reduceCtorEq, pappend, plen]; refine VCx.call (scan_ok _) rfl ?_; simp (maxSteps := 3000000) (disch := omega) only [go_sem, ↓reduceIte, reduceCtorEq, pappend, plen]; refine hK _ _ ?_; clear hK K
    (repeat refine PW.seq ?_); refine PW.block (PW.loop ?_)
    suffices hloop : ∀ k : Nat, k ≤ 64 → PL Tryz.prog _ _ [(0, .ptr i 0 0), (4, .ptr H.length 0 0), (16, .agg scV), (17, .int .i64 (k : Int))] (two H i j (wA j (l ++ (true :: mxe m k))) (wB (l ++ (true :: mxe m k))) ++ K) _ by
      exact PL.at [0, 4, 16, 17] (hloop 0 (by omega)) rfl rfl
    have sl : scV.length = 64 := rfl
    clear p1 pf e1
    intro k hk
    induction hd : 64 - k using Nat.strongRecOn generalizing k with
    | _ n ih =>
      refine PL.round ?_; (repeat refine PW.seq ?_); refine PW.rg rfl fun K hK => ?_; simp (maxSteps := 3000000) (disch := omega) only [go_sem, ↓reduceIte, reduceCtorEq, pappend, plen]; refine hK _ _ ?_; clear hK K
      (repeat refine PW.seq ?_); refine PW.cond (t := _) rfl (fun h => ?_) (fun h => ?_)
      · have h4 : k < 64 := by have := of_decide_eq_true h; omega
        have s1 := scV_at k h4
        have b1 := bg k h4
        have b2 := sk_lt k h4
        have hv : (m.getD (sk k) 0).toNat < 256 := UInt8.toNat_lt _
        have p1 := pt (l ++ (true :: mxe m k)) (m.getD (sk k) 0).toNat 8 (by omega) (Nat.div_eq_of_lt hv) (by rw [List.length_append, List.length_cons, mxe_len]; omega)
        have hnext := ih (64 - (k + 1)) (by omega) (k + 1) (by omega) rfl
        rw [mxe, show l ++ true :: (mxe m k ++ vbits (m.getD (sk k) 0).toNat 8) = l ++ (true :: mxe m k) ++ vbits (m.getD (sk k) 0).toNat 8 by simp] at hnext
        have g6 := g4 (l ++ (true :: mxe m k))
        generalize (m.getD (sk k) 0).toNat = V at *
        generalize l ++ (true :: mxe m k) = L at *
        generalize sk k = q at *
        generalize l ++ true :: mxe m 64 = L2 at *
        refine PW.skip ?_; (repeat refine PW.seq ?_); refine PW.block ?_
        (repeat refine PW.seq ?_); refine PW.rg rfl fun K hK => ?_; simp (maxSteps := 3000000) (disch := omega) only [go_sem, ↓reduceIte, reduceCtorEq, pappend, plen, s1, sl]; refine hK _ _ ?_; clear hK K
        (repeat refine PW.seq ?_); refine PW.rg rfl fun K hK => ?_; simp (maxSteps := 3000000) (disch := omega) only [go_sem, ↓reduceIte, reduceCtorEq, pappend, plen, g6, lm, b1]; refine VCx.call (p1) rfl ?_; simp (maxSteps := 3000000) (disch := omega) only [go_sem, ↓reduceIte, reduceCtorEq, pappend, plen]; refine hK _ _ ?_; clear hK K
        (repeat refine PW.seq ?_); refine PW.rg rfl fun K hK => ?_; simp (maxSteps := 3000000) (disch := omega) only [go_sem, ↓reduceIte, reduceCtorEq, pappend, plen]; refine hK _ _ ?_; clear hK K
        exact PL.at [0, 4, 16, 17] hnext rfl rfl
      · have h4 : k = 64 := by have := of_decide_eq_false h; omega
        subst h4
        refine PW.exit ?_
        refine Exists.intro _ (And.intro rfl ?_)
        rw [hmu]
        exact fin _ K

end Go.Proofs.YtbhdollgohgkgaaGreatDoor.Sc

namespace Go.Proofs.YtbhdollgohgkgaaGreatDoor.Sc
set_option linter.all false
set_option linter.unusedVariables false
set_option linter.unusedSimpArgs false
open Pm Ty Go.RowKit

theorem sqc_cell' (s : Sq) : (sqc s).all PV.cell = true := by
  simp [sqc, bs, PV.cell]
theorem vseq_f {s : Sq} (h : vseq s = true) : (16 ≤ s.w ∧ s.w ≤ 64) ∧ (16 ≤ s.h ∧ s.h ≤ 64) ∧ (1 ≤ s.num ∧ s.num ≤ 1048576) ∧ (1 ≤ s.den ∧ s.den ≤ 65536) ∧ (1 ≤ s.br ∧ s.br ≤ 16777216) ∧ (1 ≤ s.bf ∧ s.bf ≤ 8388608) := by
  have h0 := vseq_h h
  simp only [vseq, vrt, vbr, Bool.and_eq_true, decide_eq_true_eq] at h
  obtain ⟨_, ⟨⟨⟨h1, h2⟩, h3⟩, h4⟩, ⟨⟨⟨h5, h6⟩, h7⟩, h8⟩, _⟩ := h
  have := ratOk_pos h1
  omega
/-- What PutSeq has in memory. -/
def sHU (H : Heap) (s : Sq) (L : List Bool) : Heap := H ++ [⟨51, 0, sqc s⟩, ⟨41, 0, [.int .i64 0, .slice [] 0 true]⟩, wA (H.length + 3) L, wB L]
theorem two_sH (H : Heap) (s : Sq) (L M : List Bool) : two (sHU H s L) (H.length + 2) (H.length + 3) (wA (H.length + 3) M) (wB M) = sHU H s M := by
  unfold two sHU
  simp only [aps, List.set_cons_succ, List.set_cons_zero]
theorem sH_0 (H : Heap) (s : Sq) (L : List Bool) : (sHU H s L)[H.length]? = some ⟨51, 0, sqc s⟩ := hp0 _ _ _
theorem sH_1 (H : Heap) (s : Sq) (L : List Bool) : (sHU H s L)[H.length + 1]? = some ⟨41, 0, [.int .i64 0, .slice [] 0 true]⟩ := hp1 _ _ _ _
theorem sH_2 (H : Heap) (s : Sq) (L : List Bool) : (sHU H s L)[H.length + 2]? = some (wA (H.length + 3) L) := hp2 _ _ _ _ _
theorem sH_3 (H : Heap) (s : Sq) (L : List Bool) : (sHU H s L)[H.length + 3]? = some (wB L) := hp3 _ _ _ _ _ _
theorem sH_l (H : Heap) (s : Sq) (L : List Bool) : (sHU H s L).length = H.length + 4 := by simp [sHU]

set_option maxHeartbeats 4000000 in
theorem puts_ok (s : Sq) (H : Heap) (hs : SqOk s) : CallOk Tryz.prog 65 [.agg (sqc s)] H (.tup [uv (putS s).1 (putS s).2.1, .int .i64 (putS s).2.2]) H := by
  have hvo := fun K => vseq_ok s K hs
  have hcl := sqc_cell' s
  have hln : (bs s.ia ++ bs s.ie).length = 128 := by simp [length_bs, hs.ia, hs.ie]
  have htk := sq_all s.ia s.ie hs.ia hs.ie
  have tia := sq_ia s.ia s.ie hs.ia
  have tie := sq_ie s.ia s.ie hs.ia
  have tk := sq_tk s.ie hs.ie
  have lia : (bs s.ia).length = 64 := by rw [length_bs]; exact hs.ia
  have lie : (bs s.ie).length = 64 := by rw [length_bs]; exact hs.ie
  generalize hr : putS s = r
  unfold putS at hr
  refine CallOk.body (F0 := [(0, .agg (sqc s))]) Tryz.func65 rfl Tryz.ntmps65 Tryz.results65 rfl (by kernel_rfl) rfl ?_
  (repeat refine PW.seq ?_); refine PW.rg rfl fun K hK => ?_; simp (maxSteps := 3000000) (disch := omega) only [go_sem, ↓reduceIte, reduceCtorEq, pappend, plen, hcl]; refine hK _ _ ?_; clear hK K
  cases hv : vseq s with
  | false =>
    rw [hv, if_neg (by decide)] at hr
    rw [hv] at hvo
    (repeat refine PW.seq ?_); refine PW.rg rfl fun K hK => ?_; simp (maxSteps := 3000000) (disch := omega) only [go_sem, ↓reduceIte, reduceCtorEq, pappend, plen, sqc, hln, htk]
    refine VCx.call (hvo _) rfl ?_; simp (maxSteps := 3000000) (disch := omega) only [go_sem, ↓reduceIte, reduceCtorEq, pappend, plen]; refine hK _ _ ?_; clear hK K
    (repeat refine PW.seq ?_); refine PW.cond (t := _) rfl (fun h => ?_) (fun h => ?_)
    rotate_left
    · cases h
    (repeat refine PW.seq ?_); refine PW.rg rfl fun K hK => ?_; simp (maxSteps := 3000000) (disch := omega) only [go_sem, ↓reduceIte, reduceCtorEq, pappend, plen]; refine hK _ _ ?_; clear hK K
    refine PW.ret ⟨.tup [.agg [.int .i64 0, .slice [] 0 true], .int .i64 1], by simp (maxSteps := 3000000) (disch := omega) only [go_sem, ↓reduceIte, reduceCtorEq, pappend, plen, presults, presult, List.mapM_cons, List.mapM_nil, Option.pure_def, Option.bind_eq_bind, Option.bind_some, Array.toList], ?_⟩
    rw [← hr]
    exact Fin.base (Fz.tupC ⟨Fz.aggC ⟨.id (.int _ _), .slice rfl (fun j x y hx => by simp at hx) (fun e => by cases e), trivial⟩, .id (.int _ _), trivial⟩)
  | true =>
    rw [hv, if_pos rfl] at hr
    rw [hv] at hvo
    obtain ⟨v1, v2, v3, v4, v5, v6⟩ := vseq_f hv
    (repeat refine PW.seq ?_); refine PW.rg rfl fun K hK => ?_; simp (maxSteps := 3000000) (disch := omega) only [go_sem, ↓reduceIte, reduceCtorEq, pappend, plen, sqc, hln, htk]
    refine VCx.call (hvo _) rfl ?_; simp (maxSteps := 3000000) (disch := omega) only [go_sem, ↓reduceIte, reduceCtorEq, pappend, plen]; refine hK _ _ ?_; clear hK K
    (repeat refine PW.seq ?_); refine PW.cond (t := _) rfl (fun h => ?_) (fun h => ?_)
    · cases h
    refine PW.skip ?_
    (repeat refine PW.seq ?_); refine PW.rg rfl fun K hK => ?_; simp (maxSteps := 3000000) (disch := omega) only [go_sem, ↓reduceIte, reduceCtorEq, pappend, plen]; refine VCx.call (neww_ok _) rfl ?_; simp (maxSteps := 3000000) (disch := omega) only [go_sem, ↓reduceIte, reduceCtorEq, pappend, plen]; refine hK _ _ ?_; clear hK K
    refine PW.view (Vs.ghostH (id := H.length + 2) (j := 0) 5 1 (hp2 _ _ _ _ _) rfl) ?_
    refine PW.at [1, 2, 4] (F1 := [(1, .ptr H.length 0 0), (2, .ptr (H.length + 1) 0 0), (4, .ptr (H.length + 2) 0 0)]) (H1 := sHU H s []) ?_ rfl (by unfold sHU; rw [wA0, wB0]; simp [hs2, sqc])
    have hw : s.w.tdiv 16 = ((s.w / 16).toNat : Int) := by rw [tdiv_pos _ _ (by omega)]; omega
    have hh : s.h.tdiv 16 = ((s.h / 16).toNat : Int) := by rw [tdiv_pos _ _ (by omega)]; omega
    have hwb : (s.w / 16).toNat ≤ 4 := by omega
    have hhb : (s.h / 16).toNat ≤ 4 := by omega
    have en : s.num = (s.num.toNat : Int) := by omega
    have ed : s.den = (s.den.toNat : Int) := by omega
    have er : s.br = (s.br.toNat : Int) := by omega
    have ef : s.bf = (s.bf.toNat : Int) := by omega
    have p1 : ∀ (L : List Bool) (V n : Nat), n ≤ 32 → V < 2 ^ n → L.length ≤ 1000000 → CallOk Tryz.prog 95 [.ptr (H.length + 2) 0 0, .int .u32 (V : Int), .int .i64 (n : Int)] (sHU H s L) (.int .i64 0) (sHU H s (L ++ vbits V n)) := fun L V n hn hV hL => by
      have := put_ok (H.length + 2) (H.length + 3) L V n (sHU H s L) (sH_2 H s L) (sH_3 H s L) (by omega) hn (Nat.div_eq_of_lt hV) (by omega)
      rwa [two_sH] at this
    have p2 : ∀ (L : List Bool) (b : Bool), L.length ≤ 1000000 → CallOk Tryz.prog 96 [.ptr (H.length + 2) 0 0, .bool b] (sHU H s L) (.tup []) (sHU H s (L ++ [b])) := fun L b hL => by
      have := pflag_ok (H.length + 2) (H.length + 3) L b (sHU H s L) (sH_2 H s L) (sH_3 H s L) (by omega) (by omega)
      rwa [two_sH] at this
    have p3 : ∀ (L : List Bool) (m u : List UInt8), m.length = 64 → u.length = 64 → L.length ≤ 100000 → ∀ (K : Heap), K[H.length + 2]? = some (wA (H.length + 3) L) → K[H.length + 3]? = some (wB L) → CallOk Tryz.prog 97 [.ptr (H.length + 2) 0 0, .agg (bs m), .agg (bs u)] K (.tup []) (two K (H.length + 2) (H.length + 3) (wA (H.length + 3) (L ++ mxb m u)) (wB (L ++ mxb m u))) := fun L m u hm hu hL K k1 k2 =>
      pmat_ok (H.length + 2) (H.length + 3) L m u K k1 k2 (by omega) (by omega) hm hu
    have p4 : ∀ (L : List Bool), L.length ≤ 1000000 → CallOk Tryz.prog 98 [.ptr (H.length + 2) 0 0] (sHU H s L) (.slice (bs (pk (L ++ [true]))) (pk (L ++ [true])).length false) (sHU H s L) := fun L hL => payload_ok (H.length + 2) (H.length + 3) L (sHU H s L) (sH_2 H s L) (sH_3 H s L) (by omega)
    have q1 := p1 [] (s.w / 16).toNat 8 (by omega) (by omega) (by simp)
    (repeat refine PW.seq ?_); refine PW.rg rfl fun K hK => ?_; simp (maxSteps := 3000000) (disch := omega) only [go_sem, ↓reduceIte, reduceCtorEq, pappend, plen, sH_0, sqc, hw]; refine VCx.call (q1) rfl ?_; simp (maxSteps := 3000000) (disch := omega) only [go_sem, ↓reduceIte, reduceCtorEq, pappend, plen]; refine hK _ _ ?_; clear hK K
    obtain ⟨L1, h1⟩ : ∃ L, L = vbits (s.w / 16).toNat 8 := ⟨_, rfl⟩
    have n1 : L1.length = 8 := by rw [h1]; simp [vbits_len]
    rw [← h1]
    have q2 := p1 L1 (s.h / 16).toNat 8 (by omega) (by omega) (by omega)
    (repeat refine PW.seq ?_); refine PW.rg rfl fun K hK => ?_; simp (maxSteps := 3000000) (disch := omega) only [go_sem, ↓reduceIte, reduceCtorEq, pappend, plen, sH_0, sqc, hh]; refine VCx.call (q2) rfl ?_; simp (maxSteps := 3000000) (disch := omega) only [go_sem, ↓reduceIte, reduceCtorEq, pappend, plen]; refine hK _ _ ?_; clear hK K
    obtain ⟨L2, h2⟩ : ∃ L, L = L1 ++ vbits (s.h / 16).toNat 8 := ⟨_, rfl⟩
    have n2 : L2.length = 16 := by rw [h2]; simp [vbits_len, n1]
    rw [← h2]
    have q3 := p1 L2 s.num.toNat 32 (by omega) (by omega) (by omega)
    rw [← en] at q3
    (repeat refine PW.seq ?_); refine PW.rg rfl fun K hK => ?_; simp (maxSteps := 3000000) (disch := omega) only [go_sem, ↓reduceIte, reduceCtorEq, pappend, plen, sH_0, sqc]; refine VCx.call (q3) rfl ?_; simp (maxSteps := 3000000) (disch := omega) only [go_sem, ↓reduceIte, reduceCtorEq, pappend, plen]; refine hK _ _ ?_; clear hK K
    obtain ⟨L3, h3⟩ : ∃ L, L = L2 ++ vbits s.num.toNat 32 := ⟨_, rfl⟩
    have n3 : L3.length = 48 := by rw [h3]; simp [vbits_len, n2]
    rw [← h3]
    have q4 := p1 L3 s.den.toNat 32 (by omega) (by omega) (by omega)
    rw [← ed] at q4
    (repeat refine PW.seq ?_); refine PW.rg rfl fun K hK => ?_; simp (maxSteps := 3000000) (disch := omega) only [go_sem, ↓reduceIte, reduceCtorEq, pappend, plen, sH_0, sqc]; refine VCx.call (q4) rfl ?_; simp (maxSteps := 3000000) (disch := omega) only [go_sem, ↓reduceIte, reduceCtorEq, pappend, plen]; refine hK _ _ ?_; clear hK K
    obtain ⟨L4, h4⟩ : ∃ L, L = L3 ++ vbits s.den.toNat 32 := ⟨_, rfl⟩
    have n4 : L4.length = 80 := by rw [h4]; simp [vbits_len, n3]
    rw [← h4]
    have q5 := p2 L4 s.il (by omega)
    (repeat refine PW.seq ?_); refine PW.rg rfl fun K hK => ?_; simp (maxSteps := 3000000) (disch := omega) only [go_sem, ↓reduceIte, reduceCtorEq, pappend, plen, sH_0, sqc]; refine VCx.call (q5) rfl ?_; simp (maxSteps := 3000000) (disch := omega) only [go_sem, ↓reduceIte, reduceCtorEq, pappend, plen]; refine hK _ _ ?_; clear hK K
    obtain ⟨L5, h5⟩ : ∃ L, L = L4 ++ [s.il] := ⟨_, rfl⟩
    have n5 : L5.length = 81 := by rw [h5]; simp [n4]
    rw [← h5]
    have q6 := p1 L5 s.br.toNat 32 (by omega) (by omega) (by omega)
    rw [← er] at q6
    (repeat refine PW.seq ?_); refine PW.rg rfl fun K hK => ?_; simp (maxSteps := 3000000) (disch := omega) only [go_sem, ↓reduceIte, reduceCtorEq, pappend, plen, sH_0, sqc]; refine VCx.call (q6) rfl ?_; simp (maxSteps := 3000000) (disch := omega) only [go_sem, ↓reduceIte, reduceCtorEq, pappend, plen]; refine hK _ _ ?_; clear hK K
    obtain ⟨L6, h6⟩ : ∃ L, L = L5 ++ vbits s.br.toNat 32 := ⟨_, rfl⟩
    have n6 : L6.length = 113 := by rw [h6]; simp [vbits_len, n5]
    rw [← h6]
    have q7 := p1 L6 s.bf.toNat 32 (by omega) (by omega) (by omega)
    rw [← ef] at q7
    (repeat refine PW.seq ?_); refine PW.rg rfl fun K hK => ?_; simp (maxSteps := 3000000) (disch := omega) only [go_sem, ↓reduceIte, reduceCtorEq, pappend, plen, sH_0, sqc]; refine VCx.call (q7) rfl ?_; simp (maxSteps := 3000000) (disch := omega) only [go_sem, ↓reduceIte, reduceCtorEq, pappend, plen]; refine hK _ _ ?_; clear hK K
    obtain ⟨L7, h7⟩ : ∃ L, L = L6 ++ vbits s.bf.toNat 32 := ⟨_, rfl⟩
    have n7 : L7.length = 145 := by rw [h7]; simp [vbits_len, n6]
    rw [← h7]
    clear q1 q2 q3 q4 q5 q6 q7 p1 p2
    have x8 := mxb_len s.ia dIn
    have x9 := mxb_len s.ie dIt
    (repeat refine PW.seq ?_); refine PW.drawi [H.length + 2, H.length + 3] [(4, [0, 1]), (48, [0, 1])] [] [51] mix (by kernel_rfl) (by simp <;> omega) fun K hK => ?_
    simp (maxSteps := 3000000) (disch := omega) only [go_sem, ↓reduceIte, reduceCtorEq, pappend, plen, sH_0, sqc, tia, List.length_append, lia, lie]
    refine VCj.read (fun _ _ => din_ok _) rfl ?_; simp (maxSteps := 3000000) (disch := omega) only [go_sem, ↓reduceIte, reduceCtorEq, pappend, plen]
    refine VCj.wrT (i := H.length + 2) (j := H.length + 3) (sH_2 H s L7) (sH_3 H s L7) (by omega) (p3 L7 s.ia dIn hs.ia dIn_len (by omega)) (by simp (maxSteps := 3000000) (disch := omega) only [go_sem, ↓reduceIte, reduceCtorEq, pappend, plen]) (by simp (maxSteps := 3000000) (disch := omega) only [go_sem, ↓reduceIte, reduceCtorEq, pappend, plen]) (by simp (maxSteps := 3000000) (disch := omega) only [go_sem, ↓reduceIte, reduceCtorEq, pappend, plen]) (by simp (maxSteps := 3000000) (disch := omega) only [go_sem, ↓reduceIte, reduceCtorEq, pappend, plen]) rfl ?_
    simp (maxSteps := 3000000) (disch := omega) only [go_sem, ↓reduceIte, reduceCtorEq, pappend, plen, two_sH]; refine hK _ _ ?_; clear hK K
    obtain ⟨L8, h8⟩ : ∃ L, L = L7 ++ mxb s.ia dIn := ⟨_, rfl⟩
    have n8 : L8.length ≤ 145 + 513 := by rw [h8, List.length_append]; omega
    rw [← h8]
    (repeat refine PW.seq ?_); refine PW.drawi [H.length + 2, H.length + 3] [(4, [0, 1]), (53, [0, 1])] [] [56] mix (by kernel_rfl) (by simp <;> omega) fun K hK => ?_
    simp (maxSteps := 3000000) (disch := omega) only [go_sem, ↓reduceIte, reduceCtorEq, pappend, plen, sH_0, sqc, tie, tk, List.length_append, lia, lie]
    refine VCj.read (fun _ _ => dit_ok _) rfl ?_; simp (maxSteps := 3000000) (disch := omega) only [go_sem, ↓reduceIte, reduceCtorEq, pappend, plen]
    refine VCj.wrT (i := H.length + 2) (j := H.length + 3) (sH_2 H s L8) (sH_3 H s L8) (by omega) (p3 L8 s.ie dIt hs.ie dIt_len (by omega)) (by simp (maxSteps := 3000000) (disch := omega) only [go_sem, ↓reduceIte, reduceCtorEq, pappend, plen]) (by simp (maxSteps := 3000000) (disch := omega) only [go_sem, ↓reduceIte, reduceCtorEq, pappend, plen]) (by simp (maxSteps := 3000000) (disch := omega) only [go_sem, ↓reduceIte, reduceCtorEq, pappend, plen]) (by simp (maxSteps := 3000000) (disch := omega) only [go_sem, ↓reduceIte, reduceCtorEq, pappend, plen]) rfl ?_
    simp (maxSteps := 3000000) (disch := omega) only [go_sem, ↓reduceIte, reduceCtorEq, pappend, plen, two_sH]; refine hK _ _ ?_; clear hK K
    obtain ⟨L9, h9⟩ : ∃ L, L = L8 ++ mxb s.ie dIt := ⟨_, rfl⟩
    have n9 : L9.length ≤ 145 + 513 + 513 := by rw [h9, List.length_append]; omega
    rw [← h9]
    have hL : sbits s = L9 := by rw [h9, h8, h7, h6, h5, h4, h3, h2, h1]; simp [sbits]
    have q9 := p4 L9 (by omega)
    (repeat refine PW.seq ?_); refine PW.rg rfl fun K hK => ?_; simp (maxSteps := 3000000) (disch := omega) only [go_sem, ↓reduceIte, reduceCtorEq, pappend, plen]; refine VCx.call (q9) rfl ?_; simp (maxSteps := 3000000) (disch := omega) only [go_sem, ↓reduceIte, reduceCtorEq, pappend, plen, sH_1, sH_l]
    refine hK _ _ ?_; clear hK K
    generalize hP : pk (L9 ++ [true]) = P at *
    have hE : (sHU H s L9).set (H.length + 1) ⟨41, 0, [.int .i64 179, .slice (bs P) P.length false]⟩ = H ++ [⟨51, 0, sqc s⟩, ⟨41, 0, [.int .i64 179, .slice (bs P) P.length false]⟩, wA (H.length + 3) L9, wB L9] := hs1 _ _ _ _ _
    refine PW.eq rfl hE ?_
    refine PW.ret ⟨.tup [.agg [.int .i64 179, .slice (bs P) P.length false], .int .i64 0], by simp (maxSteps := 3000000) (disch := omega) only [go_sem, ↓reduceIte, reduceCtorEq, pappend, plen, presults, presult, List.mapM_cons, List.mapM_nil, Option.pure_def, Option.bind_eq_bind, Option.bind_some, Array.toList], ?_⟩
    rw [← hr, hL, hP]
    exact Fin.base (.id (uve_scoped _ _ _ _))

end Go.Proofs.YtbhdollgohgkgaaGreatDoor.Sc

namespace Go.Proofs.YtbhdollgohgkgaaGreatDoor.Sc
set_option linter.all false
set_option linter.unusedVariables false
set_option linter.unusedSimpArgs false
open Pm Ty Go.RowKit

theorem flag_ref (b : Bool) (H : Heap) : CallOk Tryz.prog 90 [.bool b] H (.int .u8 (b.toNat : Int)) H := by
  refine CallOk.body (F0 := [(0, .bool b)]) Tryz.func90 rfl Tryz.ntmps90 Tryz.results90 rfl (by kernel_rfl) rfl ?_
  cases b <;> (repeat' (first | refine PW.seq ?_ | refine PW.skip ?_ | refine PW.block ?_ | (refine PW.rg rfl fun K hK => ?_; simp (maxSteps := 3000000) (disch := omega) only [go_sem, ↓reduceIte, reduceCtorEq, pappend, plen]) | (refine PW.draw mix (by kernel_rfl) fun K hK => ?_; simp (maxSteps := 3000000) (disch := omega) only [go_sem, ↓reduceIte, reduceCtorEq, pappend, plen]) | (refine PW.drawg mix (by kernel_rfl) fun K hK => ?_; simp (maxSteps := 3000000) (disch := omega) only [go_sem, ↓reduceIte, reduceCtorEq, pappend, plen]) | (refine PW.drawt [] [] mix (by kernel_rfl) fun K hK => ?_; simp (maxSteps := 3000000) (disch := omega) only [go_sem, ↓reduceIte, reduceCtorEq, pappend, plen]) | ((first | refine VO_cond ?_ ?_ | refine VOd_cond ?_ ?_ | refine VOg_cond ?_ ?_ | refine VOh_cond ?_ ?_ | refine VOi_cond ?_ ?_ | refine And.intro ?_ ?_) <;> intro h <;> (try simp only [Bool.not_eq_true', Bool.not_eq_false', decide_eq_true_eq, decide_eq_false_iff_not] at h) <;> simp (maxSteps := 3000000) (disch := omega) only [go_sem, ↓reduceIte, reduceCtorEq, pappend, plen, h]) | (refine hK _ _ ?_; clear hK K) | (refine PW.cond (t := _) rfl (fun h => ?_) (fun h => ?_) <;> (try (cases h; done)) <;> (try simp only [Bool.not_eq_true', Bool.not_eq_false', decide_eq_true_eq, decide_eq_false_iff_not] at h))))
  all_goals ((refine PW.ret ⟨_, rfl, ?_⟩; first | refine .inl ⟨?_, rfl⟩ | refine Fin.base (.id' ?_ (.bool _)) | refine Fin.base (.id' ?_ (.int _ _))); rfl)
theorem zlen (L : List Bool) : (bs (zb L)).length = L.length := by rw [length_bs, zb_len]
theorem bs_zb_app (L M : List Bool) : bs (zb (L ++ M)) = bs (zb L) ++ bs (zb M) := by rw [zb_append, bs_append]
/-- What 'matrix' has in memory. -/
def xH (H : Heap) (m u : List UInt8) (L : List Bool) : Heap := H ++ [⟨49, 0, bs m⟩, ⟨49, 0, bs u⟩, ⟨5, L.length, bs (zb L)⟩, ⟨143, 0, scV⟩]
theorem xH_l (H : Heap) (m u : List UInt8) (L : List Bool) : (xH H m u L).length = H.length + 4 := by simp [xH]
theorem xH_sc (H : Heap) (m u : List UInt8) (L : List Bool) (h : HSc H) : HSc (xH H m u L) := hscW (fun b hb x hx => by
  simp only [List.mem_cons, List.not_mem_nil, or_false] at hb
  simp only [List.length_cons, List.length_nil]
  rcases hb with rfl | rfl | rfl | rfl
  · exact bs_scoped _ _ x hx
  · exact bs_scoped _ _ x hx
  · exact bs_scoped _ _ x hx
  · simp only [scV, List.mem_map] at hx
    obtain ⟨n, _, rfl⟩ := hx
    exact .int _ _) h

set_option maxHeartbeats 4000000 in
theorem matrix_ref (m u : List UInt8) (H : Heap) (hm : m.length = 64) (hu : u.length = 64) :
    CallOk Tryz.prog 91 [.agg (bs m), .agg (bs u)] H (.slice (bs (zb (mxb m u))) (mxb m u).length false) H := by
  have e1 := eqB m u hm hu
  have am : (bs m).all PV.cell = true := by simp [bs, PV.cell]
  have au : (bs u).all PV.cell = true := by simp [bs, PV.cell]
  have lm : (bs m).length = 64 := by rw [length_bs]; exact hm
  have lu : (bs u).length = 64 := by rw [length_bs]; exact hu
  have tm : List.take 64 (bs m) = bs m := List.take_of_length_le (by omega)
  have tu : List.take 64 (bs u) = bs u := List.take_of_length_le (by omega)
  have sl : scV.length = 64 := rfl
  have sc' : scV.all PV.cell = true := by decide +kernel
  have sd : List.drop 64 scV = [] := rfl
  have bg : ∀ p, p < 64 → (bs m)[sk p]? = some (.int .u8 ((m.getD (sk p) 0).toNat : Int)) := fun p hp => by
    rw [bs_get _ _ (by rw [hm]; exact sk_lt p hp)]; rfl
  refine CallOk.body (F0 := [(0, .agg (bs m)), (1, .agg (bs u))]) Tryz.func91 rfl Tryz.ntmps91 Tryz.results91 rfl (by kernel_rfl) rfl ?_
  (repeat refine PW.seq ?_); refine PW.rg rfl fun K hK => ?_; simp (maxSteps := 3000000) (disch := omega) only [go_sem, ↓reduceIte, reduceCtorEq, pappend, plen, am, au]; refine hK _ _ ?_; clear hK K
  (repeat refine PW.seq ?_); refine PW.rg rfl fun K hK => ?_; simp (maxSteps := 3000000) (disch := omega) only [go_sem, ↓reduceIte, reduceCtorEq, pappend, plen, lm, lu, tm, tu, e1]; refine hK _ _ ?_; clear hK K
  cases he : (m == u) with
  | true =>
    have hmu : mxb m u = [false] := by unfold mxb; rw [if_pos (by simpa using he)]
    (repeat refine PW.seq ?_); refine PW.cond (t := _) rfl (fun h => ?_) (fun h => ?_)
    rotate_left
    · cases h
    (repeat refine PW.seq ?_); refine PW.rg rfl fun K hK => ?_; simp (maxSteps := 3000000) (disch := omega) only [go_sem, ↓reduceIte, reduceCtorEq, pappend, plen]; refine hK _ _ ?_; clear hK K
    refine PW.ret ⟨.slice [.int .u8 0] 1 true, by simp (maxSteps := 3000000) (disch := omega) only [go_sem, ↓reduceIte, reduceCtorEq, pappend, plen, presults, presult, List.mapM_cons, List.mapM_nil, Option.pure_def, Option.bind_eq_bind, Option.bind_some, Array.toList], ?_⟩
    rw [hmu]
    exact Fin.base (Fz.sliceC ⟨.id (.int _ _), trivial⟩ (fun e => by cases e))
  | false =>
    have hmu : mxb m u = true :: mxe m 64 := by unfold mxb; rw [if_neg (by simpa using he)]
    (repeat refine PW.seq ?_); refine PW.cond (t := _) rfl (fun h => ?_) (fun h => ?_)
    · cases h
    refine PW.skip ?_
    (repeat refine PW.seq ?_)
    refine PW.view (Vs.place 5) ?_
    refine PW.eq rfl (show _ = H ++ [⟨49, 0, bs m⟩, ⟨49, 0, bs u⟩, ⟨5, 0, []⟩] from List.append_assoc _ _ _) ?_
    (repeat refine PW.seq ?_); refine PW.seqi [H.length + 2] [(12, 0)] rfl fun K hK => ?_
    simp (maxSteps := 3000000) (disch := omega) only [go_sem, ↓reduceIte, reduceCtorEq, pappend, plen]
    refine hK _ _ ?_; clear hK K
    (repeat refine PW.seq ?_); refine PW.rg rfl fun K hK => ?_; simp (maxSteps := 3000000) (disch := omega) only [go_sem, ↓reduceIte, reduceCtorEq, pappend, plen, sc']; refine VCx.call (scan_ref _) rfl ?_; simp (maxSteps := 3000000) (disch := omega) only [go_sem, ↓reduceIte, reduceCtorEq, pappend, plen, sc']; refine hK _ _ ?_; clear hK K
    (repeat refine PW.seq ?_); refine PW.rg rfl fun K hK => ?_; simp (maxSteps := 3000000) (disch := omega) only [go_sem, ↓reduceIte, reduceCtorEq, pappend, plen]; refine hK _ _ ?_; clear hK K
    have fin : ∀ L : List Bool, Fin H (.slice (bs (zb L)) L.length false) H (.msl (H.length + 2) L.length 0 L.length 1 true) (xH H m u L) := fun L =>
      Fin.base (Fz.mslC (e := 5) (xs := bs (zb L)) (by omega) (hp2 _ _ _ _ _) (by rw [zlen, Nat.mul_one]) (FzC.refl (bs_scoped _ _)))
    have g0 : ∀ L K, (xH H m u L ++ K)[H.length]? = some ⟨49, 0, bs m⟩ := fun L K => by rw [List.getElem?_append_left (by rw [xH_l]; omega)]; exact hp0 _ _ _
    have g2 : ∀ L K, (xH H m u L ++ K)[H.length + 2]? = some ⟨5, L.length, bs (zb L)⟩ := fun L K => by rw [List.getElem?_append_left (by rw [xH_l]; omega)]; exact hp2 _ _ _ _ _
    have g3 : ∀ L K, (xH H m u L ++ K)[H.length + 3]? = some ⟨143, 0, scV⟩ := fun L K => by rw [List.getElem?_append_left (by rw [xH_l]; omega)]; exact hp3 _ _ _ _ _ _
    have s2 : ∀ L K X, (xH H m u L ++ K).set (H.length + 2) X = (H ++ [⟨49, 0, bs m⟩, ⟨49, 0, bs u⟩, X, ⟨143, 0, scV⟩]) ++ K := fun L K X => by
      unfold xH
      rw [List.append_assoc, aps, List.append_assoc]; rfl
    (repeat refine PW.seq ?_); refine PW.block (PW.loop ?_)
    suffices hloop : ∀ (k : Nat) (L : List Bool), k ≤ 64 → L = true :: mxe m k → PL Tryz.prog _ _ [(2, .ptr H.length 0 0), (5, .msl (H.length + 2) L.length 0 L.length 1 true), (6, .ptr (H.length + 3) 0 0), (7, .int .i64 (k : Int))] (xH H m u L) _ by
      exact PL.at [2, 5, 6, 7] (hloop 0 [true] (by omega) rfl) rfl (by unfold xH; rfl)
    intro k L hk hL
    induction hd : 64 - k using Nat.strongRecOn generalizing k L with
    | _ n ih =>
      refine PL.round ?_; (repeat refine PW.seq ?_); refine PW.rg rfl fun K hK => ?_; simp (maxSteps := 3000000) (disch := omega) only [go_sem, ↓reduceIte, reduceCtorEq, pappend, plen]; refine hK _ _ ?_; clear hK K
      (repeat refine PW.seq ?_); refine PW.cond (t := _) rfl (fun h => ?_) (fun h => ?_)
      · have h4 : k < 64 := by have := of_decide_eq_true h; omega
        have s1 := scV_at k h4
        have b1 := bg k h4
        have b2 := sk_lt k h4
        have hLl : L.length = 1 + k * 8 := by rw [hL, List.length_cons, mxe_len]; omega
        have hv : (m.getD (sk k) 0).toNat < 256 := UInt8.toNat_lt _
        have hnext := ih (64 - (k + 1)) (by omega) (k + 1) (L ++ vbits (m.getD (sk k) 0).toNat 8) (by omega) (by rw [hL, mxe, List.cons_append]) rfl
        clear hL
        have zL := zlen L
        have g0' := g0 L []
        have g3' := g3 L []
        rw [List.append_nil] at g0' g3'
        generalize (m.getD (sk k) 0).toNat = V at *
        generalize sk k = q at *
        have vl8 := vbits_len V 8
        have z8 := zlen (vbits V 8)
        have t8 : List.take 8 (bs (zb (vbits V 8))) = bs (zb (vbits V 8)) := List.take_of_length_le (by omega)
        refine PW.skip ?_; (repeat refine PW.seq ?_); refine PW.block ?_
        (repeat refine PW.seq ?_); refine PW.rg rfl fun K hK => ?_; simp (maxSteps := 3000000) (disch := omega) only [go_sem, ↓reduceIte, reduceCtorEq, pappend, plen, g0', g3', lm, b1, s1, sl]; refine VCx.call (bits_ref V 8 _ (by omega)) rfl ?_; simp (maxSteps := 3000000) (disch := omega) only [go_sem, ↓reduceIte, reduceCtorEq, pappend, plen, g2, zL, z8, vl8, t8, s2, List.length_append]; refine hK _ _ ?_; clear hK K
        (repeat refine PW.seq ?_); refine PW.rg rfl fun K hK => ?_; simp (maxSteps := 3000000) (disch := omega) only [go_sem, ↓reduceIte, reduceCtorEq, pappend, plen]; refine hK _ _ ?_; clear hK K
        have ap := bs_zb_app L (vbits V 8)
        have apl : (L ++ vbits V 8).length = L.length + 8 := by rw [List.length_append, vl8]
        refine PL.keep [7, 2, 5, 6] ?_
        refine PL.view (Vs.trim (F1 := [(2, .ptr H.length 0 0), (5, .msl (H.length + 2) (L ++ vbits V 8).length 0 (L ++ vbits V 8).length 1 true), (6, .ptr (H.length + 3) 0 0), (7, .int .i64 ((k + 1 : Nat) : Int))]) (H1 := xH H m u (L ++ vbits V 8)) (xH_sc H m u _) (by show H.length ≤ _; rw [xH_l]; omega) (by unfold xH; rw [ap, apl]; exact (List.append_assoc _ [_, _, _, _] [_]).symm) ?_) hnext
        rw [xH_l, apl]
        exact ⟨.id (.ptr (by omega)), .id (.msl (by omega)), .id (.ptr (by omega)), .id (.int _ _), trivial⟩
      · have h4 : k = 64 := by have := of_decide_eq_false h; omega
        subst h4
        refine PW.exit ?_
        (repeat refine PW.seq ?_); refine PW.rg rfl fun K hK => ?_; simp (maxSteps := 3000000) (disch := omega) only [go_sem, ↓reduceIte, reduceCtorEq, pappend, plen]; refine hK _ _ ?_; clear hK K
        rw [← hmu] at hL
        subst hL
        exact PW.ret ⟨_, rfl, fin _⟩
/-- What the reference's PutSeq has in memory. -/
def rH (H : Heap) (s : Sq) (L : List Bool) : Heap := H ++ [⟨51, 0, sqc s⟩, ⟨41, 0, [.int .i64 0, .slice [] 0 true]⟩, ⟨5, L.length, bs (zb L)⟩]
theorem rH_l (H : Heap) (s : Sq) (L : List Bool) : (rH H s L).length = H.length + 3 := by simp [rH]
theorem rH_sc (H : Heap) (s : Sq) (L : List Bool) (h : HSc H) : HSc (rH H s L) := hscW (fun b hb x hx => by
  simp only [List.mem_cons, List.not_mem_nil, or_false] at hb
  simp only [List.length_cons, List.length_nil]
  rcases hb with rfl | rfl | rfl
  · exact sqc_scoped _ _ x hx
  · simp only [List.mem_cons, List.not_mem_nil, or_false] at hx
    rcases hx with rfl | rfl
    · exact .int _ _
    · exact sl_scoped (fun y hy => by cases hy)
  · exact bs_scoped _ _ x hx) h
theorem rH_0 (H : Heap) (s : Sq) (L : List Bool) : (rH H s L)[H.length]? = some ⟨51, 0, sqc s⟩ := hp0 _ _ _
theorem rH_2 (H : Heap) (s : Sq) (L : List Bool) (K : Heap) : (rH H s L ++ K)[H.length + 2]? = some ⟨5, L.length, bs (zb L)⟩ := by
  rw [List.getElem?_append_left (by rw [rH_l]; omega)]; exact hp2 _ _ _ _ _
theorem rH_s (H : Heap) (s : Sq) (L : List Bool) (K : Heap) (X : Blk) : (rH H s L ++ K).set (H.length + 2) X = (H ++ [⟨51, 0, sqc s⟩, ⟨41, 0, [.int .i64 0, .slice [] 0 true]⟩, X]) ++ K := by
  unfold rH
  rw [List.append_assoc, aps, List.append_assoc]; rfl
def rF (H : Heap) (L : List Bool) : Fr := [(1, .ptr H.length 0 0), (2, .ptr (H.length + 1) 0 0), (4, .msl (H.length + 2) L.length 0 L.length 1 true)]
/-- One more part has been appended. -/
theorem rH_next {P : Program} {N : Nat} {H : Heap} {s : Sq} {L M : List Bool} {c : Code} {F : Fr} {X : Blk} {n : Nat} {Q : Exit → Fr → Heap → Prop} (hn : n = L.length + M.length) (hF : kp [1, 2, 4] F = [(1, .ptr H.length 0 0), (2, .ptr (H.length + 1) 0 0), (4, .msl (H.length + 2) n 0 n 1 true)])
    (h : PW P ⟨N, H⟩ c (rF H (L ++ M)) (rH H s (L ++ M)) Q) : PW P ⟨N, H⟩ c F (H ++ [⟨51, 0, sqc s⟩, ⟨41, 0, [.int .i64 0, .slice [] 0 true]⟩, ⟨5, n, bs (zb L) ++ bs (zb M)⟩, X]) Q := by
  subst hn
  refine PW.keep [1, 2, 4] ?_
  rw [hF]
  refine PW.view (Vs.trim (F1 := rF H (L ++ M)) (H1 := rH H s (L ++ M)) (K := [X]) (rH_sc H s _) (by show H.length ≤ _; rw [rH_l]; omega) (by unfold rH; rw [bs_zb_app, List.length_append]; exact (List.append_assoc _ [_, _, _] [_]).symm) ?_) h
  rw [rH_l, rF, List.length_append]
  exact ⟨.id (.ptr (by omega)), .id (.ptr (by omega)), .id (.msl (by omega)), trivial⟩
theorem rH_next0 {P : Program} {N : Nat} {H : Heap} {s : Sq} {L M : List Bool} {c : Code} {F : Fr} {n : Nat} {C : List PV} {Q : Exit → Fr → Heap → Prop} (hn : n = L.length + M.length) (hC : bs (zb M) = C) (hF : kp [1, 2, 4] F = [(1, .ptr H.length 0 0), (2, .ptr (H.length + 1) 0 0), (4, .msl (H.length + 2) n 0 n 1 true)])
    (h : PW P ⟨N, H⟩ c (rF H (L ++ M)) (rH H s (L ++ M)) Q) : PW P ⟨N, H⟩ c F (H ++ [⟨51, 0, sqc s⟩, ⟨41, 0, [.int .i64 0, .slice [] 0 true]⟩, ⟨5, n, bs (zb L) ++ C⟩]) Q := by
  subst hn hC
  exact PW.at [1, 2, 4] h (by rw [hF, rF, List.length_append]) (by unfold rH; rw [bs_zb_app, List.length_append])
theorem mxb_pos (m u : List UInt8) : 0 < (mxb m u).length := by unfold mxb; split <;> simp
theorem zb_one (b : Bool) : bs (zb [b]) = [.int .u8 (b.toNat : Int)] := by cases b <;> rfl

set_option maxHeartbeats 4000000 in
theorem puts_ref (s : Sq) (H : Heap) (hs : SqOk s) : CallOk Tryz.prog 60 [.agg (sqc s)] H (.tup [uv (putS s).1 (putS s).2.1, .int .i64 (putS s).2.2]) H := by
  have hvo := fun K => vseq_ref s K hs
  have hcl := sqc_cell' s
  have hln : (bs s.ia ++ bs s.ie).length = 128 := by simp [length_bs, hs.ia, hs.ie]
  have htk := sq_all s.ia s.ie hs.ia hs.ie
  have tia := sq_ia s.ia s.ie hs.ia
  have tie := sq_ie s.ia s.ie hs.ia
  have tk := sq_tk s.ie hs.ie
  have lia : (bs s.ia).length = 64 := by rw [length_bs]; exact hs.ia
  have lie : (bs s.ie).length = 64 := by rw [length_bs]; exact hs.ie
  generalize hr : putS s = r
  unfold putS at hr
  refine CallOk.body (F0 := [(0, .agg (sqc s))]) Tryz.func60 rfl Tryz.ntmps60 Tryz.results60 rfl (by kernel_rfl) rfl ?_
  (repeat refine PW.seq ?_); refine PW.rg rfl fun K hK => ?_; simp (maxSteps := 3000000) (disch := omega) only [go_sem, ↓reduceIte, reduceCtorEq, pappend, plen, hcl]; refine hK _ _ ?_; clear hK K
  cases hv : vseq s with
  | false =>
    rw [hv, if_neg (by decide)] at hr
    rw [hv] at hvo
    (repeat refine PW.seq ?_); refine PW.rg rfl fun K hK => ?_; simp (maxSteps := 3000000) (disch := omega) only [go_sem, ↓reduceIte, reduceCtorEq, pappend, plen, sqc, hln, htk]
    refine VCx.call (hvo _) rfl ?_; simp (maxSteps := 3000000) (disch := omega) only [go_sem, ↓reduceIte, reduceCtorEq, pappend, plen]; refine hK _ _ ?_; clear hK K
    (repeat refine PW.seq ?_); refine PW.cond (t := _) rfl (fun h => ?_) (fun h => ?_)
    rotate_left
    · cases h
    (repeat refine PW.seq ?_); refine PW.rg rfl fun K hK => ?_; simp (maxSteps := 3000000) (disch := omega) only [go_sem, ↓reduceIte, reduceCtorEq, pappend, plen]; refine hK _ _ ?_; clear hK K
    refine PW.ret ⟨.tup [.agg [.int .i64 0, .slice [] 0 true], .int .i64 1], by simp (maxSteps := 3000000) (disch := omega) only [go_sem, ↓reduceIte, reduceCtorEq, pappend, plen, presults, presult, List.mapM_cons, List.mapM_nil, Option.pure_def, Option.bind_eq_bind, Option.bind_some, Array.toList], ?_⟩
    rw [← hr]
    exact Fin.base (Fz.tupC ⟨Fz.aggC ⟨.id (.int _ _), .slice rfl (fun j x y hx => by simp at hx) (fun e => by cases e), trivial⟩, .id (.int _ _), trivial⟩)
  | true =>
    rw [hv, if_pos rfl] at hr
    rw [hv] at hvo
    obtain ⟨v1, v2, v3, v4, v5, v6⟩ := vseq_f hv
    (repeat refine PW.seq ?_); refine PW.rg rfl fun K hK => ?_; simp (maxSteps := 3000000) (disch := omega) only [go_sem, ↓reduceIte, reduceCtorEq, pappend, plen, sqc, hln, htk]
    refine VCx.call (hvo _) rfl ?_; simp (maxSteps := 3000000) (disch := omega) only [go_sem, ↓reduceIte, reduceCtorEq, pappend, plen]; refine hK _ _ ?_; clear hK K
    (repeat refine PW.seq ?_); refine PW.cond (t := _) rfl (fun h => ?_) (fun h => ?_)
    · cases h
    refine PW.skip ?_
    have hw : s.w.tdiv 16 = ((s.w / 16).toNat : Int) := by rw [tdiv_pos _ _ (by omega)]; omega
    have hh : s.h.tdiv 16 = ((s.h / 16).toNat : Int) := by rw [tdiv_pos _ _ (by omega)]; omega
    have hwb : (s.w / 16).toNat ≤ 4 := by omega
    have hhb : (s.h / 16).toNat ≤ 4 := by omega
    have en : s.num = (s.num.toNat : Int) := by omega
    have ed : s.den = (s.den.toNat : Int) := by omega
    have er : s.br = (s.br.toNat : Int) := by omega
    have ef : s.bf = (s.bf.toNat : Int) := by omega
    have q1 := fun K => bits_ref (s.w / 16).toNat 8 K (by omega)
    obtain ⟨L1, h1⟩ : ∃ L, L = vbits (s.w / 16).toNat 8 := ⟨_, rfl⟩
    have n1 : L1.length = 8 := by rw [h1]; simp [vbits_len]
    have z1 := zlen L1
    rw [n1] at z1
    rw [← h1] at q1
    (repeat refine PW.seq ?_); refine PW.rg rfl fun K hK => ?_; simp (maxSteps := 3000000) (disch := omega) only [go_sem, ↓reduceIte, reduceCtorEq, pappend, plen, sqc, hw]; refine VCx.call (q1 _) rfl ?_; simp (maxSteps := 3000000) (disch := omega) only [go_sem, ↓reduceIte, reduceCtorEq, pappend, plen, z1]; refine hK _ _ ?_; clear hK K
    refine PW.at [1, 2, 4] (F1 := rF H L1) (H1 := rH H s L1) ?_ (by unfold rF; rw [n1]; rfl) (by unfold rH; rw [n1]; rfl)
    have q2 := fun K => bits_ref (s.h / 16).toNat 8 K (by omega)
    obtain ⟨M2, hM2⟩ : ∃ L, L = vbits (s.h / 16).toNat 8 := ⟨_, rfl⟩
    have k2 : M2.length = 8 := by rw [hM2]; simp [vbits_len]
    have z2 := zlen M2
    have y2 := zlen L1
    rw [← hM2] at q2
    have t2 : List.take 8 (bs (zb M2)) = bs (zb M2) := List.take_of_length_le (by omega)
    rw [k2] at z2
    (repeat refine PW.seq ?_); refine PW.rg rfl fun K hK => ?_; simp (maxSteps := 3000000) (disch := omega) only [go_sem, ↓reduceIte, reduceCtorEq, pappend, plen, rF, rH_0, sqc, hh]; refine VCx.call (q2 _) rfl ?_; simp (maxSteps := 3000000) (disch := omega) only [go_sem, ↓reduceIte, reduceCtorEq, pappend, plen, rH_2, z2, y2, t2, rH_s, n1, List.length_append, Nat.reduceAdd]; refine hK _ _ ?_; clear hK K
    refine rH_next (s := s) (L := L1) (M := M2) (by omega) (by rfl) ?_
    obtain ⟨L2, h2⟩ : ∃ L, L = L1 ++ M2 := ⟨_, rfl⟩
    have n2 : L2.length = 16 := by rw [h2, List.length_append]; omega
    rw [← h2]
    have q3 := fun K => bits_ref s.num.toNat 32 K (by omega)
    obtain ⟨M3, hM3⟩ : ∃ L, L = vbits s.num.toNat 32 := ⟨_, rfl⟩
    have k3 : M3.length = 32 := by rw [hM3]; simp [vbits_len]
    have z3 := zlen M3
    have y3 := zlen L2
    rw [← hM3] at q3
    rw [← en] at q3
    have t3 : List.take 32 (bs (zb M3)) = bs (zb M3) := List.take_of_length_le (by omega)
    rw [k3] at z3
    (repeat refine PW.seq ?_); refine PW.rg rfl fun K hK => ?_; simp (maxSteps := 3000000) (disch := omega) only [go_sem, ↓reduceIte, reduceCtorEq, pappend, plen, rF, rH_0, sqc]; refine VCx.call (q3 _) rfl ?_; simp (maxSteps := 3000000) (disch := omega) only [go_sem, ↓reduceIte, reduceCtorEq, pappend, plen, rH_2, z3, y3, t3, rH_s, n2, List.length_append, Nat.reduceAdd]; refine hK _ _ ?_; clear hK K
    refine rH_next (s := s) (L := L2) (M := M3) (by omega) (by rfl) ?_
    obtain ⟨L3, h3⟩ : ∃ L, L = L2 ++ M3 := ⟨_, rfl⟩
    have n3 : L3.length = 48 := by rw [h3, List.length_append]; omega
    rw [← h3]
    have q4 := fun K => bits_ref s.den.toNat 32 K (by omega)
    obtain ⟨M4, hM4⟩ : ∃ L, L = vbits s.den.toNat 32 := ⟨_, rfl⟩
    have k4 : M4.length = 32 := by rw [hM4]; simp [vbits_len]
    have z4 := zlen M4
    have y4 := zlen L3
    rw [← hM4] at q4
    rw [← ed] at q4
    have t4 : List.take 32 (bs (zb M4)) = bs (zb M4) := List.take_of_length_le (by omega)
    rw [k4] at z4
    (repeat refine PW.seq ?_); refine PW.rg rfl fun K hK => ?_; simp (maxSteps := 3000000) (disch := omega) only [go_sem, ↓reduceIte, reduceCtorEq, pappend, plen, rF, rH_0, sqc]; refine VCx.call (q4 _) rfl ?_; simp (maxSteps := 3000000) (disch := omega) only [go_sem, ↓reduceIte, reduceCtorEq, pappend, plen, rH_2, z4, y4, t4, rH_s, n3, List.length_append, Nat.reduceAdd]; refine hK _ _ ?_; clear hK K
    refine rH_next (s := s) (L := L3) (M := M4) (by omega) (by rfl) ?_
    obtain ⟨L4, h4⟩ : ∃ L, L = L3 ++ M4 := ⟨_, rfl⟩
    have n4 : L4.length = 80 := by rw [h4, List.length_append]; omega
    rw [← h4]
    have f5 := fun K => flag_ref s.il K
    have y5 := zlen L4
    have g5 := rH_2 H s L4 []
    have i5 := rH_s H s L4 []
    simp only [List.append_nil] at g5 i5
    (repeat refine PW.seq ?_); refine PW.rg rfl fun K hK => ?_; simp (maxSteps := 3000000) (disch := omega) only [go_sem, ↓reduceIte, reduceCtorEq, pappend, plen, rF, rH_0, sqc]; refine VCx.call (f5 _) rfl ?_; simp (maxSteps := 3000000) (disch := omega) only [go_sem, ↓reduceIte, reduceCtorEq, pappend, plen, g5, y5, i5, n4, List.length_append, Nat.reduceAdd]; refine hK _ _ ?_; clear hK K
    refine rH_next0 (s := s) (L := L4) (M := [s.il]) (by simp [n4]) (zb_one _) (by rfl) ?_
    obtain ⟨L5, h5⟩ : ∃ L, L = L4 ++ [s.il] := ⟨_, rfl⟩
    have n5 : L5.length = 81 := by rw [h5, List.length_append, n4]; rfl
    rw [← h5]
    have q6 := fun K => bits_ref s.br.toNat 32 K (by omega)
    obtain ⟨M6, hM6⟩ : ∃ L, L = vbits s.br.toNat 32 := ⟨_, rfl⟩
    have k6 : M6.length = 32 := by rw [hM6]; simp [vbits_len]
    have z6 := zlen M6
    have y6 := zlen L5
    rw [← hM6] at q6
    rw [← er] at q6
    have t6 : List.take 32 (bs (zb M6)) = bs (zb M6) := List.take_of_length_le (by omega)
    rw [k6] at z6
    (repeat refine PW.seq ?_); refine PW.rg rfl fun K hK => ?_; simp (maxSteps := 3000000) (disch := omega) only [go_sem, ↓reduceIte, reduceCtorEq, pappend, plen, rF, rH_0, sqc]; refine VCx.call (q6 _) rfl ?_; simp (maxSteps := 3000000) (disch := omega) only [go_sem, ↓reduceIte, reduceCtorEq, pappend, plen, rH_2, z6, y6, t6, rH_s, n5, List.length_append, Nat.reduceAdd]; refine hK _ _ ?_; clear hK K
    refine rH_next (s := s) (L := L5) (M := M6) (by omega) (by rfl) ?_
    obtain ⟨L6, h6⟩ : ∃ L, L = L5 ++ M6 := ⟨_, rfl⟩
    have n6 : L6.length = 113 := by rw [h6, List.length_append]; omega
    rw [← h6]
    have q7 := fun K => bits_ref s.bf.toNat 32 K (by omega)
    obtain ⟨M7, hM7⟩ : ∃ L, L = vbits s.bf.toNat 32 := ⟨_, rfl⟩
    have k7 : M7.length = 32 := by rw [hM7]; simp [vbits_len]
    have z7 := zlen M7
    have y7 := zlen L6
    rw [← hM7] at q7
    rw [← ef] at q7
    have t7 : List.take 32 (bs (zb M7)) = bs (zb M7) := List.take_of_length_le (by omega)
    rw [k7] at z7
    (repeat refine PW.seq ?_); refine PW.rg rfl fun K hK => ?_; simp (maxSteps := 3000000) (disch := omega) only [go_sem, ↓reduceIte, reduceCtorEq, pappend, plen, rF, rH_0, sqc]; refine VCx.call (q7 _) rfl ?_; simp (maxSteps := 3000000) (disch := omega) only [go_sem, ↓reduceIte, reduceCtorEq, pappend, plen, rH_2, z7, y7, t7, rH_s, n6, List.length_append, Nat.reduceAdd]; refine hK _ _ ?_; clear hK K
    refine rH_next (s := s) (L := L6) (M := M7) (by omega) (by rfl) ?_
    obtain ⟨L7, h7⟩ : ∃ L, L = L6 ++ M7 := ⟨_, rfl⟩
    have n7 : L7.length = 145 := by rw [h7, List.length_append]; omega
    rw [← h7]
    have y8 := zlen L7
    have x8 := mxb_len s.ia dIn
    have x8' := mxb_pos s.ia dIn
    have w8 := fun K => matrix_ref s.ia dIn K hs.ia dIn_len
    have z8 := zlen (mxb s.ia dIn)
    have t8 : List.take (mxb s.ia dIn).length (bs (zb (mxb s.ia dIn))) = bs (zb (mxb s.ia dIn)) := List.take_of_length_le (by omega)
    have g8 := rH_2 H s L7 []
    have i8 := rH_s H s L7 []
    simp only [List.append_nil] at g8 i8
    obtain ⟨M8, hM8⟩ : ∃ L, L = mxb s.ia dIn := ⟨_, rfl⟩
    rw [← hM8] at x8 x8' w8 z8 t8
    (repeat refine PW.seq ?_); refine PW.drawi [H.length + 2] [(4, [0]), (53, [0]), (58, [0])] [] [56, 57] mix (by kernel_rfl) (by simp <;> omega) fun K hK => ?_
    simp (maxSteps := 3000000) (disch := omega) only [go_sem, ↓reduceIte, reduceCtorEq, pappend, plen, rF, rH_0, sqc, tia, List.length_append, lia, lie]
    refine VCj.read (fun _ _ => din_ref _) rfl ?_; simp (maxSteps := 3000000) (disch := omega) only [go_sem, ↓reduceIte, reduceCtorEq, pappend, plen]
    refine VCj.read (fun _ _ => w8 _) rfl ?_; simp (maxSteps := 3000000) (disch := omega) only [go_sem, ↓reduceIte, reduceCtorEq, pappend, plen, g8, y8, z8, t8, i8, List.length_append]
    refine hK _ _ ?_; clear hK K
    refine rH_next0 (s := s) (L := L7) (M := M8) rfl rfl (by rfl) ?_
    obtain ⟨L8, h8⟩ : ∃ L, L = L7 ++ M8 := ⟨_, rfl⟩
    have n8 : L8.length ≤ 145 + 513 * 1 := by rw [h8, List.length_append]; omega
    rw [← h8]
    have y9 := zlen L8
    have x9 := mxb_len s.ie dIt
    have x9' := mxb_pos s.ie dIt
    have w9 := fun K => matrix_ref s.ie dIt K hs.ie dIt_len
    have z9 := zlen (mxb s.ie dIt)
    have t9 : List.take (mxb s.ie dIt).length (bs (zb (mxb s.ie dIt))) = bs (zb (mxb s.ie dIt)) := List.take_of_length_le (by omega)
    have g9 := rH_2 H s L8 []
    have i9 := rH_s H s L8 []
    simp only [List.append_nil] at g9 i9
    obtain ⟨M9, hM9⟩ : ∃ L, L = mxb s.ie dIt := ⟨_, rfl⟩
    rw [← hM9] at x9 x9' w9 z9 t9
    (repeat refine PW.seq ?_); refine PW.drawi [H.length + 2] [(4, [0]), (59, [0]), (64, [0])] [] [62, 63] mix (by kernel_rfl) (by simp <;> omega) fun K hK => ?_
    simp (maxSteps := 3000000) (disch := omega) only [go_sem, ↓reduceIte, reduceCtorEq, pappend, plen, rF, rH_0, sqc, tie, tk, List.length_append, lia, lie]
    refine VCj.read (fun _ _ => dit_ref _) rfl ?_; simp (maxSteps := 3000000) (disch := omega) only [go_sem, ↓reduceIte, reduceCtorEq, pappend, plen]
    refine VCj.read (fun _ _ => w9 _) rfl ?_; simp (maxSteps := 3000000) (disch := omega) only [go_sem, ↓reduceIte, reduceCtorEq, pappend, plen, g9, y9, z9, t9, i9, List.length_append]
    refine hK _ _ ?_; clear hK K
    refine rH_next0 (s := s) (L := L8) (M := M9) rfl rfl (by rfl) ?_
    obtain ⟨L9, h9⟩ : ∃ L, L = L8 ++ M9 := ⟨_, rfl⟩
    have n9 : L9.length ≤ 145 + 513 * 2 := by rw [h9, List.length_append]; omega
    rw [← h9]
    have hL : sbits s = L9 := by rw [h9, h8, h7, h6, h5, h4, h3, h2, h1, hM2, hM3, hM4, hM6, hM7, hM8, hM9]; simp [sbits]
    have hp : CallOk Tryz.prog 92 [.msl (H.length + 2) L9.length 0 L9.length 1 true] (rH H s L9)
        (.slice (bs (pk (L9 ++ [true]))) (pk (L9 ++ [true])).length false) (H ++ [⟨51, 0, sqc s⟩, ⟨41, 0, [.int .i64 0, .slice [] 0 true]⟩, ⟨5, L9.length + 1, []⟩]) := by
      refine CallOk.frz1 (args' := [.slice (bs (zb L9)) L9.length false]) (id := H.length + 2) (k := ⟨5, L9.length, bs (zb L9)⟩) (hp2 _ _ _ _ _) ?_ ⟨.inr ⟨L9.length, 1, true, rfl, by rw [zlen, Nat.mul_one], rfl⟩, trivial⟩
      unfold rH
      rw [hs2]
      exact payload_ref L9 false _ (by omega)
    (repeat refine PW.seq ?_); refine PW.rg rfl fun K hK => ?_; simp (maxSteps := 3000000) (disch := omega) only [go_sem, ↓reduceIte, reduceCtorEq, pappend, plen, rF]; refine VCx.call (hp) rfl ?_; simp (maxSteps := 3000000) (disch := omega) only [go_sem, ↓reduceIte, reduceCtorEq, pappend, plen]; refine hK _ _ ?_; clear hK K
    generalize hP : pk (L9 ++ [true]) = P at *
    refine PW.ret ⟨.tup [.agg [.int .i64 179, .slice (bs P) P.length false], .int .i64 0], by simp (maxSteps := 3000000) (disch := omega) only [go_sem, ↓reduceIte, reduceCtorEq, pappend, plen, presults, presult, List.mapM_cons, List.mapM_nil, Option.pure_def, Option.bind_eq_bind, Option.bind_some, Array.toList], ?_⟩
    rw [← hr, hL, hP]
    exact Fin.base (.id (uve_scoped _ _ _ _))


end Go.Proofs.YtbhdollgohgkgaaGreatDoor.Sc

namespace Go.Proofs.YtbhdollgohgkgaaGreatDoor.Sc
set_option linter.all false
set_option linter.unusedVariables false
set_option linter.unusedSimpArgs false
open Pm Ty Go.RowKit

/-! ### the program's -/
def tkBU (i : Nat) (e : Nat) : Blk := ⟨131, 0, [.ptr i 0 0, .int .i64 (e : Int)]⟩
theorem num_ok (c i : Nat) (q : List UInt8) (n a e k : Nat) (H : Heap) (hC : H[c]? = some (tkBU i e)) (hA : H[i]? = some (rA q n a)) (hne : c ≠ i) (ha : a ≤ n) (hn : n ≤ 8 * q.length) (hq : q.length ≤ 100000000) (hk : k ≤ 32) (he : e ≤ 4) :
    CallOk Tryz.prog 72 [.ptr c 0 0, .int .i64 (k : Int)] H (.int .i64 ((nm true q n (a, e) k).1 : Int)) (two H c i (tkBU i (nm true q n (a, e) k).2.2) (rA q n (nm true q n (a, e) k).2.1)) := by
  have hc := (List.getElem?_eq_some_iff.1 hC).1
  have hself := two_self hC hA
  refine CallOk.body (F0 := [(0, .ptr c 0 0), (1, .int .i64 (k : Int))]) Tryz.func72 rfl Tryz.ntmps72 Tryz.results72 rfl (by kernel_rfl) rfl ?_
  (repeat refine PW.seq ?_); refine PW.rg rfl fun K hK => ?_; simp (maxSteps := 3000000) (disch := omega) only [go_sem, ↓reduceIte, reduceCtorEq, pappend, plen]; refine hK _ _ ?_; clear hK K
  by_cases h0 : e = 0
  · subst h0
    (repeat refine PW.seq ?_); refine PW.rg rfl fun K hK => ?_; simp (maxSteps := 3000000) (disch := omega) only [go_sem, ↓reduceIte, reduceCtorEq, pappend, plen, hC, tkBU]; refine hK _ _ ?_; clear hK K
    (repeat refine PW.seq ?_); refine PW.cond (t := _) rfl (fun h => ?_) (fun h => ?_)
    · cases h
    refine PW.skip ?_
    by_cases h1 : a + k ≤ n
    · have e1 : nm true q n (a, 0) k = (vl q a k, a + k, 0) := by
        unfold nm
        rw [if_neg (by simp), if_pos h1]
      rw [e1]
      have rt := rtake_ok i q n a k H hA h1 hn hq hk
      have g1 : (H.set i (rA q n (a + k)))[c]? = some (tkBU i 0) := by rw [List.getElem?_set_ne (Ne.symm hne)]; exact hC
      have vb := vl_lt q a k
      have vb2 : vl q a k < 4294967296 := Nat.lt_of_lt_of_le vb (Nat.pow_le_pow_right (by omega) hk)
      (repeat refine PW.seq ?_); refine PW.rg rfl fun K hK => ?_; simp (maxSteps := 3000000) (disch := omega) only [go_sem, ↓reduceIte, reduceCtorEq, pappend, plen, hC, tkBU]; refine VCx.call (rt) rfl ?_; simp (maxSteps := 3000000) (disch := omega) only [go_sem, ↓reduceIte, reduceCtorEq, pappend, plen]; refine hK _ _ ?_; clear hK K
      (repeat refine PW.seq ?_); refine PW.rg rfl fun K hK => ?_; simp (maxSteps := 3000000) (disch := omega) only [go_sem, ↓reduceIte, reduceCtorEq, pappend, plen, g1, tkBU]; refine hK _ _ ?_; clear hK K
      (repeat refine PW.seq ?_); refine PW.rg rfl fun K hK => ?_; simp (maxSteps := 3000000) (disch := omega) only [go_sem, ↓reduceIte, reduceCtorEq, pappend, plen]; refine hK _ _ ?_; clear hK K
      refine PW.ret ⟨_, rfl, .inl ⟨rfl, ?_⟩⟩
      unfold two
      rw [List.set_comm _ _ (Ne.symm hne)]
      rfl
    · have e1 : nm true q n (a, 0) k = (0, a, 4) := by
        unfold nm
        rw [if_neg (by simp), if_neg h1]; rfl
      rw [e1]
      have rt := rtake_short i q n a k H hA ha (by omega) hk (by omega)
      (repeat refine PW.seq ?_); refine PW.rg rfl fun K hK => ?_; simp (maxSteps := 3000000) (disch := omega) only [go_sem, ↓reduceIte, reduceCtorEq, pappend, plen, hC, tkBU]; refine VCx.call (rt) rfl ?_; simp (maxSteps := 3000000) (disch := omega) only [go_sem, ↓reduceIte, reduceCtorEq, pappend, plen]; refine hK _ _ ?_; clear hK K
      (repeat refine PW.seq ?_); refine PW.rg rfl fun K hK => ?_; simp (maxSteps := 3000000) (disch := omega) only [go_sem, ↓reduceIte, reduceCtorEq, pappend, plen, hC, tkBU]; refine hK _ _ ?_; clear hK K
      (repeat refine PW.seq ?_); refine PW.rg rfl fun K hK => ?_; simp (maxSteps := 3000000) (disch := omega) only [go_sem, ↓reduceIte, reduceCtorEq, pappend, plen]; refine hK _ _ ?_; clear hK K
      refine PW.ret ⟨_, rfl, .inl ⟨rfl, ?_⟩⟩
      unfold two
      rw [List.set_comm _ _ hne, set_self hA]
      rfl
  · have e1 : nm true q n (a, e) k = (0, a, e) := by
      unfold nm
      rw [if_pos (by simpa using h0)]
    rw [e1]
    have b1 : ((e : Int) != 0) = true := by simp; omega
    (repeat refine PW.seq ?_); refine PW.rg rfl fun K hK => ?_; simp (maxSteps := 3000000) (disch := omega) only [go_sem, ↓reduceIte, reduceCtorEq, pappend, plen, hC, tkBU, b1]; refine hK _ _ ?_; clear hK K
    (repeat refine PW.seq ?_); refine PW.cond (t := _) rfl (fun h => ?_) (fun h => ?_)
    rotate_left
    · cases h
    (repeat refine PW.seq ?_); refine PW.rg rfl fun K hK => ?_; simp (maxSteps := 3000000) (disch := omega) only [go_sem, ↓reduceIte, reduceCtorEq, pappend, plen]; refine hK _ _ ?_; clear hK K
    refine PW.ret ⟨_, rfl, .inl ⟨rfl, ?_⟩⟩
    exact hself.symm
theorem nm_e {q : List UInt8} {n a e k : Nat} (he : e ≤ 4) : (nm true q n (a, e) k).2.2 ≤ 4 := by
  unfold nm
  split
  · exact he
  · split
    · exact Nat.zero_le _
    · exact Nat.le_refl _
theorem flg_ok (c i : Nat) (q : List UInt8) (n a e : Nat) (H : Heap) (hC : H[c]? = some (tkBU i e)) (hA : H[i]? = some (rA q n a)) (hne : c ≠ i) (ha : a ≤ n) (hn : n ≤ 8 * q.length) (hq : q.length ≤ 100000000) (he : e ≤ 4) :
    CallOk Tryz.prog 73 [.ptr c 0 0] H (.bool (decide ((nm true q n (a, e) 1).1 = 1))) (two H c i (tkBU i (nm true q n (a, e) 1).2.2) (rA q n (nm true q n (a, e) 1).2.1)) := by
  have nk := num_ok c i q n a e 1 H hC hA hne ha hn hq (by omega) he
  have b1 : (((nm true q n (a, e) 1).1 : Int) == 1) = decide ((nm true q n (a, e) 1).1 = 1) := by
    rw [Bool.eq_iff_iff]; simp; omega
  refine CallOk.body (F0 := [(0, .ptr c 0 0)]) Tryz.func73 rfl Tryz.ntmps73 Tryz.results73 rfl (by kernel_rfl) rfl ?_
  (repeat refine PW.seq ?_); refine PW.rg rfl fun K hK => ?_; simp (maxSteps := 3000000) (disch := omega) only [go_sem, ↓reduceIte, reduceCtorEq, pappend, plen]; refine hK _ _ ?_; clear hK K
  (repeat refine PW.seq ?_); refine PW.rg rfl fun K hK => ?_; simp (maxSteps := 3000000) (disch := omega) only [go_sem, ↓reduceIte, reduceCtorEq, pappend, plen]; refine VCx.call (nk) rfl ?_; simp (maxSteps := 3000000) (disch := omega) only [go_sem, ↓reduceIte, reduceCtorEq, pappend, plen, b1]; refine hK _ _ ?_; clear hK K
  exact PW.ret ⟨_, rfl, Fin.now⟩
theorem bs_setU (m : List UInt8) (i : Nat) (v : Nat) : (bs m).set i (.int .u8 (IntKind.u8.wrap (v : Int))) = bs (m.set i (UInt8.ofNat v)) := by
  have : IntKind.u8.wrap (v : Int) = ((UInt8.ofNat v).toNat : Int) := by
    simp [IntKind.wrap, IntKind.signed, IntKind.bits]
  rw [this, bs_set]
theorem rdE_len (st : Bool) (q : List UInt8) (n : Nat) (x : Nat × Nat) : ∀ p, (rdE st q n x p).1.length = 64
  | 0 => by simp only [rdE, List.length_replicate]
  | p + 1 => by rw [rdE, List.length_set]; exact rdE_len st q n x p
/-- A heap with a reader's place and error. -/
def tH (H : Heap) (c i : Nat) (q : List UInt8) (n : Nat) (x : Nat × Nat) : Heap := two H c i (tkBU i x.2) (rA q n x.1)
theorem tH_len (H : Heap) (c i : Nat) (q : List UInt8) (n : Nat) (x : Nat × Nat) : (tH H c i q n x).length = H.length := two_len _ _ _ _ _
theorem tH_app {H K : Heap} {c i : Nat} {q : List UInt8} {n : Nat} {x : Nat × Nat} (hc : c < H.length) (hi : i < H.length) : tH (H ++ K) c i q n x = tH H c i q n x ++ K := two_appU hc hi
theorem tH_n (H K : Heap) (c i : Nat) (q : List UInt8) (n : Nat) (x : Nat × Nat) (k : Nat) : (tH H c i q n x ++ K)[H.length + k]? = K[k]? := by
  rw [List.getElem?_append_right (by rw [tH_len]; omega), tH_len, show H.length + k - H.length = k by omega]
theorem tH_z (H K : Heap) (c i : Nat) (q : List UInt8) (n : Nat) (x : Nat × Nat) : (tH H c i q n x ++ K)[H.length]? = K[0]? := tH_n H K c i q n x 0
theorem tH_s (H K : Heap) (c i : Nat) (q : List UInt8) (n : Nat) (x : Nat × Nat) (k : Nat) (X : Blk) : (tH H c i q n x ++ K).set (H.length + k) X = tH H c i q n x ++ K.set k X := by
  rw [List.set_append_right _ _ (by rw [tH_len]; omega), tH_len, show H.length + k - H.length = k by omega]
theorem tH_sz (H K : Heap) (c i : Nat) (q : List UInt8) (n : Nat) (x : Nat × Nat) (X : Blk) : (tH H c i q n x ++ K).set H.length X = tH H c i q n x ++ K.set 0 X := tH_s H K c i q n x 0 X
structure Tk (H : Heap) (c i : Nat) (q : List UInt8) (n : Nat) : Prop where
  hc : c < H.length
  hi : i < H.length
  ne : c ≠ i
  hn : n ≤ 8 * q.length
  hq : q.length ≤ 100000000
structure RkU (n : Nat) (x : Nat × Nat) : Prop where
  a : x.1 ≤ n
  e : x.2 ≤ 4
theorem RkU.nm {q : List UInt8} {n : Nat} {x : Nat × Nat} (h : RkU n x) (k : Nat) : RkU n (nm true q n x k).2 := ⟨nm_le h.a, nm_e h.e⟩
theorem RkU.rdE {q : List UInt8} {n : Nat} {x : Nat × Nat} (h : RkU n x) : ∀ p, RkU n (rdE true q n x p).2
  | 0 => h
  | p + 1 => (RkU.rdE h p).nm 8
theorem RkU.rdM {q : List UInt8} {n : Nat} {x : Nat × Nat} {u : List UInt8} (h : RkU n x) : RkU n (rdM true q n u x).2 := by
  unfold Sc.rdM
  split
  · exact (h.nm 1).rdE 64
  · exact h.nm 1
theorem num_at {H : Heap} {c i : Nat} {q : List UInt8} {n : Nat} (t : Tk H c i q n) (K : Heap) (x : Nat × Nat) (k : Nat) (r : RkU n x) (hk : k ≤ 32) :
    CallOk Tryz.prog 72 [.ptr c 0 0, .int .i64 (k : Int)] (tH H c i q n x ++ K) (.int .i64 ((nm true q n x k).1 : Int)) (tH H c i q n (nm true q n x k).2 ++ K) := by
  have h1 : (tH H c i q n x ++ K)[c]? = some (tkBU i x.2) := by
    rw [List.getElem?_append_left (by rw [tH_len]; exact t.hc)]; exact two_0 _ _ _ _ _ ⟨t.hc, t.ne⟩
  have h2 : (tH H c i q n x ++ K)[i]? = some (rA q n x.1) := by
    rw [List.getElem?_append_left (by rw [tH_len]; exact t.hi)]; exact two_1 _ _ _ _ _ t.hi
  have := num_ok c i q n x.1 x.2 k _ h1 h2 t.ne r.a t.hn t.hq hk r.e
  rw [two_appU (by rw [tH_len]; exact t.hc) (by rw [tH_len]; exact t.hi), tH, two_two' _ _ _ _ _ _ _ t.ne] at this
  exact this
theorem flg_at {H : Heap} {c i : Nat} {q : List UInt8} {n : Nat} (t : Tk H c i q n) (K : Heap) (x : Nat × Nat) (r : RkU n x) :
    CallOk Tryz.prog 73 [.ptr c 0 0] (tH H c i q n x ++ K) (.bool (decide ((nm true q n x 1).1 = 1))) (tH H c i q n (nm true q n x 1).2 ++ K) := by
  have h1 : (tH H c i q n x ++ K)[c]? = some (tkBU i x.2) := by
    rw [List.getElem?_append_left (by rw [tH_len]; exact t.hc)]; exact two_0 _ _ _ _ _ ⟨t.hc, t.ne⟩
  have h2 : (tH H c i q n x ++ K)[i]? = some (rA q n x.1) := by
    rw [List.getElem?_append_left (by rw [tH_len]; exact t.hi)]; exact two_1 _ _ _ _ _ t.hi
  have := flg_ok c i q n x.1 x.2 _ h1 h2 t.ne r.a t.hn t.hq r.e
  rw [two_appU (by rw [tH_len]; exact t.hc) (by rw [tH_len]; exact t.hi), tH, two_two' _ _ _ _ _ _ _ t.ne] at this
  exact this
def z64U : List UInt8 := List.replicate 64 0
theorem z64_len : z64U.length = 64 := List.length_replicate
theorem z64_eq : zcells Tryz.prog 49 = some (bs z64U) := by kernel_rfl
theorem tkB_sc {i e n : Nat} (h : i < n) : ∀ x ∈ (tkBU i e).cells, Scoped n x := fun x hx => by
  simp only [tkBU, List.mem_cons, List.not_mem_nil, or_false] at hx
  rcases hx with rfl | rfl
  · exact .ptr h
  · exact .int _ _
theorem rA_scU {p : List UInt8} {k a n : Nat} : ∀ x ∈ (rA p k a).cells, Scoped n x := fun x hx => by
  simp only [rA, List.mem_cons, List.not_mem_nil, or_false] at hx
  rcases hx with rfl | rfl | rfl
  · exact sl_scoped (bs_scoped _ _)
  · exact .int _ _
  · exact .int _ _
theorem bs64 (l : List UInt8) (h : l.length = 64) : (bs l).all PV.cell = true ∧ (bs l).length = 64 ∧ List.take 64 (bs l) = bs l ∧ List.drop 64 (bs l) = [] := by
  have hl : (bs l).length = 64 := by rw [length_bs]; exact h
  exact ⟨by simp [bs, PV.cell], hl, List.take_of_length_le (by omega), List.drop_of_length_le (by omega)⟩

set_option maxHeartbeats 4000000 in
theorem tmat_ok {H : Heap} {c i : Nat} {q : List UInt8} {n : Nat} (t : Tk H c i q n) (K : Heap) (x : Nat × Nat) (r : RkU n x) (u : List UInt8) (hu : u.length = 64) :
    CallOk Tryz.prog 74 [.ptr c 0 0, .agg (bs u)] (tH H c i q n x ++ K) (.agg (bs (rdM true q n u x).1)) (tH H c i q n (rdM true q n u x).2 ++ K) := by
  obtain ⟨au, lu, tu, du⟩ := bs64 u hu
  obtain ⟨az, lz, tz, dz⟩ := bs64 z64U z64_len
  obtain ⟨B, hB⟩ : ∃ B, B = tH H c i q n x ++ K := ⟨_, rfl⟩
  have hBl : B.length = H.length + K.length := by rw [hB, List.length_append, tH_len]
  have tB : Tk B c i q n := ⟨by have := t.hc; omega, by have := t.hi; omega, t.ne, t.hn, t.hq⟩
  have hB2 : ∀ y, tH B c i q n y = tH H c i q n y ++ K := fun y => by
    rw [hB, tH_app (by rw [tH_len]; exact t.hc) (by rw [tH_len]; exact t.hi)]
    congr 1
    exact two_two' _ _ _ _ _ _ _ t.ne
  have hB1 : B = tH B c i q n x := by rw [hB2, hB]
  rw [← hB, ← hB2]
  clear hB2 hB hBl
  have fin : ∀ (v : List UInt8) y K, Fin B (.agg (bs v)) (tH B c i q n y) (.agg (bs v)) (tH B c i q n y ++ K) := fun v y K =>
    Fin.cut rfl (by rw [tH_len]) (two_sc (tkB_sc tB.hi) rA_scU) (.id (ag_scoped (bs_scoped _ _)))
  unfold rdM
  have fo := fun K => flg_at tB K x r
  have hx := r.nm (q := q) 1
  refine CallOk.body (F0 := [(0, .ptr c 0 0), (1, .agg (bs u))]) Tryz.func74 rfl Tryz.ntmps74 Tryz.results74 rfl (by kernel_rfl) rfl ?_
  refine PW.eq rfl hB1 ?_
  (repeat refine PW.seq ?_); refine PW.rg rfl fun K hK => ?_; simp (maxSteps := 3000000) (disch := omega) only [go_sem, ↓reduceIte, reduceCtorEq, pappend, plen, au, ↓z64_eq]; refine hK _ _ ?_; clear hK K
  (repeat refine PW.seq ?_); refine PW.rg rfl fun K hK => ?_; simp (maxSteps := 3000000) (disch := omega) only [go_sem, ↓reduceIte, reduceCtorEq, pappend, plen]; refine VCx.call (fo _) rfl ?_; simp (maxSteps := 3000000) (disch := omega) only [go_sem, ↓reduceIte, reduceCtorEq, pappend, plen, tH_len]; refine hK _ _ ?_; clear hK K
  generalize (nm true q n x 1).1 = v at *
  generalize (nm true q n x 1).2 = y at *
  by_cases hv : v = 1
  rotate_left
  · rw [if_neg hv]
    have dv : decide (v = 1) = false := decide_eq_false hv
    (repeat refine PW.seq ?_); refine PW.cond (t := _) rfl (fun h => ?_) (fun h => ?_)
    rotate_left
    · simp [hv] at h
    (repeat refine PW.seq ?_); refine PW.rg rfl fun K hK => ?_; simp (maxSteps := 3000000) (disch := omega) only [go_sem, ↓reduceIte, reduceCtorEq, pappend, plen, tH_z, tH_n, tH_s, lu, tu, lz, dz]; refine hK _ _ ?_; clear hK K
    refine PW.ret ⟨.agg (bs u), by simp (maxSteps := 3000000) (disch := omega) only [go_sem, ↓reduceIte, reduceCtorEq, pappend, plen, presults, presult, List.mapM_cons, List.mapM_nil, Option.pure_def, Option.bind_eq_bind, Option.bind_some, Array.toList, tH_z, tH_n, lu, tu], ?_⟩
    exact fin u y _
  rw [if_pos hv]
  (repeat refine PW.seq ?_); refine PW.cond (t := _) rfl (fun h => ?_) (fun h => ?_)
  · simp [hv] at h
  refine PW.skip ?_
  (repeat refine PW.seq ?_); refine PW.rg rfl fun K hK => ?_; simp (maxSteps := 3000000) (disch := omega) only [go_sem, ↓reduceIte, reduceCtorEq, pappend, plen, tH_len, ↓z64_eq]; refine hK _ _ ?_; clear hK K
  (repeat refine PW.seq ?_); refine PW.rg rfl fun K hK => ?_; simp (maxSteps := 3000000) (disch := omega) only [go_sem, ↓reduceIte, reduceCtorEq, pappend, plen]; refine VCx.call (scan_ok _) rfl ?_; simp (maxSteps := 3000000) (disch := omega) only [go_sem, ↓reduceIte, reduceCtorEq, pappend, plen]; refine hK _ _ ?_; clear hK K
  (repeat refine PW.seq ?_); refine PW.block (PW.loop ?_)
  suffices hloop : ∀ p : Nat, p ≤ 64 → PL Tryz.prog _ _ [(0, .ptr c 0 0), (4, .ptr (B.length + 1) 0 0), (5, .ptr (B.length + 2) 0 0), (12, .agg scV), (13, .int .i64 (p : Int))] (tH B c i q n (rdE true q n y p).2 ++ [⟨49, 0, bs u⟩, ⟨49, 0, bs z64U⟩, ⟨49, 0, bs (rdE true q n y p).1⟩]) _ by
    exact PL.at [0, 4, 5, 12, 13] (hloop 0 (by omega)) rfl rfl
  have sl : scV.length = 64 := rfl
  intro p hp
  induction hd : 64 - p using Nat.strongRecOn generalizing p with
  | _ d ih =>
    refine PL.round ?_; (repeat refine PW.seq ?_); refine PW.rg rfl fun K hK => ?_; simp (maxSteps := 3000000) (disch := omega) only [go_sem, ↓reduceIte, reduceCtorEq, pappend, plen]; refine hK _ _ ?_; clear hK K
    (repeat refine PW.seq ?_); refine PW.cond (t := _) rfl (fun h => ?_) (fun h => ?_)
    · have h4 : p < 64 := by have := of_decide_eq_true h; omega
      have s1 := scV_at p h4
      have b2 := sk_lt p h4
      have lE : (bs (rdE true q n y p).1).length = 64 := by rw [length_bs]; exact rdE_len _ _ _ _ p
      have rE := hx.rdE (q := q) p
      have no := fun K => num_at tB K (rdE true q n y p).2 8 rE (by omega)
      have hnext := ih (64 - (p + 1)) (by omega) (p + 1) (by omega) rfl
      rw [rdE] at hnext
      have bv : (nm true q n (rdE true q n y p).2 8).1 < 2 ^ 8 := nm_lt _ _ _ _ _
      generalize (rdE true q n y p).1 = E at *
      generalize (rdE true q n y p).2 = z at *
      generalize (nm true q n z 8).1 = V at *
      generalize (nm true q n z 8).2 = z2 at *
      have wv : IntKind.u8.wrap (V : Int) = (V : Int) := by rw [w8 _ (by omega)]
      have sv := bs_setU E (sk p) V
      rw [wv] at sv
      generalize sk p = k at *
      refine PW.skip ?_; (repeat refine PW.seq ?_); refine PW.block ?_
      (repeat refine PW.seq ?_); refine PW.rg rfl fun K hK => ?_; simp (maxSteps := 3000000) (disch := omega) only [go_sem, ↓reduceIte, reduceCtorEq, pappend, plen, s1, sl]; refine hK _ _ ?_; clear hK K
      (repeat refine PW.seq ?_); refine PW.rg rfl fun K hK => ?_; simp (maxSteps := 3000000) (disch := omega) only [go_sem, ↓reduceIte, reduceCtorEq, pappend, plen]; refine VCx.call (no _) rfl ?_; simp (maxSteps := 3000000) (disch := omega) only [go_sem, ↓reduceIte, reduceCtorEq, pappend, plen, tH_n, tH_s, lE, sv]; refine hK _ _ ?_; clear hK K
      (repeat refine PW.seq ?_); refine PW.rg rfl fun K hK => ?_; simp (maxSteps := 3000000) (disch := omega) only [go_sem, ↓reduceIte, reduceCtorEq, pappend, plen]; refine hK _ _ ?_; clear hK K
      exact PL.at [0, 4, 5, 12, 13] hnext rfl rfl
    · have h4 : p = 64 := by have := of_decide_eq_false h; omega
      subst h4
      have lE : (rdE true q n y 64).1.length = 64 := rdE_len _ _ _ _ 64
      obtain ⟨E, hE⟩ : ∃ E, E = (rdE true q n y 64).1 := ⟨_, rfl⟩
      obtain ⟨z, hz⟩ : ∃ E, E = (rdE true q n y 64).2 := ⟨_, rfl⟩
      rw [← hE] at lE ⊢
      rw [← hz]
      obtain ⟨aE, lE, tE, dE⟩ := bs64 E lE
      refine PW.exit ?_
      (repeat refine PW.seq ?_); refine PW.rg rfl fun K hK => ?_; simp (maxSteps := 3000000) (disch := omega) only [go_sem, ↓reduceIte, reduceCtorEq, pappend, plen, tH_z, tH_n, tH_s, lE, tE, lz, dz]; refine hK _ _ ?_; clear hK K
      refine PW.ret ⟨.agg (bs E), by simp (maxSteps := 3000000) (disch := omega) only [go_sem, ↓reduceIte, reduceCtorEq, pappend, plen, presults, presult, List.mapM_cons, List.mapM_nil, Option.pure_def, Option.bind_eq_bind, Option.bind_some, Array.toList, tH_z, tH_n, lE, tE], ?_⟩
      exact fin E z _

end Go.Proofs.YtbhdollgohgkgaaGreatDoor.Sc

namespace Go.Proofs.YtbhdollgohgkgaaGreatDoor.Sc
set_option linter.all false
set_option linter.unusedVariables false
set_option linter.unusedSimpArgs false
open Pm Ty Go.RowKit

/-- A heap with the reference's reader's place. -/
def wH (H : Heap) (i j v n : Nat) (x : Nat × Nat) : Heap := H.set i (rR j v n x.1)
theorem wH_len (H : Heap) (i j v n : Nat) (x : Nat × Nat) : (wH H i j v n x).length = H.length := by simp [wH]
theorem wH_app {H K : Heap} {i j v n : Nat} {x : Nat × Nat} (hi : i < H.length) : wH (H ++ K) i j v n x = wH H i j v n x ++ K := by unfold wH; rw [List.set_append_left _ _ hi]
theorem wH_n (H K : Heap) (i j v n : Nat) (x : Nat × Nat) (k : Nat) : (wH H i j v n x ++ K)[H.length + k]? = K[k]? := by
  rw [List.getElem?_append_right (by rw [wH_len]; omega), wH_len, show H.length + k - H.length = k by omega]
theorem wH_z (H K : Heap) (i j v n : Nat) (x : Nat × Nat) : (wH H i j v n x ++ K)[H.length]? = K[0]? := wH_n H K i j v n x 0
theorem wH_s (H K : Heap) (i j v n : Nat) (x : Nat × Nat) (k : Nat) (X : Blk) : (wH H i j v n x ++ K).set (H.length + k) X = wH H i j v n x ++ K.set k X := by
  rw [List.set_append_right _ _ (by rw [wH_len]; omega), wH_len, show H.length + k - H.length = k by omega]
theorem wH_sz (H K : Heap) (i j v n : Nat) (x : Nat × Nat) (X : Blk) : (wH H i j v n x ++ K).set H.length X = wH H i j v n x ++ K.set 0 X := wH_s H K i j v n x 0 X
theorem wH_wH (H : Heap) (i j v n : Nat) (x y : Nat × Nat) : wH (wH H i j v n x) i j v n y = wH H i j v n y := by unfold wH; rw [List.set_set]
structure WkU (H : Heap) (i j v : Nat) (q : List UInt8) (n : Nat) : Prop where
  hi : i < H.length
  hB : H[j]? = some (rB q v)
  ne : i ≠ j
  hn : n ≤ 8 * q.length
  hq : q.length ≤ 100000000
structure Rf (n : Nat) (x : Nat × Nat) : Prop where
  a : x.1 ≤ n
  e : x.2 = 0
theorem nm_e0 {q : List UInt8} {n k : Nat} {x : Nat × Nat} (he : x.2 = 0) : (nm false q n x k).2.2 = 0 := by
  unfold nm
  rw [if_neg (by simp [he])]
  split <;> rfl
theorem Rf.nm {q : List UInt8} {n : Nat} {x : Nat × Nat} (h : Rf n x) (k : Nat) : Rf n (nm false q n x k).2 := ⟨nm_le h.a, nm_e0 h.e⟩
theorem Rf.rdE {q : List UInt8} {n : Nat} {x : Nat × Nat} (h : Rf n x) : ∀ p, Rf n (rdE false q n x p).2
  | 0 => h
  | p + 1 => (Rf.rdE h p).nm 8
theorem Rf.rdM {q : List UInt8} {n : Nat} {x : Nat × Nat} {u : List UInt8} (h : Rf n x) : Rf n (rdM false q n u x).2 := by
  unfold Sc.rdM
  split
  · exact (h.nm 1).rdE 64
  · exact h.nm 1
theorem WkU.atW {H : Heap} {i j v : Nat} {q : List UInt8} {n : Nat} (t : WkU H i j v q n) (x : Nat × Nat) (K : Heap) : (wH H i j v n x ++ K)[i]? = some (rR j v n x.1) ∧ (wH H i j v n x ++ K)[j]? = some (rB q v) := by
  have hj := (List.getElem?_eq_some_iff.1 t.hB).1
  have hi := t.hi
  constructor
  · rw [List.getElem?_append_left (by rw [wH_len]; exact hi)]
    simp [wH, hi]
  · rw [List.getElem?_append_left (by rw [wH_len]; exact hj), wH, List.getElem?_set_ne t.ne]
    exact t.hB
theorem rnum_L {i j v : Nat} {q : List UInt8} {n : Nat} {L : Heap} {x : Nat × Nat} (h1 : L[i]? = some (rR j v n x.1)) (h2 : L[j]? = some (rB q v)) (ne : i ≠ j) (hn : n ≤ 8 * q.length) (hq : q.length ≤ 100000000) (k : Nat) (r : Rf n x) (hk : k ≤ 32) :
    CallOk Tryz.prog 56 [.ptr i 0 0, .int .i64 (k : Int)] L (.int .i64 ((nm false q n x k).1 : Int)) (L.set i (rR j v n (nm false q n x k).2.1)) := by
  have ra := r.a
  refine CallOk.body (F0 := [(0, .ptr i 0 0), (1, .int .i64 (k : Int))]) Tryz.func56 rfl Tryz.ntmps56 Tryz.results56 rfl (by kernel_rfl) rfl ?_
  (repeat refine PW.seq ?_); refine PW.rg rfl fun K hK => ?_; simp (maxSteps := 3000000) (disch := omega) only [go_sem, ↓reduceIte, reduceCtorEq, pappend, plen]; refine hK _ _ ?_; clear hK K
  by_cases hs : x.1 + k ≤ n
  · have e1 : nm false q n x k = (vl q x.1 k, x.1 + k, 0) := by
      unfold nm
      rw [if_neg (by simp [r.e]), if_pos hs]
    rw [e1]
    have rt := rtake_ref i j v q n x.1 k _ h1 h2 ne hs hn hq hk
    have vb := vl_lt q x.1 k
    have vb2 : vl q x.1 k < 4294967296 := Nat.lt_of_lt_of_le vb (Nat.pow_le_pow_right (by omega) hk)
    (repeat refine PW.seq ?_); refine PW.rg rfl fun K hK => ?_; simp (maxSteps := 3000000) (disch := omega) only [go_sem, ↓reduceIte, reduceCtorEq, pappend, plen]; refine VCx.call (rt) rfl ?_; simp (maxSteps := 3000000) (disch := omega) only [go_sem, ↓reduceIte, reduceCtorEq, pappend, plen]; refine hK _ _ ?_; clear hK K
    (repeat refine PW.seq ?_); refine PW.rg rfl fun K hK => ?_; simp (maxSteps := 3000000) (disch := omega) only [go_sem, ↓reduceIte, reduceCtorEq, pappend, plen]; refine hK _ _ ?_; clear hK K
    exact PW.ret ⟨_, rfl, .inl ⟨rfl, rfl⟩⟩
  · have e1 : nm false q n x k = (0, x.1, 0) := by
      unfold nm
      rw [if_neg (by simp [r.e]), if_neg hs]; rfl
    rw [e1]
    have rt := rtake_shr i j v q n x.1 k _ h1 h2 ra (by omega) hk (by omega)
    (repeat refine PW.seq ?_); refine PW.rg rfl fun K hK => ?_; simp (maxSteps := 3000000) (disch := omega) only [go_sem, ↓reduceIte, reduceCtorEq, pappend, plen]; refine VCx.call (rt) rfl ?_; simp (maxSteps := 3000000) (disch := omega) only [go_sem, ↓reduceIte, reduceCtorEq, pappend, plen]; refine hK _ _ ?_; clear hK K
    (repeat refine PW.seq ?_); refine PW.rg rfl fun K hK => ?_; simp (maxSteps := 3000000) (disch := omega) only [go_sem, ↓reduceIte, reduceCtorEq, pappend, plen]; refine hK _ _ ?_; clear hK K
    exact PW.ret ⟨_, rfl, .inl ⟨rfl, (set_self h1).symm⟩⟩
theorem rnum_at {H : Heap} {i j v : Nat} {q : List UInt8} {n : Nat} (t : WkU H i j v q n) (K : Heap) (x : Nat × Nat) (k : Nat) (r : Rf n x) (hk : k ≤ 32) :
    CallOk Tryz.prog 56 [.ptr i 0 0, .int .i64 (k : Int)] (wH H i j v n x ++ K) (.int .i64 ((nm false q n x k).1 : Int)) (wH H i j v n (nm false q n x k).2 ++ K) := by
  obtain ⟨h1, h2⟩ := t.atW x K
  have := rnum_L h1 h2 t.ne t.hn t.hq k r hk
  rwa [List.set_append_left _ _ (by rw [wH_len]; exact t.hi), wH, List.set_set] at this
theorem rR_sc {j v n a m : Nat} (h : j < m) : ∀ x ∈ (rR j v n a).cells, Scoped m x := fun x hx => by
  simp only [rR, List.mem_cons, List.not_mem_nil, or_false] at hx
  rcases hx with rfl | rfl
  · exact .msl h
  · exact .int _ _

set_option maxHeartbeats 4000000 in
theorem rmat_ref {H : Heap} {i j v : Nat} {q : List UInt8} {n : Nat} (t : WkU H i j v q n) (K : Heap) (x : Nat × Nat) (r : Rf n x) (u : List UInt8) (hu : u.length = 64) :
    CallOk Tryz.prog 57 [.ptr i 0 0, .agg (bs u)] (wH H i j v n x ++ K) (.agg (bs (rdM false q n u x).1)) (wH H i j v n (rdM false q n u x).2 ++ K) := by
  obtain ⟨au, lu, tu, du⟩ := bs64 u hu
  obtain ⟨az, lz, tz, dz⟩ := bs64 z64U z64_len
  have sl : scV.length = 64 := rfl
  have sc' : scV.all PV.cell = true := by decide +kernel
  obtain ⟨B, hB⟩ : ∃ B, B = wH H i j v n x ++ K := ⟨_, rfl⟩
  have hBl : B.length = H.length + K.length := by rw [hB, List.length_append, wH_len]
  have tB : WkU B i j v q n := ⟨by have := t.hi; omega, by rw [hB]; exact (t.atW x K).2, t.ne, t.hn, t.hq⟩
  have hB2 : ∀ y, wH B i j v n y = wH H i j v n y ++ K := fun y => by
    rw [hB, wH_app (by rw [wH_len]; exact t.hi), wH_wH]
  have hB1 : B = wH B i j v n x := by rw [hB2, hB]
  have hj := (List.getElem?_eq_some_iff.1 tB.hB).1
  rw [← hB, ← hB2]
  clear hB2 hB hBl
  have fin : ∀ (w : List UInt8) y K, Fin B (.agg (bs w)) (wH B i j v n y) (.agg (bs w)) (wH B i j v n y ++ K) := fun w y K =>
    Fin.cut rfl (by rw [wH_len]) (fun hs => HSc.set hs (rR_sc hj)) (.id (ag_scoped (bs_scoped _ _)))
  unfold rdM
  have fo := fun K => rnum_at tB K x 1 r (by omega)
  have hx := r.nm (q := q) 1
  have vb := nm_lt false q n x 1
  refine CallOk.body (F0 := [(0, .ptr i 0 0), (1, .agg (bs u))]) Tryz.func57 rfl Tryz.ntmps57 Tryz.results57 rfl (by kernel_rfl) rfl ?_
  refine PW.eq rfl hB1 ?_
  (repeat refine PW.seq ?_); refine PW.rg rfl fun K hK => ?_; simp (maxSteps := 3000000) (disch := omega) only [go_sem, ↓reduceIte, reduceCtorEq, pappend, plen, au, ↓z64_eq]; refine hK _ _ ?_; clear hK K
  generalize (nm false q n x 1).1 = w at *
  generalize (nm false q n x 1).2 = y at *
  have hw : ((w : Int) == 0) = decide (¬ w = 1) := by rw [Bool.eq_iff_iff]; simp; omega
  (repeat refine PW.seq ?_); refine PW.rg rfl fun K hK => ?_; simp (maxSteps := 3000000) (disch := omega) only [go_sem, ↓reduceIte, reduceCtorEq, pappend, plen]; refine VCx.call (fo _) rfl ?_; simp (maxSteps := 3000000) (disch := omega) only [go_sem, ↓reduceIte, reduceCtorEq, pappend, plen, wH_len, hw]; refine hK _ _ ?_; clear hK K
  by_cases hv : w = 1
  rotate_left
  · rw [if_neg hv]
    have dv : decide (¬ w = 1) = true := decide_eq_true hv
    (repeat refine PW.seq ?_); refine PW.cond (t := _) rfl (fun h => ?_) (fun h => ?_)
    rotate_left
    · simp [hv] at h
    (repeat refine PW.seq ?_); refine PW.rg rfl fun K hK => ?_; simp (maxSteps := 3000000) (disch := omega) only [go_sem, ↓reduceIte, reduceCtorEq, pappend, plen, wH_z, wH_n, wH_s, lu, tu, lz, dz]; refine hK _ _ ?_; clear hK K
    refine PW.ret ⟨.agg (bs u), by simp (maxSteps := 3000000) (disch := omega) only [go_sem, ↓reduceIte, reduceCtorEq, pappend, plen, presults, presult, List.mapM_cons, List.mapM_nil, Option.pure_def, Option.bind_eq_bind, Option.bind_some, Array.toList, wH_z, wH_n, lu, tu], ?_⟩
    exact fin u y _
  rw [if_pos hv]
  (repeat refine PW.seq ?_); refine PW.cond (t := _) rfl (fun h => ?_) (fun h => ?_)
  · simp [hv] at h
  refine PW.skip ?_
  (repeat refine PW.seq ?_); refine PW.rg rfl fun K hK => ?_; simp (maxSteps := 3000000) (disch := omega) only [go_sem, ↓reduceIte, reduceCtorEq, pappend, plen, wH_len, ↓z64_eq]; refine hK _ _ ?_; clear hK K
  (repeat refine PW.seq ?_); refine PW.rg rfl fun K hK => ?_; simp (maxSteps := 3000000) (disch := omega) only [go_sem, ↓reduceIte, reduceCtorEq, pappend, plen, wH_len, wH_n, wH_s, sc', sl]; refine VCx.call (scan_ref _) rfl ?_; simp (maxSteps := 3000000) (disch := omega) only [go_sem, ↓reduceIte, reduceCtorEq, pappend, plen, wH_len, wH_n, wH_s, sc', sl]; refine hK _ _ ?_; clear hK K
  (repeat refine PW.seq ?_); refine PW.rg rfl fun K hK => ?_; simp (maxSteps := 3000000) (disch := omega) only [go_sem, ↓reduceIte, reduceCtorEq, pappend, plen]; refine hK _ _ ?_; clear hK K
  (repeat refine PW.seq ?_); refine PW.block (PW.loop ?_)
  suffices hloop : ∀ p : Nat, p ≤ 64 → PL Tryz.prog _ _ [(0, .ptr i 0 0), (4, .ptr (B.length + 1) 0 0), (5, .ptr (B.length + 2) 0 0), (6, .ptr (B.length + 3) 0 0), (7, .int .i64 (p : Int))] (wH B i j v n (rdE false q n y p).2 ++ [⟨49, 0, bs u⟩, ⟨49, 0, bs z64U⟩, ⟨49, 0, bs (rdE false q n y p).1⟩, ⟨143, 0, scV⟩]) _ by
    exact PL.at [0, 4, 5, 6, 7] (hloop 0 (by omega)) rfl rfl
  intro p hp
  induction hd : 64 - p using Nat.strongRecOn generalizing p with
  | _ d ih =>
    refine PL.round ?_; (repeat refine PW.seq ?_); refine PW.rg rfl fun K hK => ?_; simp (maxSteps := 3000000) (disch := omega) only [go_sem, ↓reduceIte, reduceCtorEq, pappend, plen]; refine hK _ _ ?_; clear hK K
    (repeat refine PW.seq ?_); refine PW.cond (t := _) rfl (fun h => ?_) (fun h => ?_)
    · have h4 : p < 64 := by have := of_decide_eq_true h; omega
      have s1 := scV_at p h4
      have b2 := sk_lt p h4
      have lE : (bs (rdE false q n y p).1).length = 64 := by rw [length_bs]; exact rdE_len _ _ _ _ p
      have rE := hx.rdE (q := q) p
      have no := fun (L : Heap) h1 h2 => rnum_L (i := i) (j := j) (v := v) (L := L) (x := (rdE false q n y p).2) h1 h2 tB.ne tB.hn tB.hq 8 rE (by omega)
      have hat := tB.atW (rdE false q n y p).2 [⟨49, 0, bs u⟩, ⟨49, 0, bs z64U⟩, ⟨49, 0, bs (rdE false q n y p).1⟩, ⟨143, 0, scV⟩]
      have hnext := ih (64 - (p + 1)) (by omega) (p + 1) (by omega) rfl
      rw [rdE] at hnext
      have bv : (nm false q n (rdE false q n y p).2 8).1 < 2 ^ 8 := nm_lt _ _ _ _ _
      generalize (rdE false q n y p).1 = E at *
      generalize (rdE false q n y p).2 = z at *
      generalize (nm false q n z 8).1 = V at *
      generalize (nm false q n z 8).2 = z2 at *
      have wv : IntKind.u8.wrap (V : Int) = (V : Int) := by rw [w8 _ (by omega)]
      have sv := bs_setU E (sk p) V
      rw [wv] at sv
      have hi := tB.hi
      have hset : ∀ K : Heap, (wH B i j v n z ++ K).set i (rR j v n z2.1) = wH B i j v n z2 ++ K := fun K => by
        rw [List.set_append_left _ _ (by rw [wH_len]; exact hi), wH, List.set_set]; rfl
      generalize sk p = k at *
      refine PW.skip ?_; (repeat refine PW.seq ?_); refine PW.block ?_
      (repeat refine PW.seq ?_); refine PW.drawi [i, B.length + 2] [(0, [0]), (20, [0]), (5, [1]), (23, [1])] [] [] mix (by kernel_rfl) (by simp <;> omega) fun K hK => ?_
      simp (maxSteps := 3000000) (disch := omega) only [go_sem, ↓reduceIte, reduceCtorEq, pappend, plen, wH_n, s1, sl]
      refine VCj.wr1 hat.1 (fun L hL hA => no L hL ((hA.out j ?_).trans hat.2)) (by simp (maxSteps := 3000000) (disch := omega) only [go_sem, ↓reduceIte, reduceCtorEq, pappend, plen]) (.inl rfl) rfl ?_
      · simp only [List.mem_cons, List.not_mem_nil, or_false]; have := tB.ne; omega
      simp (maxSteps := 3000000) (disch := omega) only [go_sem, ↓reduceIte, reduceCtorEq, pappend, plen, hset, wH_n, wH_s, lE, sv]; refine hK _ _ ?_; clear hK K
      (repeat refine PW.seq ?_); refine PW.rg rfl fun K hK => ?_; simp (maxSteps := 3000000) (disch := omega) only [go_sem, ↓reduceIte, reduceCtorEq, pappend, plen]; refine hK _ _ ?_; clear hK K
      exact PL.at [0, 4, 5, 6, 7] hnext rfl rfl
    · have h4 : p = 64 := by have := of_decide_eq_false h; omega
      subst h4
      have lE : (rdE false q n y 64).1.length = 64 := rdE_len _ _ _ _ 64
      obtain ⟨E, hE⟩ : ∃ E, E = (rdE false q n y 64).1 := ⟨_, rfl⟩
      obtain ⟨z, hz⟩ : ∃ E, E = (rdE false q n y 64).2 := ⟨_, rfl⟩
      rw [← hE] at lE ⊢
      rw [← hz]
      obtain ⟨aE, lE, tE, dE⟩ := bs64 E lE
      refine PW.exit ?_
      (repeat refine PW.seq ?_); refine PW.rg rfl fun K hK => ?_; simp (maxSteps := 3000000) (disch := omega) only [go_sem, ↓reduceIte, reduceCtorEq, pappend, plen, wH_z, wH_n, wH_s, lE, tE, lz, dz]; refine hK _ _ ?_; clear hK K
      refine PW.ret ⟨.agg (bs E), by simp (maxSteps := 3000000) (disch := omega) only [go_sem, ↓reduceIte, reduceCtorEq, pappend, plen, presults, presult, List.mapM_cons, List.mapM_nil, Option.pure_def, Option.bind_eq_bind, Option.bind_some, Array.toList, wH_z, wH_n, lE, tE], ?_⟩
      exact fin E z _

end Go.Proofs.YtbhdollgohgkgaaGreatDoor.Sc
