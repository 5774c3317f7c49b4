/-
  Parts of the proof. No condition.
-/
import Derived.Test.YtbhdollgohgkgaaGreatDoorA17
namespace Go.Proofs.YtbhdollgohgkgaaGreatDoor.Sc
set_option linter.all false
set_option linter.unusedVariables false
set_option linter.unusedSimpArgs false
open Pm Ty Go.RowKit

def zSq : Sq := ⟨0, 0, 0, 0, false, 0, 0, z64U, z64U⟩
theorem zcSq : zcells Tryz.prog 51 = some (sqc zSq) := by kernel_rfl
theorem zSq_ok : SqOk zSq := ⟨by decide, by decide, by decide, by decide, by decide, by decide, z64_len, z64_len⟩
/-- What TakeSeq returns. -/
def takeS (st : Bool) (t : Int) (q : List UInt8) : Sq × Int :=
  if t = 179 ∧ q.length ≠ 0 ∧ lastB q ≠ 0 then (if (re' st q (nb q)).2.2 = 0 ∧ vseq (rdS st q (nb q)) = true ∧ pk (sbits (rdS st q (nb q)) ++ [true]) = q then (rdS st q (nb q), 0) else (zSq, 3)) else (zSq, 3)
def takeG (t : Int) (q : List UInt8) : Bool × Bool × Int × Int :=
  if t = 184 ∧ q.length ≠ 0 ∧ lastB q ≠ 0 ∧ nb q = 26 then (decide (vl q 0 1 = 1), decide (vl q 1 1 = 1), (vl q 2 24 : Int), 0) else (false, false, 0, 3)
def rvTS (x : Sq × Int) : PV := .tup [.agg (sqc x.1), .int .i64 x.2]
theorem rvTS_sc (n : Nat) (x : Sq × Int) : Scoped n (rvTS x) := .tup (all_scoped fun y hy => by
  simp only [List.mem_cons, List.not_mem_nil, or_false] at hy
  rcases hy with rfl | rfl
  · exact ag_scoped (sqc_scoped _ _)
  · exact .int _ _)
theorem beq_ok (p q : List UInt8) (f g : Bool) (H : Heap) : CallOk Tryz.prog 77 [.slice (bs p) p.length f, .slice (bs q) q.length g] H (.bool (p == q)) H := by
  refine CallOk.body (F0 := [(0, .slice (bs p) p.length f), (1, .slice (bs q) q.length g)]) Tryz.func77 rfl Tryz.ntmps77 Tryz.results77 rfl (by kernel_rfl) rfl ?_
  (repeat refine PW.seq ?_); refine PW.rg rfl fun K hK => ?_; simp (maxSteps := 3000000) (disch := omega) only [go_sem, ↓reduceIte, reduceCtorEq, pappend, plen]; refine hK _ _ ?_; clear hK K
  (repeat refine PW.seq ?_); refine PW.rg rfl fun K hK => ?_; simp (maxSteps := 3000000) (disch := omega) only [go_sem, ↓reduceIte, reduceCtorEq, pappend, plen, length_bs, pbytes_bs]; refine hK _ _ ?_; clear hK K
  exact PW.ret ⟨_, rfl, .inl ⟨rfl, rfl⟩⟩
theorem sqz_len (w h a b : Int) (il : Bool) (br bf : Int) (x y : List UInt8) (hx : x.length = 64) (hy : y.length = 64) : (sqc ⟨w, h, a, b, il, br, bf, x, y⟩).length = 135 := sqc_len _ ⟨hx, hy⟩
theorem sq_s0 (w h a b : Int) (il : Bool) (br bf : Int) (x y : List UInt8) (v : Int) : (sqc ⟨w, h, a, b, il, br, bf, x, y⟩).set 0 (.int .i64 v) = sqc ⟨v, h, a, b, il, br, bf, x, y⟩ := rfl
theorem sq_s1 (w h a b : Int) (il : Bool) (br bf : Int) (x y : List UInt8) (v : Int) : (sqc ⟨w, h, a, b, il, br, bf, x, y⟩).set 1 (.int .i64 v) = sqc ⟨w, v, a, b, il, br, bf, x, y⟩ := rfl
theorem sq_s2 (w h a b : Int) (il : Bool) (br bf : Int) (x y : List UInt8) (v : Int) : (sqc ⟨w, h, a, b, il, br, bf, x, y⟩).set 2 (.int .i64 v) = sqc ⟨w, h, v, b, il, br, bf, x, y⟩ := rfl
theorem sq_s3 (w h a b : Int) (il : Bool) (br bf : Int) (x y : List UInt8) (v : Int) : (sqc ⟨w, h, a, b, il, br, bf, x, y⟩).set 3 (.int .i64 v) = sqc ⟨w, h, a, v, il, br, bf, x, y⟩ := rfl
theorem sq_s4 (w h a b : Int) (il : Bool) (br bf : Int) (x y : List UInt8) (v : Bool) : (sqc ⟨w, h, a, b, il, br, bf, x, y⟩).set 4 (.bool v) = sqc ⟨w, h, a, b, v, br, bf, x, y⟩ := rfl
theorem sq_s5 (w h a b : Int) (il : Bool) (br bf : Int) (x y : List UInt8) (v : Int) : (sqc ⟨w, h, a, b, il, br, bf, x, y⟩).set 5 (.int .i64 v) = sqc ⟨w, h, a, b, il, v, bf, x, y⟩ := rfl
theorem sq_s6 (w h a b : Int) (il : Bool) (br bf : Int) (x y : List UInt8) (v : Int) : (sqc ⟨w, h, a, b, il, br, bf, x, y⟩).set 6 (.int .i64 v) = sqc ⟨w, h, a, b, il, br, v, x, y⟩ := rfl
theorem sq_s7 (w h a b : Int) (il : Bool) (br bf : Int) (x y m : List UInt8) (hx : x.length = 64) : List.take 7 (sqc ⟨w, h, a, b, il, br, bf, x, y⟩) ++ (bs m ++ List.drop 71 (sqc ⟨w, h, a, b, il, br, bf, x, y⟩)) = sqc ⟨w, h, a, b, il, br, bf, m, y⟩ := by
  have : List.drop 71 (sqc ⟨w, h, a, b, il, br, bf, x, y⟩) = bs y := by
    show List.drop 64 (bs x ++ bs y) = bs y
    exact sq_ie x y hx
  rw [this]; rfl
theorem sq_s71 (w h a b : Int) (il : Bool) (br bf : Int) (x y m : List UInt8) (hx : x.length = 64) (hy : y.length = 64) : List.take 71 (sqc ⟨w, h, a, b, il, br, bf, x, y⟩) ++ (bs m ++ List.drop 135 (sqc ⟨w, h, a, b, il, br, bf, x, y⟩)) = sqc ⟨w, h, a, b, il, br, bf, x, m⟩ := by
  have h1 : List.drop 135 (sqc ⟨w, h, a, b, il, br, bf, x, y⟩) = [] := List.drop_of_length_le (by rw [sqz_len _ _ _ _ _ _ _ _ _ hx hy]; omega)
  have h2 : List.take 71 (sqc ⟨w, h, a, b, il, br, bf, x, y⟩) = .int .i64 w :: .int .i64 h :: .int .i64 a :: .int .i64 b :: .bool il :: .int .i64 br :: .int .i64 bf :: List.take 64 (bs x ++ bs y) := rfl
  rw [h1, h2, sq_ia x y hx, List.append_nil]; rfl

set_option maxHeartbeats 8000000 in
theorem takeS_ok (t : Int) (q : List UInt8) (f : Bool) (H : Heap) (hq : q.length ≤ 100000000) : CallOk Tryz.prog 41 [.agg [.int .i64 t, .slice (bs q) q.length f]] H (rvTS (takeS true t q)) H := by
  obtain ⟨zz1, zz2, zz3⟩ : (sqc zSq).length = 135 ∧ List.take 135 (sqc zSq) = sqc zSq ∧ List.drop 135 (sqc zSq) = [] := by
    have hl : (sqc zSq).length = 135 := sqc_len _ ⟨z64_len, z64_len⟩
    exact ⟨hl, List.take_of_length_le (by omega), List.drop_of_length_le (by omega)⟩
  generalize hr : takeS true t q = r
  unfold takeS at hr
  refine CallOk.body (F0 := [(0, .agg [.int .i64 t, .slice (bs q) q.length f])]) Tryz.func41 rfl Tryz.ntmps41 Tryz.results41 rfl (by kernel_rfl) rfl ?_
  (repeat refine PW.seq ?_); refine PW.rg rfl fun K hK => ?_; simp (maxSteps := 3000000) (disch := omega) only [go_sem, ↓reduceIte, reduceCtorEq, pappend, plen, ↓zcSq]; refine hK _ _ ?_; clear hK K
  by_cases ht : t = 179
  rotate_left
  · rw [if_neg (fun h => ht h.1)] at hr
    have bt : (t != 179) = true := by simp [ht]
    (repeat refine PW.seq ?_); refine PW.rg rfl fun K hK => ?_; simp (maxSteps := 3000000) (disch := omega) only [go_sem, ↓reduceIte, reduceCtorEq, pappend, plen, bt]; refine hK _ _ ?_; clear hK K
    (repeat refine PW.seq ?_); refine PW.cond (t := _) rfl (fun h => ?_) (fun h => ?_)
    rotate_left
    · cases h
    (repeat refine PW.seq ?_); refine PW.rg rfl fun K hK => ?_; simp (maxSteps := 3000000) (disch := omega) only [go_sem, ↓reduceIte, reduceCtorEq, pappend, plen, ↓zcSq, zz1, zz2, zz3]; refine hK _ _ ?_; clear hK K
    refine PW.ret ⟨rvTS (zSq, 3), by simp (maxSteps := 3000000) (disch := omega) only [go_sem, ↓reduceIte, reduceCtorEq, pappend, plen, presults, presult, List.mapM_cons, List.mapM_nil, Option.pure_def, Option.bind_eq_bind, Option.bind_some, Array.toList, zz1, zz2, rvTS], ?_⟩
    rw [← hr]
    exact Fin.base (.id (rvTS_sc _ _))
  have bt : (t != 179) = false := by simp [ht]
  (repeat refine PW.seq ?_); refine PW.rg rfl fun K hK => ?_; simp (maxSteps := 3000000) (disch := omega) only [go_sem, ↓reduceIte, reduceCtorEq, pappend, plen, bt]; refine hK _ _ ?_; clear hK K
  (repeat refine PW.seq ?_); refine PW.cond (t := _) rfl (fun h => ?_) (fun h => ?_)
  · cases h
  refine PW.skip ?_
  by_cases hb : q.length = 0 ∨ lastB q = 0
  · rw [if_neg (fun h => by rcases hb with hb | hb; exact h.2.1 hb; exact h.2.2 hb)] at hr
    have nr := fun K => newr_bad q f K hq hb
    (repeat refine PW.seq ?_); refine PW.rg rfl fun K hK => ?_; simp (maxSteps := 3000000) (disch := omega) only [go_sem, ↓reduceIte, reduceCtorEq, pappend, plen]; refine VCx.call (nr _) rfl ?_; simp (maxSteps := 3000000) (disch := omega) only [go_sem, ↓reduceIte, reduceCtorEq, pappend, plen]; refine hK _ _ ?_; clear hK K
    (repeat refine PW.seq ?_); refine PW.rg rfl fun K hK => ?_; simp (maxSteps := 3000000) (disch := omega) only [go_sem, ↓reduceIte, reduceCtorEq, pappend, plen]; refine hK _ _ ?_; clear hK K
    (repeat refine PW.seq ?_); refine PW.cond (t := _) rfl (fun h => ?_) (fun h => ?_)
    rotate_left
    · cases h
    (repeat refine PW.seq ?_); refine PW.rg rfl fun K hK => ?_; simp (maxSteps := 3000000) (disch := omega) only [go_sem, ↓reduceIte, reduceCtorEq, pappend, plen, ↓zcSq, zz1, zz2, zz3]; refine hK _ _ ?_; clear hK K
    refine PW.ret ⟨rvTS (zSq, 3), by simp (maxSteps := 3000000) (disch := omega) only [go_sem, ↓reduceIte, reduceCtorEq, pappend, plen, presults, presult, List.mapM_cons, List.mapM_nil, Option.pure_def, Option.bind_eq_bind, Option.bind_some, Array.toList, zz1, zz2, rvTS], ?_⟩
    rw [← hr]
    exact Fin.base (.id (rvTS_sc _ _))
  have hq0 : q.length ≠ 0 := fun h => hb (.inl h)
  have hl0 : lastB q ≠ 0 := fun h => hb (.inr h)
  rw [if_pos ⟨ht, hq0, hl0⟩] at hr
  obtain ⟨nb1, nb2, _⟩ := nb_one q hq0 hl0
  have nr := fun K => newr_ok q f K hq hq0 hl0
  (repeat refine PW.seq ?_); refine PW.rg rfl fun K hK => ?_; simp (maxSteps := 3000000) (disch := omega) only [go_sem, ↓reduceIte, reduceCtorEq, pappend, plen]; refine VCx.call (nr _) rfl ?_; simp (maxSteps := 3000000) (disch := omega) only [go_sem, ↓reduceIte, reduceCtorEq, pappend, plen]; refine hK _ _ ?_; clear hK K
  (repeat refine PW.seq ?_); refine PW.rg rfl fun K hK => ?_; simp (maxSteps := 3000000) (disch := omega) only [go_sem, ↓reduceIte, reduceCtorEq, pappend, plen]; refine hK _ _ ?_; clear hK K
  (repeat refine PW.seq ?_); refine PW.cond (t := _) rfl (fun h => ?_) (fun h => ?_)
  · cases h
  refine PW.skip ?_
  (repeat refine PW.seq ?_); refine PW.rg rfl fun K hK => ?_; simp (maxSteps := 3000000) (disch := omega) only [go_sem, ↓reduceIte, reduceCtorEq, pappend, plen]; refine hK _ _ ?_; clear hK K
  (repeat refine PW.seq ?_); refine PW.rg rfl fun K hK => ?_; simp (maxSteps := 3000000) (disch := omega) only [go_sem, ↓reduceIte, reduceCtorEq, pappend, plen, ↓zcSq]; refine hK _ _ ?_; clear hK K
  generalize hn : nb q = n at *
  have hnl : n ≤ 8 * q.length := by omega
  obtain ⟨B, hB⟩ : ∃ B, B = H ++ [⟨41, 0, [.int .i64 t, .slice (bs q) q.length f]⟩, ⟨51, 0, sqc zSq⟩, ⟨5, 1, []⟩, rA q n 0, tkBU (H.length + 3) 0] := ⟨_, rfl⟩
  have hBl : B.length = H.length + 5 := by rw [hB]; simp
  have tB : Tk B (H.length + 4) (H.length + 3) q n := ⟨by omega, by omega, by omega, hnl, hq⟩
  have r0 : RkU n (0, 0) := ⟨Nat.zero_le _, Nat.zero_le _⟩
  have hB0 : B = tH B (H.length + 4) (H.length + 3) q n (0, 0) := by
    unfold tH
    exact (two_self (by rw [hB]; simp [apn]) (by rw [hB]; simp [apn])).symm
  have g0 : ∀ x K, (tH B (H.length + 4) (H.length + 3) q n x ++ K)[H.length]? = some ⟨41, 0, [.int .i64 t, .slice (bs q) q.length f]⟩ := fun x K => by
    rw [List.getElem?_append_left (by rw [tH_len]; omega), tH, two, List.getElem?_set_ne (by omega), List.getElem?_set_ne (by omega), hB]
    exact hp0 _ _ _
  have g1 : ∀ x K, (tH B (H.length + 4) (H.length + 3) q n x ++ K)[H.length + 1]? = some ⟨51, 0, sqc zSq⟩ := fun x K => by
    rw [List.getElem?_append_left (by rw [tH_len]; omega), tH, two, List.getElem?_set_ne (by omega), List.getElem?_set_ne (by omega), hB]
    exact hp1 _ _ _ _
  have g4 : ∀ x K, (tH B (H.length + 4) (H.length + 3) q n x ++ K)[H.length + 4]? = some (tkBU (H.length + 3) x.2) := fun x K => by
    rw [List.getElem?_append_left (by rw [tH_len]; omega)]
    exact two_0 _ _ _ _ _ ⟨by omega, by omega⟩
  refine PW.at [1, 2, 6, 7] (F1 := [(1, .ptr H.length 0 0), (2, .ptr (H.length + 1) 0 0), (6, .ptr (H.length + 4) 0 0), (7, .ptr B.length 0 0)]) (H1 := tH B (H.length + 4) (H.length + 3) q n (0, 0) ++ [⟨51, 0, sqc zSq⟩]) ?_ (by rw [hBl]; rfl) (by rw [← hB0, hB]; exact (List.append_assoc H [_, _, _, _, _] [_]).symm)
  have zl := z64_len
  unfold zSq
  have n0 : CallOk Tryz.prog 72 [.ptr (H.length + 4) 0 0, .int .i64 (8 : Int)] (tH B (H.length + 4) (H.length + 3) q n ((0, 0) : Nat × Nat) ++ [⟨51, 0, sqc ⟨0, 0, 0, 0, false, 0, 0, z64U, z64U⟩⟩]) (.int .i64 ((rw' true q n).1 : Int)) (tH B (H.length + 4) (H.length + 3) q n (rw' true q n).2 ++ [⟨51, 0, sqc ⟨0, 0, 0, 0, false, 0, 0, z64U, z64U⟩⟩]) := num_at tB _ _ 8 r0 (by omega)
  have b0 : (rw' true q n).1 < 2 ^ 8 := nm_lt true q n ((0, 0) : Nat × Nat) 8
  have r1 : RkU n (rw' true q n).2 := r0.nm 8
  (repeat refine PW.seq ?_); refine PW.rg rfl fun K hK => ?_; simp (maxSteps := 3000000) (disch := omega) only [go_sem, ↓reduceIte, reduceCtorEq, pappend, plen]; refine VCx.call (n0) rfl ?_; simp (maxSteps := 3000000) (disch := omega) only [go_sem, ↓reduceIte, reduceCtorEq, pappend, plen, tH_z, tH_sz, sqz_len, zl, sq_s0]; refine hK _ _ ?_; clear hK K
  have n1 : CallOk Tryz.prog 72 [.ptr (H.length + 4) 0 0, .int .i64 (8 : Int)] (tH B (H.length + 4) (H.length + 3) q n (rw' true q n).2 ++ [⟨51, 0, sqc ⟨16 * ((rw' true q n).1 : Int), 0, 0, 0, false, 0, 0, z64U, z64U⟩⟩]) (.int .i64 ((rh' true q n).1 : Int)) (tH B (H.length + 4) (H.length + 3) q n (rh' true q n).2 ++ [⟨51, 0, sqc ⟨16 * ((rw' true q n).1 : Int), 0, 0, 0, false, 0, 0, z64U, z64U⟩⟩]) := num_at tB _ _ 8 r1 (by omega)
  have b1 : (rh' true q n).1 < 2 ^ 8 := nm_lt true q n (rw' true q n).2 8
  have r2 : RkU n (rh' true q n).2 := r1.nm 8
  (repeat refine PW.seq ?_); refine PW.rg rfl fun K hK => ?_; simp (maxSteps := 3000000) (disch := omega) only [go_sem, ↓reduceIte, reduceCtorEq, pappend, plen]; refine VCx.call (n1) rfl ?_; simp (maxSteps := 3000000) (disch := omega) only [go_sem, ↓reduceIte, reduceCtorEq, pappend, plen, tH_z, tH_sz, sqz_len, zl, sq_s1]; refine hK _ _ ?_; clear hK K
  have n2 : CallOk Tryz.prog 72 [.ptr (H.length + 4) 0 0, .int .i64 (32 : Int)] (tH B (H.length + 4) (H.length + 3) q n (rh' true q n).2 ++ [⟨51, 0, sqc ⟨16 * ((rw' true q n).1 : Int), 16 * ((rh' true q n).1 : Int), 0, 0, false, 0, 0, z64U, z64U⟩⟩]) (.int .i64 ((rn' true q n).1 : Int)) (tH B (H.length + 4) (H.length + 3) q n (rn' true q n).2 ++ [⟨51, 0, sqc ⟨16 * ((rw' true q n).1 : Int), 16 * ((rh' true q n).1 : Int), 0, 0, false, 0, 0, z64U, z64U⟩⟩]) := num_at tB _ _ 32 r2 (by omega)
  have b2 : (rn' true q n).1 < 2 ^ 32 := nm_lt true q n (rh' true q n).2 32
  have r3 : RkU n (rn' true q n).2 := r2.nm 32
  (repeat refine PW.seq ?_); refine PW.rg rfl fun K hK => ?_; simp (maxSteps := 3000000) (disch := omega) only [go_sem, ↓reduceIte, reduceCtorEq, pappend, plen]; refine VCx.call (n2) rfl ?_; simp (maxSteps := 3000000) (disch := omega) only [go_sem, ↓reduceIte, reduceCtorEq, pappend, plen, tH_z, tH_sz, sqz_len, zl, sq_s2]; refine hK _ _ ?_; clear hK K
  have n3 : CallOk Tryz.prog 72 [.ptr (H.length + 4) 0 0, .int .i64 (32 : Int)] (tH B (H.length + 4) (H.length + 3) q n (rn' true q n).2 ++ [⟨51, 0, sqc ⟨16 * ((rw' true q n).1 : Int), 16 * ((rh' true q n).1 : Int), ((rn' true q n).1 : Int), 0, false, 0, 0, z64U, z64U⟩⟩]) (.int .i64 ((rd' true q n).1 : Int)) (tH B (H.length + 4) (H.length + 3) q n (rd' true q n).2 ++ [⟨51, 0, sqc ⟨16 * ((rw' true q n).1 : Int), 16 * ((rh' true q n).1 : Int), ((rn' true q n).1 : Int), 0, false, 0, 0, z64U, z64U⟩⟩]) := num_at tB _ _ 32 r3 (by omega)
  have b3 : (rd' true q n).1 < 2 ^ 32 := nm_lt true q n (rn' true q n).2 32
  have r4 : RkU n (rd' true q n).2 := r3.nm 32
  (repeat refine PW.seq ?_); refine PW.rg rfl fun K hK => ?_; simp (maxSteps := 3000000) (disch := omega) only [go_sem, ↓reduceIte, reduceCtorEq, pappend, plen]; refine VCx.call (n3) rfl ?_; simp (maxSteps := 3000000) (disch := omega) only [go_sem, ↓reduceIte, reduceCtorEq, pappend, plen, tH_z, tH_sz, sqz_len, zl, sq_s3]; refine hK _ _ ?_; clear hK K
  have n4 : CallOk Tryz.prog 73 [.ptr (H.length + 4) 0 0] (tH B (H.length + 4) (H.length + 3) q n (rd' true q n).2 ++ [⟨51, 0, sqc ⟨16 * ((rw' true q n).1 : Int), 16 * ((rh' true q n).1 : Int), ((rn' true q n).1 : Int), ((rd' true q n).1 : Int), false, 0, 0, z64U, z64U⟩⟩]) (.bool (decide ((ri' true q n).1 = 1))) (tH B (H.length + 4) (H.length + 3) q n (ri' true q n).2 ++ [⟨51, 0, sqc ⟨16 * ((rw' true q n).1 : Int), 16 * ((rh' true q n).1 : Int), ((rn' true q n).1 : Int), ((rd' true q n).1 : Int), false, 0, 0, z64U, z64U⟩⟩]) := flg_at tB _ _ r4
  have b4 : (ri' true q n).1 < 2 ^ 1 := nm_lt true q n (rd' true q n).2 1
  have r5 : RkU n (ri' true q n).2 := r4.nm 1
  (repeat refine PW.seq ?_); refine PW.rg rfl fun K hK => ?_; simp (maxSteps := 3000000) (disch := omega) only [go_sem, ↓reduceIte, reduceCtorEq, pappend, plen]; refine VCx.call (n4) rfl ?_; simp (maxSteps := 3000000) (disch := omega) only [go_sem, ↓reduceIte, reduceCtorEq, pappend, plen, tH_z, tH_sz, sqz_len, zl, sq_s4]; refine hK _ _ ?_; clear hK K
  have n5 : CallOk Tryz.prog 72 [.ptr (H.length + 4) 0 0, .int .i64 (32 : Int)] (tH B (H.length + 4) (H.length + 3) q n (ri' true q n).2 ++ [⟨51, 0, sqc ⟨16 * ((rw' true q n).1 : Int), 16 * ((rh' true q n).1 : Int), ((rn' true q n).1 : Int), ((rd' true q n).1 : Int), decide ((ri' true q n).1 = 1), 0, 0, z64U, z64U⟩⟩]) (.int .i64 ((rb' true q n).1 : Int)) (tH B (H.length + 4) (H.length + 3) q n (rb' true q n).2 ++ [⟨51, 0, sqc ⟨16 * ((rw' true q n).1 : Int), 16 * ((rh' true q n).1 : Int), ((rn' true q n).1 : Int), ((rd' true q n).1 : Int), decide ((ri' true q n).1 = 1), 0, 0, z64U, z64U⟩⟩]) := num_at tB _ _ 32 r5 (by omega)
  have b5 : (rb' true q n).1 < 2 ^ 32 := nm_lt true q n (ri' true q n).2 32
  have r6 : RkU n (rb' true q n).2 := r5.nm 32
  (repeat refine PW.seq ?_); refine PW.rg rfl fun K hK => ?_; simp (maxSteps := 3000000) (disch := omega) only [go_sem, ↓reduceIte, reduceCtorEq, pappend, plen]; refine VCx.call (n5) rfl ?_; simp (maxSteps := 3000000) (disch := omega) only [go_sem, ↓reduceIte, reduceCtorEq, pappend, plen, tH_z, tH_sz, sqz_len, zl, sq_s5]; refine hK _ _ ?_; clear hK K
  have n6 : CallOk Tryz.prog 72 [.ptr (H.length + 4) 0 0, .int .i64 (32 : Int)] (tH B (H.length + 4) (H.length + 3) q n (rb' true q n).2 ++ [⟨51, 0, sqc ⟨16 * ((rw' true q n).1 : Int), 16 * ((rh' true q n).1 : Int), ((rn' true q n).1 : Int), ((rd' true q n).1 : Int), decide ((ri' true q n).1 = 1), ((rb' true q n).1 : Int), 0, z64U, z64U⟩⟩]) (.int .i64 ((rf' true q n).1 : Int)) (tH B (H.length + 4) (H.length + 3) q n (rf' true q n).2 ++ [⟨51, 0, sqc ⟨16 * ((rw' true q n).1 : Int), 16 * ((rh' true q n).1 : Int), ((rn' true q n).1 : Int), ((rd' true q n).1 : Int), decide ((ri' true q n).1 = 1), ((rb' true q n).1 : Int), 0, z64U, z64U⟩⟩]) := num_at tB _ _ 32 r6 (by omega)
  have b6 : (rf' true q n).1 < 2 ^ 32 := nm_lt true q n (rb' true q n).2 32
  have r7 : RkU n (rf' true q n).2 := r6.nm 32
  (repeat refine PW.seq ?_); refine PW.rg rfl fun K hK => ?_; simp (maxSteps := 3000000) (disch := omega) only [go_sem, ↓reduceIte, reduceCtorEq, pappend, plen]; refine VCx.call (n6) rfl ?_; simp (maxSteps := 3000000) (disch := omega) only [go_sem, ↓reduceIte, reduceCtorEq, pappend, plen, tH_z, tH_sz, sqz_len, zl, sq_s6]; refine hK _ _ ?_; clear hK K
  have la := (ra_b true q n).1
  have le := (re_b true q n).1
  have ea : ra' true q n = rdM true q n dIn (rf' true q n).2 := by unfold ra'; exact Eq.refl _
  have ee : re' true q n = rdM true q n dIt (ra' true q n).2 := by unfold re'; exact Eq.refl _
  have n8 := tmat_ok tB [⟨51, 0, sqc ⟨16 * ((rw' true q n).1 : Int), 16 * ((rh' true q n).1 : Int), ((rn' true q n).1 : Int), ((rd' true q n).1 : Int), decide ((ri' true q n).1 = 1), ((rb' true q n).1 : Int), ((rf' true q n).1 : Int), z64U, z64U⟩⟩] (rf' true q n).2 r7 dIn dIn_len
  rw [← ea] at n8
  have r8 : RkU n (ra' true q n).2 := by rw [ea]; exact r7.rdM
  have la' : (bs (ra' true q n).1).length = 64 := by rw [length_bs]; exact la
  (repeat refine PW.seq ?_); refine PW.rg rfl fun K hK => ?_; simp (maxSteps := 3000000) (disch := omega) only [go_sem, ↓reduceIte, reduceCtorEq, pappend, plen]; refine VCx.call (din_ok _) rfl ?_; simp (maxSteps := 3000000) (disch := omega) only [go_sem, ↓reduceIte, reduceCtorEq, pappend, plen]; refine VCx.call (n8) rfl ?_; simp (maxSteps := 3000000) (disch := omega) only [go_sem, ↓reduceIte, reduceCtorEq, pappend, plen, tH_z, tH_sz, sqz_len, zl, la', Nat.reduceAdd, sq_s7]; refine hK _ _ ?_; clear hK K
  have n9 := tmat_ok tB [⟨51, 0, sqc ⟨16 * ((rw' true q n).1 : Int), 16 * ((rh' true q n).1 : Int), ((rn' true q n).1 : Int), ((rd' true q n).1 : Int), decide ((ri' true q n).1 = 1), ((rb' true q n).1 : Int), ((rf' true q n).1 : Int), (ra' true q n).1, z64U⟩⟩] (ra' true q n).2 r8 dIt dIt_len
  rw [← ee] at n9
  have r9 : RkU n (re' true q n).2 := by rw [ee]; exact r8.rdM
  have le' : (bs (re' true q n).1).length = 64 := by rw [length_bs]; exact le
  (repeat refine PW.seq ?_); refine PW.rg rfl fun K hK => ?_; simp (maxSteps := 3000000) (disch := omega) only [go_sem, ↓reduceIte, reduceCtorEq, pappend, plen]; refine VCx.call (dit_ok _) rfl ?_; simp (maxSteps := 3000000) (disch := omega) only [go_sem, ↓reduceIte, reduceCtorEq, pappend, plen]; refine VCx.call (n9) rfl ?_; simp (maxSteps := 3000000) (disch := omega) only [go_sem, ↓reduceIte, reduceCtorEq, pappend, plen, tH_z, tH_sz, sqz_len, zl, la, le', Nat.reduceAdd, sq_s71]; refine hK _ _ ?_; clear hK K
  obtain ⟨s, hs⟩ : ∃ s, s = rdS true q n := ⟨_, rfl⟩
  have hso : SqOk s := by rw [hs]; exact rdS_ok _ _ _
  have hsx : rdS true q n = ⟨16 * ((rw' true q n).1 : Int), 16 * ((rh' true q n).1 : Int), ((rn' true q n).1 : Int), ((rd' true q n).1 : Int), decide ((ri' true q n).1 = 1), ((rb' true q n).1 : Int), ((rf' true q n).1 : Int), (ra' true q n).1, (re' true q n).1⟩ := by unfold rdS; exact Eq.refl _
  rw [← hsx, ← hs]
  rw [← hs] at hr
  generalize (re' true q n).2 = z at *
  have l135 : (sqc s).length = 135 := sqc_len _ ⟨hso.ia, hso.ie⟩
  have t135 : List.take 135 (sqc s) = sqc s := List.take_of_length_le (by omega)
  have po := fun K => puts_ok s K hso
  have rz := r9.e
  have be := beq_ok (putS s).2.1 q false f
  (repeat refine PW.seq ?_); refine PW.rg rfl fun K hK => ?_; simp (maxSteps := 3000000) (disch := omega) only [go_sem, ↓reduceIte, reduceCtorEq, pappend, plen, tH_z, l135, t135]; refine VCx.call (po _) rfl ?_; simp (maxSteps := 3000000) (disch := omega) only [go_sem, ↓reduceIte, reduceCtorEq, pappend, plen, tH_len, List.length_append, tH_n, tH_s, uv]; refine hK _ _ ?_; clear hK K
  have hT : ∀ K, tH B (H.length + 4) (H.length + 3) q n z ++ K = H ++ (⟨41, 0, [.int .i64 t, .slice (bs q) q.length f]⟩ :: ⟨51, 0, sqc zSq⟩ :: ⟨5, 1, []⟩ :: rA q n z.1 :: tkBU (H.length + 3) z.2 :: K) := fun K => by
    unfold tH two
    rw [hB, aps, aps, List.append_assoc]; rfl
  generalize hP : (putS s).2.1 = P at *
  obtain ⟨zz1, zz2, zz3⟩ : (sqc zSq).length = 135 ∧ List.take 135 (sqc zSq) = sqc zSq ∧ List.drop 135 (sqc zSq) = [] := by
    have hl : (sqc zSq).length = 135 := sqc_len _ ⟨z64_len, z64_len⟩
    exact ⟨hl, List.take_of_length_le (by omega), List.drop_of_length_le (by omega)⟩
  have d135 : List.drop 135 (sqc s) = [] := List.drop_of_length_le (by omega)
  refine PW.keep [1, 2, 5, 6, 7, 8] ?_
  suffices hfail : (zSq, 3) = r → PW Tryz.prog _ _ [(2, .ptr (H.length + 1) 0 0), (67, .bool true)] (H ++ (⟨41, 0, [.int .i64 t, .slice (bs q) q.length f]⟩ :: ⟨51, 0, sqc zSq⟩ :: ⟨5, 1, []⟩ :: rA q n z.1 :: tkBU (H.length + 3) z.2 :: [⟨51, 0, sqc s⟩, ⟨41, 0, [.int .i64 (putS s).1, .slice (bs P) P.length false]⟩])) _ by
    by_cases hz : z.2 = 0
    rotate_left
    · have bz : ((z.2 : Int) != 0) = true := by simp; omega
      rw [if_neg (fun h => hz h.1)] at hr
      (repeat refine PW.seq ?_); refine PW.rg rfl fun K hK => ?_; simp (maxSteps := 3000000) (disch := omega) only [go_sem, ↓reduceIte, reduceCtorEq, pappend, plen, g4, tkBU, bz]; refine hK _ _ ?_; clear hK K
      exact PW.at [2, 67] (hfail hr) rfl (hT _)
    have bz : ((z.2 : Int) != 0) = false := by simp [hz]
    cases hv : vseq s with
    | false =>
      rw [if_neg (fun h => by rw [hv] at h; exact absurd h.2.1 (by decide))] at hr
      have hp5 : (putS s).2.2 = 1 := by unfold putS; rw [if_neg (by rw [hv]; decide)]
      have b5 : ((putS s).2.2 != 0) = true := by rw [hp5]; rfl
      (repeat refine PW.seq ?_); refine PW.rg rfl fun K hK => ?_; simp (maxSteps := 3000000) (disch := omega) only [go_sem, ↓reduceIte, reduceCtorEq, pappend, plen, g4, tkBU, bz, b5]; refine hK _ _ ?_; clear hK K
      exact PW.at [2, 67] (hfail hr) rfl (hT _)
    | true =>
      have hp5 : (putS s).2.2 = 0 := by unfold putS; rw [if_pos hv]
      have hp4 : P = pk (sbits s ++ [true]) := by rw [← hP]; unfold putS; rw [if_pos hv]
      have b5 : ((putS s).2.2 != 0) = false := by rw [hp5]; rfl
      by_cases he : P = q
      rotate_left
      · rw [if_neg (fun h => he (by rw [hp4]; exact h.2.2))] at hr
        have be' := fun K => be K
        rw [show (P == q) = false by simpa using he] at be'
        (repeat refine PW.seq ?_); refine PW.rg rfl fun K hK => ?_; simp (maxSteps := 3000000) (disch := omega) only [go_sem, ↓reduceIte, reduceCtorEq, pappend, plen, g4, tkBU, bz, b5, tH_n, g0]
        refine VCx.call (be' _) rfl ?_; simp (maxSteps := 3000000) (disch := omega) only [go_sem, ↓reduceIte, reduceCtorEq, pappend, plen]; refine hK _ _ ?_; clear hK K
        exact PW.at [2, 67] (hfail hr) rfl (hT _)
      · rw [if_pos ⟨hz, hv, by rw [← hp4]; exact he⟩] at hr
        have be' := fun K => be K
        rw [show (P == q) = true by simpa using he] at be'
        (repeat refine PW.seq ?_); refine PW.rg rfl fun K hK => ?_; simp (maxSteps := 3000000) (disch := omega) only [go_sem, ↓reduceIte, reduceCtorEq, pappend, plen, g4, tkBU, bz, b5, tH_n, g0]
        refine VCx.call (be' _) rfl ?_; simp (maxSteps := 3000000) (disch := omega) only [go_sem, ↓reduceIte, reduceCtorEq, pappend, plen]; refine hK _ _ ?_; clear hK K
        (repeat refine PW.seq ?_); refine PW.cond (t := _) rfl (fun h => ?_) (fun h => ?_)
        · cases h
        refine PW.skip ?_
        refine PW.eq rfl (hT _) ?_
        refine PW.at [2, 7] (F1 := [(2, .ptr (H.length + 1) 0 0), (7, .ptr (H.length + 5) 0 0)]) ?_ (by rw [← hBl]; rfl) rfl
        (repeat refine PW.seq ?_); refine PW.rg rfl fun K hK => ?_; simp (maxSteps := 3000000) (disch := omega) only [go_sem, ↓reduceIte, reduceCtorEq, pappend, plen, apn, l135, t135, zz1, zz3, d135, List.append_nil]; refine hK _ _ ?_; clear hK K
        refine PW.ret ⟨rvTS (s, 0), by simp (maxSteps := 3000000) (disch := omega) only [go_sem, ↓reduceIte, reduceCtorEq, pappend, plen, presults, presult, List.mapM_cons, List.mapM_nil, Option.pure_def, Option.bind_eq_bind, Option.bind_some, Array.toList, l135, t135, rvTS], ?_⟩
        rw [← hr]
        exact Fin.base (.id (rvTS_sc _ _))
  intro hr
  (repeat refine PW.seq ?_); refine PW.cond (t := _) rfl (fun h => ?_) (fun h => ?_)
  rotate_left
  · cases h
  (repeat refine PW.seq ?_); refine PW.rg rfl fun K hK => ?_; simp (maxSteps := 3000000) (disch := omega) only [go_sem, ↓reduceIte, reduceCtorEq, pappend, plen, ↓zcSq, zz1, zz2, zz3]; refine hK _ _ ?_; clear hK K
  refine PW.ret ⟨rvTS (zSq, 3), by simp (maxSteps := 3000000) (disch := omega) only [go_sem, ↓reduceIte, reduceCtorEq, pappend, plen, presults, presult, List.mapM_cons, List.mapM_nil, Option.pure_def, Option.bind_eq_bind, Option.bind_some, Array.toList, zz1, zz2, rvTS], ?_⟩
  rw [← hr]
  exact Fin.base (.id (rvTS_sc _ _))

def rvTG (x : Bool × Bool × Int × Int) : PV := .tup [.agg [.bool x.1, .bool x.2.1, .int .i64 x.2.2.1], .int .i64 x.2.2.2]
theorem rvTG_sc (n : Nat) (x : Bool × Bool × Int × Int) : Scoped n (rvTG x) := .tup (all_scoped fun y hy => by
  simp only [List.mem_cons, List.not_mem_nil, or_false] at hy
  rcases hy with rfl | rfl
  · refine ag_scoped fun y hy => ?_
    simp only [List.mem_cons, List.not_mem_nil, or_false] at hy
    rcases hy with rfl | rfl | rfl
    · exact .bool _
    · exact .bool _
    · exact .int _ _
  · exact .int _ _)
theorem nm_in {st : Bool} {q : List UInt8} {n a k : Nat} (h : a + k ≤ n) : nm st q n (a, 0) k = (vl q a k, a + k, 0) := by
  unfold nm
  rw [if_neg (by simp), if_pos h]

set_option maxHeartbeats 4000000 in
theorem takeG_ok (t : Int) (q : List UInt8) (f : Bool) (H : Heap) (hq : q.length ≤ 100000000) : CallOk Tryz.prog 42 [.agg [.int .i64 t, .slice (bs q) q.length f]] H (rvTG (takeG t q)) H := by
  generalize hr : takeG t q = r
  unfold takeG at hr
  refine CallOk.body (F0 := [(0, .agg [.int .i64 t, .slice (bs q) q.length f])]) Tryz.func42 rfl Tryz.ntmps42 Tryz.results42 rfl (by kernel_rfl) rfl ?_
  (repeat refine PW.seq ?_); refine PW.rg rfl fun K hK => ?_; simp (maxSteps := 3000000) (disch := omega) only [go_sem, ↓reduceIte, reduceCtorEq, pappend, plen]; refine hK _ _ ?_; clear hK K
  by_cases ht : t = 184
  rotate_left
  · rw [if_neg (fun h => ht h.1)] at hr
    have bt : (t != 184) = true := by simp [ht]
    (repeat refine PW.seq ?_); refine PW.rg rfl fun K hK => ?_; simp (maxSteps := 3000000) (disch := omega) only [go_sem, ↓reduceIte, reduceCtorEq, pappend, plen, bt]; refine hK _ _ ?_; clear hK K
    (repeat refine PW.seq ?_); refine PW.cond (t := _) rfl (fun h => ?_) (fun h => ?_)
    rotate_left
    · cases h
    (repeat refine PW.seq ?_); refine PW.rg rfl fun K hK => ?_; simp (maxSteps := 3000000) (disch := omega) only [go_sem, ↓reduceIte, reduceCtorEq, pappend, plen]; refine hK _ _ ?_; clear hK K
    refine PW.ret ⟨rvTG (false, false, 0, 3), by simp (maxSteps := 3000000) (disch := omega) only [go_sem, ↓reduceIte, reduceCtorEq, pappend, plen, presults, presult, List.mapM_cons, List.mapM_nil, Option.pure_def, Option.bind_eq_bind, Option.bind_some, Array.toList, rvTG], ?_⟩
    rw [← hr]
    exact Fin.base (.id (rvTG_sc _ _))
  have bt : (t != 184) = false := by simp [ht]
  (repeat refine PW.seq ?_); refine PW.rg rfl fun K hK => ?_; simp (maxSteps := 3000000) (disch := omega) only [go_sem, ↓reduceIte, reduceCtorEq, pappend, plen, bt]; refine hK _ _ ?_; clear hK K
  (repeat refine PW.seq ?_); refine PW.cond (t := _) rfl (fun h => ?_) (fun h => ?_)
  · cases h
  refine PW.skip ?_
  by_cases hb : q.length = 0 ∨ lastB q = 0
  · rw [if_neg (fun h => by rcases hb with hb | hb; exact h.2.1 hb; exact h.2.2.1 hb)] at hr
    have nr := fun K => newr_bad q f K hq hb
    (repeat refine PW.seq ?_); refine PW.rg rfl fun K hK => ?_; simp (maxSteps := 3000000) (disch := omega) only [go_sem, ↓reduceIte, reduceCtorEq, pappend, plen]; refine VCx.call (nr _) rfl ?_; simp (maxSteps := 3000000) (disch := omega) only [go_sem, ↓reduceIte, reduceCtorEq, pappend, plen]; refine hK _ _ ?_; clear hK K
    (repeat refine PW.seq ?_); refine PW.rg rfl fun K hK => ?_; simp (maxSteps := 3000000) (disch := omega) only [go_sem, ↓reduceIte, reduceCtorEq, pappend, plen]; refine hK _ _ ?_; clear hK K
    (repeat refine PW.seq ?_); refine PW.cond (t := _) rfl (fun h => ?_) (fun h => ?_)
    rotate_left
    · cases h
    (repeat refine PW.seq ?_); refine PW.rg rfl fun K hK => ?_; simp (maxSteps := 3000000) (disch := omega) only [go_sem, ↓reduceIte, reduceCtorEq, pappend, plen]; refine hK _ _ ?_; clear hK K
    refine PW.ret ⟨rvTG (false, false, 0, 3), by simp (maxSteps := 3000000) (disch := omega) only [go_sem, ↓reduceIte, reduceCtorEq, pappend, plen, presults, presult, List.mapM_cons, List.mapM_nil, Option.pure_def, Option.bind_eq_bind, Option.bind_some, Array.toList, rvTG], ?_⟩
    rw [← hr]
    exact Fin.base (.id (rvTG_sc _ _))
  have hq0 : q.length ≠ 0 := fun h => hb (.inl h)
  have hl0 : lastB q ≠ 0 := fun h => hb (.inr h)
  obtain ⟨nb1, nb2, _⟩ := nb_one q hq0 hl0
  have nr := fun K => newr_ok q f K hq hq0 hl0
  (repeat refine PW.seq ?_); refine PW.rg rfl fun K hK => ?_; simp (maxSteps := 3000000) (disch := omega) only [go_sem, ↓reduceIte, reduceCtorEq, pappend, plen]; refine VCx.call (nr _) rfl ?_; simp (maxSteps := 3000000) (disch := omega) only [go_sem, ↓reduceIte, reduceCtorEq, pappend, plen]; refine hK _ _ ?_; clear hK K
  have lf := rleft_ok (H.length + 3) q (nb q) 0 (H ++ [⟨41, 0, [.int .i64 t, .slice (bs q) q.length f]⟩, ⟨53, 0, [.bool false, .bool false, .int .i64 0]⟩, ⟨5, 1, []⟩, rA q (nb q) 0]) (hp3 _ _ _ _ _ _) (Nat.zero_le _) (by omega)
  rw [Nat.sub_zero] at lf
  (repeat refine PW.seq ?_); refine PW.rg rfl fun K hK => ?_; simp (maxSteps := 3000000) (disch := omega) only [go_sem, ↓reduceIte, reduceCtorEq, pappend, plen]
  refine VCx.call (lf) rfl ?_; simp (maxSteps := 3000000) (disch := omega) only [go_sem, ↓reduceIte, reduceCtorEq, pappend, plen]
  by_cases h26 : nb q = 26
  rotate_left
  · have d26 : ((nb q : Int) != 26) = true := by simp; omega
    rw [if_neg (fun h => h26 h.2.2.2)] at hr
    refine hK _ _ ?_; clear hK K
    (repeat refine PW.seq ?_); refine PW.cond (t := _) rfl (fun h => ?_) (fun h => ?_)
    rotate_left
    · rw [d26] at h; cases h
    (repeat refine PW.seq ?_); refine PW.rg rfl fun K hK => ?_; simp (maxSteps := 3000000) (disch := omega) only [go_sem, ↓reduceIte, reduceCtorEq, pappend, plen]; refine hK _ _ ?_; clear hK K
    refine PW.ret ⟨rvTG (false, false, 0, 3), by simp (maxSteps := 3000000) (disch := omega) only [go_sem, ↓reduceIte, reduceCtorEq, pappend, plen, presults, presult, List.mapM_cons, List.mapM_nil, Option.pure_def, Option.bind_eq_bind, Option.bind_some, Array.toList, rvTG], ?_⟩
    rw [← hr]
    exact Fin.base (.id (rvTG_sc _ _))
  have d26 : ((nb q : Int) != 26) = false := by rw [h26]; rfl
  rw [if_pos ⟨ht, hq0, hl0, h26⟩] at hr
  refine hK _ _ ?_; clear hK K
  (repeat refine PW.seq ?_); refine PW.cond (t := _) rfl (fun h => ?_) (fun h => ?_)
  · rw [d26] at h; cases h
  refine PW.skip ?_
  (repeat refine PW.seq ?_); refine PW.rg rfl fun K hK => ?_; simp (maxSteps := 3000000) (disch := omega) only [go_sem, ↓reduceIte, reduceCtorEq, pappend, plen]; refine hK _ _ ?_; clear hK K
  (repeat refine PW.seq ?_); refine PW.rg rfl fun K hK => ?_; simp (maxSteps := 3000000) (disch := omega) only [go_sem, ↓reduceIte, reduceCtorEq, pappend, plen]; refine hK _ _ ?_; clear hK K
  rw [h26] at lf ⊢
  have hnl : 26 ≤ 8 * q.length := by omega
  obtain ⟨B, hB⟩ : ∃ B, B = H ++ [⟨41, 0, [.int .i64 t, .slice (bs q) q.length f]⟩, ⟨53, 0, [.bool false, .bool false, .int .i64 0]⟩, ⟨5, 1, []⟩, rA q 26 0, tkBU (H.length + 3) 0] := ⟨_, rfl⟩
  have hBl : B.length = H.length + 5 := by rw [hB]; simp
  have tB : Tk B (H.length + 4) (H.length + 3) q 26 := ⟨by omega, by omega, by omega, hnl, hq⟩
  have hB0 : B = tH B (H.length + 4) (H.length + 3) q 26 (0, 0) := by
    unfold tH
    exact (two_self (by rw [hB]; simp [apn]) (by rw [hB]; simp [apn])).symm
  refine PW.at [1, 2, 6, 7] (F1 := [(1, .ptr H.length 0 0), (2, .ptr (H.length + 1) 0 0), (6, .ptr (H.length + 4) 0 0), (7, .ptr B.length 0 0)]) (H1 := tH B (H.length + 4) (H.length + 3) q 26 (0, 0) ++ [⟨53, 0, [.bool false, .bool false, .int .i64 0]⟩]) ?_ (by rw [hBl]; rfl) (by rw [← hB0, hB]; exact (List.append_assoc H [_, _, _, _, _] [_]).symm)
  have n1 := fun K => flg_at tB K (0, 0) ⟨Nat.zero_le _, Nat.zero_le _⟩
  have n2 := fun K => flg_at tB K (1, 0) ⟨by decide, Nat.zero_le _⟩
  have n3 := fun K => num_at tB K (2, 0) 24 ⟨by decide, Nat.zero_le _⟩ (by omega)
  rw [nm_in (by omega)] at n1 n2 n3
  dsimp only at n1 n2 n3
  have b3 := vl_lt q 2 24
  (repeat refine PW.seq ?_); refine PW.rg rfl fun K hK => ?_; simp (maxSteps := 3000000) (disch := omega) only [go_sem, ↓reduceIte, reduceCtorEq, pappend, plen]; refine VCx.call (n1 _) rfl ?_; simp (maxSteps := 3000000) (disch := omega) only [go_sem, ↓reduceIte, reduceCtorEq, pappend, plen, tH_z, tH_sz]; refine hK _ _ ?_; clear hK K
  (repeat refine PW.seq ?_); refine PW.rg rfl fun K hK => ?_; simp (maxSteps := 3000000) (disch := omega) only [go_sem, ↓reduceIte, reduceCtorEq, pappend, plen]; refine VCx.call (n2 _) rfl ?_; simp (maxSteps := 3000000) (disch := omega) only [go_sem, ↓reduceIte, reduceCtorEq, pappend, plen, tH_z, tH_sz]; refine hK _ _ ?_; clear hK K
  (repeat refine PW.seq ?_); refine PW.rg rfl fun K hK => ?_; simp (maxSteps := 3000000) (disch := omega) only [go_sem, ↓reduceIte, reduceCtorEq, pappend, plen]; refine VCx.call (n3 _) rfl ?_; simp (maxSteps := 3000000) (disch := omega) only [go_sem, ↓reduceIte, reduceCtorEq, pappend, plen, tH_z, tH_sz]; refine hK _ _ ?_; clear hK K
  have hT : ∀ K, tH B (H.length + 4) (H.length + 3) q 26 (2 + 24, 0) ++ K = H ++ (⟨41, 0, [.int .i64 t, .slice (bs q) q.length f]⟩ :: ⟨53, 0, [.bool false, .bool false, .int .i64 0]⟩ :: ⟨5, 1, []⟩ :: rA q 26 (2 + 24) :: tkBU (H.length + 3) 0 :: K) := fun K => by
    unfold tH two
    rw [hB, aps, aps, List.append_assoc]; rfl
  refine PW.at [2, 7] (F1 := [(2, .ptr (H.length + 1) 0 0), (7, .ptr (H.length + 5) 0 0)]) ?_ (by rw [← hBl]; rfl) (hT _)
  (repeat refine PW.seq ?_); refine PW.rg rfl fun K hK => ?_; simp (maxSteps := 3000000) (disch := omega) only [go_sem, ↓reduceIte, reduceCtorEq, pappend, plen, apn]; refine hK _ _ ?_; clear hK K
  refine PW.ret ⟨rvTG (decide (vl q 0 1 = 1), decide (vl q 1 1 = 1), (vl q 2 24 : Int), 0), by simp (maxSteps := 3000000) (disch := omega) only [go_sem, ↓reduceIte, reduceCtorEq, pappend, plen, presults, presult, List.mapM_cons, List.mapM_nil, Option.pure_def, Option.bind_eq_bind, Option.bind_some, Array.toList, rvTG], ?_⟩
  rw [← hr]
  exact Fin.base (.id (rvTG_sc _ _))

end Go.Proofs.YtbhdollgohgkgaaGreatDoor.Sc

namespace Go.Proofs.YtbhdollgohgkgaaGreatDoor.Sc
set_option linter.all false
set_option linter.unusedVariables false
set_option linter.unusedSimpArgs false
open Pm Ty Go.RowKit

theorem beq1 (x : Nat) : ((x : Int) == 1) = decide (x = 1) := by
  rw [Bool.eq_iff_iff]; simp; omega
theorem dl1 : (List.drop 1 (sqc zSq)).length = 134 := by kernel_rfl
theorem sq_b01 (w h : Int) : PV.int .i64 w :: PV.int .i64 h :: List.drop 1 (List.drop 1 (sqc zSq)) = sqc ⟨w, h, 0, 0, false, 0, 0, z64U, z64U⟩ := rfl
theorem sq_s23 (w h a b : Int) (il : Bool) (br bf : Int) (x y : List UInt8) (c d : Int) : List.take 2 (sqc ⟨w, h, a, b, il, br, bf, x, y⟩) ++ (.int .i64 c :: .int .i64 d :: List.drop 4 (sqc ⟨w, h, a, b, il, br, bf, x, y⟩)) = sqc ⟨w, h, c, d, il, br, bf, x, y⟩ := rfl

set_option maxHeartbeats 8000000 in
theorem takeS_ref (t : Int) (q : List UInt8) (f : Bool) (H : Heap) (hq : q.length ≤ 100000000) : CallOk Tryz.prog 34 [.agg [.int .i64 t, .slice (bs q) q.length f]] H (rvTS (takeS false t q)) H := by
  obtain ⟨zz1, zz2, zz3⟩ : (sqc zSq).length = 135 ∧ List.take 135 (sqc zSq) = sqc zSq ∧ List.drop 135 (sqc zSq) = [] := by
    have hl : (sqc zSq).length = 135 := sqc_len _ ⟨z64_len, z64_len⟩
    exact ⟨hl, List.take_of_length_le (by omega), List.drop_of_length_le (by omega)⟩
  generalize hr : takeS false t q = r
  unfold takeS at hr
  refine CallOk.body (F0 := [(0, .agg [.int .i64 t, .slice (bs q) q.length f])]) Tryz.func34 rfl Tryz.ntmps34 Tryz.results34 rfl (by kernel_rfl) rfl ?_
  (repeat refine PW.seq ?_); refine PW.rg rfl fun K hK => ?_; simp (maxSteps := 3000000) (disch := omega) only [go_sem, ↓reduceIte, reduceCtorEq, pappend, plen, ↓zcSq]; refine hK _ _ ?_; clear hK K
  by_cases hb : q.length = 0 ∨ lastB q = 0
  · rw [if_neg (fun h => by rcases hb with hb | hb; exact h.2.1 hb; exact h.2.2 hb)] at hr
    have nr := fun K => open_bad q f K hq hb
    (repeat refine PW.seq ?_); refine PW.rg rfl fun K hK => ?_; simp (maxSteps := 3000000) (disch := omega) only [go_sem, ↓reduceIte, reduceCtorEq, pappend, plen]; refine VCx.call (nr _) rfl ?_; simp (maxSteps := 3000000) (disch := omega) only [go_sem, ↓reduceIte, reduceCtorEq, pappend, plen]; refine hK _ _ ?_; clear hK K
    (repeat refine PW.seq ?_); refine PW.rg rfl fun K hK => ?_; simp (maxSteps := 3000000) (disch := omega) only [go_sem, ↓reduceIte, reduceCtorEq, pappend, plen]; refine hK _ _ ?_; clear hK K
    (repeat refine PW.seq ?_); refine PW.cond (t := _) rfl (fun h => ?_) (fun h => ?_)
    rotate_left
    · cases h
    (repeat refine PW.seq ?_); refine PW.rg rfl fun K hK => ?_; simp (maxSteps := 3000000) (disch := omega) only [go_sem, ↓reduceIte, reduceCtorEq, pappend, plen, ↓zcSq, zz1, zz2, zz3]; refine hK _ _ ?_; clear hK K
    refine PW.ret ⟨rvTS (zSq, 3), by simp (maxSteps := 3000000) (disch := omega) only [go_sem, ↓reduceIte, reduceCtorEq, pappend, plen, presults, presult, List.mapM_cons, List.mapM_nil, Option.pure_def, Option.bind_eq_bind, Option.bind_some, Array.toList, zz1, zz2, rvTS], ?_⟩
    rw [← hr]
    exact Fin.base (.id (rvTS_sc _ _))
  have hq0 : q.length ≠ 0 := fun h => hb (.inl h)
  have hl0 : lastB q ≠ 0 := fun h => hb (.inr h)
  obtain ⟨nb1, nb2, _⟩ := nb_one q hq0 hl0
  have nr := fun K => open_ok q f K hq hq0 hl0
  (repeat refine PW.seq ?_); refine PW.rg rfl fun K hK => ?_; simp (maxSteps := 3000000) (disch := omega) only [go_sem, ↓reduceIte, reduceCtorEq, pappend, plen]; refine VCx.call (nr _) rfl ?_; simp (maxSteps := 3000000) (disch := omega) only [go_sem, ↓reduceIte, reduceCtorEq, pappend, plen]; refine hK _ _ ?_; clear hK K
  by_cases ht : t = 179
  rotate_left
  · rw [if_neg (fun h => ht h.1)] at hr
    have bt : (t != 179) = true := by simp [ht]
    (repeat refine PW.seq ?_); refine PW.rg rfl fun K hK => ?_; simp (maxSteps := 3000000) (disch := omega) only [go_sem, ↓reduceIte, reduceCtorEq, pappend, plen, bt]; refine hK _ _ ?_; clear hK K
    (repeat refine PW.seq ?_); refine PW.cond (t := _) rfl (fun h => ?_) (fun h => ?_)
    rotate_left
    · cases h
    (repeat refine PW.seq ?_); refine PW.rg rfl fun K hK => ?_; simp (maxSteps := 3000000) (disch := omega) only [go_sem, ↓reduceIte, reduceCtorEq, pappend, plen, ↓zcSq, zz1, zz2, zz3]; refine hK _ _ ?_; clear hK K
    refine PW.ret ⟨rvTS (zSq, 3), by simp (maxSteps := 3000000) (disch := omega) only [go_sem, ↓reduceIte, reduceCtorEq, pappend, plen, presults, presult, List.mapM_cons, List.mapM_nil, Option.pure_def, Option.bind_eq_bind, Option.bind_some, Array.toList, zz1, zz2, rvTS], ?_⟩
    rw [← hr]
    exact Fin.base (.id (rvTS_sc _ _))
  rw [if_pos ⟨ht, hq0, hl0⟩] at hr
  have bt : (t != 179) = false := by simp [ht]
  (repeat refine PW.seq ?_); refine PW.rg rfl fun K hK => ?_; simp (maxSteps := 3000000) (disch := omega) only [go_sem, ↓reduceIte, reduceCtorEq, pappend, plen, bt]; refine hK _ _ ?_; clear hK K
  (repeat refine PW.seq ?_); refine PW.cond (t := _) rfl (fun h => ?_) (fun h => ?_)
  · cases h
  refine PW.skip ?_
  generalize hn : nb q = n at *
  generalize hvv : 8 * q.length = v at *
  have hnl : n ≤ 8 * q.length := by omega
  obtain ⟨B, hB⟩ : ∃ B, B = H ++ [⟨41, 0, [.int .i64 t, .slice (bs q) q.length f]⟩, ⟨51, 0, sqc zSq⟩, rB q v, rR (H.length + 2) v n 0] := ⟨_, rfl⟩
  have hBl : B.length = H.length + 4 := by rw [hB]; simp
  have tB : WkU B (H.length + 3) (H.length + 2) v q n := ⟨by omega, by rw [hB]; exact hp2 _ _ _ _ _, by omega, hnl, hq⟩
  have r0 : Rf n (0, 0) := ⟨Nat.zero_le _, rfl⟩
  have hB0 : B = wH B (H.length + 3) (H.length + 2) v n (0, 0) := by
    unfold wH
    exact (set_self (by rw [hB]; simp [apn])).symm
  have g0 : ∀ x K, (wH B (H.length + 3) (H.length + 2) v n x ++ K)[H.length]? = some ⟨41, 0, [.int .i64 t, .slice (bs q) q.length f]⟩ := fun x K => by
    rw [List.getElem?_append_left (by rw [wH_len]; omega), wH, List.getElem?_set_ne (by omega), hB]
    exact hp0 _ _ _
  refine PW.at [1, 2, 4] (F1 := [(1, .ptr H.length 0 0), (2, .ptr (H.length + 1) 0 0), (4, .ptr (H.length + 3) 0 0)]) (H1 := wH B (H.length + 3) (H.length + 2) v n (0, 0)) ?_ rfl (by rw [← hB0, hB])
  have zl := z64_len
  have n0 : CallOk Tryz.prog 56 [.ptr (H.length + 3) 0 0, .int .i64 (8 : Int)] (wH B (H.length + 3) (H.length + 2) v n ((0, 0) : Nat × Nat) ++ []) (.int .i64 ((rw' false q n).1 : Int)) (wH B (H.length + 3) (H.length + 2) v n (rw' false q n).2 ++ []) := rnum_at tB _ _ 8 r0 (by omega)
  have b0 : (rw' false q n).1 < 2 ^ 8 := nm_lt false q n ((0, 0) : Nat × Nat) 8
  have r1 : Rf n (rw' false q n).2 := r0.nm 8
  have n1 : CallOk Tryz.prog 56 [.ptr (H.length + 3) 0 0, .int .i64 (8 : Int)] (wH B (H.length + 3) (H.length + 2) v n (rw' false q n).2 ++ []) (.int .i64 ((rh' false q n).1 : Int)) (wH B (H.length + 3) (H.length + 2) v n (rh' false q n).2 ++ []) := rnum_at tB _ _ 8 r1 (by omega)
  have b1 : (rh' false q n).1 < 2 ^ 8 := nm_lt false q n (rw' false q n).2 8
  have r2 : Rf n (rh' false q n).2 := r1.nm 8
  simp only [List.append_nil] at n0 n1
  (repeat refine PW.seq ?_); refine PW.rg rfl fun K hK => ?_; simp (maxSteps := 3000000) (disch := omega) only [go_sem, ↓reduceIte, reduceCtorEq, pappend, plen]; refine VCx.call (n0) rfl ?_; simp (maxSteps := 3000000) (disch := omega) only [go_sem, ↓reduceIte, reduceCtorEq, pappend, plen]; refine VCx.call (n1) rfl ?_; simp (maxSteps := 3000000) (disch := omega) only [go_sem, ↓reduceIte, reduceCtorEq, pappend, plen, wH_len, dl1, sq_b01, ↓zcSq, sqz_len, zl, zz1, zz3, wH_z, wH_sz, List.append_nil]; refine hK _ _ ?_; clear hK K
  have n2 : CallOk Tryz.prog 56 [.ptr (H.length + 3) 0 0, .int .i64 (32 : Int)] (wH B (H.length + 3) (H.length + 2) v n (rh' false q n).2 ++ [⟨51, 0, sqc ⟨16 * ((rw' false q n).1 : Int), 16 * ((rh' false q n).1 : Int), 0, 0, false, 0, 0, z64U, z64U⟩⟩]) (.int .i64 ((rn' false q n).1 : Int)) (wH B (H.length + 3) (H.length + 2) v n (rn' false q n).2 ++ [⟨51, 0, sqc ⟨16 * ((rw' false q n).1 : Int), 16 * ((rh' false q n).1 : Int), 0, 0, false, 0, 0, z64U, z64U⟩⟩]) := rnum_at tB _ _ 32 r2 (by omega)
  have b2 : (rn' false q n).1 < 2 ^ 32 := nm_lt false q n (rh' false q n).2 32
  have r3 : Rf n (rn' false q n).2 := r2.nm 32
  have n3 : CallOk Tryz.prog 56 [.ptr (H.length + 3) 0 0, .int .i64 (32 : Int)] (wH B (H.length + 3) (H.length + 2) v n (rn' false q n).2 ++ [⟨51, 0, sqc ⟨16 * ((rw' false q n).1 : Int), 16 * ((rh' false q n).1 : Int), 0, 0, false, 0, 0, z64U, z64U⟩⟩]) (.int .i64 ((rd' false q n).1 : Int)) (wH B (H.length + 3) (H.length + 2) v n (rd' false q n).2 ++ [⟨51, 0, sqc ⟨16 * ((rw' false q n).1 : Int), 16 * ((rh' false q n).1 : Int), 0, 0, false, 0, 0, z64U, z64U⟩⟩]) := rnum_at tB _ _ 32 r3 (by omega)
  have b3 : (rd' false q n).1 < 2 ^ 32 := nm_lt false q n (rn' false q n).2 32
  have r4 : Rf n (rd' false q n).2 := r3.nm 32
  (repeat refine PW.seq ?_); refine PW.rg rfl fun K hK => ?_; simp (maxSteps := 3000000) (disch := omega) only [go_sem, ↓reduceIte, reduceCtorEq, pappend, plen]; refine VCx.call (n2) rfl ?_; simp (maxSteps := 3000000) (disch := omega) only [go_sem, ↓reduceIte, reduceCtorEq, pappend, plen]; refine VCx.call (n3) rfl ?_; simp (maxSteps := 3000000) (disch := omega) only [go_sem, ↓reduceIte, reduceCtorEq, pappend, plen, wH_z, wH_sz, sqz_len, zl, Nat.reduceAdd, sq_s23]; refine hK _ _ ?_; clear hK K
  have n4 : CallOk Tryz.prog 56 [.ptr (H.length + 3) 0 0, .int .i64 (1 : Int)] (wH B (H.length + 3) (H.length + 2) v n (rd' false q n).2 ++ [⟨51, 0, sqc ⟨16 * ((rw' false q n).1 : Int), 16 * ((rh' false q n).1 : Int), ((rn' false q n).1 : Int), ((rd' false q n).1 : Int), false, 0, 0, z64U, z64U⟩⟩]) (.int .i64 ((ri' false q n).1 : Int)) (wH B (H.length + 3) (H.length + 2) v n (ri' false q n).2 ++ [⟨51, 0, sqc ⟨16 * ((rw' false q n).1 : Int), 16 * ((rh' false q n).1 : Int), ((rn' false q n).1 : Int), ((rd' false q n).1 : Int), false, 0, 0, z64U, z64U⟩⟩]) := rnum_at tB _ _ 1 r4 (by omega)
  have b4 : (ri' false q n).1 < 2 ^ 1 := nm_lt false q n (rd' false q n).2 1
  have r5 : Rf n (ri' false q n).2 := r4.nm 1
  (repeat refine PW.seq ?_); refine PW.rg rfl fun K hK => ?_; simp (maxSteps := 3000000) (disch := omega) only [go_sem, ↓reduceIte, reduceCtorEq, pappend, plen]; refine VCx.call (n4) rfl ?_; simp (maxSteps := 3000000) (disch := omega) only [go_sem, ↓reduceIte, reduceCtorEq, pappend, plen, wH_z, wH_sz, sqz_len, zl, beq1, sq_s4]; refine hK _ _ ?_; clear hK K
  have n5 : CallOk Tryz.prog 56 [.ptr (H.length + 3) 0 0, .int .i64 (32 : Int)] (wH B (H.length + 3) (H.length + 2) v n (ri' false q n).2 ++ [⟨51, 0, sqc ⟨16 * ((rw' false q n).1 : Int), 16 * ((rh' false q n).1 : Int), ((rn' false q n).1 : Int), ((rd' false q n).1 : Int), decide ((ri' false q n).1 = 1), 0, 0, z64U, z64U⟩⟩]) (.int .i64 ((rb' false q n).1 : Int)) (wH B (H.length + 3) (H.length + 2) v n (rb' false q n).2 ++ [⟨51, 0, sqc ⟨16 * ((rw' false q n).1 : Int), 16 * ((rh' false q n).1 : Int), ((rn' false q n).1 : Int), ((rd' false q n).1 : Int), decide ((ri' false q n).1 = 1), 0, 0, z64U, z64U⟩⟩]) := rnum_at tB _ _ 32 r5 (by omega)
  have b5 : (rb' false q n).1 < 2 ^ 32 := nm_lt false q n (ri' false q n).2 32
  have r6 : Rf n (rb' false q n).2 := r5.nm 32
  have n6 : CallOk Tryz.prog 56 [.ptr (H.length + 3) 0 0, .int .i64 (32 : Int)] (wH B (H.length + 3) (H.length + 2) v n (rb' false q n).2 ++ [⟨51, 0, sqc ⟨16 * ((rw' false q n).1 : Int), 16 * ((rh' false q n).1 : Int), ((rn' false q n).1 : Int), ((rd' false q n).1 : Int), decide ((ri' false q n).1 = 1), 0, 0, z64U, z64U⟩⟩]) (.int .i64 ((rf' false q n).1 : Int)) (wH B (H.length + 3) (H.length + 2) v n (rf' false q n).2 ++ [⟨51, 0, sqc ⟨16 * ((rw' false q n).1 : Int), 16 * ((rh' false q n).1 : Int), ((rn' false q n).1 : Int), ((rd' false q n).1 : Int), decide ((ri' false q n).1 = 1), 0, 0, z64U, z64U⟩⟩]) := rnum_at tB _ _ 32 r6 (by omega)
  have b6 : (rf' false q n).1 < 2 ^ 32 := nm_lt false q n (rb' false q n).2 32
  have r7 : Rf n (rf' false q n).2 := r6.nm 32
  (repeat refine PW.seq ?_); refine PW.rg rfl fun K hK => ?_; simp (maxSteps := 3000000) (disch := omega) only [go_sem, ↓reduceIte, reduceCtorEq, pappend, plen]; refine VCx.call (n5) rfl ?_; simp (maxSteps := 3000000) (disch := omega) only [go_sem, ↓reduceIte, reduceCtorEq, pappend, plen]; refine VCx.call (n6) rfl ?_; simp (maxSteps := 3000000) (disch := omega) only [go_sem, ↓reduceIte, reduceCtorEq, pappend, plen, wH_z, wH_sz, sqz_len, zl, sq_s5, sq_s6]; refine hK _ _ ?_; clear hK K
  have la := (ra_b false q n).1
  have le := (re_b false q n).1
  have ea : ra' false q n = rdM false q n dIn (rf' false q n).2 := by unfold ra'; exact Eq.refl _
  have ee : re' false q n = rdM false q n dIt (ra' false q n).2 := by unfold re'; exact Eq.refl _
  have n8 := rmat_ref tB [⟨51, 0, sqc ⟨16 * ((rw' false q n).1 : Int), 16 * ((rh' false q n).1 : Int), ((rn' false q n).1 : Int), ((rd' false q n).1 : Int), decide ((ri' false q n).1 = 1), ((rb' false q n).1 : Int), ((rf' false q n).1 : Int), z64U, z64U⟩⟩] (rf' false q n).2 r7 dIn dIn_len
  rw [← ea] at n8
  have r8 : Rf n (ra' false q n).2 := by rw [ea]; exact r7.rdM
  have la' : (bs (ra' false q n).1).length = 64 := by rw [length_bs]; exact la
  (repeat refine PW.seq ?_); refine PW.rg rfl fun K hK => ?_; simp (maxSteps := 3000000) (disch := omega) only [go_sem, ↓reduceIte, reduceCtorEq, pappend, plen]; refine VCx.call (din_ref _) rfl ?_; simp (maxSteps := 3000000) (disch := omega) only [go_sem, ↓reduceIte, reduceCtorEq, pappend, plen]; refine VCx.call (n8) rfl ?_; simp (maxSteps := 3000000) (disch := omega) only [go_sem, ↓reduceIte, reduceCtorEq, pappend, plen, wH_z, wH_sz, sqz_len, zl, la', Nat.reduceAdd, sq_s7]; refine hK _ _ ?_; clear hK K
  have n9 := rmat_ref tB [⟨51, 0, sqc ⟨16 * ((rw' false q n).1 : Int), 16 * ((rh' false q n).1 : Int), ((rn' false q n).1 : Int), ((rd' false q n).1 : Int), decide ((ri' false q n).1 = 1), ((rb' false q n).1 : Int), ((rf' false q n).1 : Int), (ra' false q n).1, z64U⟩⟩] (ra' false q n).2 r8 dIt dIt_len
  rw [← ee] at n9
  have r9 : Rf n (re' false q n).2 := by rw [ee]; exact r8.rdM
  have le' : (bs (re' false q n).1).length = 64 := by rw [length_bs]; exact le
  (repeat refine PW.seq ?_); refine PW.rg rfl fun K hK => ?_; simp (maxSteps := 3000000) (disch := omega) only [go_sem, ↓reduceIte, reduceCtorEq, pappend, plen]; refine VCx.call (dit_ref _) rfl ?_; simp (maxSteps := 3000000) (disch := omega) only [go_sem, ↓reduceIte, reduceCtorEq, pappend, plen]; refine VCx.call (n9) rfl ?_; simp (maxSteps := 3000000) (disch := omega) only [go_sem, ↓reduceIte, reduceCtorEq, pappend, plen, wH_z, wH_sz, sqz_len, zl, la, le', Nat.reduceAdd, sq_s71]; refine hK _ _ ?_; clear hK K
  obtain ⟨s, hs⟩ : ∃ s, s = rdS false q n := ⟨_, rfl⟩
  have hso : SqOk s := by rw [hs]; exact rdS_ok _ _ _
  have hsx : rdS false q n = ⟨16 * ((rw' false q n).1 : Int), 16 * ((rh' false q n).1 : Int), ((rn' false q n).1 : Int), ((rd' false q n).1 : Int), decide ((ri' false q n).1 = 1), ((rb' false q n).1 : Int), ((rf' false q n).1 : Int), (ra' false q n).1, (re' false q n).1⟩ := by unfold rdS; exact Eq.refl _
  rw [← hsx, ← hs]
  rw [← hs] at hr
  have rz := r9.e
  generalize (re' false q n).2 = z at *
  have l135 : (sqc s).length = 135 := sqc_len _ ⟨hso.ia, hso.ie⟩
  have t135 : List.take 135 (sqc s) = sqc s := List.take_of_length_le (by omega)
  have d135 : List.drop 135 (sqc s) = [] := List.drop_of_length_le (by omega)
  have po := fun K => puts_ref s K hso
  have be := sameunit_ok t (putS s).1 q (putS s).2.1 f false
  (repeat refine PW.seq ?_); refine PW.rg rfl fun K hK => ?_; simp (maxSteps := 3000000) (disch := omega) only [go_sem, ↓reduceIte, reduceCtorEq, pappend, plen, wH_z, l135, t135]; refine VCx.call (po _) rfl ?_; simp (maxSteps := 3000000) (disch := omega) only [go_sem, ↓reduceIte, reduceCtorEq, pappend, plen, wH_len, List.length_append, wH_n, wH_s, uv]; refine hK _ _ ?_; clear hK K
  have hT : ∀ K, wH B (H.length + 3) (H.length + 2) v n z ++ K = H ++ (⟨41, 0, [.int .i64 t, .slice (bs q) q.length f]⟩ :: ⟨51, 0, sqc zSq⟩ :: rB q v :: rR (H.length + 2) v n z.1 :: K) := fun K => by
    unfold wH
    rw [hB, aps, List.append_assoc]; rfl
  refine PW.keep [1, 2, 5, 6, 7] ?_
  suffices hfail : (zSq, 3) = r → PW Tryz.prog _ _ [(2, .ptr (H.length + 1) 0 0), (65, .bool true)] (H ++ (⟨41, 0, [.int .i64 t, .slice (bs q) q.length f]⟩ :: ⟨51, 0, sqc zSq⟩ :: rB q v :: rR (H.length + 2) v n z.1 :: [⟨51, 0, sqc s⟩, ⟨41, 0, [.int .i64 (putS s).1, .slice (bs (putS s).2.1) (putS s).2.1.length false]⟩])) _ by
    cases hv : vseq s with
    | false =>
      rw [if_neg (fun h => by rw [hv] at h; exact absurd h.2.1 (by decide))] at hr
      have hp5 : (putS s).2.2 = 1 := by unfold putS; rw [if_neg (by rw [hv]; decide)]
      have b5 : ((putS s).2.2 != 0) = true := by rw [hp5]; rfl
      (repeat refine PW.seq ?_); refine PW.rg rfl fun K hK => ?_; simp (maxSteps := 3000000) (disch := omega) only [go_sem, ↓reduceIte, reduceCtorEq, pappend, plen, b5]; refine hK _ _ ?_; clear hK K
      exact PW.at [2, 65] (hfail hr) rfl (hT _)
    | true =>
      have hp5 : (putS s).2.2 = 0 := by unfold putS; rw [if_pos hv]
      have hp3 : (putS s).1 = 179 := by unfold putS; rw [if_pos hv]
      have hp4 : (putS s).2.1 = pk (sbits s ++ [true]) := by unfold putS; rw [if_pos hv]
      have b5 : ((putS s).2.2 != 0) = false := by rw [hp5]; rfl
      generalize (putS s).2.1 = P at *
      by_cases he : P = q
      rotate_left
      · rw [if_neg (fun h => he (by rw [hp4]; exact h.2.2))] at hr
        rw [show (t == (putS s).1 && q == P) = false by simp [ht, hp3]; exact fun e => he e.symm] at be
        (repeat refine PW.seq ?_); refine PW.rg rfl fun K hK => ?_; simp (maxSteps := 3000000) (disch := omega) only [go_sem, ↓reduceIte, reduceCtorEq, pappend, plen, b5, wH_n, g0]
        refine VCx.call (be _) rfl ?_; simp (maxSteps := 3000000) (disch := omega) only [go_sem, ↓reduceIte, reduceCtorEq, pappend, plen]; refine hK _ _ ?_; clear hK K
        exact PW.at [2, 65] (hfail hr) rfl (hT _)
      · rw [if_pos ⟨rz, hv, by rw [← hp4]; exact he⟩] at hr
        rw [show (t == (putS s).1 && q == P) = true by simp [ht, hp3, he]] at be
        (repeat refine PW.seq ?_); refine PW.rg rfl fun K hK => ?_; simp (maxSteps := 3000000) (disch := omega) only [go_sem, ↓reduceIte, reduceCtorEq, pappend, plen, b5, wH_n, g0]
        refine VCx.call (be _) rfl ?_; simp (maxSteps := 3000000) (disch := omega) only [go_sem, ↓reduceIte, reduceCtorEq, pappend, plen]; refine hK _ _ ?_; clear hK K
        (repeat refine PW.seq ?_); refine PW.cond (t := _) rfl (fun h => ?_) (fun h => ?_)
        · cases h
        refine PW.skip ?_
        refine PW.eq rfl (hT _) ?_
        refine PW.at [2, 6] (F1 := [(2, .ptr (H.length + 1) 0 0), (6, .ptr (H.length + 4) 0 0)]) ?_ (by rw [← hBl]; rfl) rfl
        (repeat refine PW.seq ?_); refine PW.rg rfl fun K hK => ?_; simp (maxSteps := 3000000) (disch := omega) only [go_sem, ↓reduceIte, reduceCtorEq, pappend, plen, apn, l135, t135, zz1, zz3, d135, List.append_nil]; refine hK _ _ ?_; clear hK K
        refine PW.ret ⟨rvTS (s, 0), by simp (maxSteps := 3000000) (disch := omega) only [go_sem, ↓reduceIte, reduceCtorEq, pappend, plen, presults, presult, List.mapM_cons, List.mapM_nil, Option.pure_def, Option.bind_eq_bind, Option.bind_some, Array.toList, l135, t135, rvTS], ?_⟩
        rw [← hr]
        exact Fin.base (.id (rvTS_sc _ _))
  intro hr
  (repeat refine PW.seq ?_); refine PW.cond (t := _) rfl (fun h => ?_) (fun h => ?_)
  rotate_left
  · cases h
  (repeat refine PW.seq ?_); refine PW.rg rfl fun K hK => ?_; simp (maxSteps := 3000000) (disch := omega) only [go_sem, ↓reduceIte, reduceCtorEq, pappend, plen, ↓zcSq, zz1, zz2, zz3]; refine hK _ _ ?_; clear hK K
  refine PW.ret ⟨rvTS (zSq, 3), by simp (maxSteps := 3000000) (disch := omega) only [go_sem, ↓reduceIte, reduceCtorEq, pappend, plen, presults, presult, List.mapM_cons, List.mapM_nil, Option.pure_def, Option.bind_eq_bind, Option.bind_some, Array.toList, zz1, zz2, rvTS], ?_⟩
  rw [← hr]
  exact Fin.base (.id (rvTS_sc _ _))

set_option maxHeartbeats 4000000 in
theorem takeG_ref (t : Int) (q : List UInt8) (f : Bool) (H : Heap) (hq : q.length ≤ 100000000) : CallOk Tryz.prog 35 [.agg [.int .i64 t, .slice (bs q) q.length f]] H (rvTG (takeG t q)) H := by
  generalize hr : takeG t q = r
  unfold takeG at hr
  refine CallOk.body (F0 := [(0, .agg [.int .i64 t, .slice (bs q) q.length f])]) Tryz.func35 rfl Tryz.ntmps35 Tryz.results35 rfl (by kernel_rfl) rfl ?_
  (repeat refine PW.seq ?_); refine PW.rg rfl fun K hK => ?_; simp (maxSteps := 3000000) (disch := omega) only [go_sem, ↓reduceIte, reduceCtorEq, pappend, plen]; refine hK _ _ ?_; clear hK K
  by_cases hb : q.length = 0 ∨ lastB q = 0
  · rw [if_neg (fun h => by rcases hb with hb | hb; exact h.2.1 hb; exact h.2.2.1 hb)] at hr
    have nr := fun K => open_bad q f K hq hb
    (repeat refine PW.seq ?_); refine PW.rg rfl fun K hK => ?_; simp (maxSteps := 3000000) (disch := omega) only [go_sem, ↓reduceIte, reduceCtorEq, pappend, plen]; refine VCx.call (nr _) rfl ?_; simp (maxSteps := 3000000) (disch := omega) only [go_sem, ↓reduceIte, reduceCtorEq, pappend, plen]; refine hK _ _ ?_; clear hK K
    (repeat refine PW.seq ?_); refine PW.rg rfl fun K hK => ?_; simp (maxSteps := 3000000) (disch := omega) only [go_sem, ↓reduceIte, reduceCtorEq, pappend, plen]; refine hK _ _ ?_; clear hK K
    (repeat refine PW.seq ?_); refine PW.cond (t := _) rfl (fun h => ?_) (fun h => ?_)
    rotate_left
    · cases h
    (repeat refine PW.seq ?_); refine PW.rg rfl fun K hK => ?_; simp (maxSteps := 3000000) (disch := omega) only [go_sem, ↓reduceIte, reduceCtorEq, pappend, plen]; refine hK _ _ ?_; clear hK K
    refine PW.ret ⟨rvTG (false, false, 0, 3), by simp (maxSteps := 3000000) (disch := omega) only [go_sem, ↓reduceIte, reduceCtorEq, pappend, plen, presults, presult, List.mapM_cons, List.mapM_nil, Option.pure_def, Option.bind_eq_bind, Option.bind_some, Array.toList, rvTG], ?_⟩
    rw [← hr]
    exact Fin.base (.id (rvTG_sc _ _))
  have hq0 : q.length ≠ 0 := fun h => hb (.inl h)
  have hl0 : lastB q ≠ 0 := fun h => hb (.inr h)
  obtain ⟨nb1, nb2, _⟩ := nb_one q hq0 hl0
  have nr := fun K => open_ok q f K hq hq0 hl0
  (repeat refine PW.seq ?_); refine PW.rg rfl fun K hK => ?_; simp (maxSteps := 3000000) (disch := omega) only [go_sem, ↓reduceIte, reduceCtorEq, pappend, plen]; refine VCx.call (nr _) rfl ?_; simp (maxSteps := 3000000) (disch := omega) only [go_sem, ↓reduceIte, reduceCtorEq, pappend, plen]; refine hK _ _ ?_; clear hK K
  by_cases ht : t = 184
  rotate_left
  · rw [if_neg (fun h => ht h.1)] at hr
    have bt : (t != 184) = true := by simp [ht]
    (repeat refine PW.seq ?_); refine PW.rg rfl fun K hK => ?_; simp (maxSteps := 3000000) (disch := omega) only [go_sem, ↓reduceIte, reduceCtorEq, pappend, plen, bt]; refine hK _ _ ?_; clear hK K
    (repeat refine PW.seq ?_); refine PW.cond (t := _) rfl (fun h => ?_) (fun h => ?_)
    rotate_left
    · cases h
    (repeat refine PW.seq ?_); refine PW.rg rfl fun K hK => ?_; simp (maxSteps := 3000000) (disch := omega) only [go_sem, ↓reduceIte, reduceCtorEq, pappend, plen]; refine hK _ _ ?_; clear hK K
    refine PW.ret ⟨rvTG (false, false, 0, 3), by simp (maxSteps := 3000000) (disch := omega) only [go_sem, ↓reduceIte, reduceCtorEq, pappend, plen, presults, presult, List.mapM_cons, List.mapM_nil, Option.pure_def, Option.bind_eq_bind, Option.bind_some, Array.toList, rvTG], ?_⟩
    rw [← hr]
    exact Fin.base (.id (rvTG_sc _ _))
  have bt : (t != 184) = false := by simp [ht]
  have lf := rleft_ref (H.length + 3) (H.length + 2) (8 * q.length) q (nb q) 0 (H ++ [⟨41, 0, [.int .i64 t, .slice (bs q) q.length f]⟩, ⟨53, 0, [.bool false, .bool false, .int .i64 0]⟩, rB q (8 * q.length), rR (H.length + 2) (8 * q.length) (nb q) 0]) (hp3 _ _ _ _ _ _) (hp2 _ _ _ _ _) (Nat.zero_le _) (by omega)
  rw [Nat.sub_zero] at lf
  (repeat refine PW.seq ?_); refine PW.rg rfl fun K hK => ?_; simp (maxSteps := 3000000) (disch := omega) only [go_sem, ↓reduceIte, reduceCtorEq, pappend, plen, bt]
  refine VCx.call (lf) rfl ?_; simp (maxSteps := 3000000) (disch := omega) only [go_sem, ↓reduceIte, reduceCtorEq, pappend, plen]
  by_cases h26 : nb q = 26
  rotate_left
  · have d26 : ((nb q : Int) != 26) = true := by simp; omega
    rw [if_neg (fun h => h26 h.2.2.2)] at hr
    refine hK _ _ ?_; clear hK K
    (repeat refine PW.seq ?_); refine PW.cond (t := _) rfl (fun h => ?_) (fun h => ?_)
    rotate_left
    · rw [d26] at h; cases h
    (repeat refine PW.seq ?_); refine PW.rg rfl fun K hK => ?_; simp (maxSteps := 3000000) (disch := omega) only [go_sem, ↓reduceIte, reduceCtorEq, pappend, plen]; refine hK _ _ ?_; clear hK K
    refine PW.ret ⟨rvTG (false, false, 0, 3), by simp (maxSteps := 3000000) (disch := omega) only [go_sem, ↓reduceIte, reduceCtorEq, pappend, plen, presults, presult, List.mapM_cons, List.mapM_nil, Option.pure_def, Option.bind_eq_bind, Option.bind_some, Array.toList, rvTG], ?_⟩
    rw [← hr]
    exact Fin.base (.id (rvTG_sc _ _))
  have d26 : ((nb q : Int) != 26) = false := by rw [h26]; rfl
  rw [if_pos ⟨ht, hq0, hl0, h26⟩] at hr
  refine hK _ _ ?_; clear hK K
  (repeat refine PW.seq ?_); refine PW.cond (t := _) rfl (fun h => ?_) (fun h => ?_)
  · rw [d26] at h; cases h
  refine PW.skip ?_
  rw [h26] at lf ⊢
  have hnl : 26 ≤ 8 * q.length := by omega
  generalize hvv : 8 * q.length = v at *
  obtain ⟨B, hB⟩ : ∃ B, B = H ++ [⟨41, 0, [.int .i64 t, .slice (bs q) q.length f]⟩, ⟨53, 0, [.bool false, .bool false, .int .i64 0]⟩, rB q v, rR (H.length + 2) v 26 0] := ⟨_, rfl⟩
  have hBl : B.length = H.length + 4 := by rw [hB]; simp
  have tB : WkU B (H.length + 3) (H.length + 2) v q 26 := ⟨by omega, by rw [hB]; exact hp2 _ _ _ _ _, by omega, by omega, hq⟩
  have hB0 : B = wH B (H.length + 3) (H.length + 2) v 26 (0, 0) := by
    unfold wH
    exact (set_self (by rw [hB]; simp [apn])).symm
  refine PW.at [2, 4] (F1 := [(2, .ptr (H.length + 1) 0 0), (4, .ptr (H.length + 3) 0 0)]) (H1 := wH B (H.length + 3) (H.length + 2) v 26 (0, 0)) ?_ rfl (by rw [← hB0, hB])
  have n1 := rnum_at tB [] (0, 0) 1 ⟨Nat.zero_le _, rfl⟩ (by omega)
  have n2 := rnum_at tB [] (1, 0) 1 ⟨by decide, rfl⟩ (by omega)
  have n3 := rnum_at tB [] (2, 0) 24 ⟨by decide, rfl⟩ (by omega)
  rw [nm_in (by omega)] at n1 n2 n3
  simp only [List.append_nil] at n1 n2 n3
  have hT : wH B (H.length + 3) (H.length + 2) v 26 (2 + 24, 0) = H ++ [⟨41, 0, [.int .i64 t, .slice (bs q) q.length f]⟩, ⟨53, 0, [.bool false, .bool false, .int .i64 0]⟩, rB q v, rR (H.length + 2) v 26 (2 + 24)] := by
    unfold wH
    rw [hB, aps]; rfl
  rw [hT] at n3
  (repeat refine PW.seq ?_); refine PW.rg rfl fun K hK => ?_; simp (maxSteps := 3000000) (disch := omega) only [go_sem, ↓reduceIte, reduceCtorEq, pappend, plen]; refine VCx.call (n1) rfl ?_; simp (maxSteps := 3000000) (disch := omega) only [go_sem, ↓reduceIte, reduceCtorEq, pappend, plen, beq1]; refine VCx.call (n2) rfl ?_; simp (maxSteps := 3000000) (disch := omega) only [go_sem, ↓reduceIte, reduceCtorEq, pappend, plen, beq1]; refine VCx.call (n3) rfl ?_; simp (maxSteps := 3000000) (disch := omega) only [go_sem, ↓reduceIte, reduceCtorEq, pappend, plen]; refine hK _ _ ?_; clear hK K
  refine PW.ret ⟨rvTG (decide (vl q 0 1 = 1), decide (vl q 1 1 = 1), (vl q 2 24 : Int), 0), by simp (maxSteps := 3000000) (disch := omega) only [go_sem, ↓reduceIte, reduceCtorEq, pappend, plen, presults, presult, List.mapM_cons, List.mapM_nil, Option.pure_def, Option.bind_eq_bind, Option.bind_some, Array.toList, rvTG], ?_⟩
  rw [← hr]
  exact Fin.base (.id (rvTG_sc _ _))

end Go.Proofs.YtbhdollgohgkgaaGreatDoor.Sc

namespace Go.Proofs.YtbhdollgohgkgaaGreatDoor.Sc
set_option linter.all false
set_option linter.unusedVariables false
set_option linter.unusedSimpArgs false
open Pm Ty Go.RowKit

theorem vseq_16 {s : Sq} (h : vseq s = true) : s.w = 16 * (s.w / 16) ∧ s.h = 16 * (s.h / 16) := by
  have h0 := vseq_h h
  simp only [vseq, vsz, mbs, Bool.and_eq_true, decide_eq_true_eq, beq_iff_eq] at h
  obtain ⟨⟨⟨⟨_, h1⟩, ⟨_, h2⟩⟩, _⟩, _⟩ := h
  rw [Int.tmod_eq_emod_of_nonneg (by omega)] at h1 h2
  omega
theorem payload_at (L : List Bool) : AtB (pk (L ++ [true])) 0 L := fun i hi => by
  obtain ⟨_, _, _, _, h⟩ := pk_payload L
  rw [Nat.zero_add]; exact h i hi
/-- Where the matrices begin, and what was read ahead of them. -/
theorem rf_put (st : Bool) {s : Sq} (hv : vseq s = true) {q : List UInt8} {n : Nat} (h0 : AtB q 0 (sbits s)) (h0n : 0 + (sbits s).length ≤ n) :
    rw' st q n = ((s.w / 16).toNat, 8, 0) ∧ rh' st q n = ((s.h / 16).toNat, 16, 0) ∧ rn' st q n = (s.num.toNat, 48, 0) ∧ rd' st q n = (s.den.toNat, 80, 0) ∧ ri' st q n = (s.il.toNat, 81, 0) ∧ rb' st q n = (s.br.toNat, 113, 0) ∧ rf' st q n = (s.bf.toNat, 145, 0) ∧
      AtB q 145 (mxb s.ia dIn ++ mxb s.ie dIt) ∧ 145 + (mxb s.ia dIn ++ mxb s.ie dIt).length ≤ n := by
  obtain ⟨v1, v2, v3, v4, v5, v6⟩ := vseq_f hv
  unfold sbits at h0 h0n
  obtain ⟨e1, h1, m1⟩ := h0.nm (st := st) (by omega) h0n
  obtain ⟨e2, h2, m2⟩ := h1.nm (st := st) (by omega) m1
  obtain ⟨e3, h3, m3⟩ := h2.nm (st := st) (by omega) m2
  obtain ⟨e4, h4, m4⟩ := h3.nm (st := st) (by omega) m3
  obtain ⟨e5, h5, m5⟩ := h4.flag (st := st) m4
  obtain ⟨e6, h6, m6⟩ := h5.nm (st := st) (by omega) m5
  obtain ⟨e7, h7, m7⟩ := h6.nm (st := st) (by omega) m6
  unfold rf' rb' ri' rd' rn' rh' rw'
  rw [e1, e2, e3, e4, e5, e6, e7]
  exact ⟨rfl, rfl, rfl, rfl, rfl, rfl, rfl, h7, m7⟩
theorem ra_put {st : Bool} {q : List UInt8} {n : Nat} {m : List UInt8} {l : List Bool} {V : Nat} (hm : m.length = 64) (e : rf' st q n = (V, 145, 0)) (h : AtB q 145 (mxb m dIn ++ l)) (hn : 145 + (mxb m dIn ++ l).length ≤ n) :
    ra' st q n = (m, 145 + (mxb m dIn).length, 0) ∧ AtB q (145 + (mxb m dIn).length) l ∧ 145 + (mxb m dIn).length + l.length ≤ n := by
  unfold ra'
  rw [e]
  exact rdM_put (st := st) hm h hn
theorem re_put {st : Bool} {q : List UInt8} {n a : Nat} {m m' : List UInt8} (hm : m.length = 64) (e : ra' st q n = (m', a, 0)) (h : AtB q a (mxb m dIt)) (hn : a + (mxb m dIt).length ≤ n) :
    re' st q n = (m, a + (mxb m dIt).length, 0) := by
  unfold re'
  rw [e]
  have h' : AtB q a (mxb m dIt ++ []) := by rw [List.append_nil]; exact h
  exact (rdM_put (st := st) hm h' (by rw [List.append_nil]; exact hn)).1
theorem rdS_of {st : Bool} {q : List UInt8} {n : Nat} {a b c d e f g : Nat × Nat × Nat} {x y : List UInt8 × Nat × Nat} (h1 : rw' st q n = a) (h2 : rh' st q n = b) (h3 : rn' st q n = c) (h4 : rd' st q n = d) (h5 : ri' st q n = e) (h6 : rb' st q n = f) (h7 : rf' st q n = g) (h8 : ra' st q n = x) (h9 : re' st q n = y) :
    rdS st q n = ⟨16 * (a.1 : Int), 16 * (b.1 : Int), (c.1 : Int), (d.1 : Int), decide (e.1 = 1), (f.1 : Int), (g.1 : Int), x.1, y.1⟩ := by
  unfold rdS
  rw [h1, h2, h3, h4, h5, h6, h7, h8, h9]
theorem sq_same {s : Sq} (hv : vseq s = true) : (⟨16 * (((s.w / 16).toNat : Nat) : Int), 16 * (((s.h / 16).toNat : Nat) : Int), ((s.num.toNat : Nat) : Int), ((s.den.toNat : Nat) : Int), decide (s.il.toNat = 1), ((s.br.toNat : Nat) : Int), ((s.bf.toNat : Nat) : Int), s.ia, s.ie⟩ : Sq) = s := by
  obtain ⟨w1, w2⟩ := vseq_16 hv
  obtain ⟨v1, v2, v3, v4, v5, v6⟩ := vseq_f hv
  obtain ⟨w, h, num, den, il, br, bf, ia, ie⟩ := s
  dsimp only at *
  have hb : decide (il.toNat = 1) = il := by cases il <;> rfl
  rw [hb]
  congr 1 <;> omega
theorem rdS_put (st : Bool) {s : Sq} (hs : SqOk s) (hv : vseq s = true) :
    (pk (sbits s ++ [true])).length ≠ 0 ∧ lastB (pk (sbits s ++ [true])) ≠ 0 ∧ (re' st (pk (sbits s ++ [true])) (nb (pk (sbits s ++ [true])))).2.2 = 0 ∧ rdS st (pk (sbits s ++ [true])) (nb (pk (sbits s ++ [true]))) = s := by
  obtain ⟨p1, p2, p3, p4, _⟩ := pk_payload (sbits s)
  refine ⟨p1, p2, ?_⟩
  rw [p3]
  obtain ⟨e1, e2, e3, e4, e5, e6, e7, h7, m7⟩ := rf_put st hv (payload_at (sbits s)) (n := (sbits s).length) (by omega)
  obtain ⟨e8, h8, m8⟩ := ra_put hs.ia e7 h7 m7
  have e9 := re_put hs.ie e8 h8 m8
  exact ⟨by rw [e9], (rdS_of e1 e2 e3 e4 e5 e6 e7 e8 e9).trans (sq_same hv)⟩
theorem takeS_put {st : Bool} {s : Sq} (hs : SqOk s) (hv : vseq s = true) : takeS st 179 (pk (sbits s ++ [true])) = (s, 0) := by
  obtain ⟨h1, h2, h3, h4⟩ := rdS_put st hs hv
  unfold takeS
  rw [if_pos ⟨rfl, h1, h2⟩, h4, if_pos ⟨h3, hv, rfl⟩]
theorem takeS_eq (t : Int) (q : List UInt8) : takeS false t q = takeS true t q := by
  by_cases h0 : t = 179 ∧ q.length ≠ 0 ∧ lastB q ≠ 0
  rotate_left
  · unfold takeS
    rw [if_neg h0, if_neg h0]
  have key : ∀ st st', ((re' st q (nb q)).2.2 = 0 ∧ vseq (rdS st q (nb q)) = true ∧ pk (sbits (rdS st q (nb q)) ++ [true]) = q) → takeS st' t q = (rdS st q (nb q), 0) := fun st st' ⟨_, h2, h3⟩ => by
    have := takeS_put (st := st') (rdS_ok st q (nb q)) h2
    rw [h3] at this
    rw [h0.1]; exact this
  by_cases h1 : (re' true q (nb q)).2.2 = 0 ∧ vseq (rdS true q (nb q)) = true ∧ pk (sbits (rdS true q (nb q)) ++ [true]) = q
  · rw [key true false h1, key true true h1]
  · by_cases h2 : (re' false q (nb q)).2.2 = 0 ∧ vseq (rdS false q (nb q)) = true ∧ pk (sbits (rdS false q (nb q)) ++ [true]) = q
    · rw [key false false h2, key false true h2]
    · unfold takeS
      rw [if_pos h0, if_pos h0, if_neg h1, if_neg h2]
end Go.Proofs.YtbhdollgohgkgaaGreatDoor.Sc
