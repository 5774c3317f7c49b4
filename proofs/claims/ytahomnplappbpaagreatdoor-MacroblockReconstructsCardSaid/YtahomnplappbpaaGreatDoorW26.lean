/-
  Parts of the proof, put together in one text. No condition.
-/
import Derived.Test.YtahomnplappbpaaGreatDoorW25
import Derived.Test.YtahomnplappbpaaGreatDoorW23
import Derived.Test.YtahomnplappbpaaGreatDoorW17
import Derived.Test.YtahomnplappbpaaGreatDoorW12
namespace Go.Proofs.YtahomnplappbpaaGreatDoor.Pm
set_option linter.all false
set_option linter.unusedVariables false
set_option linter.unusedSimpArgs false
open Go.RowKit

variable {P : Program} {C : Ctx} {H K : Heap} {w : World} {F : Fr} {a : Act} {N : Nat}

def noeffT (rs : List (Nat × Nat)) (o : Oper) : Bool := match resI rs o with | some _ => false | none => !isCall o.op && !eff o.op
def compatT (ds : List (Option Nat)) (rs : List (Nat × Nat)) (x o : Oper) : Bool := clear ds x o && clear ds o x && noeffT rs x && noeffT rs o
def ExT (P : Program) (all : List Oper) (ids : List Nat) (rs : List (Nat × Nat)) (o : Oper) (f : Nat → PV) (H : Heap) (v : PV) (H' : Heap) : Prop :=
  (want all f o = some false ∧ v = .tup [] ∧ H' = H) ∨ (want all f o = some true ∧ StI P ids rs o f H v H')
theorem ExT.congr {all : List Oper} {ids : List Nat} {rs : List (Nat × Nat)} {o : Oper} {f g : Nat → PV} {v : PV} {H' : Heap} (h : ∀ t ∈ reads (all.map (·.dst)) o, f t = g t) (he : ExT P all ids rs o f H v H') : ExT P all ids rs o g H v H' := by
  have e1 : want all f o = want all g o := want_congr fun t ht => h t (List.mem_append.2 (.inr ht))
  have e2 : ∀ x ∈ o.op.operands.toList, ev f x = ev g x := fun x hx => ev_congr fun t ht => h t (List.mem_append.2 (.inl (mem_tmps (ht ▸ hx))))
  unfold ExT StI at he ⊢
  simp only [← e1, ← pcallee_congr e2, ← popI_congr e2]
  exact he
theorem ExT.same {all : List Oper} {ids : List Nat} {rs : List (Nat × Nat)} {o : Oper} {f : Nat → PV} {v : PV} {H' : Heap} (hn : noeffT rs o = true) (he : ExT P all ids rs o f H v H') : H' = H := by
  rcases he with ⟨_, _, e⟩ | ⟨_, h⟩
  · exact e
  unfold noeffT at hn
  cases hr : resI rs o with
  | some p => rw [hr] at hn; cases hn
  | none =>
    rw [hr] at hn
    simp only [Bool.and_eq_true, Bool.not_eq_true'] at hn
    unfold StI at h
    rw [asked_call hn.1] at h
    dsimp only at h
    unfold popI at h
    rw [hr] at h
    exact pop_noeff hn.2 h
theorem swapT {all : List Oper} {ids : List Nat} {rs : List (Nat × Nat)} : SwapG (ExT P all ids rs) (compatT (all.map (·.dst)) rs) := by
  intro x o f H vx Hx v H1 hc hx ho
  unfold compatT at hc
  simp only [Bool.and_eq_true] at hc
  obtain ⟨⟨⟨c1, c2⟩, c3⟩, c4⟩ := hc
  obtain rfl := hx.same c3
  obtain rfl := ho.same c4
  exact ⟨H1, ho.congr fun t ht => upd_other (clear_reads c1 t ht), hx.congr fun t ht => (upd_other (clear_reads c2 t ht)).symm, upd_comm (f := f) (u := vx) (v := v) (clear_dst c1)⟩
theorem stepT {ops : Array Oper} {ids : List Nat} {rs : List (Nat × Nat)} : StepG P N ops (ExT P ops.toList ids rs) := by
  intro o f H v H' C a w hd hw hf he
  rcases he with ⟨h1, h2, h3⟩ | ⟨h1, h2⟩
  · have hwant := want_sound hf h1
    rw [Array.toArray_toList] at hwant
    exact .inl ⟨hwant, h2, h3⟩
  · have hwant := want_sound hf h1
    rw [Array.toArray_toList] at hwant
    exact .inr ⟨hwant, fun next Q hn => stI_sound hd hw hf h2 _ _ hn⟩
theorem VOi_runT {all : List Oper} {ids : List Nat} {rs : List (Nat × Nat)} {K : Fr → Heap → Prop} : ∀ (l : List Oper) (F : Fr) (H : Heap), VOi P false ids [] rs [] (all.map (·.dst)) l (some (F, H)) K → RunG (ExT P all ids rs) l (slot F) H (fun f H' => ∃ F', f = slot F' ∧ K F' H')
  | [], F, H, h => ⟨F, rfl, h⟩
  | o :: r, F, H, h => by
    simp only [VOi] at h
    have go : ∀ v H', ExT P all ids rs o (slot F) H v H' → VOi P false ids [] rs [] (all.map (·.dst)) r (some (put F o.dst v, H')) K → RunG (ExT P all ids rs) (o :: r) (slot F) H (fun f H' => ∃ F', f = slot F' ∧ K F' H') := fun v H' he hr => by
      refine ⟨v, H', he, ?_⟩
      rw [← get_put]
      exact VOi_runT r _ _ hr
    cases hc : isCall o.op with
    | false =>
      simp only [hc] at h
      unfold stpI at h
      split at h
      · rw [VOi_none] at h; exact h.elim
      · rename_i b hb
        cases b with
        | false => exact go _ _ (.inl ⟨asked_want all F o hb, rfl, rfl⟩) h
        | true =>
          simp only [cond_true, Bool.not_false, Bool.true_or] at h
          split at h
          · rename_i v H' hp
            exact go v H' (.inr ⟨asked_want all F o hb, by unfold StI; rw [asked_call hc]; exact hp⟩) h
          · rw [VOi_none] at h; exact h.elim
    | true =>
      simp only [hc] at h
      unfold VCi at h
      split at h
      · exact h.elim
      · rename_i b hb
        cases b with
        | false => exact go _ _ (.inl ⟨asked_want all F o hb, rfl, rfl⟩) (h.2 rfl)
        | true =>
          have h := h.1 rfl
          unfold VCj at h
          split at h
          · rename_i fn args hp
            obtain ⟨v, H', h1, h2⟩ := h
            exact go v H' (.inr ⟨asked_want all F o hb, by unfold StI; rw [hp]; exact h1⟩) h2
          · exact h.elim
/-- ████ A region in any order, in which effects are ordered. ████ -/
theorem PW.drawt {E : Env} {Q : Exit → Fr → Heap → Prop} {id : Nat} {ops : Array Oper} (ids : List Nat) (rs : List (Nat × Nat)) (hm : P.follows .mixedOrders = true) (hd : drawGs (compatT (ops.toList.map (·.dst)) rs) E.N ops.toList = true)
    (h : ∀ K : Fr → Heap → Prop, (∀ F' H', Q .normal F' H' → K F' H') → VOi P false ids [] rs [] (ops.toList.map (·.dst)) ops.toList (some (F, H)) K) : PW P E (.region id ops true) F H Q := fun hs C a w hdf hw hf => by
  refine wp_region_any hm ?_
  have hr := VOi_runT (P := P) _ _ _ (h (fun F' H' => Q .normal F' H') fun _ _ h => h)
  have hall : ∀ i, i < ops.toList.length → drawG (compatT (ops.toList.map (·.dst)) rs) (masks ops.toList) E.N ops.toList i = true := by
    intro i hi
    unfold drawGs at hd
    exact List.all_eq_true.1 hd i (List.mem_range.2 hi)
  refine any_gen (P := P) hall swapT stepT ops.size (Array.replicate ops.size false) (slot F) H C a w.drew (by simp) ?_ (by rw [left_all]; simp) (by rw [left_all, all_ops]; exact hr) hdf hw.drew hf ?_
  · intro i o ho hl j hj
    have hi : i < ops.size := (Array.getElem?_eq_some_iff.1 ho).1
    simp [Array.getD, hi] at hl
  · rintro C' f' H' a' w' p1 p2 p3 p4 p5 ⟨F', rfl, p6⟩
    exact ⟨C', F', H', p1.toN _, p2, p3, ((Below.refl C.B w).drew).trans p4, p5, p6⟩
/-- A call, in the order of the text. -/
theorem VCj.now {ids : List Nat} {fp : Fp} {rs : List (Nat × Nat)} {o : Oper} {K : Fr → Heap → Prop} {g : FuncId} {args : List PV} {v : PV} {H' : Heap} (h : CallOk P g args H v H') (hc : pcallee o.op (slot F) = some (g, args)) (hk : K (put F o.dst v) H') : VCj P false ids fp rs o F H K := by
  unfold VCj
  simp only [hc]
  exact ⟨v, H', h, hk⟩

end Go.Proofs.YtahomnplappbpaaGreatDoor.Pm

namespace Go.Proofs.YtahomnplappbpaaGreatDoor.Sc
set_option linter.all false
set_option linter.unusedVariables false
set_option linter.unusedSimpArgs false
open Pm Ty Go.RowKit

/-- Counting up. -/
theorem cnt {R : Nat → Prop} (n : Nat) (hs : ∀ j, j < n → R (j + 1) → R j) (hl : R n) : ∀ j, j ≤ n → R j := fun j hj => by
  induction hd : n - j using Nat.strongRecOn generalizing j with
  | _ d ih =>
    by_cases h : j < n
    · exact hs j h (ih (n - (j + 1)) (by omega) (j + 1) (by omega) rfl)
    · rw [show j = n by omega]; exact hl
theorem lt_t {j n : Nat} (h : j < n) : decide ((j : Int) < (n : Int)) = true := decide_eq_true (by omega)
theorem lt_f (n : Nat) : decide ((n : Int) < (n : Int)) = false := decide_eq_false (by omega)

theorem matrix_ok (H : Heap) : CallOk Tryz.prog 229 [] H (.agg (is tmL)) H := CallOk.eval 1000 (by kernel_rfl) (fun x hx => by cases hx)
theorem norms_ok (H : Heap) : CallOk Tryz.prog 230 [] H (.agg (is nrL)) H := CallOk.eval 1000 (by kernel_rfl) (fun x hx => by cases hx)

theorem nearest_ok (s : Int) (H : Heap) (hs : -1000000000000000000 ≤ s ∧ s ≤ 1000000000000000000) : CallOk Tryz.prog 231 [.int .i64 s] H (.int .i64 (nst s)) H := by
  have h1 := tdiv_abs (2 * s + 547363225600) 1094726451200
  have h2 := flr (2 * s + 547363225600) 1094726451200 (by omega)
  rw [← nst] at h2
  refine CallOk.body (F0 := [(0, .int .i64 s)]) Tryz.func231 rfl Tryz.ntmps231 Tryz.results231 rfl (by kernel_rfl) rfl ?_
  (repeat refine PW.seq ?_); refine PW.rg rfl fun K hK => ?_; simp (disch := omega) only [go_sem, ↓reduceIte, reduceCtorEq, pappend, plen]; refine hK _ _ ?_; clear hK K
  (repeat refine PW.seq ?_); refine PW.rg rfl fun K hK => ?_; simp (disch := omega) only [go_sem, ↓reduceIte, reduceCtorEq, pappend, plen]; refine hK _ _ ?_; clear hK K
  (repeat refine PW.seq ?_); refine PW.rg rfl fun K hK => ?_; simp (disch := omega) only [go_sem, ↓reduceIte, reduceCtorEq, pappend, plen, wq64]; refine hK _ _ ?_; clear hK K
  (repeat refine PW.seq ?_); refine PW.rg rfl fun K hK => ?_; simp (disch := omega) only [go_sem, ↓reduceIte, reduceCtorEq, pappend, plen]; refine hK _ _ ?_; clear hK K
  (repeat refine PW.seq ?_); refine PW.cond (t := _) rfl (fun h => ?_) (fun h => ?_)
  · have h3 : (2 * s + 547363225600).tmod 1094726451200 < 0 := by simpa using h
    rw [if_pos h3] at h2
    (repeat refine PW.seq ?_); refine PW.rg rfl fun K hK => ?_; simp (disch := omega) only [go_sem, ↓reduceIte, reduceCtorEq, pappend, plen]; refine hK _ _ ?_; clear hK K
    (repeat refine PW.seq ?_); refine PW.rg rfl fun K hK => ?_; simp (disch := omega) only [go_sem, ↓reduceIte, reduceCtorEq, pappend, plen]; refine hK _ _ ?_; clear hK K
    (refine PW.ret ⟨_, rfl, ?_⟩; first | refine .inl ⟨?_, rfl⟩ | refine Fin.base (.id' ?_ (.bool _)) | refine Fin.base (.id' ?_ (.int _ _)))
    exact congrArg _ h2
  · have h3 : ¬ (2 * s + 547363225600).tmod 1094726451200 < 0 := by simpa using h
    rw [if_neg h3] at h2
    refine PW.skip ?_
    (repeat refine PW.seq ?_); refine PW.rg rfl fun K hK => ?_; simp (disch := omega) only [go_sem, ↓reduceIte, reduceCtorEq, pappend, plen]; refine hK _ _ ?_; clear hK K
    (refine PW.ret ⟨_, rfl, ?_⟩; first | refine .inl ⟨?_, rfl⟩ | refine Fin.base (.id' ?_ (.bool _)) | refine Fin.base (.id' ?_ (.int _ _)))
    exact congrArg _ h2

/-- The matrix, of which p elements have been multiplied. -/
def tsc (p : Nat) : List Int := rgI 64 fun j => if j < p then tS (j / 8) (j % 8) else intAt tmL j
theorem tsc_0 : tsc 0 = tmL := by decide +kernel
theorem tsc_len (p : Nat) : (tsc p).length = 64 := rgI_len _ _
theorem tsc_at {i k : Nat} (hi : i < 8) (hk : k < 8) : intAt (tsc (8 * i + k)) (i * 8 + k) = intAt tmL (8 * i + k) := by
  rw [tsc, rgI_at _ (by omega), if_neg (by omega), Nat.mul_comm]
theorem tsc_set {i k : Nat} (hi : i < 8) (hk : k < 8) : (tsc (8 * i + k)).set (i * 8 + k) (intAt tmL (8 * i + k) * intAt msL i) = tsc (8 * i + (k + 1)) := by
  rw [tsc, rgI_set]
  refine rgI_ext fun j hj => ?_
  by_cases h1 : j = i * 8 + k
  · rw [if_pos h1, if_pos (by omega), tS, bas]
    subst h1
    congr 2 <;> omega
  · rw [if_neg h1]
    by_cases h2 : j < 8 * i + k
    · rw [if_pos h2, if_pos (by omega)]
    · rw [if_neg h2, if_neg (by omega)]
theorem tsc_64 {i k : Nat} (hi : i < 8) (hk : k < 8) : intAt (tsc 64) (i * 8 + k) = tS i k := by
  rw [tsc, rgI_at _ (by omega), if_pos (by omega)]
  congr 1 <;> omega
theorem ms_of {i : Nat} (hi : i < 8) : intAt nrL i ≠ 0 ∧ Int.tdiv 739840 (intAt nrL i) = intAt msL i ∧ -1000 ≤ intAt nrL i ∧ intAt nrL i ≤ 1000 := by
  have : ∀ i, i < 8 → intAt nrL i ≠ 0 ∧ Int.tdiv 739840 (intAt nrL i) = intAt msL i ∧ -1000 ≤ intAt nrL i ∧ intAt nrL i ≤ 1000 := by decide
  exact this i hi
/-- An array that is filled, up to n. -/
def fil (f : Nat → Int) (n : Nat) : List Int := rgI 64 fun j => if j < n then f j else 0
theorem fil_len (f : Nat → Int) (n : Nat) : (fil f n).length = 64 := rgI_len _ _
def zi : List Int := List.replicate 64 0
theorem zi_len : zi.length = 64 := List.length_replicate
theorem fil_0 (f : Nat → Int) : fil f 0 = zi := by
  unfold zi
  apply List.ext_getElem
  · simp [fil, rgI]
  intro i h1 h2
  rw [List.getElem_replicate]
  simp [fil, rgI]
theorem fil_set (f : Nat → Int) (n : Nat) : (fil f n).set n (f n) = fil f (n + 1) := by
  rw [fil, rgI_set]
  refine rgI_ext fun j hj => ?_
  by_cases h1 : j = n
  · rw [if_pos h1, if_pos (by omega), h1]
  · rw [if_neg h1]
    by_cases h2 : j < n
    · rw [if_pos h2, if_pos (by omega)]
    · rw [if_neg h2, if_neg (by omega)]
theorem fil_64 (f : Nat → Int) : fil f 64 = rgI 64 f := rgI_ext fun j hj => by rw [if_pos hj]
theorem fil_at (f : Nat → Int) {n j : Nat} (hj : j < n) (h : j < 64) : intAt (fil f n) j = f j := by rw [fil, rgI_at _ h, if_pos hj]
/-- The rows, transformed back. -/
def rowF (y : List Int) (p : Nat) : Int := rowI y (p / 8) (p % 8)
theorem rowF_at (y : List Int) {i l : Nat} (hl : l < 8) : rowF y (8 * i + l) = rowI y i l := by unfold rowF; congr 1 <;> omega
def colF (y : List Int) (p : Nat) : Int := nst (colI y (p / 8) (p % 8))
theorem colF_at (y : List Int) {k l : Nat} (hl : l < 8) : colF y (8 * k + l) = nst (colI y k l) := by unfold colF; congr 2 <;> omega
theorem sumN_le {f : Nat → Int} {B : Int} (h : ∀ j, -B ≤ f j ∧ f j ≤ B) {n : Nat} (hn : n ≤ 8) : -(8 * B) ≤ sumN f n ∧ sumN f n ≤ 8 * B := by
  have h0 := h 0
  have h1 := sumN_bd h n
  have h2 := mul_bd (a := (n : Int)) (b := B) (A := 8) (B := B) (by omega) (by omega)
  omega

set_option maxHeartbeats 4000000 in
set_option maxRecDepth 100000 in
theorem inverse_ok (y : List Int) (hl : y.length = 64) (H : Heap) : CallOk Tryz.prog 159 [.agg (is y)] H (.agg (is (inv y))) H := by
  have hinv : inv y = fil (colF y) 64 := (fil_64 _).symm
  have hall := is_cell y
  have hz := fil_0 (rowF y)
  have hz2 := fil_0 (colF y)
  refine CallOk.body (F0 := [(0, .agg (is y))]) Tryz.func159 rfl Tryz.ntmps159 Tryz.results159 rfl (by kernel_rfl) rfl ?_
  (repeat refine PW.seq ?_); refine PW.rg rfl fun K hK => ?_; simp (disch := omega) only [go_sem, ↓reduceIte, reduceCtorEq, pappend, plen, hall]; refine hK _ _ ?_; clear hK K
  (repeat refine PW.seq ?_); refine PW.rg rfl fun K hK => ?_; simp (disch := omega) only [go_sem, ↓reduceIte, reduceCtorEq, pappend, plen]; refine VCx.call (matrix_ok _) rfl ?_; simp (disch := omega) only [go_sem, ↓reduceIte, reduceCtorEq, pappend, plen]; refine hK _ _ ?_; clear hK K
  (repeat refine PW.seq ?_); refine PW.rg rfl fun K hK => ?_; simp (disch := omega) only [go_sem, ↓reduceIte, reduceCtorEq, pappend, plen]; refine VCx.call (norms_ok _) rfl ?_; simp (disch := omega) only [go_sem, ↓reduceIte, reduceCtorEq, pappend, plen]; refine hK _ _ ?_; clear hK K
  (repeat refine PW.seq ?_); refine PW.block (PW.loop ?_)
  suffices h1 : ∀ i : Nat, i ≤ 8 → PL Tryz.prog _ _ [(1, .ptr H.length 0 0), (2, .ptr (H.length + 1) 0 0), (3, .ptr (H.length + 2) 0 0), (18, .agg (is nrL)), (19, .int .i64 (i : Int))] (H ++ [⟨47, 0, is y⟩, ⟨47, 0, is zi⟩, ⟨252, 0, is (tsc (8 * i))⟩]) _ by
    exact PL.at [1, 2, 3, 18, 19] (h1 0 (by omega)) rfl (by rw [Nat.mul_zero, tsc_0]; rfl)
  refine cnt 8 (fun i hi ih => ?_) ?_
  · refine PL.round ?_; (repeat refine PW.seq ?_); refine PW.rg rfl fun K hK => ?_; simp (disch := omega) only [go_sem, ↓reduceIte, reduceCtorEq, pappend, plen]; refine hK _ _ ?_; clear hK K; (repeat refine PW.seq ?_); refine PW.cond (t := _) rfl (fun h => ?_) (fun h => ?_)
    rotate_left
    · cases h
    refine PW.skip ?_; (repeat refine PW.seq ?_); refine PW.block ?_
    have nl : (is nrL).length = 8 := rfl
    have nl2 : nrL.length = 8 := rfl
    obtain ⟨m1, m2, m3, m4⟩ := ms_of hi
    (repeat refine PW.seq ?_); refine PW.rg rfl fun K hK => ?_; simp (disch := omega) only [go_sem, ↓reduceIte, reduceCtorEq, pappend, plen, is_get, nl, nl2]; refine hK _ _ ?_; clear hK K
    (repeat refine PW.seq ?_); refine PW.rg rfl fun K hK => ?_; simp (disch := omega) only [go_sem, ↓reduceIte, reduceCtorEq, pappend, plen]; refine hK _ _ ?_; clear hK K
    (repeat refine PW.seq ?_); refine PW.block (PW.loop ?_)
    suffices h2 : ∀ k : Nat, k ≤ 8 → PL Tryz.prog _ _ [(1, .ptr H.length 0 0), (2, .ptr (H.length + 1) 0 0), (3, .ptr (H.length + 2) 0 0), (4, .int .i64 (i : Int)), (5, .int .i64 (intAt nrL i)), (18, .agg (is nrL)), (19, .int .i64 (i : Int)), (23, .int .i64 (k : Int))] (H ++ [⟨47, 0, is y⟩, ⟨47, 0, is zi⟩, ⟨252, 0, is (tsc (8 * i + k))⟩]) _ by
      exact PL.at [1, 2, 3, 4, 5, 18, 19, 23] (h2 0 (by omega)) rfl rfl
    refine cnt 8 (fun k hk ih => ?_) ?_
    · refine PL.round ?_; (repeat refine PW.seq ?_); refine PW.rg rfl fun K hK => ?_; simp (disch := omega) only [go_sem, ↓reduceIte, reduceCtorEq, pappend, plen]; refine hK _ _ ?_; clear hK K; (repeat refine PW.seq ?_); refine PW.cond (t := _) rfl (fun h => ?_) (fun h => ?_)
      rotate_left
      · cases h
      have b1 := tS_bd i k
      rw [tS, bas] at b1
      have t1 := tsc_at hi hk
      have t2 := tsc_set hi hk
      have t3 := tsc_len (8 * i + k)
      have b2 := ms_bd i
      refine PW.skip ?_; (repeat refine PW.seq ?_); refine PW.block ?_
      (repeat refine PW.seq ?_); refine PW.rg rfl fun K hK => ?_; simp (disch := omega) only [go_sem, ↓reduceIte, reduceCtorEq, pappend, plen]; refine hK _ _ ?_; clear hK K
      (repeat refine PW.seq ?_); refine PW.drawi [H.length + 2] [(3, [0]), (28, [0]), (29, [0]), (34, [0]), (35, [0])] [] [] mix (by kernel_rfl) (by simp <;> omega) fun K hK => ?_
      simp (disch := omega) only [go_sem, ↓reduceIte, reduceCtorEq, pappend, plen, arith, is_get, is_len, t3, t1, m1, m2, is_set, t2]
      refine hK _ _ ?_; clear hK K
      (repeat refine PW.seq ?_); refine PW.rg rfl fun K hK => ?_; simp (disch := omega) only [go_sem, ↓reduceIte, reduceCtorEq, pappend, plen]; refine hK _ _ ?_; clear hK K
      exact PL.at [1, 2, 3, 4, 5, 18, 19, 23] ih rfl rfl
    · refine PL.round ?_; (repeat refine PW.seq ?_); refine PW.rg rfl fun K hK => ?_; simp (disch := omega) only [go_sem, ↓reduceIte, reduceCtorEq, pappend, plen]; refine hK _ _ ?_; clear hK K; (repeat refine PW.seq ?_); refine PW.cond (t := _) rfl (fun h => ?_) (fun h => ?_)
      · cases h
      refine PW.exit ?_
      (repeat refine PW.seq ?_); refine PW.rg rfl fun K hK => ?_; simp (disch := omega) only [go_sem, ↓reduceIte, reduceCtorEq, pappend, plen]; refine hK _ _ ?_; clear hK K
      exact PL.at [1, 2, 3, 18, 19] ih rfl rfl
  refine PL.round ?_; (repeat refine PW.seq ?_); refine PW.rg rfl fun K hK => ?_; simp (disch := omega) only [go_sem, ↓reduceIte, reduceCtorEq, pappend, plen]; refine hK _ _ ?_; clear hK K; (repeat refine PW.seq ?_); refine PW.cond (t := _) rfl (fun h => ?_) (fun h => ?_)
  · cases h
  refine PW.exit ?_
  (repeat refine PW.seq ?_); refine PW.rg rfl fun K hK => ?_; simp (disch := omega) only [go_sem, ↓reduceIte, reduceCtorEq, pappend, plen]; refine hK _ _ ?_; clear hK K
  (repeat refine PW.seq ?_); refine PW.rg rfl fun K hK => ?_; simp (disch := omega) only [go_sem, ↓reduceIte, reduceCtorEq, pappend, plen]; refine hK _ _ ?_; clear hK K
  (repeat refine PW.seq ?_); refine PW.block (PW.loop ?_)
  have y3 := tsc_len 64
  suffices h1 : ∀ i : Nat, i ≤ 8 → PL Tryz.prog _ _ [(1, .ptr H.length 0 0), (2, .ptr (H.length + 1) 0 0), (3, .ptr (H.length + 2) 0 0), (7, .ptr (H.length + 3) 0 0), (38, .int .i64 (i : Int))] (H ++ [⟨47, 0, is y⟩, ⟨47, 0, is zi⟩, ⟨252, 0, is (tsc 64)⟩, ⟨300, 0, is (fil (rowF y) (8 * i))⟩]) _ by
    exact PL.at [1, 2, 3, 7, 38] (h1 0 (by omega)) rfl (by rw [Nat.mul_zero, hz]; rfl)
  refine cnt 8 (fun i hi ih => ?_) ?_
  · refine PL.round ?_; (repeat refine PW.seq ?_); refine PW.rg rfl fun K hK => ?_; simp (disch := omega) only [go_sem, ↓reduceIte, reduceCtorEq, pappend, plen]; refine hK _ _ ?_; clear hK K; (repeat refine PW.seq ?_); refine PW.cond (t := _) rfl (fun h => ?_) (fun h => ?_)
    rotate_left
    · cases h
    refine PW.skip ?_; (repeat refine PW.seq ?_); refine PW.block ?_
    (repeat refine PW.seq ?_); refine PW.rg rfl fun K hK => ?_; simp (disch := omega) only [go_sem, ↓reduceIte, reduceCtorEq, pappend, plen]; refine hK _ _ ?_; clear hK K
    (repeat refine PW.seq ?_); refine PW.rg rfl fun K hK => ?_; simp (disch := omega) only [go_sem, ↓reduceIte, reduceCtorEq, pappend, plen]; refine hK _ _ ?_; clear hK K
    (repeat refine PW.seq ?_); refine PW.block (PW.loop ?_)
    suffices h2 : ∀ l : Nat, l ≤ 8 → PL Tryz.prog _ _ [(1, .ptr H.length 0 0), (2, .ptr (H.length + 1) 0 0), (3, .ptr (H.length + 2) 0 0), (7, .ptr (H.length + 3) 0 0), (8, .int .i64 (i : Int)), (38, .int .i64 (i : Int)), (41, .int .i64 (l : Int))] (H ++ [⟨47, 0, is y⟩, ⟨47, 0, is zi⟩, ⟨252, 0, is (tsc 64)⟩, ⟨300, 0, is (fil (rowF y) (8 * i + l))⟩]) _ by
      exact PL.at [1, 2, 3, 7, 8, 38, 41] (h2 0 (by omega)) rfl rfl
    refine cnt 8 (fun l hlt ih => ?_) ?_
    · refine PL.round ?_; (repeat refine PW.seq ?_); refine PW.rg rfl fun K hK => ?_; simp (disch := omega) only [go_sem, ↓reduceIte, reduceCtorEq, pappend, plen]; refine hK _ _ ?_; clear hK K; (repeat refine PW.seq ?_); refine PW.cond (t := _) rfl (fun h => ?_) (fun h => ?_)
      rotate_left
      · cases h
      refine PW.skip ?_; (repeat refine PW.seq ?_); refine PW.block ?_
      (repeat refine PW.seq ?_); refine PW.rg rfl fun K hK => ?_; simp (disch := omega) only [go_sem, ↓reduceIte, reduceCtorEq, pappend, plen]; refine hK _ _ ?_; clear hK K
      (repeat refine PW.seq ?_); refine PW.rg rfl fun K hK => ?_; simp (disch := omega) only [go_sem, ↓reduceIte, reduceCtorEq, pappend, plen]; refine hK _ _ ?_; clear hK K
      (repeat refine PW.seq ?_); refine PW.rg rfl fun K hK => ?_; simp (disch := omega) only [go_sem, ↓reduceIte, reduceCtorEq, pappend, plen]; refine hK _ _ ?_; clear hK K
      (repeat refine PW.seq ?_); refine PW.block (PW.loop ?_)
      suffices h3 : ∀ j : Nat, j ≤ 8 → PL Tryz.prog _ _ [(1, .ptr H.length 0 0), (2, .ptr (H.length + 1) 0 0), (3, .ptr (H.length + 2) 0 0), (7, .ptr (H.length + 3) 0 0), (8, .int .i64 (i : Int)), (9, .int .i64 (l : Int)), (10, .int .i64 (sumN (rtm y i l) j)), (38, .int .i64 (i : Int)), (41, .int .i64 (l : Int)), (44, .int .i64 (j : Int))] (H ++ [⟨47, 0, is y⟩, ⟨47, 0, is zi⟩, ⟨252, 0, is (tsc 64)⟩, ⟨300, 0, is (fil (rowF y) (8 * i + l))⟩]) _ by
        exact PL.at [1, 2, 3, 7, 8, 9, 10, 38, 41, 44] (h3 0 (by omega)) rfl rfl
      refine cnt 8 (fun j hj ih => ?_) ?_
      · refine PL.round ?_; (repeat refine PW.seq ?_); refine PW.rg rfl fun K hK => ?_; simp (disch := omega) only [go_sem, ↓reduceIte, reduceCtorEq, pappend, plen]; refine hK _ _ ?_; clear hK K; (repeat refine PW.seq ?_); refine PW.cond (t := _) rfl (fun h => ?_) (fun h => ?_)
        rotate_left
        · cases h
        refine PW.skip ?_; (repeat refine PW.seq ?_); refine PW.block ?_
        (repeat refine PW.seq ?_); refine PW.rg rfl fun K hK => ?_; simp (disch := omega) only [go_sem, ↓reduceIte, reduceCtorEq, pappend, plen]; refine hK _ _ ?_; clear hK K
        have g1 := tsc_64 hj hlt
        have b1 := rtm_bd y i l j
        rw [rtm] at b1
        have b2 := sumN_le (rtm_bd y i l) (show j ≤ 8 by omega)
        have cl : ∀ v : Int, (if 2097152 < (if v < -2097152 then -2097152 else v) then 2097152 else (if v < -2097152 then -2097152 else v)) = cl21 v := fun v => by unfold cl21; omega
        have e1 : (8 : Int) * (i : Int) + (j : Int) = ((8 * i + j : Nat) : Int) := by omega
        (repeat refine PW.seq ?_); refine PW.drawi [] [] [] [] mix (by kernel_rfl) (by simp <;> omega) fun K hK => ?_
        simp (disch := omega) only [go_sem, ↓reduceIte, reduceCtorEq, pappend, plen, arith, is_get, is_len, y3, hl, g1, e1, cl]
        refine hK _ _ ?_; clear hK K
        (repeat refine PW.seq ?_); refine PW.rg rfl fun K hK => ?_; simp (disch := omega) only [go_sem, ↓reduceIte, reduceCtorEq, pappend, plen]; refine hK _ _ ?_; clear hK K
        exact PL.at [1, 2, 3, 7, 8, 9, 10, 38, 41, 44] ih rfl rfl
      · refine PL.round ?_; (repeat refine PW.seq ?_); refine PW.rg rfl fun K hK => ?_; simp (disch := omega) only [go_sem, ↓reduceIte, reduceCtorEq, pappend, plen]; refine hK _ _ ?_; clear hK K; (repeat refine PW.seq ?_); refine PW.cond (t := _) rfl (fun h => ?_) (fun h => ?_)
        · cases h
        refine PW.exit ?_
        have e1 : (8 : Int) * (i : Int) + (l : Int) = ((8 * i + l : Nat) : Int) := by omega
        have f1 := fil_len (rowF y) (8 * i + l)
        have f2 := fil_set (rowF y) (8 * i + l)
        rw [rowF_at y hlt, rowI] at f2
        (repeat refine PW.seq ?_); refine PW.rg rfl fun K hK => ?_; simp (disch := omega) only [go_sem, ↓reduceIte, reduceCtorEq, pappend, plen, e1, is_len, f1, is_set, f2]; refine hK _ _ ?_; clear hK K
        (repeat refine PW.seq ?_); refine PW.rg rfl fun K hK => ?_; simp (disch := omega) only [go_sem, ↓reduceIte, reduceCtorEq, pappend, plen]; refine hK _ _ ?_; clear hK K
        exact PL.at [1, 2, 3, 7, 8, 38, 41] ih rfl rfl
    · refine PL.round ?_; (repeat refine PW.seq ?_); refine PW.rg rfl fun K hK => ?_; simp (disch := omega) only [go_sem, ↓reduceIte, reduceCtorEq, pappend, plen]; refine hK _ _ ?_; clear hK K; (repeat refine PW.seq ?_); refine PW.cond (t := _) rfl (fun h => ?_) (fun h => ?_)
      · cases h
      refine PW.exit ?_
      (repeat refine PW.seq ?_); refine PW.rg rfl fun K hK => ?_; simp (disch := omega) only [go_sem, ↓reduceIte, reduceCtorEq, pappend, plen]; refine hK _ _ ?_; clear hK K
      exact PL.at [1, 2, 3, 7, 38] ih rfl rfl
  refine PL.round ?_; (repeat refine PW.seq ?_); refine PW.rg rfl fun K hK => ?_; simp (disch := omega) only [go_sem, ↓reduceIte, reduceCtorEq, pappend, plen]; refine hK _ _ ?_; clear hK K; (repeat refine PW.seq ?_); refine PW.cond (t := _) rfl (fun h => ?_) (fun h => ?_)
  · cases h
  refine PW.exit ?_
  (repeat refine PW.seq ?_); refine PW.rg rfl fun K hK => ?_; simp (disch := omega) only [go_sem, ↓reduceIte, reduceCtorEq, pappend, plen]; refine hK _ _ ?_; clear hK K
  (repeat refine PW.seq ?_); refine PW.rg rfl fun K hK => ?_; simp (disch := omega) only [go_sem, ↓reduceIte, reduceCtorEq, pappend, plen]; refine hK _ _ ?_; clear hK K
  (repeat refine PW.seq ?_); refine PW.block (PW.loop ?_)
  have r3 := fil_len (rowF y) 64
  suffices h1 : ∀ k : Nat, k ≤ 8 → PL Tryz.prog _ _ [(2, .ptr (H.length + 1) 0 0), (3, .ptr (H.length + 2) 0 0), (7, .ptr (H.length + 3) 0 0), (12, .ptr (H.length + 4) 0 0), (72, .int .i64 (k : Int))] (H ++ [⟨47, 0, is y⟩, ⟨47, 0, is zi⟩, ⟨252, 0, is (tsc 64)⟩, ⟨300, 0, is (fil (rowF y) 64)⟩, ⟨47, 0, is (fil (colF y) (8 * k))⟩]) _ by
    exact PL.at [2, 3, 7, 12, 72] (h1 0 (by omega)) rfl (by rw [Nat.mul_zero, hz2]; rfl)
  refine cnt 8 (fun k hk ih => ?_) ?_
  · refine PL.round ?_; (repeat refine PW.seq ?_); refine PW.rg rfl fun K hK => ?_; simp (disch := omega) only [go_sem, ↓reduceIte, reduceCtorEq, pappend, plen]; refine hK _ _ ?_; clear hK K; (repeat refine PW.seq ?_); refine PW.cond (t := _) rfl (fun h => ?_) (fun h => ?_)
    rotate_left
    · cases h
    refine PW.skip ?_; (repeat refine PW.seq ?_); refine PW.block ?_
    (repeat refine PW.seq ?_); refine PW.rg rfl fun K hK => ?_; simp (disch := omega) only [go_sem, ↓reduceIte, reduceCtorEq, pappend, plen]; refine hK _ _ ?_; clear hK K
    (repeat refine PW.seq ?_); refine PW.rg rfl fun K hK => ?_; simp (disch := omega) only [go_sem, ↓reduceIte, reduceCtorEq, pappend, plen]; refine hK _ _ ?_; clear hK K
    (repeat refine PW.seq ?_); refine PW.block (PW.loop ?_)
    suffices h2 : ∀ l : Nat, l ≤ 8 → PL Tryz.prog _ _ [(2, .ptr (H.length + 1) 0 0), (3, .ptr (H.length + 2) 0 0), (7, .ptr (H.length + 3) 0 0), (12, .ptr (H.length + 4) 0 0), (13, .int .i64 (k : Int)), (72, .int .i64 (k : Int)), (75, .int .i64 (l : Int))] (H ++ [⟨47, 0, is y⟩, ⟨47, 0, is zi⟩, ⟨252, 0, is (tsc 64)⟩, ⟨300, 0, is (fil (rowF y) 64)⟩, ⟨47, 0, is (fil (colF y) (8 * k + l))⟩]) _ by
      exact PL.at [2, 3, 7, 12, 13, 72, 75] (h2 0 (by omega)) rfl rfl
    refine cnt 8 (fun l hlt ih => ?_) ?_
    · refine PL.round ?_; (repeat refine PW.seq ?_); refine PW.rg rfl fun K hK => ?_; simp (disch := omega) only [go_sem, ↓reduceIte, reduceCtorEq, pappend, plen]; refine hK _ _ ?_; clear hK K; (repeat refine PW.seq ?_); refine PW.cond (t := _) rfl (fun h => ?_) (fun h => ?_)
      rotate_left
      · cases h
      refine PW.skip ?_; (repeat refine PW.seq ?_); refine PW.block ?_
      (repeat refine PW.seq ?_); refine PW.rg rfl fun K hK => ?_; simp (disch := omega) only [go_sem, ↓reduceIte, reduceCtorEq, pappend, plen]; refine hK _ _ ?_; clear hK K
      (repeat refine PW.seq ?_); refine PW.rg rfl fun K hK => ?_; simp (disch := omega) only [go_sem, ↓reduceIte, reduceCtorEq, pappend, plen]; refine hK _ _ ?_; clear hK K
      (repeat refine PW.seq ?_); refine PW.rg rfl fun K hK => ?_; simp (disch := omega) only [go_sem, ↓reduceIte, reduceCtorEq, pappend, plen]; refine hK _ _ ?_; clear hK K
      (repeat refine PW.seq ?_); refine PW.block (PW.loop ?_)
      suffices h3 : ∀ i : Nat, i ≤ 8 → PL Tryz.prog _ _ [(2, .ptr (H.length + 1) 0 0), (3, .ptr (H.length + 2) 0 0), (7, .ptr (H.length + 3) 0 0), (12, .ptr (H.length + 4) 0 0), (13, .int .i64 (k : Int)), (14, .int .i64 (l : Int)), (15, .int .i64 (sumN (ctm y k l) i)), (72, .int .i64 (k : Int)), (75, .int .i64 (l : Int)), (78, .int .i64 (i : Int))] (H ++ [⟨47, 0, is y⟩, ⟨47, 0, is zi⟩, ⟨252, 0, is (tsc 64)⟩, ⟨300, 0, is (fil (rowF y) 64)⟩, ⟨47, 0, is (fil (colF y) (8 * k + l))⟩]) _ by
        exact PL.at [2, 3, 7, 12, 13, 14, 15, 72, 75, 78] (h3 0 (by omega)) rfl rfl
      refine cnt 8 (fun i hi ih => ?_) ?_
      · refine PL.round ?_; (repeat refine PW.seq ?_); refine PW.rg rfl fun K hK => ?_; simp (disch := omega) only [go_sem, ↓reduceIte, reduceCtorEq, pappend, plen]; refine hK _ _ ?_; clear hK K; (repeat refine PW.seq ?_); refine PW.cond (t := _) rfl (fun h => ?_) (fun h => ?_)
        rotate_left
        · cases h
        refine PW.skip ?_; (repeat refine PW.seq ?_); refine PW.block ?_
        (repeat refine PW.seq ?_); refine PW.rg rfl fun K hK => ?_; simp (disch := omega) only [go_sem, ↓reduceIte, reduceCtorEq, pappend, plen]; refine hK _ _ ?_; clear hK K
        have g1 := tsc_64 hi hk
        have g2 := fil_at (rowF y) (n := 64) (j := 8 * i + l) (by omega) (by omega)
        rw [rowF_at y hlt] at g2
        have b1 := ctm_bd y k l i
        rw [ctm] at b1
        have b2 := sumN_le (ctm_bd y k l) (show i ≤ 8 by omega)
        have e1 : (8 : Int) * (i : Int) + (l : Int) = ((8 * i + l : Nat) : Int) := by omega
        (repeat refine PW.seq ?_); refine PW.drawi [] [] [] [] mix (by kernel_rfl) (by simp <;> omega) fun K hK => ?_
        simp (disch := omega) only [go_sem, ↓reduceIte, reduceCtorEq, pappend, plen, arith, is_get, is_len, y3, r3, g1, g2, e1]
        refine hK _ _ ?_; clear hK K
        (repeat refine PW.seq ?_); refine PW.rg rfl fun K hK => ?_; simp (disch := omega) only [go_sem, ↓reduceIte, reduceCtorEq, pappend, plen]; refine hK _ _ ?_; clear hK K
        exact PL.at [2, 3, 7, 12, 13, 14, 15, 72, 75, 78] ih rfl rfl
      · refine PL.round ?_; (repeat refine PW.seq ?_); refine PW.rg rfl fun K hK => ?_; simp (disch := omega) only [go_sem, ↓reduceIte, reduceCtorEq, pappend, plen]; refine hK _ _ ?_; clear hK K; (repeat refine PW.seq ?_); refine PW.cond (t := _) rfl (fun h => ?_) (fun h => ?_)
        · cases h
        refine PW.exit ?_
        have e1 : (8 : Int) * (k : Int) + (l : Int) = ((8 * k + l : Nat) : Int) := by omega
        have f1 := fil_len (colF y) (8 * k + l)
        have f2 := fil_set (colF y) (8 * k + l)
        rw [colF_at y hlt] at f2
        have b2 := colI_bd y k l
        rw [colI] at f2 b2
        have nn := fun K => nearest_ok (sumN (ctm y k l) 8) K (by omega)
        (repeat refine PW.seq ?_); refine PW.rg rfl fun K hK => ?_; simp (disch := omega) only [go_sem, ↓reduceIte, reduceCtorEq, pappend, plen, e1, is_len, f1, is_set, f2]; refine VCx.call (nn _) rfl ?_; simp (disch := omega) only [go_sem, ↓reduceIte, reduceCtorEq, pappend, plen, e1, is_len, f1, is_set, f2]; refine hK _ _ ?_; clear hK K
        (repeat refine PW.seq ?_); refine PW.rg rfl fun K hK => ?_; simp (disch := omega) only [go_sem, ↓reduceIte, reduceCtorEq, pappend, plen]; refine hK _ _ ?_; clear hK K
        exact PL.at [2, 3, 7, 12, 13, 72, 75] ih rfl rfl
    · refine PL.round ?_; (repeat refine PW.seq ?_); refine PW.rg rfl fun K hK => ?_; simp (disch := omega) only [go_sem, ↓reduceIte, reduceCtorEq, pappend, plen]; refine hK _ _ ?_; clear hK K; (repeat refine PW.seq ?_); refine PW.cond (t := _) rfl (fun h => ?_) (fun h => ?_)
      · cases h
      refine PW.exit ?_
      (repeat refine PW.seq ?_); refine PW.rg rfl fun K hK => ?_; simp (disch := omega) only [go_sem, ↓reduceIte, reduceCtorEq, pappend, plen]; refine hK _ _ ?_; clear hK K
      exact PL.at [2, 3, 7, 12, 72] ih rfl rfl
  refine PL.round ?_; (repeat refine PW.seq ?_); refine PW.rg rfl fun K hK => ?_; simp (disch := omega) only [go_sem, ↓reduceIte, reduceCtorEq, pappend, plen]; refine hK _ _ ?_; clear hK K; (repeat refine PW.seq ?_); refine PW.cond (t := _) rfl (fun h => ?_) (fun h => ?_)
  · cases h
  refine PW.exit ?_
  have c3 := fil_len (colF y) 64
  have c4 : (is (fil (colF y) 64)).length = 64 := by rw [is_len, c3]
  have c5 := is_cell (fil (colF y) 64)
  have c6 : List.take 64 (is (fil (colF y) 64)) = is (fil (colF y) 64) := List.take_of_length_le (by omega)
  have z3 : (is zi).length = 64 := by rw [is_len, zi_len]
  have z4 : List.drop 64 (is zi) = [] := List.drop_of_length_le (by omega)
  (repeat refine PW.seq ?_); refine PW.rg rfl fun K hK => ?_; simp (disch := omega) only [go_sem, ↓reduceIte, reduceCtorEq, pappend, plen, c4, c5, c6, z3, z4]; refine hK _ _ ?_; clear hK K
  rw [hinv]
  refine PW.ret ⟨.agg (is (fil (colF y) 64)), by simp (disch := omega) only [go_sem, ↓reduceIte, reduceCtorEq, pappend, plen, presults, presult, List.mapM_cons, List.mapM_nil, Option.pure_def, Option.bind_eq_bind, Option.bind_some, Array.toList, c4, c6], ?_⟩
  exact Fin.base (.id (ag_scoped (is_scoped _ _)))

end Go.Proofs.YtahomnplappbpaaGreatDoor.Sc

namespace Go.Proofs.YtahomnplappbpaaGreatDoor.Sc
set_option linter.all false
set_option linter.unusedVariables false
set_option linter.unusedSimpArgs false
open Pm Go.RowKit

def isVal (r : Option Res) (v : PV) : Bool := match r with
  | some (.val w []) => eqb 20 w v
  | _ => false
theorem _root_.Go.Proofs.YtahomnplappbpaaGreatDoor.Pm.CallOk.evalV {P : Program} {H : Heap} (n : Nat) {f : FuncId} {args : List PV} {v : PV} (h : isVal (evalN P n (.call f args [])) v = true) (hs : ∀ x ∈ args, Scoped 0 x) : CallOk P f args H v H := by
  refine CallOk.eval n ?_ hs
  unfold isVal at h
  split at h
  · rename_i he; rw [he, eqb_sound 20 _ _ h]
  · cases h
theorem hl7 (H : Heap) (b0 b1 b2 b3 b4 b5 b6 : Blk) : (H ++ [b0, b1, b2, b3, b4, b5, b6]).length = H.length + 7 := by simp
theorem hl8 (H : Heap) (b0 b1 b2 b3 b4 b5 b6 b7 : Blk) : (H ++ [b0, b1, b2, b3, b4, b5, b6, b7]).length = H.length + 8 := by simp
theorem hl9 (H : Heap) (b0 b1 b2 b3 b4 b5 b6 b7 b8 : Blk) : (H ++ [b0, b1, b2, b3, b4, b5, b6, b7, b8]).length = H.length + 9 := by simp
theorem hl10 (H : Heap) (b0 b1 b2 b3 b4 b5 b6 b7 b8 b9 : Blk) : (H ++ [b0, b1, b2, b3, b4, b5, b6, b7, b8, b9]).length = H.length + 10 := by simp
theorem hl11 (H : Heap) (b0 b1 b2 b3 b4 b5 b6 b7 b8 b9 b10 : Blk) : (H ++ [b0, b1, b2, b3, b4, b5, b6, b7, b8, b9, b10]).length = H.length + 11 := by simp
theorem hl12 (H : Heap) (b0 b1 b2 b3 b4 b5 b6 b7 b8 b9 b10 b11 : Blk) : (H ++ [b0, b1, b2, b3, b4, b5, b6, b7, b8, b9, b10, b11]).length = H.length + 12 := by simp
theorem hp7 (H K : Heap) (b0 b1 b2 b3 b4 b5 b6 b7 : Blk) : (H ++ b0 :: b1 :: b2 :: b3 :: b4 :: b5 :: b6 :: b7 :: K)[H.length + 7]? = some b7 := by rw [List.getElem?_append_right (by omega)]; simp
theorem hs7 (H K : Heap) (b0 b1 b2 b3 b4 b5 b6 b7 x : Blk) : (H ++ b0 :: b1 :: b2 :: b3 :: b4 :: b5 :: b6 :: b7 :: K).set (H.length + 7) x = H ++ b0 :: b1 :: b2 :: b3 :: b4 :: b5 :: b6 :: x :: K := by rw [List.set_append_right _ _ (by omega)]; simp
theorem hp8 (H K : Heap) (b0 b1 b2 b3 b4 b5 b6 b7 b8 : Blk) : (H ++ b0 :: b1 :: b2 :: b3 :: b4 :: b5 :: b6 :: b7 :: b8 :: K)[H.length + 8]? = some b8 := by rw [List.getElem?_append_right (by omega)]; simp
theorem hs8 (H K : Heap) (b0 b1 b2 b3 b4 b5 b6 b7 b8 x : Blk) : (H ++ b0 :: b1 :: b2 :: b3 :: b4 :: b5 :: b6 :: b7 :: b8 :: K).set (H.length + 8) x = H ++ b0 :: b1 :: b2 :: b3 :: b4 :: b5 :: b6 :: b7 :: x :: K := by rw [List.set_append_right _ _ (by omega)]; simp
theorem hp9 (H K : Heap) (b0 b1 b2 b3 b4 b5 b6 b7 b8 b9 : Blk) : (H ++ b0 :: b1 :: b2 :: b3 :: b4 :: b5 :: b6 :: b7 :: b8 :: b9 :: K)[H.length + 9]? = some b9 := by rw [List.getElem?_append_right (by omega)]; simp
theorem hs9 (H K : Heap) (b0 b1 b2 b3 b4 b5 b6 b7 b8 b9 x : Blk) : (H ++ b0 :: b1 :: b2 :: b3 :: b4 :: b5 :: b6 :: b7 :: b8 :: b9 :: K).set (H.length + 9) x = H ++ b0 :: b1 :: b2 :: b3 :: b4 :: b5 :: b6 :: b7 :: b8 :: x :: K := by rw [List.set_append_right _ _ (by omega)]; simp
theorem hp10 (H K : Heap) (b0 b1 b2 b3 b4 b5 b6 b7 b8 b9 b10 : Blk) : (H ++ b0 :: b1 :: b2 :: b3 :: b4 :: b5 :: b6 :: b7 :: b8 :: b9 :: b10 :: K)[H.length + 10]? = some b10 := by rw [List.getElem?_append_right (by omega)]; simp
theorem hs10 (H K : Heap) (b0 b1 b2 b3 b4 b5 b6 b7 b8 b9 b10 x : Blk) : (H ++ b0 :: b1 :: b2 :: b3 :: b4 :: b5 :: b6 :: b7 :: b8 :: b9 :: b10 :: K).set (H.length + 10) x = H ++ b0 :: b1 :: b2 :: b3 :: b4 :: b5 :: b6 :: b7 :: b8 :: b9 :: x :: K := by rw [List.set_append_right _ _ (by omega)]; simp
theorem hp11 (H K : Heap) (b0 b1 b2 b3 b4 b5 b6 b7 b8 b9 b10 b11 : Blk) : (H ++ b0 :: b1 :: b2 :: b3 :: b4 :: b5 :: b6 :: b7 :: b8 :: b9 :: b10 :: b11 :: K)[H.length + 11]? = some b11 := by rw [List.getElem?_append_right (by omega)]; simp
theorem hs11 (H K : Heap) (b0 b1 b2 b3 b4 b5 b6 b7 b8 b9 b10 b11 x : Blk) : (H ++ b0 :: b1 :: b2 :: b3 :: b4 :: b5 :: b6 :: b7 :: b8 :: b9 :: b10 :: b11 :: K).set (H.length + 11) x = H ++ b0 :: b1 :: b2 :: b3 :: b4 :: b5 :: b6 :: b7 :: b8 :: b9 :: b10 :: x :: K := by rw [List.set_append_right _ _ (by omega)]; simp
attribute [go_sem] hl7 hl8 hl9 hl10 hl11 hl12 hp7 hs7 hp8 hs8 hp9 hs9 hp10 hs10 hp11 hs11
theorem asc {n : Nat} {xs : List PV} (h : ∀ x ∈ xs, Scoped n x) : ∀ (j : Nat) (x : PV), xs[j]? = some x → Scoped n x := fun j x hx => h x (List.mem_of_getElem? hx)

end Go.Proofs.YtahomnplappbpaaGreatDoor.Sc
