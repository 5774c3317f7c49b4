/-
  Parts of the proof, put together in one text. No condition.
-/
import Derived.Test.YtahomnplappbpaaGreatDoorW35
namespace Go.Proofs.YtahomnplappbpaaGreatDoor.Sc
set_option linter.all false
set_option linter.unusedVariables false
set_option linter.unusedSimpArgs false
open Pm Ty Go.RowKit

theorem mul_64 (H : Heap) : CallOk Tryz.prog 223 [.int .u64 1, .int .u64 64] H (.tup [.int .u64 0, .int .u64 64]) H := CallOk.evalV 100000 (by kernel_rfl) (fun x hx => by
  simp only [List.mem_cons, List.not_mem_nil, or_false] at hx
  rcases hx with rfl | rfl <;> exact .int _ _)
theorem mul_256 (H : Heap) : CallOk Tryz.prog 223 [.int .u64 1, .int .u64 256] H (.tup [.int .u64 0, .int .u64 256]) H := CallOk.evalV 100000 (by kernel_rfl) (fun x hx => by
  simp only [List.mem_cons, List.not_mem_nil, or_false] at hx
  rcases hx with rfl | rfl <;> exact .int _ _)
/-- A plane that is filled, up to k. -/
def rpk (n k : Nat) : List UInt8 := List.replicate k 128 ++ List.replicate (n - k) 0
theorem rpk_len {n k : Nat} (h : k ≤ n) : (rpk n k).length = n := by simp [rpk]; omega
theorem rpk_end (n : Nat) : rpk n n = List.replicate n 128 := by simp [rpk]

set_option maxHeartbeats 1600000 in
theorem repeat_ok (n : Nat) (hn : n = 64 ∨ n = 256) (H : Heap) : CallOk Tryz.prog 155 [.slice [.int .u8 128] 1 true, .int .i64 (n : Int)] H (.slice (bs (List.replicate n 128)) n false) H := by
  have mu : ∀ K, CallOk Tryz.prog 223 [.int .u64 1, .int .u64 (n : Int)] K (.tup [.int .u64 0, .int .u64 (n : Int)]) K := fun K => by
    rcases hn with rfl | rfl
    · exact mul_64 K
    · exact mul_256 K
  have hz : (List.replicate n [PV.int .u8 0]).flatten = bs (List.replicate n 0) := bs_zero n
  have u1 : IntKind.u64.wrap (n : Int) = (n : Int) := by rcases hn with rfl | rfl <;> rfl
  have u2 : IntKind.u64.wrap 1 = 1 := rfl
  refine CallOk.body (F0 := [(0, .slice [.int .u8 128] 1 true), (1, .int .i64 (n : Int))]) Tryz.func155 rfl Tryz.ntmps155 Tryz.results155 rfl (by kernel_rfl) rfl ?_
  (repeat refine PW.seq ?_); refine PW.rg rfl fun K hK => ?_; simp (maxSteps := 3000000) (disch := omega) only [go_sem, ↓reduceIte, reduceCtorEq, pappend, plen]; refine hK _ _ ?_; clear hK K
  (repeat refine PW.seq ?_); refine PW.rg rfl fun K hK => ?_; simp (maxSteps := 3000000) (disch := omega) only [go_sem, ↓reduceIte, reduceCtorEq, pappend, plen]; refine hK _ _ ?_; clear hK K
  (repeat refine PW.seq ?_); refine PW.cond (t := _) rfl (fun h => ?_) (fun h => ?_)
  · cases h
  refine PW.skip ?_
  (repeat refine PW.seq ?_); refine PW.rg rfl fun K hK => ?_; simp (maxSteps := 3000000) (disch := omega) only [go_sem, ↓reduceIte, reduceCtorEq, pappend, plen, u1, u2]; refine VCx.call (mu _) rfl ?_; simp (maxSteps := 3000000) (disch := omega) only [go_sem, ↓reduceIte, reduceCtorEq, pappend, plen, u1, u2]; refine hK _ _ ?_; clear hK K
  (repeat refine PW.seq ?_)
  refine PW.rgv (P := Tryz.prog) [0, 6] 26 (.bool false) ?_ ?_ ?_
  · rfl
  · simp (maxSteps := 3000000) (disch := omega) only [go_sem, ↓reduceIte, reduceCtorEq, pappend, plen]; (repeat' ((first | refine VO_cond ?_ ?_ | refine VOd_cond ?_ ?_ | refine VOg_cond ?_ ?_ | refine VOh_cond ?_ ?_ | refine VOi_cond ?_ ?_ | refine And.intro ?_ ?_) <;> intro h <;> (try simp only [Bool.not_eq_true', Bool.not_eq_false', decide_eq_true_eq, decide_eq_false_iff_not] at h) <;> simp (maxSteps := 3000000) (disch := omega) only [go_sem, ↓reduceIte, reduceCtorEq, pappend, plen, h]))
    all_goals (simp_all [slot, Nat.beq] <;> first | rfl | omega | (rw [Bool.eq_iff_iff]; simp; done) | (rw [Bool.eq_iff_iff]; simp; omega))
  (repeat refine PW.seq ?_); refine PW.cond (t := _) rfl (fun h => ?_) (fun h => ?_)
  · cases h
  refine PW.skip ?_
  (repeat refine PW.seq ?_); refine PW.rg rfl fun K hK => ?_; simp (maxSteps := 3000000) (disch := omega) only [go_sem, ↓reduceIte, reduceCtorEq, pappend, plen]; refine hK _ _ ?_; clear hK K
  rw [hz]
  have mn : min 1 n = 1 := by omega
  (repeat refine PW.seq ?_); refine PW.rg rfl fun K hK => ?_; simp (maxSteps := 3000000) (disch := omega) only [go_sem, ↓reduceIte, reduceCtorEq, pappend, plen, length_bs, List.length_replicate, mn]; refine hK _ _ ?_; clear hK K
  (repeat refine PW.seq ?_); refine PW.block (PW.loop ?_)
  suffices hloop : ∀ k : Nat, 1 ≤ k → k ≤ n → PL Tryz.prog _ _ [(7, .msl H.length 0 0 n 1 true), (8, .int .i64 (k : Int))] (H ++ [⟨5, 0, bs (rpk n k)⟩]) _ by
    exact PL.at [7, 8] (hloop 1 (by omega) (by omega)) rfl (by simp [splice]; rcases hn with rfl | rfl <;> rfl)
  intro k hk1 hkn
  induction hm : n - k using Nat.strongRecOn generalizing k with
  | _ d ih =>
    have hl := rpk_len hkn
    refine PL.round ?_; (repeat refine PW.seq ?_); refine PW.rg rfl fun K hK => ?_; simp (maxSteps := 3000000) (disch := omega) only [go_sem, ↓reduceIte, reduceCtorEq, pappend, plen]; refine hK _ _ ?_; clear hK K
    (repeat refine PW.seq ?_); refine PW.cond (t := _) rfl (fun h => ?_) (fun h => ?_)
    · have h4 : k < n := by have := of_decide_eq_true h; omega
      refine PW.skip ?_; (repeat refine PW.seq ?_); refine PW.block ?_
      (repeat refine PW.seq ?_); refine PW.draw mix (by kernel_rfl) fun K hK => ?_
      simp (maxSteps := 3000000) (disch := omega) only [go_sem, ↓reduceIte, reduceCtorEq, pappend, plen, length_bs, hl]
      refine hK _ _ ?_; clear hK K
      have hm1 : min (k - 0) (n - k) = min k (n - k) := by rw [Nat.sub_zero]
      rw [hm1, Nat.sub_zero]
      have e1 : (k : Int) + ((min k (n - k) : Nat) : Int) = ((k + min k (n - k) : Nat) : Int) := by omega
      rw [e1]
      have e2 : List.take k (bs (rpk n k)) = bs (List.replicate k 128) := by
        rw [bs_take]; congr 1; unfold rpk; rw [List.take_append_of_le_length (by simp), List.take_of_length_le (by simp)]
      have e3 : List.take (min k (n - k)) (bs (List.replicate k (128 : UInt8))) = bs (List.replicate (min k (n - k)) 128) := by
        rw [bs_take, List.take_replicate]; congr 2; omega
      have e4 : List.drop (k + (bs (List.replicate (min k (n - k)) (128 : UInt8))).length) (bs (rpk n k)) = bs (List.replicate (n - (k + min k (n - k))) 0) := by
        rw [length_bs, List.length_replicate, bs_drop]
        congr 1
        unfold rpk
        rw [List.drop_append, List.length_replicate, List.drop_of_length_le (by simp), List.nil_append, List.drop_replicate]
        congr 1; omega
      rw [e2, e3, e4]
      have e5 : bs (List.replicate k 128) ++ (bs (List.replicate (min k (n - k)) 128) ++ bs (List.replicate (n - (k + min k (n - k))) 0)) = bs (rpk n (k + min k (n - k))) := by
        rw [← bs_append, ← bs_append]; unfold rpk; rw [← List.append_assoc, List.replicate_append_replicate]
      rw [e5]
      exact PL.at [7, 8] (ih (n - (k + min k (n - k))) (by omega) (k + min k (n - k)) (by omega) (by omega) rfl) rfl rfl
    · have h4 : k = n := by have := of_decide_eq_false h; omega
      subst h4
      refine PW.exit ?_
      rw [rpk_end]
      (repeat refine PW.seq ?_); refine PW.rg rfl fun K hK => ?_; simp (maxSteps := 3000000) (disch := omega) only [go_sem, ↓reduceIte, reduceCtorEq, pappend, plen]; refine hK _ _ ?_; clear hK K
      refine PW.ret ⟨_, rfl, ?_⟩
      exact Fin.base (Fz.mslC (e := 5) (xs := bs (List.replicate k 128)) (by omega) (hp0 _ _ _) (by simp [length_bs]) (FzC.refl (bs_scoped _ _)))

theorem gry_c : fmc gry = [.int .i64 16, .int .i64 16, .slice (bs (List.replicate 256 128)) 256 false, .slice (bs (List.replicate 64 128)) 64 false, .slice (bs (List.replicate 64 128)) 64 false] := F16.gry.c
set_option maxRecDepth 10000 in
theorem flat_ok (H : Heap) : CallOk Tryz.prog 79 [.int .i64 16, .int .i64 16, .int .u8 128, .int .u8 128, .int .u8 128] H (.tup [.agg (fmc gry), .int .i64 0]) H := by
  have fz := fun K => fsz_ok 16 16 K
  rw [show fsz 16 16 = true by decide] at fz
  have r1 := fun K => repeat_ok 256 (.inr rfl) K
  have r2 := fun K => repeat_ok 64 (.inl rfl) K
  rw [gry_c]
  generalize List.replicate 256 (128 : UInt8) = A at r1 ⊢
  generalize List.replicate 64 (128 : UInt8) = B at r2 ⊢
  have d1 : (16 : Int).tdiv 2 = 8 := rfl
  have m1 : (16 : Int) * 16 = ((256 : Nat) : Int) := rfl
  have m2 : (8 : Int) * 8 = ((64 : Nat) : Int) := rfl
  refine CallOk.body (F0 := [(0, .int .i64 16), (1, .int .i64 16), (2, .int .u8 128), (3, .int .u8 128), (4, .int .u8 128)]) Tryz.func79 rfl Tryz.ntmps79 Tryz.results79 rfl (by kernel_rfl) rfl ?_
  (repeat refine PW.seq ?_); refine PW.rg rfl fun K hK => ?_; simp (maxSteps := 3000000) (disch := omega) only [go_sem, ↓reduceIte, reduceCtorEq, pappend, plen]; refine hK _ _ ?_; clear hK K
  (repeat refine PW.seq ?_); refine PW.rg rfl fun K hK => ?_; simp (maxSteps := 3000000) (disch := omega) only [go_sem, ↓reduceIte, reduceCtorEq, pappend, plen]; refine VCx.call (fz _) rfl ?_; simp (maxSteps := 3000000) (disch := omega) only [go_sem, ↓reduceIte, reduceCtorEq, pappend, plen]; refine hK _ _ ?_; clear hK K
  (repeat refine PW.seq ?_); refine PW.cond (t := _) rfl (fun h => ?_) (fun h => ?_)
  · cases h
  refine PW.skip ?_
  (repeat refine PW.seq ?_); refine PW.rg rfl fun K hK => ?_; simp (maxSteps := 3000000) (disch := omega) only [go_sem, ↓reduceIte, reduceCtorEq, pappend, plen, d1, m1, m2]; refine hK _ _ ?_; clear hK K
  (repeat refine PW.seq ?_); refine PW.rg rfl fun K hK => ?_; simp (maxSteps := 3000000) (disch := omega) only [go_sem, ↓reduceIte, reduceCtorEq, pappend, plen]; refine VCx.call (r1 _) rfl ?_; simp (maxSteps := 3000000) (disch := omega) only [go_sem, ↓reduceIte, reduceCtorEq, pappend, plen]; refine VCx.call (r2 _) rfl ?_; simp (maxSteps := 3000000) (disch := omega) only [go_sem, ↓reduceIte, reduceCtorEq, pappend, plen]; refine VCx.call (r2 _) rfl ?_; simp (maxSteps := 3000000) (disch := omega) only [go_sem, ↓reduceIte, reduceCtorEq, pappend, plen]; refine hK _ _ ?_; clear hK K
  refine PW.ret ⟨.tup [.agg [.int .i64 16, .int .i64 16, .slice (bs A) 256 false, .slice (bs B) 64 false, .slice (bs B) 64 false], .int .i64 0], by simp (maxSteps := 3000000) (disch := omega) only [go_sem, ↓reduceIte, reduceCtorEq, pappend, plen, presults, presult, List.mapM_cons, List.mapM_nil, Option.pure_def, Option.bind_eq_bind, Option.bind_some, Array.toList], ?_⟩
  exact Fin.base (.id (fe_scoped _ _ _ _ _ _ _ _ _ _))

theorem vqm_ok (q : Int) (H : Heap) : CallOk Tryz.prog 78 [.int .i64 q] H (.bool (qnB q)) H := by
  refine CallOk.body (F0 := [(0, .int .i64 q)]) Tryz.func78 rfl Tryz.ntmps78 Tryz.results78 rfl (by kernel_rfl) rfl ?_
  (repeat' (first | refine PW.seq ?_ | refine PW.skip ?_ | refine PW.block ?_ | (refine PW.rg rfl fun K hK => ?_; simp (maxSteps := 3000000) (disch := omega) only [go_sem, ↓reduceIte, reduceCtorEq, pappend, plen]) | (refine PW.draw mix (by kernel_rfl) fun K hK => ?_; simp (maxSteps := 3000000) (disch := omega) only [go_sem, ↓reduceIte, reduceCtorEq, pappend, plen]) | (refine PW.drawg mix (by kernel_rfl) fun K hK => ?_; simp (maxSteps := 3000000) (disch := omega) only [go_sem, ↓reduceIte, reduceCtorEq, pappend, plen]) | (refine PW.drawt [] [] mix (by kernel_rfl) fun K hK => ?_; simp (maxSteps := 3000000) (disch := omega) only [go_sem, ↓reduceIte, reduceCtorEq, pappend, plen]) | ((first | refine VO_cond ?_ ?_ | refine VOd_cond ?_ ?_ | refine VOg_cond ?_ ?_ | refine VOh_cond ?_ ?_ | refine VOi_cond ?_ ?_ | refine And.intro ?_ ?_) <;> intro h <;> (try simp only [Bool.not_eq_true', Bool.not_eq_false', decide_eq_true_eq, decide_eq_false_iff_not] at h) <;> simp (maxSteps := 3000000) (disch := omega) only [go_sem, ↓reduceIte, reduceCtorEq, pappend, plen, h]) | (refine hK _ _ ?_; clear hK K) | (refine PW.cond (t := _) rfl (fun h => ?_) (fun h => ?_) <;> (try (cases h; done)) <;> (try simp only [Bool.not_eq_true', Bool.not_eq_false', decide_eq_true_eq, decide_eq_false_iff_not] at h))))
  all_goals ((refine PW.ret ⟨_, rfl, ?_⟩; first | refine .inl ⟨?_, rfl⟩ | refine Fin.base (.id' ?_ (.bool _)) | refine Fin.base (.id' ?_ (.int _ _))); (simp_all [qnB, slot, Nat.beq] <;> first | rfl | omega | (rw [Bool.eq_iff_iff]; simp; done) | (rw [Bool.eq_iff_iff]; simp; omega)))
theorem dirS_b {c : Cx} {fp used : Bool} {a b d e p q : Int} (h : dirS c fp used a b d e p q = true) : (p = 0 ∨ p = 1) ∧ (q = 0 ∨ q = 1) ∧ (used = true → vrg a b = true ∧ vrg d e = true) := by
  unfold dirS at h
  cases used
  · simp only [Bool.false_eq_true, if_false, Bool.and_eq_true, decide_eq_true_eq] at h
    exact ⟨.inl h.2.2.2.2.1, .inl h.2.2.2.2.2, fun e => by cases e⟩
  · simp only [if_true, Bool.and_eq_true, Bool.or_eq_true, decide_eq_true_eq] at h
    exact ⟨h.2.2.1, h.2.2.2.1, fun _ => ⟨h.1, h.2.1⟩⟩
theorem fm_two {c : Cx} {m : Mb} (h : fmS c m = true) (hk : m.k = 2) : PrOk m ∧ selB m ∧ lvr m.lv = true := by
  unfold fmS at h
  rw [Bool.and_eq_true, if_neg (by omega), if_neg (by omega), if_pos hk] at h
  have h2 := h.2
  unfold intS at h2
  simp only [Bool.and_eq_true] at h2
  obtain ⟨hu, _, h0, h1, hl, _⟩ := h2
  have d0 := dirS_b h0
  have d1 := dirS_b h1
  refine ⟨⟨?_, fun d hd hf => ?_⟩, ⟨d0.1, d0.2.1, d1.1, d1.2.1⟩, hl⟩
  · unfold useB at hu
    cases ha : m.ua <;> cases hb : m.ub <;> simp_all
  · unfold us at hd
    unfold s1 s2 v1 v2 v3 v4
    by_cases hz : d = 0
    · simp only [if_pos hz] at hd ⊢
      exact ⟨d0.1, d0.2.1, d0.2.2 hd⟩
    · simp only [if_neg hz] at hd ⊢
      exact ⟨d1.1, d1.2.1, d1.2.2 hd⟩
theorem fm_one {c : Cx} {m : Mb} (h : fmS c m = true) (hk : m.k = 1) : lvr m.lv = true := by
  unfold fmS at h
  rw [Bool.and_eq_true, if_neg (by omega), if_pos hk] at h
  simp only [Bool.and_eq_true] at h
  exact h.2.2.2.2
theorem fm_k {c : Cx} {m : Mb} (h : fmS c m = true) : m.k = 0 ∨ m.k = 1 ∨ m.k = 2 := by
  unfold fmS at h
  rw [Bool.and_eq_true] at h
  by_cases h0 : m.k = 0
  · exact .inl h0
  · by_cases h1 : m.k = 1
    · exact .inr (.inl h1)
    · by_cases h2 : m.k = 2
      · exact .inr (.inr h2)
      · rw [if_neg h0, if_neg h1, if_neg h2] at h; cases h.2
theorem zl_rg : lrm zl384 := fun i => by
  unfold intAt zl384
  rw [List.getD_eq_getElem?_getD, List.getElem?_replicate]
  split <;> simp
theorem stl_ok (c : Cx) : PrOk (stl c) := ⟨.inl rfl, fun d _ hf => by cases hf⟩
theorem sqc_ia (s : Sq) (h : s.ia.length = 64) : List.take 64 (List.drop 7 (sqc s)) = bs s.ia := sq_ia s.ia s.ie h
theorem sqc_ie (s : Sq) (h : s.ia.length = 64) (h' : s.ie.length = 64) : List.take 64 (List.drop 71 (sqc s)) = bs s.ie := by
  show List.take 64 (List.drop 64 (bs s.ia ++ bs s.ie)) = _
  rw [sq_ie _ _ h, sq_tk _ h']
theorem sqj_len (s : Sq) (h : s.ia.length = 64) (h' : s.ie.length = 64) : (sqc s).length = 135 := by simp [sqc, length_bs, h, h']
theorem sqj_cell (s : Sq) : (sqc s).all PV.cell = true := by simp [sqc, bs, PV.cell]

set_option maxHeartbeats 6400000 in
set_option maxRecDepth 100000 in
theorem recon_ok (c : Cx) (s : Sq) (al : Bool) (q : Int) (m : Mb) (pa fu fi : Fm) (mx my : Int) (H : Heap) (hml : m.lv.length = 384) (hia : s.ia.length = 64) (hie : s.ie.length = 64) :
    CallOk Tryz.prog 32 [.agg (cxc c), .agg (sqc s), .bool al, .int .i64 q, .agg (mbc m), .agg (fmc pa ++ (fmc fu ++ fmc fi)), .int .i64 mx, .int .i64 my] H (.tup [.agg (fmc (recS c s.ia s.ie al q m pa fu fi mx my).1), .int .i64 (recS c s.ia s.ie al q m pa fu fi mx my).2]) H := by
  have fo := fun L => fm_ok c m L hml
  have q1 := fun L => mx_ok s.ia L hia
  have q2 := fun L => mx_ok s.ie L hie
  have q3 := fun L => vqm_ok q L
  have c1 := sqc_ia s hia
  have c2 := sqc_ie s hia hie
  have c3 := sqj_len s hia hie
  have c4 := sqj_cell s
  have m1 := mbc_lenA m hml
  have m2 := mbc_cellA m
  have m3 : (mbc m)[0]? = some (.int .i64 m.k) := rfl
  have m4 : List.take 408 (mbc m) = mbc m := List.take_of_length_le (by omega)
  have m5 : List.drop 408 (mbc m) = [] := List.drop_of_length_le (by omega)
  have cl : (cxc c).length = 4 := rfl
  have cc : (cxc c).all PV.cell = true := rfl
  have ct4 : List.take 4 (cxc c) = cxc c := rfl
  have rl : (fmc pa ++ (fmc fu ++ fmc fi)).length = 15 := rfl
  have rc : (fmc pa ++ (fmc fu ++ fmc fi)).all PV.cell = true := rfl
  have rt : List.take 15 (fmc pa ++ (fmc fu ++ fmc fi)) = fmc pa ++ (fmc fu ++ fmc fi) := rfl
  have z9 : List.drop 5 [PV.int .i64 0, PV.int .i64 0, PV.slice [] 0 true, PV.slice [] 0 true, PV.slice [] 0 true] = [] := rfl
  generalize hr : recS c s.ia s.ie al q m pa fu fi mx my = r
  unfold recS at hr
  refine CallOk.body (F0 := [(0, .agg (cxc c)), (1, .agg (sqc s)), (2, .bool al), (3, .int .i64 q), (4, .agg (mbc m)), (5, .agg (fmc pa ++ (fmc fu ++ fmc fi))), (6, .int .i64 mx), (7, .int .i64 my)]) Tryz.func32 rfl Tryz.ntmps32 Tryz.results32 rfl (by kernel_rfl) rfl ?_
  (repeat refine PW.seq ?_); refine PW.rg rfl fun K hK => ?_; simp (maxSteps := 3000000) (disch := omega) only [go_sem, ↓reduceIte, reduceCtorEq, pappend, plen, cc, rc, c4, m2]; refine hK _ _ ?_; clear hK K
  (repeat refine PW.seq ?_)
  refine PW.rgv (P := Tryz.prog) [2, 3, 6, 7, 8, 9, 12, 13, 16, 17] 42 (.bool (!(fmS c m && (mxOk s.ia && (mxOk s.ie && qnB q))))) ?_ ?_ ?_
  · rfl
  · clear hr
    generalize fmS c m = b1 at fo ⊢
    generalize mxOk s.ia = b2 at q1 ⊢
    generalize mxOk s.ie = b3 at q2 ⊢
    generalize qnB q = b4 at q3 ⊢
    simp (maxSteps := 3000000) (disch := omega) only [go_sem, ↓reduceIte, reduceCtorEq, pappend, plen, cl, ct4, m1, m4, c1, c2, c3]; (repeat' (first | ((first | refine VO_cond ?_ ?_ | refine VOd_cond ?_ ?_ | refine VOg_cond ?_ ?_ | refine VOh_cond ?_ ?_ | refine VOi_cond ?_ ?_ | refine And.intro ?_ ?_) <;> intro h <;> (try simp only [Bool.not_eq_true', Bool.not_eq_false', decide_eq_true_eq, decide_eq_false_iff_not] at h) <;> simp (maxSteps := 3000000) (disch := omega) only [go_sem, ↓reduceIte, reduceCtorEq, pappend, plen, cl, ct4, m1, m4, c1, c2, c3, h]) | ((first | refine VCx.call (fo _) rfl ?_ | refine VCx.call (q1 _) rfl ?_ | refine VCx.call (q2 _) rfl ?_ | refine VCx.call (q3 _) rfl ?_ | refine VCy.call (fo _) rfl ?_ | refine VCy.call (q1 _) rfl ?_ | refine VCy.call (q2 _) rfl ?_ | refine VCy.call (q3 _) rfl ?_ | refine VCz.call (fun _ => fo _) rfl ?_ | refine VCz.call (fun _ => q1 _) rfl ?_ | refine VCz.call (fun _ => q2 _) rfl ?_ | refine VCz.call (fun _ => q3 _) rfl ?_ | refine VCk.call (fun _ _ => fo _) rfl ?_ | refine VCk.call (fun _ _ => q1 _) rfl ?_ | refine VCk.call (fun _ _ => q2 _) rfl ?_ | refine VCk.call (fun _ _ => q3 _) rfl ?_ | refine VCj.now (fo _) rfl ?_ | refine VCj.now (q1 _) rfl ?_ | refine VCj.now (q2 _) rfl ?_ | refine VCj.now (q3 _) rfl ?_); simp (maxSteps := 3000000) (disch := omega) only [go_sem, ↓reduceIte, reduceCtorEq, pappend, plen, cl, ct4, m1, m4, c1, c2, c3])))
    all_goals (clear fo q1 q2 q3; (simp_all [slot, Nat.beq] <;> first | rfl | omega | (rw [Bool.eq_iff_iff]; simp; done) | (rw [Bool.eq_iff_iff]; simp; omega)))
  (repeat refine PW.seq ?_); refine PW.cond (t := _) rfl (fun h => ?_) (fun h => ?_)
  · have hb : (fmS c m && (mxOk s.ia && (mxOk s.ie && qnB q))) = false := by
      cases hx : (fmS c m && (mxOk s.ia && (mxOk s.ie && qnB q))) with
      | false => rfl
      | true => rw [hx] at h; cases h
    rw [hb, if_neg (by simp)] at hr
    (repeat refine PW.seq ?_); refine PW.rg rfl fun K hK => ?_; simp (maxSteps := 3000000) (disch := omega) only [go_sem, ↓reduceIte, reduceCtorEq, pappend, plen]; refine hK _ _ ?_; clear hK K
    refine PW.ret ⟨.tup [.agg [.int .i64 0, .int .i64 0, .slice [] 0 true, .slice [] 0 true, .slice [] 0 true], .int .i64 1], by simp (maxSteps := 3000000) (disch := omega) only [go_sem, ↓reduceIte, reduceCtorEq, pappend, plen, presults, presult, List.mapM_cons, List.mapM_nil, Option.pure_def, Option.bind_eq_bind, Option.bind_some, Array.toList], ?_⟩
    rw [← hr]
    exact Fin.base (fz0 _ _ _)
  have hb : (fmS c m && (mxOk s.ia && (mxOk s.ie && qnB q))) = true := by simpa using h
  rw [hb, if_pos rfl] at hr
  simp only [Bool.and_eq_true] at hb
  obtain ⟨hf, hb1, hb2, hb3⟩ := hb
  refine PW.skip ?_
  (repeat refine PW.seq ?_); refine PW.rg rfl fun K hK => ?_; simp (maxSteps := 3000000) (disch := omega) only [go_sem, ↓reduceIte, reduceCtorEq, pappend, plen, m1, m3]; refine hK _ _ ?_; clear hK K
  (repeat refine PW.seq ?_); refine PW.cond (t := _) rfl (fun h => ?_) (fun h => ?_)
  · have hk : m.k = 1 := by simpa using h
    rw [if_pos hk] at hr
    have fl := fun L => flat_ok L
    have ad := fun L hL => add_ok gry F16.gry m (H.length + 2) s.ia q al L hL hml (lrm_of hml (fm_one hf hk)) hia hb1 hb3
    generalize gry = g at fl ad hr
    obtain ⟨g', hg'⟩ : ∃ g', addN m al s.ia q g 6 = g' := ⟨_, rfl⟩
    rw [hg'] at ad hr
    have g5 : (fmc g).all PV.cell = true := rfl
    have g7 : (fmc g).length = 5 := rfl
    have g8 : List.take 5 (fmc g) = fmc g := rfl
    have e5 : (fmc g').all PV.cell = true := rfl
    have e7 : (fmc g').length = 5 := rfl
    have e8 : List.take 5 (fmc g') = fmc g' := rfl
    (repeat refine PW.seq ?_); refine PW.rg rfl fun K hK => ?_; simp (maxSteps := 3000000) (disch := omega) only [go_sem, ↓reduceIte, reduceCtorEq, pappend, plen, g5, g7, z9]; refine VCx.call (fl _) rfl ?_; simp (maxSteps := 3000000) (disch := omega) only [go_sem, ↓reduceIte, reduceCtorEq, pappend, plen, g5, g7, z9]; refine hK _ _ ?_; clear hK K
    (repeat refine PW.seq ?_); refine PW.rg rfl fun K hK => ?_; simp (maxSteps := 3000000) (disch := omega) only [go_sem, ↓reduceIte, reduceCtorEq, pappend, plen]; refine hK _ _ ?_; clear hK K
    (repeat refine PW.seq ?_); refine PW.cond (t := _) rfl (fun h => ?_) (fun h => ?_)
    · cases h
    refine PW.skip ?_
    (repeat refine PW.seq ?_); refine PW.rg rfl fun K hK => ?_; simp (maxSteps := 3000000) (disch := omega) only [go_sem, ↓reduceIte, reduceCtorEq, pappend, plen, g7, g8, c1, c3, e5, e7, e8, z9]; refine VCx.call (ad _ (apn _ _ 2)) rfl ?_; simp (maxSteps := 3000000) (disch := omega) only [go_sem, ↓reduceIte, reduceCtorEq, pappend, plen, g7, g8, c1, c3, e5, e7, e8, z9]; refine hK _ _ ?_; clear hK K
    refine PW.ret ⟨.tup [.agg (fmc g'), .int .i64 0], by simp (maxSteps := 3000000) (disch := omega) only [go_sem, ↓reduceIte, reduceCtorEq, pappend, plen, presults, presult, List.mapM_cons, List.mapM_nil, Option.pure_def, Option.bind_eq_bind, Option.bind_some, Array.toList, e7, e8], ?_⟩
    rw [← hr]
    exact Fin.base (.id (fe_scoped _ _ _ _ _ _ _ _ _ _))
  have hk : m.k ≠ 1 := by simpa using h
  rw [if_neg hk] at hr
  refine PW.skip ?_
  obtain ⟨M, hM⟩ : ∃ M, (if m.k = 0 then stl c else m) = M := ⟨_, rfl⟩
  have hMl : M.lv.length = 384 := by rw [← hM]; split; exact zl384_lenA; exact hml
  have hMp : PrOk M := by
    rw [← hM]; split
    · exact stl_ok c
    · exact (fm_two hf (by rcases fm_k hf with h | h | h <;> omega)).1
  have hMr : lrm M.lv := by
    rw [← hM]; split
    · exact zl_rg
    · exact lrm_of hml (fm_two hf (by rcases fm_k hf with h | h | h <;> omega)).2.2
  rw [hM] at hr
  suffices hrest : PW Tryz.prog _ _ [(2, .bool al), (3, .int .i64 q), (6, .int .i64 mx), (7, .int .i64 my), (8, .ptr H.length 0 0), (9, .ptr (H.length + 1) 0 0), (12, .ptr (H.length + 2) 0 0), (13, .ptr (H.length + 3) 0 0), (16, .ptr (H.length + 4) 0 0)] (H ++ [⟨104, 0, cxc c⟩, ⟨38, 0, sqc s⟩, ⟨50, 0, mbc M⟩, ⟨55, 0, fmc pa ++ (fmc fu ++ fmc fi)⟩, ⟨53, 0, [.int .i64 0, .int .i64 0, .slice [] 0 true, .slice [] 0 true, .slice [] 0 true]⟩]) _ by
    (repeat refine PW.seq ?_); refine PW.rg rfl fun K hK => ?_; simp (maxSteps := 3000000) (disch := omega) only [go_sem, ↓reduceIte, reduceCtorEq, pappend, plen, m1, m3]; refine hK _ _ ?_; clear hK K
    (repeat refine PW.seq ?_); refine PW.cond (t := _) rfl (fun h => ?_) (fun h => ?_)
    · have hz : m.k = 0 := by simpa using h
      rw [if_pos hz] at hM
      have so := fun L => still_ok c L
      rw [hM] at so
      have n1 := mbc_lenA M hMl
      have n2 := mbc_cellA M
      (repeat refine PW.seq ?_); refine PW.rg rfl fun K hK => ?_; simp (maxSteps := 3000000) (disch := omega) only [go_sem, ↓reduceIte, reduceCtorEq, pappend, plen, cl, ct4, m1, m5, n1, n2]; refine VCx.call (so _) rfl ?_; simp (maxSteps := 3000000) (disch := omega) only [go_sem, ↓reduceIte, reduceCtorEq, pappend, plen, cl, ct4, m1, m5, n1, n2]; refine hK _ _ ?_; clear hK K
      exact PW.at [2, 3, 6, 7, 8, 9, 12, 13, 16] hrest rfl rfl
    · have hz : m.k ≠ 0 := by simpa using h
      rw [if_neg hz] at hM
      subst hM
      refine PW.skip ?_
      exact PW.at [2, 3, 6, 7, 8, 9, 12, 13, 16] hrest rfl rfl
  have h16 : (prS c M pa fu fi mx my).2 = 0 → F16 (prS c M pa fu fi mx my).1 := prS_16
  have pr := fun L hL => predictM_ok c M (H.length + 2) pa fu fi mx my L hL hMl hMp
  generalize prS c M pa fu fi mx my = T at pr hr h16
  obtain ⟨g, e⟩ := T
  simp only at pr hr h16
  have g5 : (fmc g).all PV.cell = true := rfl
  have g7 : (fmc g).length = 5 := rfl
  have g8 : List.take 5 (fmc g) = fmc g := rfl
  (repeat refine PW.seq ?_); refine PW.rg rfl fun K hK => ?_; simp (maxSteps := 3000000) (disch := omega) only [go_sem, ↓reduceIte, reduceCtorEq, pappend, plen, cl, ct4, rl, rt, g5, g7, z9]; refine VCx.call (pr _ (apn _ _ 2)) rfl ?_; simp (maxSteps := 3000000) (disch := omega) only [go_sem, ↓reduceIte, reduceCtorEq, pappend, plen, cl, ct4, rl, rt, g5, g7, z9]; refine hK _ _ ?_; clear hK K
  (repeat refine PW.seq ?_); refine PW.rg rfl fun K hK => ?_; simp (maxSteps := 3000000) (disch := omega) only [go_sem, ↓reduceIte, reduceCtorEq, pappend, plen]; refine hK _ _ ?_; clear hK K
  (repeat refine PW.seq ?_); refine PW.cond (t := _) rfl (fun h => ?_) (fun h => ?_)
  · have he : e ≠ 0 := by simpa using h
    rw [if_pos he] at hr
    (repeat refine PW.seq ?_); refine PW.rg rfl fun K hK => ?_; simp (maxSteps := 3000000) (disch := omega) only [go_sem, ↓reduceIte, reduceCtorEq, pappend, plen]; refine hK _ _ ?_; clear hK K
    refine PW.ret ⟨.tup [.agg [.int .i64 0, .int .i64 0, .slice [] 0 true, .slice [] 0 true, .slice [] 0 true], .int .i64 e], by simp (maxSteps := 3000000) (disch := omega) only [go_sem, ↓reduceIte, reduceCtorEq, pappend, plen, presults, presult, List.mapM_cons, List.mapM_nil, Option.pure_def, Option.bind_eq_bind, Option.bind_some, Array.toList], ?_⟩
    rw [← hr]
    exact Fin.base (fz0 _ _ _)
  have he : e = 0 := by simpa using h
  rw [if_neg (by simp [he])] at hr
  have ad := fun L hL => add_ok g (h16 he) M (H.length + 2) s.ie q al L hL hMl hMr hie hb2 hb3
  obtain ⟨g', hg'⟩ : ∃ g', addN M al s.ie q g 6 = g' := ⟨_, rfl⟩
  rw [hg'] at ad hr
  have e5 : (fmc g').all PV.cell = true := rfl
  have e7 : (fmc g').length = 5 := rfl
  have e8 : List.take 5 (fmc g') = fmc g' := rfl
  refine PW.skip ?_
  (repeat refine PW.seq ?_); refine PW.rg rfl fun K hK => ?_; simp (maxSteps := 3000000) (disch := omega) only [go_sem, ↓reduceIte, reduceCtorEq, pappend, plen, g7, g8, c2, c3, e5, e7, e8, z9]; refine VCx.call (ad _ (apn _ _ 2)) rfl ?_; simp (maxSteps := 3000000) (disch := omega) only [go_sem, ↓reduceIte, reduceCtorEq, pappend, plen, g7, g8, c2, c3, e5, e7, e8, z9]; refine hK _ _ ?_; clear hK K
  refine PW.ret ⟨.tup [.agg (fmc g'), .int .i64 0], by simp (maxSteps := 3000000) (disch := omega) only [go_sem, ↓reduceIte, reduceCtorEq, pappend, plen, presults, presult, List.mapM_cons, List.mapM_nil, Option.pure_def, Option.bind_eq_bind, Option.bind_some, Array.toList, e7, e8], ?_⟩
  rw [← hr]
  exact Fin.base (.id (fe_scoped _ _ _ _ _ _ _ _ _ _))

end Go.Proofs.YtahomnplappbpaaGreatDoor.Sc

namespace Go.Proofs.YtahomnplappbpaaGreatDoor.Sc
set_option linter.all false
set_option linter.unusedVariables false
set_option linter.unusedSimpArgs false
open Pm Ty Go.RowKit

theorem has_ref (f : Fm) (mx my : Int) (H : Heap) : CallOk Tryz.prog 47 [.agg (fmc f), .int .i64 mx, .int .i64 my] H (.bool (hasM f mx my)) H := by
  have va := fun K => valid_ref f K
  have hr : hasM f mx my = (fvd f && (decide (0 ≤ mx) && (decide (mx < f.w / 16) && (decide (0 ≤ my) && decide (my < f.h / 16))))) := rfl
  generalize hasM f mx my = r at hr ⊢
  cases hv : fvd f
  · rw [hv] at va hr
    obtain ⟨w, ht, y, u, v⟩ := f
    simp only [fmc] at va ⊢
    refine CallOk.body (F0 := [(0, .agg [.int .i64 w, .int .i64 ht, .slice (bs y) y.length false, .slice (bs u) u.length false, .slice (bs v) v.length false]), (1, .int .i64 mx), (2, .int .i64 my)]) Tryz.func47 rfl Tryz.ntmps47 Tryz.results47 rfl (by kernel_rfl) rfl ?_
    (repeat refine PW.seq ?_); refine PW.rg rfl fun K hK => ?_; simp (disch := omega) only [go_sem, ↓reduceIte, reduceCtorEq, pappend, plen]; refine hK _ _ ?_; clear hK K
    (repeat refine PW.seq ?_); refine PW.rg rfl fun K hK => ?_; simp (disch := omega) only [go_sem, ↓reduceIte, reduceCtorEq, pappend, plen]; (repeat' (first | ((first | refine VO_cond ?_ ?_ | refine VOd_cond ?_ ?_ | refine VOg_cond ?_ ?_ | refine VOh_cond ?_ ?_ | refine VOi_cond ?_ ?_ | refine And.intro ?_ ?_) <;> intro h <;> (try simp only [Bool.not_eq_true', Bool.not_eq_false', decide_eq_true_eq, decide_eq_false_iff_not] at h) <;> simp (disch := omega) only [go_sem, ↓reduceIte, reduceCtorEq, pappend, plen, h]) | ((first | refine VCx.call (va _) rfl ?_ | refine VCy.call (va _) rfl ?_ | refine VCz.call (fun _ => va _) rfl ?_ | refine VCk.call (fun _ _ => va _) rfl ?_ | refine VCj.now (va _) rfl ?_); simp (disch := omega) only [go_sem, ↓reduceIte, reduceCtorEq, pappend, plen])))
    all_goals (refine hK _ _ ?_; clear hK; (refine PW.ret ⟨_, rfl, ?_⟩; first | refine .inl ⟨?_, rfl⟩ | refine Fin.base (.id' ?_ (.bool _)) | refine Fin.base (.id' ?_ (.int _ _))); (simp_all [slot, Nat.beq] <;> first | rfl | omega | (rw [Bool.eq_iff_iff]; simp; done) | (rw [Bool.eq_iff_iff]; simp; omega)))
  · rw [hv] at va hr
    have hp : (0 ≤ f.w ∧ f.w ≤ 64) ∧ 0 ≤ f.h ∧ f.h ≤ 64 := by
      unfold fvd fmd at hv
      simp only [Bool.and_eq_true] at hv
      have := fsz_of hv.1.1
      omega
    obtain ⟨w, ht, y, u, v⟩ := f
    simp only [fmc] at va hp hr ⊢
    clear hv
    refine CallOk.body (F0 := [(0, .agg [.int .i64 w, .int .i64 ht, .slice (bs y) y.length false, .slice (bs u) u.length false, .slice (bs v) v.length false]), (1, .int .i64 mx), (2, .int .i64 my)]) Tryz.func47 rfl Tryz.ntmps47 Tryz.results47 rfl (by kernel_rfl) rfl ?_
    (repeat refine PW.seq ?_); refine PW.rg rfl fun K hK => ?_; simp (disch := omega) only [go_sem, ↓reduceIte, reduceCtorEq, pappend, plen]; refine hK _ _ ?_; clear hK K
    (repeat refine PW.seq ?_); refine PW.rg rfl fun K hK => ?_; simp (disch := omega) only [go_sem, ↓reduceIte, reduceCtorEq, pappend, plen]; (repeat' (first | ((first | refine VO_cond ?_ ?_ | refine VOd_cond ?_ ?_ | refine VOg_cond ?_ ?_ | refine VOh_cond ?_ ?_ | refine VOi_cond ?_ ?_ | refine And.intro ?_ ?_) <;> intro h <;> (try simp only [Bool.not_eq_true', Bool.not_eq_false', decide_eq_true_eq, decide_eq_false_iff_not] at h) <;> simp (disch := omega) only [go_sem, ↓reduceIte, reduceCtorEq, pappend, plen, tdiv_pos, h]) | ((first | refine VCx.call (va _) rfl ?_ | refine VCy.call (va _) rfl ?_ | refine VCz.call (fun _ => va _) rfl ?_ | refine VCk.call (fun _ _ => va _) rfl ?_ | refine VCj.now (va _) rfl ?_); simp (disch := omega) only [go_sem, ↓reduceIte, reduceCtorEq, pappend, plen, tdiv_pos])))
    all_goals (refine hK _ _ ?_; clear hK va; (refine PW.ret ⟨_, rfl, ?_⟩; first | refine .inl ⟨?_, rfl⟩ | refine Fin.base (.id' ?_ (.bool _)) | refine Fin.base (.id' ?_ (.int _ _))); rw [hr]; simp_all [slot, Nat.beq] <;> grind)

end Go.Proofs.YtahomnplappbpaaGreatDoor.Sc

namespace Go.Proofs.YtahomnplappbpaaGreatDoor.Sc
set_option linter.all false
set_option linter.unusedVariables false
set_option linter.unusedSimpArgs false
open Pm Ty Go.RowKit

def zBk (n : Nat) : Blk := ⟨5, 1, bs (List.replicate n 0)⟩
theorem zBk_fl (N : Nat) (f : Nat → Int) : zBk N = ⟨5, 1, bs (flB N f 0)⟩ := by unfold zBk; rw [flB_0, bs_zero]
set_option maxHeartbeats 1600000 in
set_option maxRecDepth 100000 in
theorem blank_ref (K0 : Heap) : CallOk Tryz.prog 48 [.int .i64 16, .int .i64 16] (K0 ++ [plc, plc, plc]) (.agg [.int .i64 16, .int .i64 16, .msl K0.length 1 0 256 1 true, .msl (K0.length + 1) 1 0 64 1 true, .msl (K0.length + 2) 1 0 64 1 true]) (K0 ++ [zBk 256, zBk 64, zBk 64]) := by
  have d1 : (16 : Int).tdiv 2 = 8 := rfl
  obtain ⟨N1, h1⟩ : ∃ N : Nat, N = 256 := ⟨_, rfl⟩
  obtain ⟨N2, h2⟩ : ∃ N : Nat, N = 64 := ⟨_, rfl⟩
  have m1 : (16 : Int) * 16 = (N1 : Int) := by rw [h1]; rfl
  have m2 : (8 : Int) * 8 = (N2 : Int) := by rw [h2]; rfl
  rw [← h1, ← h2]
  have z1 : (List.replicate N1 [PV.int .u8 0]).flatten = bs (List.replicate N1 0) := bs_zero N1
  have z2 : (List.replicate N2 [PV.int .u8 0]).flatten = bs (List.replicate N2 0) := bs_zero N2
  refine CallOk.body (F0 := [(0, .int .i64 16), (1, .int .i64 16)]) Tryz.func48 rfl Tryz.ntmps48 Tryz.results48 rfl (by kernel_rfl) rfl ?_
  (repeat refine PW.seq ?_); refine PW.rg rfl fun K hK => ?_; simp (disch := omega) only [go_sem, ↓reduceIte, reduceCtorEq, pappend, plen, plc]; refine hK _ _ ?_; clear hK K
  (repeat refine PW.seq ?_); refine PW.drawi [K0.length, K0.length + 1, K0.length + 2, K0.length + 3] [(4, [3]), (10, [0]), (16, [1]), (22, [2])] [(10, 0), (16, 1), (22, 2)] [] mix (by kernel_rfl) (by simp <;> omega) fun K hK => ?_
  simp (disch := omega) only [go_sem, ↓reduceIte, reduceCtorEq, pappend, plen, arith, plc, d1, m1, m2]
  refine hK _ _ ?_; clear hK K
  rw [z1, z2]
  refine PW.ret ⟨.agg [.int .i64 16, .int .i64 16, .msl K0.length 1 0 N1 1 true, .msl (K0.length + 1) 1 0 N2 1 true, .msl (K0.length + 2) 1 0 N2 1 true], by simp (disch := omega) only [go_sem, ↓reduceIte, reduceCtorEq, pappend, plen, presults, presult, List.mapM_cons, List.mapM_nil, Option.pure_def, Option.bind_eq_bind, Option.bind_some, Array.toList], ?_⟩
  refine Fin.cut (A := K0 ++ [zBk N1, zBk N2, zBk N2]) (List.append_assoc _ [_, _, _] [_]).symm (by simp) (hscP (by simp) fun b hb x hx => ?_) (.id (ag_scoped fun x hx => ?_))
  · simp only [List.mem_cons, List.not_mem_nil, or_false] at hb
    rcases hb with rfl | rfl | rfl <;> exact bs_scoped _ _ x hx
  · simp only [List.mem_cons, List.not_mem_nil, or_false] at hx
    rcases hx with rfl | rfl | rfl | rfl | rfl
    · exact .int _ _
    · exact .int _ _
    · exact .msl (by simp only [List.length_append, List.length_cons, List.length_nil]; omega)
    · exact .msl (by simp only [List.length_append, List.length_cons, List.length_nil]; omega)
    · exact .msl (by simp only [List.length_append, List.length_cons, List.length_nil]; omega)

/-! ### distances -/
end Go.Proofs.YtahomnplappbpaaGreatDoor.Sc
