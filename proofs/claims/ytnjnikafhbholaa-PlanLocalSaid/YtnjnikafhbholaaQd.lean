/-
  Contracts of chapter 31: the indexes of the media that the laws make.
-/
import Derived.Test.YtnjnikafhbholaaQc
import Derived.Test.YtnjnikafhbholaaQt
namespace Go.Proofs.Ytnjnikafhbholaa.Sc
set_option linter.all false
set_option linter.unusedVariables false
set_option linter.unusedSimpArgs false
open Pm Ty Go.RowKit

theorem TpH.pn {L : List Int} {f : Bool} {i : Nat} {H : Heap} {G : Nat → Heap} (h : TpH L f i H G) (a n : Nat) (K : Heap) : (G a ++ K)[H.length + n]? = K[n]? := by
  rw [List.getElem?_append_right (by rw [h.len]; omega), h.len]
  congr 1
  omega
theorem TpH.sn {L : List Int} {f : Bool} {i : Nat} {H : Heap} {G : Nat → Heap} (h : TpH L f i H G) (a n : Nat) (K : Heap) (x : Blk) : (G a ++ K).set (H.length + n) x = G a ++ K.set n x := by
  rw [List.set_append_right _ _ (by rw [h.len]; omega), h.len]
  congr 2
  omega
theorem TpH.hsc {L : List Int} {f : Bool} {i : Nat} {H : Heap} {G : Nat → Heap} (h : TpH L f i H G) (a : Nat) {K : Heap} (hK : ∀ b ∈ K, ∀ x ∈ b.cells, Scoped (H.length + K.length) x) (hH : HSc H) : HSc (G a ++ K) := fun id k hk x hx => by
  rw [List.length_append, h.len]
  rw [List.getElem?_append] at hk
  split at hk
  · rw [h.eq] at hk
    have := (HSc.set hH (id := i) (k := tb L f a) (tb_sc _)) id k hk x hx
    rw [List.length_set] at this
    exact this.mono (by omega)
  · exact hK k (List.mem_of_getElem? hk) x hx

theorem enc_sc (n : Nat) (e : En) : ∀ x ∈ enc e, Scoped n x := fun x hx => by
  simp only [enc, List.mem_cons, List.not_mem_nil, or_false] at hx
  rcases hx with rfl | rfl | rfl | rfl | rfl
  · exact .int _ _
  · exact .bool _
  · exact .int _ _
  · exact .bool _
  · exact .bool _
theorem enl_sc (n : Nat) (l : List En) : ∀ x ∈ l.flatMap enc, Scoped n x := fun x hx => by
  obtain ⟨e, _, h⟩ := List.mem_flatMap.1 hx
  exact enc_sc n e x h
theorem sqc_sc (n : Nat) (s : Sq) : ∀ x ∈ sqc s, Scoped n x := fun x hx => by
  simp only [sqc, List.mem_cons, List.mem_append] at hx
  rcases hx with rfl | rfl | rfl | rfl | rfl | rfl | rfl | h | h
  · exact .int _ _
  · exact .int _ _
  · exact .int _ _
  · exact .int _ _
  · exact .bool _
  · exact .int _ _
  · exact .int _ _
  · exact bs_scoped _ _ _ h
  · exact bs_scoped _ _ _ h
theorem ixc_sc (n : Nat) (e : Ix) : ∀ x ∈ ixc e, Scoped n x := fun x hx => by
  simp only [ixc, List.mem_cons, List.mem_append, List.not_mem_nil, or_false] at hx
  rcases hx with rfl | h | rfl
  · exact .str _
  · exact sqc_sc n _ x h
  · exact sl_scoped (enl_sc n _)
theorem ixl_sc (n : Nat) (l : List Ix) : ∀ x ∈ l.flatMap ixc, Scoped n x := fun x hx => by
  obtain ⟨e, _, h⟩ := List.mem_flatMap.1 hx
  exact ixc_sc n e x h

/-- An entry of an index: four numbers of the tape. -/
def en1 (L : List Int) (a : Nat) (t : Int) : En := ⟨t, decide (tn L a 12 > 0), if tn L (a + 3) 15 = 0 then 3 else 2, decide (tn L (a + 1) 12 > 0), decide (tn L (a + 2) 20 = 0)⟩
def enL (L : List Int) (a : Nat) (ts : List Int) : Nat → List En
  | 0 => []
  | j + 1 => enL L a ts j ++ [en1 L (a + 4 * j) (intAt ts j)]
theorem enL_len (L : List Int) (a : Nat) (ts : List Int) : ∀ j, (enL L a ts j).length = j
  | 0 => rfl
  | j + 1 => by simp [enL, enL_len L a ts j]
/-- An index. -/
def ixK (L : List Int) (a : Nat) : Nat := (tn L (a + 2) 14).toNat
def ixB (L : List Int) (a : Nat) : Nat := tyA L (a + 3) (ixK L a)
def ixQ (L : List Int) (s : Sq) (a : Nat) : Sq := { s with br := 1000 + tn L a 9000, ia := if tn L (a + 1) 6 = 0 then s.ia.set 3 17 else s.ia }
def ix1 (L : List Int) (s : Sq) (m a : Nat) : Ix := ⟨nm [109] m, ixQ L s a, enL L (ixB L a) (tyR L (a + 3) (ixK L a)) (ixK L a + 1), false⟩
def ixA (L : List Int) (a : Nat) : Nat := ixB L a + 4 * (ixK L a + 1)
def ixs (L : List Int) (s : Sq) (a : Nat) : Nat → List Ix × Nat
  | 0 => ([], a)
  | m + 1 => ((ixs L s a m).1 ++ [ix1 L s m (ixs L s a m).2], ixA L (ixs L s a m).2)
theorem ixK_lt (L : List Int) (a : Nat) : ixK L a ≤ 13 := by have := tn_range L (a + 2) 14 (by omega); unfold ixK; omega
theorem ixB_le (L : List Int) (a : Nat) : ixB L a ≤ a + 3 + ixK L a + 1 := by unfold ixB tyA; split <;> omega
theorem ixA_le (L : List Int) (a : Nat) : ixA L a ≤ a + 100 := by have := ixK_lt L a; have := ixB_le L a; unfold ixA; omega
theorem ixs_le (L : List Int) (s : Sq) (a : Nat) : ∀ m, (ixs L s a m).2 ≤ a + 100 * m
  | 0 => Nat.le_refl _
  | m + 1 => by have := ixs_le L s a m; have := ixA_le L (ixs L s a m).2; simp only [ixs]; omega
theorem ixs_len (L : List Int) (s : Sq) (a : Nat) : ∀ m, (ixs L s a m).1.length = m
  | 0 => rfl
  | m + 1 => by simp [ixs, ixs_len L s a m]
theorem bs_set3 (ia : List UInt8) (r : List PV) (h : ia.length = 64) : (bs ia ++ r).set 3 (.int .u8 17) = bs (ia.set 3 17) ++ r := by
  rw [List.set_append_left _ _ (by rw [length_bs]; omega)]
  congr 1
  simp [bs, List.map_set]

theorem ixc_len (x : Ix) (h : SqL x.sq) : (ixc x).length = 137 := by
  simp only [ixc, List.length_cons, List.length_append, sqc_len _ h, List.length_nil]
theorem ixl_len : ∀ (l : List Ix), (∀ x ∈ l, SqL x.sq) → (l.flatMap ixc).length = l.length * 137
  | [], _ => by simp
  | a :: r, h => by
    rw [List.flatMap_cons, List.length_append, ixc_len a (h a (by simp)), ixl_len r (fun x hx => h x (by simp [hx])), List.length_cons, Nat.succ_mul]
    omega
theorem ixQ_L (L : List Int) (s : Sq) (a : Nat) (h : SqL s) : SqL (ixQ L s a) := ⟨by unfold ixQ; dsimp only; split <;> simp [h.ia], h.ie⟩
theorem ixs_L (L : List Int) (s : Sq) (a : Nat) (h : SqL s) : ∀ m, ∀ x ∈ (ixs L s a m).1, SqL x.sq
  | 0, x, hx => by simp [ixs] at hx
  | m + 1, x, hx => by
    simp only [ixs, List.mem_append, List.mem_singleton] at hx
    rcases hx with hx | rfl
    · exact ixs_L L s a h m x hx
    · exact ixQ_L L s _ h

set_option maxHeartbeats 4000000 in
theorem indexes_ok (L : List Int) (f : Bool) (s : Sq) (a i : Nat) (H : Heap) (hi : H[i]? = some (tb L f a)) (ha : a ≤ 1000000) (hs : SqL s) :
    CallOk Try.prog 84 [.ptr i 0 0, .agg (sqc s)] H (.slice ((ixs L s a 3).1.flatMap ixc) 3 false) (H.set i (tb L f (ixs L s a 3).2)) := by
  obtain ⟨G, hG, hGa⟩ := tpH hi
  have hil : i < H.length := (List.getElem?_eq_some_iff.1 hi).1
  have hle := ixs_le L s a
  have hxl := ixs_len L s a
  have hxL := ixs_L L s a hs
  have hlen := fun m => ixl_len (ixs L s a m).1 (hxL m)
  have hstep : ∀ m, ixs L s a (m + 1) = ((ixs L s a m).1 ++ [ix1 L s m (ixs L s a m).2], ixA L (ixs L s a m).2) := fun m => rfl
  have h0 : ixs L s a 0 = ([], a) := rfl
  generalize ixs L s a = X at *
  obtain ⟨a1, a2, a3, a4, a5, a6, a7, p, q⟩ := s
  obtain ⟨h1, h2⟩ := hs
  dsimp only at h1 h2
  have c1 := bs_cells p q
  have l1 : (bs p ++ bs q).length = 128 := by rw [List.length_append, length_bs, length_bs]; omega
  have t1 := sq_all p q h1 h2
  have c3 := bs_cells (p.set 3 17) q
  have l3 : (bs (p.set 3 17) ++ bs q).length = 128 := by rw [List.length_append, length_bs, length_bs, List.length_set]; omega
  have t3 := sq_all (p.set 3 17) q (by rw [List.length_set]; exact h1) h2
  have hset := bs_set3 p (bs q) h1
  have hset2 : ∀ r, (bs p ++ bs q ++ r).set 3 (.int .u8 17) = bs (p.set 3 17) ++ bs q ++ r := fun r => by rw [List.append_assoc, bs_set3 p _ h1, List.append_assoc]
  have hsc1 := fun n => sqc_sc n ⟨a1, a2, a3, a4, a5, a6, a7, p, q⟩
  have s1 : ∀ n, ∀ x ∈ bs p ++ bs q, Scoped n x := fun n x hx => by
    rcases List.mem_append.1 hx with h | h <;> exact bs_scoped _ _ _ h
  have s3 : ∀ n, ∀ x ∈ bs (p.set 3 17) ++ bs q, Scoped n x := fun n x hx => by
    rcases List.mem_append.1 hx with h | h <;> exact bs_scoped _ _ _ h
  have hixc : ∀ m b, ixc (ix1 L ⟨a1, a2, a3, a4, a5, a6, a7, p, q⟩ m b) = .str (nm [109] m) :: .int .i64 a1 :: .int .i64 a2 :: .int .i64 a3 :: .int .i64 a4 :: .bool a5 :: .int .i64 (1000 + tn L b 9000) :: .int .i64 a7 :: ((if tn L (b + 1) 6 = 0 then bs (p.set 3 17) ++ bs q else bs p ++ bs q) ++ [.slice ((enL L (ixB L b) (tyR L (b + 3) (ixK L b)) (ixK L b + 1)).flatMap enc) (ixK L b + 1) false]) := fun m b => by
    simp only [ix1, ixc, ixQ, sqc, enL_len, List.cons_append]
    split <;> rfl
  simp only [sqc] at *
  generalize bs p ++ bs q = tl at *
  generalize bs (p.set 3 17) ++ bs q = tl3 at *
  refine CallOk.body (F0 := [(0, .ptr i 0 0), (1, .agg (.int .i64 a1 :: .int .i64 a2 :: .int .i64 a3 :: .int .i64 a4 :: .bool a5 :: .int .i64 a6 :: .int .i64 a7 :: tl))]) Try.func84 rfl Try.ntmps84 Try.results84 rfl (by kernel_rfl) rfl ?_
  refine PW.eq rfl hGa.symm ?_
  (repeat refine PW.seq ?_); refine PW.rg rfl fun K hK => ?_; simp (maxSteps := 3000000) (disch := omega) only [go_sem, ↓reduceIte, reduceCtorEq, pappend, plen, hG.len, c1]; refine hK _ _ ?_; clear hK K
  (repeat refine PW.seq ?_); refine PW.rg rfl fun K hK => ?_; simp (maxSteps := 3000000) (disch := omega) only [go_sem, ↓reduceIte, reduceCtorEq, pappend, plen]; refine hK _ _ ?_; clear hK K
  (repeat refine PW.seq ?_); refine PW.rg rfl fun K hK => ?_; simp (maxSteps := 3000000) (disch := omega) only [go_sem, ↓reduceIte, reduceCtorEq, pappend, plen]; refine hK _ _ ?_; clear hK K
  (repeat refine PW.seq ?_)
  refine PW.view (Vs.ghost 5 45 137 rfl) ?_
  (repeat refine PW.seq ?_); refine PW.block (PW.loop ?_)
  suffices hloop : ∀ m, m ≤ 3 → PL Try.prog _ _ [(0, .ptr i 0 0), (3, .ptr H.length 0 0), (5, .msl (H.length + 1) (m * 137) 0 m 137 true), (6, .int .i64 (m : Int))] (G (X m).2 ++ [⟨39, 0, .int .i64 a1 :: .int .i64 a2 :: .int .i64 a3 :: .int .i64 a4 :: .bool a5 :: .int .i64 a6 :: .int .i64 a7 :: tl⟩, ⟨45, (m * 137), (X m).1.flatMap ixc⟩]) _ by
    refine PL.at [0, 3, 5, 6] (hloop 0 (by omega)) ?_ ?_
    · simp (maxSteps := 3000000) (disch := omega) only [go_sem, ↓reduceIte, reduceCtorEq, pappend, plen, hG.len, List.length_append]; rfl
    · rw [h0]; simp
  intro m hm
  induction hd : 3 - m using Nat.strongRecOn generalizing m with
  | _ d ih =>
    refine PL.round ?_; (repeat refine PW.seq ?_); refine PW.rg rfl fun K hK => ?_; simp (maxSteps := 3000000) (disch := omega) only [go_sem, ↓reduceIte, reduceCtorEq, pappend, plen]; refine hK _ _ ?_; clear hK K
    (repeat refine PW.seq ?_); refine PW.cond (t := _) rfl (fun h => ?_) (fun h => ?_)
    rotate_left
    · have h3 : m = 3 := by have := of_decide_eq_false h; omega
      subst h3
      refine PW.exit ?_
      (repeat refine PW.seq ?_); refine PW.rg rfl fun K hK => ?_; simp (maxSteps := 3000000) (disch := omega) only [go_sem, ↓reduceIte, reduceCtorEq, pappend, plen]; refine hK _ _ ?_; clear hK K
      refine PW.ret ⟨_, rfl, ?_⟩
      refine hG.fin (Fz.mslC (e := 45) (xs := (X 3).1.flatMap ixc) (by omega) (hG.p1 _ _ _ _) (by rw [hlen, hxl]) (FzC.refl (ixl_sc _ _)))
    · have h3 : m < 3 := by have := of_decide_eq_true h; omega
      have r1 := tn_range L (X m).2 9000 (by omega)
      have r2 := tn_range L ((X m).2 + 1) 6 (by omega)
      have r3 := tn_range L ((X m).2 + 2) 14 (by omega)
      have hm3 := hle m
      have hm4 := hlen m
      rw [hxl] at hm4
      have hnew := hstep m
      generalize X m = xm at *
      obtain ⟨Y, b⟩ := xm
      dsimp only at *
      refine PW.skip ?_; (repeat refine PW.seq ?_); refine PW.block ?_
      (repeat refine PW.seq ?_); refine PW.rg rfl fun K hK => ?_; simp (maxSteps := 3000000) (disch := omega) only [go_sem, ↓reduceIte, reduceCtorEq, pappend, plen, w32s, hG.p0, hG.p2, hG.s2, l1, t1, c1, hG.len, List.length_append, List.all_append]; refine hK _ _ ?_; clear hK K
      (repeat refine PW.seq ?_); refine PW.rg rfl fun K hK => ?_; simp (maxSteps := 3000000) (disch := omega) only [go_sem, ↓reduceIte, reduceCtorEq, pappend, plen, hG.set, hG.p2, hG.s2, l1, List.length_append]; refine VCx.call (next_ok L f b 9000 i _ (hG.get _ _) (by omega) (by omega)) rfl ?_; simp (maxSteps := 3000000) (disch := omega) only [go_sem, ↓reduceIte, reduceCtorEq, pappend, plen, hG.set, hG.p2, hG.s2, l1, List.length_append]; refine hK _ _ ?_; clear hK K
      (repeat refine PW.seq ?_); refine PW.rg rfl fun K hK => ?_; simp (maxSteps := 3000000) (disch := omega) only [go_sem, ↓reduceIte, reduceCtorEq, pappend, plen, hG.set]; refine VCx.call (next_ok L f (b + 1) 6 i _ (hG.get _ _) (by omega) (by omega)) rfl ?_; simp (maxSteps := 3000000) (disch := omega) only [go_sem, ↓reduceIte, reduceCtorEq, pappend, plen, hG.set]; refine hK _ _ ?_; clear hK K
      have hnm : ([109, UInt8.ofNat (48 + m)] : List UInt8) = nm [109] m := by
        simp only [nm]; rw [show ((48 : Int) + (m : Int)).toNat = 48 + m by omega]; rfl
      generalize htm : (if tn L (b + 1) 6 = 0 then tl3 else tl) = tm
      have lm : tm.length = 128 := by subst htm; split <;> assumption
      have cm : tm.all PV.cell = true := by subst htm; split <;> assumption
      have settm : ∀ x y, (tm ++ [x]).set 128 y = tm ++ [y] := fun x y => by rw [← lm, List.set_append_right _ _ (Nat.le_refl _)]; simp
      have tkm : ∀ x : PV, (tm ++ [x])[128]? = some x := fun x => by rw [← lm]; simp
      have tk9 : ∀ x : PV, List.take 129 (tm ++ [x]) = tm ++ [x] := fun x => List.take_of_length_le (by simp [lm])
      have sm : ∀ n, ∀ x ∈ tm, Scoped n x := by subst htm; split <;> assumption
      refine PW.meet [0, 3, 5, 6, 7] [(0, .ptr i 0 0), (3, .ptr H.length 0 0), (5, .msl (H.length + 1) (m * 137) 0 m 137 true), (6, .int .i64 (m : Int)), (7, .ptr (H.length + 2) 0 0)] (G (b + 2) ++ [⟨39, 0, .int .i64 a1 :: .int .i64 a2 :: .int .i64 a3 :: .int .i64 a4 :: .bool a5 :: .int .i64 a6 :: .int .i64 a7 :: tl⟩, ⟨45, (m * 137), Y.flatMap ixc⟩, ⟨45, 0, .str (nm [109] m) :: .int .i64 a1 :: .int .i64 a2 :: .int .i64 a3 :: .int .i64 a4 :: .bool a5 :: .int .i64 (1000 + tn L b 9000) :: .int .i64 a7 :: (tm ++ [.slice [] 0 true])⟩]) ?_ ?_
      · (repeat refine PW.seq ?_); refine PW.cond (t := _) rfl (fun h => ?_) (fun h => ?_)
        · have h6 : tn L (b + 1) 6 = 0 := by simpa using h
          rw [if_pos h6] at htm
          subst htm
          (repeat refine PW.seq ?_); refine PW.rg rfl fun K hK => ?_; simp (maxSteps := 3000000) (disch := omega) only [go_sem, ↓reduceIte, reduceCtorEq, pappend, plen, hG.p2, hG.s2, l1, List.length_append, hset, hset2]; refine hK _ _ ?_; clear hK K
          refine ⟨rfl, ?_⟩
          simp only [hnm]
        · have h6 : tn L (b + 1) 6 ≠ 0 := by simpa using h
          rw [if_neg h6] at htm
          subst htm
          refine PW.skip ⟨rfl, ?_⟩
          simp only [hnm]
      have hk : tn L (b + 2) 14 = (ixK L b : Int) := by unfold ixK; omega
      have hkl := ixK_lt L b
      have hbl := ixB_le L b
      have hal := ixA_le L b
      have hTl := tyR_len L (b + 3) (ixK L b)
      have hA : ixA L b = ixB L b + 4 * (ixK L b + 1) := rfl
      have hB : tyA L (b + 3) (ixK L b) = ixB L b := rfl
      have hbf : b + 3 ≤ ixB L b := by unfold ixB tyA; split <;> omega
      have tok := fun K hK => types_ok L f (b + 3) (ixK L b) i K hK (by omega) (by omega)
      rw [hB] at tok
      have hen := enL_len L (ixB L b) (tyR L (b + 3) (ixK L b))
      have hel := fun j => fm_len enc 5 (fun _ => rfl) (enL L (ixB L b) (tyR L (b + 3) (ixK L b)) j)
      simp only [hen] at hel
      have hix := hixc m b
      rw [htm] at hix
      have hes : ∀ j, enL L (ixB L b) (tyR L (b + 3) (ixK L b)) (j + 1) = enL L (ixB L b) (tyR L (b + 3) (ixK L b)) j ++ [en1 L (ixB L b + 4 * j) (intAt (tyR L (b + 3) (ixK L b)) j)] := fun j => rfl
      have he0 : enL L (ixB L b) (tyR L (b + 3) (ixK L b)) 0 = [] := rfl
      generalize enL L (ixB L b) (tyR L (b + 3) (ixK L b)) = EN at *
      generalize tyR L (b + 3) (ixK L b) = TY at *
      rw [hA] at hnew hal
      generalize ixB L b = bb at *
      generalize ixK L b = kk at *
      have e1 : (1 : Int) + (kk : Int) = (kk : Int) + 1 := by omega
      (repeat refine PW.seq ?_); refine PW.rg rfl fun K hK => ?_; simp (maxSteps := 3000000) (disch := omega) only [go_sem, ↓reduceIte, reduceCtorEq, pappend, plen]
      refine VCx.call (next_ok L f (b + 2) 14 i _ (hG.get _ _) (by omega) (by omega)) rfl ?_; simp (maxSteps := 3000000) (disch := omega) only [go_sem, ↓reduceIte, reduceCtorEq, pappend, plen, hG.set, hk, e1]
      refine VCx.call (tok _ (hG.get _ _)) rfl ?_; simp (maxSteps := 3000000) (disch := omega) only [go_sem, ↓reduceIte, reduceCtorEq, pappend, plen, hG.set]
      refine hK _ _ ?_; clear hK K
      (repeat refine PW.seq ?_)
      refine PW.view (Vs.ghostH (id := H.length + 2) (j := 136) 89 5 (hG.p2 _ _ _ _ _) (show (tm ++ [_])[128]? = _ by rw [← lm]; simp)) ?_
      (repeat refine PW.seq ?_); refine PW.block (PW.loop ?_)
      suffices hin : ∀ j, j ≤ kk + 1 → PL Try.prog _ _ [(0, .ptr i 0 0), (3, .ptr H.length 0 0), (5, .msl (H.length + 1) (m * 137) 0 m 137 true), (6, .int .i64 (m : Int)), (7, .ptr (H.length + 2) 0 0), (37, .slice (is TY) (kk + 1) false), (38, .int .i64 ((kk + 1 : Nat) : Int)), (39, .int .i64 (j : Int))] (G (bb + 4 * j) ++ [⟨39, 0, .int .i64 a1 :: .int .i64 a2 :: .int .i64 a3 :: .int .i64 a4 :: .bool a5 :: .int .i64 a6 :: .int .i64 a7 :: tl⟩, ⟨45, (m * 137), Y.flatMap ixc⟩, ⟨45, 0, .str (nm [109] m) :: .int .i64 a1 :: .int .i64 a2 :: .int .i64 a3 :: .int .i64 a4 :: .bool a5 :: .int .i64 (1000 + tn L b 9000) :: .int .i64 a7 :: (tm ++ [.msl (H.length + 3) (j * 5) 0 j 5 true])⟩, ⟨89, (j * 5), (EN j).flatMap enc⟩]) _ by
        refine PL.at [0, 3, 5, 6, 7, 37, 38, 39] (hin 0 (by omega)) ?_ ?_
        · rfl
        · rw [hG.s2]
          simp only [List.set_cons_succ, settm, hG.len, he0, Nat.mul_zero, Nat.add_zero]
          simp [hG.len]
      intro j hj
      induction hd2 : kk + 1 - j using Nat.strongRecOn generalizing j with
      | _ d2 ih2 =>
        refine PL.round ?_; (repeat refine PW.seq ?_); refine PW.rg rfl fun K hK => ?_; simp (maxSteps := 3000000) (disch := omega) only [go_sem, ↓reduceIte, reduceCtorEq, pappend, plen]; refine hK _ _ ?_; clear hK K
        (repeat refine PW.seq ?_); refine PW.cond (t := _) rfl (fun h => ?_) (fun h => ?_)
        rotate_left
        · have h4 : j = kk + 1 := by have := of_decide_eq_false h; omega
          subst h4
          refine PW.exit ?_
          (repeat refine PW.seq ?_)
          refine PW.view (Vs.frzCell (id := H.length + 3) (id' := H.length + 2) (j := 136) (hG.p3 _ _ _ _ _ _) (hG.p2 _ _ _ _ _) (by omega) (show (tm ++ [_])[128]? = _ by rw [← lm]; simp; rfl) (hel _)) ?_
          refine PW.eq rfl (show _ = G (bb + 4 * (kk + 1)) ++ [⟨39, 0, .int .i64 a1 :: .int .i64 a2 :: .int .i64 a3 :: .int .i64 a4 :: .bool a5 :: .int .i64 a6 :: .int .i64 a7 :: tl⟩, ⟨45, (m * 137), Y.flatMap ixc⟩, ⟨45, 0, .str (nm [109] m) :: .int .i64 a1 :: .int .i64 a2 :: .int .i64 a3 :: .int .i64 a4 :: .bool a5 :: .int .i64 (1000 + tn L b 9000) :: .int .i64 a7 :: (tm ++ [.slice ((EN (kk + 1)).flatMap enc) (kk + 1) false])⟩, ⟨89, (kk + 1) * 5 + 1, []⟩] by rw [hG.s3, hG.s2]; simp only [List.set_cons_succ, settm]) ?_
          (repeat refine PW.seq ?_); refine PW.rg rfl fun K hK => ?_; simp (maxSteps := 3000000) (disch := omega) only [go_sem, ↓reduceIte, reduceCtorEq, pappend, plen, hG.p1, hG.p2, hG.s1, lm, tkm, tk9, cm, List.length_append, List.all_append, hm4]; refine hK _ _ ?_; clear hK K
          (repeat refine PW.seq ?_); refine PW.rg rfl fun K hK => ?_; simp (maxSteps := 3000000) (disch := omega) only [go_sem, ↓reduceIte, reduceCtorEq, pappend, plen]; refine hK _ _ ?_; clear hK K
          have hY : Y.flatMap ixc ++ .str (nm [109] m) :: .int .i64 a1 :: .int .i64 a2 :: .int .i64 a3 :: .int .i64 a4 :: .bool a5 :: .int .i64 (1000 + tn L b 9000) :: .int .i64 a7 :: (tm ++ [.slice ((EN (kk + 1)).flatMap enc) (kk + 1) false]) = (X (m + 1)).1.flatMap ixc := by
            rw [hnew, List.flatMap_append, List.flatMap_cons, List.flatMap_nil, List.append_nil, hix]
          have e9 : m * 137 + (128 + 1 + 1 + 1 + 1 + 1 + 1 + 1 + 1 + 1) = (m + 1) * 137 := by omega
          have e8 : (X (m + 1)).2 = bb + 4 * (kk + 1) := by rw [hnew]
          simp only [hY, e9, ← e8]
          refine PL.view (Vs.trim (F1 := [(0, .ptr i 0 0), (3, .ptr H.length 0 0), (5, .msl (H.length + 1) ((m + 1) * 137) 0 (m + 1) 137 true), (6, .int .i64 ((m + 1 : Nat) : Int))]) (H1 := G (X (m + 1)).2 ++ [⟨39, 0, .int .i64 a1 :: .int .i64 a2 :: .int .i64 a3 :: .int .i64 a4 :: .bool a5 :: .int .i64 a6 :: .int .i64 a7 :: tl⟩, ⟨45, (m + 1) * 137, (X (m + 1)).1.flatMap ixc⟩]) (hG.hsc _ ?_) ?_ (List.append_assoc _ [_, _] [_, _]).symm ?_) (ih (3 - (m + 1)) (by omega) (m + 1) (by omega) rfl)
          · intro z hz x hx
            simp only [List.mem_cons, List.not_mem_nil, or_false] at hz
            rcases hz with rfl | rfl
            · exact hsc1 _ x hx
            · exact ixl_sc _ _ x hx
          · simp [hG.len]
          · rw [List.length_append, hG.len]
            simp only [List.length_cons, List.length_nil]
            exact ⟨.id (.ptr (by omega)), .id (.ptr (by omega)), .id (.msl (by omega)), .id (.int _ _), trivial⟩
        · have h4 : j < kk + 1 := by have := of_decide_eq_true h; omega
          have r4 := tn_range L (bb + 4 * j) 12 (by omega)
          have r5 := tn_range L (bb + 4 * j + 1) 12 (by omega)
          have r6 := tn_range L (bb + 4 * j + 2) 20 (by omega)
          have r7 := tn_range L (bb + 4 * j + 3) 15 (by omega)
          refine PW.skip ?_; (repeat refine PW.seq ?_); refine PW.block ?_
          (repeat refine PW.seq ?_); refine PW.rg rfl fun K hK => ?_; simp (maxSteps := 3000000) (disch := omega) only [go_sem, ↓reduceIte, reduceCtorEq, pappend, plen, is_get, is_len, hTl]; refine hK _ _ ?_; clear hK K
          (repeat refine PW.seq ?_); refine PW.rg rfl fun K hK => ?_; simp (maxSteps := 3000000) (disch := omega) only [go_sem, ↓reduceIte, reduceCtorEq, pappend, plen]
          refine VCx.call (next_ok L f (bb + 4 * j) 12 i _ (hG.get _ _) (by omega) (by omega)) rfl ?_; simp (maxSteps := 3000000) (disch := omega) only [go_sem, ↓reduceIte, reduceCtorEq, pappend, plen, hG.set]
          refine VCx.call (next_ok L f (bb + 4 * j + 1) 12 i _ (hG.get _ _) (by omega) (by omega)) rfl ?_; simp (maxSteps := 3000000) (disch := omega) only [go_sem, ↓reduceIte, reduceCtorEq, pappend, plen, hG.set]
          refine VCx.call (next_ok L f (bb + 4 * j + 2) 20 i _ (hG.get _ _) (by omega) (by omega)) rfl ?_; simp (maxSteps := 3000000) (disch := omega) only [go_sem, ↓reduceIte, reduceCtorEq, pappend, plen, hG.set, hG.len, hG.pn, hG.sn]
          refine hK _ _ ?_; clear hK K
          (repeat refine PW.seq ?_); refine PW.rg rfl fun K hK => ?_; simp (maxSteps := 3000000) (disch := omega) only [go_sem, ↓reduceIte, reduceCtorEq, pappend, plen, hG.set]; refine VCx.call (next_ok L f (bb + 4 * j + 3) 15 i _ (hG.get _ _) (by omega) (by omega)) rfl ?_; simp (maxSteps := 3000000) (disch := omega) only [go_sem, ↓reduceIte, reduceCtorEq, pappend, plen, hG.set]; refine hK _ _ ?_; clear hK K
          generalize hfl : (if tn L (bb + 4 * j + 3) 15 = 0 then (3 : Int) else 2) = fl
          refine PW.meet [0, 3, 5, 6, 7, 10, 37, 38, 39] [(0, .ptr i 0 0), (3, .ptr H.length 0 0), (5, .msl (H.length + 1) (m * 137) 0 m 137 true), (6, .int .i64 (m : Int)), (7, .ptr (H.length + 2) 0 0), (10, .ptr (H.length + 4) 0 0), (37, .slice (is TY) (kk + 1) false), (38, .int .i64 ((kk + 1 : Nat) : Int)), (39, .int .i64 (j : Int))] (G (bb + 4 * j + 4) ++ [⟨39, 0, .int .i64 a1 :: .int .i64 a2 :: .int .i64 a3 :: .int .i64 a4 :: .bool a5 :: .int .i64 a6 :: .int .i64 a7 :: tl⟩, ⟨45, (m * 137), Y.flatMap ixc⟩, ⟨45, 0, .str (nm [109] m) :: .int .i64 a1 :: .int .i64 a2 :: .int .i64 a3 :: .int .i64 a4 :: .bool a5 :: .int .i64 (1000 + tn L b 9000) :: .int .i64 a7 :: (tm ++ [.msl (H.length + 3) (j * 5) 0 j 5 true])⟩, ⟨89, (j * 5), (EN j).flatMap enc⟩, ⟨89, 0, [.int .i64 (intAt TY j), .bool (decide (tn L (bb + 4 * j) 12 > 0)), .int .i64 fl, .bool (decide (tn L (bb + 4 * j + 1) 12 > 0)), .bool (decide (tn L (bb + 4 * j + 2) 20 = 0))]⟩]) ?_ ?_
          · (repeat refine PW.seq ?_); refine PW.cond (t := _) rfl (fun h => ?_) (fun h => ?_)
            · have h6 : tn L (bb + 4 * j + 3) 15 = 0 := by simpa using h
              rw [if_pos h6] at hfl
              subst hfl
              (repeat refine PW.seq ?_); refine PW.rg rfl fun K hK => ?_; simp (maxSteps := 3000000) (disch := omega) only [go_sem, ↓reduceIte, reduceCtorEq, pappend, plen, hG.pn, hG.sn]; refine hK _ _ ?_; clear hK K
              exact ⟨rfl, rfl⟩
            · have h6 : tn L (bb + 4 * j + 3) 15 ≠ 0 := by simpa using h
              rw [if_neg h6] at hfl
              subst hfl
              exact PW.skip ⟨rfl, rfl⟩
          (repeat refine PW.seq ?_); refine PW.rg rfl fun K hK => ?_; simp (maxSteps := 3000000) (disch := omega) only [go_sem, ↓reduceIte, reduceCtorEq, pappend, plen, hG.pn, hG.sn, lm, tkm, settm, List.length_append, List.all_append, hel]; refine hK _ _ ?_; clear hK K
          (repeat refine PW.seq ?_); refine PW.rg rfl fun K hK => ?_; simp (maxSteps := 3000000) (disch := omega) only [go_sem, ↓reduceIte, reduceCtorEq, pappend, plen]; refine hK _ _ ?_; clear hK K
          have hE2 : (EN j).flatMap enc ++ [.int .i64 (intAt TY j), .bool (decide (tn L (bb + 4 * j) 12 > 0)), .int .i64 fl, .bool (decide (tn L (bb + 4 * j + 1) 12 > 0)), .bool (decide (tn L (bb + 4 * j + 2) 20 = 0))] = (EN (j + 1)).flatMap enc := by
            rw [hes, List.flatMap_append, List.flatMap_cons, List.flatMap_nil, List.append_nil, ← hfl]
            rfl
          simp only [gt_iff_lt] at hE2
          simp only [gt_iff_lt, hE2]
          have e9 : j * 5 + (0 + 1 + 1 + 1 + 1 + 1) = (j + 1) * 5 := by omega
          have e9' : j * 5 + 5 = (j + 1) * 5 := by omega
          have e8 : bb + 4 * j + 3 + 1 = bb + 4 * (j + 1) := by omega
          have e8' : bb + 4 * j + 4 = bb + 4 * (j + 1) := by omega
          simp only [e9, e9', e8, e8']
          refine PL.view (Vs.trim (F1 := [(0, .ptr i 0 0), (3, .ptr H.length 0 0), (5, .msl (H.length + 1) (m * 137) 0 m 137 true), (6, .int .i64 (m : Int)), (7, .ptr (H.length + 2) 0 0), (37, .slice (is TY) (kk + 1) false), (38, .int .i64 ((kk + 1 : Nat) : Int)), (39, .int .i64 ((j + 1 : Nat) : Int))]) (H1 := G (bb + 4 * (j + 1)) ++ [⟨39, 0, .int .i64 a1 :: .int .i64 a2 :: .int .i64 a3 :: .int .i64 a4 :: .bool a5 :: .int .i64 a6 :: .int .i64 a7 :: tl⟩, ⟨45, m * 137, Y.flatMap ixc⟩, ⟨45, 0, .str (nm [109] m) :: .int .i64 a1 :: .int .i64 a2 :: .int .i64 a3 :: .int .i64 a4 :: .bool a5 :: .int .i64 (1000 + tn L b 9000) :: .int .i64 a7 :: (tm ++ [.msl (H.length + 3) ((j + 1) * 5) 0 (j + 1) 5 true])⟩, ⟨89, (j + 1) * 5, (EN (j + 1)).flatMap enc⟩]) (hG.hsc _ ?_) ?_ (List.append_assoc _ [_, _, _, _] [_]).symm ?_) (ih2 (kk + 1 - (j + 1)) (by omega) (j + 1) (by omega) rfl)
          · intro z hz x hx
            simp only [List.mem_cons, List.not_mem_nil, or_false] at hz
            rcases hz with rfl | rfl | rfl | rfl
            · exact hsc1 _ x hx
            · exact ixl_sc _ _ x hx
            · simp only [List.mem_cons, List.mem_append, List.not_mem_nil, or_false] at hx
              rcases hx with rfl | rfl | rfl | rfl | rfl | rfl | rfl | rfl | hx | rfl
              · exact .str _
              · exact .int _ _
              · exact .int _ _
              · exact .int _ _
              · exact .int _ _
              · exact .bool _
              · exact .int _ _
              · exact .int _ _
              · exact sm _ _ hx
              · exact .msl (by simp)
            · exact enl_sc _ _ x hx
          · simp [hG.len]
          · rw [List.length_append, hG.len]
            simp only [List.length_cons, List.length_nil]
            exact ⟨.id (.ptr (by omega)), .id (.ptr (by omega)), .id (.msl (by omega)), .id (.int _ _), .id (.ptr (by omega)), .id (sl_scoped (is_scoped _ _)), .id (.int _ _), .id (.int _ _), trivial⟩

end Go.Proofs.Ytnjnikafhbholaa.Sc
