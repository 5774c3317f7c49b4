/-
  Parts of the proof, put together in one text. No condition.
-/
import Derived.Test.YtnjnikafhbholaaZ3
namespace Go.Proofs.Ytnjnikafhbholaa.Sc
set_option linter.all false
set_option linter.unusedVariables false
set_option linter.unusedSimpArgs false
open Pm Ty Go.RowKit

theorem TpH.pn {L : List Int} {f : Bool} {i : Nat} {H : Heap} {G : Nat → Heap} (h : TpH L f i H G) (a n : Nat) (K : Heap) : (G a ++ K)[H.length + n]? = K[n]? := by
  rw [List.getElem?_append_right (by rw [h.len]; omega), h.len]
  congr 1
  omega
theorem TpH.sn {L : List Int} {f : Bool} {i : Nat} {H : Heap} {G : Nat → Heap} (h : TpH L f i H G) (a n : Nat) (K : Heap) (x : Blk) : (G a ++ K).set (H.length + n) x = G a ++ K.set n x := by
  rw [List.set_append_right _ _ (by rw [h.len]; omega), h.len]
  congr 2
  omega
theorem TpH.hsc {L : List Int} {f : Bool} {i : Nat} {H : Heap} {G : Nat → Heap} (h : TpH L f i H G) (a : Nat) {K : Heap} (hK : ∀ b ∈ K, ∀ x ∈ b.cells, Scoped (H.length + K.length) x) (hH : HSc H) : HSc (G a ++ K) := fun id k hk x hx => by
  rw [List.length_append, h.len]
  rw [List.getElem?_append] at hk
  split at hk
  · rw [h.eq] at hk
    have := (HSc.set hH (id := i) (k := tb L f a) (tb_sc _)) id k hk x hx
    rw [List.length_set] at this
    exact this.mono (by omega)
  · exact hK k (List.mem_of_getElem? hk) x hx

theorem enc_sc (n : Nat) (e : En) : ∀ x ∈ enc e, Scoped n x := fun x hx => by
  simp only [enc, List.mem_cons, List.not_mem_nil, or_false] at hx
  rcases hx with rfl | rfl | rfl | rfl | rfl
  · exact .int _ _
  · exact .bool _
  · exact .int _ _
  · exact .bool _
  · exact .bool _
theorem enl_sc (n : Nat) (l : List En) : ∀ x ∈ l.flatMap enc, Scoped n x := fun x hx => by
  obtain ⟨e, _, h⟩ := List.mem_flatMap.1 hx
  exact enc_sc n e x h
theorem sqc_sc (n : Nat) (s : Sq) : ∀ x ∈ sqc s, Scoped n x := fun x hx => by
  simp only [sqc, List.mem_cons, List.mem_append] at hx
  rcases hx with rfl | rfl | rfl | rfl | rfl | rfl | rfl | h | h
  · exact .int _ _
  · exact .int _ _
  · exact .int _ _
  · exact .int _ _
  · exact .bool _
  · exact .int _ _
  · exact .int _ _
  · exact bs_scoped _ _ _ h
  · exact bs_scoped _ _ _ h
theorem ixc_sc (n : Nat) (e : Ix) : ∀ x ∈ ixc e, Scoped n x := fun x hx => by
  simp only [ixc, List.mem_cons, List.mem_append, List.not_mem_nil, or_false] at hx
  rcases hx with rfl | h | rfl
  · exact .str _
  · exact sqc_sc n _ x h
  · exact sl_scoped (enl_sc n _)
theorem ixl_sc (n : Nat) (l : List Ix) : ∀ x ∈ l.flatMap ixc, Scoped n x := fun x hx => by
  obtain ⟨e, _, h⟩ := List.mem_flatMap.1 hx
  exact ixc_sc n e x h

/-- An entry of an index: four numbers of the tape. -/
def en1 (L : List Int) (a : Nat) (t : Int) : En := ⟨t, decide (tn L a 12 > 0), if tn L (a + 3) 15 = 0 then 3 else 2, decide (tn L (a + 1) 12 > 0), decide (tn L (a + 2) 20 = 0)⟩
def enL (L : List Int) (a : Nat) (ts : List Int) : Nat → List En
  | 0 => []
  | j + 1 => enL L a ts j ++ [en1 L (a + 4 * j) (intAt ts j)]
theorem enL_len (L : List Int) (a : Nat) (ts : List Int) : ∀ j, (enL L a ts j).length = j
  | 0 => rfl
  | j + 1 => by simp [enL, enL_len L a ts j]
/-- An index. -/
def ixK (L : List Int) (a : Nat) : Nat := (tn L (a + 2) 14).toNat
def ixB (L : List Int) (a : Nat) : Nat := tyA L (a + 3) (ixK L a)
def ixQ (L : List Int) (s : Sq) (a : Nat) : Sq := { s with br := 1000 + tn L a 9000, ia := if tn L (a + 1) 6 = 0 then s.ia.set 3 17 else s.ia }
def ix1 (L : List Int) (s : Sq) (m a : Nat) : Ix := ⟨nm [109] m, ixQ L s a, enL L (ixB L a) (tyR L (a + 3) (ixK L a)) (ixK L a + 1), false⟩
def ixA (L : List Int) (a : Nat) : Nat := ixB L a + 4 * (ixK L a + 1)
def ixs (L : List Int) (s : Sq) (a : Nat) : Nat → List Ix × Nat
  | 0 => ([], a)
  | m + 1 => ((ixs L s a m).1 ++ [ix1 L s m (ixs L s a m).2], ixA L (ixs L s a m).2)
theorem ixK_lt (L : List Int) (a : Nat) : ixK L a ≤ 13 := by have := tn_range L (a + 2) 14 (by omega); unfold ixK; omega
theorem ixB_le (L : List Int) (a : Nat) : ixB L a ≤ a + 3 + ixK L a + 1 := by unfold ixB tyA; split <;> omega
theorem ixA_le (L : List Int) (a : Nat) : ixA L a ≤ a + 100 := by have := ixK_lt L a; have := ixB_le L a; unfold ixA; omega
theorem ixs_le (L : List Int) (s : Sq) (a : Nat) : ∀ m, (ixs L s a m).2 ≤ a + 100 * m
  | 0 => Nat.le_refl _
  | m + 1 => by have := ixs_le L s a m; have := ixA_le L (ixs L s a m).2; simp only [ixs]; omega
theorem ixs_len (L : List Int) (s : Sq) (a : Nat) : ∀ m, (ixs L s a m).1.length = m
  | 0 => rfl
  | m + 1 => by simp [ixs, ixs_len L s a m]
theorem bs_set3 (ia : List UInt8) (r : List PV) (h : ia.length = 64) : (bs ia ++ r).set 3 (.int .u8 17) = bs (ia.set 3 17) ++ r := by
  rw [List.set_append_left _ _ (by rw [length_bs]; omega)]
  congr 1
  simp [bs, List.map_set]

theorem ixc_len (x : Ix) (h : SqL x.sq) : (ixc x).length = 137 := by
  simp only [ixc, List.length_cons, List.length_append, sqc_len _ h, List.length_nil]
theorem ixl_len : ∀ (l : List Ix), (∀ x ∈ l, SqL x.sq) → (l.flatMap ixc).length = l.length * 137
  | [], _ => by simp
  | a :: r, h => by
    rw [List.flatMap_cons, List.length_append, ixc_len a (h a (by simp)), ixl_len r (fun x hx => h x (by simp [hx])), List.length_cons, Nat.succ_mul]
    omega
theorem ixQ_L (L : List Int) (s : Sq) (a : Nat) (h : SqL s) : SqL (ixQ L s a) := ⟨by unfold ixQ; dsimp only; split <;> simp [h.ia], h.ie⟩
theorem ixs_L (L : List Int) (s : Sq) (a : Nat) (h : SqL s) : ∀ m, ∀ x ∈ (ixs L s a m).1, SqL x.sq
  | 0, x, hx => by simp [ixs] at hx
  | m + 1, x, hx => by
    simp only [ixs, List.mem_append, List.mem_singleton] at hx
    rcases hx with hx | rfl
    · exact ixs_L L s a h m x hx
    · exact ixQ_L L s _ h

set_option maxHeartbeats 4000000 in
theorem indexes_ok (L : List Int) (f : Bool) (s : Sq) (a i : Nat) (H : Heap) (hi : H[i]? = some (tb L f a)) (ha : a ≤ 1000000) (hs : SqL s) :
    CallOk Try.prog 84 [.ptr i 0 0, .agg (sqc s)] H (.slice ((ixs L s a 3).1.flatMap ixc) 3 false) (H.set i (tb L f (ixs L s a 3).2)) := by
  obtain ⟨G, hG, hGa⟩ := tpH hi
  have hil : i < H.length := (List.getElem?_eq_some_iff.1 hi).1
  have hle := ixs_le L s a
  have hxl := ixs_len L s a
  have hxL := ixs_L L s a hs
  have hlen := fun m => ixl_len (ixs L s a m).1 (hxL m)
  have hstep : ∀ m, ixs L s a (m + 1) = ((ixs L s a m).1 ++ [ix1 L s m (ixs L s a m).2], ixA L (ixs L s a m).2) := fun m => rfl
  have h0 : ixs L s a 0 = ([], a) := rfl
  generalize ixs L s a = X at *
  obtain ⟨a1, a2, a3, a4, a5, a6, a7, p, q⟩ := s
  obtain ⟨h1, h2⟩ := hs
  dsimp only at h1 h2
  have c1 := bs_cells p q
  have l1 : (bs p ++ bs q).length = 128 := by rw [List.length_append, length_bs, length_bs]; omega
  have t1 := sq_all p q h1 h2
  have c3 := bs_cells (p.set 3 17) q
  have l3 : (bs (p.set 3 17) ++ bs q).length = 128 := by rw [List.length_append, length_bs, length_bs, List.length_set]; omega
  have t3 := sq_all (p.set 3 17) q (by rw [List.length_set]; exact h1) h2
  have hset := bs_set3 p (bs q) h1
  have hset2 : ∀ r, (bs p ++ bs q ++ r).set 3 (.int .u8 17) = bs (p.set 3 17) ++ bs q ++ r := fun r => by rw [List.append_assoc, bs_set3 p _ h1, List.append_assoc]
  have hsc1 := fun n => sqc_sc n ⟨a1, a2, a3, a4, a5, a6, a7, p, q⟩
  have s1 : ∀ n, ∀ x ∈ bs p ++ bs q, Scoped n x := fun n x hx => by
    rcases List.mem_append.1 hx with h | h <;> exact bs_scoped _ _ _ h
  have s3 : ∀ n, ∀ x ∈ bs (p.set 3 17) ++ bs q, Scoped n x := fun n x hx => by
    rcases List.mem_append.1 hx with h | h <;> exact bs_scoped _ _ _ h
  have hixc : ∀ m b, ixc (ix1 L ⟨a1, a2, a3, a4, a5, a6, a7, p, q⟩ m b) = .str (nm [109] m) :: .int .i64 a1 :: .int .i64 a2 :: .int .i64 a3 :: .int .i64 a4 :: .bool a5 :: .int .i64 (1000 + tn L b 9000) :: .int .i64 a7 :: ((if tn L (b + 1) 6 = 0 then bs (p.set 3 17) ++ bs q else bs p ++ bs q) ++ [.slice ((enL L (ixB L b) (tyR L (b + 3) (ixK L b)) (ixK L b + 1)).flatMap enc) (ixK L b + 1) false]) := fun m b => by
    simp only [ix1, ixc, ixQ, sqc, enL_len, List.cons_append]
    split <;> rfl
  simp only [sqc] at *
  generalize bs p ++ bs q = tl at *
  generalize bs (p.set 3 17) ++ bs q = tl3 at *
  refine CallOk.body (F0 := [(0, .ptr i 0 0), (1, .agg (.int .i64 a1 :: .int .i64 a2 :: .int .i64 a3 :: .int .i64 a4 :: .bool a5 :: .int .i64 a6 :: .int .i64 a7 :: tl))]) Try.func84 rfl Try.ntmps84 Try.results84 rfl (by kernel_rfl) rfl ?_
  refine PW.eq rfl hGa.symm ?_
  (repeat refine PW.seq ?_); refine PW.rg rfl fun K hK => ?_; simp (maxSteps := 3000000) (disch := omega) only [go_sem, ↓reduceIte, reduceCtorEq, pappend, plen, hG.len, c1]; refine hK _ _ ?_; clear hK K
  (repeat refine PW.seq ?_); refine PW.rg rfl fun K hK => ?_; simp (maxSteps := 3000000) (disch := omega) only [go_sem, ↓reduceIte, reduceCtorEq, pappend, plen]; refine hK _ _ ?_; clear hK K
  (repeat refine PW.seq ?_); refine PW.rg rfl fun K hK => ?_; simp (maxSteps := 3000000) (disch := omega) only [go_sem, ↓reduceIte, reduceCtorEq, pappend, plen]; refine hK _ _ ?_; clear hK K
  (repeat refine PW.seq ?_)
  refine PW.view (Vs.ghost 5 45 137 rfl) ?_
  (repeat refine PW.seq ?_); refine PW.block (PW.loop ?_)
  suffices hloop : ∀ m, m ≤ 3 → PL Try.prog _ _ [(0, .ptr i 0 0), (3, .ptr H.length 0 0), (5, .msl (H.length + 1) (m * 137) 0 m 137 true), (6, .int .i64 (m : Int))] (G (X m).2 ++ [⟨39, 0, .int .i64 a1 :: .int .i64 a2 :: .int .i64 a3 :: .int .i64 a4 :: .bool a5 :: .int .i64 a6 :: .int .i64 a7 :: tl⟩, ⟨45, (m * 137), (X m).1.flatMap ixc⟩]) _ by
    refine PL.at [0, 3, 5, 6] (hloop 0 (by omega)) ?_ ?_
    · simp (maxSteps := 3000000) (disch := omega) only [go_sem, ↓reduceIte, reduceCtorEq, pappend, plen, hG.len, List.length_append]; rfl
    · rw [h0]; simp
  intro m hm
  induction hd : 3 - m using Nat.strongRecOn generalizing m with
  | _ d ih =>
    refine PL.round ?_; (repeat refine PW.seq ?_); refine PW.rg rfl fun K hK => ?_; simp (maxSteps := 3000000) (disch := omega) only [go_sem, ↓reduceIte, reduceCtorEq, pappend, plen]; refine hK _ _ ?_; clear hK K
    (repeat refine PW.seq ?_); refine PW.cond (t := _) rfl (fun h => ?_) (fun h => ?_)
    rotate_left
    · have h3 : m = 3 := by have := of_decide_eq_false h; omega
      subst h3
      refine PW.exit ?_
      (repeat refine PW.seq ?_); refine PW.rg rfl fun K hK => ?_; simp (maxSteps := 3000000) (disch := omega) only [go_sem, ↓reduceIte, reduceCtorEq, pappend, plen]; refine hK _ _ ?_; clear hK K
      refine PW.ret ⟨_, rfl, ?_⟩
      refine hG.fin (Fz.mslC (e := 45) (xs := (X 3).1.flatMap ixc) (by omega) (hG.p1 _ _ _ _) (by rw [hlen, hxl]) (FzC.refl (ixl_sc _ _)))
    · have h3 : m < 3 := by have := of_decide_eq_true h; omega
      have r1 := tn_range L (X m).2 9000 (by omega)
      have r2 := tn_range L ((X m).2 + 1) 6 (by omega)
      have r3 := tn_range L ((X m).2 + 2) 14 (by omega)
      have hm3 := hle m
      have hm4 := hlen m
      rw [hxl] at hm4
      have hnew := hstep m
      generalize X m = xm at *
      obtain ⟨Y, b⟩ := xm
      dsimp only at *
      refine PW.skip ?_; (repeat refine PW.seq ?_); refine PW.block ?_
      (repeat refine PW.seq ?_); refine PW.rg rfl fun K hK => ?_; simp (maxSteps := 3000000) (disch := omega) only [go_sem, ↓reduceIte, reduceCtorEq, pappend, plen, w32s, hG.p0, hG.p2, hG.s2, l1, t1, c1, hG.len, List.length_append, List.all_append]; refine hK _ _ ?_; clear hK K
      (repeat refine PW.seq ?_); refine PW.rg rfl fun K hK => ?_; simp (maxSteps := 3000000) (disch := omega) only [go_sem, ↓reduceIte, reduceCtorEq, pappend, plen, hG.set, hG.p2, hG.s2, l1, List.length_append]; refine VCx.call (next_ok L f b 9000 i _ (hG.get _ _) (by omega) (by omega)) rfl ?_; simp (maxSteps := 3000000) (disch := omega) only [go_sem, ↓reduceIte, reduceCtorEq, pappend, plen, hG.set, hG.p2, hG.s2, l1, List.length_append]; refine hK _ _ ?_; clear hK K
      (repeat refine PW.seq ?_); refine PW.rg rfl fun K hK => ?_; simp (maxSteps := 3000000) (disch := omega) only [go_sem, ↓reduceIte, reduceCtorEq, pappend, plen, hG.set]; refine VCx.call (next_ok L f (b + 1) 6 i _ (hG.get _ _) (by omega) (by omega)) rfl ?_; simp (maxSteps := 3000000) (disch := omega) only [go_sem, ↓reduceIte, reduceCtorEq, pappend, plen, hG.set]; refine hK _ _ ?_; clear hK K
      have hnm : ([109, UInt8.ofNat (48 + m)] : List UInt8) = nm [109] m := by
        simp only [nm]; rw [show ((48 : Int) + (m : Int)).toNat = 48 + m by omega]; rfl
      generalize htm : (if tn L (b + 1) 6 = 0 then tl3 else tl) = tm
      have lm : tm.length = 128 := by subst htm; split <;> assumption
      have cm : tm.all PV.cell = true := by subst htm; split <;> assumption
      have settm : ∀ x y, (tm ++ [x]).set 128 y = tm ++ [y] := fun x y => by rw [← lm, List.set_append_right _ _ (Nat.le_refl _)]; simp
      have tkm : ∀ x : PV, (tm ++ [x])[128]? = some x := fun x => by rw [← lm]; simp
      have tk9 : ∀ x : PV, List.take 129 (tm ++ [x]) = tm ++ [x] := fun x => List.take_of_length_le (by simp [lm])
      have sm : ∀ n, ∀ x ∈ tm, Scoped n x := by subst htm; split <;> assumption
      refine PW.meet [0, 3, 5, 6, 7] [(0, .ptr i 0 0), (3, .ptr H.length 0 0), (5, .msl (H.length + 1) (m * 137) 0 m 137 true), (6, .int .i64 (m : Int)), (7, .ptr (H.length + 2) 0 0)] (G (b + 2) ++ [⟨39, 0, .int .i64 a1 :: .int .i64 a2 :: .int .i64 a3 :: .int .i64 a4 :: .bool a5 :: .int .i64 a6 :: .int .i64 a7 :: tl⟩, ⟨45, (m * 137), Y.flatMap ixc⟩, ⟨45, 0, .str (nm [109] m) :: .int .i64 a1 :: .int .i64 a2 :: .int .i64 a3 :: .int .i64 a4 :: .bool a5 :: .int .i64 (1000 + tn L b 9000) :: .int .i64 a7 :: (tm ++ [.slice [] 0 true])⟩]) ?_ ?_
      · (repeat refine PW.seq ?_); refine PW.cond (t := _) rfl (fun h => ?_) (fun h => ?_)
        · have h6 : tn L (b + 1) 6 = 0 := by simpa using h
          rw [if_pos h6] at htm
          subst htm
          (repeat refine PW.seq ?_); refine PW.rg rfl fun K hK => ?_; simp (maxSteps := 3000000) (disch := omega) only [go_sem, ↓reduceIte, reduceCtorEq, pappend, plen, hG.p2, hG.s2, l1, List.length_append, hset, hset2]; refine hK _ _ ?_; clear hK K
          refine ⟨rfl, ?_⟩
          simp only [hnm]
        · have h6 : tn L (b + 1) 6 ≠ 0 := by simpa using h
          rw [if_neg h6] at htm
          subst htm
          refine PW.skip ⟨rfl, ?_⟩
          simp only [hnm]
      have hk : tn L (b + 2) 14 = (ixK L b : Int) := by unfold ixK; omega
      have hkl := ixK_lt L b
      have hbl := ixB_le L b
      have hal := ixA_le L b
      have hTl := tyR_len L (b + 3) (ixK L b)
      have hA : ixA L b = ixB L b + 4 * (ixK L b + 1) := rfl
      have hB : tyA L (b + 3) (ixK L b) = ixB L b := rfl
      have hbf : b + 3 ≤ ixB L b := by unfold ixB tyA; split <;> omega
      have tok := fun K hK => types_ok L f (b + 3) (ixK L b) i K hK (by omega) (by omega)
      rw [hB] at tok
      have hen := enL_len L (ixB L b) (tyR L (b + 3) (ixK L b))
      have hel := fun j => fm_len enc 5 (fun _ => rfl) (enL L (ixB L b) (tyR L (b + 3) (ixK L b)) j)
      simp only [hen] at hel
      have hix := hixc m b
      rw [htm] at hix
      have hes : ∀ j, enL L (ixB L b) (tyR L (b + 3) (ixK L b)) (j + 1) = enL L (ixB L b) (tyR L (b + 3) (ixK L b)) j ++ [en1 L (ixB L b + 4 * j) (intAt (tyR L (b + 3) (ixK L b)) j)] := fun j => rfl
      have he0 : enL L (ixB L b) (tyR L (b + 3) (ixK L b)) 0 = [] := rfl
      generalize enL L (ixB L b) (tyR L (b + 3) (ixK L b)) = EN at *
      generalize tyR L (b + 3) (ixK L b) = TY at *
      rw [hA] at hnew hal
      generalize ixB L b = bb at *
      generalize ixK L b = kk at *
      have e1 : (1 : Int) + (kk : Int) = (kk : Int) + 1 := by omega
      (repeat refine PW.seq ?_); refine PW.rg rfl fun K hK => ?_; simp (maxSteps := 3000000) (disch := omega) only [go_sem, ↓reduceIte, reduceCtorEq, pappend, plen]
      refine VCx.call (next_ok L f (b + 2) 14 i _ (hG.get _ _) (by omega) (by omega)) rfl ?_; simp (maxSteps := 3000000) (disch := omega) only [go_sem, ↓reduceIte, reduceCtorEq, pappend, plen, hG.set, hk, e1]
      refine VCx.call (tok _ (hG.get _ _)) rfl ?_; simp (maxSteps := 3000000) (disch := omega) only [go_sem, ↓reduceIte, reduceCtorEq, pappend, plen, hG.set]
      refine hK _ _ ?_; clear hK K
      (repeat refine PW.seq ?_)
      refine PW.view (Vs.ghostH (id := H.length + 2) (j := 136) 89 5 (hG.p2 _ _ _ _ _) (show (tm ++ [_])[128]? = _ by rw [← lm]; simp)) ?_
      (repeat refine PW.seq ?_); refine PW.block (PW.loop ?_)
      suffices hin : ∀ j, j ≤ kk + 1 → PL Try.prog _ _ [(0, .ptr i 0 0), (3, .ptr H.length 0 0), (5, .msl (H.length + 1) (m * 137) 0 m 137 true), (6, .int .i64 (m : Int)), (7, .ptr (H.length + 2) 0 0), (37, .slice (is TY) (kk + 1) false), (38, .int .i64 ((kk + 1 : Nat) : Int)), (39, .int .i64 (j : Int))] (G (bb + 4 * j) ++ [⟨39, 0, .int .i64 a1 :: .int .i64 a2 :: .int .i64 a3 :: .int .i64 a4 :: .bool a5 :: .int .i64 a6 :: .int .i64 a7 :: tl⟩, ⟨45, (m * 137), Y.flatMap ixc⟩, ⟨45, 0, .str (nm [109] m) :: .int .i64 a1 :: .int .i64 a2 :: .int .i64 a3 :: .int .i64 a4 :: .bool a5 :: .int .i64 (1000 + tn L b 9000) :: .int .i64 a7 :: (tm ++ [.msl (H.length + 3) (j * 5) 0 j 5 true])⟩, ⟨89, (j * 5), (EN j).flatMap enc⟩]) _ by
        refine PL.at [0, 3, 5, 6, 7, 37, 38, 39] (hin 0 (by omega)) ?_ ?_
        · rfl
        · rw [hG.s2]
          simp only [List.set_cons_succ, settm, hG.len, he0, Nat.mul_zero, Nat.add_zero]
          simp [hG.len]
      intro j hj
      induction hd2 : kk + 1 - j using Nat.strongRecOn generalizing j with
      | _ d2 ih2 =>
        refine PL.round ?_; (repeat refine PW.seq ?_); refine PW.rg rfl fun K hK => ?_; simp (maxSteps := 3000000) (disch := omega) only [go_sem, ↓reduceIte, reduceCtorEq, pappend, plen]; refine hK _ _ ?_; clear hK K
        (repeat refine PW.seq ?_); refine PW.cond (t := _) rfl (fun h => ?_) (fun h => ?_)
        rotate_left
        · have h4 : j = kk + 1 := by have := of_decide_eq_false h; omega
          subst h4
          refine PW.exit ?_
          (repeat refine PW.seq ?_)
          refine PW.view (Vs.frzCell (id := H.length + 3) (id' := H.length + 2) (j := 136) (hG.p3 _ _ _ _ _ _) (hG.p2 _ _ _ _ _) (by omega) (show (tm ++ [_])[128]? = _ by rw [← lm]; simp; rfl) (hel _)) ?_
          refine PW.eq rfl (show _ = G (bb + 4 * (kk + 1)) ++ [⟨39, 0, .int .i64 a1 :: .int .i64 a2 :: .int .i64 a3 :: .int .i64 a4 :: .bool a5 :: .int .i64 a6 :: .int .i64 a7 :: tl⟩, ⟨45, (m * 137), Y.flatMap ixc⟩, ⟨45, 0, .str (nm [109] m) :: .int .i64 a1 :: .int .i64 a2 :: .int .i64 a3 :: .int .i64 a4 :: .bool a5 :: .int .i64 (1000 + tn L b 9000) :: .int .i64 a7 :: (tm ++ [.slice ((EN (kk + 1)).flatMap enc) (kk + 1) false])⟩, ⟨89, (kk + 1) * 5 + 1, []⟩] by rw [hG.s3, hG.s2]; simp only [List.set_cons_succ, settm]) ?_
          (repeat refine PW.seq ?_); refine PW.rg rfl fun K hK => ?_; simp (maxSteps := 3000000) (disch := omega) only [go_sem, ↓reduceIte, reduceCtorEq, pappend, plen, hG.p1, hG.p2, hG.s1, lm, tkm, tk9, cm, List.length_append, List.all_append, hm4]; refine hK _ _ ?_; clear hK K
          (repeat refine PW.seq ?_); refine PW.rg rfl fun K hK => ?_; simp (maxSteps := 3000000) (disch := omega) only [go_sem, ↓reduceIte, reduceCtorEq, pappend, plen]; refine hK _ _ ?_; clear hK K
          have hY : Y.flatMap ixc ++ .str (nm [109] m) :: .int .i64 a1 :: .int .i64 a2 :: .int .i64 a3 :: .int .i64 a4 :: .bool a5 :: .int .i64 (1000 + tn L b 9000) :: .int .i64 a7 :: (tm ++ [.slice ((EN (kk + 1)).flatMap enc) (kk + 1) false]) = (X (m + 1)).1.flatMap ixc := by
            rw [hnew, List.flatMap_append, List.flatMap_cons, List.flatMap_nil, List.append_nil, hix]
          have e9 : m * 137 + (128 + 1 + 1 + 1 + 1 + 1 + 1 + 1 + 1 + 1) = (m + 1) * 137 := by omega
          have e8 : (X (m + 1)).2 = bb + 4 * (kk + 1) := by rw [hnew]
          simp only [hY, e9, ← e8]
          refine PL.view (Vs.trim (F1 := [(0, .ptr i 0 0), (3, .ptr H.length 0 0), (5, .msl (H.length + 1) ((m + 1) * 137) 0 (m + 1) 137 true), (6, .int .i64 ((m + 1 : Nat) : Int))]) (H1 := G (X (m + 1)).2 ++ [⟨39, 0, .int .i64 a1 :: .int .i64 a2 :: .int .i64 a3 :: .int .i64 a4 :: .bool a5 :: .int .i64 a6 :: .int .i64 a7 :: tl⟩, ⟨45, (m + 1) * 137, (X (m + 1)).1.flatMap ixc⟩]) (hG.hsc _ ?_) ?_ (List.append_assoc _ [_, _] [_, _]).symm ?_) (ih (3 - (m + 1)) (by omega) (m + 1) (by omega) rfl)
          · intro z hz x hx
            simp only [List.mem_cons, List.not_mem_nil, or_false] at hz
            rcases hz with rfl | rfl
            · exact hsc1 _ x hx
            · exact ixl_sc _ _ x hx
          · simp [hG.len]
          · rw [List.length_append, hG.len]
            simp only [List.length_cons, List.length_nil]
            exact ⟨.id (.ptr (by omega)), .id (.ptr (by omega)), .id (.msl (by omega)), .id (.int _ _), trivial⟩
        · have h4 : j < kk + 1 := by have := of_decide_eq_true h; omega
          have r4 := tn_range L (bb + 4 * j) 12 (by omega)
          have r5 := tn_range L (bb + 4 * j + 1) 12 (by omega)
          have r6 := tn_range L (bb + 4 * j + 2) 20 (by omega)
          have r7 := tn_range L (bb + 4 * j + 3) 15 (by omega)
          refine PW.skip ?_; (repeat refine PW.seq ?_); refine PW.block ?_
          (repeat refine PW.seq ?_); refine PW.rg rfl fun K hK => ?_; simp (maxSteps := 3000000) (disch := omega) only [go_sem, ↓reduceIte, reduceCtorEq, pappend, plen, is_get, is_len, hTl]; refine hK _ _ ?_; clear hK K
          (repeat refine PW.seq ?_); refine PW.rg rfl fun K hK => ?_; simp (maxSteps := 3000000) (disch := omega) only [go_sem, ↓reduceIte, reduceCtorEq, pappend, plen]
          refine VCx.call (next_ok L f (bb + 4 * j) 12 i _ (hG.get _ _) (by omega) (by omega)) rfl ?_; simp (maxSteps := 3000000) (disch := omega) only [go_sem, ↓reduceIte, reduceCtorEq, pappend, plen, hG.set]
          refine VCx.call (next_ok L f (bb + 4 * j + 1) 12 i _ (hG.get _ _) (by omega) (by omega)) rfl ?_; simp (maxSteps := 3000000) (disch := omega) only [go_sem, ↓reduceIte, reduceCtorEq, pappend, plen, hG.set]
          refine VCx.call (next_ok L f (bb + 4 * j + 2) 20 i _ (hG.get _ _) (by omega) (by omega)) rfl ?_; simp (maxSteps := 3000000) (disch := omega) only [go_sem, ↓reduceIte, reduceCtorEq, pappend, plen, hG.set, hG.len, hG.pn, hG.sn]
          refine hK _ _ ?_; clear hK K
          (repeat refine PW.seq ?_); refine PW.rg rfl fun K hK => ?_; simp (maxSteps := 3000000) (disch := omega) only [go_sem, ↓reduceIte, reduceCtorEq, pappend, plen, hG.set]; refine VCx.call (next_ok L f (bb + 4 * j + 3) 15 i _ (hG.get _ _) (by omega) (by omega)) rfl ?_; simp (maxSteps := 3000000) (disch := omega) only [go_sem, ↓reduceIte, reduceCtorEq, pappend, plen, hG.set]; refine hK _ _ ?_; clear hK K
          generalize hfl : (if tn L (bb + 4 * j + 3) 15 = 0 then (3 : Int) else 2) = fl
          refine PW.meet [0, 3, 5, 6, 7, 10, 37, 38, 39] [(0, .ptr i 0 0), (3, .ptr H.length 0 0), (5, .msl (H.length + 1) (m * 137) 0 m 137 true), (6, .int .i64 (m : Int)), (7, .ptr (H.length + 2) 0 0), (10, .ptr (H.length + 4) 0 0), (37, .slice (is TY) (kk + 1) false), (38, .int .i64 ((kk + 1 : Nat) : Int)), (39, .int .i64 (j : Int))] (G (bb + 4 * j + 4) ++ [⟨39, 0, .int .i64 a1 :: .int .i64 a2 :: .int .i64 a3 :: .int .i64 a4 :: .bool a5 :: .int .i64 a6 :: .int .i64 a7 :: tl⟩, ⟨45, (m * 137), Y.flatMap ixc⟩, ⟨45, 0, .str (nm [109] m) :: .int .i64 a1 :: .int .i64 a2 :: .int .i64 a3 :: .int .i64 a4 :: .bool a5 :: .int .i64 (1000 + tn L b 9000) :: .int .i64 a7 :: (tm ++ [.msl (H.length + 3) (j * 5) 0 j 5 true])⟩, ⟨89, (j * 5), (EN j).flatMap enc⟩, ⟨89, 0, [.int .i64 (intAt TY j), .bool (decide (tn L (bb + 4 * j) 12 > 0)), .int .i64 fl, .bool (decide (tn L (bb + 4 * j + 1) 12 > 0)), .bool (decide (tn L (bb + 4 * j + 2) 20 = 0))]⟩]) ?_ ?_
          · (repeat refine PW.seq ?_); refine PW.cond (t := _) rfl (fun h => ?_) (fun h => ?_)
            · have h6 : tn L (bb + 4 * j + 3) 15 = 0 := by simpa using h
              rw [if_pos h6] at hfl
              subst hfl
              (repeat refine PW.seq ?_); refine PW.rg rfl fun K hK => ?_; simp (maxSteps := 3000000) (disch := omega) only [go_sem, ↓reduceIte, reduceCtorEq, pappend, plen, hG.pn, hG.sn]; refine hK _ _ ?_; clear hK K
              exact ⟨rfl, rfl⟩
            · have h6 : tn L (bb + 4 * j + 3) 15 ≠ 0 := by simpa using h
              rw [if_neg h6] at hfl
              subst hfl
              exact PW.skip ⟨rfl, rfl⟩
          (repeat refine PW.seq ?_); refine PW.rg rfl fun K hK => ?_; simp (maxSteps := 3000000) (disch := omega) only [go_sem, ↓reduceIte, reduceCtorEq, pappend, plen, hG.pn, hG.sn, lm, tkm, settm, List.length_append, List.all_append, hel]; refine hK _ _ ?_; clear hK K
          (repeat refine PW.seq ?_); refine PW.rg rfl fun K hK => ?_; simp (maxSteps := 3000000) (disch := omega) only [go_sem, ↓reduceIte, reduceCtorEq, pappend, plen]; refine hK _ _ ?_; clear hK K
          have hE2 : (EN j).flatMap enc ++ [.int .i64 (intAt TY j), .bool (decide (tn L (bb + 4 * j) 12 > 0)), .int .i64 fl, .bool (decide (tn L (bb + 4 * j + 1) 12 > 0)), .bool (decide (tn L (bb + 4 * j + 2) 20 = 0))] = (EN (j + 1)).flatMap enc := by
            rw [hes, List.flatMap_append, List.flatMap_cons, List.flatMap_nil, List.append_nil, ← hfl]
            rfl
          simp only [gt_iff_lt] at hE2
          simp only [gt_iff_lt, hE2]
          have e9 : j * 5 + (0 + 1 + 1 + 1 + 1 + 1) = (j + 1) * 5 := by omega
          have e9' : j * 5 + 5 = (j + 1) * 5 := by omega
          have e8 : bb + 4 * j + 3 + 1 = bb + 4 * (j + 1) := by omega
          have e8' : bb + 4 * j + 4 = bb + 4 * (j + 1) := by omega
          simp only [e9, e9', e8, e8']
          refine PL.view (Vs.trim (F1 := [(0, .ptr i 0 0), (3, .ptr H.length 0 0), (5, .msl (H.length + 1) (m * 137) 0 m 137 true), (6, .int .i64 (m : Int)), (7, .ptr (H.length + 2) 0 0), (37, .slice (is TY) (kk + 1) false), (38, .int .i64 ((kk + 1 : Nat) : Int)), (39, .int .i64 ((j + 1 : Nat) : Int))]) (H1 := G (bb + 4 * (j + 1)) ++ [⟨39, 0, .int .i64 a1 :: .int .i64 a2 :: .int .i64 a3 :: .int .i64 a4 :: .bool a5 :: .int .i64 a6 :: .int .i64 a7 :: tl⟩, ⟨45, m * 137, Y.flatMap ixc⟩, ⟨45, 0, .str (nm [109] m) :: .int .i64 a1 :: .int .i64 a2 :: .int .i64 a3 :: .int .i64 a4 :: .bool a5 :: .int .i64 (1000 + tn L b 9000) :: .int .i64 a7 :: (tm ++ [.msl (H.length + 3) ((j + 1) * 5) 0 (j + 1) 5 true])⟩, ⟨89, (j + 1) * 5, (EN (j + 1)).flatMap enc⟩]) (hG.hsc _ ?_) ?_ (List.append_assoc _ [_, _, _, _] [_]).symm ?_) (ih2 (kk + 1 - (j + 1)) (by omega) (j + 1) (by omega) rfl)
          · intro z hz x hx
            simp only [List.mem_cons, List.not_mem_nil, or_false] at hz
            rcases hz with rfl | rfl | rfl | rfl
            · exact hsc1 _ x hx
            · exact ixl_sc _ _ x hx
            · simp only [List.mem_cons, List.mem_append, List.not_mem_nil, or_false] at hx
              rcases hx with rfl | rfl | rfl | rfl | rfl | rfl | rfl | rfl | hx | rfl
              · exact .str _
              · exact .int _ _
              · exact .int _ _
              · exact .int _ _
              · exact .int _ _
              · exact .bool _
              · exact .int _ _
              · exact .int _ _
              · exact sm _ _ hx
              · exact .msl (by simp)
            · exact enl_sc _ _ x hx
          · simp [hG.len]
          · rw [List.length_append, hG.len]
            simp only [List.length_cons, List.length_nil]
            exact ⟨.id (.ptr (by omega)), .id (.ptr (by omega)), .id (.msl (by omega)), .id (.int _ _), .id (.ptr (by omega)), .id (sl_scoped (is_scoped _ _)), .id (.int _ _), .id (.int _ _), trivial⟩

end Go.Proofs.Ytnjnikafhbholaa.Sc

namespace Go.Proofs.Ytnjnikafhbholaa.Sc
set_option linter.all false
set_option linter.unusedVariables false
set_option linter.unusedSimpArgs false
open Pm Ty Go.RowKit

/-- An expression: what a frame of a film shows. -/
structure Ex where
  op : Int
  m : List UInt8
  fr : Int
  x3 : Int
  x4 : Int
  x5 : Int
  x6 : List UInt8
  xs : List PV
  n : Nat
  g : Bool
def exc (e : Ex) : List PV := [.int .i64 e.op, .str e.m, .int .i64 e.fr, .int .i64 e.x3, .int .i64 e.x4, .int .i64 e.x5, .str e.x6, .slice e.xs e.n e.g]
structure ExOk (e : Ex) : Prop where
  sc : ∀ k, Scoped k (.slice e.xs e.n e.g)
  src : e.op = 1 → e.x3 = 0 ∧ e.x4 = 0 ∧ e.x5 = 0 ∧ e.x6 = [] ∧ e.xs = [] ∧ e.n = 0 ∧ e.g = true ∧ 0 ≤ e.fr ∧ e.fr < 100
def ex0 : Ex := ⟨0, [], 0, 0, 0, 0, [], [], 0, true⟩
def exD (c : List PV) : Ex := match c with
  | [.int .i64 op, .str m, .int .i64 fr, .int .i64 x3, .int .i64 x4, .int .i64 x5, .str x6, .slice xs n g] => ⟨op, m, fr, x3, x4, x5, x6, xs, n, g⟩
  | _ => ex0
theorem exD_ok {c : List PV} (h : exOk c) : exc (exD c) = c ∧ ExOk (exD c) := by
  obtain ⟨op, m, fr, x3, x4, x5, x6, xs, n, g, rfl, h1, h2⟩ := h
  exact ⟨rfl, h1, h2⟩
theorem exc_sc (n : Nat) (e : Ex) (h : ExOk e) : ∀ x ∈ exc e, Scoped n x := fun x hx => by
  simp only [exc, List.mem_cons, List.not_mem_nil, or_false] at hx
  rcases hx with rfl | rfl | rfl | rfl | rfl | rfl | rfl | rfl
  · exact .int _ _
  · exact .str _
  · exact .int _ _
  · exact .int _ _
  · exact .int _ _
  · exact .int _ _
  · exact .str _
  · exact h.sc n
theorem exl_sc (n : Nat) (l : List Ex) (h : ∀ e ∈ l, ExOk e) : ∀ x ∈ l.flatMap exc, Scoped n x := fun x hx => by
  obtain ⟨e, he, hx⟩ := List.mem_flatMap.1 hx
  exact exc_sc n e (h e he) x hx
theorem exl_len (l : List Ex) : (l.flatMap exc).length = l.length * 8 := fm_len exc 8 (fun _ => rfl) l

def src (m : Int) (fr : Int) : Ex := ⟨1, nm [109] m, fr, 0, 0, 0, [], [], 0, true⟩
theorem src_ok (m fr : Int) (h : 0 ≤ fr ∧ fr < 100) : ExOk (src m fr) := ⟨fun k => sl_scoped (by simp [src]), fun _ => ⟨rfl, rfl, rfl, rfl, rfl, rfl, rfl, h.1, h.2⟩⟩
def srcs (m fr : Int) : Nat → List Ex
  | 0 => []
  | n + 1 => srcs m fr n ++ [src m (fr + n)]
theorem srcs_len (m fr : Int) : ∀ n, (srcs m fr n).length = n
  | 0 => rfl
  | n + 1 => by simp [srcs, srcs_len m fr n]
theorem srcs_ok (m fr : Int) (h : 0 ≤ fr) : ∀ n : Nat, fr + n ≤ 100 → ∀ e ∈ srcs m fr n, ExOk e
  | 0, _, e, he => by simp [srcs] at he
  | n + 1, hn, e, he => by
    simp only [srcs, List.mem_append, List.mem_singleton] at he
    rcases he with he | rfl
    · exact srcs_ok m fr h n (by omega) e he
    · exact src_ok _ _ (by omega)
/-- One more run, or one more frame. -/
def seg (L : List Int) (a : Nat) : List Ex × Nat := if tn L a 4 = 0 then ([exD (exP L 2 (a + 1)).1], (exP L 2 (a + 1)).2) else (srcs (tn L (a + 1) 3) (tn L (a + 2) 9) ((tn L (a + 3) 10).toNat + 1), a + 4)
def segs (L : List Int) (a : Nat) : Nat → List Ex × Nat
  | 0 => ([], a)
  | k + 1 => ((segs L a k).1 ++ (seg L (segs L a k).2).1, (seg L (segs L a k).2).2)
theorem seg_ok (L : List Int) (a : Nat) : (∀ e ∈ (seg L a).1, ExOk e) ∧ (seg L a).2 ≤ a + 100 ∧ (seg L a).1.length ≤ 10 := by
  unfold seg
  split
  · have h := exP_ok L 2 (a + 1)
    refine ⟨fun e he => ?_, ?_, ?_⟩
    · simp only [List.mem_singleton] at he
      rw [he]; exact (exD_ok h.1).2
    · have := h.2.1; dsimp only; omega
    · simp
  · have h1 := tn_range L (a + 2) 9 (by omega)
    have h2 := tn_range L (a + 3) 10 (by omega)
    refine ⟨srcs_ok _ _ h1.1 _ (by omega), by dsimp only; omega, ?_⟩
    dsimp only
    rw [srcs_len]
    omega
theorem segs_ok (L : List Int) (a : Nat) : ∀ k, (∀ e ∈ (segs L a k).1, ExOk e) ∧ (segs L a k).2 ≤ a + 100 * k ∧ (segs L a k).1.length ≤ 10 * k
  | 0 => ⟨fun e he => by simp [segs] at he, Nat.le_refl _, Nat.le_refl _⟩
  | k + 1 => by
    obtain ⟨h1, h2, h3⟩ := segs_ok L a k
    obtain ⟨g1, g2, g3⟩ := seg_ok L (segs L a k).2
    refine ⟨fun e he => ?_, ?_, ?_⟩
    · simp only [segs, List.mem_append] at he
      rcases he with he | he
      · exact h1 e he
      · exact g1 e he
    · simp only [segs]; omega
    · simp only [segs, List.length_append]; omega

/-- A film. -/
structure Fl where
  s : Sq
  top : Bool
  ex : List Ex
  me : List Ix
def flc (f : Fl) : List PV := sqc f.s ++ [.bool f.top, .slice (f.ex.flatMap exc) f.ex.length false, .slice (f.me.flatMap ixc) f.me.length false]
def hdS (il : Bool) (h : Int) : Sq := ⟨16, h, 25, 1, il, 400000, 100000, List.replicate 64 16, List.replicate 64 16⟩
theorem hdr_eq : hdr = sqc (hdS false 16) := by
  unfold hdr sqc hdS bs
  simp only [List.map_replicate, List.replicate_append_replicate]
  rfl
theorem hdS_L (il : Bool) (h : Int) : SqL (hdS il h) := ⟨rfl, rfl⟩
def flS (L : List Int) : Sq := hdS (decide (tn L 1 3 = 0)) 32
def flX (L : List Int) : List Ix × Nat := ixs L (flS L) 2 3
def flK (L : List Int) : Nat := (tn L (flX L).2 6).toNat
/-- The film of a tape. -/
def flm (L : List Int) : Fl := ⟨flS L, decide (tn L 0 4 > 0), (segs L ((flX L).2 + 1) (flK L)).1, (flX L).1⟩

def filmZ : List PV := [.int .i64 0, .int .i64 0, .int .i64 0, .int .i64 0, .bool false, .int .i64 0, .int .i64 0] ++ List.replicate 128 (.int .u8 0) ++ [.bool false, .slice [] 0 true, .slice [] 0 true]
def hdT : List PV := bs (List.replicate 64 16) ++ bs (List.replicate 64 16)
theorem hd16 (b : Bool) : sqc (hdS b 16) = .int .i64 16 :: .int .i64 16 :: .int .i64 25 :: .int .i64 1 :: .bool b :: .int .i64 400000 :: .int .i64 100000 :: hdT := rfl
theorem hd32 (b : Bool) : sqc (hdS b 32) = .int .i64 16 :: .int .i64 32 :: .int .i64 25 :: .int .i64 1 :: .bool b :: .int .i64 400000 :: .int .i64 100000 :: hdT := rfl
theorem hdT_c : hdT.all PV.cell = true := bs_cells _ _
theorem hdT_l : hdT.length = 128 := by unfold hdT; rw [List.length_append, length_bs, List.length_replicate]
theorem hdT_t : hdT.take 128 = hdT := sq_all _ _ List.length_replicate List.length_replicate
theorem hdT_s (n : Nat) : ∀ x ∈ hdT, Scoped n x := fun x hx => by
  rcases List.mem_append.1 hx with h | h <;> exact bs_scoped _ _ _ h
theorem header16 (K : Heap) : CallOk Try.prog 83 [] K (.agg (.int .i64 16 :: .int .i64 16 :: .int .i64 25 :: .int .i64 1 :: .bool false :: .int .i64 400000 :: .int .i64 100000 :: hdT)) K := by
  have := header_ok K
  rwa [hdr_eq, hd16] at this
theorem flc_eq (L : List Int) : flc (flm L) = .int .i64 16 :: .int .i64 32 :: .int .i64 25 :: .int .i64 1 :: .bool (decide (tn L 1 3 = 0)) :: .int .i64 400000 :: .int .i64 100000 :: (hdT ++ [.bool (decide (tn L 0 4 > 0)), .slice ((segs L ((flX L).2 + 1) (flK L)).1.flatMap exc) (segs L ((flX L).2 + 1) (flK L)).1.length false, .slice ((flX L).1.flatMap ixc) 3 false]) := by
  have hxlen : (flX L).1.length = 3 := ixs_len L (flS L) 2 3
  unfold flc flm
  dsimp only
  rw [show sqc (flS L) = _ from hd32 _, hxlen]
  rfl
theorem indexes32 (L : List Int) (f : Bool) (i : Nat) (K : Heap) (h : K[i]? = some (tb L f 2)) : CallOk Try.prog 84 [.ptr i 0 0, .agg (.int .i64 16 :: .int .i64 32 :: .int .i64 25 :: .int .i64 1 :: .bool (decide (tn L 1 3 = 0)) :: .int .i64 400000 :: .int .i64 100000 :: hdT)] K (.slice ((flX L).1.flatMap ixc) 3 false) (K.set i (tb L f (flX L).2)) := by
  have := indexes_ok L f (flS L) 2 i K h (by omega) (hdS_L _ _)
  rwa [show sqc (flS L) = _ from hd32 _] at this

set_option maxHeartbeats 4000000 in
theorem made_ok (L : List Int) (f : Bool) (H : Heap) : CallOk Try.prog 27 [.slice (is L) L.length f] H (.agg (flc (flm L))) H := by
  have hho := header16
  have ixo := indexes32 L f
  have hxle : (flX L).2 ≤ 302 := ixs_le L (flS L) 2 3
  have r0 := tn_range L 0 4 (by omega)
  have r1 := tn_range L 1 3 (by omega)
  have r2 := tn_range L (flX L).2 6 (by omega)
  have hkk : tn L (flX L).2 6 = (flK L : Int) := by unfold flK; omega
  rw [flc_eq]
  have c1 := hdT_c
  have l1 := hdT_l
  have t1 := hdT_t
  have s1 := hdT_s
  generalize hdT = tl at *
  have hsg := segs_ok L ((flX L).2 + 1)
  have hss : ∀ k, segs L ((flX L).2 + 1) (k + 1) = ((segs L ((flX L).2 + 1) k).1 ++ (seg L (segs L ((flX L).2 + 1) k).2).1, (seg L (segs L ((flX L).2 + 1) k).2).2) := fun _ => rfl
  have hS0 : segs L ((flX L).2 + 1) 0 = ([], (flX L).2 + 1) := rfl
  generalize segs L ((flX L).2 + 1) = S at *
  have hM := ixl_sc 0 (flX L).1
  have hMs : ∀ n, ∀ x ∈ (flX L).1.flatMap ixc, Scoped n x := fun n => ixl_sc n _
  generalize (flX L).1.flatMap ixc = M at *
  generalize (flX L).2 = a0 at *
  generalize flK L = kk at *
  have tk2 : ∀ r, List.take 128 (tl ++ r) = tl := fun r => by rw [← l1]; exact List.take_left
  have g0 : ∀ x y z : PV, (tl ++ [x, y, z])[128]? = some x := fun x y z => by rw [← l1]; simp
  have g1 : ∀ x y z : PV, (tl ++ [x, y, z])[129]? = some y := fun x y z => by rw [List.getElem?_append_right (by omega), l1]; rfl
  have g2 : ∀ x y z : PV, (tl ++ [x, y, z])[130]? = some z := fun x y z => by rw [List.getElem?_append_right (by omega), l1]; rfl
  have e1 : ∀ x y z w : PV, (tl ++ [x, y, z]).set 129 w = tl ++ [x, w, z] := fun x y z w => by rw [List.set_append_right _ _ (by omega), l1]; rfl
  have e2 : ∀ x y z w : PV, (tl ++ [x, y, z]).set 130 w = tl ++ [x, y, w] := fun x y z w => by rw [List.set_append_right _ _ (by omega), l1]; rfl
  have dr9 : ∀ x y z : PV, List.drop 129 (tl ++ [x, y, z]) = [y, z] := fun x y z => by rw [List.drop_append, List.drop_of_length_le (by omega), l1]; rfl
  have tka : ∀ x y z : PV, List.take 131 (tl ++ [x, y, z]) = tl ++ [x, y, z] := fun x y z => List.take_of_length_le (by simp [l1])
  refine CallOk.body (F0 := [(0, .slice (is L) L.length f)]) Try.func27 rfl Try.ntmps27 Try.results27 rfl (by kernel_rfl) rfl ?_
  (repeat refine PW.seq ?_); refine PW.rg rfl fun K hK => ?_; simp (maxSteps := 3000000) (disch := omega) only [go_sem, ↓reduceIte, reduceCtorEq, pappend, plen]; refine hK _ _ ?_; clear hK K
  (repeat refine PW.seq ?_); refine PW.rg rfl fun K hK => ?_; simp (maxSteps := 3000000) (disch := omega) only [go_sem, ↓reduceIte, reduceCtorEq, pappend, plen]; refine hK _ _ ?_; clear hK K
  (repeat refine PW.seq ?_); refine PW.rg rfl fun K hK => ?_; simp (maxSteps := 3000000) (disch := omega) only [go_sem, ↓reduceIte, reduceCtorEq, pappend, plen]
  refine VCx.call (hho _) rfl ?_; simp (maxSteps := 3000000) (disch := omega) only [go_sem, ↓reduceIte, reduceCtorEq, pappend, plen]
  refine VCx.call (next_ok L f 0 4 (H.length + 1) _ (hp1 _ _ _ _) (by omega) (by omega)) rfl ?_; simp (maxSteps := 3000000) (disch := omega) only [go_sem, ↓reduceIte, reduceCtorEq, pappend, plen, c1, l1, tk2, dr9, List.length_append, List.all_append]
  refine hK _ _ ?_; clear hK K
  (repeat refine PW.seq ?_); refine PW.rg rfl fun K hK => ?_; simp (maxSteps := 3000000) (disch := omega) only [go_sem, ↓reduceIte, reduceCtorEq, pappend, plen, l1, List.length_append]; refine VCx.call (next_ok L f 1 3 (H.length + 1) _ (hp1 _ _ _ _) (by omega) (by omega)) rfl ?_; simp (maxSteps := 3000000) (disch := omega) only [go_sem, ↓reduceIte, reduceCtorEq, pappend, plen, l1, List.length_append]; refine hK _ _ ?_; clear hK K
  have hq3 : (tn L 1 3 == 0) = decide (tn L 1 3 = 0) := by rw [Bool.eq_iff_iff]; simp
  (repeat refine PW.seq ?_); refine PW.rg rfl fun K hK => ?_; simp (maxSteps := 3000000) (disch := omega) only [go_sem, ↓reduceIte, reduceCtorEq, pappend, plen, hq3, l1, tk2, e2, hp2, hs2, List.length_append]; refine VCx.call (ixo (H.length + 1) _ (hp1 _ _ _ _)) rfl ?_; simp (maxSteps := 3000000) (disch := omega) only [go_sem, ↓reduceIte, reduceCtorEq, pappend, plen, hq3, l1, tk2, e2, hp2, hs2, List.length_append]; refine hK _ _ ?_; clear hK K
  (repeat refine PW.seq ?_); refine PW.rg rfl fun K hK => ?_; simp (maxSteps := 3000000) (disch := omega) only [go_sem, ↓reduceIte, reduceCtorEq, pappend, plen, hkk]; refine VCx.call (next_ok L f a0 6 (H.length + 1) _ (hp1 _ _ _ _) (by omega) (by omega)) rfl ?_; simp (maxSteps := 3000000) (disch := omega) only [go_sem, ↓reduceIte, reduceCtorEq, pappend, plen, hkk]; refine hK _ _ ?_; clear hK K
  (repeat refine PW.seq ?_)
  refine PW.view (Vs.ghostH (id := H.length + 2) (j := 136) 81 8 (hp2 _ _ _ _ _) (show (tl ++ [_, _, _])[129]? = _ by rw [g1])) ?_
  (repeat refine PW.seq ?_); refine PW.block (PW.loop ?_)
  suffices hloop : ∀ j, j ≤ kk → PL Try.prog _ _ [(2, .ptr H.length 0 0), (3, .ptr (H.length + 1) 0 0), (4, .ptr (H.length + 2) 0 0), (5, .int .i64 ((kk : Int) - (j : Int)))] (H ++ [⟨50, 0, filmZ⟩, tb L f (S j).2, ⟨50, 0, .int .i64 16 :: .int .i64 32 :: .int .i64 25 :: .int .i64 1 :: .bool (decide (tn L 1 3 = 0)) :: .int .i64 400000 :: .int .i64 100000 :: (tl ++ [.bool (decide (0 < tn L 0 4)), .msl (H.length + 3) ((S j).1.length * 8) 0 (S j).1.length 8 true, .slice M 3 false])⟩, ⟨81, (S j).1.length * 8, (S j).1.flatMap exc⟩]) _ by
    refine PL.at [2, 3, 4, 5] (hloop 0 (by omega)) ?_ ?_
    · simp (maxSteps := 3000000) (disch := omega) only [go_sem, ↓reduceIte, reduceCtorEq, pappend, plen]
      simp
    · rw [hs2, hS0]
      simp only [List.set_cons_succ, e1, Nat.zero_mul, List.flatMap_nil, List.length_nil]
      simp [filmZ]
  intro j hj
  induction hd : kk - j using Nat.strongRecOn generalizing j with
  | _ d ih =>
    obtain ⟨q1, q2, q3⟩ := hsg j
    have hel := exl_len (S j).1
    refine PL.round ?_; (repeat refine PW.seq ?_); refine PW.rg rfl fun K hK => ?_; simp (maxSteps := 3000000) (disch := omega) only [go_sem, ↓reduceIte, reduceCtorEq, pappend, plen]; refine hK _ _ ?_; clear hK K
    (repeat refine PW.seq ?_); refine PW.cond (t := _) rfl (fun h => ?_) (fun h => ?_)
    rotate_left
    · have h4 : j = kk := by have := of_decide_eq_false h; omega
      subst h4
      refine PW.exit ?_
      (repeat refine PW.seq ?_)
      refine PW.view (Vs.frzCell (id := H.length + 3) (id' := H.length + 2) (j := 136) (hp3 _ _ _ _ _ _) (hp2 _ _ _ _ _) (by omega) (show (tl ++ [_, _, _])[129]? = _ by rw [g1]) hel) ?_
      refine PW.eq rfl (show _ = H ++ [⟨50, 0, filmZ⟩, tb L f (S j).2, ⟨50, 0, .int .i64 16 :: .int .i64 32 :: .int .i64 25 :: .int .i64 1 :: .bool (decide (tn L 1 3 = 0)) :: .int .i64 400000 :: .int .i64 100000 :: (tl ++ [.bool (decide (0 < tn L 0 4)), .slice ((S j).1.flatMap exc) (S j).1.length false, .slice M 3 false])⟩, ⟨81, (S j).1.length * 8 + 1, []⟩] by rw [hs3, hs2]; simp only [List.set_cons_succ, e1]) ?_
      (repeat refine PW.seq ?_); refine PW.rg rfl fun K hK => ?_; simp (maxSteps := 3000000) (disch := omega) only [go_sem, ↓reduceIte, reduceCtorEq, pappend, plen, hp2, hp0, hs0, l1, tka, c1, List.length_append, List.all_append, filmZ, List.length_replicate]; refine hK _ _ ?_; clear hK K
      refine PW.ret ⟨.agg (.int .i64 16 :: .int .i64 32 :: .int .i64 25 :: .int .i64 1 :: .bool (decide (tn L 1 3 = 0)) :: .int .i64 400000 :: .int .i64 100000 :: (tl ++ [.bool (decide (0 < tn L 0 4)), .slice ((S j).1.flatMap exc) (S j).1.length false, .slice M 3 false])), by simp (maxSteps := 3000000) (disch := omega) only [go_sem, ↓reduceIte, reduceCtorEq, pappend, plen, presults, presult, List.mapM_cons, List.mapM_nil, Option.pure_def, Option.bind_eq_bind, Option.bind_some, Array.toList, hp0, tka, l1, c1, List.length_append, List.all_append], ?_⟩
      refine Fin.base (.id (ag_scoped fun x hx => ?_))
      simp only [List.mem_cons, List.mem_append, List.not_mem_nil, or_false] at hx
      rcases hx with rfl | rfl | rfl | rfl | rfl | rfl | rfl | hx | rfl | rfl | rfl
      · exact .int _ _
      · exact .int _ _
      · exact .int _ _
      · exact .int _ _
      · exact .bool _
      · exact .int _ _
      · exact .int _ _
      · exact s1 _ _ hx
      · exact .bool _
      · exact sl_scoped (exl_sc _ _ q1)
      · exact sl_scoped (hMs _)
    · have h4 : j < kk := by have := of_decide_eq_true h; omega
      have hnew := hss j
      have hj1 := hsg (j + 1)
      have hsge := seg_ok L (S j).2
      have hseg : seg L (S j).2 = _ := rfl
      rw [hseg] at hnew
      unfold seg at hnew
      refine PW.skip ?_; (repeat refine PW.seq ?_); refine PW.block ?_
      have r3 := tn_range L (S j).2 4 (by omega)
      (repeat refine PW.seq ?_); refine PW.rg rfl fun K hK => ?_; simp (maxSteps := 3000000) (disch := omega) only [go_sem, ↓reduceIte, reduceCtorEq, pappend, plen]; refine VCx.call (next_ok L f (S j).2 4 (H.length + 1) _ (hp1 _ _ _ _) (by omega) (by omega)) rfl ?_; simp (maxSteps := 3000000) (disch := omega) only [go_sem, ↓reduceIte, reduceCtorEq, pappend, plen]; refine hK _ _ ?_; clear hK K
      (repeat refine PW.seq ?_); refine PW.cond (t := _) rfl (fun h => ?_) (fun h => ?_)
      · have h5 : tn L (S j).2 4 = 0 := by simpa using h
        rw [if_pos h5] at hnew
        have hP := exP_ok L 2 ((S j).2 + 1)
        have hD := exD_ok hP.1
        have xo := expr2 L f ((S j).2 + 1)
        rw [← hD.1] at xo
        simp only [exc] at xo
        (repeat refine PW.seq ?_); refine PW.drawi [H.length + 1, H.length + 3, H.length + 2] [(42, [0]), (41, [1]), (45, [1]), (4, [2]), (40, [2]), (46, [2])] [] [] mix (by kernel_rfl) (by simp <;> omega) fun K hK => ?_
        simp (maxSteps := 3000000) (disch := omega) only [go_sem, ↓reduceIte, reduceCtorEq, pappend, plen, hp1, hp2, hp3, g1, l1, List.length_append]
        refine VCj.wr1 (hp1 _ _ _ _) (fun _ hL _ => xo _ _ hL (by omega)) (by simp (maxSteps := 3000000) (disch := omega) only [go_sem, ↓reduceIte, reduceCtorEq, pappend, plen]) (.inl rfl) rfl ?_
        simp (maxSteps := 3000000) (disch := omega) only [go_sem, ↓reduceIte, reduceCtorEq, pappend, plen, hp1, hp2, hp3, hs1, hs2, hs3, g1, e1, l1, hel, List.length_append]
        refine hK _ _ ?_; clear hK K
        refine PW.exit ?_
        (repeat refine PW.seq ?_); refine PW.rg rfl fun K hK => ?_; simp (maxSteps := 3000000) (disch := omega) only [go_sem, ↓reduceIte, reduceCtorEq, pappend, plen]; refine hK _ _ ?_; clear hK K
        have e8 : (S (j + 1)).1.flatMap exc = (S j).1.flatMap exc ++ exc (exD (exP L 2 ((S j).2 + 1)).1) := by rw [hnew]; simp
        have e9 : (S (j + 1)).1.length = (S j).1.length + 1 := by rw [hnew]; simp
        have e7 : (S (j + 1)).2 = (exP L 2 ((S j).2 + 1)).2 := by rw [hnew]
        refine PL.at [2, 3, 4, 5] (ih (kk - (j + 1)) (by omega) (j + 1) (by omega) rfl) ?_ ?_
        · simp (maxSteps := 3000000) (disch := omega) only [go_sem, ↓reduceIte, reduceCtorEq, pappend, plen]
          simp; omega
        · rw [e8, e9, e7]
          simp [exc, Nat.add_mul]
      · have h5 : tn L (S j).2 4 ≠ 0 := by simpa using h
        rw [if_neg h5] at hnew
        have r4 := tn_range L ((S j).2 + 1) 3 (by omega)
        have r5 := tn_range L ((S j).2 + 2) 9 (by omega)
        have r6 := tn_range L ((S j).2 + 3) 10 (by omega)
        refine PW.skip ?_
        (repeat refine PW.seq ?_); refine PW.rg rfl fun K hK => ?_; simp (maxSteps := 3000000) (disch := omega) only [go_sem, ↓reduceIte, reduceCtorEq, pappend, plen]
        refine VCx.call (next_ok L f ((S j).2 + 1) 3 (H.length + 1) _ (hp1 _ _ _ _) (by omega) (by omega)) rfl ?_; simp (maxSteps := 3000000) (disch := omega) only [go_sem, ↓reduceIte, reduceCtorEq, pappend, plen]
        refine VCx.call (next_ok L f ((S j).2 + 2) 9 (H.length + 1) _ (hp1 _ _ _ _) (by omega) (by omega)) rfl ?_; simp (maxSteps := 3000000) (disch := omega) only [go_sem, ↓reduceIte, reduceCtorEq, pappend, plen]
        refine hK _ _ ?_; clear hK K
        (repeat refine PW.seq ?_); refine PW.rg rfl fun K hK => ?_; simp (maxSteps := 3000000) (disch := omega) only [go_sem, ↓reduceIte, reduceCtorEq, pappend, plen]; refine VCx.call (next_ok L f ((S j).2 + 3) 10 (H.length + 1) _ (hp1 _ _ _ _) (by omega) (by omega)) rfl ?_; simp (maxSteps := 3000000) (disch := omega) only [go_sem, ↓reduceIte, reduceCtorEq, pappend, plen]; refine hK _ _ ?_; clear hK K
        obtain ⟨nn, hnn⟩ : ∃ nn : Nat, tn L ((S j).2 + 3) 10 = nn := ⟨(tn L ((S j).2 + 3) 10).toNat, by omega⟩
        rw [hnn] at hnew r6
        rw [Int.toNat_natCast] at hnew
        rw [hnn]
        (repeat refine PW.seq ?_); refine PW.block (PW.loop ?_)
        suffices hin : ∀ n, n ≤ nn + 1 → PL Try.prog _ _ [(2, .ptr H.length 0 0), (3, .ptr (H.length + 1) 0 0), (4, .ptr (H.length + 2) 0 0), (5, .int .i64 ((kk : Int) - (j : Int))), (6, .int .i64 (tn L ((S j).2 + 1) 3)), (7, .int .i64 (tn L ((S j).2 + 2) 9 + (n : Int))), (8, .int .i64 ((nn : Int) - (n : Int)))] (H ++ [⟨50, 0, filmZ⟩, tb L f ((S j).2 + 4), ⟨50, 0, .int .i64 16 :: .int .i64 32 :: .int .i64 25 :: .int .i64 1 :: .bool (decide (tn L 1 3 = 0)) :: .int .i64 400000 :: .int .i64 100000 :: (tl ++ [.bool (decide (0 < tn L 0 4)), .msl (H.length + 3) (((S j).1.length + n) * 8) 0 ((S j).1.length + n) 8 true, .slice M 3 false])⟩, ⟨81, ((S j).1.length + n) * 8, ((S j).1 ++ srcs (tn L ((S j).2 + 1) 3) (tn L ((S j).2 + 2) 9) n).flatMap exc⟩]) _ by
          refine PL.at [2, 3, 4, 5, 6, 7, 8] (hin 0 (by omega)) ?_ ?_
          · simp (maxSteps := 3000000) (disch := omega) only [go_sem, ↓reduceIte, reduceCtorEq, pappend, plen]
            simp
          · simp [srcs]
        intro n hn
        induction hd2 : nn + 1 - n using Nat.strongRecOn generalizing n with
        | _ d2 ih2 =>
          have hel2 := exl_len ((S j).1 ++ srcs (tn L ((S j).2 + 1) 3) (tn L ((S j).2 + 2) 9) n)
          rw [List.length_append, srcs_len] at hel2
          refine PL.round ?_; (repeat refine PW.seq ?_); refine PW.rg rfl fun K hK => ?_; simp (maxSteps := 3000000) (disch := omega) only [go_sem, ↓reduceIte, reduceCtorEq, pappend, plen]; refine hK _ _ ?_; clear hK K
          (repeat refine PW.seq ?_); refine PW.cond (t := _) rfl (fun h => ?_) (fun h => ?_)
          rotate_left
          · have h6 : n = nn + 1 := by have := of_decide_eq_false h; omega
            subst h6
            refine PW.exit ?_
            (repeat refine PW.seq ?_); refine PW.rg rfl fun K hK => ?_; simp (maxSteps := 3000000) (disch := omega) only [go_sem, ↓reduceIte, reduceCtorEq, pappend, plen]; refine hK _ _ ?_; clear hK K
            have e8 : (S (j + 1)).1.flatMap exc = ((S j).1 ++ srcs (tn L ((S j).2 + 1) 3) (tn L ((S j).2 + 2) 9) (nn + 1)).flatMap exc := by rw [hnew]
            have e9 : (S (j + 1)).1.length = (S j).1.length + (nn + 1) := by rw [hnew]; simp [srcs_len]
            have e7 : (S (j + 1)).2 = (S j).2 + 4 := by rw [hnew]
            refine PL.at [2, 3, 4, 5] (ih (kk - (j + 1)) (by omega) (j + 1) (by omega) rfl) ?_ ?_
            · simp (maxSteps := 3000000) (disch := omega) only [go_sem, ↓reduceIte, reduceCtorEq, pappend, plen]
              simp; omega
            · rw [e8, e9, e7]
          · have h6 : n < nn + 1 := by have := of_decide_eq_true h; omega
            refine PW.skip ?_; (repeat refine PW.seq ?_); refine PW.block ?_
            (repeat refine PW.seq ?_); refine PW.rg rfl fun K hK => ?_; simp (maxSteps := 3000000) (disch := omega) only [go_sem, ↓reduceIte, reduceCtorEq, pappend, plen, w32s, hp2, hp3, hs2, hs3, g1, e1, l1, hel2, List.length_append]; refine hK _ _ ?_; clear hK K
            (repeat refine PW.seq ?_); refine PW.rg rfl fun K hK => ?_; simp (maxSteps := 3000000) (disch := omega) only [go_sem, ↓reduceIte, reduceCtorEq, pappend, plen]; refine hK _ _ ?_; clear hK K
            (repeat refine PW.seq ?_); refine PW.rg rfl fun K hK => ?_; simp (maxSteps := 3000000) (disch := omega) only [go_sem, ↓reduceIte, reduceCtorEq, pappend, plen]; refine hK _ _ ?_; clear hK K
            have e8 : ((S j).1 ++ srcs (tn L ((S j).2 + 1) 3) (tn L ((S j).2 + 2) 9) (n + 1)).flatMap exc = ((S j).1 ++ srcs (tn L ((S j).2 + 1) 3) (tn L ((S j).2 + 2) 9) n).flatMap exc ++ exc (src (tn L ((S j).2 + 1) 3) (tn L ((S j).2 + 2) 9 + n)) := by simp [srcs]
            refine PL.at [2, 3, 4, 5, 6, 7, 8] (ih2 (nn + 1 - (n + 1)) (by omega) (n + 1) (by omega) rfl) ?_ ?_
            · simp (maxSteps := 3000000) (disch := omega) only [go_sem, ↓reduceIte, reduceCtorEq, pappend, plen]
              simp; omega
            · rw [e8]
              simp [exc, src, nm]
              omega

end Go.Proofs.Ytnjnikafhbholaa.Sc

namespace Go.Proofs.Ytnjnikafhbholaa.Pm
set_option linter.all false
set_option linter.unusedVariables false
set_option linter.unusedSimpArgs false
open Go.RowKit

variable {P : Program} {C : Ctx} {H : Heap} {w : World} {F : Fr} {a : Act} {N : Nat}

noncomputable def opE (P : Program) (n : Nat) (ds : List (Option Nat)) (o : Oper) (F : Fr) (H : Heap) : Option (Fr × Heap) :=
  match isCall o.op with
  | false => stp P ds o F H
  | true => match asked ds F o with
    | some true => match pcallee o.op (slot F) with
      | some (g, args) => match evalN P n (.call g args H) with
        | some (.val v H1) => some (put F o.dst v, H1)
        | _ => none
      | none => none
    | some false => some (put F o.dst (.tup []), H)
    | none => none
theorem opE_sound {n : Nat} {all : List Oper} {o : Oper} {F1 : Fr} {H1 : Heap} (h : opE P n (all.map (·.dst)) o F H = some (F1, H1)) :
    (want all (slot F) o = some false ∧ F1 = put F o.dst (.tup []) ∧ H1 = H) ∨ (want all (slot F) o = some true ∧ ∃ v, Exec P o (slot F) H v H1 ∧ F1 = put F o.dst v) := by
  have hcl : isCall o.op = false → pcallee o.op (slot F) = none := fun hc => by
    unfold pcallee
    split
    · rename_i f args ts ho; rw [ho] at hc; simp [isCall] at hc
    · rfl
  unfold opE at h
  split at h
  · rename_i hc
    unfold stp at h
    split at h
    · rename_i hb
      split at h
      · rename_i v H' hp
        simp only [Option.some.injEq, Prod.mk.injEq] at h
        obtain ⟨rfl, rfl⟩ := h
        exact .inr ⟨asked_want all F o hb, v, by unfold Exec; rw [hcl hc]; exact hp, rfl⟩
      · cases h
    · rename_i hb
      simp only [Option.some.injEq, Prod.mk.injEq] at h
      obtain ⟨rfl, rfl⟩ := h
      exact .inl ⟨asked_want all F o hb, rfl, rfl⟩
    · cases h
  · split at h
    · rename_i hb
      split at h
      · rename_i g args hp
        split at h
        · rename_i v H' he
          simp only [Option.some.injEq, Prod.mk.injEq] at h
          obtain ⟨rfl, rfl⟩ := h
          exact .inr ⟨asked_want all F o hb, v, by unfold Exec; rw [hp]; exact evalN_good n _ _ he, rfl⟩
        · cases h
      · cases h
    · rename_i hb
      simp only [Option.some.injEq, Prod.mk.injEq] at h
      obtain ⟨rfl, rfl⟩ := h
      exact .inl ⟨asked_want all F o hb, rfl, rfl⟩
    · cases h

def collect {α : Type} (g : Nat → Option (List α)) : List Nat → Option (List α)
  | [] => some []
  | i :: r => match g i with
    | some x => match collect g r with
      | some y => some (x ++ y)
      | none => none
    | none => none
theorem collect_mem {α : Type} {g : Nat → Option (List α)} : ∀ {l : List Nat} {L : List α}, collect g l = some L → ∀ i ∈ l, ∃ x, g i = some x ∧ ∀ y ∈ x, y ∈ L
  | [], L, _, i, hi => by cases hi
  | j :: r, L, h, i, hi => by
    simp only [collect] at h
    split at h
    · rename_i x hx
      split at h
      · rename_i y hy
        injection h with h
        subst h
        rcases List.mem_cons.1 hi with rfl | hi
        · exact ⟨x, hx, fun z hz => List.mem_append.2 (.inl hz)⟩
        · obtain ⟨x', h1, h2⟩ := collect_mem hy i hi
          exact ⟨x', h1, fun z hz => List.mem_append.2 (.inr (h2 z hz))⟩
      · cases h
    · cases h

noncomputable def anyE (P : Program) (n N : Nat) (ops : Array Oper) : Nat → Array Bool → Fr → Heap → Option (List (Fr × Heap))
  | 0, listed, F, H => match Region.ready .any ops listed with | [] => some [(F, H)] | _ => none
  | k + 1, listed, F, H => match Region.ready .any ops listed with
    | [] => some [(F, H)]
    | r => collect (fun i => match ops[i]? with
      | some o => match dstOk N o with
        | true => match opE P n (ops.toList.map (·.dst)) o F H with
          | some (F1, H1) => anyE P n N ops k (listed.setIfInBounds i true) F1 H1
          | none => none
        | false => none
      | none => none) r

theorem anyE_sound {n : Nat} {ops : Array Oper} {Q : Exit → Act → World → Prop} : ∀ (k : Nat) (listed : Array Bool) (F : Fr) (H : Heap) (L : List (Fr × Heap)), anyE P n N ops k listed F H = some L → ∀ (C : Ctx) (a : Act) (w : World), a.defers = [] → WRel C H w → FRel C N (slot F) a →
    (∀ C' F' H' a' w', CLe C C' → a'.defers = [] → WRel C' H' w' → Below C.B w w' → FRel C' N (slot F') a' → (F', H') ∈ L → Q .normal a' w') → wpAny P .any ops Q k listed a w
  | 0, listed, F, H, L, h, C, a, w, hd, hw, hf, hQ => by
    simp only [anyE] at h
    split at h
    · rename_i hr
      injection h with h
      subst h
      exact ⟨hr, hQ C F H a w (.refl _) hd hw (.refl _ _) hf (by simp)⟩
    · cases h
  | k + 1, listed, F, H, L, h, C, a, w, hd, hw, hf, hQ => by
    simp only [anyE] at h
    split at h
    · rename_i hr
      injection h with h
      subst h
      exact ⟨fun _ => hQ C F H a w (.refl _) hd hw (.refl _ _) hf (by simp), fun i hi => by rw [hr] at hi; cases hi⟩
    · rename_i hne
      refine ⟨fun e => absurd e hne, fun i hi => ?_⟩
      obtain ⟨x, hx, hsub⟩ := collect_mem h i hi
      split at hx
      · rename_i o ho
        split at hx
        · rename_i hdst
          split at hx
          · rename_i F1 H1 hop
            unfold wpOp
            rw [ho]
            simp only
            have next : ∀ C' u w' v, F1 = put F o.dst v → CLe C C' → WRel C' H1 w' → Below C.B w w' → FRel C' N (upd (slot F) o.dst v) (a.put o.dst u) → wpAny P .any ops Q k (listed.setIfInBounds i true) (a.put o.dst u) w' := by
              intro C' u w' v hF1 q1 q2 q3 q4
              refine anyE_sound k _ F1 H1 x hx C' _ w' (by cases hod : o.dst <;> simp [Act.put, hd]) q2 (by rw [hF1, get_put]; exact q4) ?_
              intro C'' F'' H'' a'' w'' p1 p2 p3 p4 p5 p6
              exact hQ C'' F'' H'' a'' w'' (q1.trans p1) p2 p3 (q3.trans (by rw [← q1.B]; exact p4)) p5 (hsub _ p6)
            rcases opE_sound hop with ⟨h1, h2, h3⟩ | ⟨h1, v, h2, h3⟩
            · have hwant := want_sound hf h1
              rw [Array.toArray_toList] at hwant
              rw [if_neg (by rw [hwant]; simp)]
              exact next C _ w (.tup []) h2 (.refl _) (h3 ▸ hw) (.refl _ _) (hf.put o.dst (dstOk_of hdst) VRel.undefV)
            · have hwant := want_sound hf h1
              rw [Array.toArray_toList] at hwant
              rw [if_pos hwant]
              left
              exact exec_sound hdst hw hf h2 _ _ (fun C' u w' q1 q2 q3 q4 => next C' u w' v h3 q1 q2 q3 q4)
          · cases hx
        · cases hx
      · cases hx

theorem PW.any {E : Env} {Q : Exit → Fr → Heap → Prop} {id n : Nat} {ops : Array Oper} {L : List (Fr × Heap)} (hm : P.follows .mixedOrders = true) (h : anyE P n E.N ops ops.size (Array.replicate ops.size false) F H = some L) (hQ : ∀ F' H', (F', H') ∈ L → Q .normal F' H') :
    PW P E (.region id ops true) F H Q := fun hs C a w hdf hw hf => by
  refine wp_region_any hm ?_
  refine anyE_sound ops.size _ F H L h C a w.drew hdf hw.drew hf ?_
  rintro C' F' H' a' w' p1 p2 p3 p4 p5 p6
  exact ⟨C', F', H', p1.toN _, p2, p3, ((Below.refl C.B w).drew).trans p4, p5, hQ F' H' p6⟩

/-! ### a function with such regions -/
def eqFr : Fr → Fr → Bool := eqL fun x y => Nat.beq x.1 y.1 && eqb 20 x.2 y.2
def hasSt (s : Fr × Heap) : List (Fr × Heap) → Bool
  | [] => false
  | t :: r => match eqFr s.1 t.1 && eqH s.2 t.2 with | true => true | false => hasSt s r
def dedup (N : Nat) : List (Fr × Heap) → List (Fr × Heap)
  | [] => []
  | (F, H) :: r => match hasSt (kp (List.range N) F, H) (dedup N r) with
    | true => dedup N r
    | false => (kp (List.range N) F, H) :: dedup N r
theorem hasSt_mem {s : Fr × Heap} : ∀ {L : List (Fr × Heap)}, hasSt s L = true → s ∈ L
  | t :: r, h => by
    simp only [hasSt] at h
    split at h
    · rename_i he
      simp only [Bool.and_eq_true] at he
      have e1 : s.1 = t.1 := eqL_sound (fun x y hxy => by
        simp only [Bool.and_eq_true] at hxy
        exact Prod.ext (Nat.eq_of_beq_eq_true hxy.1) (eqb_sound 20 _ _ hxy.2)) he.1
      have e2 : s.2 = t.2 := eqH_sound he.2
      rw [show s = t from Prod.ext e1 e2]
      exact List.mem_cons_self ..
    · exact List.mem_cons_of_mem _ (hasSt_mem h)
theorem dedup_mem {N : Nat} : ∀ {L : List (Fr × Heap)} {F : Fr} {H : Heap}, (F, H) ∈ L → (kp (List.range N) F, H) ∈ dedup N L
  | (F', H') :: r, F, H, h => by
    simp only [dedup]
    split
    · rename_i hs
      rcases List.mem_cons.1 h with h | h
      · injection h with h1 h2; subst h1 h2; exact hasSt_mem hs
      · exact dedup_mem h
    · rcases List.mem_cons.1 h with h | h
      · injection h with h1 h2; subst h1 h2; exact List.mem_cons_self ..
      · exact List.mem_cons_of_mem _ (dedup_mem h)

/-- Do all the ends of the code give true? -/
noncomputable def endsT (P : Program) (n N : Nat) (rs : List ResultVar) : Code → Fr → Heap → Bool
  | .seq x y, F, H => match x with
    | .region _ ops true => match drawOk N ops.toList with
      | true => (match evalN P n (.code N x F H) with
        | some (.code .normal F1 H1) => endsT P n N rs y F1 H1
        | _ => false)
      | false => match P.follows .mixedOrders, anyE P n N ops ops.size (Array.replicate ops.size false) F H with
        | true, some L => (dedup N L).all fun s => endsT P n N rs y s.1 s.2
        | _, _ => false
    | x => match evalN P n (.code N x F H) with
      | some (.code .normal F1 H1) => endsT P n N rs y F1 H1
      | _ => false
  | c, F, H => match evalN P n (.code N c F H) with
    | some (.code e F1 H1) => (match e with | .ret => true | .normal => true | _ => false) && (match presults P rs (slot F1) H1 with | some (.bool true) => true | _ => false)
    | _ => false

theorem endsT_sound {n : Nat} {rs : List ResultVar} (H0 : Heap) : ∀ (c : Code) (F : Fr) (H : Heap), endsT P n N rs c F H = true → PW P ⟨N, H0⟩ c F H (retQ P rs (fun v _ => v = .bool true)) := by
  have last : ∀ (c : Code) (F : Fr) (H : Heap), (match evalN P n (.code N c F H) with
    | some (.code e F1 H1) => (match e with | .ret => true | .normal => true | _ => false) && (match presults P rs (slot F1) H1 with | some (.bool true) => true | _ => false)
    | _ => false) = true → PW P ⟨N, H0⟩ c F H (retQ P rs (fun v _ => v = .bool true)) := fun c F H h => by
    split at h
    · rename_i e F1 H1 he
      simp only [Bool.and_eq_true] at h
      have hg := evalN_good n _ _ he H0
      refine hg.mono fun e' F' H' hq => ?_
      obtain ⟨rfl, rfl, rfl⟩ := hq
      have hp : presults P rs (slot F') H' = some (.bool true) := by
        have := h.2
        split at this
        · assumption
        · cases this
      cases e' with
      | ret => exact ⟨_, hp, rfl⟩
      | normal => exact ⟨_, hp, rfl⟩
      | _ => exact absurd h.1 (by simp)
    · cases h
  have one : ∀ (x y : Code) (F : Fr) (H : Heap), (∀ F H, endsT P n N rs y F H = true → PW P ⟨N, H0⟩ y F H (retQ P rs (fun v _ => v = .bool true))) → (match evalN P n (.code N x F H) with
      | some (.code .normal F1 H1) => endsT P n N rs y F1 H1
      | _ => false) = true → PW P ⟨N, H0⟩ (.seq x y) F H (retQ P rs (fun v _ => v = .bool true)) := fun x y F H ih h => by
    split at h
    · rename_i F1 H1 he
      have hg := evalN_good n _ _ he H0
      exact PW.seq (hg.mono fun e' F' H' hq => by obtain ⟨rfl, rfl, rfl⟩ := hq; exact ih _ _ h)
    · cases h
  intro c
  induction c with
  | seq x y _ ihy =>
    intro F H h
    unfold endsT at h
    split at h
    · rename_i id ops
      split at h
      · exact one _ y F H ihy h
      · split at h
        · rename_i L hm hL
          refine PW.seq (PW.any hm hL fun F' H' hmem => ?_)
          have := List.all_eq_true.1 h _ (dedup_mem (N := N) hmem)
          exact PW.keep (List.range N) (ihy _ _ this)
        · cases h
    · exact one _ y F H ihy h
  | _ =>
    intro F H h
    unfold endsT at h
    exact last _ _ _ h

noncomputable def callT (P : Program) (n : Nat) (f : FuncId) : Bool := match P.funcs[f]? with
  | some fn => match fn.body with
    | some c => callable P f && endsT P n fn.ntmps fn.results.toList c [] []
    | none => false
  | none => false
/-- ████ A function without arguments gives true, whatever the orders. ████ -/
theorem CallOk.anyT (n : Nat) {f : FuncId} (h : callT P n f = true) : CallOk P f [] H (.bool true) H := by
  unfold callT at h
  split at h
  · rename_i fn hf
    split at h
    · rename_i c hb
      simp only [Bool.and_eq_true] at h
      have : CallOk P f [] [] (.bool true) [] := by
        refine CallOk.body hf hb rfl rfl rfl h.1 (by rfl) ((endsT_sound [] c [] [] h.2).mono fun e F' H' hq => ?_)
        cases e with
        | ret => obtain ⟨v, h1, rfl⟩ := hq; exact ⟨_, h1, by have := Fin.base (H := []) (K := H') (v := .bool true) (v' := .bool true) (.id (.bool true)); simpa using this⟩
        | normal => obtain ⟨v, h1, rfl⟩ := hq; exact ⟨_, h1, by have := Fin.base (H := []) (K := H') (v := .bool true) (v' := .bool true) (.id (.bool true)); simpa using this⟩
        | _ => exact hq
      exact this.frame (fun x hx => by cases hx)
    · cases h
  · cases h

end Go.Proofs.Ytnjnikafhbholaa.Pm

namespace Go.Proofs.Ytnjnikafhbholaa.Sc
set_option linter.all false
set_option linter.unusedVariables false
set_option linter.unusedSimpArgs false
open Pm Ty Go.RowKit

theorem awake31 (H : Heap) : CallOk Try.prog 32 [] H (.bool true) H := CallOk.anyT 100000 (by kernel_rfl)

end Go.Proofs.Ytnjnikafhbholaa.Sc

namespace Go.Proofs.Ytnjnikafhbholaa.Sc
set_option linter.all false
set_option linter.unusedVariables false
set_option linter.unusedSimpArgs false
open Pm Ty Go.RowKit

theorem pand_15 (n : Int) : ∃ v, pint .and .i64 n .i64 15 = some (.int .i64 v) := ⟨_, rfl⟩
theorem sqc_c (s : Sq) : (sqc s).all PV.cell = true := by
  simp only [sqc, List.all_cons, bs_cells]; rfl
theorem ixc_c (x : Ix) : (ixc x).all PV.cell = true := by
  simp only [ixc, List.all_cons, List.all_append, sqc_c]; rfl
theorem flc_c (f : Fl) : (flc f).all PV.cell = true := by
  simp only [flc, List.all_append, sqc_c]; rfl
theorem flc_len (f : Fl) (h : SqL f.s) : (flc f).length = 138 := by
  simp only [flc, List.length_append, sqc_len _ h, List.length_cons, List.length_nil]
theorem flc_sc (n : Nat) (f : Fl) (he : ∀ e ∈ f.ex, ExOk e) : ∀ x ∈ flc f, Scoped n x := fun x hx => by
  simp only [flc, List.mem_append, List.mem_cons, List.not_mem_nil, or_false] at hx
  rcases hx with hx | rfl | rfl | rfl
  · exact sqc_sc _ _ _ hx
  · exact .bool _
  · exact sl_scoped (exl_sc _ _ he)
  · exact sl_scoped (ixl_sc _ _)
/-- What the laws need to know of a film. -/
structure FlOk (f : Fl) : Prop where
  s : SqL f.s
  ex : ∀ e ∈ f.ex, ExOk e
  len : f.ex.length ≤ 1000
  me : f.me.length = 3
  ix : ∀ x ∈ f.me, SqL x.sq ∧ x.en.length ≤ 100
theorem ixs_en (L : List Int) (s : Sq) (a : Nat) : ∀ m, ∀ x ∈ (ixs L s a m).1, x.en.length ≤ 100
  | 0, x, hx => by simp [ixs] at hx
  | m + 1, x, hx => by
    simp only [ixs, List.mem_append, List.mem_singleton] at hx
    rcases hx with hx | rfl
    · exact ixs_en L s a m x hx
    · simp only [ix1, enL_len]
      have := ixK_lt L (ixs L s a m).2
      omega
theorem flm_ok (L : List Int) : FlOk (flm L) := by
  have h := segs_ok L ((flX L).2 + 1) (flK L)
  have hk : flK L ≤ 5 := by have := tn_range L (flX L).2 6 (by omega); unfold flK; omega
  exact ⟨hdS_L _ _, h.1, by have := h.2.2; simp only [flm]; omega, ixs_len _ _ _ 3, fun x hx => ⟨ixs_L L (flS L) 2 (hdS_L _ _) 3 x hx, ixs_en L (flS L) 2 3 x hx⟩⟩
theorem fm_at' {α : Type} (en : α → List PV) (m : Nat) (d : α) : ∀ (l : List α) (k : Nat), (∀ x ∈ l, (en x).length = m) → k < l.length → ((l.flatMap en).drop (k * m)).take m = en (l.getD k d)
  | [], k, h, hk => by simp at hk
  | a :: r, 0, h, _ => by
    have h1 := h a (by simp)
    rw [List.flatMap_cons, Nat.zero_mul, List.drop_zero, List.take_append_of_le_length (by rw [h1]; exact Nat.le_refl _), List.take_of_length_le (by rw [h1]; exact Nat.le_refl _)]; rfl
  | a :: r, k + 1, h, hk => by
    have h1 := h a (by simp)
    rw [List.flatMap_cons, show (k + 1) * m = (en a).length + k * m by rw [h1, Nat.succ_mul]; omega, ← List.drop_drop, List.drop_left, fm_at' en m d r k (fun x hx => h x (by simp [hx])) (by simpa using hk)]
    rfl
theorem getD_mem {α : Type} (d : α) : ∀ (l : List α) (k : Nat), k < l.length → l.getD k d ∈ l
  | [], k, h => by simp at h
  | a :: r, 0, _ => by simp
  | a :: r, k + 1, h => by
    have := getD_mem d r k (by simpa using h)
    simp only [List.getD_cons_succ, List.mem_cons]
    exact .inr this

theorem hscU {H K : Heap} (n : Nat) (hK : ∀ b ∈ K, ∀ x ∈ b.cells, Scoped (H.length + K.length) x) (h : HSc H) : HSc (H ++ K) := fun id k hk x hx => by
  rw [List.length_append]
  rw [List.getElem?_append] at hk
  split at hk
  · exact (h id k hk x hx).mono (by omega)
  · exact hK k (List.mem_of_getElem? hk) x hx
def sq0 : Sq := ⟨0, 0, 0, 0, false, 0, 0, [], []⟩
def ix0 : Ix := ⟨[], sq0, [], false⟩

set_option maxRecDepth 100000 in
set_option maxHeartbeats 4000000 in
theorem law_usable (a b : Sq) (x : Ix) (L : List Int) (f top : Bool) (n : Int) (H : Heap) (ha : SqL a) (hb : SqL b) (hx : SqL x.sq) (hn : x.en.length ≤ 9223372036854775807) :
    CallOk Try.prog 5 [.agg (sqc a), .agg (sqc b), .agg (ixc x), .slice (is L) L.length f, .bool top, .int .i64 n] H (.bool true) H := by
  have hm := made_ok L f
  have hf := flm_ok L
  generalize flm L = fl at *
  have la := sqc_len a ha
  have lb := sqc_len b hb
  have lx := ixc_len x hx
  have lf := flc_len fl hf.s
  have ca := sqc_c a
  have cb := sqc_c b
  have cx := ixc_c x
  have cf := flc_c fl
  have ta : (sqc a).take 135 = sqc a := List.take_of_length_le (by omega)
  have tb' : (sqc b).take 135 = sqc b := List.take_of_length_le (by omega)
  have tx : (ixc x).take 137 = ixc x := List.take_of_length_le (by omega)
  have tf : (flc fl).take 138 = flc fl := List.take_of_length_le (by omega)
  have ls := sqc_len fl.s hf.s
  have cs := sqc_c fl.s
  have f0 : (flc fl).take 135 = sqc fl.s := by
    unfold flc
    rw [← ls]; exact List.take_left
  have f3 : (flc fl)[137]? = some (.slice (fl.me.flatMap ixc) 3 false) := by
    unfold flc
    rw [List.getElem?_append_right (by omega), ls, hf.me]
    rfl
  have hME : ∀ y ∈ x :: fl.me, SqL y.sq ∧ y.en.length ≤ 9223372036854775807 := fun y hy => by
    rcases List.mem_cons.1 hy with rfl | hy
    · exact ⟨hx, hn⟩
    · have := hf.ix y hy
      exact ⟨this.1, by omega⟩
  have hcat : ixc x ++ fl.me.flatMap ixc = (x :: fl.me).flatMap ixc := by rw [List.flatMap_cons]
  have hlM := ixl_len fl.me (fun y hy => (hf.ix y hy).1)
  have hlA := ixl_len (x :: fl.me) (fun y hy => (hME y hy).1)
  have hat := fun k => fm_at' ixc 137 ix0 (x :: fl.me) k (fun y hy => ixc_len y (hME y hy).1)
  have hl4 : (x :: fl.me).length = 4 := by rw [List.length_cons, hf.me]
  have hgD := getD_mem ix0 (x :: fl.me)
  rw [hf.me] at hlM
  rw [hl4] at hlA hat hgD
  have hMsc := ixl_sc
  have tkA : ∀ r, List.take 135 (sqc a ++ r) = sqc a := fun r => by rw [← la]; exact List.take_left
  have drA : ∀ r : List PV, List.drop (135 + 135) (sqc a ++ r) = List.drop 135 r := fun r => by rw [← List.drop_drop]; congr 1; rw [← la]; exact List.drop_left
  obtain ⟨v, hv⟩ := pand_15 n
  refine CallOk.body (F0 := [(0, .agg (sqc a)), (1, .agg (sqc b)), (2, .agg (ixc x)), (3, .slice (is L) L.length f), (4, .bool top), (5, .int .i64 n)]) Try.func5 rfl Try.ntmps5 Try.results5 rfl (by kernel_rfl) rfl ?_
  (repeat refine PW.seq ?_); refine PW.rg rfl fun K hK => ?_; simp (maxSteps := 3000000) (disch := omega) only [go_sem, ↓reduceIte, reduceCtorEq, pappend, plen, ca, cb, cx]; refine hK _ _ ?_; clear hK K
  (repeat refine PW.seq ?_); refine PW.rg rfl fun K hK => ?_; simp (maxSteps := 3000000) (disch := omega) only [go_sem, ↓reduceIte, reduceCtorEq, pappend, plen, lf, cf]; refine VCx.call (hm _) rfl ?_; simp (maxSteps := 3000000) (disch := omega) only [go_sem, ↓reduceIte, reduceCtorEq, pappend, plen, lf, cf]; refine hK _ _ ?_; clear hK K
  (repeat refine PW.seq ?_); refine PW.rg rfl fun K hK => ?_; simp (maxSteps := 3000000) (disch := omega) only [go_sem, ↓reduceIte, reduceCtorEq, pappend, plen, lx, tx, cx, f3, lf, hlM]; refine hK _ _ ?_; clear hK K
  (repeat refine PW.seq ?_); refine PW.block (PW.loop ?_)
  suffices hloop : ∀ j : Nat, j ≤ 4 → PL Try.prog _ _ [(4, .bool top), (5, .int .i64 n), (6, .ptr H.length 0 0), (7, .ptr (H.length + 1) 0 0), (13, .ptr (H.length + 3) 0 0), (26, .msl (H.length + 4) 548 0 4 137 true), (27, .int .i64 4), (28, .int .i64 (j : Int))] (H ++ [⟨39, 0, sqc a⟩, ⟨39, 0, sqc b⟩, ⟨45, 0, ixc x⟩, ⟨50, 0, flc fl⟩, ⟨45, 548, (x :: fl.me).flatMap ixc⟩]) _ by
    refine PL.at [4, 5, 6, 7, 13, 26, 27, 28] (hloop 0 (by omega)) ?_ ?_
    · rw [hcat, hlA]; rfl
    · rw [hcat, hlA]
  intro j hj
  induction hd : 4 - j using Nat.strongRecOn generalizing j with
  | _ d ih =>
    refine PL.round ?_; (repeat refine PW.seq ?_); refine PW.rg rfl fun K hK => ?_; simp (maxSteps := 3000000) (disch := omega) only [go_sem, ↓reduceIte, reduceCtorEq, pappend, plen]; refine hK _ _ ?_; clear hK K
    (repeat refine PW.seq ?_); refine PW.cond (t := _) rfl (fun h => ?_) (fun h => ?_)
    rotate_left
    · have h4 : j = 4 := by have := of_decide_eq_false h; omega
      subst h4
      refine PW.exit ?_
      obtain ⟨a1, a2, a3, a4, a5, a6, a7, p, q⟩ := a
      obtain ⟨b1, b2, b3, b4, b5, b6, b7, p', q'⟩ := b
      have l1 : (bs p ++ bs q).length = 128 := by rw [List.length_append, length_bs, length_bs, ha.ia, ha.ie]
      have l2 : (bs p' ++ bs q').length = 128 := by rw [List.length_append, length_bs, length_bs, hb.ia, hb.ie]
      have t1 := sq_all p q ha.ia ha.ie
      have t2 := sq_all p' q' hb.ia hb.ie
      have ao := fun K => agr_ok ⟨a1, a2, a3, a4, a5, a6, a7, p, q⟩ ⟨b1, b2, b3, b4, b5, a6, IntKind.i64.wrap (a7 + 1), p', q'⟩ K ha ⟨hb.ia, hb.ie⟩
      have ar := fun K => agr_ref ⟨a1, a2, a3, a4, a5, a6, a7, p, q⟩ ⟨b1, b2, b3, b4, b5, a6, IntKind.i64.wrap (a7 + 1), p', q'⟩ K ha ⟨hb.ia, hb.ie⟩
      simp only [sqc] at ao ar ⊢
      generalize bs p ++ bs q = tl at *
      generalize bs p' ++ bs q' = tl' at *
      (repeat refine PW.seq ?_); refine PW.drawi [H.length + 1] [(7, [0]), (80, [0]), (81, [0])] [] [] mix (by kernel_rfl) (by simp <;> omega) fun K hK => ?_
      simp (maxSteps := 3000000) (disch := omega) only [go_sem, ↓reduceIte, reduceCtorEq, pappend, plen, l1, l2]
      refine hK _ _ ?_; clear hK K
      (repeat refine PW.seq ?_); refine PW.draw mix (by kernel_rfl) fun K hK => ?_; simp (maxSteps := 3000000) (disch := omega) only [go_sem, ↓reduceIte, reduceCtorEq, pappend, plen, l1, l2, t1, t2]
      (repeat' (first | ((first | refine VO_cond (fun h => ?_) (fun h => ?_) | refine VOd_cond (fun h => ?_) (fun h => ?_) | refine VOg_cond (fun h => ?_) (fun h => ?_) | refine VOh_cond (fun h => ?_) (fun h => ?_) | refine VOi_cond (fun h => ?_) (fun h => ?_) | refine And.intro (fun h => ?_) (fun h => ?_)) <;> (try simp only [Bool.not_eq_true', Bool.not_eq_false', decide_eq_true_eq, decide_eq_false_iff_not] at h) <;> simp (maxSteps := 3000000) (disch := omega) only [go_sem, ↓reduceIte, reduceCtorEq, pappend, plen, l1, l2, t1, t2, h]) | (refine VCx.call (ao _) rfl ?_; simp (maxSteps := 3000000) (disch := omega) only [go_sem, ↓reduceIte, reduceCtorEq, pappend, plen, l1, l2, t1, t2]) | (refine VCx.call (ar _) rfl ?_; simp (maxSteps := 3000000) (disch := omega) only [go_sem, ↓reduceIte, reduceCtorEq, pappend, plen, l1, l2, t1, t2]) | (refine VCy.call (ao _) rfl ?_; simp (maxSteps := 3000000) (disch := omega) only [go_sem, ↓reduceIte, reduceCtorEq, pappend, plen, l1, l2, t1, t2]) | (refine VCy.call (ar _) rfl ?_; simp (maxSteps := 3000000) (disch := omega) only [go_sem, ↓reduceIte, reduceCtorEq, pappend, plen, l1, l2, t1, t2]) | (refine VCz.call (fun _ => ao _) rfl ?_; simp (maxSteps := 3000000) (disch := omega) only [go_sem, ↓reduceIte, reduceCtorEq, pappend, plen, l1, l2, t1, t2]) | (refine VCz.call (fun _ => ar _) rfl ?_; simp (maxSteps := 3000000) (disch := omega) only [go_sem, ↓reduceIte, reduceCtorEq, pappend, plen, l1, l2, t1, t2]) | (refine VCk.call (fun _ _ => ao _) rfl ?_; simp (maxSteps := 3000000) (disch := omega) only [go_sem, ↓reduceIte, reduceCtorEq, pappend, plen, l1, l2, t1, t2]) | (refine VCk.call (fun _ _ => ar _) rfl ?_; simp (maxSteps := 3000000) (disch := omega) only [go_sem, ↓reduceIte, reduceCtorEq, pappend, plen, l1, l2, t1, t2])))
      refine VCy.callP awake31 rfl ?_; simp (maxSteps := 3000000) (disch := omega) only [go_sem, ↓reduceIte, reduceCtorEq, pappend, plen]
      refine hK _ _ ?_; clear hK K
      (refine PW.ret ⟨_, rfl, ?_⟩; first | refine .inl ⟨?_, rfl⟩ | refine Fin.base (.id' ?_ (.bool _)) | refine Fin.base (.id' ?_ (.int _ _)))
      rfl
    · have h4 : j < 4 := by have := of_decide_eq_true h; omega
      have hat' := hat j h4
      have hy := hME _ (hgD j h4)
      generalize (x :: fl.me).getD j ix0 = y at *
      have ly := ixc_len y hy.1
      have cy := ixc_c y
      have ty' : (ixc y).take 137 = ixc y := List.take_of_length_le (by omega)
      have sy : ((ixc y).drop 1).take 135 = sqc y.sq := by
        rw [show (ixc y).drop 1 = sqc y.sq ++ [.slice (y.en.flatMap enc) y.en.length y.g] from rfl, ← sqc_len y.sq hy.1]
        exact List.take_left
      refine PW.skip ?_; (repeat refine PW.seq ?_); refine PW.block ?_
      (repeat refine PW.seq ?_); refine PW.rg rfl fun K hK => ?_; simp (maxSteps := 3000000) (disch := omega) only [go_sem, ↓reduceIte, reduceCtorEq, pappend, plen, hat', hlA, ly, cy]; refine hK _ _ ?_; clear hK K
      (repeat refine PW.seq ?_); refine PW.rg rfl fun K hK => ?_; simp (maxSteps := 3000000) (disch := omega) only [go_sem, ↓reduceIte, reduceCtorEq, pappend, plen, la, ta, ca, f0, lf, ls, cs, tkA, drA, List.length_append, List.all_append]; refine hK _ _ ?_; clear hK K
      (repeat refine PW.seq ?_); refine PW.block (PW.loop ?_)
      suffices hl1 : ∀ j1 : Nat, j1 ≤ 2 → PL Try.prog _ _ [(4, .bool top), (5, .int .i64 n), (6, .ptr H.length 0 0), (7, .ptr (H.length + 1) 0 0), (13, .ptr (H.length + 3) 0 0), (26, .msl (H.length + 4) 548 0 4 137 true), (27, .int .i64 4), (28, .int .i64 (j : Int)), (15, .ptr (H.length + 5) 0 0), (35, .slice (sqc a ++ sqc fl.s) 2 true), (36, .int .i64 2), (37, .int .i64 (j1 : Int))] (H ++ [⟨39, 0, sqc a⟩, ⟨39, 0, sqc b⟩, ⟨45, 0, ixc x⟩, ⟨50, 0, flc fl⟩, ⟨45, 548, (x :: fl.me).flatMap ixc⟩, ⟨45, 0, ixc y⟩]) _ by
        refine PL.at [4, 5, 6, 7, 13, 26, 27, 28, 15, 35, 36, 37] (hl1 0 (by omega)) ?_ ?_
        · rfl
        · rfl
      intro j1 hj1
      induction hd1 : 2 - j1 using Nat.strongRecOn generalizing j1 with
      | _ d1 ih1 =>
        refine PL.round ?_; (repeat refine PW.seq ?_); refine PW.rg rfl fun K hK => ?_; simp (maxSteps := 3000000) (disch := omega) only [go_sem, ↓reduceIte, reduceCtorEq, pappend, plen]; refine hK _ _ ?_; clear hK K
        (repeat refine PW.seq ?_); refine PW.cond (t := _) rfl (fun h => ?_) (fun h => ?_)
        rotate_left
        · have h5 : j1 = 2 := by have := of_decide_eq_false h; omega
          subst h5
          refine PW.exit ?_
          (repeat refine PW.seq ?_); refine PW.rg rfl fun K hK => ?_; simp (maxSteps := 3000000) (disch := omega) only [go_sem, ↓reduceIte, reduceCtorEq, pappend, plen]; refine hK _ _ ?_; clear hK K
          refine PL.view (Vs.trim (F1 := [(4, .bool top), (5, .int .i64 n), (6, .ptr H.length 0 0), (7, .ptr (H.length + 1) 0 0), (13, .ptr (H.length + 3) 0 0), (26, .msl (H.length + 4) 548 0 4 137 true), (27, .int .i64 4), (28, .int .i64 ((j + 1 : Nat) : Int))]) (H1 := H ++ [⟨39, 0, sqc a⟩, ⟨39, 0, sqc b⟩, ⟨45, 0, ixc x⟩, ⟨50, 0, flc fl⟩, ⟨45, 548, (x :: fl.me).flatMap ixc⟩]) (hscU 5 ?_) (by simp) (List.append_assoc _ [_, _, _, _, _] [_]).symm ?_) (ih (4 - (j + 1)) (by omega) (j + 1) (by omega) rfl)
          · intro q hq t ht
            simp only [List.mem_cons, List.not_mem_nil, or_false] at hq
            rcases hq with rfl | rfl | rfl | rfl | rfl
            · exact sqc_sc _ _ _ ht
            · exact sqc_sc _ _ _ ht
            · exact ixc_sc _ _ _ ht
            · exact flc_sc _ _ hf.ex _ ht
            · exact ixl_sc _ _ _ ht
          · rw [List.length_append]
            simp only [List.length_cons, List.length_nil]
            exact ⟨.id (.bool _), .id (.int _ _), .id (.ptr (by omega)), .id (.ptr (by omega)), .id (.ptr (by omega)), .id (.msl (by omega)), .id (.int _ _), .id (.int _ _), trivial⟩
        · have h5 : j1 < 2 := by have := of_decide_eq_true h; omega
          obtain ⟨z, hz, hz1⟩ : ∃ z, ((sqc a ++ sqc fl.s).drop (j1 * 135)).take 135 = sqc z ∧ SqL z := by
            have h6 : j1 = 0 ∨ j1 = 1 := by omega
            rcases h6 with rfl | rfl
            · refine ⟨a, ?_, ha⟩
              rw [Nat.zero_mul, List.drop_zero, ← la]; exact List.take_left
            · refine ⟨fl.s, ?_, hf.s⟩
              rw [Nat.one_mul, ← la, List.drop_left, la, ← ls]; exact List.take_length
          have lz := sqc_len z hz1
          have cz := sqc_c z
          have tz : (sqc z).take 135 = sqc z := List.take_of_length_le (by omega)
          have uo := fun K (k : Int) => usb_ok z top y k K hz1 hy.1 hy.2
          have ur := fun K (k : Int) => usb_ref z top y k K hz1 hy.1 hy.2
          have ao := fun K => agr_ok z y.sq K hz1 hy.1
          have ar := fun K => agr_ref z y.sq K hz1 hy.1
          refine PW.skip ?_; (repeat refine PW.seq ?_); refine PW.block ?_
          (repeat refine PW.seq ?_); refine PW.rg rfl fun K hK => ?_; simp (maxSteps := 3000000) (disch := omega) only [go_sem, ↓reduceIte, reduceCtorEq, pappend, plen, hz, lz, cz, tz, la, ls, List.length_append]; refine hK _ _ ?_; clear hK K
          (repeat refine PW.seq ?_); refine PW.rg rfl fun K hK => ?_; simp (maxSteps := 3000000) (disch := omega) only [go_sem, ↓reduceIte, reduceCtorEq, pappend, plen, hv]; refine hK _ _ ?_; clear hK K
          (repeat refine PW.seq ?_); refine PW.block (PW.loop ?_)
          suffices hl2 : ∀ j2 : Nat, j2 ≤ 2 → PL Try.prog _ _ [(4, .bool top), (5, .int .i64 n), (6, .ptr H.length 0 0), (7, .ptr (H.length + 1) 0 0), (13, .ptr (H.length + 3) 0 0), (26, .msl (H.length + 4) 548 0 4 137 true), (27, .int .i64 4), (28, .int .i64 (j : Int)), (15, .ptr (H.length + 5) 0 0), (35, .slice (sqc a ++ sqc fl.s) 2 true), (36, .int .i64 2), (37, .int .i64 (j1 : Int)), (17, .ptr (H.length + 6) 0 0), (44, .slice [.int .i64 n, .int .i64 v] 2 true), (45, .int .i64 2), (46, .int .i64 (j2 : Int))] (H ++ [⟨39, 0, sqc a⟩, ⟨39, 0, sqc b⟩, ⟨45, 0, ixc x⟩, ⟨50, 0, flc fl⟩, ⟨45, 548, (x :: fl.me).flatMap ixc⟩, ⟨45, 0, ixc y⟩, ⟨39, 0, sqc z⟩]) _ by
            refine PL.at [4, 5, 6, 7, 13, 26, 27, 28, 15, 35, 36, 37, 17, 44, 45, 46] (hl2 0 (by omega)) ?_ ?_
            · rfl
            · rfl
          intro j2 hj2
          induction hd2 : 2 - j2 using Nat.strongRecOn generalizing j2 with
          | _ d2 ih2 =>
            refine PL.round ?_; (repeat refine PW.seq ?_); refine PW.rg rfl fun K hK => ?_; simp (maxSteps := 3000000) (disch := omega) only [go_sem, ↓reduceIte, reduceCtorEq, pappend, plen]; refine hK _ _ ?_; clear hK K
            (repeat refine PW.seq ?_); refine PW.cond (t := _) rfl (fun h => ?_) (fun h => ?_)
            rotate_left
            · have h6 : j2 = 2 := by have := of_decide_eq_false h; omega
              subst h6
              refine PW.exit ?_
              (repeat refine PW.seq ?_); refine PW.rg rfl fun K hK => ?_; simp (maxSteps := 3000000) (disch := omega) only [go_sem, ↓reduceIte, reduceCtorEq, pappend, plen]; refine hK _ _ ?_; clear hK K
              refine PL.view (Vs.trim (F1 := [(4, .bool top), (5, .int .i64 n), (6, .ptr H.length 0 0), (7, .ptr (H.length + 1) 0 0), (13, .ptr (H.length + 3) 0 0), (26, .msl (H.length + 4) 548 0 4 137 true), (27, .int .i64 4), (28, .int .i64 (j : Int)), (15, .ptr (H.length + 5) 0 0), (35, .slice (sqc a ++ sqc fl.s) 2 true), (36, .int .i64 2), (37, .int .i64 ((j1 + 1 : Nat) : Int))]) (H1 := H ++ [⟨39, 0, sqc a⟩, ⟨39, 0, sqc b⟩, ⟨45, 0, ixc x⟩, ⟨50, 0, flc fl⟩, ⟨45, 548, (x :: fl.me).flatMap ixc⟩, ⟨45, 0, ixc y⟩]) (hscU 6 ?_) (by simp) (List.append_assoc _ [_, _, _, _, _, _] [_]).symm ?_) (ih1 (2 - (j1 + 1)) (by omega) (j1 + 1) (by omega) rfl)
              · intro q hq t ht
                simp only [List.mem_cons, List.not_mem_nil, or_false] at hq
                rcases hq with rfl | rfl | rfl | rfl | rfl | rfl
                · exact sqc_sc _ _ _ ht
                · exact sqc_sc _ _ _ ht
                · exact ixc_sc _ _ _ ht
                · exact flc_sc _ _ hf.ex _ ht
                · exact ixl_sc _ _ _ ht
                · exact ixc_sc _ _ _ ht
              · rw [List.length_append]
                simp only [List.length_cons, List.length_nil]
                exact ⟨.id (.bool _), .id (.int _ _), .id (.ptr (by omega)), .id (.ptr (by omega)), .id (.ptr (by omega)), .id (.msl (by omega)), .id (.int _ _), .id (.int _ _), .id (.ptr (by omega)), .id (sl_scoped fun t ht => (by rcases List.mem_append.1 ht with ht | ht <;> exact sqc_sc _ _ _ ht)), .id (.int _ _), .id (.int _ _), trivial⟩
            · have h6 : j2 < 2 := by have := of_decide_eq_true h; omega
              obtain ⟨k, hk⟩ : ∃ k : Int, ([.int .i64 n, .int .i64 v] : List PV)[j2]? = some (.int .i64 k) := by
                have h7 : j2 = 0 ∨ j2 = 1 := by omega
                rcases h7 with rfl | rfl
                · exact ⟨n, rfl⟩
                · exact ⟨v, rfl⟩
              refine PW.skip ?_; (repeat refine PW.seq ?_); refine PW.block ?_
              (repeat refine PW.seq ?_); refine PW.rg rfl fun K hK => ?_; simp (maxSteps := 3000000) (disch := omega) only [go_sem, ↓reduceIte, reduceCtorEq, pappend, plen, hk]; refine hK _ _ ?_; clear hK K
              (repeat refine PW.seq ?_); refine PW.draw mix (by kernel_rfl) fun K hK => ?_; simp (maxSteps := 3000000) (disch := omega) only [go_sem, ↓reduceIte, reduceCtorEq, pappend, plen, lz, tz, ly, ty', sy]
              (repeat' (first | ((first | refine VO_cond (fun h => ?_) (fun h => ?_) | refine VOd_cond (fun h => ?_) (fun h => ?_) | refine VOg_cond (fun h => ?_) (fun h => ?_) | refine VOh_cond (fun h => ?_) (fun h => ?_) | refine VOi_cond (fun h => ?_) (fun h => ?_) | refine And.intro (fun h => ?_) (fun h => ?_)) <;> (try simp only [Bool.not_eq_true', Bool.not_eq_false', decide_eq_true_eq, decide_eq_false_iff_not] at h) <;> simp (maxSteps := 3000000) (disch := omega) only [go_sem, ↓reduceIte, reduceCtorEq, pappend, plen, lz, tz, ly, ty', sy, h]) | (refine VCx.call (uo _ _) rfl ?_; simp (maxSteps := 3000000) (disch := omega) only [go_sem, ↓reduceIte, reduceCtorEq, pappend, plen, lz, tz, ly, ty', sy]) | (refine VCx.call (ur _ _) rfl ?_; simp (maxSteps := 3000000) (disch := omega) only [go_sem, ↓reduceIte, reduceCtorEq, pappend, plen, lz, tz, ly, ty', sy]) | (refine VCx.call (ao _) rfl ?_; simp (maxSteps := 3000000) (disch := omega) only [go_sem, ↓reduceIte, reduceCtorEq, pappend, plen, lz, tz, ly, ty', sy]) | (refine VCx.call (ar _) rfl ?_; simp (maxSteps := 3000000) (disch := omega) only [go_sem, ↓reduceIte, reduceCtorEq, pappend, plen, lz, tz, ly, ty', sy]) | (refine VCy.call (uo _ _) rfl ?_; simp (maxSteps := 3000000) (disch := omega) only [go_sem, ↓reduceIte, reduceCtorEq, pappend, plen, lz, tz, ly, ty', sy]) | (refine VCy.call (ur _ _) rfl ?_; simp (maxSteps := 3000000) (disch := omega) only [go_sem, ↓reduceIte, reduceCtorEq, pappend, plen, lz, tz, ly, ty', sy]) | (refine VCy.call (ao _) rfl ?_; simp (maxSteps := 3000000) (disch := omega) only [go_sem, ↓reduceIte, reduceCtorEq, pappend, plen, lz, tz, ly, ty', sy]) | (refine VCy.call (ar _) rfl ?_; simp (maxSteps := 3000000) (disch := omega) only [go_sem, ↓reduceIte, reduceCtorEq, pappend, plen, lz, tz, ly, ty', sy]) | (refine VCz.call (fun _ => uo _ _) rfl ?_; simp (maxSteps := 3000000) (disch := omega) only [go_sem, ↓reduceIte, reduceCtorEq, pappend, plen, lz, tz, ly, ty', sy]) | (refine VCz.call (fun _ => ur _ _) rfl ?_; simp (maxSteps := 3000000) (disch := omega) only [go_sem, ↓reduceIte, reduceCtorEq, pappend, plen, lz, tz, ly, ty', sy]) | (refine VCz.call (fun _ => ao _) rfl ?_; simp (maxSteps := 3000000) (disch := omega) only [go_sem, ↓reduceIte, reduceCtorEq, pappend, plen, lz, tz, ly, ty', sy]) | (refine VCz.call (fun _ => ar _) rfl ?_; simp (maxSteps := 3000000) (disch := omega) only [go_sem, ↓reduceIte, reduceCtorEq, pappend, plen, lz, tz, ly, ty', sy]) | (refine VCk.call (fun _ _ => uo _ _) rfl ?_; simp (maxSteps := 3000000) (disch := omega) only [go_sem, ↓reduceIte, reduceCtorEq, pappend, plen, lz, tz, ly, ty', sy]) | (refine VCk.call (fun _ _ => ur _ _) rfl ?_; simp (maxSteps := 3000000) (disch := omega) only [go_sem, ↓reduceIte, reduceCtorEq, pappend, plen, lz, tz, ly, ty', sy]) | (refine VCk.call (fun _ _ => ao _) rfl ?_; simp (maxSteps := 3000000) (disch := omega) only [go_sem, ↓reduceIte, reduceCtorEq, pappend, plen, lz, tz, ly, ty', sy]) | (refine VCk.call (fun _ _ => ar _) rfl ?_; simp (maxSteps := 3000000) (disch := omega) only [go_sem, ↓reduceIte, reduceCtorEq, pappend, plen, lz, tz, ly, ty', sy])))
              refine hK _ _ ?_; clear hK K
              (repeat refine PW.seq ?_); refine PW.cond (t := _) rfl (fun h => ?_) (fun h => ?_)
              · cases h
              refine PW.skip ?_
              (repeat refine PW.seq ?_); refine PW.rg rfl fun K hK => ?_; simp (maxSteps := 3000000) (disch := omega) only [go_sem, ↓reduceIte, reduceCtorEq, pappend, plen]; refine hK _ _ ?_; clear hK K
              exact PL.at [4, 5, 6, 7, 13, 26, 27, 28, 15, 35, 36, 37, 17, 44, 45, 46] (ih2 (2 - (j2 + 1)) (by omega) (j2 + 1) (by omega) rfl) rfl rfl

end Go.Proofs.Ytnjnikafhbholaa.Sc

namespace Go.Proofs.Ytnjnikafhbholaa.Pl
set_option linter.all false
set_option linter.unusedVariables false
set_option linter.unusedSimpArgs false

/-- A frame of a film that is a candidate: its medium, number and type. -/
structure Sh where
  m : List UInt8
  n : Int
  k : Int
/-- A part of a plan. -/
structure Pa where
  cp : Bool
  film : Int
  len : Int
  m : List UInt8
  fr : Int

def sh (l : List (Option Sh)) (i : Nat) : Option Sh := (l[i]?).join
def adjS : Option Sh → Option Sh → Bool
  | some x, some y => (y.m == x.m) && (y.n == x.n + 1)
  | _, _ => false
/-- Does frame i + 1 go on frame i's run? -/
def adj (l : List (Option Sh)) (i : Nat) : Bool := adjS (sh l i) (sh l (i + 1))
/-- Where a frame's run begins. -/
def st (l : List (Option Sh)) : Nat → Nat
  | 0 => 0
  | i + 1 => if adj l i then st l i else i + 1
def enF (l : List (Option Sh)) : Nat → Nat → Nat
  | 0, i => i + 1
  | f + 1, i => if adj l i then enF l f (i + 1) else i + 1
/-- One behind the end of a frame's run. -/
def en (l : List (Option Sh)) (i : Nat) : Nat := enF l l.length i
def kd : Option Sh → Int
  | some x => x.k
  | none => 0
def tys (l : List (Option Sh)) (s e : Nat) : List Int := (List.range (e - s)).map fun j => kd (sh l (s + j))
/-- Is a frame copied? -/
def cpd (l : List (Option Sh)) (i : Nat) : Bool := (sh l i).isSome && arr (tys l (st l i) (en l i)) (en l i - st l i) (i - st l i)
/-- Is it copied together with the frame before it? -/
def jn (l : List (Option Sh)) (i : Nat) : Bool := decide (st l i < i) && (cpd l (i - 1) && cpd l i)

theorem sh_some {l : List (Option Sh)} {i : Nat} {x : Sh} (h : sh l i = some x) : i < l.length := by
  unfold sh at h
  cases hi : l[i]? with
  | none => rw [hi] at h; cases h
  | some y => exact (List.getElem?_eq_some_iff.1 hi).1
theorem adj_ex {l : List (Option Sh)} {i : Nat} (h : adj l i = true) : ∃ x y, sh l i = some x ∧ sh l (i + 1) = some y ∧ y.m = x.m ∧ y.n = x.n + 1 := by
  unfold adj at h
  cases h1 : sh l i with
  | none => rw [h1] at h; cases h
  | some x =>
    cases h2 : sh l (i + 1) with
    | none => rw [h1, h2] at h; cases h
    | some y =>
      rw [h1, h2] at h
      simp only [adjS, Bool.and_eq_true, beq_iff_eq] at h
      exact ⟨x, y, rfl, rfl, h.1, h.2⟩
theorem adj_lt {l : List (Option Sh)} {i : Nat} (h : adj l i = true) : i + 1 < l.length := by
  obtain ⟨x, y, _, h2, _⟩ := adj_ex h
  exact sh_some h2

theorem st_le (l : List (Option Sh)) : ∀ i, st l i ≤ i
  | 0 => Nat.le_refl _
  | i + 1 => by
    simp only [st]
    split
    · have := st_le l i; omega
    · exact Nat.le_refl _
theorem st_adj (l : List (Option Sh)) : ∀ i j, st l i ≤ j → j < i → adj l j = true
  | 0, j, _, h => by omega
  | i + 1, j, h1, h2 => by
    simp only [st] at h1
    split at h1
    · rename_i ha
      by_cases hj : j = i
      · rw [hj]; exact ha
      · exact st_adj l i j h1 (by omega)
    · omega
theorem st_max (l : List (Option Sh)) : ∀ i, st l i = 0 ∨ adj l (st l i - 1) = false
  | 0 => .inl rfl
  | i + 1 => by
    simp only [st]
    split
    · exact st_max l i
    · rename_i ha; exact .inr (by simpa using ha)
theorem st_uniq {l : List (Option Sh)} {s i : Nat} (h1 : s ≤ i) (h2 : ∀ j, s ≤ j → j < i → adj l j = true) (h3 : s = 0 ∨ adj l (s - 1) = false) : st l i = s := by
  have a1 := st_le l i
  have a2 := st_adj l i
  have a3 := st_max l i
  rcases Nat.lt_trichotomy (st l i) s with h | h | h
  · rcases h3 with h3 | h3
    · omega
    · rw [a2 (s - 1) (by omega) (by omega)] at h3; cases h3
  · exact h
  · rcases a3 with a3 | a3
    · omega
    · rw [h2 (st l i - 1) (by omega) (by omega)] at a3; cases a3
theorem enF_spec (l : List (Option Sh)) : ∀ f i, l.length ≤ i + f → i < enF l f i ∧ (∀ j, i ≤ j → j + 1 < enF l f i → adj l j = true) ∧ adj l (enF l f i - 1) = false
  | 0, i, h => by
    refine ⟨Nat.lt_succ_self _, fun j h1 h2 => ?_, ?_⟩
    · simp only [enF] at h2; omega
    · cases ha : adj l (enF l 0 i - 1) with
      | false => rfl
      | true => have := adj_lt ha; simp only [enF] at this; omega
  | f + 1, i, h => by
    simp only [enF]
    split
    · rename_i ha
      obtain ⟨q1, q2, q3⟩ := enF_spec l f (i + 1) (by omega)
      refine ⟨by omega, fun j h1 h2 => ?_, q3⟩
      by_cases hj : j = i
      · rw [hj]; exact ha
      · exact q2 j (by omega) h2
    · rename_i ha
      exact ⟨by omega, fun j h1 h2 => by omega, by simpa using ha⟩
theorem en_spec (l : List (Option Sh)) (i : Nat) : i < en l i ∧ (∀ j, i ≤ j → j + 1 < en l i → adj l j = true) ∧ adj l (en l i - 1) = false := enF_spec l l.length i (by omega)
theorem en_uniq {l : List (Option Sh)} {e i : Nat} (h1 : i < e) (h2 : ∀ j, i ≤ j → j + 1 < e → adj l j = true) (h3 : adj l (e - 1) = false) : en l i = e := by
  obtain ⟨a1, a2, a3⟩ := en_spec l i
  rcases Nat.lt_trichotomy (en l i) e with h | h | h
  · rw [h2 (en l i - 1) (by omega) (by omega)] at a3; cases a3
  · exact h
  · rw [a2 (e - 1) (by omega) (by omega)] at h3; cases h3
/-- All frames of a run have the same run. -/
theorem run_same {l : List (Option Sh)} {s e : Nat} (hs : s = 0 ∨ adj l (s - 1) = false) (ha : ∀ j, s ≤ j → j + 1 < e → adj l j = true) (he : adj l (e - 1) = false) {i : Nat} (h1 : s ≤ i) (h2 : i < e) : st l i = s ∧ en l i = e :=
  ⟨st_uniq h1 (fun j a b => ha j a (by omega)) hs, en_uniq h2 (fun j a b => ha j (by omega) b) he⟩
theorem run_of (l : List (Option Sh)) (i : Nat) : (st l i = 0 ∨ adj l (st l i - 1) = false) ∧ (∀ j, st l i ≤ j → j + 1 < en l i → adj l j = true) ∧ adj l (en l i - 1) = false ∧ st l i ≤ i ∧ i < en l i := by
  obtain ⟨a1, a2, a3⟩ := en_spec l i
  refine ⟨st_max l i, fun j h1 h2 => ?_, a3, st_le l i, a1⟩
  by_cases hj : j < i
  · exact st_adj l i j h1 hj
  · exact a2 j (by omega) h2
theorem en_le {l : List (Option Sh)} {i : Nat} (h : i < l.length) : en l i ≤ l.length := by
  obtain ⟨a1, a2, a3⟩ := en_spec l i
  by_cases hl : en l i ≤ l.length
  · exact hl
  · have := adj_lt (a2 (en l i - 2) (by omega) (by omega))
    omega
/-- Within a run: the same medium, numbers that go on. -/
theorem run_val {l : List (Option Sh)} {s : Nat} {x : Sh} (hx : sh l s = some x) : ∀ d, (∀ j, s ≤ j → j < s + d → adj l j = true) → ∃ k, sh l (s + d) = some ⟨x.m, x.n + d, k⟩
  | 0, _ => ⟨x.k, by rw [Nat.add_zero, hx]; obtain ⟨m, n, k⟩ := x; simp⟩
  | d + 1, h => by
    obtain ⟨k, hk⟩ := run_val hx d (fun j h1 h2 => h j h1 (by omega))
    obtain ⟨y, z, e1, e2, e3, e4⟩ := adj_ex (h (s + d) (by omega) (by omega))
    rw [hk] at e1
    cases e1
    dsimp only at e3 e4
    refine ⟨z.k, ?_⟩
    rw [show s + (d + 1) = s + d + 1 by omega, e2]
    obtain ⟨m, n, k'⟩ := z
    dsimp only at e3 e4 ⊢
    rw [e3, e4]
    congr 2
    omega
theorem st_some {l : List (Option Sh)} {i : Nat} {x : Sh} (h : sh l i = some x) : ∃ y, sh l (st l i) = some y ∧ ∀ d, st l i + d < en l i → ∃ k, sh l (st l i + d) = some ⟨y.m, y.n + d, k⟩ := by
  obtain ⟨_, a2, _, a4, a5⟩ := run_of l i
  have h0 : ∃ y, sh l (st l i) = some y := by
    by_cases he : st l i = i
    · exact ⟨x, by rw [he]; exact h⟩
    · obtain ⟨y, _, e, _⟩ := adj_ex (a2 (st l i) (Nat.le_refl _) (by omega))
      exact ⟨y, e⟩
  obtain ⟨y, hy⟩ := h0
  exact ⟨y, hy, fun d hd => run_val hy d (fun j h1 h2 => a2 j h1 (by omega))⟩
theorem ty_tys (l : List (Option Sh)) (s e j : Nat) (h : j < e - s) : ty (tys l s e) j = kd (sh l (s + j)) := by
  simp [ty, tys, h]
theorem tys_len (l : List (Option Sh)) (s e : Nat) : (tys l s e).length = e - s := by simp [tys]
theorem cpd_some {l : List (Option Sh)} {i : Nat} (h : cpd l i = true) : ∃ x, sh l i = some x := by
  unfold cpd at h
  cases hs : sh l i with
  | none => rw [hs] at h; cases h
  | some x => exact ⟨x, rfl⟩
/-- Whether it is copied, seen from its run. -/
theorem cpd_run {l : List (Option Sh)} {s e : Nat} (hs : s = 0 ∨ adj l (s - 1) = false) (ha : ∀ j, s ≤ j → j + 1 < e → adj l j = true) (he : adj l (e - 1) = false) {x : Sh} (hx : sh l s = some x) {i : Nat} (h1 : s ≤ i) (h2 : i < e) : cpd l i = arr (tys l s e) (e - s) (i - s) := by
  obtain ⟨q1, q2⟩ := run_same hs ha he h1 h2
  obtain ⟨k, hk⟩ := run_val hx (i - s) (fun j a b => ha j a (by omega))
  rw [show s + (i - s) = i by omega] at hk
  unfold cpd
  rw [q1, q2, hk]
  rfl
theorem cpd_none {l : List (Option Sh)} {i : Nat} (h : sh l i = none) : cpd l i = false := by unfold cpd; rw [h]; rfl

/-! ### the parts -/
def bump (ps : List Pa) : List Pa := match ps.getLast? with
  | some p => ps.dropLast ++ [{ p with len := p.len + 1 }]
  | none => []
def lastC (ps : List Pa) : Bool := match ps.getLast? with
  | some p => !p.cp
  | none => false
def shm (o : Option Sh) : List UInt8 := match o with | some x => x.m | none => []
def shn (o : Option Sh) : Int := match o with | some x => x.n | none => 0
/-- One frame more. -/
def ext (l : List (Option Sh)) (i : Nat) (ps : List Pa) : List Pa :=
  if cpd l i then (if jn l i then bump ps else ps ++ [⟨true, i, 1, shm (sh l i), shn (sh l i)⟩])
  else if lastC ps then bump ps else ps ++ [⟨false, i, 1, [], 0⟩]
def pts (l : List (Option Sh)) : Nat → List Pa
  | 0 => []
  | i + 1 => ext l i (pts l i)

theorem bump_snoc (ps : List Pa) (p : Pa) : bump (ps ++ [p]) = ps ++ [{ p with len := p.len + 1 }] := by simp [bump]
theorem lastC_snoc (ps : List Pa) (p : Pa) : lastC (ps ++ [p]) = !p.cp := by simp [lastC]

/-- What a part says of the frames from a to b. -/
structure PaOk (l : List (Option Sh)) (a b : Nat) (p : Pa) : Prop where
  film : p.film = a
  len : p.len = (b : Int) - a
  lt : a < b
  cd : p.cp = false → p.m = [] ∧ p.fr = 0 ∧ ∀ j, a ≤ j → j < b → cpd l j = false
  cc : p.cp = true → ∀ j, a ≤ j → j < b → cpd l j = true ∧ (jn l j = decide (a < j)) ∧ ∃ k, sh l j = some ⟨p.m, p.fr + ((j : Int) - a), k⟩
/-- The parts of the first i frames. -/
inductive PaL (l : List (Option Sh)) : Nat → List Pa → Prop where
  | nil : PaL l 0 []
  | snoc {a b : Nat} {ps : List Pa} {p : Pa} (h : PaL l a ps) (hp : PaOk l a b p) (hc : p.cp = false → lastC ps = false) (hj : jn l a = false) : PaL l b (ps ++ [p])
theorem jn_ex {l : List (Option Sh)} {i : Nat} (h : jn l i = true) : ∃ j, i = j + 1 ∧ adj l j = true ∧ cpd l j = true ∧ cpd l (j + 1) = true := by
  simp only [jn, Bool.and_eq_true, decide_eq_true_eq] at h
  obtain ⟨h1, h2, h3⟩ := h
  refine ⟨i - 1, by omega, st_adj l i (i - 1) (by omega) (by omega), h2, ?_⟩
  rw [show i - 1 + 1 = i by omega]
  exact h3
theorem jn_of {l : List (Option Sh)} {j : Nat} (h : adj l j = true) (h1 : cpd l j = true) (h2 : cpd l (j + 1) = true) : jn l (j + 1) = true := by
  have : st l (j + 1) = st l j := by simp [st, h]
  have h3 := st_le l j
  simp only [jn, Bool.and_eq_true, decide_eq_true_eq, Nat.add_sub_cancel]
  exact ⟨by omega, h1, h2⟩
theorem jn_c {l : List (Option Sh)} {i : Nat} (h : cpd l i = false) : jn l i = false := by simp [jn, h]
theorem pts_ok (l : List (Option Sh)) : ∀ i, PaL l i (pts l i)
  | 0 => .nil
  | i + 1 => by
    have ih := pts_ok l i
    simp only [pts, ext]
    generalize pts l i = ps at ih
    split
    · rename_i hc
      obtain ⟨x, hx⟩ := cpd_some hc
      split
      · rename_i hj
        obtain ⟨j, rfl, ha, c1, c2⟩ := jn_ex hj
        cases ih with
        | @snoc a b ps p h hp hcc hja =>
          rw [bump_snoc]
          have hlt := hp.lt
          have hpc : p.cp = true := by
            cases hp' : p.cp with
            | true => rfl
            | false => have := (hp.cd hp').2.2 j (by omega) (by omega); rw [this] at c1; cases c1
          obtain ⟨y, z, e1, e2, e3, e4⟩ := adj_ex ha
          refine .snoc h ⟨hp.film, by dsimp only; rw [hp.len]; omega, by omega, fun h' => (by dsimp only at h'; rw [hpc] at h'; exact absurd h' (by decide)), fun _ k k1 k2 => ?_⟩ hcc hja
          by_cases hk : k = j + 1
          · subst hk
            obtain ⟨_, _, kk, hkk⟩ := hp.cc hpc j (by omega) (by omega)
            rw [e1] at hkk
            cases hkk
            dsimp only at e3 e4
            refine ⟨c2, by rw [hj]; simp; omega, z.k, ?_⟩
            rw [e2]
            obtain ⟨zm, zn, zk⟩ := z
            dsimp only at e3 e4 ⊢
            rw [e3, e4]
            congr 2
            omega
          · exact hp.cc hpc k k1 (by omega)
      · rename_i hj
        have hj : jn l i = false := by simpa using hj
        refine .snoc ih ⟨rfl, by dsimp only; omega, by omega, fun h => (by cases h), fun _ k k1 k2 => ?_⟩ (fun h => by cases h) hj
        obtain rfl : k = i := by omega
        refine ⟨hc, by rw [hj]; simp, x.k, ?_⟩
        rw [hx]
        obtain ⟨m, n, kk⟩ := x
        simp [shm, shn]
    · rename_i hc
      have hc : cpd l i = false := by simpa using hc
      split
      · rename_i hl
        cases ih with
        | nil => cases hl
        | @snoc a b ps p h hp hcc hja =>
          rw [bump_snoc]
          rw [lastC_snoc] at hl
          have hpc : p.cp = false := by simpa using hl
          have hlt := hp.lt
          refine .snoc h ⟨hp.film, by dsimp only; rw [hp.len]; omega, by omega, fun _ => ?_, fun h' => by dsimp only at h'; (rw [hpc] at h'; cases h')⟩ hcc hja
          obtain ⟨q1, q2, q3⟩ := hp.cd hpc
          refine ⟨q1, q2, fun k k1 k2 => ?_⟩
          by_cases hk : k = i
          · rw [hk]; exact hc
          · exact q3 k k1 (by omega)
      · rename_i hl
        have hl : lastC ps = false := by simpa using hl
        refine .snoc ih ⟨rfl, by dsimp only; omega, by omega, fun _ => ⟨rfl, rfl, fun k k1 k2 => ?_⟩, fun h => by cases h⟩ (fun _ => hl) (jn_c hc)
        obtain rfl : k = i := by omega
        exact hc

end Go.Proofs.Ytnjnikafhbholaa.Pl

namespace Go.Proofs.Ytnjnikafhbholaa.Pl
set_option linter.all false
set_option linter.unusedVariables false
set_option linter.unusedSimpArgs false

/-- The parts from frame a to frame b; pc: the part before was coded. -/
inductive PF (l : List (Option Sh)) : Bool → Nat → List Pa → Nat → Prop where
  | nil {pc : Bool} {b : Nat} : PF l pc b [] b
  | cons {pc : Bool} {a c b : Nat} {p : Pa} {r : List Pa} (hp : PaOk l a c p) (hc : p.cp = false → pc = false) (hj : jn l a = false) (h : PF l (!p.cp) c r b) : PF l pc a (p :: r) b
def lastD (pc : Bool) (ps : List Pa) : Bool := match ps.getLast? with
  | some p => !p.cp
  | none => pc
theorem lastD_cons (pc : Bool) (p : Pa) (r : List Pa) : lastD pc (p :: r) = lastD (!p.cp) r := by
  cases r with
  | nil => rfl
  | cons q r => simp [lastD, List.getLast?_cons]
theorem PF.snoc {l : List (Option Sh)} {b c : Nat} {p : Pa} (hp : PaOk l b c p) (hj : jn l b = false) : ∀ {ps : List Pa} {pc : Bool} {a : Nat}, PF l pc a ps b → (p.cp = false → lastD pc ps = false) → PF l pc a (ps ++ [p]) c
  | [], pc, a, h, hc => by
    cases h
    exact .cons hp hc hj .nil
  | q :: r, pc, a, h, hc => by
    cases h with
    | cons hq hqc hqj h =>
      refine .cons hq hqc hqj (PF.snoc hp hj h fun e => ?_)
      rw [← lastD_cons pc]
      exact hc e
theorem PaL.front {l : List (Option Sh)} {b : Nat} {ps : List Pa} (h : PaL l b ps) : PF l false 0 ps b := by
  induction h with
  | nil => exact .nil
  | snoc h hp hc hj ih => exact ih.snoc hp hj hc
theorem PF.le {l : List (Option Sh)} {pc : Bool} {a b : Nat} {ps : List Pa} (h : PF l pc a ps b) : a ≤ b := by
  induction h with
  | nil => exact Nat.le_refl _
  | cons hp _ _ _ ih => have := hp.lt; omega
/-- Where the next part begins, nothing is joined. -/
theorem PF.jn {l : List (Option Sh)} {pc : Bool} {a b : Nat} {ps : List Pa} (h : PF l pc a ps b) (hb : jn l b = false) : jn l a = false := by
  cases h with
  | nil => exact hb
  | cons _ _ hj _ => exact hj
theorem jn_end (l : List (Option Sh)) : jn l l.length = false := by
  apply jn_c
  apply cpd_none
  unfold sh
  rw [List.getElem?_eq_none (Nat.le_refl _)]
  rfl

def T3 (l : List (Option Sh)) : Prop := ∀ i x, sh l i = some x → x.k = 1 ∨ x.k = 2 ∨ x.k = 3
theorem tys_3 {l : List (Option Sh)} (h3 : T3 l) {i : Nat} {x : Sh} (hx : sh l i = some x) : ∀ k, k < en l i - st l i → ty (tys l (st l i) (en l i)) k = 1 ∨ ty (tys l (st l i) (en l i)) k = 2 ∨ ty (tys l (st l i) (en l i)) k = 3 := fun k hk => by
  obtain ⟨y, hy, hr⟩ := st_some hx
  obtain ⟨q, hq⟩ := hr k (by omega)
  rw [ty_tys _ _ _ _ hk, hq]
  exact h3 _ _ hq
theorem cpd_cf {l : List (Option Sh)} (h3 : T3 l) {i : Nat} {x : Sh} (hx : sh l i = some x) {j : Nat} (h1 : st l i ≤ j) (h2 : j < en l i) : cpd l j = decide (0 ≤ fi (tys l (st l i) (en l i)) (en l i - st l i) ∧ fi (tys l (st l i) (en l i)) (en l i - st l i) ≤ ((j - st l i : Nat) : Int) ∧ ((j - st l i : Nat) : Int) ≤ la (tys l (st l i) (en l i)) (en l i - st l i)) := by
  obtain ⟨a1, a2, a3, a4, a5⟩ := run_of l i
  obtain ⟨y, hy, hr⟩ := st_some hx
  rw [cpd_run a1 a2 a3 hy h1 h2]
  exact closed_form _ _ (tys_3 h3 hx) _ (by omega)
/-- A copied part begins with an I frame. -/
theorem first_I {l : List (Option Sh)} (h3 : T3 l) {i : Nat} {x : Sh} (hx : sh l i = some x) (hc : cpd l i = true) (hj : jn l i = false) : x.k = 1 := by
  obtain ⟨a1, a2, a3, a4, a5⟩ := run_of l i
  have hi := cpd_cf h3 hx a4 a5
  rw [hc] at hi
  obtain ⟨q1, q2, q3⟩ := of_decide_eq_true hi.symm
  have hf := fi_ty (tys l (st l i) (en l i)) (en l i - st l i) q1
  have hlt := fi_lt (tys l (st l i) (en l i)) (en l i - st l i)
  have heq : (fi (tys l (st l i) (en l i)) (en l i - st l i)).toNat = i - st l i := by
    by_cases hs : st l i = i
    · omega
    · have hp : cpd l (i - 1) = false := by
        cases hp : cpd l (i - 1) with
        | false => rfl
        | true => simp [jn, hp, hc] at hj; omega
      have hi' := cpd_cf h3 hx (j := i - 1) (by omega) (by omega)
      rw [hp] at hi'
      have := of_decide_eq_false hi'.symm
      omega
  rw [heq, ty_tys _ _ _ _ (by omega), show st l i + (i - st l i) = i by omega, hx] at hf
  exact hf
/-- A copied part ends with no B frame. -/
theorem last_nb {l : List (Option Sh)} (h3 : T3 l) {i : Nat} {x : Sh} (hx : sh l i = some x) (hc : cpd l i = true) (hj : jn l (i + 1) = false) : x.k ≠ 3 := by
  obtain ⟨a1, a2, a3, a4, a5⟩ := run_of l i
  have hi := cpd_cf h3 hx a4 a5
  rw [hc] at hi
  obtain ⟨q1, q2, q3⟩ := of_decide_eq_true hi.symm
  have hl := la_nb (tys l (st l i) (en l i)) (en l i - st l i) (by omega)
  have hlt := la_lt (tys l (st l i) (en l i)) (en l i - st l i)
  have heq : (la (tys l (st l i) (en l i)) (en l i - st l i)).toNat = i - st l i := by
    by_cases he : i + 1 = en l i
    · omega
    · have ha := a2 i a4 (by omega)
      have hn : cpd l (i + 1) = false := by
        cases hn : cpd l (i + 1) with
        | false => rfl
        | true => rw [jn_of ha hc hn] at hj; cases hj
      have hi' := cpd_cf h3 hx (j := i + 1) (by omega) (by omega)
      rw [hn] at hi'
      have := of_decide_eq_false hi'.symm
      omega
  rw [heq, ty_tys _ _ _ _ (by omega), show st l i + (i - st l i) = i by omega, hx] at hl
  exact hl

/-! ### nothing more could be copied -/
/-- The next I or P frame of the run before i, plus one; 0 if there is none. -/
def rfB (l : List (Option Sh)) : Nat → Nat
  | 0 => 0
  | i + 1 => if adj l i then (if kd (sh l i) = 3 then rfB l i else i + 1) else 0
theorem rfB_lst {l : List (Option Sh)} {s e : Nat} (hs : s = 0 ∨ adj l (s - 1) = false) (ha : ∀ j, s ≤ j → j + 1 < e → adj l j = true) : ∀ d, s + d < e → rfB l (s + d) = if lst (tys l s e) d = 0 then 0 else s + lst (tys l s e) d
  | 0, h => by
    rw [Nat.add_zero]
    simp only [lst, if_true]
    cases s with
    | zero => rfl
    | succ s =>
      rcases hs with hs | hs
      · omega
      · rw [Nat.add_sub_cancel] at hs
        simp [rfB, hs]
  | d + 1, h => by
    have ih := rfB_lst hs ha d (by omega)
    rw [show s + (d + 1) = s + d + 1 by omega]
    have e1 : rfB l (s + d + 1) = if kd (sh l (s + d)) = 3 then rfB l (s + d) else s + d + 1 := by
      simp only [rfB]
      rw [if_pos (ha (s + d) (by omega) (by omega))]
    have e2 : lst (tys l s e) (d + 1) = if kd (sh l (s + d)) = 3 then lst (tys l s e) d else d + 1 := by
      simp only [lst]
      rw [ty_tys _ _ _ _ (by omega)]
    rw [e1, e2]
    split
    · exact ih
    · simp; omega
def rfFF (l : List (Option Sh)) : Nat → Nat → Nat
  | 0, i => i
  | f + 1, i => if adj l i then (if kd (sh l (i + 1)) = 3 then rfFF l f (i + 1) else i + 1) else 0
theorem rfFF_nb {l : List (Option Sh)} {s e : Nat} (ha : ∀ j, s ≤ j → j + 1 < e → adj l j = true) (he : adj l (e - 1) = false) : ∀ f i, s ≤ i → i < e → e ≤ i + f → rfFF l f i = if nb (tys l s e) (e - s) (i + 1 - s) = e - s then 0 else s + nb (tys l s e) (e - s) (i + 1 - s)
  | 0, i, h1, h2, h3 => by omega
  | f + 1, i, h1, h2, h3 => by
    have hb := nb_spec (tys l s e) (e - s) (i + 1 - s) (by omega)
    simp only [rfFF]
    by_cases hi : i + 1 = e
    · rw [show i = e - 1 by omega, he]
      rw [show i = e - 1 by omega] at hb
      have : nb (tys l s e) (e - s) (e - 1 + 1 - s) = e - s := by omega
      simp [this]
    · rw [if_pos (ha i h1 (by omega))]
      have hty := ty_tys l s e (i + 1 - s) (by omega)
      rw [show s + (i + 1 - s) = i + 1 by omega] at hty
      have hstep : nb (tys l s e) (e - s) (i + 1 - s) = if ty (tys l s e) (i + 1 - s) = 3 then nb (tys l s e) (e - s) (i + 1 + 1 - s) else i + 1 - s := by
        have hb2 := nb_spec (tys l s e) (e - s) (i + 1 + 1 - s) (by omega)
        split
        · rename_i h3'
          rcases Nat.lt_trichotomy (nb (tys l s e) (e - s) (i + 1 - s)) (nb (tys l s e) (e - s) (i + 1 + 1 - s)) with h | h | h
          · have h4 := hb.2.2.2 (by omega)
            by_cases h5 : nb (tys l s e) (e - s) (i + 1 - s) = i + 1 - s
            · rw [h5] at h4; exact absurd h3' h4
            · exact absurd (hb2.2.2.1 _ (by omega) h) h4
          · exact h
          · have h4 := hb2.2.2.2 (by omega)
            exact absurd (hb.2.2.1 _ (by omega) h) h4
        · rename_i h3'
          by_cases h5 : nb (tys l s e) (e - s) (i + 1 - s) = i + 1 - s
          · exact h5
          · exact absurd (hb.2.2.1 (i + 1 - s) (Nat.le_refl _) (by omega)) h3'
      rw [hstep, hty]
      split
      · rename_i h3'
        rw [rfFF_nb ha he f (i + 1) (by omega) (by omega) (by omega)]
      · rw [if_neg (by omega)]; omega
/-- The next I or P frame of the run behind i; 0 if there is none. -/
def rfF (l : List (Option Sh)) (i : Nat) : Nat := rfFF l l.length i
/-- No frame is coded whose references are copied. -/
theorem nothing_more {l : List (Option Sh)} (h3 : T3 l) {i : Nat} {x : Sh} (hx : sh l i = some x) (hc : cpd l i = false) :
    x.k ≠ 1 ∧ (x.k = 2 → rfB l i ≠ 0 → cpd l (rfB l i - 1) = false) ∧ (x.k = 3 → rfB l i ≠ 0 → rfF l i ≠ 0 → ¬ (cpd l (rfB l i - 1) = true ∧ cpd l (rfF l i) = true)) := by
  obtain ⟨a1, a2, a3, a4, a5⟩ := run_of l i
  obtain ⟨y, hy, hr⟩ := st_some hx
  have hlen := en_le (sh_some hx)
  have hB := rfB_lst a1 a2 (i - st l i) (by omega)
  have hF := rfFF_nb a2 a3 l.length i a4 a5 (by omega)
  rw [show st l i + (i - st l i) = i by omega] at hB
  change rfF l i = _ at hF
  rw [show i + 1 - st l i = i - st l i + 1 by omega] at hF
  have hk := arr_kept (tys l (st l i) (en l i)) (en l i - st l i) (i - st l i) (by omega)
  rw [← cpd_run a1 a2 a3 hy a4 a5, hc] at hk
  have hty := ty_tys l (st l i) (en l i) (i - st l i) (by omega)
  rw [show st l i + (i - st l i) = i by omega, hx] at hty
  change _ = x.k at hty
  have hll := lst_le (tys l (st l i) (en l i)) (i - st l i)
  have hnb := nb_spec (tys l (st l i) (en l i)) (en l i - st l i) (i - st l i + 1) (by omega)
  have cB : rfB l i ≠ 0 → cpd l (rfB l i - 1) = arr (tys l (st l i) (en l i)) (en l i - st l i) (lst (tys l (st l i) (en l i)) (i - st l i) - 1) ∧ 0 < lst (tys l (st l i) (en l i)) (i - st l i) := fun h => by
    split at hB
    · exact absurd hB h
    · rename_i h0
      refine ⟨?_, by omega⟩
      rw [hB, cpd_run a1 a2 a3 hy (by omega) (by omega)]
      congr 1
      omega
  have cF : rfF l i ≠ 0 → cpd l (rfF l i) = arr (tys l (st l i) (en l i)) (en l i - st l i) (nb (tys l (st l i) (en l i)) (en l i - st l i) (i - st l i + 1)) ∧ nb (tys l (st l i) (en l i)) (en l i - st l i) (i - st l i + 1) < en l i - st l i := fun h => by
    split at hF
    · exact absurd hF h
    · rename_i h0
      refine ⟨?_, by omega⟩
      rw [hF, cpd_run a1 a2 a3 hy (by omega) (by omega)]
      congr 1
      omega
  unfold kept at hk
  rw [hty] at hk
  refine ⟨fun e => ?_, fun e hb => ?_, fun e hb hf => ?_⟩
  · simp [e] at hk
  · obtain ⟨c1, c2⟩ := cB hb
    rw [c1]
    simp [e] at hk
    first | exact hk c2 | (have := hk; simp_all)
  · obtain ⟨c1, c2⟩ := cB hb
    obtain ⟨c3, c4⟩ := cF hf
    rw [c1, c3]
    rintro ⟨d1, d2⟩
    simp [e, d1, d2] at hk
    omega

/-! ### two films with a frame between them -/
theorem cpd_sub {l l' : List (Option Sh)} {n d : Nat} (hs : ∀ i, i < n → sh l' (i + d) = sh l i) (hl : n = l.length) (h0 : d = 0 ∨ sh l' (d - 1) = none) (h1 : sh l' (n + d) = none) {i : Nat} (hi : i < n) : cpd l' (i + d) = cpd l i ∧ jn l' (i + d) = jn l i := by
  have hadj : ∀ j, j + 1 < n → adj l' (j + d) = adj l j := fun j hj => by
    unfold adj
    rw [hs j (by omega), show j + d + 1 = j + 1 + d by omega, hs (j + 1) hj]
  have hadjE : ∀ j, j + 1 = n → adj l' (j + d) = false ∧ adj l j = false := fun j hj => by
    constructor
    · cases ha : adj l' (j + d) with
      | false => rfl
      | true =>
        obtain ⟨x, y, _, e, _⟩ := adj_ex ha
        rw [show j + d + 1 = n + d by omega, h1] at e
        cases e
    · cases ha : adj l j with
      | false => rfl
      | true => have := adj_lt ha; omega
  have key : ∀ i, i < n → cpd l' (i + d) = cpd l i ∧ st l' (i + d) = st l i + d := fun i hi => by
    obtain ⟨a1, a2, a3, a4, a5⟩ := run_of l i
    have hle := en_le (l := l) (i := i) (by omega)
    have b1 : st l i + d = 0 ∨ adj l' (st l i + d - 1) = false := by
      by_cases hz : st l i = 0
      · rcases h0 with h0 | h0
        · exact .inl (by omega)
        · by_cases hd : d = 0
          · exact .inl (by omega)
          · refine .inr ?_
            cases ha : adj l' (st l i + d - 1) with
            | false => rfl
            | true =>
              obtain ⟨x, y, e, _⟩ := adj_ex ha
              rw [show st l i + d - 1 = d - 1 by omega, h0] at e
              cases e
      · refine .inr ?_
        rw [show st l i + d - 1 = st l i - 1 + d by omega, hadj _ (by omega)]
        rcases a1 with a1 | a1
        · exact absurd a1 hz
        · exact a1
    have b2 : ∀ j, st l i + d ≤ j → j + 1 < en l i + d → adj l' j = true := fun j j1 j2 => by
      have := hadj (j - d) (by omega)
      rw [show j - d + d = j by omega] at this
      rw [this]
      exact a2 _ (by omega) (by omega)
    have b3 : adj l' (en l i + d - 1) = false := by
      rw [show en l i + d - 1 = en l i - 1 + d by omega]
      by_cases he : en l i = n
      · exact (hadjE _ (by omega)).1
      · rw [hadj _ (by omega)]; exact a3
    obtain ⟨q1, q2⟩ := run_same b1 b2 b3 (i := i + d) (by omega) (by omega)
    refine ⟨?_, q1⟩
    unfold cpd
    rw [q1, q2, hs i hi, show en l i + d - (st l i + d) = en l i - st l i by omega, show i + d - (st l i + d) = i - st l i by omega]
    have : tys l' (st l i + d) (en l i + d) = tys l (st l i) (en l i) := by
      unfold tys
      rw [show en l i + d - (st l i + d) = en l i - st l i by omega]
      apply List.map_congr_left
      intro j hj
      rw [List.mem_range] at hj
      rw [show st l i + d + j = st l i + j + d by omega, hs _ (by omega)]
    rw [this]
  obtain ⟨k1, k2⟩ := key i hi
  refine ⟨k1, ?_⟩
  unfold jn
  rw [k1, k2]
  by_cases hz : st l i < i
  · rw [show i + d - 1 = i - 1 + d by omega, (key (i - 1) (by omega)).1, decide_eq_true (by omega : st l i + d < i + d), decide_eq_true hz]
  · rw [decide_eq_false (by omega : ¬ st l i + d < i + d), decide_eq_false hz]
    rfl

end Go.Proofs.Ytnjnikafhbholaa.Pl

namespace Go.Proofs.Ytnjnikafhbholaa.Sc
set_option linter.all false
set_option linter.unusedVariables false
set_option linter.unusedSimpArgs false
open Pm Ty Go.RowKit
open Pl (Pa)

def pac (p : Pa) : List PV := [.bool p.cp, .int .i64 p.film, .int .i64 p.len, .str p.m, .int .i64 p.fr]
theorem pac_sc (n : Nat) (p : Pa) : ∀ x ∈ pac p, Scoped n x := fun x hx => by
  simp only [pac, List.mem_cons, List.not_mem_nil, or_false] at hx
  rcases hx with rfl | rfl | rfl | rfl | rfl
  · exact .bool _
  · exact .int _ _
  · exact .int _ _
  · exact .str _
  · exact .int _ _
theorem pal_sc (n : Nat) (l : List Pa) : ∀ x ∈ l.flatMap pac, Scoped n x := fun x hx => by
  obtain ⟨p, _, h⟩ := List.mem_flatMap.1 hx
  exact pac_sc n p x h
theorem pal_len (l : List Pa) : (l.flatMap pac).length = l.length * 5 := fm_len pac 5 (fun _ => rfl) l
def pa0 : Pa := ⟨false, 0, 0, [], 0⟩
def paAt (l : List Pa) (k : Nat) : Pa := l.getD k pa0
theorem pal_at (l : List Pa) (k : Nat) (h : k < l.length) : ((l.flatMap pac).drop (k * 5)).take 5 = pac (paAt l k) := fm_at pac 5 (fun _ => rfl) pa0 l k h
theorem drop_at (l : List Pa) (k : Nat) (h : k < l.length) : l.drop k = paAt l k :: l.drop (k + 1) := by
  rw [List.drop_eq_getElem_cons h]
  simp [paAt, h]
/-- Are the fields that say what is copied valid? -/
def vs (p : Pa) : Bool := if p.cp then decide (0 ≤ p.fr) && !(p.m == []) else (decide (p.fr = 0) && (p.m == []))
def paV (n a : Int) (p : Pa) : Bool := decide (p.film = a) && (decide (1 ≤ p.len) && (decide (p.len ≤ n - a) && vs p))
/-- Is it a plan of n frames? -/
def vld (n : Int) : Int → List Pa → Bool
  | a, [] => decide (a = n)
  | a, p :: r => paV n a p && vld n (a + p.len) r

theorem vs_ok (p : Pa) (H : Heap) : CallOk Try.prog 91 [.agg (pac p)] H (.bool (vs p)) H := by
  obtain ⟨cp, film, len, m, fr⟩ := p
  simp only [pac]
  refine CallOk.body (F0 := [(0, .agg [.bool cp, .int .i64 film, .int .i64 len, .str m, .int .i64 fr])]) Try.func91 rfl Try.ntmps91 Try.results91 rfl (by kernel_rfl) rfl ?_
  (repeat' (first | refine PW.seq ?_ | refine PW.skip ?_ | refine PW.block ?_ | (refine PW.rg rfl fun K hK => ?_; simp (maxSteps := 3000000) (disch := omega) only [go_sem, ↓reduceIte, reduceCtorEq, pappend, plen]) | (refine PW.draw mix (by kernel_rfl) fun K hK => ?_; simp (maxSteps := 3000000) (disch := omega) only [go_sem, ↓reduceIte, reduceCtorEq, pappend, plen]) | (refine PW.drawg mix (by kernel_rfl) fun K hK => ?_; simp (maxSteps := 3000000) (disch := omega) only [go_sem, ↓reduceIte, reduceCtorEq, pappend, plen]) | ((first | refine VO_cond (fun h => ?_) (fun h => ?_) | refine VOd_cond (fun h => ?_) (fun h => ?_) | refine VOg_cond (fun h => ?_) (fun h => ?_) | refine VOh_cond (fun h => ?_) (fun h => ?_) | refine VOi_cond (fun h => ?_) (fun h => ?_) | refine And.intro (fun h => ?_) (fun h => ?_)) <;> (try simp only [Bool.not_eq_true', Bool.not_eq_false', decide_eq_true_eq, decide_eq_false_iff_not] at h) <;> simp (maxSteps := 3000000) (disch := omega) only [go_sem, ↓reduceIte, reduceCtorEq, pappend, plen, h]) | (refine hK _ _ ?_; clear hK K) | (refine PW.cond (t := _) rfl (fun h => ?_) (fun h => ?_) <;> (try (cases h; done)) <;> (try simp only [Bool.not_eq_true', Bool.not_eq_false', decide_eq_true_eq, decide_eq_false_iff_not] at h))))
  all_goals ((refine PW.ret ⟨_, rfl, ?_⟩; first | refine .inl ⟨?_, rfl⟩ | refine Fin.base (.id' ?_ (.bool _)) | refine Fin.base (.id' ?_ (.int _ _))); (simp_all [vs, slot, Nat.beq] <;> first | rfl | omega | (rw [Bool.eq_iff_iff]; simp; done) | (rw [Bool.eq_iff_iff]; simp; omega)))

theorem hsc_snoc {H : Heap} {b : Blk} (hb : ∀ x ∈ b.cells, Scoped (H.length + 1) x) (h : HSc H) : HSc (H ++ [b]) := fun id k hk x hx => by
  rw [List.length_append]
  rw [List.getElem?_append] at hk
  split at hk
  · exact (h id k hk x hx).mono (by simp)
  · have := List.mem_of_getElem? hk
    rw [List.mem_singleton] at this
    rw [this] at hx
    exact hb x hx
theorem valid_ok (ps : List Pa) (g : Bool) (n : Int) (H : Heap) (hn : -9223372036854775808 ≤ n ∧ n ≤ 9223372036854775807) (hl : ps.length ≤ 9223372036854775807) : CallOk Try.prog 47 [.agg [.slice (ps.flatMap pac) ps.length g], .int .i64 n] H (.bool (vld n 0 ps)) H := by
  have hpl := pal_len ps
  have hat := pal_at ps
  have hsc := fun n => pal_sc n ps
  generalize hE : ps.flatMap pac = E at *
  refine CallOk.body (F0 := [(0, .agg [.slice E ps.length g]), (1, .int .i64 n)]) Try.func47 rfl Try.ntmps47 Try.results47 rfl (by kernel_rfl) rfl ?_
  (repeat refine PW.seq ?_); refine PW.rg rfl fun K hK => ?_; simp (maxSteps := 3000000) (disch := omega) only [go_sem, ↓reduceIte, reduceCtorEq, pappend, plen]; refine hK _ _ ?_; clear hK K
  (repeat refine PW.seq ?_); refine PW.rg rfl fun K hK => ?_; simp (maxSteps := 3000000) (disch := omega) only [go_sem, ↓reduceIte, reduceCtorEq, pappend, plen]; refine hK _ _ ?_; clear hK K
  (repeat refine PW.seq ?_); refine PW.rg rfl fun K hK => ?_; simp (maxSteps := 3000000) (disch := omega) only [go_sem, ↓reduceIte, reduceCtorEq, pappend, plen]; refine hK _ _ ?_; clear hK K
  (repeat refine PW.seq ?_); refine PW.block (PW.loop ?_)
  suffices hloop : ∀ (j : Nat) (a : Int), j ≤ ps.length → 0 ≤ a → (a = 0 ∨ a ≤ n) → vld n a (ps.drop j) = vld n 0 ps → PL Try.prog _ _ [(1, .int .i64 n), (5, .int .i64 a), (9, .slice E ps.length g), (10, .int .i64 (ps.length : Int)), (11, .int .i64 (j : Int))] (H ++ [⟨71, 0, [.slice E ps.length g]⟩]) _ by
    exact PL.at [1, 5, 9, 10, 11] (hloop 0 0 (by omega) (by omega) (.inl rfl) (by simp)) rfl rfl
  intro j a hj ha0 ha hv
  induction hd : ps.length - j using Nat.strongRecOn generalizing j a with
  | _ d ih =>
    refine PL.round ?_; (repeat refine PW.seq ?_); refine PW.rg rfl fun K hK => ?_; simp (maxSteps := 3000000) (disch := omega) only [go_sem, ↓reduceIte, reduceCtorEq, pappend, plen]; refine hK _ _ ?_; clear hK K
    (repeat refine PW.seq ?_); refine PW.cond (t := _) rfl (fun h => ?_) (fun h => ?_)
    rotate_left
    · have h4 : j = ps.length := by have := of_decide_eq_false h; omega
      subst h4
      refine PW.exit ?_
      rw [List.drop_length] at hv
      simp only [vld] at hv
      (repeat refine PW.seq ?_); refine PW.rg rfl fun K hK => ?_; simp (maxSteps := 3000000) (disch := omega) only [go_sem, ↓reduceIte, reduceCtorEq, pappend, plen]; refine hK _ _ ?_; clear hK K
      (refine PW.ret ⟨_, rfl, ?_⟩; first | refine .inl ⟨?_, rfl⟩ | refine Fin.base (.id' ?_ (.bool _)) | refine Fin.base (.id' ?_ (.int _ _)))
      rw [← hv]
      (simp_all [slot, Nat.beq] <;> first | rfl | omega | (rw [Bool.eq_iff_iff]; simp; done) | (rw [Bool.eq_iff_iff]; simp; omega))
    · have h4 : j < ps.length := by have := of_decide_eq_true h; omega
      have hat' := hat j h4
      rw [drop_at ps j h4] at hv
      generalize hpp : paAt ps j = p at *
      have hvs := vs_ok p
      have hv' : vld n a (p :: ps.drop (j + 1)) = (paV n a p && vld n (a + p.len) (ps.drop (j + 1))) := rfl
      rw [hv'] at hv
      clear hv'
      simp only [paV] at hv
      generalize vs p = vp at *
      obtain ⟨cp, film, len, m, fr⟩ := p
      simp only [pac] at hat' hvs
      dsimp only at hv
      refine PW.skip ?_; (repeat refine PW.seq ?_); refine PW.block ?_
      (repeat refine PW.seq ?_); refine PW.rg rfl fun K hK => ?_; simp (maxSteps := 3000000) (disch := omega) only [go_sem, ↓reduceIte, reduceCtorEq, pappend, plen, hat', hpl]; refine hK _ _ ?_; clear hK K
      (repeat refine PW.seq ?_); refine PW.rg rfl fun K hK => ?_; simp (maxSteps := 3000000) (disch := omega) only [go_sem, ↓reduceIte, reduceCtorEq, pappend, plen]
      (repeat' (first | ((first | refine VO_cond (fun h => ?_) (fun h => ?_) | refine VOd_cond (fun h => ?_) (fun h => ?_) | refine VOg_cond (fun h => ?_) (fun h => ?_) | refine VOh_cond (fun h => ?_) (fun h => ?_) | refine VOi_cond (fun h => ?_) (fun h => ?_) | refine And.intro (fun h => ?_) (fun h => ?_)) <;> (try simp only [Bool.not_eq_true', Bool.not_eq_false', decide_eq_true_eq, decide_eq_false_iff_not] at h) <;> simp (maxSteps := 3000000) (disch := omega) only [go_sem, ↓reduceIte, reduceCtorEq, pappend, plen, h]) | (refine VCx.call (hvs _) rfl ?_; simp (maxSteps := 3000000) (disch := omega) only [go_sem, ↓reduceIte, reduceCtorEq, pappend, plen]) | (refine VCy.call (hvs _) rfl ?_; simp (maxSteps := 3000000) (disch := omega) only [go_sem, ↓reduceIte, reduceCtorEq, pappend, plen]) | (refine VCz.call (fun _ => hvs _) rfl ?_; simp (maxSteps := 3000000) (disch := omega) only [go_sem, ↓reduceIte, reduceCtorEq, pappend, plen]) | (refine VCk.call (fun _ _ => hvs _) rfl ?_; simp (maxSteps := 3000000) (disch := omega) only [go_sem, ↓reduceIte, reduceCtorEq, pappend, plen])))
      all_goals refine hK _ _ ?_; clear hK K
      · (repeat refine PW.seq ?_); refine PW.cond (t := _) rfl (fun h => ?_) (fun h => ?_)
        · (repeat refine PW.seq ?_); refine PW.rg rfl fun K hK => ?_; simp (maxSteps := 3000000) (disch := omega) only [go_sem, ↓reduceIte, reduceCtorEq, pappend, plen]; refine hK _ _ ?_; clear hK K
          (refine PW.ret ⟨_, rfl, ?_⟩; first | refine .inl ⟨?_, rfl⟩ | refine Fin.base (.id' ?_ (.bool _)) | refine Fin.base (.id' ?_ (.int _ _)))
          rw [← hv]
          have : vp = false := by simpa using h
          simp [this]
          rfl
        · have h6 : vp = true := by simpa using h
          refine PW.skip ?_
          (repeat refine PW.seq ?_); refine PW.rg rfl fun K hK => ?_; simp (maxSteps := 3000000) (disch := omega) only [go_sem, ↓reduceIte, reduceCtorEq, pappend, plen]; refine hK _ _ ?_; clear hK K
          (repeat refine PW.seq ?_); refine PW.rg rfl fun K hK => ?_; simp (maxSteps := 3000000) (disch := omega) only [go_sem, ↓reduceIte, reduceCtorEq, pappend, plen]; refine hK _ _ ?_; clear hK K
          have hv2 : vld n (a + len) (ps.drop (j + 1)) = vld n 0 ps := by
            rename_i hfa _ _
            simp only [bne_eq_false_iff_eq] at hfa
            rw [← hv, h6]
            simp [hfa, show 1 ≤ len by omega, show len ≤ n - a by omega]
          refine PL.view (Vs.trim (F1 := [(1, .int .i64 n), (5, .int .i64 (a + len)), (9, .slice E ps.length g), (10, .int .i64 (ps.length : Int)), (11, .int .i64 ((j + 1 : Nat) : Int))]) (H1 := H ++ [⟨71, 0, [.slice E ps.length g]⟩]) (hsc_snoc (by simpa using sl_scoped (hsc _))) (by simp) (List.append_assoc _ [_] [_]).symm ?_) (ih (ps.length - (j + 1)) (by omega) (j + 1) (a + len) (by omega) (by omega) (by omega) hv2 rfl)
          exact ⟨.id (.int _ _), .id (.int _ _), .id (sl_scoped (hsc _)), .id (.int _ _), .id (.int _ _), trivial⟩
      all_goals
        (repeat refine PW.seq ?_); refine PW.cond (t := _) rfl (fun h => ?_) (fun h => ?_)
        · (repeat refine PW.seq ?_); refine PW.rg rfl fun K hK => ?_; simp (maxSteps := 3000000) (disch := omega) only [go_sem, ↓reduceIte, reduceCtorEq, pappend, plen]; refine hK _ _ ?_; clear hK K
          (refine PW.ret ⟨_, rfl, ?_⟩; first | refine .inl ⟨?_, rfl⟩ | refine Fin.base (.id' ?_ (.bool _)) | refine Fin.base (.id' ?_ (.int _ _)))
          rw [← hv]
          clear hv hat hat' hvs ih
          (simp_all [slot, Nat.beq] <;> first | rfl | omega | (rw [Bool.eq_iff_iff]; simp; done) | (rw [Bool.eq_iff_iff]; simp; omega))
        · cases h

theorem valid_ref (ps : List Pa) (g : Bool) (n : Int) (H : Heap) (hn : -9223372036854775808 ≤ n ∧ n ≤ 9223372036854775807) (hl : ps.length ≤ 9223372036854775807) : CallOk Try.prog 40 [.agg [.slice (ps.flatMap pac) ps.length g], .int .i64 n] H (.bool (vld n 0 ps)) H := by
  have hpl := pal_len ps
  have hat := pal_at ps
  have hsc := fun n => pal_sc n ps
  generalize hE : ps.flatMap pac = E at *
  refine CallOk.body (F0 := [(0, .agg [.slice E ps.length g]), (1, .int .i64 n)]) Try.func40 rfl Try.ntmps40 Try.results40 rfl (by kernel_rfl) rfl ?_
  (repeat refine PW.seq ?_); refine PW.rg rfl fun K hK => ?_; simp (maxSteps := 3000000) (disch := omega) only [go_sem, ↓reduceIte, reduceCtorEq, pappend, plen]; refine hK _ _ ?_; clear hK K
  (repeat refine PW.seq ?_); refine PW.rg rfl fun K hK => ?_; simp (maxSteps := 3000000) (disch := omega) only [go_sem, ↓reduceIte, reduceCtorEq, pappend, plen]; refine hK _ _ ?_; clear hK K
  (repeat refine PW.seq ?_); refine PW.rg rfl fun K hK => ?_; simp (maxSteps := 3000000) (disch := omega) only [go_sem, ↓reduceIte, reduceCtorEq, pappend, plen]; refine hK _ _ ?_; clear hK K
  (repeat refine PW.seq ?_); refine PW.block (PW.loop ?_)
  suffices hloop : ∀ (j : Nat) (a : Int), j ≤ ps.length → 0 ≤ a → (a = 0 ∨ a ≤ n) → vld n a (ps.drop j) = vld n 0 ps → PL Try.prog _ _ [(1, .int .i64 n), (2, .ptr H.length 0 0), (5, .int .i64 a), (6, .int .i64 (j : Int))] (H ++ [⟨71, 0, [.slice E ps.length g]⟩]) _ by
    exact PL.at [1, 2, 5, 6] (hloop 0 0 (by omega) (by omega) (.inl rfl) (by simp)) rfl rfl
  intro j a hj ha0 ha hv
  induction hd : ps.length - j using Nat.strongRecOn generalizing j a with
  | _ d ih =>
    refine PL.round ?_; (repeat refine PW.seq ?_); refine PW.rg rfl fun K hK => ?_; simp (maxSteps := 3000000) (disch := omega) only [go_sem, ↓reduceIte, reduceCtorEq, pappend, plen]; refine hK _ _ ?_; clear hK K
    (repeat refine PW.seq ?_); refine PW.cond (t := _) rfl (fun h => ?_) (fun h => ?_)
    rotate_left
    · have h4 : j = ps.length := by have := of_decide_eq_false h; omega
      subst h4
      refine PW.exit ?_
      rw [List.drop_length] at hv
      simp only [vld] at hv
      (repeat refine PW.seq ?_); refine PW.rg rfl fun K hK => ?_; simp (maxSteps := 3000000) (disch := omega) only [go_sem, ↓reduceIte, reduceCtorEq, pappend, plen]; refine hK _ _ ?_; clear hK K
      (refine PW.ret ⟨_, rfl, ?_⟩; first | refine .inl ⟨?_, rfl⟩ | refine Fin.base (.id' ?_ (.bool _)) | refine Fin.base (.id' ?_ (.int _ _)))
      rw [← hv]
      (simp_all [slot, Nat.beq] <;> first | rfl | omega | (rw [Bool.eq_iff_iff]; simp; done) | (rw [Bool.eq_iff_iff]; simp; omega))
    · have h4 : j < ps.length := by have := of_decide_eq_true h; omega
      have hat' := hat j h4
      rw [drop_at ps j h4] at hv
      generalize hpp : paAt ps j = p at *
      have hv' : vld n a (p :: ps.drop (j + 1)) = (paV n a p && vld n (a + p.len) (ps.drop (j + 1))) := rfl
      rw [hv'] at hv
      clear hv'
      simp only [paV, vs] at hv
      obtain ⟨cp, film, len, m, fr⟩ := p
      simp only [pac] at hat'
      dsimp only at hv
      have key : (film = a ∧ 1 ≤ len ∧ len ≤ n - a ∧ (if cp then decide (0 ≤ fr) && !(m == []) else (decide (fr = 0) && (m == []))) = true) → vld n (a + len) (ps.drop (j + 1)) = vld n 0 ps := fun ⟨e1, e2, e3, e4⟩ => by
        rw [← hv, e4]
        simp [e1, e2, e3]
      have key2 : ¬ (film = a ∧ 1 ≤ len ∧ len ≤ n - a ∧ (if cp then decide (0 ≤ fr) && !(m == []) else (decide (fr = 0) && (m == []))) = true) → vld n 0 ps = false := fun hh => by
        rw [← hv]
        cases hc : (decide (film = a) && (decide (1 ≤ len) && (decide (len ≤ n - a) && (if cp then decide (0 ≤ fr) && !(m == []) else (decide (fr = 0) && (m == [])))))) with
        | false => rfl
        | true =>
          exfalso
          simp only [Bool.and_eq_true, decide_eq_true_eq] at hc
          exact hh hc
      clear hv
      refine PW.skip ?_; (repeat refine PW.seq ?_); refine PW.block ?_
      (repeat refine PW.seq ?_); refine PW.rg rfl fun K hK => ?_; simp (maxSteps := 3000000) (disch := omega) only [go_sem, ↓reduceIte, reduceCtorEq, pappend, plen, hat', hpl]; refine hK _ _ ?_; clear hK K
      (repeat refine PW.seq ?_); refine PW.rg rfl fun K hK => ?_; simp (maxSteps := 3000000) (disch := omega) only [go_sem, ↓reduceIte, reduceCtorEq, pappend, plen]
      (repeat' ((first | refine VO_cond (fun h => ?_) (fun h => ?_) | refine VOd_cond (fun h => ?_) (fun h => ?_) | refine VOg_cond (fun h => ?_) (fun h => ?_) | refine VOh_cond (fun h => ?_) (fun h => ?_) | refine VOi_cond (fun h => ?_) (fun h => ?_) | refine And.intro (fun h => ?_) (fun h => ?_)) <;> (try simp only [Bool.not_eq_true', Bool.not_eq_false', decide_eq_true_eq, decide_eq_false_iff_not] at h) <;> simp (maxSteps := 3000000) (disch := omega) only [go_sem, ↓reduceIte, reduceCtorEq, pappend, plen, h]))
      all_goals refine hK _ _ ?_; clear hK K
      all_goals
        (repeat refine PW.seq ?_); refine PW.cond (t := _) rfl (fun h => ?_) (fun h => ?_)
      all_goals first
        | (cases h; done)
        | (refine PW.skip ?_
           (repeat refine PW.seq ?_); refine PW.rg rfl fun K hK => ?_; simp (maxSteps := 3000000) (disch := omega) only [go_sem, ↓reduceIte, reduceCtorEq, pappend, plen]; refine hK _ _ ?_; clear hK K
           (repeat refine PW.seq ?_); refine PW.rg rfl fun K hK => ?_; simp (maxSteps := 3000000) (disch := omega) only [go_sem, ↓reduceIte, reduceCtorEq, pappend, plen]; refine hK _ _ ?_; clear hK K
           refine PL.view (Vs.trim (F1 := [(1, .int .i64 n), (2, .ptr H.length 0 0), (5, .int .i64 (a + len)), (6, .int .i64 ((j + 1 : Nat) : Int))]) (H1 := H ++ [⟨71, 0, [.slice E ps.length g]⟩]) (hsc_snoc (by simpa using sl_scoped (hsc _))) (by simp) (List.append_assoc _ [_] [_]).symm ⟨.id (.int _ _), .id (.ptr (by simp)), .id (.int _ _), .id (.int _ _), trivial⟩) (ih (ps.length - (j + 1)) (by omega) (j + 1) (a + len) (by omega) (by omega) (by omega) (key ?_) rfl)
           clear key key2 ih hat hat'
           simp_all
           done)
        | ((repeat refine PW.seq ?_); refine PW.rg rfl fun K hK => ?_; simp (maxSteps := 3000000) (disch := omega) only [go_sem, ↓reduceIte, reduceCtorEq, pappend, plen]; refine hK _ _ ?_; clear hK K
           (refine PW.ret ⟨_, rfl, ?_⟩; first | refine .inl ⟨?_, rfl⟩ | refine Fin.base (.id' ?_ (.bool _)) | refine Fin.base (.id' ?_ (.int _ _)))
           rw [key2]
           · rfl
           · clear key key2 ih hat hat'
             simp_all
             try omega)

end Go.Proofs.Ytnjnikafhbholaa.Sc

namespace Go.Proofs.Ytnjnikafhbholaa.Lq
set_option linter.all false
set_option linter.unusedVariables false
set_option linter.unusedSimpArgs false
open Go.ChangeShapes Go.WideShapes Go.ChangeAt Go.RowKit Pm Sc

theorem own : ownKnob Try.prog.godebug = none := by kernel_rfl
theorem laidOut : laidOutB Try.prog = true := by kernel_rfl
theorem shp_entry {ps : List PV} (h : Shp Try.prog 89 ps) : ∃ e : En, ps = enc e := by
  obtain ⟨pss, rfl, hf⟩ := h.fields Try.underlying89
  match pss, hf with
  | [a, b, c, d, e], ⟨ha, hb, hc, hd, he, _⟩ =>
    obtain ⟨a, rfl, h1⟩ := Lp.shp_int ha
    obtain ⟨b, rfl⟩ := Lp.shp_bool hb
    obtain ⟨c, rfl, h3⟩ := Lp.shp_int hc
    obtain ⟨d, rfl⟩ := Lp.shp_bool hd
    obtain ⟨e, rfl⟩ := Lp.shp_bool he
    exact ⟨⟨a, b, c, d, e⟩, rfl⟩
theorem shp_entries {ps : List PV} (h : Shp Try.prog 43 ps) : ∃ l : List En, ps = [.slice (l.flatMap enc) l.length false] ∧ l.length ≤ 9223372036854775807 := by
  obtain ⟨l, rfl, hm, _⟩ := h.of_list (enc := enc) (good := fun _ => True) Try.underlying43 (fun q hq => by
    obtain ⟨e, rfl⟩ := shp_entry hq
    exact ⟨e, rfl, trivial⟩)
  refine ⟨l, ?_, by simpa [maxLen] using hm⟩
  first | rfl | simp [List.flatMap]
theorem shp_index {ps : List PV} (h : Shp Try.prog 45 ps) : ∃ x : Ix, ps = ixc x ∧ SqL x.sq ∧ x.en.length ≤ 9223372036854775807 := by
  obtain ⟨pss, rfl, hf⟩ := h.fields Try.underlying45
  match pss, hf with
  | [a, b, c], ⟨ha, hb, hc, _⟩ =>
    obtain ⟨a, rfl, _⟩ := ha.of_str Try.underlying9
    obtain ⟨b, rfl, h2⟩ := Lp.shp_seq hb
    obtain ⟨c, rfl, h3⟩ := shp_entries hc
    exact ⟨⟨a, b, c, false⟩, by simp [ixc], h2.toL, h3⟩
theorem shp_part {ps : List PV} (h : Shp Try.prog 77 ps) : ∃ e : Pl.Pa, ps = pac e := by
  obtain ⟨pss, rfl, hf⟩ := h.fields Try.underlying77
  match pss, hf with
  | [a, b, c, d, e], ⟨ha, hb, hc, hd, he, _⟩ =>
    obtain ⟨a, rfl⟩ := Lp.shp_bool ha
    obtain ⟨b, rfl, _⟩ := Lp.shp_int64 hb
    obtain ⟨c, rfl, h3⟩ := Lp.shp_int64 hc
    obtain ⟨d, rfl, _⟩ := hd.of_str Try.underlying9
    obtain ⟨e, rfl, _⟩ := Lp.shp_int64 he
    exact ⟨⟨a, b, c, d, e⟩, rfl⟩
theorem shp_plan {ps : List PV} (h : Shp Try.prog 71 ps) : ∃ l : List Pl.Pa, ps = [.slice (l.flatMap pac) l.length false] ∧ l.length ≤ 9223372036854775807 := by
  obtain ⟨pss, rfl, hf⟩ := h.fields Try.underlying71
  match pss, hf with
  | [a], ⟨ha, _⟩ =>
    obtain ⟨l, rfl, hm, _⟩ := ha.of_list (enc := pac) (good := fun _ => True) Try.underlying69 (fun q hq => by
      obtain ⟨e, rfl⟩ := shp_part hq
      exact ⟨e, rfl, trivial⟩)
    refine ⟨l, ?_, by simpa [maxLen] using hm⟩
    first | rfl | simp [List.flatMap]

end Go.Proofs.Ytnjnikafhbholaa.Lq

namespace Go.Proofs.Ytnjnikafhbholaa.Sc
set_option linter.all false
set_option linter.unusedVariables false
set_option linter.unusedSimpArgs false
open Pm Ty Go.RowKit
open Pl (Pa bump lastC bump_snoc lastC_snoc)

/-- Two blocks of a heap, set. -/
def tw (H : Heap) (i j : Nat) (A B : Blk) : Heap := (H.set i A).set j B
theorem tw_0 (H : Heap) (i j : Nat) (A B : Blk) (h : i < H.length ∧ i ≠ j) : (tw H i j A B)[i]? = some A := by
  unfold tw; rw [List.getElem?_set_ne (by omega)]; simp [h.1]
theorem tw_1 (H : Heap) (i j : Nat) (A B : Blk) (h : j < H.length) : (tw H i j A B)[j]? = some B := by
  unfold tw; simp [h]
theorem tw_len (H : Heap) (i j : Nat) (A B : Blk) : (tw H i j A B).length = H.length := by simp [tw]
theorem tw_tw (H : Heap) (i j : Nat) (A B C D : Blk) (h : i ≠ j) : tw (tw H i j A B) i j C D = tw H i j C D := by
  unfold tw; rw [List.set_comm _ _ (by omega : i ≠ j), List.set_set, List.set_comm _ _ (by omega : j ≠ i), List.set_set]
theorem set_id {H : Heap} {i : Nat} {A : Blk} (h : H[i]? = some A) : H.set i A = H := by
  apply List.ext_getElem?
  intro j
  rw [List.getElem?_set]
  split
  · rename_i e; subst e
    split
    · exact h.symm
    · rename_i hn; exact absurd (List.getElem?_eq_some_iff.1 h).1 hn
  · rfl
/-- A builder and its parts, in memory. -/
def bb (j n : Nat) : Blk := ⟨153, 0, [.msl j (n * 5) 0 n 5 true]⟩
def pb (ps : List Pa) : Blk := ⟨77, ps.length * 5, ps.flatMap pac⟩
theorem snoc_ex {α : Type} (l : List α) : l = [] ∨ ∃ q p, l = q ++ [p] := by
  rcases List.eq_nil_or_concat l with h | ⟨q, p, h⟩
  · exact .inl h
  · exact .inr ⟨q, p, by rw [h, List.concat_eq_append]⟩
def addC (ps : List Pa) (film : Int) : List Pa := if lastC ps then bump ps else ps ++ [⟨false, film, 1, [], 0⟩]
def addK (ps : List Pa) (film : Int) (m : List UInt8) (n : Int) (jn : Bool) : List Pa := if jn then bump ps else ps ++ [⟨true, film, 1, m, n⟩]
structure BdH (H : Heap) (i j : Nat) (ps : List Pa) : Prop where
  gi : H[i]? = some (bb j ps.length)
  gj : H[j]? = some (pb ps)
  ne : i ≠ j
  len : ∀ p ∈ ps, 0 ≤ p.len ∧ p.len ≤ 1000000
  n : ps.length ≤ 1000000

theorem pal_snoc (q : List Pa) (p : Pa) : (q ++ [p]).flatMap pac = q.flatMap pac ++ [.bool p.cp, .int .i64 p.film, .int .i64 p.len, .str p.m, .int .i64 p.fr] := by
  rw [List.flatMap_append, List.flatMap_cons, List.flatMap_nil, List.append_nil]; rfl
theorem five_at (A : List PV) (n : Nat) (hA : A.length = n * 5) (a b c d e : PV) : (A ++ [a, b, c, d, e])[n * 5]? = some a ∧ (A ++ [a, b, c, d, e])[n * 5 + 2]? = some c ∧ ∀ x, (A ++ [a, b, c, d, e]).set (n * 5 + 2) x = A ++ [a, b, x, d, e] := by
  refine ⟨?_, ?_, fun x => ?_⟩
  · rw [← hA]; simp
  · rw [List.getElem?_append_right (by omega), hA]; simp
  · rw [List.set_append_right _ _ (by omega), hA]; simp

set_option maxHeartbeats 1000000 in
theorem code_ok (ps : List Pa) (film : Int) (i j : Nat) (H : Heap) (h : BdH H i j ps) : CallOk Try.prog 88 [.ptr i 0 0, .int .i64 film] H (.tup []) (tw H i j (bb j (addC ps film).length) (pb (addC ps film))) := by
  obtain ⟨hi, hj, hne, hlen, hn⟩ := h
  unfold bb at hi
  unfold pb at hj
  have hil : i < H.length := (List.getElem?_eq_some_iff.1 hi).1
  have hjl : j < H.length := (List.getElem?_eq_some_iff.1 hj).1
  have hpl := pal_len ps
  have hji : ∀ B, (H.set j B)[i]? = H[i]? := fun B => List.getElem?_set_ne (by omega)
  have hjj : ∀ B, (H.set j B)[j]? = some B := fun B => by simp [hjl]
  refine CallOk.body (F0 := [(0, .ptr i 0 0), (1, .int .i64 film)]) Try.func88 rfl Try.ntmps88 Try.results88 rfl (by kernel_rfl) rfl ?_
  rcases snoc_ex ps with hps | ⟨q, p, hps⟩
  · subst hps
    have e0 : addC [] film = [⟨false, film, 1, [], 0⟩] := rfl
    rw [e0]
    (repeat refine PW.seq ?_); refine PW.rg rfl fun K hK => ?_; simp (maxSteps := 3000000) (disch := omega) only [go_sem, ↓reduceIte, reduceCtorEq, pappend, plen, hi, hj]; refine hK _ _ ?_; clear hK K
    (repeat refine PW.seq ?_); refine PW.rg rfl fun K hK => ?_; simp (maxSteps := 3000000) (disch := omega) only [go_sem, ↓reduceIte, reduceCtorEq, pappend, plen, hi, hj]; refine hK _ _ ?_; clear hK K
    (repeat refine PW.seq ?_); refine PW.cond (t := _) rfl (fun h => ?_) (fun h => ?_)
    · cases h
    refine PW.skip ?_
    (repeat refine PW.seq ?_); refine PW.rg rfl fun K hK => ?_; simp (maxSteps := 3000000) (disch := omega) only [go_sem, ↓reduceIte, reduceCtorEq, pappend, plen, hi, hj, hji, hjj, List.flatMap_nil]; refine hK _ _ ?_; clear hK K
    refine ⟨_, rfl, .inl ⟨rfl, ?_⟩⟩
    unfold tw
    rw [List.set_comm _ _ hne]
    rfl
  · have hl : ps.length = q.length + 1 := by rw [hps]; simp
    have hA := pal_len q
    obtain ⟨g0, g2, s2⟩ := five_at (q.flatMap pac) q.length hA (.bool p.cp) (.int .i64 p.film) (.int .i64 p.len) (.str p.m) (.int .i64 p.fr)
    have hcat : ps.flatMap pac = q.flatMap pac ++ [.bool p.cp, .int .i64 p.film, .int .i64 p.len, .str p.m, .int .i64 p.fr] := by rw [hps, pal_snoc]
    have hp := hlen p (by rw [hps]; simp)
    have e1 : ((q.length + 1 : Nat) : Int) - 1 = (q.length : Int) := by omega
    rw [hcat] at hpl
    rw [hl] at hi hj hn hpl
    rw [hcat] at hj
    (repeat refine PW.seq ?_); refine PW.rg rfl fun K hK => ?_; simp (maxSteps := 3000000) (disch := omega) only [go_sem, ↓reduceIte, reduceCtorEq, pappend, plen, hi, hj]; refine hK _ _ ?_; clear hK K
    (repeat refine PW.seq ?_); refine PW.rg rfl fun K hK => ?_; simp (maxSteps := 3000000) (disch := omega) only [go_sem, ↓reduceIte, reduceCtorEq, pappend, plen, hi, hj, hpl, g0, e1]; refine hK _ _ ?_; clear hK K
    (repeat refine PW.seq ?_); refine PW.cond (t := _) rfl (fun h => ?_) (fun h => ?_)
    · have hc : p.cp = false := by simpa using h
      have e0 : addC ps film = q ++ [{ p with len := p.len + 1 }] := by
        unfold addC
        rw [hps, lastC_snoc, bump_snoc]
        simp [hc]
      rw [e0]
      (repeat refine PW.seq ?_); refine PW.rg rfl fun K hK => ?_; simp (maxSteps := 3000000) (disch := omega) only [go_sem, ↓reduceIte, reduceCtorEq, pappend, plen, hi, hj, hpl, g2, s2, e1]; refine hK _ _ ?_; clear hK K
      refine PW.ret ⟨.tup [], by simp (maxSteps := 3000000) (disch := omega) only [go_sem, ↓reduceIte, reduceCtorEq, pappend, plen, presults, presult, List.mapM_cons, List.mapM_nil, Option.pure_def, Option.bind_eq_bind, Option.bind_some, Array.toList], ?_⟩
      refine .inl ⟨rfl, ?_⟩
      unfold tw bb pb
      rw [pal_snoc]
      simp only [List.length_append, List.length_cons, List.length_nil, Nat.zero_add]
      rw [set_id hi]
    · have hc : p.cp = true := by simpa using h
      have e0 : addC ps film = ps ++ [(⟨false, film, 1, [], 0⟩ : Pa)] := by
        unfold addC
        rw [hps, lastC_snoc]
        simp [hc]
      rw [e0]
      refine PW.skip ?_
      (repeat refine PW.seq ?_); refine PW.rg rfl fun K hK => ?_; simp (maxSteps := 3000000) (disch := omega) only [go_sem, ↓reduceIte, reduceCtorEq, pappend, plen, hi, hj, hji, hjj, hpl]; refine hK _ _ ?_; clear hK K
      refine ⟨_, rfl, .inl ⟨rfl, ?_⟩⟩
      unfold tw bb pb
      rw [pal_snoc, hcat, List.set_comm _ _ hne]
      have e9 : q.length * 5 + 10 = (q.length + 1 + 1) * 5 := by omega
      simp [hl, -List.length_flatMap, hA, e9]

theorem tw_sc {H : Heap} {i j : Nat} {A B : Blk} (hA : ∀ x ∈ A.cells, Scoped H.length x) (hB : ∀ x ∈ B.cells, Scoped H.length x) (h : HSc H) : HSc (tw H i j A B) :=
  HSc.set (HSc.set h hA) (by rw [List.length_set]; exact hB)
theorem pb_sc (n : Nat) (ps : List Pa) : ∀ x ∈ (pb ps).cells, Scoped n x := pal_sc n ps
theorem bb_sc (n j k : Nat) (h : j < n) : ∀ x ∈ (bb j k).cells, Scoped n x := fun x hx => by
  simp only [bb, List.mem_singleton] at hx
  rw [hx]; exact .msl h

set_option maxHeartbeats 2000000 in
theorem copyB_ok (ps : List Pa) (film : Int) (c : Bool) (m : List UInt8) (n k : Int) (jn : Bool) (i j : Nat) (H : Heap) (h : BdH H i j ps) (hjn : jn = true → ps ≠ []) : CallOk Try.prog 127 [.ptr i 0 0, .int .i64 film, .agg [.bool c, .str m, .int .i64 n, .int .i64 k], .bool jn] H (.tup []) (tw H i j (bb j (addK ps film m n jn).length) (pb (addK ps film m n jn))) := by
  obtain ⟨hi, hj, hne, hlen, hn⟩ := h
  unfold bb at hi
  unfold pb at hj
  have hil : i < H.length := (List.getElem?_eq_some_iff.1 hi).1
  have hjl : j < H.length := (List.getElem?_eq_some_iff.1 hj).1
  have hpl := pal_len ps
  have hi1 : ∀ K, (H ++ K)[i]? = H[i]? := fun K => List.getElem?_append_left hil
  have hj1 : ∀ K, (H ++ K)[j]? = H[j]? := fun K => List.getElem?_append_left hjl
  have hji : ∀ K B, ((H ++ K).set j B)[i]? = H[i]? := fun K B => by rw [List.getElem?_set_ne (by omega)]; exact hi1 K
  have hjj : ∀ K B, ((H ++ K).set j B)[j]? = some B := fun K B => by rw [List.getElem?_set_self (by simp; omega)]
  have fin : ∀ ps' K, Fin H (.tup []) (tw H i j (bb j ps'.length) (pb ps')) (.tup []) (tw H i j (bb j ps'.length) (pb ps') ++ K) := fun ps' K =>
    Fin.cut rfl (by rw [tw_len]) (tw_sc (bb_sc _ _ _ hjl) (pb_sc _ _)) (.id (.tup (by simp)))
  refine CallOk.body (F0 := [(0, .ptr i 0 0), (1, .int .i64 film), (2, .agg [.bool c, .str m, .int .i64 n, .int .i64 k]), (3, .bool jn)]) Try.func127 rfl Try.ntmps127 Try.results127 rfl (by kernel_rfl) rfl ?_
  (repeat refine PW.seq ?_); refine PW.rg rfl fun K hK => ?_; simp (maxSteps := 3000000) (disch := omega) only [go_sem, ↓reduceIte, reduceCtorEq, pappend, plen]; refine hK _ _ ?_; clear hK K
  (repeat refine PW.seq ?_); refine PW.rg rfl fun K hK => ?_; simp (maxSteps := 3000000) (disch := omega) only [go_sem, ↓reduceIte, reduceCtorEq, pappend, plen]; refine hK _ _ ?_; clear hK K
  (repeat refine PW.seq ?_); refine PW.cond (t := _) rfl (fun h => ?_) (fun h => ?_)
  · rcases snoc_ex ps with hps | ⟨q, p, hps⟩
    · exact absurd hps (hjn h)
    have hl : ps.length = q.length + 1 := by rw [hps]; simp
    have hA := pal_len q
    obtain ⟨g0, g2, s2⟩ := five_at (q.flatMap pac) q.length hA (.bool p.cp) (.int .i64 p.film) (.int .i64 p.len) (.str p.m) (.int .i64 p.fr)
    have hcat : ps.flatMap pac = q.flatMap pac ++ [.bool p.cp, .int .i64 p.film, .int .i64 p.len, .str p.m, .int .i64 p.fr] := by rw [hps, pal_snoc]
    have hp := hlen p (by rw [hps]; simp)
    have e1 : ((q.length + 1 : Nat) : Int) - 1 = (q.length : Int) := by omega
    have e0 : addK ps film m n jn = q ++ [{ p with len := p.len + 1 }] := by
      unfold addK
      rw [h, hps, bump_snoc]
      simp
    rw [hcat] at hpl
    rw [hl] at hi hj hn hpl
    rw [hcat] at hj
    have fin' := fin (addK ps film m n jn)
    rw [e0] at fin' ⊢
    (repeat refine PW.seq ?_); refine PW.drawi [j] [(12, [0]), (16, [0]), (19, [0]), (20, [0]), (23, [0]), (24, [0])] [] [] mix (by kernel_rfl) (by simp <;> omega) fun K hK => ?_
    simp (maxSteps := 3000000) (disch := omega) only [go_sem, ↓reduceIte, reduceCtorEq, pappend, plen, hi1, hj1, hi, hj, hpl, g2, s2, e1]
    refine hK _ _ ?_; clear hK K
    refine PW.ret ⟨_, rfl, ?_⟩
    have e7 := fin' [⟨155, 0, [.bool c, .str m, .int .i64 n, .int .i64 k]⟩]
    unfold tw bb pb at e7 ⊢
    simp only [pal_snoc, List.length_append, List.length_cons, List.length_nil, Nat.zero_add] at e7 ⊢
    rw [set_id hi] at e7 ⊢
    rw [List.set_append_left _ _ hjl]
    exact e7
  · have e0 : addK ps film m n jn = ps ++ [(⟨true, film, 1, m, n⟩ : Pa)] := by
      unfold addK
      rw [h]
      rfl
    have fin' := fin (addK ps film m n jn)
    rw [e0] at fin' ⊢
    refine PW.skip ?_
    (repeat refine PW.seq ?_); refine PW.drawi [j, i] [(29, [0]), (37, [0]), (0, [1]), (25, [1]), (26, [1]), (27, [1]), (28, [1]), (38, [1]), (39, [1])] [] [] mix (by kernel_rfl) (by simp <;> omega) fun K hK => ?_
    simp (maxSteps := 3000000) (disch := omega) only [go_sem, ↓reduceIte, reduceCtorEq, pappend, plen, hi1, hj1, hi, hj, hpl, hji, hjj]
    refine hK _ _ ?_; clear hK K
    refine ⟨_, rfl, ?_⟩
    have e7 := fin' [⟨155, 0, [.bool c, .str m, .int .i64 n, .int .i64 k]⟩]
    have e9 : (ps.flatMap pac).length + (1 + 1 + 1 + 1 + 1) = (ps.length + 1) * 5 := by rw [hpl]; omega
    unfold tw bb pb at e7 ⊢
    simp only [pal_snoc, List.length_append, List.length_cons, List.length_nil, Nat.zero_add] at e7 ⊢
    rw [e9, List.set_append_left _ _ hjl, List.set_append_left _ _ (by rw [List.length_set]; exact hil), List.set_comm _ _ (by omega : j ≠ i)]
    exact e7

end Go.Proofs.Ytnjnikafhbholaa.Sc

namespace Go.Proofs.Ytnjnikafhbholaa.Sc
set_option linter.all false
set_option linter.unusedVariables false
set_option linter.unusedSimpArgs false
open Pm Ty Go.RowKit
open Pl (Pa Sh bump lastC bump_snoc lastC_snoc arr sh kd adj st en)

theorem VCj.wr2 {P : Program} {F : Fr} {H : Heap} {dr : Bool} {ids : List Nat} {fp : Fp} {rs : List (Nat × Nat)} {o : Oper} {K : Fr → Heap → Prop} {g : FuncId} {args : List PV} {v : PV} {i j : Nat} {k l A B : Blk} (hi : H[i]? = some k) (hj : H[j]? = some l) (hne : i ≠ j)
    (h : ∀ L : Heap, L[i]? = some k → L[j]? = some l → CallOk P g args L v (tw L i j A B)) (hwi : (atP ids fp.w).elem i = true) (hwj : (atP ids fp.w).elem j = true) (hvi : (atP ids fp.v).elem i = true) (hvj : (atP ids fp.v).elem j = true)
    (hc : pcallee o.op (slot F) = some (g, args)) (hk : K (put F o.dst v) (tw H i j A B)) : VCj P dr ids fp rs o F H K := by
  unfold VCj
  simp only [hc]
  refine ⟨v, tw H i j A B, ?_, hk⟩
  have wi : i ∈ atP ids fp.w := by simpa [List.elem_eq_mem] using hwi
  have wj : j ∈ atP ids fp.w := by simpa [List.elem_eq_mem] using hwj
  have vi : i ∈ atP ids fp.v := by simpa [List.elem_eq_mem] using hvi
  have vj : j ∈ atP ids fp.v := by simpa [List.elem_eq_mem] using hvj
  have upd : ∀ L : Heap, L[i]? = some k → L[j]? = some l → Upd ids fp L (tw L i j A B) := fun L hi hj => by
    have u1 : Upd ids fp L (L.set i A) := Upd.set hi wi (.inr vi)
    have u2 : Upd ids fp (L.set i A) ((L.set i A).set j B) := Upd.set (k := l) (by rw [List.getElem?_set_ne hne]; exact hj) wj (.inr vj)
    exact ⟨by rw [tw_len], fun x hx => (u2.out x hx).trans (u1.out x hx), fun x hx => Eq.trans (u2.ver x hx) (u1.ver x hx)⟩
  cases dr with
  | false => exact h H hi hj
  | true =>
    refine ⟨upd H hi hj, fun L hL => ?_⟩
    have li := (hL.inn i (.inr wi)).trans hi
    have lj := (hL.inn j (.inr wj)).trans hj
    refine ⟨tw L i j A B, by unfold StI; rw [hc]; exact h L li lj, upd L li lj, fun x hx => ?_⟩
    have hlen := hL.len
    have hij : i < H.length ∧ j < H.length := ⟨(List.getElem?_eq_some_iff.1 hi).1, (List.getElem?_eq_some_iff.1 hj).1⟩
    by_cases e2 : x = j
    · subst e2
      rw [tw_1 _ _ _ _ _ (by omega), tw_1 _ _ _ _ _ (by omega)]
    by_cases e1 : x = i
    · subst e1
      rw [tw_0 _ _ _ _ _ ⟨by omega, hne⟩, tw_0 _ _ _ _ _ ⟨by omega, hne⟩]
    unfold tw
    rw [List.getElem?_set_ne (by omega), List.getElem?_set_ne (by omega), List.getElem?_set_ne (by omega), List.getElem?_set_ne (by omega)]
    exact hL.inn x (.inr hx)

/-- A frame of a film, in memory. -/
def soc : Option Sh → List PV
  | some x => [.bool true, .str x.m, .int .i64 x.n, .int .i64 x.k]
  | none => [.bool false, .str [], .int .i64 0, .int .i64 0]
theorem soc_eq (o : Option Sh) : soc o = [.bool o.isSome, .str (Pl.shm o), .int .i64 (Pl.shn o), .int .i64 (kd o)] := by cases o <;> rfl
theorem soc_len (o : Option Sh) : (soc o).length = 4 := by cases o <;> rfl
theorem soc_sc (n : Nat) (o : Option Sh) : ∀ x ∈ soc o, Scoped n x := fun x hx => by
  cases o <;> simp only [soc, List.mem_cons, List.not_mem_nil, or_false] at hx <;> rcases hx with rfl | rfl | rfl | rfl <;> first | exact .bool _ | exact .str _ | exact .int _ _
theorem sol_sc (n : Nat) (l : List (Option Sh)) : ∀ x ∈ l.flatMap soc, Scoped n x := fun x hx => by
  obtain ⟨p, _, h⟩ := List.mem_flatMap.1 hx
  exact soc_sc n p x h
theorem sol_len (l : List (Option Sh)) : (l.flatMap soc).length = l.length * 4 := fm_len soc 4 soc_len l
theorem sh_getD (l : List (Option Sh)) (k : Nat) : l.getD k none = sh l k := by
  unfold sh
  rw [List.getD_eq_getElem?_getD]
  cases l[k]? with
  | none => rfl
  | some x => rfl
theorem sol_at (l : List (Option Sh)) (k : Nat) (h : k < l.length) : ((l.flatMap soc).drop (k * 4)).take 4 = soc (sh l k) := by
  rw [← sh_getD]; exact fm_at soc 4 soc_len none l k h
theorem get_of_take {xs : List PV} {k m j : Nat} {ys : List PV} (h : (xs.drop (k * m)).take m = ys) (hj : j < m) : xs[k * m + j]? = ys[j]? := by
  rw [← h, List.getElem?_take_of_lt hj, List.getElem?_drop]
/-- The parts after k frames of a run that begins at frame a. -/
def qs (l : List (Option Sh)) (t : Nat → Bool) (a : Nat) (ps : List Pa) : Nat → List Pa
  | 0 => ps
  | k + 1 => if t k then addK (qs l t a ps k) ((a + k : Nat) : Int) (Pl.shm (sh l (a + k))) (Pl.shn (sh l (a + k))) (decide (0 < k) && t (k - 1)) else addC (qs l t a ps k) ((a + k : Nat) : Int)

theorem fm_drop {α : Type} (en : α → List PV) (m : Nat) (h : ∀ x, (en x).length = m) : ∀ (l : List α) (a : Nat), (l.flatMap en).drop (a * m) = (l.drop a).flatMap en
  | l, 0 => by simp
  | [], a + 1 => by simp
  | x :: r, a + 1 => by
    rw [List.flatMap_cons, show (a + 1) * m = (en x).length + a * m by rw [h, Nat.succ_mul]; omega, ← List.drop_drop, List.drop_left, fm_drop en m h r a, List.drop_succ_cons]
theorem fm_take {α : Type} (en : α → List PV) (m : Nat) (h : ∀ x, (en x).length = m) : ∀ (l : List α) (a : Nat), (l.flatMap en).take (a * m) = (l.take a).flatMap en
  | l, 0 => by simp
  | [], a + 1 => by simp
  | x :: r, a + 1 => by
    rw [List.flatMap_cons, List.take_succ_cons, List.flatMap_cons, show (a + 1) * m = (en x).length + a * m by rw [h, Nat.succ_mul]; omega, List.take_length_add_append, fm_take en m h r a]
theorem sol_sub (l : List (Option Sh)) (a n : Nat) : ((l.flatMap soc).drop (a * 4)).take (n * 4) = ((l.drop a).take n).flatMap soc := by
  rw [fm_drop soc 4 soc_len, fm_take soc 4 soc_len]
theorem sh_sub (l : List (Option Sh)) (a n k : Nat) (h : k < n) : sh ((l.drop a).take n) k = sh l (a + k) := by
  unfold sh
  rw [List.getElem?_take_of_lt h, List.getElem?_drop]
/-- Bounds of the parts. -/
def PB (B : Nat) (ps : List Pa) : Prop := (∀ p ∈ ps, 0 ≤ p.len ∧ p.len ≤ B) ∧ ps.length ≤ B
theorem PB.bump {B : Nat} {ps : List Pa} (h : PB B ps) : PB (B + 1) (bump ps) := by
  rcases snoc_ex ps with rfl | ⟨q, p, rfl⟩
  · exact ⟨fun p hp => by simp [Pl.bump] at hp, by simp [Pl.bump]⟩
  · rw [bump_snoc]
    have hp := h.1 p (by simp)
    have hl := h.2
    simp only [List.length_append, List.length_cons, List.length_nil] at hl
    refine ⟨fun x hx => ?_, by simp; omega⟩
    rcases List.mem_append.1 hx with hx | hx
    · have := h.1 x (by simp [hx]); omega
    · rw [List.mem_singleton] at hx
      subst hx
      dsimp only
      omega
theorem PB.snoc {B : Nat} {ps : List Pa} {x : Pa} (h : PB B ps) (hx : x.len = 1) : PB (B + 1) (ps ++ [x]) := by
  refine ⟨fun y hy => ?_, by have := h.2; simp; omega⟩
  rcases List.mem_append.1 hy with hy | hy
  · have := h.1 y hy; omega
  · rw [List.mem_singleton] at hy
    rw [hy, hx]; omega
theorem PB.addC {B : Nat} {ps : List Pa} {f : Int} (h : PB B ps) : PB (B + 1) (addC ps f) := by
  unfold Sc.addC
  split
  · exact h.bump
  · exact h.snoc rfl
theorem PB.addK {B : Nat} {ps : List Pa} {f : Int} {m : List UInt8} {n : Int} {j : Bool} (h : PB B ps) : PB (B + 1) (addK ps f m n j) := by
  unfold Sc.addK
  split
  · exact h.bump
  · exact h.snoc rfl
theorem qs_PB (l : List (Option Sh)) (t : Nat → Bool) (a : Nat) (ps : List Pa) {B : Nat} (h : PB B ps) : ∀ k, PB (B + k) (qs l t a ps k)
  | 0 => h
  | k + 1 => by
    simp only [qs]
    split
    · exact (qs_PB l t a ps h k).addK
    · exact (qs_PB l t a ps h k).addC
theorem bump_ne {ps : List Pa} (h : ps ≠ []) : bump ps ≠ [] := by
  rcases snoc_ex ps with rfl | ⟨q, p, rfl⟩
  · exact absurd rfl h
  · rw [bump_snoc]; simp
theorem qs_ne (l : List (Option Sh)) (t : Nat → Bool) (a : Nat) (ps : List Pa) : ∀ k, qs l t a ps (k + 1) ≠ [] := by
  intro k
  induction k with
  | zero =>
    simp only [qs]
    split
    · simp [addK]
    · unfold addC
      split
      · rename_i h
        refine bump_ne fun e => ?_
        rw [e] at h
        simp [lastC] at h
      · simp
  | succ k ih =>
    rw [qs]
    split
    · unfold addK
      split
      · exact bump_ne ih
      · simp
    · unfold addC
      split
      · exact bump_ne ih
      · simp

set_option maxHeartbeats 4000000 in
theorem run_ok (l : List (Option Sh)) (g : Bool) (a e : Nat) (ps : List Pa) (i j : Nat) (H : Heap) (B : Nat) (hi : H[i]? = some (bb j ps.length)) (hj : H[j]? = some (pb ps)) (hne : i ≠ j) (hB : PB B ps) (hBl : B + l.length ≤ 1000000) (hae : a < e) (hel : e ≤ l.length) :
    CallOk Try.prog 90 [.ptr i 0 0, .slice (l.flatMap soc) l.length g, .int .i64 (a : Int), .int .i64 (e : Int)] H (.tup [])
      (tw H i j (bb j (qs l (arr (Pl.tys l a e) (e - a)) a ps (e - a)).length) (pb (qs l (arr (Pl.tys l a e) (e - a)) a ps (e - a)))) := by
  have hil : i < H.length := (List.getElem?_eq_some_iff.1 hi).1
  have hjl : j < H.length := (List.getElem?_eq_some_iff.1 hj).1
  obtain ⟨n, rfl⟩ : ∃ n, e = a + n := ⟨e - a, by omega⟩
  have hn : a + n - a = n := by omega
  rw [hn]
  have hsub := sol_sub l a n
  have hsl := sol_len ((l.drop a).take n)
  have hsat := sol_at ((l.drop a).take n)
  have hln : ((l.drop a).take n).length = n := by simp; omega
  have hss := sh_sub l a n
  have hll := sol_len l
  have hlat := sol_at l
  rw [hln] at hsl hsat
  generalize ((l.drop a).take n) = l' at *
  have hT : (Pl.tys l a (a + n)).length = n := by rw [Pl.tys_len]; omega
  have hTk : ∀ k, k < n → intAt (Pl.tys l a (a + n)) k = kd (sh l (a + k)) := fun k hk => Pl.ty_tys l a (a + n) k (by omega)
  have cpo := fun K => copy_ok (Pl.tys l a (a + n)) false K (by omega)
  rw [hT] at cpo
  generalize Pl.tys l a (a + n) = T at *
  have e1 : ((a + n : Nat) : Int) - (a : Int) = (n : Int) := by omega
  refine CallOk.body (F0 := [(0, .ptr i 0 0), (1, .slice (l.flatMap soc) l.length g), (2, .int .i64 (a : Int)), (3, .int .i64 ((a + n : Nat) : Int))]) Try.func90 rfl Try.ntmps90 Try.results90 rfl (by kernel_rfl) rfl ?_
  (repeat refine PW.seq ?_); refine PW.rg rfl fun K hK => ?_; simp (maxSteps := 3000000) (disch := omega) only [go_sem, ↓reduceIte, reduceCtorEq, pappend, plen, e1]; refine hK _ _ ?_; clear hK K
  (repeat refine PW.seq ?_); refine PW.rg rfl fun K hK => ?_; simp (maxSteps := 3000000) (disch := omega) only [go_sem, ↓reduceIte, reduceCtorEq, pappend, plen, e1, hll, hn, hsub]; refine hK _ _ ?_; clear hK K
  generalize (g && decide (a + n = l.length)) = g'
  simp only [soc_eq] at hsat hlat
  (repeat refine PW.seq ?_); refine PW.block (PW.loop ?_)
  have htk : ∀ k, k < n → T.take (k + 1) = T.take k ++ [intAt T k] := fun k hk => by
    rw [List.take_add_one]
    congr 1
    rw [List.getElem?_eq_getElem (by omega)]
    simp [intAt, hT, hk]
  suffices hl1 : ∀ k : Nat, k ≤ n → PL Try.prog _ _ [(0, .ptr i 0 0), (1, .slice (l.flatMap soc) l.length g), (2, .int .i64 (a : Int)), (8, .msl H.length k 0 k 1 true), (21, .slice (l'.flatMap soc) n g'), (22, .int .i64 (n : Int)), (23, .int .i64 (k : Int))] (H ++ [⟨3, k, is (T.take k)⟩]) _ by
    exact PL.at [0, 1, 2, 8, 21, 22, 23] (hl1 0 (by omega)) rfl rfl
  intro k hk
  induction hd : n - k using Nat.strongRecOn generalizing k with
  | _ d ih =>
    refine PL.round ?_; (repeat refine PW.seq ?_); refine PW.rg rfl fun K hK => ?_; simp (maxSteps := 3000000) (disch := omega) only [go_sem, ↓reduceIte, reduceCtorEq, pappend, plen]; refine hK _ _ ?_; clear hK K
    (repeat refine PW.seq ?_); refine PW.cond (t := _) rfl (fun h => ?_) (fun h => ?_)
    rotate_left
    · have h4 : k = n := by have := of_decide_eq_false h; omega
      subst h4
      refine PW.exit ?_
      rw [List.take_of_length_le (by omega : T.length ≤ k)]
      (repeat refine PW.seq ?_)
      refine PW.view (Vs.trim (F1 := [(0, .ptr i 0 0), (1, .slice (l.flatMap soc) l.length g), (2, .int .i64 (a : Int)), (8, .slice (is T) k false)]) (H1 := H) (fun hh => hh) (Nat.le_refl _) rfl ⟨.id (.ptr hil), .id (sl_scoped (sol_sc _ _)), .id (.int _ _), Fz.mslC (e := 3) (xs := is T) (by omega) (hp0 _ _ _) (by rw [is_len]; omega) (FzC.refl (is_scoped _ _)), trivial⟩) ?_
      (repeat refine PW.seq ?_); refine PW.rg rfl fun K hK => ?_; simp (maxSteps := 3000000) (disch := omega) only [go_sem, ↓reduceIte, reduceCtorEq, pappend, plen]; refine VCx.call (cpo _) rfl ?_; simp (maxSteps := 3000000) (disch := omega) only [go_sem, ↓reduceIte, reduceCtorEq, pappend, plen]; refine hK _ _ ?_; clear hK K
      (repeat refine PW.seq ?_); refine PW.rg rfl fun K hK => ?_; simp (maxSteps := 3000000) (disch := omega) only [go_sem, ↓reduceIte, reduceCtorEq, pappend, plen]; refine hK _ _ ?_; clear hK K
      (repeat refine PW.seq ?_); refine PW.block (PW.loop ?_)
      clear ih hd hsat hsub hsl hss
      have hPB := qs_PB l (arr T k) a ps hB
      have hne' := qs_ne l (arr T k) a ps
      have hstep : ∀ m, qs l (arr T k) a ps (m + 1) = if arr T k m then addK (qs l (arr T k) a ps m) ((a + m : Nat) : Int) (Pl.shm (sh l (a + m))) (Pl.shn (sh l (a + m))) (decide (0 < m) && arr T k (m - 1)) else addC (qs l (arr T k) a ps m) ((a + m : Nat) : Int) := fun m => rfl
      have hq0 : qs l (arr T k) a ps 0 = ps := rfl
      generalize qs l (arr T k) a ps = Q at *
      have hself : tw H i j (bb j ps.length) (pb ps) = H := by unfold tw; rw [set_id hi, set_id hj]
      suffices hl2 : ∀ m : Nat, m ≤ k → PL Try.prog _ _ [(0, .ptr i 0 0), (1, .slice (l.flatMap soc) l.length g), (2, .int .i64 (a : Int)), (11, .slice (fs (rg k (arr T k))) k false), (35, .slice (fs (rg k (arr T k))) k false), (36, .int .i64 (k : Int)), (37, .int .i64 (m : Int))] (tw H i j (bb j (Q m).length) (pb (Q m))) _ by
        refine PL.at [0, 1, 2, 11, 35, 36, 37] (hl2 0 (by omega)) rfl ?_
        rw [hq0, hself]
      intro m hm
      induction hd2 : k - m using Nat.strongRecOn generalizing m with
      | _ d2 ih2 =>
        have hg := tw_0 H i j (bb j (Q m).length) (pb (Q m)) ⟨hil, hne⟩
        have hg' := tw_1 H i j (bb j (Q m).length) (pb (Q m)) hjl
        refine PL.round ?_; (repeat refine PW.seq ?_); refine PW.rg rfl fun K hK => ?_; simp (maxSteps := 3000000) (disch := omega) only [go_sem, ↓reduceIte, reduceCtorEq, pappend, plen]; refine hK _ _ ?_; clear hK K
        (repeat refine PW.seq ?_); refine PW.cond (t := _) rfl (fun h => ?_) (fun h => ?_)
        rotate_left
        · have h5 : m = k := by have := of_decide_eq_false h; omega
          subst h5
          refine PW.exit ?_
          exact ⟨_, rfl, .inl ⟨rfl, rfl⟩⟩
        · have h5 : m < k := by have := of_decide_eq_true h; omega
          have hbd : ∀ L : Heap, L[i]? = some (bb j (Q m).length) → L[j]? = some (pb (Q m)) → BdH L i j (Q m) := fun L a1 a2 => ⟨a1, a2, hne, fun p hp => by have := (hPB m).1 p hp; omega, by have := (hPB m).2; omega⟩
          have hrc := rg_cell k (arr T k) m h5
          have hl6 : (fs (rg k (arr T k))).length = k := by rw [fs_len, rg_len]
          have hst := hstep m
          have e2 : (a : Int) + (m : Int) = ((a + m : Nat) : Int) := by omega
          refine PW.skip ?_; (repeat refine PW.seq ?_); refine PW.block ?_
          (repeat refine PW.seq ?_); refine PW.rg rfl fun K hK => ?_; simp (maxSteps := 3000000) (disch := omega) only [go_sem, ↓reduceIte, reduceCtorEq, pappend, plen, hrc, hl6]; refine hK _ _ ?_; clear hK K
          (repeat refine PW.seq ?_); refine PW.rg rfl fun K hK => ?_; simp (maxSteps := 3000000) (disch := omega) only [go_sem, ↓reduceIte, reduceCtorEq, pappend, plen]; refine hK _ _ ?_; clear hK K
          (repeat refine PW.seq ?_); refine PW.cond (t := _) rfl (fun h => ?_) (fun h => ?_)
          · have h6 : arr T k m = true := by simpa using h
            rw [if_pos h6] at hst
            have hla := hlat (a + m) (by omega)
            have hcb : ∀ L, L[i]? = some (bb j (Q m).length) → L[j]? = some (pb (Q m)) → CallOk Try.prog 127 [.ptr i 0 0, .int .i64 ((a + m : Nat) : Int), .agg [.bool (sh l (a + m)).isSome, .str (Pl.shm (sh l (a + m))), .int .i64 (Pl.shn (sh l (a + m))), .int .i64 (kd (sh l (a + m)))], .bool (decide (0 < m) && arr T k (m - 1))] L (.tup []) (tw L i j (bb j (Q (m + 1)).length) (pb (Q (m + 1)))) := fun L a1 a2 => by
              rw [hst]
              exact copyB_ok _ _ _ _ _ _ _ _ _ _ (hbd L a1 a2) (fun hj1 => by
                cases m with
                | zero => simp at hj1
                | succ m => exact hne' m)
            have hrp : 0 < m → (fs (rg k (arr T k)))[m - 1]? = some (.bool (arr T k (m - 1))) := fun _ => rg_cell k (arr T k) (m - 1) (by omega)
            by_cases hm0 : m = 0
            · subst hm0
              have hd0 : (decide (0 < 0) && arr T k (0 - 1)) = false := rfl
              rw [hd0] at hcb
              simp only [Nat.add_zero] at hla hcb e2
              (repeat refine PW.seq ?_); refine PW.drawi [i, j] [(43, [0, 1]), (0, [0, 1])] [] [] mix (by kernel_rfl) (by simp <;> omega) fun K hK => ?_
              simp (maxSteps := 3000000) (disch := omega) only [go_sem, ↓reduceIte, reduceCtorEq, pappend, plen, e2, hla, hll]
              refine VCj.wr2 hg hg' hne hcb (by simp (maxSteps := 3000000) (disch := omega) only [go_sem, ↓reduceIte, reduceCtorEq, pappend, plen]) (by simp (maxSteps := 3000000) (disch := omega) only [go_sem, ↓reduceIte, reduceCtorEq, pappend, plen]) (by simp (maxSteps := 3000000) (disch := omega) only [go_sem, ↓reduceIte, reduceCtorEq, pappend, plen]) (by simp (maxSteps := 3000000) (disch := omega) only [go_sem, ↓reduceIte, reduceCtorEq, pappend, plen]) rfl ?_
              simp (maxSteps := 3000000) (disch := omega) only [go_sem, ↓reduceIte, reduceCtorEq, pappend, plen]
              refine hK _ _ ?_; clear hK K
              (repeat refine PW.seq ?_); refine PW.rg rfl fun K hK => ?_; simp (maxSteps := 3000000) (disch := omega) only [go_sem, ↓reduceIte, reduceCtorEq, pappend, plen]; refine hK _ _ ?_; clear hK K
              rw [tw_tw _ _ _ _ _ _ _ hne]
              exact PL.at [0, 1, 2, 11, 35, 36, 37] (ih2 (k - (0 + 1)) (by omega) (0 + 1) (by omega) rfl) rfl rfl
            · have hd0 : (decide (0 < m) && arr T k (m - 1)) = arr T k (m - 1) := by simp [show 0 < m by omega]
              rw [hd0] at hcb
              have hrp' := hrp (by omega)
              have e3 : ((m : Int) - 1) = ((m - 1 : Nat) : Int) := by omega
              (repeat refine PW.seq ?_); refine PW.drawi [i, j] [(43, [0, 1]), (0, [0, 1])] [] [] mix (by kernel_rfl) (by simp <;> omega) fun K hK => ?_
              simp (maxSteps := 3000000) (disch := omega) only [go_sem, ↓reduceIte, reduceCtorEq, pappend, plen, e2, e3, hla, hll, hrp', hl6]
              refine VCj.wr2 hg hg' hne hcb (by simp (maxSteps := 3000000) (disch := omega) only [go_sem, ↓reduceIte, reduceCtorEq, pappend, plen]) (by simp (maxSteps := 3000000) (disch := omega) only [go_sem, ↓reduceIte, reduceCtorEq, pappend, plen]) (by simp (maxSteps := 3000000) (disch := omega) only [go_sem, ↓reduceIte, reduceCtorEq, pappend, plen]) (by simp (maxSteps := 3000000) (disch := omega) only [go_sem, ↓reduceIte, reduceCtorEq, pappend, plen]) rfl ?_
              simp (maxSteps := 3000000) (disch := omega) only [go_sem, ↓reduceIte, reduceCtorEq, pappend, plen]
              refine hK _ _ ?_; clear hK K
              (repeat refine PW.seq ?_); refine PW.rg rfl fun K hK => ?_; simp (maxSteps := 3000000) (disch := omega) only [go_sem, ↓reduceIte, reduceCtorEq, pappend, plen]; refine hK _ _ ?_; clear hK K
              rw [tw_tw _ _ _ _ _ _ _ hne]
              exact PL.at [0, 1, 2, 11, 35, 36, 37] (ih2 (k - (m + 1)) (by omega) (m + 1) (by omega) rfl) rfl rfl
          · have h6 : arr T k m = false := by simpa using h
            rw [if_neg (by rw [h6]; decide)] at hst
            have hco : ∀ L, L[i]? = some (bb j (Q m).length) → L[j]? = some (pb (Q m)) → CallOk Try.prog 88 [.ptr i 0 0, .int .i64 ((a + m : Nat) : Int)] L (.tup []) (tw L i j (bb j (Q (m + 1)).length) (pb (Q (m + 1)))) := fun L a1 a2 => by
              rw [hst]
              exact code_ok _ _ _ _ _ (hbd L a1 a2)
            (repeat refine PW.seq ?_); refine PW.rg rfl fun K hK => ?_; simp (maxSteps := 3000000) (disch := omega) only [go_sem, ↓reduceIte, reduceCtorEq, pappend, plen, e2]
            refine VCx.call (hco _ hg hg') rfl ?_; simp (maxSteps := 3000000) (disch := omega) only [go_sem, ↓reduceIte, reduceCtorEq, pappend, plen]
            refine hK _ _ ?_; clear hK K
            (repeat refine PW.seq ?_); refine PW.rg rfl fun K hK => ?_; simp (maxSteps := 3000000) (disch := omega) only [go_sem, ↓reduceIte, reduceCtorEq, pappend, plen]; refine hK _ _ ?_; clear hK K
            rw [tw_tw _ _ _ _ _ _ _ hne]
            exact PL.at [0, 1, 2, 11, 35, 36, 37] (ih2 (k - (m + 1)) (by omega) (m + 1) (by omega) rfl) rfl rfl
    · have h4 : k < n := by have := of_decide_eq_true h; omega
      have hla := hsat k h4
      rw [hss k h4] at hla
      have htk' := htk k h4
      have hTk' := hTk k h4
      refine PW.skip ?_; (repeat refine PW.seq ?_); refine PW.block ?_
      have hit : (is (T.take k)).length = k := by rw [is_len, List.length_take]; omega
      have hnx : is (T.take k) ++ [PV.int .i64 (kd (sh l (a + k)))] = is (T.take (k + 1)) := by
        rw [htk', is_append, hTk']; rfl
      have hnl : (is (T.take (k + 1))).length = k + 1 := by rw [is_len, List.length_take]; omega
      (repeat refine PW.seq ?_); refine PW.rg rfl fun K hK => ?_; simp (maxSteps := 3000000) (disch := omega) only [go_sem, ↓reduceIte, reduceCtorEq, pappend, plen, hla, hsl]; refine hK _ _ ?_; clear hK K
      (repeat refine PW.seq ?_); refine PW.rg rfl fun K hK => ?_; simp (maxSteps := 3000000) (disch := omega) only [go_sem, ↓reduceIte, reduceCtorEq, pappend, plen, hit, hnx, hnl]; refine hK _ _ ?_; clear hK K
      (repeat refine PW.seq ?_); refine PW.rg rfl fun K hK => ?_; simp (maxSteps := 3000000) (disch := omega) only [go_sem, ↓reduceIte, reduceCtorEq, pappend, plen]; refine hK _ _ ?_; clear hK K
      refine PL.view (Vs.trim (F1 := [(0, .ptr i 0 0), (1, .slice (l.flatMap soc) l.length g), (2, .int .i64 (a : Int)), (8, .msl H.length (k + 1) 0 (k + 1) 1 true), (21, .slice (l'.flatMap soc) n g'), (22, .int .i64 (n : Int)), (23, .int .i64 ((k + 1 : Nat) : Int))]) (H1 := H ++ [⟨3, k + 1, is (T.take (k + 1))⟩]) (hsc_snoc (is_scoped _ _)) (by simp) (List.append_assoc _ [_] [_]).symm ?_) (ih (n - (k + 1)) (by omega) (k + 1) (by omega) rfl)
      rw [List.length_append]
      simp only [List.length_cons, List.length_nil]
      exact ⟨.id (.ptr (by omega)), .id (sl_scoped (sol_sc _ _)), .id (.int _ _), .id (.msl (by omega)), .id (sl_scoped (sol_sc _ _)), .id (.int _ _), .id (.int _ _), trivial⟩

end Go.Proofs.Ytnjnikafhbholaa.Sc

namespace Go.Proofs.Ytnjnikafhbholaa.Sc
set_option linter.all false
set_option linter.unusedVariables false
set_option linter.unusedSimpArgs false
open Pm Ty Go.RowKit
open Pl (Pa Sh bump lastC bump_snoc lastC_snoc arr sh kd adj st en)

def ixAt (M : List Ix) (k : Nat) : Ix := M.getD k ix0
/-- The first of the first n indexes that has a name. -/
def fnd (M : List Ix) (s : List UInt8) : Nat → Option Nat
  | 0 => none
  | n + 1 => match fnd M s n with
    | some k => some k
    | none => if (ixAt M n).nm = s then some n else none
theorem fnd_lt {M : List Ix} {s : List UInt8} : ∀ {n k : Nat}, fnd M s n = some k → k < n ∧ (ixAt M k).nm = s
  | 0, k, h => by cases h
  | n + 1, k, h => by
    simp only [fnd] at h
    cases hf : fnd M s n with
    | some q => rw [hf] at h; cases h; have := fnd_lt hf; exact ⟨by omega, this.2⟩
    | none =>
      rw [hf] at h
      dsimp only at h
      split at h
      · rename_i he; cases h; exact ⟨by omega, he⟩
      · cases h
def mpe (s : List UInt8) (k : Nat) : PV := .tup [.str s, .int .i64 (k : Int)]
/-- The entries of the map after n indexes. -/
def mpc (M : List Ix) : Nat → List PV
  | 0 => []
  | n + 1 => match fnd M (ixAt M n).nm n with
    | some _ => mpc M n
    | none => mpc M n ++ [mpe (ixAt M n).nm n]
theorem pfind_snoc (d : TypeDesc) (k a v : PV) : ∀ (xs : List PV) (i : Nat), pfind d k (xs ++ [.tup [a, v]]) i = match pfind d k xs i with
    | some (some r) => some (some r)
    | some none => (match peqS d k a with | some true => some (some (i + xs.length, v)) | some false => some none | none => none)
    | none => none
  | [], i => by
    simp only [List.nil_append, pfind, List.length_nil, Nat.add_zero]
    cases peqS d k a with
    | none => rfl
    | some t => cases t <;> rfl
  | x :: r, i => by
    rw [List.cons_append]
    have ih := pfind_snoc d k a v r (i + 1)
    match x with
    | .tup [b, u] =>
      simp only [pfind]
      cases peqS d k b with
      | none => rfl
      | some t =>
        cases t with
        | true => rfl
        | false =>
          dsimp only
          rw [ih, show i + 1 + r.length = i + (.tup [b, u] :: r : List PV).length by simp; omega]
    | .tup [] => rfl
    | .tup [_] => rfl
    | .tup (_ :: _ :: _ :: _) => rfl
    | .int _ _ => rfl
    | .bool _ => rfl
    | .str _ => rfl
    | .nilp => rfl
    | .nl _ => rfl
    | .undef => rfl
    | .ptr _ _ _ => rfl
    | .ip _ _ => rfl
    | .slice _ _ _ => rfl
    | .msl _ _ _ _ _ _ => rfl
    | .mp _ _ => rfl
    | .agg _ => rfl
    | .func _ _ _ => rfl
theorem zr_int : zrT Try.prog 3 = some (.int .i64 0) := by kernel_rfl
theorem peqS_str (s a : List UInt8) : peqS .string (.str s) (.str a) = some (s == a) := rfl
theorem mpc_find (M : List Ix) (s : List UInt8) : ∀ n, (fnd M s n = none → pfind .string (.str s) (mpc M n) 0 = some none) ∧ ∀ k, fnd M s n = some k → ∃ p, pfind .string (.str s) (mpc M n) 0 = some (some (p, .int .i64 (k : Int)))
  | 0 => ⟨fun _ => rfl, fun k h => by cases h⟩
  | n + 1 => by
    obtain ⟨i1, i2⟩ := mpc_find M s n
    simp only [fnd, mpc]
    cases hf : fnd M s n with
    | some q =>
      obtain ⟨p, hp⟩ := i2 q hf
      refine ⟨fun h => (by cases h), fun k h => ?_⟩
      cases h
      cases fnd M (ixAt M n).nm n with
      | some _ => exact ⟨p, hp⟩
      | none =>
        refine ⟨p, ?_⟩
        unfold mpe
        rw [pfind_snoc, hp]
    | none =>
      have hp := i1 hf
      dsimp only
      by_cases he : (ixAt M n).nm = s
      · rw [if_pos he]
        refine ⟨fun h => (by cases h), fun k h => ?_⟩
        cases h
        rw [he, hf]
        dsimp only
        unfold mpe
        rw [pfind_snoc, hp]
        simp only [peqS_str, beq_self_eq_true]
        exact ⟨_, rfl⟩
      · rw [if_neg he]
        refine ⟨fun _ => ?_, fun k h => (by cases h)⟩
        cases fnd M (ixAt M n).nm n with
        | some _ => exact hp
        | none =>
          unfold mpe
          rw [pfind_snoc, hp]
          have : (s == (ixAt M n).nm) = false := by simp; exact fun e => he e.symm
          simp only [peqS_str, this]
theorem mpc_sc (n : Nat) (M : List Ix) : ∀ k, ∀ x ∈ mpc M k, Scoped n x
  | 0, x, hx => by simp [mpc] at hx
  | k + 1, x, hx => by
    simp only [mpc] at hx
    cases hf : fnd M (ixAt M k).nm k with
    | some _ => rw [hf] at hx; exact mpc_sc n M k x hx
    | none =>
      rw [hf] at hx
      rcases List.mem_append.1 hx with hx | hx
      · exact mpc_sc n M k x hx
      · rw [List.mem_singleton] at hx
        rw [hx]
        refine .tup fun j y hy => ?_
        have := List.mem_of_getElem? hy
        simp only [List.mem_cons, List.not_mem_nil, or_false] at this
        rcases this with rfl | rfl
        · exact .str _
        · exact .int _ _
/-- What a frame of a film is. -/
def shOf (s : Sq) (top : Bool) (M : List Ix) (e : Ex) : Option Sh := if e.op = 1 then (match fnd M e.m M.length with | some k => if usb s top (ixAt M k) e.fr then some ⟨e.m, e.fr, (enAt (ixAt M k).en e.fr.toNat).ty⟩ else none | none => none) else none
def exAt (l : List Ex) (k : Nat) : Ex := l.getD k ex0
theorem usb_rng {s : Sq} {top : Bool} {x : Ix} {n : Int} (h : usb s top x n = true) : 0 ≤ n ∧ n < x.en.length := by
  unfold usb at h
  simp only [Bool.and_eq_true, decide_eq_true_eq] at h
  exact ⟨h.2.1, h.2.2.1⟩
/-- The frames, of which the first j are known. -/
def shK (l : List (Option Sh)) (n j : Nat) : List (Option Sh) := l.take j ++ List.replicate (n - j) none
theorem fm_splice (l : List (Option Sh)) (j : Nat) (x : Option Sh) (h : j < l.length) : (l.flatMap soc).take (j * 4) ++ (soc x ++ (l.flatMap soc).drop (j * 4 + 4)) = (l.set j x).flatMap soc := by
  rw [fm_take soc 4 soc_len, show j * 4 + 4 = (j + 1) * 4 by omega, fm_drop soc 4 soc_len, ← List.flatMap_cons, ← List.flatMap_append, List.set_eq_take_append_cons_drop, if_pos h]
theorem shK_len (l : List (Option Sh)) (j : Nat) (h : j ≤ l.length) : (shK l l.length j).length = l.length := by simp [shK]; omega
theorem shK_set (l : List (Option Sh)) (j : Nat) (h : j < l.length) : (shK l l.length j).set j (sh l j) = shK l l.length (j + 1) := by
  unfold shK
  rw [List.set_append_right _ _ (by rw [List.length_take]; exact Nat.min_le_left _ _), List.length_take, Nat.min_eq_left (by omega), Nat.sub_self, show l.length - j = (l.length - (j + 1)) + 1 by omega, List.replicate_succ, List.set_cons_zero, List.take_add_one, List.append_assoc]
  congr 1
  unfold sh
  rw [List.getElem?_eq_getElem h]
  rfl
theorem shK_none (l : List (Option Sh)) (j : Nat) (h : j < l.length) (hn : sh l j = none) : shK l l.length j = shK l l.length (j + 1) := by
  rw [← shK_set l j h, hn]
  symm
  apply List.ext_getElem?
  intro i
  rw [List.getElem?_set]
  split
  · rename_i e; subst e
    rw [shK_len l j (by omega), if_pos h]
    unfold shK
    rw [List.getElem?_append_right (by rw [List.length_take]; exact Nat.min_le_left _ _), List.length_take, Nat.min_eq_left (by omega), Nat.sub_self, List.getElem?_replicate, if_pos (by omega)]
  · rfl

set_option maxHeartbeats 4000000 in
theorem shots_ok (s : Sq) (top : Bool) (E : List Ex) (g : Bool) (M : List Ix) (g' : Bool) (H : Heap) (hs : SqL s) (hM : ∀ x ∈ M, SqL x.sq ∧ x.en.length ≤ 1000000) (hMl : M.length ≤ 1000000) (hEl : E.length ≤ 1000000) (hEs : ∀ n, ∀ x ∈ E.flatMap exc, Scoped n x) :
    CallOk Try.prog 87 [.agg (sqc s), .bool top, .slice (E.flatMap exc) E.length g, .slice (M.flatMap ixc) M.length g'] H (.slice ((E.map (shOf s top M)).flatMap soc) E.length false) H := by
  have ls := sqc_len s hs
  have cs := sqc_c s
  have ts : (sqc s).take 135 = sqc s := List.take_of_length_le (by omega)
  have hlM := ixl_len M (fun x hx => (hM x hx).1)
  have hat := fun k => fm_at' ixc 137 ix0 M k (fun x hx => ixc_len x (hM x hx).1)
  have hmem := getD_mem ix0 M
  change ∀ k, k < M.length → ixAt M k ∈ M at hmem
  change ∀ k, k < M.length → List.take 137 (List.drop (k * 137) (M.flatMap ixc)) = ixc (ixAt M k) at hat
  have hfm := mpc_find M
  refine CallOk.body (F0 := [(0, .agg (sqc s)), (1, .bool top), (2, .slice (E.flatMap exc) E.length g), (3, .slice (M.flatMap ixc) M.length g')]) Try.func87 rfl Try.ntmps87 Try.results87 rfl (by kernel_rfl) rfl ?_
  (repeat refine PW.seq ?_); refine PW.rg rfl fun K hK => ?_; simp (maxSteps := 3000000) (disch := omega) only [go_sem, ↓reduceIte, reduceCtorEq, pappend, plen, cs]; refine hK _ _ ?_; clear hK K
  (repeat refine PW.seq ?_); refine PW.rg rfl fun K hK => ?_; simp (maxSteps := 3000000) (disch := omega) only [go_sem, ↓reduceIte, reduceCtorEq, pappend, plen]; refine hK _ _ ?_; clear hK K
  (repeat refine PW.seq ?_); refine PW.rg rfl fun K hK => ?_; simp (maxSteps := 3000000) (disch := omega) only [go_sem, ↓reduceIte, reduceCtorEq, pappend, plen]; refine hK _ _ ?_; clear hK K
  (repeat refine PW.seq ?_); refine PW.block (PW.loop ?_)
  have hscM : ∀ k, HSc H → HSc (H ++ [⟨39, 0, sqc s⟩, ⟨191, 0, mpc M k⟩]) := fun k => hscU 2 (by
    intro q hq t ht
    simp only [List.mem_cons, List.not_mem_nil, or_false] at hq
    rcases hq with rfl | rfl
    · exact sqc_sc _ _ _ ht
    · exact mpc_sc _ _ _ _ ht)
  have fzM : ∀ (k : Nat) {F : Fr} {K : Heap}, slot F 1 = .bool top → slot F 2 = .slice (E.flatMap exc) E.length g → slot F 3 = .slice (M.flatMap ixc) M.length g' → slot F 4 = .ptr H.length 0 0 → slot F 9 = .mp (H.length + 1) 0 → slot F 20 = .slice (M.flatMap ixc) M.length g' → slot F 21 = .int .i64 (M.length : Int) → slot F 22 = .int .i64 ((k + 1 : Nat) : Int) → FzF (H ++ [⟨39, 0, sqc s⟩, ⟨191, 0, mpc M (k + 1)⟩] : Heap).length K F [(1, .bool top), (2, .slice (E.flatMap exc) E.length g), (3, .slice (M.flatMap ixc) M.length g'), (4, .ptr H.length 0 0), (9, .mp (H.length + 1) 0), (20, .slice (M.flatMap ixc) M.length g'), (21, .int .i64 (M.length : Int)), (22, .int .i64 ((k + 1 : Nat) : Int))] := fun k F K q1 q2 q3 q4 q5 q6 q7 q8 => by
    refine ⟨?_, ?_, ?_, ?_, ?_, ?_, ?_, ?_, trivial⟩
    · rw [q1]; exact .id (.bool _)
    · rw [q2]; exact .id (sl_scoped (hEs _))
    · rw [q3]; exact .id (sl_scoped (ixl_sc _ _))
    · rw [q4]; exact .id (.ptr (by simp))
    · rw [q5]; exact .id (.mp (by simp))
    · rw [q6]; exact .id (sl_scoped (ixl_sc _ _))
    · rw [q7]; exact .id (.int _ _)
    · rw [q8]; exact .id (.int _ _)
  suffices hl1 : ∀ k : Nat, k ≤ M.length → PL Try.prog _ _ [(1, .bool top), (2, .slice (E.flatMap exc) E.length g), (3, .slice (M.flatMap ixc) M.length g'), (4, .ptr H.length 0 0), (9, .mp (H.length + 1) 0), (20, .slice (M.flatMap ixc) M.length g'), (21, .int .i64 (M.length : Int)), (22, .int .i64 (k : Int))] (H ++ [⟨39, 0, sqc s⟩, ⟨191, 0, mpc M k⟩]) _ by
    exact PL.at [1, 2, 3, 4, 9, 20, 21, 22] (hl1 0 (by omega)) rfl rfl
  intro k hk
  induction hd : M.length - k using Nat.strongRecOn generalizing k with
  | _ d ih =>
    refine PL.round ?_; (repeat refine PW.seq ?_); refine PW.rg rfl fun K hK => ?_; simp (maxSteps := 3000000) (disch := omega) only [go_sem, ↓reduceIte, reduceCtorEq, pappend, plen]; refine hK _ _ ?_; clear hK K
    (repeat refine PW.seq ?_); refine PW.cond (t := _) rfl (fun h => ?_) (fun h => ?_)
    rotate_left
    · have h4 : k = M.length := by have := of_decide_eq_false h; omega
      subst h4
      refine PW.exit ?_
      clear ih hd
      (repeat refine PW.seq ?_); refine PW.rg rfl fun K hK => ?_; simp (maxSteps := 3000000) (disch := omega) only [go_sem, ↓reduceIte, reduceCtorEq, pappend, plen]; refine hK _ _ ?_; clear hK K
      (repeat refine PW.seq ?_); refine PW.rg rfl fun K hK => ?_; simp (maxSteps := 3000000) (disch := omega) only [go_sem, ↓reduceIte, reduceCtorEq, pappend, plen]; refine hK _ _ ?_; clear hK K
      (repeat refine PW.seq ?_); refine PW.block (PW.loop ?_)
      have hfl := hfm
      obtain ⟨l, hl⟩ : ∃ l, E.map (shOf s top M) = l := ⟨_, rfl⟩
      have hll : l.length = E.length := by rw [← hl, List.length_map]
      have hlj : ∀ j, j < E.length → sh l j = shOf s top M (exAt E j) := fun j hj => by
        unfold sh exAt
        rw [← hl, List.getElem?_map, List.getElem?_eq_getElem hj, List.getD_eq_getElem?_getD, List.getElem?_eq_getElem hj]
        rfl
      have hea := fun j => fm_at exc 8 (fun _ => rfl) ex0 E j
      change ∀ j, j < E.length → List.take 8 (List.drop (j * 8) (E.flatMap exc)) = exc (exAt E j) at hea
      have hel := exl_len E
      rw [hl]
      have hsc3 : ∀ j, HSc H → HSc (H ++ [⟨39, 0, sqc s⟩, ⟨191, 0, mpc M M.length⟩, ⟨155, 0, (shK l E.length j).flatMap soc⟩]) := fun j => hscU 3 (by
        intro q hq t ht
        simp only [List.mem_cons, List.not_mem_nil, or_false] at hq
        rcases hq with rfl | rfl | rfl
        · exact sqc_sc _ _ _ ht
        · exact mpc_sc _ _ _ _ ht
        · exact sol_sc _ _ _ ht)
      have fz3 : ∀ (j j' : Nat) {F : Fr} {K : Heap}, slot F 1 = .bool top → slot F 3 = .slice (M.flatMap ixc) M.length g' → slot F 4 = .ptr H.length 0 0 → slot F 9 = .mp (H.length + 1) 0 → slot F 14 = .msl (H.length + 2) 0 0 E.length 4 true → slot F 44 = .slice (E.flatMap exc) E.length g → slot F 45 = .int .i64 (E.length : Int) → slot F 46 = .int .i64 ((j' : Nat) : Int) → FzF (H ++ [⟨39, 0, sqc s⟩, ⟨191, 0, mpc M M.length⟩, ⟨155, 0, (shK l E.length j).flatMap soc⟩] : Heap).length K F [(1, .bool top), (3, .slice (M.flatMap ixc) M.length g'), (4, .ptr H.length 0 0), (9, .mp (H.length + 1) 0), (14, .msl (H.length + 2) 0 0 E.length 4 true), (44, .slice (E.flatMap exc) E.length g), (45, .int .i64 (E.length : Int)), (46, .int .i64 ((j' : Nat) : Int))] := fun j j' F K q1 q2 q3 q4 q5 q6 q7 q8 => by
        refine ⟨?_, ?_, ?_, ?_, ?_, ?_, ?_, ?_, trivial⟩
        · rw [q1]; exact .id (.bool _)
        · rw [q2]; exact .id (sl_scoped (ixl_sc _ _))
        · rw [q3]; exact .id (.ptr (by simp))
        · rw [q4]; exact .id (.mp (by simp))
        · rw [q5]; exact .id (.msl (by simp))
        · rw [q6]; exact .id (sl_scoped (hEs _))
        · rw [q7]; exact .id (.int _ _)
        · rw [q8]; exact .id (.int _ _)
      suffices hl2 : ∀ j : Nat, j ≤ E.length → PL Try.prog _ _ [(1, .bool top), (3, .slice (M.flatMap ixc) M.length g'), (4, .ptr H.length 0 0), (9, .mp (H.length + 1) 0), (14, .msl (H.length + 2) 0 0 E.length 4 true), (44, .slice (E.flatMap exc) E.length g), (45, .int .i64 (E.length : Int)), (46, .int .i64 (j : Int))] (H ++ [⟨39, 0, sqc s⟩, ⟨191, 0, mpc M M.length⟩, ⟨155, 0, (shK l E.length j).flatMap soc⟩]) _ by
        refine PL.at [1, 3, 4, 9, 14, 44, 45, 46] (hl2 0 (by omega)) rfl ?_
        have : (shK l E.length 0).flatMap soc = (List.replicate E.length [PV.bool false, PV.str [], PV.int IntKind.i64 0, PV.int IntKind.i64 0]).flatten := by
          simp only [shK, List.take_zero, List.nil_append, Nat.sub_zero, List.flatMap, List.map_replicate]
          rfl
        rw [this]
      intro j hj
      induction hd2 : E.length - j using Nat.strongRecOn generalizing j with
      | _ d2 ih2 =>
        have hKl := shK_len l j (by omega)
        rw [hll] at hKl
        have hcl := sol_len (shK l E.length j)
        rw [hKl] at hcl
        refine PL.round ?_; (repeat refine PW.seq ?_); refine PW.rg rfl fun K hK => ?_; simp (maxSteps := 3000000) (disch := omega) only [go_sem, ↓reduceIte, reduceCtorEq, pappend, plen]; refine hK _ _ ?_; clear hK K
        (repeat refine PW.seq ?_); refine PW.cond (t := _) rfl (fun h => ?_) (fun h => ?_)
        rotate_left
        · have h5 : j = E.length := by have := of_decide_eq_false h; omega
          subst h5
          refine PW.exit ?_
          have : shK l E.length E.length = l := by simp [shK, ← hll]
          rw [this] at hcl ⊢
          (repeat refine PW.seq ?_); refine PW.rg rfl fun K hK => ?_; simp (maxSteps := 3000000) (disch := omega) only [go_sem, ↓reduceIte, reduceCtorEq, pappend, plen]; refine hK _ _ ?_; clear hK K
          refine PW.ret ⟨_, rfl, ?_⟩
          exact Fin.base (Fz.mslC (e := 155) (xs := l.flatMap soc) (by omega) (hp2 _ _ _ _ _) (by rw [hcl]) (FzC.refl (sol_sc _ _)))
        · have h5 : j < E.length := by have := of_decide_eq_true h; omega
          have hej := hea j h5
          have hsj := hlj j h5
          generalize hee : exAt E j = e at *
          have hfe := hfl e.m M.length
          obtain ⟨op, m, fr, x3, x4, x5, x6, xs, en', eg⟩ := e
          simp only [exc, shOf] at hej hsj hfe
          have nnn : sh l j = none → shK l E.length j = shK l E.length (j + 1) := fun hh => by
            have := shK_none l j (by omega) hh
            rwa [hll] at this
          refine PW.skip ?_; (repeat refine PW.seq ?_); refine PW.block ?_
          (repeat refine PW.seq ?_); refine PW.rg rfl fun K hK => ?_; simp (maxSteps := 3000000) (disch := omega) only [go_sem, ↓reduceIte, reduceCtorEq, pappend, plen, hej, hel]; refine hK _ _ ?_; clear hK K
          cases hf : fnd M m M.length with
          | none =>
            have hp := hfe.1 hf
            (repeat refine PW.seq ?_); refine PW.rg rfl fun K hK => ?_; simp (maxSteps := 3000000) (disch := omega) only [go_sem, ↓reduceIte, reduceCtorEq, pappend, plen, hp, plook, pmapOf, scalT, zr_int]; refine hK _ _ ?_; clear hK K
            have hno : sh l j = none := by rw [hsj, hf]; split <;> rfl
            rw [nnn hno]
            (repeat refine PW.seq ?_); refine PW.draw mix (by kernel_rfl) fun K hK => ?_; simp (maxSteps := 3000000) (disch := omega) only [go_sem, ↓reduceIte, reduceCtorEq, pappend, plen]
            (repeat' ((first | refine VO_cond (fun h => ?_) (fun h => ?_) | refine VOd_cond (fun h => ?_) (fun h => ?_) | refine VOg_cond (fun h => ?_) (fun h => ?_) | refine VOh_cond (fun h => ?_) (fun h => ?_) | refine VOi_cond (fun h => ?_) (fun h => ?_) | refine And.intro (fun h => ?_) (fun h => ?_)) <;> (try simp only [Bool.not_eq_true', Bool.not_eq_false', decide_eq_true_eq, decide_eq_false_iff_not] at h) <;> simp (maxSteps := 3000000) (disch := omega) only [go_sem, ↓reduceIte, reduceCtorEq, pappend, plen, h]))
            all_goals refine hK _ _ ?_; clear hK K
            all_goals
              (repeat refine PW.seq ?_); refine PW.cond (t := _) rfl (fun h => ?_) (fun h => ?_)
            all_goals first
              | (cases h; done)
              | (refine PW.skip ?_
                 (repeat refine PW.seq ?_); refine PW.rg rfl fun K hK => ?_; simp (maxSteps := 3000000) (disch := omega) only [go_sem, ↓reduceIte, reduceCtorEq, pappend, plen]; refine hK _ _ ?_; clear hK K
                 refine PL.view (Vs.trim (F1 := [(1, .bool top), (3, .slice (M.flatMap ixc) M.length g'), (4, .ptr H.length 0 0), (9, .mp (H.length + 1) 0), (14, .msl (H.length + 2) 0 0 E.length 4 true), (44, .slice (E.flatMap exc) E.length g), (45, .int .i64 (E.length : Int)), (46, .int .i64 ((j + 1 : Nat) : Int))]) (H1 := H ++ [⟨39, 0, sqc s⟩, ⟨191, 0, mpc M M.length⟩, ⟨155, 0, (shK l E.length (j + 1)).flatMap soc⟩]) (hsc3 _) (by simp) (List.append_assoc _ [_, _, _] [_]).symm (fz3 _ _ rfl rfl rfl rfl rfl rfl rfl rfl)) (ih2 (E.length - (j + 1)) (by omega) (j + 1) (by omega) rfl))
          | some q =>
            obtain ⟨p, hp⟩ := hfe.2 q hf
            rw [hf] at hsj
            dsimp only at hsj
            have hq := fnd_lt hf
            have hx := hM _ (hmem q hq.1)
            have hxa := hat q hq.1
            have lx := ixc_len _ hx.1
            have x136 := get_of_take (j := 136) hxa (by omega)
            have x136' : (ixc (ixAt M q))[136]? = some (.slice ((ixAt M q).en.flatMap enc) (ixAt M q).en.length (ixAt M q).g) := by
              unfold ixc
              rw [List.getElem?_cons_succ, List.getElem?_append_right (by rw [sqc_len _ hx.1]; omega), sqc_len _ hx.1]
              rfl
            rw [x136'] at x136
            have uo := fun K => usb_ok s top (ixAt M q) fr K hs hx.1 (by omega)
            have hrng := fun hh : usb s top (ixAt M q) fr = true => usb_rng hh
            have hE5 := fm_len enc 5 (fun _ => rfl) (ixAt M q).en
            have hEat := fun (h0 : 0 ≤ fr) (h1 : fr < (ixAt M q).en.length) => get_of_take (j := 0) (fm_at enc 5 (fun _ => rfl) ⟨0, false, 0, false, false⟩ (ixAt M q).en fr.toNat (by omega)) (by omega)
            change ∀ (h0 : 0 ≤ fr) (h1 : fr < (ixAt M q).en.length), ((ixAt M q).en.flatMap enc)[fr.toNat * 5 + 0]? = (enc (enAt (ixAt M q).en fr.toNat))[0]? at hEat
            have hspl := fm_splice (shK l E.length j) j (sh l j) (by omega)
            have hset := shK_set l j (by omega)
            rw [hll] at hset
            rw [hset] at hspl
            have hen := hx.2
            generalize ixAt M q = x at *
            generalize usb s top x fr = u at *
            (repeat refine PW.seq ?_); refine PW.rg rfl fun K hK => ?_; simp (maxSteps := 3000000) (disch := omega) only [go_sem, ↓reduceIte, reduceCtorEq, pappend, plen, hp, plook, pmapOf, scalT]; refine hK _ _ ?_; clear hK K
            by_cases ho : op = 1
            · subst ho
              rw [if_pos rfl] at hsj
              (repeat refine PW.seq ?_); refine PW.draw mix (by kernel_rfl) fun K hK => ?_; simp (maxSteps := 3000000) (disch := omega) only [go_sem, ↓reduceIte, reduceCtorEq, pappend, plen, hxa, hlM, lx, ls, ts]
              (repeat' (first | ((first | refine VO_cond (fun h => ?_) (fun h => ?_) | refine VOd_cond (fun h => ?_) (fun h => ?_) | refine VOg_cond (fun h => ?_) (fun h => ?_) | refine VOh_cond (fun h => ?_) (fun h => ?_) | refine VOi_cond (fun h => ?_) (fun h => ?_) | refine And.intro (fun h => ?_) (fun h => ?_)) <;> (try simp only [Bool.not_eq_true', Bool.not_eq_false', decide_eq_true_eq, decide_eq_false_iff_not] at h) <;> simp (maxSteps := 3000000) (disch := omega) only [go_sem, ↓reduceIte, reduceCtorEq, pappend, plen, hxa, hlM, lx, ls, ts, h]) | (refine VCx.call (uo _) rfl ?_; simp (maxSteps := 3000000) (disch := omega) only [go_sem, ↓reduceIte, reduceCtorEq, pappend, plen, hxa, hlM, lx, ls, ts]) | (refine VCy.call (uo _) rfl ?_; simp (maxSteps := 3000000) (disch := omega) only [go_sem, ↓reduceIte, reduceCtorEq, pappend, plen, hxa, hlM, lx, ls, ts]) | (refine VCz.call (fun _ => uo _) rfl ?_; simp (maxSteps := 3000000) (disch := omega) only [go_sem, ↓reduceIte, reduceCtorEq, pappend, plen, hxa, hlM, lx, ls, ts]) | (refine VCk.call (fun _ _ => uo _) rfl ?_; simp (maxSteps := 3000000) (disch := omega) only [go_sem, ↓reduceIte, reduceCtorEq, pappend, plen, hxa, hlM, lx, ls, ts])))
              all_goals refine hK _ _ ?_; clear hK K
              (repeat refine PW.seq ?_); refine PW.cond (t := _) rfl (fun h => ?_) (fun h => ?_)
              · have hu : u = true := by simpa using h
                obtain ⟨h0, h1⟩ := hrng hu
                have hEat' := hEat h0 h1
                simp only [Nat.add_zero] at hEat'
                change _ = some (PV.int .i64 (enAt x.en fr.toNat).ty) at hEat'
                rw [if_pos hu] at hsj
                rw [hsj] at hspl
                have hspl2 : List.take (j * 4) ((shK l E.length j).flatMap soc) ++ PV.bool true :: PV.str m :: PV.int IntKind.i64 fr :: PV.int IntKind.i64 (enAt x.en fr.toNat).ty :: List.drop (j * 4 + (1 + 1 + 1 + 1)) ((shK l E.length j).flatMap soc) = (shK l E.length (j + 1)).flatMap soc := hspl
                (repeat refine PW.seq ?_); refine PW.drawi [H.length + 2] [(14, [0]), (75, [0]), (92, [0])] [] [] mix (by kernel_rfl) (by simp <;> omega) fun K hK => ?_
                simp (maxSteps := 3000000) (disch := omega) only [go_sem, ↓reduceIte, reduceCtorEq, pappend, plen, hlM, x136, hE5, hEat', hcl]
                refine hK _ _ ?_; clear hK K
                (repeat refine PW.seq ?_); refine PW.rg rfl fun K hK => ?_; simp (maxSteps := 3000000) (disch := omega) only [go_sem, ↓reduceIte, reduceCtorEq, pappend, plen]; refine hK _ _ ?_; clear hK K
                rw [hspl2]
                refine PL.view (Vs.trim (F1 := [(1, .bool top), (3, .slice (M.flatMap ixc) M.length g'), (4, .ptr H.length 0 0), (9, .mp (H.length + 1) 0), (14, .msl (H.length + 2) 0 0 E.length 4 true), (44, .slice (E.flatMap exc) E.length g), (45, .int .i64 (E.length : Int)), (46, .int .i64 ((j + 1 : Nat) : Int))]) (H1 := H ++ [⟨39, 0, sqc s⟩, ⟨191, 0, mpc M M.length⟩, ⟨155, 0, (shK l E.length (j + 1)).flatMap soc⟩]) (hsc3 _) (by simp) (List.append_assoc _ [_, _, _] [_]).symm (fz3 _ _ rfl rfl rfl rfl rfl rfl rfl rfl)) (ih2 (E.length - (j + 1)) (by omega) (j + 1) (by omega) rfl)
              · have hu : u = false := by simpa using h
                rw [if_neg (by rw [hu]; decide)] at hsj
                rw [nnn hsj]
                refine PW.skip ?_
                (repeat refine PW.seq ?_); refine PW.rg rfl fun K hK => ?_; simp (maxSteps := 3000000) (disch := omega) only [go_sem, ↓reduceIte, reduceCtorEq, pappend, plen]; refine hK _ _ ?_; clear hK K
                refine PL.view (Vs.trim (F1 := [(1, .bool top), (3, .slice (M.flatMap ixc) M.length g'), (4, .ptr H.length 0 0), (9, .mp (H.length + 1) 0), (14, .msl (H.length + 2) 0 0 E.length 4 true), (44, .slice (E.flatMap exc) E.length g), (45, .int .i64 (E.length : Int)), (46, .int .i64 ((j + 1 : Nat) : Int))]) (H1 := H ++ [⟨39, 0, sqc s⟩, ⟨191, 0, mpc M M.length⟩, ⟨155, 0, (shK l E.length (j + 1)).flatMap soc⟩]) (hsc3 _) (by simp) (List.append_assoc _ [_, _, _] [_]).symm (fz3 _ _ rfl rfl rfl rfl rfl rfl rfl rfl)) (ih2 (E.length - (j + 1)) (by omega) (j + 1) (by omega) rfl)
            · rw [if_neg ho] at hsj
              rw [nnn hsj]
              have hob : (op == 1) = false := by simp [ho]
              (repeat refine PW.seq ?_); refine PW.draw mix (by kernel_rfl) fun K hK => ?_; simp (maxSteps := 3000000) (disch := omega) only [go_sem, ↓reduceIte, reduceCtorEq, pappend, plen, hob]
              refine hK _ _ ?_; clear hK K
              (repeat refine PW.seq ?_); refine PW.cond (t := _) rfl (fun h => ?_) (fun h => ?_)
              · cases h
              refine PW.skip ?_
              (repeat refine PW.seq ?_); refine PW.rg rfl fun K hK => ?_; simp (maxSteps := 3000000) (disch := omega) only [go_sem, ↓reduceIte, reduceCtorEq, pappend, plen]; refine hK _ _ ?_; clear hK K
              refine PL.view (Vs.trim (F1 := [(1, .bool top), (3, .slice (M.flatMap ixc) M.length g'), (4, .ptr H.length 0 0), (9, .mp (H.length + 1) 0), (14, .msl (H.length + 2) 0 0 E.length 4 true), (44, .slice (E.flatMap exc) E.length g), (45, .int .i64 (E.length : Int)), (46, .int .i64 ((j + 1 : Nat) : Int))]) (H1 := H ++ [⟨39, 0, sqc s⟩, ⟨191, 0, mpc M M.length⟩, ⟨155, 0, (shK l E.length (j + 1)).flatMap soc⟩]) (hsc3 _) (by simp) (List.append_assoc _ [_, _, _] [_]).symm (fz3 _ _ rfl rfl rfl rfl rfl rfl rfl rfl)) (ih2 (E.length - (j + 1)) (by omega) (j + 1) (by omega) rfl)
    · have h4 : k < M.length := by have := of_decide_eq_true h; omega
      have hx := hM _ (hmem k h4)
      have hak := hat k h4
      have hnx : mpc M (k + 1) = match fnd M (ixAt M k).nm k with
        | some _ => mpc M k
        | none => mpc M k ++ [mpe (ixAt M k).nm k] := rfl
      have hfk := hfm (ixAt M k).nm k
      have lx := ixc_len _ hx.1
      have cx := ixc_c (ixAt M k)
      have n0 : (ixc (ixAt M k))[0]? = some (.str (ixAt M k).nm) := rfl
      generalize ixAt M k = x at *
      refine PW.skip ?_; (repeat refine PW.seq ?_); refine PW.block ?_
      (repeat refine PW.seq ?_); refine PW.rg rfl fun K hK => ?_; simp (maxSteps := 3000000) (disch := omega) only [go_sem, ↓reduceIte, reduceCtorEq, pappend, plen, hak, hlM, lx, cx]; refine hK _ _ ?_; clear hK K
      cases hf : fnd M x.nm k with
      | some q =>
        rw [hf] at hnx
        dsimp only at hnx
        obtain ⟨p, hp⟩ := hfk.2 q hf
        (repeat refine PW.seq ?_); refine PW.rg rfl fun K hK => ?_; simp (maxSteps := 3000000) (disch := omega) only [go_sem, ↓reduceIte, reduceCtorEq, pappend, plen, n0, lx, hp, plook, pmapOf, scalT]; refine hK _ _ ?_; clear hK K
        (repeat refine PW.seq ?_); refine PW.rg rfl fun K hK => ?_; simp (maxSteps := 3000000) (disch := omega) only [go_sem, ↓reduceIte, reduceCtorEq, pappend, plen]; refine hK _ _ ?_; clear hK K
        (repeat refine PW.seq ?_); refine PW.cond (t := _) rfl (fun h => ?_) (fun h => ?_)
        · cases h
        refine PW.skip ?_
        (repeat refine PW.seq ?_); refine PW.rg rfl fun K hK => ?_; simp (maxSteps := 3000000) (disch := omega) only [go_sem, ↓reduceIte, reduceCtorEq, pappend, plen]; refine hK _ _ ?_; clear hK K
        refine PL.view (Vs.trim (F1 := [(1, .bool top), (2, .slice (E.flatMap exc) E.length g), (3, .slice (M.flatMap ixc) M.length g'), (4, .ptr H.length 0 0), (9, .mp (H.length + 1) 0), (20, .slice (M.flatMap ixc) M.length g'), (21, .int .i64 (M.length : Int)), (22, .int .i64 ((k + 1 : Nat) : Int))]) (H1 := H ++ [⟨39, 0, sqc s⟩, ⟨191, 0, mpc M (k + 1)⟩]) (hscM (k + 1)) (by simp) (by rw [hnx]; exact (List.append_assoc _ [_, _] [_]).symm) ?_) (ih (M.length - (k + 1)) (by omega) (k + 1) (by omega) rfl)
        exact fzM _ rfl rfl rfl rfl rfl rfl rfl rfl
      | none =>
        rw [hf] at hnx
        dsimp only at hnx
        have hp := hfk.1 hf
        (repeat refine PW.seq ?_); refine PW.rg rfl fun K hK => ?_; simp (maxSteps := 3000000) (disch := omega) only [go_sem, ↓reduceIte, reduceCtorEq, pappend, plen, n0, lx, hp, plook, pmapOf, scalT, zr_int]; refine hK _ _ ?_; clear hK K
        (repeat refine PW.seq ?_); refine PW.rg rfl fun K hK => ?_; simp (maxSteps := 3000000) (disch := omega) only [go_sem, ↓reduceIte, reduceCtorEq, pappend, plen]; refine hK _ _ ?_; clear hK K
        (repeat refine PW.seq ?_); refine PW.cond (t := _) rfl (fun h => ?_) (fun h => ?_)
        rotate_left
        · cases h
        (repeat refine PW.seq ?_); refine PW.rg rfl fun K hK => ?_; simp (maxSteps := 3000000) (disch := omega) only [go_sem, ↓reduceIte, reduceCtorEq, pappend, plen, n0, lx, hp, pmset, pmapOf, scalT]; refine hK _ _ ?_; clear hK K
        (repeat refine PW.seq ?_); refine PW.rg rfl fun K hK => ?_; simp (maxSteps := 3000000) (disch := omega) only [go_sem, ↓reduceIte, reduceCtorEq, pappend, plen]; refine hK _ _ ?_; clear hK K
        refine PL.view (Vs.trim (F1 := [(1, .bool top), (2, .slice (E.flatMap exc) E.length g), (3, .slice (M.flatMap ixc) M.length g'), (4, .ptr H.length 0 0), (9, .mp (H.length + 1) 0), (20, .slice (M.flatMap ixc) M.length g'), (21, .int .i64 (M.length : Int)), (22, .int .i64 ((k + 1 : Nat) : Int))]) (H1 := H ++ [⟨39, 0, sqc s⟩, ⟨191, 0, mpc M (k + 1)⟩]) (hscM (k + 1)) (by simp) (by rw [hnx]; exact (List.append_assoc _ [_, _] [_]).symm) ?_) (ih (M.length - (k + 1)) (by omega) (k + 1) (by omega) rfl)
        exact fzM _ rfl rfl rfl rfl rfl rfl rfl rfl

end Go.Proofs.Ytnjnikafhbholaa.Sc

namespace Go.Proofs.Ytnjnikafhbholaa.Sc
set_option linter.all false
set_option linter.unusedVariables false
set_option linter.unusedSimpArgs false
open Pm Ty Go.RowKit
open Pl (Pa Sh arr sh kd adj adjS st en shm shn)

def NB (l : List (Option Sh)) : Prop := ∀ i x, sh l i = some x → 0 ≤ x.n ∧ x.n ≤ 1000000
theorem adj_iff (l : List (Option Sh)) (i : Nat) : adj l i = ((sh l i).isSome && ((sh l (i + 1)).isSome && ((shm (sh l (i + 1)) == shm (sh l i)) && (shn (sh l (i + 1)) == shn (sh l i) + 1)))) := by
  unfold adj
  cases sh l i with
  | none => rfl
  | some x => cases sh l (i + 1) <;> rfl

set_option maxHeartbeats 2000000 in
theorem runEnd_ok (l : List (Option Sh)) (g : Bool) (a : Nat) (x : Sh) (H : Heap) (hx : sh l a = some x) (hN : NB l) (hl : l.length ≤ 1000000) : CallOk Try.prog 89 [.slice (l.flatMap soc) l.length g, .int .i64 (a : Int)] H (.int .i64 (en l a : Int)) H := by
  have hal := Pl.sh_some hx
  have hll := sol_len l
  have hlat := sol_at l
  simp only [soc_eq] at hlat
  have hg0 := fun k hk => get_of_take (j := 0) (hlat k hk) (by omega)
  have hg1 := fun k hk => get_of_take (j := 1) (hlat k hk) (by omega)
  have hg2 := fun k hk => get_of_take (j := 2) (hlat k hk) (by omega)
  simp only [List.getElem?_cons_zero, List.getElem?_cons_succ, Nat.add_zero] at hg0 hg1 hg2
  refine CallOk.body (F0 := [(0, .slice (l.flatMap soc) l.length g), (1, .int .i64 (a : Int))]) Try.func89 rfl Try.ntmps89 Try.results89 rfl (by kernel_rfl) rfl ?_
  (repeat refine PW.seq ?_); refine PW.rg rfl fun K hK => ?_; simp (maxSteps := 3000000) (disch := omega) only [go_sem, ↓reduceIte, reduceCtorEq, pappend, plen]; refine hK _ _ ?_; clear hK K
  (repeat refine PW.seq ?_); refine PW.rg rfl fun K hK => ?_; simp (maxSteps := 3000000) (disch := omega) only [go_sem, ↓reduceIte, reduceCtorEq, pappend, plen]; refine hK _ _ ?_; clear hK K
  (repeat refine PW.seq ?_); refine PW.block (PW.loop ?_)
  suffices hl1 : ∀ e : Nat, a < e → e ≤ l.length → (∀ j, a ≤ j → j + 1 < e → adj l j = true) → PL Try.prog _ _ [(0, .slice (l.flatMap soc) l.length g), (1, .int .i64 (a : Int)), (5, .int .i64 (e : Int))] H _ by
    exact PL.at [0, 1, 5] (hl1 (a + 1) (by omega) (by omega) (fun j h1 h2 => by omega)) rfl rfl
  intro e he1 he2 hadj
  induction hd : l.length - e using Nat.strongRecOn generalizing e with
  | _ d ih =>
    obtain ⟨k, hk⟩ := Pl.run_val hx (e - 1 - a) (fun j h1 h2 => hadj j h1 (by omega))
    rw [show a + (e - 1 - a) = e - 1 by omega] at hk
    have hb := hN _ _ hk
    have hb0 := hN _ _ hx
    have hga := hg1 a hal
    rw [hx] at hga
    change _ = some (PV.str x.m) at hga
    have hgp := hg2 (e - 1) (by omega)
    rw [hk] at hgp
    change _ = some (PV.int .i64 (x.n + ((e - 1 - a : Nat) : Int))) at hgp
    have hai : adj l (e - 1) = ((sh l e).isSome && ((shm (sh l e) == x.m) && (shn (sh l e) == x.n + ((e - 1 - a : Nat) : Int) + 1))) := by
      rw [adj_iff, hk, show e - 1 + 1 = e by omega]
      rfl
    have e3 : ((e : Int) - 1) = ((e - 1 : Nat) : Int) := by omega
    have exitC : adj l (e - 1) = false → en l a = e := fun ha => Pl.en_uniq he1 hadj ha
    refine PL.round ?_
    by_cases hel : e < l.length
    · have h0 := hg0 e hel
      have h1 := hg1 e hel
      have h2 := hg2 e hel
      (repeat refine PW.seq ?_); refine PW.draw mix (by kernel_rfl) fun K hK => ?_; simp (maxSteps := 3000000) (disch := omega) only [go_sem, ↓reduceIte, reduceCtorEq, pappend, plen, h0, h1, h2, hll, hga, hgp, e3, Nat.add_zero]
      (repeat' ((first | refine VO_cond (fun h => ?_) (fun h => ?_) | refine VOd_cond (fun h => ?_) (fun h => ?_) | refine VOg_cond (fun h => ?_) (fun h => ?_) | refine VOh_cond (fun h => ?_) (fun h => ?_) | refine VOi_cond (fun h => ?_) (fun h => ?_) | refine And.intro (fun h => ?_) (fun h => ?_)) <;> (try simp only [Bool.not_eq_true', Bool.not_eq_false', decide_eq_true_eq, decide_eq_false_iff_not] at h) <;> simp (maxSteps := 3000000) (disch := omega) only [go_sem, ↓reduceIte, reduceCtorEq, pappend, plen, h0, h1, h2, hll, hga, hgp, e3, Nat.add_zero, h]))
      all_goals refine hK _ _ ?_; clear hK K
      all_goals
        (repeat refine PW.seq ?_); refine PW.cond (t := _) rfl (fun h => ?_) (fun h => ?_)
      all_goals first
        | (cases h; done)
        | (have ha : adj l (e - 1) = true := by
             rw [hai]
             clear hga hgp hai e3 exitC h0 h1 h2 hlat hg0 hg1 hg2 ih hadj hN
             simp_all
           refine PW.skip ?_
           (repeat refine PW.seq ?_); refine PW.block ?_
           (repeat refine PW.seq ?_); refine PW.rg rfl fun K hK => ?_; simp (maxSteps := 3000000) (disch := omega) only [go_sem, ↓reduceIte, reduceCtorEq, pappend, plen]; refine hK _ _ ?_; clear hK K
           exact PL.at [0, 1, 5] (ih (l.length - (e + 1)) (by omega) (e + 1) (by omega) (by omega) (fun j j1 j2 => by
             by_cases hj : j = e - 1
             · rw [hj]; exact ha
             · exact hadj j j1 (by omega)) rfl) rfl rfl)
        | (have ha : adj l (e - 1) = false := by
             rw [hai]
             clear hga hgp hai e3 exitC h0 h1 h2 hlat hg0 hg1 hg2 ih hadj hN
             simp_all
           refine PW.exit ?_
           (repeat refine PW.seq ?_); refine PW.rg rfl fun K hK => ?_; simp (maxSteps := 3000000) (disch := omega) only [go_sem, ↓reduceIte, reduceCtorEq, pappend, plen]; refine hK _ _ ?_; clear hK K
           (refine PW.ret ⟨_, rfl, ?_⟩; first | refine .inl ⟨?_, rfl⟩ | refine Fin.base (.id' ?_ (.bool _)) | refine Fin.base (.id' ?_ (.int _ _)))
           rw [exitC ha]
           rfl)
    · have : e = l.length := by omega
      subst this
      (repeat refine PW.seq ?_); refine PW.draw mix (by kernel_rfl) fun K hK => ?_; simp (maxSteps := 3000000) (disch := omega) only [go_sem, ↓reduceIte, reduceCtorEq, pappend, plen]
      refine hK _ _ ?_; clear hK K
      (repeat refine PW.seq ?_); refine PW.cond (t := _) rfl (fun h => ?_) (fun h => ?_)
      · cases h
      · have ha : adj l (l.length - 1) = false := by
          cases hh : adj l (l.length - 1) with
          | false => rfl
          | true => have := Pl.adj_lt hh; omega
        refine PW.exit ?_
        (repeat refine PW.seq ?_); refine PW.rg rfl fun K hK => ?_; simp (maxSteps := 3000000) (disch := omega) only [go_sem, ↓reduceIte, reduceCtorEq, pappend, plen]; refine hK _ _ ?_; clear hK K
        (refine PW.ret ⟨_, rfl, ?_⟩; first | refine .inl ⟨?_, rfl⟩ | refine Fin.base (.id' ?_ (.bool _)) | refine Fin.base (.id' ?_ (.int _ _)))
        rw [exitC ha]
        rfl

end Go.Proofs.Ytnjnikafhbholaa.Sc

namespace Go.Proofs.Ytnjnikafhbholaa.Sc
set_option linter.all false
set_option linter.unusedVariables false
set_option linter.unusedSimpArgs false
open Pm Ty Go.RowKit
open Pl (Pa Sh bump lastC bump_snoc lastC_snoc arr sh kd adj st en pts cpd jn ext shm shn tys)

theorem pts_PB (l : List (Option Sh)) : ∀ i, PB i (pts l i)
  | 0 => ⟨fun p hp => by simp [pts] at hp, Nat.le_refl _⟩
  | i + 1 => by
    have ih := pts_PB l i
    simp only [pts, ext]
    split
    · split
      · exact ih.bump
      · exact ih.snoc rfl
    · split
      · exact ih.bump
      · exact ih.snoc rfl
theorem pts_code {l : List (Option Sh)} {i : Nat} (h : cpd l i = false) : pts l (i + 1) = addC (pts l i) (i : Int) := by
  simp only [pts, ext, h]
  rfl
/-- The parts of a run. -/
theorem qs_pts {l : List (Option Sh)} {a : Nat} {x : Sh} (hx : sh l a = some x) (hs : a = 0 ∨ adj l (a - 1) = false) : ∀ k, a + k ≤ en l a → qs l (arr (tys l a (en l a)) (en l a - a)) a (pts l a) k = pts l (a + k)
  | 0, _ => rfl
  | k + 1, hk => by
    have ih := qs_pts hx hs k (by omega)
    obtain ⟨a1, a2, a3⟩ := Pl.en_spec l a
    have c1 : cpd l (a + k) = arr (tys l a (en l a)) (en l a - a) k := by
      rw [Pl.cpd_run hs a2 a3 hx (by omega) (by omega), show a + k - a = k by omega]
    have c2 : cpd l (a + k) = true → jn l (a + k) = (decide (0 < k) && arr (tys l a (en l a)) (en l a - a) (k - 1)) := fun hc => by
      unfold jn
      have hst : st l (a + k) = a := Pl.st_uniq (by omega) (fun j h1 h2 => a2 j h1 (by omega)) hs
      rw [hst, hc, Bool.and_true]
      by_cases h0 : k = 0
      · subst h0; simp
      · have c3 : cpd l (a + k - 1) = arr (tys l a (en l a)) (en l a - a) (k - 1) := by
          rw [Pl.cpd_run hs a2 a3 hx (by omega) (by omega), show a + k - 1 - a = k - 1 by omega]
        rw [c3, decide_eq_true (by omega : a < a + k), decide_eq_true (by omega : 0 < k)]
    rw [qs, ih, ← c1, show a + (k + 1) = a + k + 1 by omega]
    cases hc : cpd l (a + k) with
    | false =>
      rw [pts_code hc]
      rfl
    | true =>
      rw [← c2 hc]
      simp only [pts, ext, hc, if_true]
      rfl

theorem shOf_ok {s : Sq} {top : Bool} {M : List Ix} {e : Ex} {x : Sh} (h : shOf s top M e = some x) : ∃ k, fnd M e.m M.length = some k ∧ usb s top (ixAt M k) e.fr = true ∧ e.op = 1 ∧ x = ⟨e.m, e.fr, (enAt (ixAt M k).en e.fr.toNat).ty⟩ := by
  unfold shOf at h
  split at h
  · rename_i ho
    cases hf : fnd M e.m M.length with
    | none => rw [hf] at h; cases h
    | some k =>
      rw [hf] at h
      dsimp only at h
      split at h
      · rename_i hu; cases h; exact ⟨k, rfl, hu, ho, rfl⟩
      · cases h
  · cases h
theorem sh_map (s : Sq) (top : Bool) (M : List Ix) (E : List Ex) (i : Nat) (h : i < E.length) : sh (E.map (shOf s top M)) i = shOf s top M (exAt E i) := by
  unfold sh exAt
  rw [List.getElem?_map, List.getElem?_eq_getElem h, List.getD_eq_getElem?_getD, List.getElem?_eq_getElem h]
  rfl
theorem sh_ex {s : Sq} {top : Bool} {M : List Ix} {E : List Ex} {i : Nat} {x : Sh} (h : sh (E.map (shOf s top M)) i = some x) : i < E.length ∧ shOf s top M (exAt E i) = some x := by
  have := Pl.sh_some h
  rw [List.length_map] at this
  exact ⟨this, by rw [← sh_map s top M E i this]; exact h⟩
theorem NB_map (s : Sq) (top : Bool) (M : List Ix) (E : List Ex) (hM : ∀ k, k < M.length → (ixAt M k).en.length ≤ 1000000) : NB (E.map (shOf s top M)) := fun i x hx => by
  obtain ⟨_, h⟩ := sh_ex hx
  obtain ⟨k, hf, hu, _, rfl⟩ := shOf_ok h
  have := usb_rng hu
  have := hM k (fnd_lt hf).1
  dsimp only
  omega

set_option maxHeartbeats 4000000 in
theorem make_ok (s : Sq) (top : Bool) (E : List Ex) (g : Bool) (M : List Ix) (g' : Bool) (H : Heap) (hs : SqOk s) (hv : vseq s = true) (hM : ∀ x ∈ M, SqL x.sq ∧ x.en.length ≤ 1000000) (hMl : M.length ≤ 1000000) (hEl : E.length ≤ 256) (hEs : ∀ n, ∀ x ∈ E.flatMap exc, Scoped n x) :
    CallOk Try.prog 39 [.agg (sqc s), .bool top, .slice (E.flatMap exc) E.length g, .slice (M.flatMap ixc) M.length g'] H (.tup [.agg [.slice ((pts (E.map (shOf s top M)) E.length).flatMap pac) (pts (E.map (shOf s top M)) E.length).length false], .int .i64 0]) H := by
  have vo := fun K => vseq_ok s K hs
  rw [hv] at vo
  have so := fun K => shots_ok s top E g M g' K hs.toL hM hMl (by omega) hEs
  have nb := NB_map s top M E (fun k hk => (hM _ (getD_mem ix0 M k hk)).2)
  have hll : (E.map (shOf s top M)).length = E.length := by rw [List.length_map]
  generalize E.map (shOf s top M) = l at *
  have ls := sqc_len s hs.toL
  have cs := sqc_c s
  have ts : (sqc s).take 135 = sqc s := List.take_of_length_le (by omega)
  have hl4 := sol_len l
  have hlat := sol_at l
  simp only [soc_eq] at hlat
  have hg0 := fun k hk => get_of_take (j := 0) (hlat k hk) (by omega)
  simp only [List.getElem?_cons_zero, Nat.add_zero] at hg0
  have hPB := pts_PB l
  have twe : ∀ a b c d C D, tw (H ++ [a, b, c, d]) (H.length + 2) (H.length + 3) C D = H ++ [a, b, C, D] := fun a b c d C D => by
    unfold tw; rw [hs2, hs3]
  refine CallOk.body (F0 := [(0, .agg (sqc s)), (1, .bool top), (2, .slice (E.flatMap exc) E.length g), (3, .slice (M.flatMap ixc) M.length g')]) Try.func39 rfl Try.ntmps39 Try.results39 rfl (by kernel_rfl) rfl ?_
  (repeat refine PW.seq ?_); refine PW.rg rfl fun K hK => ?_; simp (maxSteps := 3000000) (disch := omega) only [go_sem, ↓reduceIte, reduceCtorEq, pappend, plen, cs]; refine hK _ _ ?_; clear hK K
  (repeat refine PW.seq ?_); refine PW.rg rfl fun K hK => ?_; simp (maxSteps := 3000000) (disch := omega) only [go_sem, ↓reduceIte, reduceCtorEq, pappend, plen, ls, ts]; refine VCx.call (vo _) rfl ?_; simp (maxSteps := 3000000) (disch := omega) only [go_sem, ↓reduceIte, reduceCtorEq, pappend, plen, ls, ts]; refine hK _ _ ?_; clear hK K
  (repeat refine PW.seq ?_); refine PW.cond (t := _) rfl (fun h => ?_) (fun h => ?_)
  · cases h
  refine PW.skip ?_
  (repeat refine PW.seq ?_); refine PW.rg rfl fun K hK => ?_; simp (maxSteps := 3000000) (disch := omega) only [go_sem, ↓reduceIte, reduceCtorEq, pappend, plen]; refine hK _ _ ?_; clear hK K
  (repeat refine PW.seq ?_); refine PW.cond (t := _) rfl (fun h => ?_) (fun h => ?_)
  · cases h
  refine PW.skip ?_
  (repeat refine PW.seq ?_); refine PW.rg rfl fun K hK => ?_; simp (maxSteps := 3000000) (disch := omega) only [go_sem, ↓reduceIte, reduceCtorEq, pappend, plen, ls, ts]; refine VCx.call (so _) rfl ?_; simp (maxSteps := 3000000) (disch := omega) only [go_sem, ↓reduceIte, reduceCtorEq, pappend, plen, ls, ts]; refine hK _ _ ?_; clear hK K
  (repeat refine PW.seq ?_); refine PW.rg rfl fun K hK => ?_; simp (maxSteps := 3000000) (disch := omega) only [go_sem, ↓reduceIte, reduceCtorEq, pappend, plen]; refine hK _ _ ?_; clear hK K
  (repeat refine PW.seq ?_); refine PW.rg rfl fun K hK => ?_; simp (maxSteps := 3000000) (disch := omega) only [go_sem, ↓reduceIte, reduceCtorEq, pappend, plen]; refine hK _ _ ?_; clear hK K
  (repeat refine PW.seq ?_)
  refine PW.view (Vs.ghostH (id := H.length + 2) (j := 0) 77 5 (hp2 _ _ _ _ _) rfl) ?_
  (repeat refine PW.seq ?_); refine PW.block (PW.loop ?_)
  suffices hl1 : ∀ i : Nat, i ≤ E.length → (i = 0 ∨ adj l (i - 1) = false) → PL Try.prog _ _ [(8, .ptr (H.length + 1) 0 0), (10, .slice (l.flatMap soc) E.length false), (11, .ptr (H.length + 2) 0 0), (12, .int .i64 (i : Int))] (H ++ [⟨39, 0, sqc s⟩, ⟨71, 0, [.slice [] 0 true]⟩, bb (H.length + 3) (pts l i).length, pb (pts l i)]) _ by
    refine PL.at [8, 10, 11, 12] (hl1 0 (by omega) (.inl rfl)) rfl ?_
    rw [hs2]
    simp [bb, pb, pts]
  intro i hi hst
  induction hd : E.length - i using Nat.strongRecOn generalizing i with
  | _ d ih =>
    have hbd : BdH (H ++ [⟨39, 0, sqc s⟩, ⟨71, 0, [.slice [] 0 true]⟩, bb (H.length + 3) (pts l i).length, pb (pts l i)]) (H.length + 2) (H.length + 3) (pts l i) := ⟨hp2 _ _ _ _ _, hp3 _ _ _ _ _ _, by omega, fun p hp => by have := (hPB i).1 p hp; omega, by have := (hPB i).2; omega⟩
    refine PL.round ?_; (repeat refine PW.seq ?_); refine PW.rg rfl fun K hK => ?_; simp (maxSteps := 3000000) (disch := omega) only [go_sem, ↓reduceIte, reduceCtorEq, pappend, plen]; refine hK _ _ ?_; clear hK K
    (repeat refine PW.seq ?_); refine PW.cond (t := _) rfl (fun h => ?_) (fun h => ?_)
    rotate_left
    · have h4 : i = E.length := by have := of_decide_eq_false h; omega
      subst h4
      refine PW.exit ?_
      (repeat refine PW.seq ?_)
      refine PW.view (Vs.frzCell (id := H.length + 3) (id' := H.length + 2) (j := 0) (hp3 _ _ _ _ _ _) (hp2 _ _ _ _ _) (by omega) rfl (pal_len _)) ?_
      refine PW.eq rfl (show _ = H ++ [⟨39, 0, sqc s⟩, ⟨71, 0, [.slice [] 0 true]⟩, ⟨153, 0, [.slice ((pts l E.length).flatMap pac) (pts l E.length).length false]⟩, ⟨77, (pts l E.length).length * 5 + 1, []⟩] by rw [hs3, hs2]; rfl) ?_
      (repeat refine PW.seq ?_); refine PW.rg rfl fun K hK => ?_; simp (maxSteps := 3000000) (disch := omega) only [go_sem, ↓reduceIte, reduceCtorEq, pappend, plen, hp1, hp2, hs1]; refine hK _ _ ?_; clear hK K
      refine PW.ret ⟨.tup [.agg [.slice ((pts l E.length).flatMap pac) (pts l E.length).length false], .int .i64 0], by simp (maxSteps := 3000000) (disch := omega) only [go_sem, ↓reduceIte, reduceCtorEq, pappend, plen, presults, presult, List.mapM_cons, List.mapM_nil, Option.pure_def, Option.bind_eq_bind, Option.bind_some, Array.toList, hp1], ?_⟩
      refine Fin.base (.id (.tup fun j x hx => ?_))
      have := List.mem_of_getElem? hx
      simp only [List.mem_cons, List.not_mem_nil, or_false] at this
      rcases this with rfl | rfl
      · exact ag_scoped fun x hx => by
          rw [List.mem_singleton] at hx
          rw [hx]; exact sl_scoped (pal_sc _ _)
      · exact .int _ _
    · have h4 : i < E.length := by have := of_decide_eq_true h; omega
      have h0 := hg0 i (by omega)
      refine PW.skip ?_; (repeat refine PW.seq ?_); refine PW.block ?_
      (repeat refine PW.seq ?_); refine PW.rg rfl fun K hK => ?_; simp (maxSteps := 3000000) (disch := omega) only [go_sem, ↓reduceIte, reduceCtorEq, pappend, plen, h0, hl4, hll]; refine hK _ _ ?_; clear hK K
      (repeat refine PW.seq ?_); refine PW.cond (t := _) rfl (fun h => ?_) (fun h => ?_)
      · have h5 : sh l i = none := by
          cases hh : sh l i with
          | none => rfl
          | some x => rw [hh] at h; cases h
        have hco := code_ok (pts l i) (i : Int) _ _ _ hbd
        rw [← pts_code (Pl.cpd_none h5), twe] at hco
        (repeat refine PW.seq ?_); refine PW.rg rfl fun K hK => ?_; simp (maxSteps := 3000000) (disch := omega) only [go_sem, ↓reduceIte, reduceCtorEq, pappend, plen]; refine VCx.call (hco) rfl ?_; simp (maxSteps := 3000000) (disch := omega) only [go_sem, ↓reduceIte, reduceCtorEq, pappend, plen]; refine hK _ _ ?_; clear hK K
        (repeat refine PW.seq ?_); refine PW.rg rfl fun K hK => ?_; simp (maxSteps := 3000000) (disch := omega) only [go_sem, ↓reduceIte, reduceCtorEq, pappend, plen]; refine hK _ _ ?_; clear hK K
        refine PW.exit ?_
        refine PL.at [8, 10, 11, 12] (ih (E.length - (i + 1)) (by omega) (i + 1) (by omega) (.inr ?_) rfl) rfl rfl
        cases hh : adj l (i + 1 - 1) with
        | false => rfl
        | true =>
          obtain ⟨x, y, q, _⟩ := Pl.adj_ex hh
          rw [Nat.add_sub_cancel, h5] at q
          cases q
      · obtain ⟨x, hx⟩ : ∃ x, sh l i = some x := by
          cases hh : sh l i with
          | none => rw [hh] at h; cases h
          | some x => exact ⟨x, rfl⟩
        have hen := Pl.en_spec l i
        have hle := Pl.en_le (l := l) (i := i) (by omega)
        have hro := run_ok l false i (en l i) (pts l i) (H.length + 2) (H.length + 3) _ i hbd.gi hbd.gj (by omega) (hPB i) (by omega) hen.1 hle
        rw [qs_pts hx hst _ (by omega), show i + (en l i - i) = en l i by omega, twe] at hro
        have hre := fun K => runEnd_ok l false i x K hx nb (by omega)
        rw [hll] at hro hre
        refine PW.skip ?_
        (repeat refine PW.seq ?_); refine PW.rg rfl fun K hK => ?_; simp (maxSteps := 3000000) (disch := omega) only [go_sem, ↓reduceIte, reduceCtorEq, pappend, plen]; refine VCx.call (hre _) rfl ?_; simp (maxSteps := 3000000) (disch := omega) only [go_sem, ↓reduceIte, reduceCtorEq, pappend, plen]; refine hK _ _ ?_; clear hK K
        (repeat refine PW.seq ?_); refine PW.rg rfl fun K hK => ?_; simp (maxSteps := 3000000) (disch := omega) only [go_sem, ↓reduceIte, reduceCtorEq, pappend, plen]; refine VCx.call (hro) rfl ?_; simp (maxSteps := 3000000) (disch := omega) only [go_sem, ↓reduceIte, reduceCtorEq, pappend, plen]; refine hK _ _ ?_; clear hK K
        (repeat refine PW.seq ?_); refine PW.rg rfl fun K hK => ?_; simp (maxSteps := 3000000) (disch := omega) only [go_sem, ↓reduceIte, reduceCtorEq, pappend, plen]; refine hK _ _ ?_; clear hK K
        exact PL.at [8, 10, 11, 12] (ih (E.length - en l i) (by omega) (en l i) (by omega) (.inr hen.2.2) rfl) rfl rfl

end Go.Proofs.Ytnjnikafhbholaa.Sc

namespace Go.Proofs.Ytnjnikafhbholaa.Sc
set_option linter.all false
set_option linter.unusedVariables false
set_option linter.unusedSimpArgs false
open Pm Ty Go.RowKit
open Pl (Pa Sh PF PaOk arr sh kd adj st en pts cpd jn ext shm shn tys)

theorem fm_spliceG {α : Type} (en : α → List PV) (m : Nat) (hm : ∀ x, (en x).length = m) (l : List α) (j : Nat) (x : α) (h : j < l.length) : (l.flatMap en).take (j * m) ++ (en x ++ (l.flatMap en).drop (j * m + m)) = (l.set j x).flatMap en := by
  rw [fm_take en m hm, show j * m + m = (j + 1) * m by rw [Nat.succ_mul], fm_drop en m hm, ← List.flatMap_cons, ← List.flatMap_append, List.set_eq_take_append_cons_drop, if_pos h]
/-- What a frame of a plan shows. -/
def fr1 (l : List (Option Sh)) (i : Nat) : Pa := if cpd l i then ⟨!jn l i, 0, 1, shm (sh l i), shn (sh l i)⟩ else pa0
/-- The frames from a to b, of which those below c are known. -/
def outL (l : List (Option Sh)) (a b c : Nat) : List Pa := (List.range (b - a)).map fun k => if a + k < c then fr1 l (a + k) else pa0
theorem outL_len (l : List (Option Sh)) (a b c : Nat) : (outL l a b c).length = b - a := by simp [outL]
theorem outL_same (l : List (Option Sh)) (a b c : Nat) (h : fr1 l c = pa0 ∨ c < a ∨ b ≤ c) : outL l a b (c + 1) = outL l a b c := by
  unfold outL
  apply List.map_congr_left
  intro k hk
  rw [List.mem_range] at hk
  by_cases h1 : a + k < c
  · rw [if_pos h1, if_pos (by omega)]
  · by_cases h2 : a + k = c
    · rw [if_pos (by omega), if_neg h1, h2]
      rcases h with h | h | h
      · exact h
      · omega
      · omega
    · rw [if_neg (by omega), if_neg h1]
theorem outL_get (l : List (Option Sh)) (a b c i : Nat) : (outL l a b c)[i]? = if i < b - a then some (if a + i < c then fr1 l (a + i) else pa0) else none := by
  unfold outL
  rw [List.getElem?_map]
  by_cases h : i < b - a
  · rw [List.getElem?_range h, if_pos h]; rfl
  · rw [List.getElem?_eq_none (by simp; omega), if_neg h]; rfl
theorem outL_set (l : List (Option Sh)) (a b c : Nat) (h1 : a ≤ c) (h2 : c < b) : (outL l a b c).set (c - a) (fr1 l c) = outL l a b (c + 1) := by
  apply List.ext_getElem?
  intro i
  rw [List.getElem?_set, outL_get, outL_get, outL_len]
  by_cases e : c - a = i
  · rw [if_pos e, if_pos (by omega), if_pos (by omega), if_pos (by omega), show a + i = c by omega]
  · rw [if_neg e]
    by_cases h3 : i < b - a
    · rw [if_pos h3, if_pos h3]
      by_cases h4 : a + i < c
      · rw [if_pos h4, if_pos (by omega)]
      · rw [if_neg h4, if_neg (by omega)]
    · rw [if_neg h3, if_neg h3]
theorem outL_coded {l : List (Option Sh)} {a b c : Nat} : ∀ d, (∀ j, c ≤ j → j < c + d → cpd l j = false) → outL l a b (c + d) = outL l a b c
  | 0, _ => rfl
  | d + 1, h => by
    rw [show c + (d + 1) = c + d + 1 by omega, outL_same _ _ _ _ (.inl (by unfold fr1; rw [h (c + d) (by omega) (by omega)]; rfl))]
    exact outL_coded d (fun j h1 h2 => h j h1 (by omega))
theorem outL_zero (l : List (Option Sh)) (a b : Nat) : (outL l a b 0).flatMap pac = (List.replicate (b - a) [PV.bool false, .int .i64 0, .int .i64 0, .str [], .int .i64 0]).flatten := by
  have : outL l a b 0 = List.replicate (b - a) pa0 := by
    unfold outL
    rw [List.eq_replicate_iff]
    refine ⟨by simp, fun x hx => ?_⟩
    obtain ⟨k, _, rfl⟩ := List.mem_map.1 hx
    rw [if_neg (by omega)]
  rw [this, List.flatMap, List.map_replicate]
  rfl
theorem PF.at {l : List (Option Sh)} {pc : Bool} {a n : Nat} {p : Pa} {r : List Pa} (h : PF l pc a (p :: r) n) : ∃ c, PaOk l a c p ∧ (p.cp = false → pc = false) ∧ jn l a = false ∧ PF l (!p.cp) c r n := by
  cases h with
  | cons hp hc hj h => exact ⟨_, hp, hc, hj, h⟩

set_option maxHeartbeats 4000000 in
theorem frames_ok (l : List (Option Sh)) (ps : List Pa) (g : Bool) (n a b : Nat) (H : Heap) (hps : PF l false 0 ps n) (hN : NB l) (hn : n ≤ 1000000) (hpl : ps.length ≤ 1000000) (ha : a ≤ b) (hb : b ≤ n) :
    CallOk Try.prog 45 [.agg [.slice (ps.flatMap pac) ps.length g], .int .i64 (a : Int), .int .i64 (b : Int)] H (.slice ((outL l a b n).flatMap pac) (b - a) false) H := by
  have hp5 := pal_len ps
  have hat := pal_at ps
  have e1 : (b : Int) - (a : Int) = ((b - a : Nat) : Int) := by omega
  have hz := outL_zero l a b
  have hol := fun c => pal_len (outL l a b c)
  simp only [outL_len] at hol
  refine CallOk.body (F0 := [(0, .agg [.slice (ps.flatMap pac) ps.length g]), (1, .int .i64 (a : Int)), (2, .int .i64 (b : Int))]) Try.func45 rfl Try.ntmps45 Try.results45 rfl (by kernel_rfl) rfl ?_
  (repeat refine PW.seq ?_); refine PW.rg rfl fun K hK => ?_; simp (maxSteps := 3000000) (disch := omega) only [go_sem, ↓reduceIte, reduceCtorEq, pappend, plen]; refine hK _ _ ?_; clear hK K
  (repeat refine PW.seq ?_); refine PW.rg rfl fun K hK => ?_; simp (maxSteps := 3000000) (disch := omega) only [go_sem, ↓reduceIte, reduceCtorEq, pappend, plen, e1]; refine hK _ _ ?_; clear hK K
  (repeat refine PW.seq ?_); refine PW.rg rfl fun K hK => ?_; simp (maxSteps := 3000000) (disch := omega) only [go_sem, ↓reduceIte, reduceCtorEq, pappend, plen]; refine hK _ _ ?_; clear hK K
  (repeat refine PW.seq ?_); refine PW.block (PW.loop ?_)
  suffices hl1 : ∀ (j c : Nat) (pc : Bool), j ≤ ps.length → PF l pc c (ps.drop j) n → PL Try.prog _ _ [(1, .int .i64 (a : Int)), (2, .int .i64 (b : Int)), (7, .msl (H.length + 1) 0 0 (b - a) 5 true), (17, .slice (ps.flatMap pac) ps.length g), (18, .int .i64 (ps.length : Int)), (19, .int .i64 (j : Int))] (H ++ [⟨71, 0, [.slice (ps.flatMap pac) ps.length g]⟩, ⟨77, 0, (outL l a b c).flatMap pac⟩]) _ by
    refine PL.at [1, 2, 7, 17, 18, 19] (hl1 0 0 false (by omega) (by simpa using hps)) rfl ?_
    rw [hz]
  intro j c pc hj hpf
  induction hd : ps.length - j using Nat.strongRecOn generalizing j c pc with
  | _ d ih =>
    refine PL.round ?_; (repeat refine PW.seq ?_); refine PW.rg rfl fun K hK => ?_; simp (maxSteps := 3000000) (disch := omega) only [go_sem, ↓reduceIte, reduceCtorEq, pappend, plen]; refine hK _ _ ?_; clear hK K
    (repeat refine PW.seq ?_); refine PW.cond (t := _) rfl (fun h => ?_) (fun h => ?_)
    rotate_left
    · have h4 : j = ps.length := by have := of_decide_eq_false h; omega
      subst h4
      rw [List.drop_length] at hpf
      cases hpf
      refine PW.exit ?_
      (repeat refine PW.seq ?_); refine PW.rg rfl fun K hK => ?_; simp (maxSteps := 3000000) (disch := omega) only [go_sem, ↓reduceIte, reduceCtorEq, pappend, plen]; refine hK _ _ ?_; clear hK K
      refine PW.ret ⟨_, rfl, ?_⟩
      exact Fin.base (Fz.mslC (e := 77) (xs := (outL l a b n).flatMap pac) (by omega) (hp1 _ _ _ _) (hol n) (FzC.refl (pal_sc _ _)))
    · have h4 : j < ps.length := by have := of_decide_eq_true h; omega
      have hat' := hat j h4
      rw [drop_at ps j h4] at hpf
      obtain ⟨c', hpa, _, _, hrest⟩ := PF.at hpf
      generalize paAt ps j = p at *
      obtain ⟨cp, film, len, m, fr⟩ := p
      obtain ⟨q1, q2, q3, q4, q5⟩ := hpa
      dsimp only at q1 q2 q4 q5 hrest
      have hcn := hrest.le
      simp only [pac] at hat'
      refine PW.skip ?_; (repeat refine PW.seq ?_); refine PW.block ?_
      (repeat refine PW.seq ?_); refine PW.rg rfl fun K hK => ?_; simp (maxSteps := 3000000) (disch := omega) only [go_sem, ↓reduceIte, reduceCtorEq, pappend, plen, hat', hp5]; refine hK _ _ ?_; clear hK K
      (repeat refine PW.seq ?_); refine PW.rg rfl fun K hK => ?_; simp (maxSteps := 3000000) (disch := omega) only [go_sem, ↓reduceIte, reduceCtorEq, pappend, plen]; refine hK _ _ ?_; clear hK K
      (repeat refine PW.seq ?_); refine PW.block (PW.loop ?_)
      suffices hl2 : ∀ t : Nat, c + t ≤ c' → (cp = false → t = 0) → PL Try.prog _ _ [(1, .int .i64 (a : Int)), (2, .int .i64 (b : Int)), (7, .msl (H.length + 1) 0 0 (b - a) 5 true), (9, .ptr (H.length + 2) 0 0), (10, .int .i64 (t : Int)), (17, .slice (ps.flatMap pac) ps.length g), (18, .int .i64 (ps.length : Int)), (19, .int .i64 (j : Int))] (H ++ [⟨71, 0, [.slice (ps.flatMap pac) ps.length g]⟩, ⟨77, 0, (outL l a b (c + t)).flatMap pac⟩, ⟨77, 0, [.bool cp, .int .i64 film, .int .i64 len, .str m, .int .i64 fr]⟩]) _ by
        exact PL.at [1, 2, 7, 9, 10, 17, 18, 19] (hl2 0 (by omega) (fun _ => rfl)) rfl rfl
      intro t ht ht0
      induction hd2 : c' - (c + t) using Nat.strongRecOn generalizing t with
      | _ d2 ih2 =>
        have exit2 : outL l a b (c + t) = outL l a b c' → PL Try.prog _ _ [(1, .int .i64 (a : Int)), (2, .int .i64 (b : Int)), (7, .msl (H.length + 1) 0 0 (b - a) 5 true), (17, .slice (ps.flatMap pac) ps.length g), (18, .int .i64 (ps.length : Int)), (19, .int .i64 ((j + 1 : Nat) : Int))] (H ++ [⟨71, 0, [.slice (ps.flatMap pac) ps.length g]⟩, ⟨77, 0, (outL l a b (c + t)).flatMap pac⟩]) _ := fun e => by
          rw [e]
          exact ih (ps.length - (j + 1)) (by omega) (j + 1) c' (!cp) (by omega) hrest rfl
        refine PL.round ?_
        (repeat refine PW.seq ?_); refine PW.rg rfl fun K hK => ?_; simp (maxSteps := 3000000) (disch := omega) only [go_sem, ↓reduceIte, reduceCtorEq, pappend, plen]; (repeat' ((first | refine VO_cond (fun h => ?_) (fun h => ?_) | refine VOd_cond (fun h => ?_) (fun h => ?_) | refine VOg_cond (fun h => ?_) (fun h => ?_) | refine VOh_cond (fun h => ?_) (fun h => ?_) | refine VOi_cond (fun h => ?_) (fun h => ?_) | refine And.intro (fun h => ?_) (fun h => ?_)) <;> (try simp only [Bool.not_eq_true', Bool.not_eq_false', decide_eq_true_eq, decide_eq_false_iff_not] at h) <;> simp (maxSteps := 3000000) (disch := omega) only [go_sem, ↓reduceIte, reduceCtorEq, pappend, plen, h]))
        all_goals refine hK _ _ ?_; clear hK K
        all_goals
          (repeat refine PW.seq ?_); refine PW.cond (t := _) rfl (fun h => ?_) (fun h => ?_)
        · rename_i htl
          obtain ⟨k1, k2, k, k3⟩ := q5 h (c + t) (by omega) (by omega)
          have hnb := hN _ _ k3
          have hfr := q5 h c (by omega) (by omega)
          obtain ⟨_, _, kk, kk3⟩ := hfr
          have hnb2 := hN _ _ kk3
          dsimp only at hnb hnb2
          have hf1 : fr1 l (c + t) = ⟨decide (t = 0), 0, 1, m, fr + (t : Int)⟩ := by
            unfold fr1
            rw [k1, if_pos rfl, k2, k3]
            simp only [shm, shn]
            congr 1
            · rw [Bool.eq_iff_iff]; simp
            · omega
          have hnx := outL_same l a b (c + t)
          have hset := outL_set l a b (c + t)
          have hspl := fm_spliceG pac 5 (fun _ => rfl) (outL l a b (c + t)) (c + t - a) (fr1 l (c + t))
          rw [outL_len] at hspl
          have next : ∀ X, X = (outL l a b (c + t + 1)).flatMap pac → PL Try.prog _ _ [(1, .int .i64 (a : Int)), (2, .int .i64 (b : Int)), (7, .msl (H.length + 1) 0 0 (b - a) 5 true), (9, .ptr (H.length + 2) 0 0), (10, .int .i64 ((t + 1 : Nat) : Int)), (17, .slice (ps.flatMap pac) ps.length g), (18, .int .i64 (ps.length : Int)), (19, .int .i64 (j : Int))] (H ++ [⟨71, 0, [.slice (ps.flatMap pac) ps.length g]⟩, ⟨77, 0, X⟩, ⟨77, 0, [.bool cp, .int .i64 film, .int .i64 len, .str m, .int .i64 fr]⟩]) _ := fun X hX => by
            rw [hX]
            exact ih2 (c' - (c + (t + 1))) (by omega) (t + 1) (by omega) (fun hh => by rw [h] at hh; cases hh) rfl
          refine PW.skip ?_; (repeat refine PW.seq ?_); refine PW.block ?_
          have e5 : film + (t : Int) = ((c + t : Nat) : Int) := by omega
          (repeat refine PW.seq ?_); refine PW.rg rfl fun K hK => ?_; simp (maxSteps := 3000000) (disch := omega) only [go_sem, ↓reduceIte, reduceCtorEq, pappend, plen, e5]; refine hK _ _ ?_; clear hK K
          by_cases hin : a ≤ c + t ∧ c + t < b
          · have d1 : decide ((a : Int) ≤ ((c + t : Nat) : Int)) = true := decide_eq_true (by omega)
            have d2 : decide (((c + t : Nat) : Int) < (b : Int)) = true := decide_eq_true (by omega)
            have e6 : ((c + t : Nat) : Int) - (a : Int) = ((c + t - a : Nat) : Int) := by omega
            have e7 : decide (t = 0) = decide ((t : Int) = 0) := by rw [Bool.eq_iff_iff]; simp
            have e8 : ((t : Int) == 0) = decide ((t : Int) = 0) := by rw [Bool.eq_iff_iff]; simp
            have hs5 := hspl (by omega)
            rw [hset hin.1 hin.2, hf1, e7] at hs5
            have hs6 : List.take ((c + t - a) * 5) ((outL l a b (c + t)).flatMap pac) ++ PV.bool (decide ((t : Int) = 0)) :: PV.int .i64 0 :: PV.int .i64 1 :: PV.str m :: PV.int .i64 (fr + (t : Int)) :: List.drop ((c + t - a) * 5 + (1 + 1 + 1 + 1 + 1)) ((outL l a b (c + t)).flatMap pac) = (outL l a b (c + t + 1)).flatMap pac := hs5
            (repeat refine PW.seq ?_); refine PW.rg rfl fun K hK => ?_; simp (maxSteps := 3000000) (disch := omega) only [go_sem, ↓reduceIte, reduceCtorEq, pappend, plen, d1, d2]; refine hK _ _ ?_; clear hK K
            (repeat refine PW.seq ?_); refine PW.cond (t := _) rfl (fun h => ?_) (fun h => ?_)
            rotate_left
            · cases h
            (repeat refine PW.seq ?_); refine PW.rg rfl fun K hK => ?_; simp (maxSteps := 3000000) (disch := omega) only [go_sem, ↓reduceIte, reduceCtorEq, pappend, plen, e6, e8, hol]; refine hK _ _ ?_; clear hK K
            (repeat refine PW.seq ?_); refine PW.rg rfl fun K hK => ?_; simp (maxSteps := 3000000) (disch := omega) only [go_sem, ↓reduceIte, reduceCtorEq, pappend, plen]; refine hK _ _ ?_; clear hK K
            refine PL.at [1, 2, 7, 9, 10, 17, 18, 19] (next _ hs6) rfl rfl
          · have hnx' := hnx (by omega)
            by_cases h7 : a ≤ c + t
            · have d1 : decide ((a : Int) ≤ ((c + t : Nat) : Int)) = true := decide_eq_true (by omega)
              have d2 : decide (((c + t : Nat) : Int) < (b : Int)) = false := decide_eq_false (by omega)
              (repeat refine PW.seq ?_); refine PW.rg rfl fun K hK => ?_; simp (maxSteps := 3000000) (disch := omega) only [go_sem, ↓reduceIte, reduceCtorEq, pappend, plen, d1, d2]; refine hK _ _ ?_; clear hK K
              (repeat refine PW.seq ?_); refine PW.cond (t := _) rfl (fun h => ?_) (fun h => ?_)
              · cases h
              refine PW.skip ?_
              (repeat refine PW.seq ?_); refine PW.rg rfl fun K hK => ?_; simp (maxSteps := 3000000) (disch := omega) only [go_sem, ↓reduceIte, reduceCtorEq, pappend, plen]; refine hK _ _ ?_; clear hK K
              refine PL.at [1, 2, 7, 9, 10, 17, 18, 19] (next _ (by rw [hnx'])) rfl rfl
            · have d1 : decide ((a : Int) ≤ ((c + t : Nat) : Int)) = false := decide_eq_false (by omega)
              (repeat refine PW.seq ?_); refine PW.rg rfl fun K hK => ?_; simp (maxSteps := 3000000) (disch := omega) only [go_sem, ↓reduceIte, reduceCtorEq, pappend, plen, d1]; refine hK _ _ ?_; clear hK K
              (repeat refine PW.seq ?_); refine PW.cond (t := _) rfl (fun h => ?_) (fun h => ?_)
              · cases h
              refine PW.skip ?_
              (repeat refine PW.seq ?_); refine PW.rg rfl fun K hK => ?_; simp (maxSteps := 3000000) (disch := omega) only [go_sem, ↓reduceIte, reduceCtorEq, pappend, plen]; refine hK _ _ ?_; clear hK K
              refine PL.at [1, 2, 7, 9, 10, 17, 18, 19] (next _ (by rw [hnx'])) rfl rfl
        · have hcp := h
          refine PW.exit ?_
          (repeat refine PW.seq ?_); refine PW.rg rfl fun K hK => ?_; simp (maxSteps := 3000000) (disch := omega) only [go_sem, ↓reduceIte, reduceCtorEq, pappend, plen]; refine hK _ _ ?_; clear hK K
          refine PL.view (Vs.trim (F1 := [(1, .int .i64 (a : Int)), (2, .int .i64 (b : Int)), (7, .msl (H.length + 1) 0 0 (b - a) 5 true), (17, .slice (ps.flatMap pac) ps.length g), (18, .int .i64 (ps.length : Int)), (19, .int .i64 ((j + 1 : Nat) : Int))]) (H1 := H ++ [⟨71, 0, [.slice (ps.flatMap pac) ps.length g]⟩, ⟨77, 0, (outL l a b (c + t)).flatMap pac⟩]) (hscU 2 ?_) (by simp) (List.append_assoc _ [_, _] [_]).symm ?_) (exit2 ?_)
          · intro q hq x hx
            simp only [List.mem_cons, List.not_mem_nil, or_false] at hq
            rcases hq with rfl | rfl
            · simp only [List.mem_singleton] at hx
              rw [hx]; exact sl_scoped (pal_sc _ _)
            · exact pal_sc _ _ _ hx
          · rw [List.length_append]
            simp only [List.length_cons, List.length_nil]
            exact ⟨.id (.int _ _), .id (.int _ _), .id (.msl (by omega)), .id (sl_scoped (pal_sc _ _)), .id (.int _ _), .id (.int _ _), trivial⟩
          have ht' := ht0 hcp
          subst ht'
          rw [Nat.add_zero, show c' = c + (c' - c) by omega]
          exact (outL_coded (c' - c) (fun i i1 i2 => (q4 hcp).2.2 i i1 (by omega))).symm
        · cases h
        · rename_i htl
          refine PW.exit ?_
          (repeat refine PW.seq ?_); refine PW.rg rfl fun K hK => ?_; simp (maxSteps := 3000000) (disch := omega) only [go_sem, ↓reduceIte, reduceCtorEq, pappend, plen]; refine hK _ _ ?_; clear hK K
          refine PL.view (Vs.trim (F1 := [(1, .int .i64 (a : Int)), (2, .int .i64 (b : Int)), (7, .msl (H.length + 1) 0 0 (b - a) 5 true), (17, .slice (ps.flatMap pac) ps.length g), (18, .int .i64 (ps.length : Int)), (19, .int .i64 ((j + 1 : Nat) : Int))]) (H1 := H ++ [⟨71, 0, [.slice (ps.flatMap pac) ps.length g]⟩, ⟨77, 0, (outL l a b (c + t)).flatMap pac⟩]) (hscU 2 ?_) (by simp) (List.append_assoc _ [_, _] [_]).symm ?_) (exit2 ?_)
          · intro q hq x hx
            simp only [List.mem_cons, List.not_mem_nil, or_false] at hq
            rcases hq with rfl | rfl
            · simp only [List.mem_singleton] at hx
              rw [hx]; exact sl_scoped (pal_sc _ _)
            · exact pal_sc _ _ _ hx
          · rw [List.length_append]
            simp only [List.length_cons, List.length_nil]
            exact ⟨.id (.int _ _), .id (.int _ _), .id (.msl (by omega)), .id (sl_scoped (pal_sc _ _)), .id (.int _ _), .id (.int _ _), trivial⟩
          rw [show c + t = c' by omega]

end Go.Proofs.Ytnjnikafhbholaa.Sc

namespace Go.Proofs.Ytnjnikafhbholaa.Sc
set_option linter.all false
set_option linter.unusedVariables false
set_option linter.unusedSimpArgs false
open Pm Ty Go.RowKit
open Pl (Pa Sh PF PaOk arr sh kd adj st en pts cpd jn ext shm shn tys)

theorem eqPa (p : Pa) : peqG Try.prog .neq 77 (.agg (pac p)) (.agg (pac p)) = some (.bool false) := by
  have e : peqG Try.prog .neq 77 (.agg (pac p)) (.agg (pac p)) = some (.bool (!((p.cp == p.cp) && ((p.film == p.film) && ((p.len == p.len) && ((p.m == p.m) && ((p.fr == p.fr) && true))))))) := by
    obtain ⟨a, b, c, d, e⟩ := p
    kernel_rfl
  rw [e]
  simp
theorem sameP_ok (P : List Pa) (g g' : Bool) (H : Heap) (hl : P.length ≤ 1000000) : CallOk Try.prog 44 [.slice (P.flatMap pac) P.length g, .slice (P.flatMap pac) P.length g'] H (.bool true) H := by
  have hp5 := pal_len P
  have hat := pal_at P
  refine CallOk.body (F0 := [(0, .slice (P.flatMap pac) P.length g), (1, .slice (P.flatMap pac) P.length g')]) Try.func44 rfl Try.ntmps44 Try.results44 rfl (by kernel_rfl) rfl ?_
  (repeat refine PW.seq ?_); refine PW.rg rfl fun K hK => ?_; simp (maxSteps := 3000000) (disch := omega) only [go_sem, ↓reduceIte, reduceCtorEq, pappend, plen]; refine hK _ _ ?_; clear hK K
  (repeat refine PW.seq ?_); refine PW.rg rfl fun K hK => ?_; simp (maxSteps := 3000000) (disch := omega) only [go_sem, ↓reduceIte, reduceCtorEq, pappend, plen]; refine hK _ _ ?_; clear hK K
  (repeat refine PW.seq ?_); refine PW.cond (t := _) rfl (fun h => ?_) (fun h => ?_)
  · exfalso; simp at h
  refine PW.skip ?_
  (repeat refine PW.seq ?_); refine PW.rg rfl fun K hK => ?_; simp (maxSteps := 3000000) (disch := omega) only [go_sem, ↓reduceIte, reduceCtorEq, pappend, plen]; refine hK _ _ ?_; clear hK K
  (repeat refine PW.seq ?_); refine PW.block (PW.loop ?_)
  suffices hl1 : ∀ (j : Nat), j ≤ P.length → PL Try.prog _ _ [(0, .slice (P.flatMap pac) P.length g), (1, .slice (P.flatMap pac) P.length g'), (12, .int .i64 (P.length : Int)), (13, .int .i64 (j : Int))] H _ by
    exact PL.at [0, 1, 12, 13] (hl1 0 (by omega)) rfl rfl
  intro j hj
  induction hd : P.length - j using Nat.strongRecOn generalizing j with
  | _ d ih =>
    refine PL.round ?_; (repeat refine PW.seq ?_); refine PW.rg rfl fun K hK => ?_; simp (maxSteps := 3000000) (disch := omega) only [go_sem, ↓reduceIte, reduceCtorEq, pappend, plen]; refine hK _ _ ?_; clear hK K
    (repeat refine PW.seq ?_); refine PW.cond (t := _) rfl (fun h => ?_) (fun h => ?_)
    rotate_left
    · refine PW.exit ?_
      (repeat refine PW.seq ?_); refine PW.rg rfl fun K hK => ?_; simp (maxSteps := 3000000) (disch := omega) only [go_sem, ↓reduceIte, reduceCtorEq, pappend, plen]; refine hK _ _ ?_; clear hK K
      (refine PW.ret ⟨_, rfl, ?_⟩; first | refine .inl ⟨?_, rfl⟩ | refine Fin.base (.id' ?_ (.bool _)) | refine Fin.base (.id' ?_ (.int _ _)))
      rfl
    · have h4 : j < P.length := by have := of_decide_eq_true h; omega
      have hat' := hat j h4
      have he := eqPa (paAt P j)
      generalize paAt P j = p at *
      refine PW.skip ?_; (repeat refine PW.seq ?_); refine PW.block ?_
      (repeat refine PW.seq ?_); refine PW.rg rfl fun K hK => ?_; simp (maxSteps := 3000000) (disch := omega) only [go_sem, ↓reduceIte, reduceCtorEq, pappend, plen]; refine hK _ _ ?_; clear hK K
      (repeat refine PW.seq ?_); refine PW.draw mix (by kernel_rfl) fun K hK => ?_; simp (maxSteps := 3000000) (disch := omega) only [go_sem, ↓reduceIte, reduceCtorEq, pappend, plen, hat', hp5, ↓he]; refine hK _ _ ?_; clear hK K
      (repeat refine PW.seq ?_); refine PW.cond (t := _) rfl (fun h => ?_) (fun h => ?_)
      · cases h
      refine PW.skip ?_
      (repeat refine PW.seq ?_); refine PW.rg rfl fun K hK => ?_; simp (maxSteps := 3000000) (disch := omega) only [go_sem, ↓reduceIte, reduceCtorEq, pappend, plen]; refine hK _ _ ?_; clear hK K
      exact PL.at [0, 1, 12, 13] (ih (P.length - (j + 1)) (by omega) (j + 1) (by omega) rfl) rfl rfl

/-! ### what the films of the laws are like -/
theorem tyl_rng (L : List Int) (a : Nat) : ∀ k, ∀ t ∈ tyl L a k, 1 ≤ t ∧ t ≤ 3
  | 0, t, h => by simp [tyl] at h; omega
  | k + 1, t, h => by
    simp only [tyl, List.mem_append, List.mem_singleton] at h
    rcases h with h | rfl
    · exact tyl_rng L a k t h
    · exact tbl_range _
theorem tyR_rng (L : List Int) (a k : Nat) : ∀ t ∈ tyR L a k, 1 ≤ t ∧ t ≤ 3 := fun t h => by
  unfold tyR at h
  split at h
  · rcases List.mem_or_eq_of_mem_set h with h | rfl
    · exact tyl_rng L a k t h
    · have := tn_range L (a + k) 2 (by omega); omega
  · exact tyl_rng L a k t h
theorem enL_rng (L : List Int) (a : Nat) (ts : List Int) (ht : ∀ t ∈ ts, 1 ≤ t ∧ t ≤ 3) : ∀ j, j ≤ ts.length → ∀ e ∈ enL L a ts j, 1 ≤ e.ty ∧ e.ty ≤ 3
  | 0, _, e, h => by simp [enL] at h
  | j + 1, hj, e, h => by
    simp only [enL, List.mem_append, List.mem_singleton] at h
    rcases h with h | rfl
    · exact enL_rng L a ts ht j (by omega) e h
    · simp only [en1]
      exact ht _ (by unfold intAt; exact getD_mem 0 ts j (by omega))
theorem ixs_ty (L : List Int) (s : Sq) (a : Nat) : ∀ m, ∀ x ∈ (ixs L s a m).1, ∀ e ∈ x.en, 1 ≤ e.ty ∧ e.ty ≤ 3
  | 0, x, hx, _, _ => by simp [ixs] at hx
  | m + 1, x, hx, e, he => by
    simp only [ixs, List.mem_append, List.mem_singleton] at hx
    rcases hx with hx | rfl
    · exact ixs_ty L s a m x hx e he
    · simp only [ix1] at he
      exact enL_rng L _ _ (tyR_rng L _ _) _ (by rw [tyR_len]; exact Nat.le_refl _) e he
structure FlM (f : Fl) : Prop extends FlOk f where
  ok : SqOk f.s
  vs : vseq f.s = true
  n : f.ex.length ≤ 50
  ty : ∀ x ∈ f.me, ∀ e ∈ x.en, 1 ≤ e.ty ∧ e.ty ≤ 3
theorem hdV (b : Bool) : vseq (hdS b 32) = true := by cases b <;> kernel_rfl
theorem flm_more (L : List Int) : FlM (flm L) := by
  have h := segs_ok L ((flX L).2 + 1) (flK L)
  have hk : flK L ≤ 5 := by have := tn_range L (flX L).2 6 (by omega); unfold flK; omega
  refine ⟨flm_ok L, ⟨by simp [flm, flS, hdS], by simp [flm, flS, hdS], by simp [flm, flS, hdS], by simp [flm, flS, hdS], by simp [flm, flS, hdS], by simp [flm, flS, hdS], by simp [flm, flS, hdS], by simp [flm, flS, hdS]⟩, hdV _, by have := h.2.2; simp only [flm]; omega, ixs_ty L (flS L) 2 3⟩

theorem outL_eq {l l' : List (Option Sh)} {a a' b b' c c' : Nat} (h1 : b - a = b' - a') (hc : b ≤ c) (hc' : b' ≤ c') (h : ∀ k, k < b - a → fr1 l (a + k) = fr1 l' (a' + k)) : outL l a b c = outL l' a' b' c' := by
  unfold outL
  rw [← h1]
  apply List.map_congr_left
  intro k hk
  rw [List.mem_range] at hk
  rw [if_pos (by omega), if_pos (by omega), h k hk]
theorem fr1_eq {l l' : List (Option Sh)} {i j : Nat} (h1 : sh l' j = sh l i) (h : cpd l' j = cpd l i ∧ jn l' j = jn l i) : fr1 l' j = fr1 l i := by
  unfold fr1; rw [h1, h.1, h.2]
theorem sh_out (l : List (Option Sh)) (i : Nat) (h : l.length ≤ i) : sh l i = none := by
  unfold sh; rw [List.getElem?_eq_none h]; rfl
theorem local_1 (l l' : List (Option Sh)) (k : Nat) (h : k < l.length) : fr1 (l ++ none :: l') k = fr1 l k := by
  have hs : ∀ i, i < l.length → sh (l ++ none :: l') (i + 0) = sh l i := fun i hi => by
    unfold sh; rw [Nat.add_zero, List.getElem?_append_left hi]
  have h1 : sh (l ++ none :: l') (l.length + 0) = none := by unfold sh; simp
  have := Pl.cpd_sub hs rfl (.inl rfl) h1 h
  exact fr1_eq (hs k h) this
theorem local_2 (l l' : List (Option Sh)) (k : Nat) (h : k < l'.length) : fr1 (l ++ none :: l') (l.length + 1 + k) = fr1 l' k := by
  have hs : ∀ i, i < l'.length → sh (l ++ none :: l') (i + (l.length + 1)) = sh l' i := fun i hi => by
    unfold sh
    rw [List.getElem?_append_right (by omega), show i + (l.length + 1) - l.length = i + 1 by omega, List.getElem?_cons_succ]
  have h1 : sh (l ++ none :: l') (l'.length + (l.length + 1)) = none := sh_out _ _ (by simp; omega)
  have h0 : sh (l ++ none :: l') (l.length + 1 - 1) = none := by unfold sh; simp
  have := Pl.cpd_sub hs rfl (.inr h0) h1 h
  rw [show l.length + 1 + k = k + (l.length + 1) by omega]
  exact fr1_eq (hs k h) this
theorem exc_c (e : Ex) : (exc e).all PV.cell = true := rfl
theorem exl_c (E : List Ex) : (E.flatMap exc).all PV.cell = true := by
  rw [List.all_flatMap, List.all_eq_true]
  intro e _
  exact exc_c e

end Go.Proofs.Ytnjnikafhbholaa.Sc

namespace Go.Proofs.Ytnjnikafhbholaa.Sc
set_option linter.all false
set_option linter.unusedVariables false
set_option linter.unusedSimpArgs false
open Pm Ty Go.RowKit
open Pl (Pa Sh PF PaOk arr sh kd adj st en pts cpd jn ext shm shn tys)

def fdI : Option Nat → Int
  | some k => (k : Int)
  | none => -1
theorem fnd_mono {M : List Ix} {s : List UInt8} {n k : Nat} (h : fnd M s n = some k) : ∀ d, fnd M s (n + d) = some k
  | 0 => h
  | d + 1 => by
    rw [show n + (d + 1) = n + d + 1 by omega, fnd, fnd_mono h d]
theorem find_ok (M : List Ix) (g : Bool) (s : List UInt8) (H : Heap) (hM : ∀ x ∈ M, SqL x.sq) (hl : M.length ≤ 1000000) : CallOk Try.prog 48 [.slice (M.flatMap ixc) M.length g, .str s] H (.int .i64 (fdI (fnd M s M.length))) H := by
  have hlM := ixl_len M hM
  have hat := fun k => fm_at' ixc 137 ix0 M k (fun x hx => ixc_len x (hM x hx))
  change ∀ k, k < M.length → List.take 137 (List.drop (k * 137) (M.flatMap ixc)) = ixc (ixAt M k) at hat
  refine CallOk.body (F0 := [(0, .slice (M.flatMap ixc) M.length g), (1, .str s)]) Try.func48 rfl Try.ntmps48 Try.results48 rfl (by kernel_rfl) rfl ?_
  (repeat refine PW.seq ?_); refine PW.rg rfl fun K hK => ?_; simp (maxSteps := 3000000) (disch := omega) only [go_sem, ↓reduceIte, reduceCtorEq, pappend, plen]; refine hK _ _ ?_; clear hK K
  (repeat refine PW.seq ?_); refine PW.rg rfl fun K hK => ?_; simp (maxSteps := 3000000) (disch := omega) only [go_sem, ↓reduceIte, reduceCtorEq, pappend, plen]; refine hK _ _ ?_; clear hK K
  (repeat refine PW.seq ?_); refine PW.block (PW.loop ?_)
  suffices hl1 : ∀ (j : Nat), j ≤ M.length → fnd M s j = none → PL Try.prog _ _ [(0, .slice (M.flatMap ixc) M.length g), (1, .str s), (5, .int .i64 (j : Int))] H _ by
    exact PL.at [0, 1, 5] (hl1 0 (by omega) rfl) rfl rfl
  intro j hj hn
  induction hd : M.length - j using Nat.strongRecOn generalizing j with
  | _ d ih =>
    refine PL.round ?_; (repeat refine PW.seq ?_); refine PW.rg rfl fun K hK => ?_; simp (maxSteps := 3000000) (disch := omega) only [go_sem, ↓reduceIte, reduceCtorEq, pappend, plen]; refine hK _ _ ?_; clear hK K
    (repeat refine PW.seq ?_); refine PW.cond (t := _) rfl (fun h => ?_) (fun h => ?_)
    rotate_left
    · have h4 : j = M.length := by have := of_decide_eq_false h; omega
      subst h4
      refine PW.exit ?_
      (repeat refine PW.seq ?_); refine PW.rg rfl fun K hK => ?_; simp (maxSteps := 3000000) (disch := omega) only [go_sem, ↓reduceIte, reduceCtorEq, pappend, plen]; refine hK _ _ ?_; clear hK K
      (refine PW.ret ⟨_, rfl, ?_⟩; first | refine .inl ⟨?_, rfl⟩ | refine Fin.base (.id' ?_ (.bool _)) | refine Fin.base (.id' ?_ (.int _ _)))
      rw [hn]
      rfl
    · have h4 : j < M.length := by have := of_decide_eq_true h; omega
      have h0 := get_of_take (j := 0) (hat j h4) (by omega)
      change _ = some (PV.str (ixAt M j).nm) at h0
      rw [Nat.add_zero] at h0
      have hnx : fnd M s (j + 1) = if (ixAt M j).nm = s then some j else none := by rw [fnd, hn]
      generalize ixAt M j = x at *
      refine PW.skip ?_; (repeat refine PW.seq ?_); refine PW.block ?_
      (repeat refine PW.seq ?_); refine PW.rg rfl fun K hK => ?_; simp (maxSteps := 3000000) (disch := omega) only [go_sem, ↓reduceIte, reduceCtorEq, pappend, plen, h0, hlM]; refine hK _ _ ?_; clear hK K
      (repeat refine PW.seq ?_); refine PW.cond (t := _) rfl (fun h => ?_) (fun h => ?_)
      · have he : x.nm = s := by simpa using h
        rw [if_pos he] at hnx
        have := fnd_mono hnx (M.length - (j + 1))
        rw [show j + 1 + (M.length - (j + 1)) = M.length by omega] at this
        (repeat refine PW.seq ?_); refine PW.rg rfl fun K hK => ?_; simp (maxSteps := 3000000) (disch := omega) only [go_sem, ↓reduceIte, reduceCtorEq, pappend, plen]; refine hK _ _ ?_; clear hK K
        (refine PW.ret ⟨_, rfl, ?_⟩; first | refine .inl ⟨?_, rfl⟩ | refine Fin.base (.id' ?_ (.bool _)) | refine Fin.base (.id' ?_ (.int _ _)))
        rw [this]
        rfl
      · have he : x.nm ≠ s := by simpa using h
        rw [if_neg he] at hnx
        refine PW.skip ?_
        (repeat refine PW.seq ?_); refine PW.rg rfl fun K hK => ?_; simp (maxSteps := 3000000) (disch := omega) only [go_sem, ↓reduceIte, reduceCtorEq, pappend, plen]; refine hK _ _ ?_; clear hK K
        exact PL.at [0, 1, 5] (ih (M.length - (j + 1)) (by omega) (j + 1) (by omega) hnx rfl) rfl rfl
theorem eqf0 (g g' : Bool) (F : PV) (H : Heap) : CallOk Try.prog 92 [.slice [] 0 g, .slice [] 0 g', F] H (.bool true) H := by
  refine CallOk.body (F0 := [(0, .slice [] 0 g), (1, .slice [] 0 g'), (2, F)]) Try.func92 rfl Try.ntmps92 Try.results92 rfl (by kernel_rfl) rfl ?_
  (repeat refine PW.seq ?_); refine PW.rg rfl fun K hK => ?_; simp (maxSteps := 3000000) (disch := omega) only [go_sem, ↓reduceIte, reduceCtorEq, pappend, plen]; refine hK _ _ ?_; clear hK K
  (repeat refine PW.seq ?_); refine PW.rg rfl fun K hK => ?_; simp (maxSteps := 3000000) (disch := omega) only [go_sem, ↓reduceIte, reduceCtorEq, pappend, plen]; refine hK _ _ ?_; clear hK K
  (repeat refine PW.seq ?_); refine PW.cond (t := _) rfl (fun h => ?_) (fun h => ?_)
  · cases h
  refine PW.skip ?_
  (repeat refine PW.seq ?_); refine PW.rg rfl fun K hK => ?_; simp (maxSteps := 3000000) (disch := omega) only [go_sem, ↓reduceIte, reduceCtorEq, pappend, plen]; refine hK _ _ ?_; clear hK K
  (repeat refine PW.seq ?_); refine PW.block (PW.loop ?_)
  refine PL.round ?_; (repeat refine PW.seq ?_); refine PW.rg rfl fun K hK => ?_; simp (maxSteps := 3000000) (disch := omega) only [go_sem, ↓reduceIte, reduceCtorEq, pappend, plen]; refine hK _ _ ?_; clear hK K
  (repeat refine PW.seq ?_); refine PW.cond (t := _) rfl (fun h => ?_) (fun h => ?_)
  · cases h
  refine PW.exit ?_
  (repeat refine PW.seq ?_); refine PW.rg rfl fun K hK => ?_; simp (maxSteps := 3000000) (disch := omega) only [go_sem, ↓reduceIte, reduceCtorEq, pappend, plen]; refine hK _ _ ?_; clear hK K
  (refine PW.ret ⟨_, rfl, ?_⟩; first | refine .inl ⟨?_, rfl⟩ | refine Fin.base (.id' ?_ (.bool _)) | refine Fin.base (.id' ?_ (.int _ _)))
  rfl
theorem sameS (m : List UInt8) (fr : Int) (H : Heap) : CallOk Try.prog 49 [.agg [.int .i64 1, .str m, .int .i64 fr, .int .i64 0, .int .i64 0, .int .i64 0, .str [], .slice [] 0 true], .agg [.int .i64 1, .str m, .int .i64 fr, .int .i64 0, .int .i64 0, .int .i64 0, .str [], .slice [] 0 true]] H (.bool true) H := by
  refine CallOk.body (F0 := [(0, .agg [.int .i64 1, .str m, .int .i64 fr, .int .i64 0, .int .i64 0, .int .i64 0, .str [], .slice [] 0 true]), (1, .agg [.int .i64 1, .str m, .int .i64 fr, .int .i64 0, .int .i64 0, .int .i64 0, .str [], .slice [] 0 true])]) Try.func49 rfl Try.ntmps49 Try.results49 rfl (by kernel_rfl) rfl ?_
  (repeat refine PW.seq ?_); refine PW.rg rfl fun K hK => ?_; simp (maxSteps := 3000000) (disch := omega) only [go_sem, ↓reduceIte, reduceCtorEq, pappend, plen]; refine hK _ _ ?_; clear hK K
  (repeat refine PW.seq ?_); refine PW.rg rfl fun K hK => ?_; simp (maxSteps := 3000000) (disch := omega) only [go_sem, ↓reduceIte, reduceCtorEq, pappend, plen]
  refine VCx.call (eqf0 _ _ _ _) rfl ?_; simp (maxSteps := 3000000) (disch := omega) only [go_sem, ↓reduceIte, reduceCtorEq, pappend, plen]
  refine hK _ _ ?_; clear hK K
  (refine PW.ret ⟨_, rfl, ?_⟩; first | refine .inl ⟨?_, rfl⟩ | refine Fin.base (.id' ?_ (.bool _)) | refine Fin.base (.id' ?_ (.int _ _)))
  rfl

/-- The plan of a film is valid. -/
theorem vld_pts {l : List (Option Sh)} {n : Nat} (hN : NB l) (hm : ∀ i x, sh l i = some x → x.m ≠ []) : ∀ {ps : List Pa} {pc : Bool} {c : Nat}, PF l pc c ps n → vld (n : Int) (c : Int) ps = true
  | [], pc, c, h => by cases h; simp [vld]
  | p :: r, pc, c, h => by
    obtain ⟨c', hp, _, _, hr⟩ := PF.at h
    have ih := vld_pts hN hm hr
    obtain ⟨q1, q2, q3, q4, q5⟩ := hp
    have hle := hr.le
    have hvs : vs p = true := by
      unfold vs
      cases hc : p.cp with
      | false => simp [(q4 hc).1, (q4 hc).2.1]
      | true =>
        obtain ⟨_, _, k, hk⟩ := q5 hc c (by omega) (by omega)
        have b := hN _ _ hk
        have m := hm _ _ hk
        dsimp only at b m
        simp [m]
        omega
    have e : (c : Int) + p.len = (c' : Int) := by omega
    simp only [vld, paV, hvs, e, ih, Bool.and_true]
    simp only [Bool.and_eq_true, decide_eq_true_eq]
    refine ⟨q1, ?_, ?_⟩ <;> omega

end Go.Proofs.Ytnjnikafhbholaa.Sc
