/-
  Contracts of chapter 12: the display of frames.
-/
import Derived.Test.YtahomnplappbpaaGreatDoorYa
import Derived.Test.YtahomnplappbpaaGreatDoorTw
namespace Go.Proofs.YtahomnplappbpaaGreatDoor.Sc
set_option linter.all false
set_option linter.unusedVariables false
set_option linter.unusedSimpArgs false
open Pm Ty Go.RowKit

theorem flat_set {α : Type} (enc : α → List PV) (N r : Nat) (v : PV) (hr : r < N) (f : α → α) : ∀ (l : List α) (k : Nat), k < l.length → (∀ x ∈ l, (enc x).length = N) → (∀ x ∈ l, enc (f x) = (enc x).set r v) → (l.flatMap enc).set (k * N + r) v = (l.modify k f).flatMap enc
  | [], k, hk, _, _ => by simp at hk
  | x :: l, 0, _, h1, h2 => by
    have e1 := h1 x List.mem_cons_self
    rw [List.flatMap_cons, Nat.zero_mul, Nat.zero_add, List.set_append_left _ _ (by omega), List.modify_zero_cons, List.flatMap_cons, h2 x List.mem_cons_self]
  | x :: l, k + 1, hk, h1, h2 => by
    have e1 := h1 x List.mem_cons_self
    have ih := flat_set enc N r v hr f l k (by simpa using hk) (fun y hy => h1 y (List.mem_cons_of_mem _ hy)) (fun y hy => h2 y (List.mem_cons_of_mem _ hy))
    rw [List.flatMap_cons, List.set_append_right _ _ (by rw [e1, Nat.add_mul]; omega), List.modify_succ_cons, List.flatMap_cons, ← ih, e1]
    congr 2
    rw [Nat.add_mul]; omega
def entc (e : Ent) : List PV := .int .i64 e.1.f :: .int .i64 e.1.l :: .int .i64 e.1.ty :: .int .i64 e.1.pa :: .int .i64 e.1.fu :: .int .i64 e.1.sh :: (sqc e.2.1 ++ pic e.2.2)
def dpB (j : Nat) (d : Dp) : Blk := ⟨147, 0, [.msl j (d.en.length * 147) 0 d.en.length 147 true, .int .i64 d.old, .int .i64 d.new, .bool d.wt, .int .i64 d.lk, .int .i64 d.sh]⟩
def enB (es : List Ent) : Blk := ⟨93, es.length * 147, es.flatMap entc⟩
structure DpOk (d : Dp) (m : Nat) : Prop where
  sq : ∀ e ∈ d.en, SqL e.2.1
  n : d.en.length ≤ m
  sh : 0 ≤ d.sh ∧ d.sh ≤ d.en.length
  lk : 0 ≤ d.lk ∧ d.lk ≤ 2
  new : -1 ≤ d.new ∧ d.new < d.en.length
  old : -1 ≤ d.old ∧ d.old < d.en.length
  wt : d.wt = true → 0 ≤ d.new
theorem entc_len (e : Ent) (h : SqL e.2.1) : (entc e).length = 147 := by
  simp only [entc, List.length_cons, List.length_append, sqc_len _ h, pic, List.length_nil]
theorem en_len {es : List Ent} (h : ∀ e ∈ es, SqL e.2.1) : (es.flatMap entc).length = es.length * 147 := flat_len entc 147 es fun e he => entc_len e (h e he)
theorem en_set {es : List Ent} (h : ∀ e ∈ es, SqL e.2.1) (n : Nat) (hn : n < es.length) (v : Int) : (es.flatMap entc).set (n * 147 + 5) (.int .i64 v) = (es.modify n (setS v)).flatMap entc :=
  flat_set entc 147 5 (.int .i64 v) (by omega) (setS v) es n hn (fun e he => entc_len e (h e he)) fun e _ => rfl
structure DpH (H : Heap) (i j : Nat) (d : Dp) : Prop where
  gi : H[i]? = some (dpB j d)
  gj : H[j]? = some (enB d.en)
  ne : i ≠ j

theorem tw_d (H : Heap) (i j : Nat) (d : Dp) (B : Blk) (hil : i < H.length) (hne : i ≠ j) : (tw H i j (dpB j d) B)[i]? = some ⟨147, 0, [.msl j (d.en.length * 147) 0 d.en.length 147 true, .int .i64 d.old, .int .i64 d.new, .bool d.wt, .int .i64 d.lk, .int .i64 d.sh]⟩ := tw_0 _ _ _ _ _ ⟨hil, hne⟩
theorem tw_e (H : Heap) (i j : Nat) (A : Blk) (es : List Ent) (hjl : j < H.length) : (tw H i j A (enB es))[j]? = some ⟨93, es.length * 147, es.flatMap entc⟩ := tw_1 _ _ _ _ _ hjl

theorem show_ok (d : Dp) (n : Nat) (i j : Nat) (H : Heap) (h : DpH H i j d) (hd : DpOk d 1000000) (hn : n < d.en.length) (hs : d.sh < 1000000) : CallOk Tryz.prog 133 [.ptr i 0 0, .int .i64 (n : Int)] H (.tup []) (tw H i j (dpB j (d.show n)) (enB (d.show n).en)) := by
  obtain ⟨hi, hj, hne⟩ := h
  unfold dpB at hi
  unfold enB at hj
  have hil : i < H.length := (List.getElem?_eq_some_iff.1 hi).1
  have hjl : j < H.length := (List.getElem?_eq_some_iff.1 hj).1
  have hln := en_len hd.sq
  have hji : ∀ B, (H.set j B)[i]? = H[i]? := fun B => List.getElem?_set_ne (by omega)
  have hsh := hd.sh
  have hset := en_set hd.sq n hn d.sh
  have hnn := hd.n
  refine CallOk.body (F0 := [(0, .ptr i 0 0), (1, .int .i64 (n : Int))]) Tryz.func133 rfl Tryz.ntmps133 Tryz.results133 rfl (by kernel_rfl) rfl ?_
  (repeat refine PW.seq ?_); refine PW.drawi [j] [(7, [0]), (13, [0]), (14, [0]), (15, [0])] [] [] mix (by kernel_rfl) (by simp <;> omega) fun K hK => ?_
  simp (maxSteps := 3000000) (disch := omega) only [go_sem, ↓reduceIte, reduceCtorEq, pappend, plen, hi, hj, hln, hset]
  refine hK _ _ ?_; clear hK K
  (repeat refine PW.seq ?_); refine PW.rg rfl fun K hK => ?_; simp (maxSteps := 3000000) (disch := omega) only [go_sem, ↓reduceIte, reduceCtorEq, pappend, plen, hji, hi]; refine hK _ _ ?_; clear hK K
  refine ⟨_, rfl, .inl ⟨rfl, ?_⟩⟩
  unfold tw dpB enB Dp.show
  rw [List.set_comm _ _ hne, Int.toNat_natCast]
  simp only [List.length_modify]
theorem Dp.show_ok {d : Dp} {m n : Nat} (hd : DpOk d m) (hs : d.sh < d.en.length) : DpOk (d.show n) m := by
  obtain ⟨h1, h2, h3, h4, h5, h6, h7⟩ := hd
  refine ⟨fun e he => ?_, ?_, ?_, h4, ?_, ?_, h7⟩
  · simp only [Dp.show] at he
    obtain ⟨k, hk, rfl⟩ := List.getElem_of_mem he
    rw [List.getElem_modify]
    rw [List.length_modify] at hk
    have h0 := h1 d.en[k] (List.getElem_mem hk)
    split
    · exact h0
    · exact h0
  all_goals simp only [Dp.show, List.length_modify]
  · exact h2
  · omega
  · exact h5
  · exact h6
/-- How many are displayed. -/
structure DpG (d : Dp) (m : Nat) : Prop where
  ok : DpOk d m
  cnt : d.sh + (if d.wt then 1 else 0) ≤ d.en.length
theorem flush_sh (d : Dp) : d.flush.sh = d.sh + if d.wt then 1 else 0 := by
  unfold Dp.flush
  split
  · rfl
  · omega
theorem flush_len (d : Dp) : d.flush.en.length = d.en.length := by
  unfold Dp.flush
  split
  · simp [Dp.show]
  · rfl
theorem flush_g {d : Dp} {m : Nat} (h : DpG d m) : DpG d.flush m ∧ d.flush.sh + 0 ≤ d.en.length := by
  obtain ⟨hd, hc⟩ := h
  unfold Dp.flush
  by_cases hw : d.wt = true
  · rw [if_pos hw] at hc ⊢
    have h7 := hd.wt hw
    obtain ⟨n, hn⟩ : ∃ n : Nat, d.new = (n : Int) := ⟨d.new.toNat, by omega⟩
    rw [hn]
    obtain ⟨q1, q2, q3, q4, q5, q6, q7⟩ := Dp.show_ok (n := n) hd (by omega)
    refine ⟨⟨⟨q1, q2, q3, q4, q5, q6, fun h => by cases h⟩, ?_⟩, ?_⟩
    · simp only [Dp.show, List.length_modify, Bool.false_eq_true, if_false]; omega
    · simp only [Dp.show]; omega
  · rw [if_neg hw] at hc ⊢
    exact ⟨⟨hd, by rw [if_neg hw]; omega⟩, by omega⟩
theorem flush_ok (d : Dp) (i j : Nat) (H : Heap) (h : DpH H i j d) (hd : DpG d 1000000) : CallOk Tryz.prog 65 [.ptr i 0 0] H (.tup []) (tw H i j (dpB j d.flush) (enB d.flush.en)) := by
  have h' := h
  obtain ⟨hi, hj, hne⟩ := h
  have hil : i < H.length := (List.getElem?_eq_some_iff.1 hi).1
  have hjl : j < H.length := (List.getElem?_eq_some_iff.1 hj).1
  have hw := hd.ok.wt
  have hcn := hd.cnt
  have hnew := hd.ok.new
  have hnn := hd.ok.n
  unfold dpB at hi
  generalize hr : d.flush = r
  unfold Dp.flush at hr
  refine CallOk.body (F0 := [(0, .ptr i 0 0)]) Tryz.func65 rfl Tryz.ntmps65 Tryz.results65 rfl (by kernel_rfl) rfl ?_
  (repeat refine PW.seq ?_); refine PW.rg rfl fun K hK => ?_; simp (maxSteps := 3000000) (disch := omega) only [go_sem, ↓reduceIte, reduceCtorEq, pappend, plen, hi]; refine hK _ _ ?_; clear hK K
  (repeat refine PW.seq ?_); refine PW.cond (t := _) rfl (fun h => ?_) (fun h => ?_)
  · obtain ⟨n, hn⟩ : ∃ n : Nat, d.new = (n : Int) := ⟨d.new.toNat, by have := hw h; omega⟩
    rw [if_pos h] at hr hcn
    have sok := show_ok d n i j H h' hd.ok (by omega) (by omega)
    have g0 := tw_d H i j (d.show n) (enB (d.show n).en) hil hne
    rw [hn] at hi hr
    generalize d.show n = d' at *
    (repeat refine PW.seq ?_); refine PW.rg rfl fun K hK => ?_; simp (maxSteps := 3000000) (disch := omega) only [go_sem, ↓reduceIte, reduceCtorEq, pappend, plen, hi]; refine VCx.call (sok) rfl ?_; simp (maxSteps := 3000000) (disch := omega) only [go_sem, ↓reduceIte, reduceCtorEq, pappend, plen]; refine hK _ _ ?_; clear hK K
    (repeat refine PW.seq ?_); refine PW.rg rfl fun K hK => ?_; simp (maxSteps := 3000000) (disch := omega) only [go_sem, ↓reduceIte, reduceCtorEq, pappend, plen, g0]; refine hK _ _ ?_; clear hK K
    refine ⟨_, rfl, .inl ⟨rfl, ?_⟩⟩
    subst hr
    unfold tw dpB
    rw [List.set_comm _ _ hne, List.set_set, List.set_comm _ _ (by omega : j ≠ i)]
  · rw [if_neg (by rw [h]; simp)] at hr
    subst hr
    refine PW.skip ?_
    refine ⟨_, rfl, .inl ⟨rfl, ?_⟩⟩
    unfold tw
    rw [set_id h'.gi, set_id h'.gj]
theorem tw_app (H K : Heap) (i j : Nat) (A B : Blk) (hi : i < H.length) (hj : j < H.length) : tw (H ++ K) i j A B = tw H i j A B ++ K := by
  unfold tw
  rw [List.set_append_left _ _ hi, List.set_append_left _ _ (by rw [List.length_set]; exact hj)]
theorem dpB_sc (n j : Nat) (d : Dp) (h : j < n) : ∀ x ∈ (dpB j d).cells, Scoped n x := fun x hx => by
  simp only [dpB, List.mem_cons, List.not_mem_nil, or_false] at hx
  rcases hx with rfl | rfl | rfl | rfl | rfl | rfl
  · exact .msl h
  · exact .int _ _
  · exact .int _ _
  · exact .bool _
  · exact .int _ _
  · exact .int _ _
theorem enB_sc (n : Nat) (es : List Ent) : ∀ x ∈ (enB es).cells, Scoped n x := fun x hx => by
  obtain ⟨e, _, hx⟩ := List.mem_flatMap.1 hx
  simp only [entc, List.mem_cons, List.mem_append] at hx
  rcases hx with rfl | rfl | rfl | rfl | rfl | rfl | hx | hx
  · exact .int _ _
  · exact .int _ _
  · exact .int _ _
  · exact .int _ _
  · exact .int _ _
  · exact .int _ _
  · exact sqc_scoped _ _ x hx
  · exact pic_scV _ _ x hx
theorem dp_fin (H K : Heap) (i j : Nat) (d : Dp) (hi : i < H.length) (hj : j < H.length) : Fin H (.tup []) (tw H i j (dpB j d) (enB d.en)) (.tup []) (tw (H ++ K) i j (dpB j d) (enB d.en)) := by
  rw [tw_app _ _ _ _ _ _ hi hj]
  exact Fin.cut rfl (by rw [tw_len]) (tw_sc (dpB_sc _ _ _ hj) (enB_sc _ _)) (.id (.tup (by simp)))
theorem en_snoc (es : List Ent) (e : Ent) : (es ++ [e]).flatMap entc = es.flatMap entc ++ entc e := by
  rw [List.flatMap_append, List.flatMap_cons, List.flatMap_nil, List.append_nil]
theorem DpH.two {H : Heap} {i j : Nat} {d : Dp} (h : DpH H i j d) (K : Heap) (d' : Dp) : DpH (tw (H ++ K) i j (dpB j d') (enB d'.en)) i j d' := by
  have hil : i < H.length := (List.getElem?_eq_some_iff.1 h.gi).1
  have hjl : j < H.length := (List.getElem?_eq_some_iff.1 h.gj).1
  exact ⟨tw_0 _ _ _ _ _ ⟨by rw [List.length_append]; omega, h.ne⟩, tw_1 _ _ _ _ _ (by rw [List.length_append]; omega), h.ne⟩
theorem DpH.self {H : Heap} {i j : Nat} {d : Dp} (h : DpH H i j d) (K : Heap) : tw (H ++ K) i j (dpB j d) (enB d.en) = H ++ K := by
  have hil : i < H.length := (List.getElem?_eq_some_iff.1 h.gi).1
  have hjl : j < H.length := (List.getElem?_eq_some_iff.1 h.gj).1
  rw [tw_app _ _ _ _ _ _ hil hjl]
  unfold tw
  rw [set_id h.gi, set_id h.gj]
theorem frame_g {d : Dp} {f : Fm} {m : Nat} (h : DpG d m) (hf : SqL f.sq) : DpG (d.frame f) (m + 1) := by
  obtain ⟨⟨h1, h2, h3, h4, h5, h6, h7⟩, h8⟩ := h
  have hsq : ∀ {pa fu : Int}, ∀ e ∈ d.en ++ [fmE f pa fu], SqL e.2.1 := fun e he => by
    rcases List.mem_append.1 he with he | he
    · exact h1 e he
    · rw [List.mem_singleton] at he; rw [he]; exact hf
  unfold Dp.frame
  split
  · split
    · exact ⟨⟨h1, by omega, h3, h4, h5, h6, h7⟩, h8⟩
    · have := Dp.show_ok (d := { d with en := d.en ++ [fmE f d.old d.new] }) (m := m + 1) (n := d.en.length) ⟨hsq, by simp; omega, by simp; omega, h4, by simp; omega, by simp; omega, h7⟩ (by simp; split at h8 <;> omega)
      refine ⟨this, ?_⟩
      simp only [Dp.show, List.length_modify, List.length_append, List.length_cons, List.length_nil]
      show d.sh + 1 + (if d.wt = true then (1 : Int) else 0) ≤ _
      split at h8
      · rename_i hw; rw [if_pos hw]; omega
      · rename_i hw; rw [if_neg hw]; omega
  · split
    · exact ⟨⟨h1, by omega, h3, h4, h5, h6, h7⟩, h8⟩
    · obtain ⟨⟨⟨q1, q2, q3, q4, q5, q6, q7⟩, q8⟩, q9⟩ := flush_g (d := { d with en := d.en ++ [fmE f d.new (-1)] }) (m := m + 1) ⟨⟨hsq, by simp; omega, by simp; omega, h4, by simp; omega, by simp; omega, h7⟩, by simp; split at h8 <;> omega⟩
      have hl := flush_len { d with en := d.en ++ [fmE f d.new (-1)] }
      have hs : (Dp.flush { d with en := d.en ++ [fmE f d.new (-1)] }).sh = d.sh + if d.wt then 1 else 0 := flush_sh _
      have hf := flush_f { d with en := d.en ++ [fmE f d.new (-1)] }
      generalize Dp.flush { d with en := d.en ++ [fmE f d.new (-1)] } = e at *
      simp only [List.length_append, List.length_cons, List.length_nil] at hl q9
      obtain ⟨f1, f2, f3, f4⟩ := hf
      rw [f3] at q8
      simp only [Bool.false_eq_true, if_false] at q8
      have hcn : e.sh ≤ d.en.length := by rw [hs]; exact h8
      refine ⟨⟨q1, q2, q3, ?_, ?_, ?_, ?_⟩, ?_⟩
      · simp only; omega
      · simp only; omega
      · simp only; omega
      · intro _; simp only; omega
      · simp only [if_true]; omega
def fmc (f : Fm) : List PV := .int .i64 f.f :: .int .i64 f.l :: (sqc f.sq ++ (pic f.hd ++ [.bool f.rs, .int .i64 f.lk]))
theorem fmc_len (f : Fm) (h : SqL f.sq) : (fmc f).length = 145 := by
  simp only [fmc, List.length_cons, List.length_append, sqc_len _ h, pic, List.length_nil]
theorem fmc_s (f : Fm) (h : SqL f.sq) : List.take 135 (List.drop 2 (fmc f)) = sqc f.sq := by
  show List.take 135 (sqc f.sq ++ _) = _
  exact List.take_left' (sqc_len _ h)
theorem fmc_d (f : Fm) (h : SqL f.sq) (n : Nat) : List.drop (137 + n) (fmc f) = List.drop n (pic f.hd ++ [.bool f.rs, .int .i64 f.lk]) := by
  have e : List.drop 137 (fmc f) = pic f.hd ++ [.bool f.rs, .int .i64 f.lk] := by
    show List.drop 135 (sqc f.sq ++ _) = _
    exact List.drop_left' (sqc_len _ h)
  rw [← List.drop_drop, e]
theorem fmc_p (f : Fm) (h : SqL f.sq) : List.take 6 (List.drop 137 (fmc f)) = pic f.hd := by
  have := fmc_d f h 0
  rw [this]; rfl
theorem fmc_at (f : Fm) (h : SqL f.sq) (n : Nat) : (fmc f)[137 + n]? = (pic f.hd ++ [.bool f.rs, .int .i64 f.lk])[n]? := by
  have := congrArg (·[0]?) (fmc_d f h n)
  simpa using this
theorem fmc_0 (f : Fm) : (fmc f)[0]? = some (.int .i64 f.f) := rfl
theorem fmc_1 (f : Fm) : (fmc f)[1]? = some (.int .i64 f.l) := rfl
theorem fmc_ty (f : Fm) (h : SqL f.sq) : (fmc f)[137]? = some (.int .i64 f.hd.ty) := fmc_at f h 0
theorem fmc_rs (f : Fm) (h : SqL f.sq) : (fmc f)[143]? = some (.bool f.rs) := fmc_at f h 6
theorem fmc_lk (f : Fm) (h : SqL f.sq) : (fmc f)[144]? = some (.int .i64 f.lk) := fmc_at f h 7
theorem sqc_cell (s : Sq) : (sqc s).all PV.cell = true := by
  simp [sqc, bs, PV.cell]
theorem fmc_cell (f : Fm) : (fmc f).all PV.cell = true := by
  simp [fmc, sqc, bs, pic, PV.cell]
set_option maxHeartbeats 2000000 in
set_option maxRecDepth 100000 in
theorem dfrm_ok (d : Dp) (f : Fm) (i j : Nat) (H : Heap) (h : DpH H i j d) (hd : DpG d 900000) (hf : SqL f.sq) : CallOk Tryz.prog 66 [.ptr i 0 0, .agg (fmc f)] H (.tup []) (tw H i j (dpB j (d.frame f)) (enB (d.frame f).en)) := by
  have h' := h
  obtain ⟨hi, hj, hne⟩ := h
  have hil : i < H.length := (List.getElem?_eq_some_iff.1 hi).1
  have hjl : j < H.length := (List.getElem?_eq_some_iff.1 hj).1
  have hi1 : ∀ K, (H ++ K)[i]? = H[i]? := fun K => List.getElem?_append_left hil
  have hj1 : ∀ K, (H ++ K)[j]? = H[j]? := fun K => List.getElem?_append_left hjl
  unfold dpB at hi
  unfold enB at hj
  have f0 := fmc_len f hf
  have f1 := fmc_s f hf
  have f2 := fmc_p f hf
  have f3 := fmc_0 f
  have f4 := fmc_1 f
  have f5 := fmc_ty f hf
  have f6 := fmc_cell f
  have g1 := sqc_len f.sq hf
  generalize hr : d.frame f = r
  unfold Dp.frame at hr
  refine CallOk.body (F0 := [(0, .ptr i 0 0), (1, .agg (fmc f))]) Tryz.func66 rfl Tryz.ntmps66 Tryz.results66 rfl (by kernel_rfl) rfl ?_
  (repeat refine PW.seq ?_); refine PW.rg rfl fun K hK => ?_; simp (maxSteps := 3000000) (disch := omega) only [go_sem, ↓reduceIte, reduceCtorEq, pappend, plen, f6]; refine hK _ _ ?_; clear hK K
  have g2 := sqc_cell f.sq
  have g3 : ∀ X, List.take 135 (sqc f.sq ++ X) = sqc f.sq := fun X => List.take_left' g1
  have g4 : ∀ X n, List.drop (135 + n) (sqc f.sq ++ X) = List.drop n X := fun X n => by rw [← List.drop_drop, List.drop_left' g1]
  have g5 : ∀ X, List.drop 141 (sqc f.sq ++ X) = List.drop 6 X := fun X => g4 X 6
  have g6 : (pic f.hd).length = 6 := rfl
  have g7 : (pic f.hd).all PV.cell = true := rfl
  (repeat refine PW.seq ?_); refine PW.rg rfl fun K hK => ?_; simp (maxSteps := 3000000) (disch := omega) only [go_sem, ↓reduceIte, reduceCtorEq, pappend, plen, f0, f1, f2, g1, g2, g3, g5, g6, g7, List.length_append, List.append_nil]; refine hK _ _ ?_; clear hK K
  (repeat refine PW.seq ?_); refine PW.drawi [H.length + 1] [(4, [0]), (12, [0]), (23, [0])] [] [] mix (by kernel_rfl) (by simp <;> omega) fun K hK => ?_
  simp (maxSteps := 3000000) (disch := omega) only [go_sem, ↓reduceIte, reduceCtorEq, pappend, plen, hi1, hi, f0, f3, f4, f5]
  refine hK _ _ ?_; clear hK K
  (repeat refine PW.seq ?_); refine PW.rg rfl fun K hK => ?_; simp (maxSteps := 3000000) (disch := omega) only [go_sem, ↓reduceIte, reduceCtorEq, pappend, plen, hi1, hj1, hi, hj]; refine hK _ _ ?_; clear hK K
  (repeat refine PW.seq ?_); refine PW.rg rfl fun K hK => ?_; simp (maxSteps := 3000000) (disch := omega) only [go_sem, ↓reduceIte, reduceCtorEq, pappend, plen]; refine hK _ _ ?_; clear hK K
  have hln := en_len hd.ok.sq
  have hnn := hd.ok.n
  have hsh := hd.ok.sh
  have hlk := hd.ok.lk
  have hcn := hd.cnt
  have hji : ∀ K B, ((H ++ K).set j B)[i]? = H[i]? := fun K B => by rw [List.getElem?_set_ne (by omega)]; exact hi1 K
  have hjj : ∀ K B, ((H ++ K).set j B)[j]? = some B := fun K B => by rw [List.getElem?_set_self (by simp; omega)]
  (repeat refine PW.seq ?_); refine PW.cond (t := _) rfl (fun h => ?_) (fun h => ?_)
  · have ht : f.hd.ty = 3 := by simpa using h
    rw [if_pos ht] at hr
    suffices hrest : ∀ b, (b = true ↔ (d.lk ≠ 0 ∨ d.old = -1 ∨ d.new = -1)) → PW Tryz.prog _ _ [(0, .ptr i 0 0), (3, .ptr H.length 0 0), (4, .ptr (H.length + 1) 0 0), (5, .int .i64 (d.en.length : Int)), (51, .bool b)] (H ++ [⟨152, 0, fmc f⟩, ⟨93, 0, entc (fmE f d.new (-1))⟩]) _ by
      (repeat refine PW.seq ?_); refine PW.rg rfl fun K hK => ?_; simp (maxSteps := 3000000) (disch := omega) only [go_sem, ↓reduceIte, reduceCtorEq, pappend, plen, hi1, hi]; (repeat' ((first | refine VO_cond (fun h => ?_) (fun h => ?_) | refine VOd_cond (fun h => ?_) (fun h => ?_) | refine VOg_cond (fun h => ?_) (fun h => ?_) | refine VOh_cond (fun h => ?_) (fun h => ?_) | refine VOi_cond (fun h => ?_) (fun h => ?_) | refine And.intro (fun h => ?_) (fun h => ?_)) <;> (try simp only [Bool.not_eq_true', Bool.not_eq_false', decide_eq_true_eq, decide_eq_false_iff_not] at h) <;> simp (maxSteps := 3000000) (disch := omega) only [go_sem, ↓reduceIte, reduceCtorEq, pappend, plen, hi1, hi, h]))
      all_goals (refine hK _ _ ?_; clear hK K)
      all_goals (refine PW.at [0, 3, 4, 5, 51] (hrest _ ?_) rfl rfl)
      all_goals (simp_all; try omega)
    intro b hb
    (repeat refine PW.seq ?_); refine PW.cond (t := _) rfl (fun h => ?_) (fun h => ?_)
    · subst h
      rw [if_pos (hb.1 rfl)] at hr
      subst hr
      refine PW.ret ⟨_, rfl, ?_⟩
      have e7 := dp_fin H [⟨152, 0, fmc f⟩, ⟨93, 0, entc (fmE f d.new (-1))⟩] i j d hil hjl
      rw [h'.self] at e7
      exact e7
    · subst h
      rw [if_neg (fun h => by have := hb.2 h; cases this)] at hr
      refine PW.skip ?_
      obtain ⟨E, hE⟩ : ∃ E, E = entc (fmE f d.old d.new) := ⟨_, rfl⟩
      have el : (PV.int .i64 f.f :: PV.int .i64 f.l :: PV.int .i64 f.hd.ty :: PV.int .i64 d.old :: PV.int .i64 d.new :: PV.int .i64 0 :: (sqc f.sq ++ pic f.hd)) = E := hE.symm
      have e1 : E.length = 147 := by rw [hE]; exact entc_len _ hf
      have e2 : List.take 147 E = E := List.take_of_length_le (by omega)
      have e3 : E.all PV.cell = true := by rw [hE]; simp [entc, sqc_cell, PV.cell, pic]
      (repeat refine PW.seq ?_); refine PW.drawi [H.length + 1] [(4, [0]), (60, [0]), (61, [0]), (62, [0]), (63, [0])] [] [] mix (by kernel_rfl) (by simp <;> omega) fun K hK => ?_
      simp (maxSteps := 3000000) (disch := omega) only [go_sem, ↓reduceIte, reduceCtorEq, pappend, plen, hi1, hi, entc, fmE, el]
      refine hK _ _ ?_; clear hK K
      (repeat refine PW.seq ?_); refine PW.drawi [j, i] [(68, [0]), (71, [0]), (0, [1]), (64, [1]), (65, [1]), (66, [1]), (67, [1]), (72, [1]), (73, [1])] [] [] mix (by kernel_rfl) (by simp <;> omega) fun K hK => ?_
      simp (maxSteps := 3000000) (disch := omega) only [go_sem, ↓reduceIte, reduceCtorEq, pappend, plen, hi1, hj1, hi, hj, hji, hjj, hln, e1, e2, e3]
      refine hK _ _ ?_; clear hK K
      have hX := h'.two [⟨152, 0, fmc f⟩, ⟨93, 0, E⟩] { d with en := d.en ++ [fmE f d.old d.new] }
      have hXg : (d.en ++ [fmE f d.old d.new]).length = d.en.length + 1 := by simp
      have hsq : ∀ e ∈ d.en ++ [fmE f d.old d.new], SqL e.2.1 := fun e he => by
        rcases List.mem_append.1 he with he | he
        · exact hd.ok.sq e he
        · rw [List.mem_singleton] at he; rw [he]; exact hf
      have sok := show_ok { d with en := d.en ++ [fmE f d.old d.new] } d.en.length i j _ hX ⟨hsq, by simp; omega, by simp; omega, hlk, by have := hd.ok.new; simp; omega, by have := hd.ok.old; simp; omega, hd.ok.wt⟩ (by simp) (by show d.sh < _; omega)
      rw [tw_tw _ _ _ _ _ _ _ hne] at sok
      have e7 := dp_fin H [⟨152, 0, fmc f⟩, ⟨93, 0, E⟩] i j (Dp.show { d with en := d.en ++ [fmE f d.old d.new] } d.en.length) hil hjl
      rw [hr] at e7 sok
      refine PW.at [0, 5] (?_ : PW _ _ _ [(0, .ptr i 0 0), (5, .int .i64 (d.en.length : Int))] (tw (H ++ [⟨152, 0, fmc f⟩, ⟨93, 0, E⟩]) i j (dpB j { d with en := d.en ++ [fmE f d.old d.new] }) (enB (d.en ++ [fmE f d.old d.new]))) _) rfl ?_
      · generalize tw (H ++ [⟨152, 0, fmc f⟩, ⟨93, 0, E⟩]) i j (dpB j { d with en := d.en ++ [fmE f d.old d.new] }) (enB (d.en ++ [fmE f d.old d.new])) = X at *
        (repeat refine PW.seq ?_); refine PW.rg rfl fun K hK => ?_; simp (maxSteps := 3000000) (disch := omega) only [go_sem, ↓reduceIte, reduceCtorEq, pappend, plen]; refine VCx.call (sok) rfl ?_; simp (maxSteps := 3000000) (disch := omega) only [go_sem, ↓reduceIte, reduceCtorEq, pappend, plen]; refine hK _ _ ?_; clear hK K
        exact PW.ret ⟨_, rfl, e7⟩
      · unfold tw
        rw [List.set_comm _ _ hne]
        have hl9 : (List.flatMap entc d.en ++ E).length = (d.en.length + 1) * 147 := by rw [List.length_append, hln, e1]; omega
        unfold dpB enB
        simp only [en_snoc, hXg, ← hE, hl9]
  · have ht : ¬ f.hd.ty = 3 := by simpa using h
    rw [if_neg ht] at hr
    refine PW.skip ?_
    suffices hrest : ∀ b, (b = true ↔ (f.hd.ty = 2 ∧ d.new = -1)) → PW Tryz.prog _ _ [(0, .ptr i 0 0), (3, .ptr H.length 0 0), (4, .ptr (H.length + 1) 0 0), (5, .int .i64 (d.en.length : Int)), (87, .bool b)] (H ++ [⟨152, 0, fmc f⟩, ⟨93, 0, entc (fmE f d.new (-1))⟩]) _ by
      (repeat refine PW.seq ?_); refine PW.rg rfl fun K hK => ?_; simp (maxSteps := 3000000) (disch := omega) only [go_sem, ↓reduceIte, reduceCtorEq, pappend, plen, hi1, hi, entc, fmE]; (repeat' ((first | refine VO_cond (fun h => ?_) (fun h => ?_) | refine VOd_cond (fun h => ?_) (fun h => ?_) | refine VOg_cond (fun h => ?_) (fun h => ?_) | refine VOh_cond (fun h => ?_) (fun h => ?_) | refine VOi_cond (fun h => ?_) (fun h => ?_) | refine And.intro (fun h => ?_) (fun h => ?_)) <;> (try simp only [Bool.not_eq_true', Bool.not_eq_false', decide_eq_true_eq, decide_eq_false_iff_not] at h) <;> simp (maxSteps := 3000000) (disch := omega) only [go_sem, ↓reduceIte, reduceCtorEq, pappend, plen, hi1, hi, h]))
      all_goals (refine hK _ _ ?_; clear hK K)
      all_goals (refine PW.at [0, 3, 4, 5, 87] (hrest _ ?_) rfl rfl)
      all_goals (simp_all; try omega)
    intro b hb
    (repeat refine PW.seq ?_); refine PW.cond (t := _) rfl (fun h => ?_) (fun h => ?_)
    · subst h
      rw [if_pos (hb.1 rfl)] at hr
      subst hr
      refine PW.ret ⟨_, rfl, ?_⟩
      have e7 := dp_fin H [⟨152, 0, fmc f⟩, ⟨93, 0, entc (fmE f d.new (-1))⟩] i j d hil hjl
      rw [h'.self] at e7
      exact e7
    · subst h
      rw [if_neg (fun h => by have := hb.2 h; cases this)] at hr
      refine PW.skip ?_
      obtain ⟨E, hE⟩ : ∃ E, E = entc (fmE f d.new (-1)) := ⟨_, rfl⟩
      have e1 : E.length = 147 := by rw [hE]; exact entc_len _ hf
      have e2 : List.take 147 E = E := List.take_of_length_le (by omega)
      have e3 : E.all PV.cell = true := by rw [hE]; simp [entc, sqc_cell, PV.cell, pic]
      rw [← hE]
      (repeat refine PW.seq ?_); refine PW.drawi [j, i] [(92, [0]), (95, [0]), (0, [1]), (88, [1]), (89, [1]), (90, [1]), (91, [1]), (96, [1]), (97, [1])] [] [] mix (by kernel_rfl) (by simp <;> omega) fun K hK => ?_
      simp (maxSteps := 3000000) (disch := omega) only [go_sem, ↓reduceIte, reduceCtorEq, pappend, plen, hi1, hj1, hi, hj, hji, hjj, hln, e1, e2, e3]
      refine hK _ _ ?_; clear hK K
      have hX := h'.two [⟨152, 0, fmc f⟩, ⟨93, 0, E⟩] { d with en := d.en ++ [fmE f d.new (-1)] }
      have hXg : (d.en ++ [fmE f d.new (-1)]).length = d.en.length + 1 := by simp
      have hsq : ∀ e ∈ d.en ++ [fmE f d.new (-1)], SqL e.2.1 := fun e he => by
        rcases List.mem_append.1 he with he | he
        · exact hd.ok.sq e he
        · rw [List.mem_singleton] at he; rw [he]; exact hf
      have hG : DpG { d with en := d.en ++ [fmE f d.new (-1)] } 1000000 := ⟨⟨hsq, by simp; omega, by simp; omega, hlk, by have := hd.ok.new; simp; omega, by have := hd.ok.old; simp; omega, hd.ok.wt⟩, by simp; omega⟩
      have fok := flush_ok _ i j _ hX hG
      have ff := flush_f { d with en := d.en ++ [fmE f d.new (-1)] }
      rw [tw_tw _ _ _ _ _ _ _ hne] at fok
      refine PW.at [0, 5] (?_ : PW _ _ _ [(0, .ptr i 0 0), (5, .int .i64 (d.en.length : Int))] (tw (H ++ [⟨152, 0, fmc f⟩, ⟨93, 0, E⟩]) i j (dpB j { d with en := d.en ++ [fmE f d.new (-1)] }) (enB (d.en ++ [fmE f d.new (-1)]))) _) rfl ?_
      · have e7 := fun e => dp_fin H [⟨152, 0, fmc f⟩, ⟨93, 0, E⟩] i j e hil hjl
        have hlk2 := (flush_g hG).1.ok.lk
        generalize Dp.flush { d with en := d.en ++ [fmE f d.new (-1)] } = e at *
        have g0 := tw_d (H ++ [⟨152, 0, fmc f⟩, ⟨93, 0, E⟩]) i j e (enB e.en) (by rw [List.length_append]; omega) hne
        have g1' : ∀ B, (tw (H ++ [⟨152, 0, fmc f⟩, ⟨93, 0, E⟩]) i j (dpB j e) (enB e.en)).set i B = tw (H ++ [⟨152, 0, fmc f⟩, ⟨93, 0, E⟩]) i j B (enB e.en) := fun B => by
          unfold tw; rw [List.set_comm _ _ (by omega : j ≠ i), List.set_set]
        have g2' : ∀ B B', (tw (H ++ [⟨152, 0, fmc f⟩, ⟨93, 0, E⟩]) i j B B').set i = fun B2 => tw (H ++ [⟨152, 0, fmc f⟩, ⟨93, 0, E⟩]) i j B2 B' := fun B B' => by
          funext B2; unfold tw; rw [List.set_comm _ _ (by omega : j ≠ i), List.set_set]
        have g3' : ∀ B B', (tw (H ++ [⟨152, 0, fmc f⟩, ⟨93, 0, E⟩]) i j B B')[i]? = some B := fun B B' => tw_0 _ _ _ _ _ ⟨by rw [List.length_append]; omega, hne⟩
        generalize tw (H ++ [⟨152, 0, fmc f⟩, ⟨93, 0, E⟩]) i j (dpB j { d with en := d.en ++ [fmE f d.new (-1)] }) (enB (d.en ++ [fmE f d.new (-1)])) = X at *
        (repeat refine PW.seq ?_); refine PW.rg rfl fun K hK => ?_; simp (maxSteps := 3000000) (disch := omega) only [go_sem, ↓reduceIte, reduceCtorEq, pappend, plen]; refine VCx.call (fok) rfl ?_; simp (maxSteps := 3000000) (disch := omega) only [go_sem, ↓reduceIte, reduceCtorEq, pappend, plen]; refine hK _ _ ?_; clear hK K
        (repeat refine PW.seq ?_); refine PW.rg rfl fun K hK => ?_; simp (maxSteps := 3000000) (disch := omega) only [go_sem, ↓reduceIte, reduceCtorEq, pappend, plen, g0, g2', g3']; refine hK _ _ ?_; clear hK K
        (repeat refine PW.seq ?_); refine PW.rg rfl fun K hK => ?_; simp (maxSteps := 3000000) (disch := omega) only [go_sem, ↓reduceIte, reduceCtorEq, pappend, plen, g3', g2']; refine hK _ _ ?_; clear hK K
        have hm : (if e.lk - 1 > 0 then e.lk - 1 else 0) = max 0 (e.lk - 1) := by split <;> omega
        subst hr
        refine ⟨_, rfl, ?_⟩
        rw [hm]
        exact e7 _
      · unfold tw
        rw [List.set_comm _ _ hne]
        have hl9 : (List.flatMap entc d.en ++ E).length = (d.en.length + 1) * 147 := by rw [List.length_append, hln, e1]; omega
        unfold dpB enB
        simp only [en_snoc, hXg, ← hE, hl9]

end Go.Proofs.YtahomnplappbpaaGreatDoor.Sc
