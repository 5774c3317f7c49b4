/-
  Contracts of chapter 12: the reference's walk over the items.
-/
import Derived.Test.YtahomnplappbpaaGreatDoorYf
namespace Go.Proofs.YtahomnplappbpaaGreatDoor.Sc
set_option linter.all false
set_option linter.unusedVariables false
set_option linter.unusedSimpArgs false
open Pm Ty Go.RowKit

theorem pairR_ok (a b : Pi) (H : Heap) : CallOk Tryz.prog 200 [.agg (pic a), .agg (pic b)] H (.bool (pairP a b)) H := by
  obtain ⟨ty, st, od, tf, rp, al⟩ := a
  obtain ⟨ty', st', od', tf', rp', al'⟩ := b
  refine CallOk.body (F0 := [(0, .agg (pic ⟨ty, st, od, tf, rp, al⟩)), (1, .agg (pic ⟨ty', st', od', tf', rp', al'⟩))]) Tryz.func200 rfl Tryz.ntmps200 Tryz.results200 rfl (by kernel_rfl) rfl ?_
  (repeat' (first | refine PW.seq ?_ | refine PW.skip ?_ | refine PW.block ?_ | (refine PW.rg rfl fun K hK => ?_; simp (maxSteps := 3000000) (disch := omega) only [go_sem, ↓reduceIte, reduceCtorEq, pappend, plen, pic]) | (refine PW.draw mix (by kernel_rfl) fun K hK => ?_; simp (maxSteps := 3000000) (disch := omega) only [go_sem, ↓reduceIte, reduceCtorEq, pappend, plen, pic]) | (refine PW.drawg mix (by kernel_rfl) fun K hK => ?_; simp (maxSteps := 3000000) (disch := omega) only [go_sem, ↓reduceIte, reduceCtorEq, pappend, plen, pic]) | (refine PW.drawt [] [] mix (by kernel_rfl) fun K hK => ?_; simp (maxSteps := 3000000) (disch := omega) only [go_sem, ↓reduceIte, reduceCtorEq, pappend, plen, pic]) | ((first | refine VO_cond (fun h => ?_) (fun h => ?_) | refine VOd_cond (fun h => ?_) (fun h => ?_) | refine VOg_cond (fun h => ?_) (fun h => ?_) | refine VOh_cond (fun h => ?_) (fun h => ?_) | refine VOi_cond (fun h => ?_) (fun h => ?_) | refine And.intro (fun h => ?_) (fun h => ?_)) <;> (try simp only [Bool.not_eq_true', Bool.not_eq_false', decide_eq_true_eq, decide_eq_false_iff_not] at h) <;> simp (maxSteps := 3000000) (disch := omega) only [go_sem, ↓reduceIte, reduceCtorEq, pappend, plen, pic, h]) | (refine hK _ _ ?_; clear hK K) | (refine PW.cond (t := _) rfl (fun h => ?_) (fun h => ?_) <;> (try (cases h; done)) <;> (try simp only [Bool.not_eq_true', Bool.not_eq_false', decide_eq_true_eq, decide_eq_false_iff_not] at h))))
  all_goals ((refine PW.ret ⟨_, rfl, ?_⟩; first | refine .inl ⟨?_, rfl⟩ | refine Fin.base (.id' ?_ (.bool _)) | refine Fin.base (.id' ?_ (.int _ _))); simp_all [pairP, slot, Nat.beq])
  all_goals grind
def enR (e : En) : List PV := [.int .i64 e.f, .int .i64 e.l, .int .i64 e.ty, .int .i64 e.pa, .int .i64 e.fu, .int .i64 e.sh]
def wtl (j : Nat) (w : Wk) : List PV := [.int .i64 w.old, .int .i64 w.new, .bool w.wt, .int .i64 w.op, .int .i64 w.no, .int .i64 w.sh, .msl j (w.out.length * 6) 0 w.out.length 6 true, .bool w.sk]
def wkc (j : Nat) (L : List It) (fl : Bool) (w : Wk) : List PV := .slice (itL L) L.length fl :: .bool w.hd :: (sqc w.sq ++ wtl j w)
def wkB (j : Nat) (L : List It) (fl : Bool) (w : Wk) : Blk := ⟨95, 0, wkc j L fl w⟩
def woB (o : List En) : Blk := ⟨30, o.length * 6, o.flatMap enR⟩
section
variable {j : Nat} {L : List It} {fl : Bool}
theorem wkc_len (w : Wk) (h : SqL w.sq) : (wkc j L fl w).length = 145 := by
  simp only [wkc, wtl, List.length_cons, List.length_append, sqc_len _ h, List.length_nil]
theorem wkc_at (w : Wk) (h : SqL w.sq) (n : Nat) : (wkc j L fl w)[137 + n]? = (wtl j w)[n]? := by
  unfold wkc
  rw [show 137 + n = (135 + n) + 1 + 1 by omega, List.getElem?_cons_succ, List.getElem?_cons_succ, List.getElem?_append_right (by rw [sqc_len _ h]; omega), sqc_len _ h, Nat.add_sub_cancel_left]
theorem wkc_set (w : Wk) (h : SqL w.sq) (n : Nat) (v : PV) : (wkc j L fl w).set (137 + n) v = .slice (itL L) L.length fl :: .bool w.hd :: (sqc w.sq ++ (wtl j w).set n v) := by
  unfold wkc
  rw [show 137 + n = (135 + n) + 1 + 1 by omega, List.set_cons_succ, List.set_cons_succ, List.set_append_right _ _ (by rw [sqc_len _ h]; omega), sqc_len _ h, Nat.add_sub_cancel_left]
theorem wkc_sq (w : Wk) (h : SqL w.sq) : List.take 135 (List.drop 2 (wkc j L fl w)) = sqc w.sq := List.take_left' (sqc_len _ h)
structure WkG (j : Nat) (L : List It) (fl : Bool) (w : Wk) : Prop where
  ln : (wkc j L fl w).length = 145
  lL : (wkc j L fl w)[0]? = some (.slice (itL L) L.length fl)
  hd : (wkc j L fl w)[1]? = some (.bool w.hd)
  sq : List.take 135 (List.drop 2 (wkc j L fl w)) = sqc w.sq
  old : (wkc j L fl w)[137]? = some (.int .i64 w.old)
  new : (wkc j L fl w)[138]? = some (.int .i64 w.new)
  wt : (wkc j L fl w)[139]? = some (.bool w.wt)
  op : (wkc j L fl w)[140]? = some (.int .i64 w.op)
  no : (wkc j L fl w)[141]? = some (.int .i64 w.no)
  sh : (wkc j L fl w)[142]? = some (.int .i64 w.sh)
  out : (wkc j L fl w)[143]? = some (.msl j (w.out.length * 6) 0 w.out.length 6 true)
  sk : (wkc j L fl w)[144]? = some (.bool w.sk)
theorem wkg (w : Wk) (h : SqL w.sq) : WkG j L fl w := ⟨wkc_len w h, rfl, rfl, wkc_sq w h, wkc_at w h 0, wkc_at w h 1, wkc_at w h 2, wkc_at w h 3, wkc_at w h 4, wkc_at w h 5, wkc_at w h 6, wkc_at w h 7⟩
structure WkS (j : Nat) (L : List It) (fl : Bool) (w : Wk) : Prop where
  hd : ∀ v, (wkc j L fl w).set 1 (.bool v) = wkc j L fl { w with hd := v }
  old : ∀ v, (wkc j L fl w).set 137 (.int .i64 v) = wkc j L fl { w with old := v }
  new : ∀ v, (wkc j L fl w).set 138 (.int .i64 v) = wkc j L fl { w with new := v }
  wt : ∀ v, (wkc j L fl w).set 139 (.bool v) = wkc j L fl { w with wt := v }
  op : ∀ v, (wkc j L fl w).set 140 (.int .i64 v) = wkc j L fl { w with op := v }
  no : ∀ v, (wkc j L fl w).set 141 (.int .i64 v) = wkc j L fl { w with no := v }
  sh : ∀ v, (wkc j L fl w).set 142 (.int .i64 v) = wkc j L fl { w with sh := v }
  sk : ∀ v, (wkc j L fl w).set 144 (.bool v) = wkc j L fl { w with sk := v }
theorem wks (w : Wk) (h : SqL w.sq) : WkS j L fl w := ⟨fun _ => rfl, fun _ => wkc_set w h 0 _, fun _ => wkc_set w h 1 _, fun _ => wkc_set w h 2 _, fun _ => wkc_set w h 3 _, fun _ => wkc_set w h 4 _, fun _ => wkc_set w h 5 _, fun _ => wkc_set w h 7 _⟩
end
theorem enR_len (o : List En) : (o.flatMap enR).length = o.length * 6 := flat_len enR 6 o fun _ _ => rfl
theorem enR_set (o : List En) (n : Nat) (hn : n < o.length) (v : Int) : (o.flatMap enR).set (n * 6 + 5) (.int .i64 v) = (o.modify n (setE v)).flatMap enR :=
  flat_set enR 6 5 (.int .i64 v) (by omega) (setE v) o n hn (fun _ _ => rfl) fun _ _ => rfl
/-- The two blocks of a walk. -/
structure WkH (H : Heap) (i j : Nat) (L : List It) (fl : Bool) (w : Wk) : Prop where
  gi : H[i]? = some (wkB j L fl w)
  gj : H[j]? = some (woB w.out)
  ne : i ≠ j
structure WkOk (w : Wk) (m : Nat) : Prop where
  sq : SqOk w.sq
  n : w.out.length ≤ m
  sh : 0 ≤ w.sh ∧ w.sh + (if w.wt then 1 else 0) ≤ w.out.length
  no : 0 ≤ w.no ∧ w.no ≤ 2
  new : -1 ≤ w.new ∧ w.new < w.out.length
  wt : w.wt = true → 0 ≤ w.new
def wR (H : Heap) (i j : Nat) (L : List It) (fl : Bool) (w : Wk) : Heap := tw H i j (wkB j L fl w) (woB w.out)
theorem wR_i (H : Heap) (i j : Nat) (L : List It) (fl : Bool) (w : Wk) (hil : i < H.length) (hne : i ≠ j) : (wR H i j L fl w)[i]? = some ⟨95, 0, wkc j L fl w⟩ := tw_0 _ _ _ _ _ ⟨hil, hne⟩
theorem wR_s (H : Heap) (i j : Nat) (L : List It) (fl : Bool) (w w' : Wk) (hne : i ≠ j) (he : w'.out = w.out) : (wR H i j L fl w).set i ⟨95, 0, wkc j L fl w'⟩ = wR H i j L fl w' := by
  unfold wR tw
  rw [List.set_comm _ _ (by omega : j ≠ i), List.set_set, he]
  rfl
theorem wR_wR (H : Heap) (i j : Nat) (L : List It) (fl : Bool) (w w' : Wk) (hne : i ≠ j) : wR (wR H i j L fl w) i j L fl w' = wR H i j L fl w' := tw_tw _ _ _ _ _ _ _ hne
theorem wR_self {H : Heap} {i j : Nat} {L : List It} {fl : Bool} {w : Wk} (h : WkH H i j L fl w) : wR H i j L fl w = H := by
  unfold wR tw
  rw [set_id h.gi, set_id h.gj]
theorem wR_h (H : Heap) (i j : Nat) (L : List It) (fl : Bool) (w : Wk) (hil : i < H.length) (hjl : j < H.length) (hne : i ≠ j) : WkH (wR H i j L fl w) i j L fl w := ⟨tw_0 _ _ _ _ _ ⟨hil, hne⟩, tw_1 _ _ _ _ _ hjl, hne⟩
theorem wR_len (H : Heap) (i j : Nat) (L : List It) (fl : Bool) (w : Wk) : (wR H i j L fl w).length = H.length := tw_len _ _ _ _ _

/-- What is rewritten in the walk's block. -/
structure WrT (H : Heap) (i j : Nat) (L : List It) (fl : Bool) : Prop where
  gi : ∀ w, (wR H i j L fl w)[i]? = some ⟨95, 0, wkc j L fl w⟩
  gj : ∀ w, (wR H i j L fl w)[j]? = some ⟨30, w.out.length * 6, w.out.flatMap enR⟩
  hd : ∀ w v, (wR H i j L fl w).set i ⟨95, 0, wkc j L fl { w with hd := v }⟩ = wR H i j L fl { w with hd := v }
  old : ∀ w v, (wR H i j L fl w).set i ⟨95, 0, wkc j L fl { w with old := v }⟩ = wR H i j L fl { w with old := v }
  new : ∀ w v, (wR H i j L fl w).set i ⟨95, 0, wkc j L fl { w with new := v }⟩ = wR H i j L fl { w with new := v }
  wt : ∀ w v, (wR H i j L fl w).set i ⟨95, 0, wkc j L fl { w with wt := v }⟩ = wR H i j L fl { w with wt := v }
  op : ∀ w v, (wR H i j L fl w).set i ⟨95, 0, wkc j L fl { w with op := v }⟩ = wR H i j L fl { w with op := v }
  no : ∀ w v, (wR H i j L fl w).set i ⟨95, 0, wkc j L fl { w with no := v }⟩ = wR H i j L fl { w with no := v }
  sh : ∀ w v, (wR H i j L fl w).set i ⟨95, 0, wkc j L fl { w with sh := v }⟩ = wR H i j L fl { w with sh := v }
  sk : ∀ w v, (wR H i j L fl w).set i ⟨95, 0, wkc j L fl { w with sk := v }⟩ = wR H i j L fl { w with sk := v }
theorem wrt (H : Heap) (i j : Nat) (L : List It) (fl : Bool) (hil : i < H.length) (hjl : j < H.length) (hne : i ≠ j) : WrT H i j L fl :=
  ⟨fun w => wR_i _ _ _ _ _ _ hil hne, fun w => tw_1 _ _ _ _ _ hjl, fun w v => wR_s _ _ _ _ _ w _ hne rfl, fun w v => wR_s _ _ _ _ _ w _ hne rfl, fun w v => wR_s _ _ _ _ _ w _ hne rfl, fun w v => wR_s _ _ _ _ _ w _ hne rfl,
   fun w v => wR_s _ _ _ _ _ w _ hne rfl, fun w v => wR_s _ _ _ _ _ w _ hne rfl, fun w v => wR_s _ _ _ _ _ w _ hne rfl, fun w v => wR_s _ _ _ _ _ w _ hne rfl⟩

theorem wdrop_ok (L : List It) (fl : Bool) (w : Wk) (i j : Nat) (H : Heap) (h : WkH H i j L fl w) (hw : SqL w.sq) : CallOk Tryz.prog 68 [.ptr i 0 0] H (.tup []) (wR H i j L fl w.drop) := by
  have hil : i < H.length := (List.getElem?_eq_some_iff.1 h.gi).1
  have hjl : j < H.length := (List.getElem?_eq_some_iff.1 h.gj).1
  have t := wrt H i j L fl hil hjl h.ne
  have g := wkg (j := j) (L := L) (fl := fl) w hw
  have g2 := wkg (j := j) (L := L) (fl := fl) { w with sk := true } hw
  have s := wks (j := j) (L := L) (fl := fl) w hw
  have s2 := wks (j := j) (L := L) (fl := fl) { w with sk := true } hw
  refine CallOk.body (F0 := [(0, .ptr i 0 0)]) Tryz.func68 rfl Tryz.ntmps68 Tryz.results68 rfl (by kernel_rfl) rfl ?_
  refine PW.eq rfl (wR_self h).symm ?_
  (repeat refine PW.seq ?_); refine PW.rg rfl fun K hK => ?_; simp (maxSteps := 3000000) (disch := omega) only [go_sem, ↓reduceIte, reduceCtorEq, pappend, plen, t.gi, g.ln, g.op]; refine hK _ _ ?_; clear hK K
  (repeat refine PW.seq ?_); refine PW.cond (t := _) rfl (fun h => ?_) (fun h => ?_)
  · have h0 : 0 ≤ w.op := of_decide_eq_true h
    have e : w.drop = { w with sk := true, op := -1 } := by unfold Wk.drop; simp [h0]
    rw [e]
    (repeat refine PW.seq ?_); refine PW.rg rfl fun K hK => ?_; simp (maxSteps := 3000000) (disch := omega) only [go_sem, ↓reduceIte, reduceCtorEq, pappend, plen, t.gi, t.sk, g.ln, s.sk]; refine hK _ _ ?_; clear hK K
    (repeat refine PW.seq ?_); refine PW.rg rfl fun K hK => ?_; simp (maxSteps := 3000000) (disch := omega) only [go_sem, ↓reduceIte, reduceCtorEq, pappend, plen, t.gi, t.op, g2.ln, s2.op]; refine hK _ _ ?_; clear hK K
    exact ⟨_, rfl, Fin.now⟩
  · have h0 : ¬ 0 ≤ w.op := of_decide_eq_false h
    have e : w.drop = { w with op := -1 } := by unfold Wk.drop; simp [h0]
    rw [e]
    refine PW.skip ?_
    (repeat refine PW.seq ?_); refine PW.rg rfl fun K hK => ?_; simp (maxSteps := 3000000) (disch := omega) only [go_sem, ↓reduceIte, reduceCtorEq, pappend, plen, t.gi, t.op, g.ln, s.op]; refine hK _ _ ?_; clear hK K
    exact ⟨_, rfl, Fin.now⟩
theorem wreset_ok (L : List It) (fl : Bool) (w : Wk) (i j : Nat) (H : Heap) (h : WkH H i j L fl w) (hw : WkOk w 1000000) : CallOk Tryz.prog 69 [.ptr i 0 0] H (.tup []) (wR H i j L fl w.reset) := by
  have hil : i < H.length := (List.getElem?_eq_some_iff.1 h.gi).1
  have hjl : j < H.length := (List.getElem?_eq_some_iff.1 h.gj).1
  have t := wrt H i j L fl hil hjl h.ne
  have hsq := hw.sq.toL
  have g := wkg (j := j) (L := L) (fl := fl) w hsq
  have hsh := hw.sh
  have hnn := hw.n
  have hnw := hw.new
  have hwt := hw.wt
  have hself := wR_self h
  have hne := h.ne
  unfold Wk.reset
  refine CallOk.body (F0 := [(0, .ptr i 0 0)]) Tryz.func69 rfl Tryz.ntmps69 Tryz.results69 rfl (by kernel_rfl) rfl ?_
  refine PW.eq rfl hself.symm ?_
  (repeat refine PW.seq ?_); refine PW.rg rfl fun K hK => ?_; simp (maxSteps := 3000000) (disch := omega) only [go_sem, ↓reduceIte, reduceCtorEq, pappend, plen, t.gi, g.ln, g.wt]; refine hK _ _ ?_; clear hK K
  unfold Wk.disp
  (repeat refine PW.seq ?_); refine PW.cond (t := _) rfl (fun h => ?_) (fun h => ?_)
  · obtain ⟨n, hn⟩ : ∃ n : Nat, w.new = (n : Int) := ⟨w.new.toNat, by have := hwt h; omega⟩
    rw [if_pos h] at hsh ⊢
    have hln := enR_len w.out
    have hset := enR_set w.out n (by omega) w.sh
    have gn := g.new
    rw [hn] at gn
    (repeat refine PW.seq ?_); refine PW.drawi [j] [(9, [0]), (18, [0]), (19, [0])] [] [] mix (by kernel_rfl) (by simp <;> omega) fun K hK => ?_
    simp (maxSteps := 3000000) (disch := omega) only [go_sem, ↓reduceIte, reduceCtorEq, pappend, plen, t.gi, t.gj, g.ln, g.out, gn, g.sh, hln, hset]
    refine hK _ _ ?_; clear hK K
    have hb : (wR H i j L fl w).set j ⟨30, w.out.length * 6, (w.out.modify n (setE w.sh)).flatMap enR⟩ = wR H i j L fl { w with out := w.out.modify n (setE w.sh) } := by
      unfold wR tw
      rw [List.set_set]
      unfold wkB woB wkc wtl
      simp only [List.length_modify]
    refine PW.at [0] (?_ : PW _ _ _ [(0, .ptr i 0 0)] (wR H i j L fl { w with out := w.out.modify n (setE w.sh) }) _) rfl hb
    rw [show w.new.toNat = n by omega]
    generalize w.out.modify n (setE w.sh) = o at *
    have g := wkg (j := j) (L := L) (fl := fl) { w with out := o } hsq
    have s := wks (j := j) (L := L) (fl := fl) { w with out := o } hsq
    have g1 := wkg (j := j) (L := L) (fl := fl) { w with out := o, sh := w.sh + 1 } hsq
    have s1 := wks (j := j) (L := L) (fl := fl) { w with out := o, sh := w.sh + 1 } hsq
    have g2 := wkg (j := j) (L := L) (fl := fl) { w with out := o, sh := w.sh + 1, old := -1 } hsq
    have s2 := wks (j := j) (L := L) (fl := fl) { w with out := o, sh := w.sh + 1, old := -1 } hsq
    have g3 := wkg (j := j) (L := L) (fl := fl) { w with out := o, sh := w.sh + 1, old := -1, new := -1 } hsq
    have s3 := wks (j := j) (L := L) (fl := fl) { w with out := o, sh := w.sh + 1, old := -1, new := -1 } hsq
    have g4 := wkg (j := j) (L := L) (fl := fl) { w with out := o, sh := w.sh + 1, old := -1, new := -1, wt := false } hsq
    have s4 := wks (j := j) (L := L) (fl := fl) { w with out := o, sh := w.sh + 1, old := -1, new := -1, wt := false } hsq
    (repeat refine PW.seq ?_); refine PW.rg rfl fun K hK => ?_; simp (maxSteps := 3000000) (disch := omega) only [go_sem, ↓reduceIte, reduceCtorEq, pappend, plen, t.gi, t.sh, g.ln, g.sh, s.sh]; refine hK _ _ ?_; clear hK K
    (repeat refine PW.seq ?_); refine PW.rg rfl fun K hK => ?_; simp (maxSteps := 3000000) (disch := omega) only [go_sem, ↓reduceIte, reduceCtorEq, pappend, plen, t.gi, t.old, t.new, t.wt, t.no, g1.ln, s1.old, g2.ln, s2.new, g3.ln, s3.wt, g4.ln, s4.no]; refine hK _ _ ?_; clear hK K
    exact ⟨_, rfl, Fin.now⟩
  · rw [if_neg (by rw [h]; simp)]
    have s1 := wks (j := j) (L := L) (fl := fl) w hsq
    have g2 := wkg (j := j) (L := L) (fl := fl) { w with old := -1 } hsq
    have s2 := wks (j := j) (L := L) (fl := fl) { w with old := -1 } hsq
    have g3 := wkg (j := j) (L := L) (fl := fl) { w with old := -1, new := -1 } hsq
    have s3 := wks (j := j) (L := L) (fl := fl) { w with old := -1, new := -1 } hsq
    have g4 := wkg (j := j) (L := L) (fl := fl) { w with old := -1, new := -1, wt := false } hsq
    have s4 := wks (j := j) (L := L) (fl := fl) { w with old := -1, new := -1, wt := false } hsq
    refine PW.skip ?_
    (repeat refine PW.seq ?_); refine PW.rg rfl fun K hK => ?_; simp (maxSteps := 3000000) (disch := omega) only [go_sem, ↓reduceIte, reduceCtorEq, pappend, plen, t.gi, t.old, t.new, t.wt, t.no, g.ln, s1.old, g2.ln, s2.new, g3.ln, s3.wt, g4.ln, s4.no]; refine hK _ _ ?_; clear hK K
    exact ⟨_, rfl, Fin.now⟩
theorem wkc_sc (n j : Nat) (L : List It) (fl : Bool) (w : Wk) (h : j < n) : ∀ x ∈ wkc j L fl w, Scoped n x := fun x hx => by
  simp only [wkc, wtl, List.mem_cons, List.mem_append, List.not_mem_nil, or_false] at hx
  rcases hx with rfl | rfl | hx | rfl | rfl | rfl | rfl | rfl | rfl | rfl | rfl
  · exact sl_scoped (itL_sc _ _)
  · exact .bool _
  · exact sqc_scoped _ _ x hx
  · exact .int _ _
  · exact .int _ _
  · exact .bool _
  · exact .int _ _
  · exact .int _ _
  · exact .int _ _
  · exact .msl h
  · exact .bool _
theorem woB_sc (n : Nat) (o : List En) : ∀ x ∈ (woB o).cells, Scoped n x := fun x hx => by
  obtain ⟨e, _, hx⟩ := List.mem_flatMap.1 hx
  simp only [enR, List.mem_cons, List.not_mem_nil, or_false] at hx
  rcases hx with rfl | rfl | rfl | rfl | rfl | rfl <;> exact .int _ _
theorem wR_app (H K : Heap) (i j : Nat) (L : List It) (fl : Bool) (w : Wk) (hi : i < H.length) (hj : j < H.length) : wR (H ++ K) i j L fl w = wR H i j L fl w ++ K := tw_app _ _ _ _ _ _ hi hj
theorem wR_fin (H K : Heap) (i j : Nat) (L : List It) (fl : Bool) (w : Wk) (hi : i < H.length) (hj : j < H.length) : Fin H (.tup []) (wR H i j L fl w) (.tup []) (wR (H ++ K) i j L fl w) := by
  rw [wR_app _ _ _ _ _ _ _ hi hj]
  exact Fin.cut rfl (by rw [wR_len]) (tw_sc (wkc_sc _ _ _ _ _ hj) (woB_sc _ _)) (.id (.tup (by simp)))
theorem wR_last (H : Heap) (i j : Nat) (L : List It) (fl : Bool) (w : Wk) (P E : Blk) (hi : i < H.length) (hj : j < H.length) :
    (wR (H ++ [P, E]) i j L fl w)[H.length]? = some P ∧ (wR (H ++ [P, E]) i j L fl w)[H.length + 1]? = some E ∧ ∀ B, (wR (H ++ [P, E]) i j L fl w).set (H.length + 1) B = wR (H ++ [P, B]) i j L fl w := by
  have hl := wR_len H i j L fl w
  refine ⟨?_, ?_, fun B => ?_⟩
  · rw [wR_app _ _ _ _ _ _ _ hi hj, List.getElem?_append_right (by omega), hl, Nat.sub_self]; rfl
  · rw [wR_app _ _ _ _ _ _ _ hi hj, List.getElem?_append_right (by omega), hl, Nat.add_sub_cancel_left]; rfl
  · rw [wR_app _ _ _ _ _ _ _ hi hj, wR_app _ _ _ _ _ _ _ hi hj, List.set_append_right _ _ (by omega), hl, Nat.add_sub_cancel_left]; rfl
theorem snoc6 (o : List En) (e : En) : (o ++ [e]).flatMap enR = o.flatMap enR ++ enR e := by
  rw [List.flatMap_append, List.flatMap_cons, List.flatMap_nil, List.append_nil]
theorem wR_snoc (H : Heap) (i j : Nat) (L : List It) (fl : Bool) (w : Wk) (e : En) (hne : i ≠ j) (hsq : SqL w.sq) :
    ((wR H i j L fl w).set j ⟨30, (w.out.flatMap enR ++ enR e).length, w.out.flatMap enR ++ enR e⟩).set i ⟨95, 0, (wkc j L fl w).set 143 (.msl j (w.out.flatMap enR ++ enR e).length 0 (w.out.length + 1) 6 true)⟩ = wR H i j L fl { w with out := w.out ++ [e] } := by
  have e1 : (w.out.flatMap enR ++ enR e).length = (w.out.length + 1) * 6 := by rw [List.length_append, enR_len]; show _ + 6 = _; omega
  have e2 : (wkc j L fl w).set 143 (.msl j ((w.out.length + 1) * 6) 0 (w.out.length + 1) 6 true) = wkc j L fl { w with out := w.out ++ [e] } := by
    rw [wkc_set w hsq 6]
    unfold wkc wtl
    simp only [List.length_append, List.length_cons, List.length_nil]
    rfl
  rw [e1, e2]
  unfold wR tw
  rw [List.set_set, List.set_comm _ _ (by omega : j ≠ i), List.set_set]
  unfold wkB woB
  simp only [snoc6, List.length_append, List.length_cons, List.length_nil]
set_option maxHeartbeats 4000000 in
set_option maxRecDepth 100000 in
theorem wframe_ok (L : List It) (fl : Bool) (hL : ∀ x ∈ L, SqOk x.s) (w : Wk) (k : Nat) (hk : k < L.length) (last : Int) (i j : Nat) (H : Heap) (h : WkH H i j L fl w) (hw : WkOk w 900000) :
    CallOk Tryz.prog 201 [.ptr i 0 0, .int .i64 (k : Int), .int .i64 last] H (.tup []) (wR H i j L fl (w.frame (k : Int) last L[k].p.ty)) := by
  have hil : i < H.length := (List.getElem?_eq_some_iff.1 h.gi).1
  have hjl : j < H.length := (List.getElem?_eq_some_iff.1 h.gj).1
  have hne := h.ne
  have t0 := wrt H i j L fl hil hjl h.ne
  have hsq := hw.sq.toL
  have g := wkg (j := j) (L := L) (fl := fl) w hsq
  have s := wks (j := j) (L := L) (fl := fl) w hsq
  have hsh := hw.sh
  have hnn := hw.n
  have hnw := hw.new
  have hwt := hw.wt
  have hno := hw.no
  have ln := itL_len L hL
  have ip := itL_pic L hL k hk
  have hself := wR_self h
  generalize hr : w.frame (k : Int) last L[k].p.ty = r
  unfold Wk.frame at hr
  generalize L[k].p = p at *
  have p1 : (pic p).length = 6 := rfl
  have p2 : (pic p).all PV.cell = true := rfl
  have p3 : List.take 6 (pic p) = pic p := rfl
  have p4 : (pic p)[0]? = some (.int .i64 p.ty) := rfl
  refine CallOk.body (F0 := [(0, .ptr i 0 0), (1, .int .i64 (k : Int)), (2, .int .i64 last)]) Tryz.func201 rfl Tryz.ntmps201 Tryz.results201 rfl (by kernel_rfl) rfl ?_
  refine PW.eq rfl hself.symm ?_
  (repeat refine PW.seq ?_); refine PW.rg rfl fun K hK => ?_; simp (maxSteps := 3000000) (disch := omega) only [go_sem, ↓reduceIte, reduceCtorEq, pappend, plen, t0.gi, g.ln, g.lL, ln, ip, p2]; refine hK _ _ ?_; clear hK K
  have hYl := wR_len H i j L fl w
  have ta : ∀ K, (wR H i j L fl w ++ K)[i]? = some ⟨95, 0, wkc j L fl w⟩ := fun K => by rw [List.getElem?_append_left (by omega)]; exact t0.gi w
  (repeat refine PW.seq ?_); refine PW.drawg mix (by kernel_rfl) fun K hK => ?_; simp (maxSteps := 3000000) (disch := omega) only [go_sem, ↓reduceIte, reduceCtorEq, pappend, plen, ta, g.ln, g.new, p1, p4]; refine hK _ _ ?_; clear hK K
  have t := fun P E => wrt (H ++ [P, E]) i j L fl (by simp; omega) (by simp; omega) hne
  have hl := fun w P E => wR_last H i j L fl w P E hil hjl
  obtain ⟨e0, he0⟩ : ∃ e : En, e = ⟨(k : Int), last, p.ty, w.new, -1, 0⟩ := ⟨_, rfl⟩
  have hfin := fun P E w => wR_fin H [P, E] i j L fl w hil hjl
  refine PW.at [0, 6, 7] (?_ : PW _ _ _ [(0, .ptr i 0 0), (6, .ptr H.length 0 0), (7, .ptr (H.length + 1) 0 0)] (wR (H ++ [⟨70, 0, pic p⟩, ⟨30, 0, enR e0⟩]) i j L fl w) _) (by rw [← hYl]; rfl) (by rw [wR_app _ _ _ _ _ _ _ hil hjl, he0]; rfl)
  have a0 := fun w E => (hl w ⟨70, 0, pic p⟩ E).1
  have a1 := fun w E => (hl w ⟨70, 0, pic p⟩ E).2.1
  have a2 := fun w E => (hl w ⟨70, 0, pic p⟩ E).2.2
  have t := fun E => t ⟨70, 0, pic p⟩ E
  have hfin := fun E w => hfin ⟨70, 0, pic p⟩ E w
  have tgi := fun E w => (t E).gi w
  have tgj := fun E w => (t E).gj w
  have tsk := fun E w v => (t E).sk w v
  have tsh := fun E w v => (t E).sh w v
  have tol := fun E w v => (t E).old w v
  have tne := fun E w v => (t E).new w v
  have twt := fun E w v => (t E).wt w v
  have tno := fun E w v => (t E).no w v
  have hln := enR_len w.out
  (repeat refine PW.seq ?_); refine PW.rg rfl fun K hK => ?_; simp (maxSteps := 3000000) (disch := omega) only [go_sem, ↓reduceIte, reduceCtorEq, pappend, plen, a0, p1, p4]; refine hK _ _ ?_; clear hK K
  (repeat refine PW.seq ?_); refine PW.block ?_
  (repeat refine PW.seq ?_); refine PW.rg rfl fun K hK => ?_; simp (maxSteps := 3000000) (disch := omega) only [go_sem, ↓reduceIte, reduceCtorEq, pappend, plen]; refine hK _ _ ?_; clear hK K
  by_cases h3 : p.ty = 3
  · rw [if_pos h3] at hr
    (repeat refine PW.seq ?_); refine PW.cond (t := _) rfl (fun h => ?_) (fun h => ?_)
    rotate_left
    · simp [h3] at h
    suffices hrest : ∀ b, (b = true ↔ (w.no > 0 ∨ w.old < 0 ∨ w.new < 0)) → PW Tryz.prog _ _ [(0, .ptr i 0 0), (6, .ptr H.length 0 0), (7, .ptr (H.length + 1) 0 0), (48, .bool b)] (wR (H ++ [⟨70, 0, pic p⟩, ⟨30, 0, enR e0⟩]) i j L fl w) _ by
      (repeat refine PW.seq ?_); refine PW.rg rfl fun K hK => ?_; simp (maxSteps := 3000000) (disch := omega) only [go_sem, ↓reduceIte, reduceCtorEq, pappend, plen, tgi, g.ln, g.no, g.old, g.new]; (repeat' ((first | refine VO_cond (fun h => ?_) (fun h => ?_) | refine VOd_cond (fun h => ?_) (fun h => ?_) | refine VOg_cond (fun h => ?_) (fun h => ?_) | refine VOh_cond (fun h => ?_) (fun h => ?_) | refine VOi_cond (fun h => ?_) (fun h => ?_) | refine And.intro (fun h => ?_) (fun h => ?_)) <;> (try simp only [Bool.not_eq_true', Bool.not_eq_false', decide_eq_true_eq, decide_eq_false_iff_not] at h) <;> simp (maxSteps := 3000000) (disch := omega) only [go_sem, ↓reduceIte, reduceCtorEq, pappend, plen, tgi, g.ln, g.no, g.old, g.new, h]))
      all_goals (refine hK _ _ ?_; clear hK K)
      all_goals (refine PW.at [0, 6, 7, 48] (hrest _ ?_) rfl rfl)
      all_goals (simp_all; try omega)
    intro b hb
    (repeat refine PW.seq ?_); refine PW.cond (t := _) rfl (fun h => ?_) (fun h => ?_)
    · subst h
      rw [if_pos (hb.1 rfl)] at hr
      subst hr
      (repeat refine PW.seq ?_); refine PW.rg rfl fun K hK => ?_; simp (maxSteps := 3000000) (disch := omega) only [go_sem, ↓reduceIte, reduceCtorEq, pappend, plen, tgi, g.ln, s.sk, tsk]; refine hK _ _ ?_; clear hK K
      exact PW.ret ⟨_, rfl, hfin _ _⟩
    · subst h
      rw [if_neg (fun h => by have := hb.2 h; cases this)] at hr
      refine PW.skip ?_
      (repeat refine PW.seq ?_); refine PW.drawi [H.length + 1] [(7, [0]), (64, [0]), (66, [0]), (68, [0]), (65, [0]), (67, [0])] [] [] mix (by kernel_rfl) (by simp <;> omega) fun K hK => ?_
      simp (maxSteps := 3000000) (disch := omega) only [go_sem, ↓reduceIte, reduceCtorEq, pappend, plen, tgi, g.ln, g.old, g.new, g.sh, a1, a2, enR]
      refine hK _ _ ?_; clear hK K
      obtain ⟨e1, he1⟩ : ∃ e : En, e = ⟨(k : Int), last, p.ty, w.old, w.new, w.sh⟩ := ⟨_, rfl⟩
      refine PW.at [0, 6, 7] (?_ : PW _ _ _ [(0, .ptr i 0 0), (6, .ptr H.length 0 0), (7, .ptr (H.length + 1) 0 0)] (wR (H ++ [⟨70, 0, pic p⟩, ⟨30, 0, enR e1⟩]) i j L fl w) _) rfl (by rw [he1, he0]; rfl)
      (repeat refine PW.seq ?_); refine PW.rg rfl fun K hK => ?_; simp (maxSteps := 3000000) (disch := omega) only [go_sem, ↓reduceIte, reduceCtorEq, pappend, plen, tgi, g.ln, g.sh, s.sh, tsh]; refine hK _ _ ?_; clear hK K
      have g1 := wkg (j := j) (L := L) (fl := fl) { w with sh := w.sh + 1 } hsq
      have l6 : (enR e1).length = 6 := rfl
      have t6 : List.take 6 (enR e1) = enR e1 := rfl
      have c6 : (enR e1).all PV.cell = true := rfl
      have tji : ∀ E w B, ((wR (H ++ [⟨70, 0, pic p⟩, E]) i j L fl w).set j B)[i]? = some ⟨95, 0, wkc j L fl w⟩ := fun E w B => by rw [List.getElem?_set_ne (by omega)]; exact tgi E w
      have tjj : ∀ E w B, ((wR (H ++ [⟨70, 0, pic p⟩, E]) i j L fl w).set j B)[j]? = some B := fun E w B => by rw [List.getElem?_set_self (by rw [wR_len]; simp; omega)]
      (repeat refine PW.seq ?_); refine PW.drawi [j, i] [(78, [0]), (81, [0]), (0, [1]), (74, [1]), (75, [1]), (76, [1]), (77, [1]), (82, [1]), (83, [1])] [] [] mix (by kernel_rfl) (by simp <;> omega) fun K hK => ?_
      simp (maxSteps := 3000000) (disch := omega) only [go_sem, ↓reduceIte, reduceCtorEq, pappend, plen, tgi, tgj, tji, tjj, a1, g1.ln, g1.out, hln, l6, t6, c6]
      refine hK _ _ ?_; clear hK K
      have hq := wR_snoc (H ++ [⟨70, 0, pic p⟩, ⟨30, 0, enR e1⟩]) i j L fl { w with sh := w.sh + 1 } e1 hne hsq
      dsimp only at hq
      refine PW.eq rfl hq ?_
      refine PW.ret ⟨_, rfl, ?_⟩
      rw [← he1] at hr
      subst hr
      exact hfin _ _
  rw [if_neg h3] at hr
  (repeat refine PW.seq ?_); refine PW.cond (t := _) rfl (fun h => ?_) (fun h => ?_)
  · simp [h3] at h
  (repeat refine PW.seq ?_); refine PW.rg rfl fun K hK => ?_; simp (maxSteps := 3000000) (disch := omega) only [go_sem, ↓reduceIte, reduceCtorEq, pappend, plen]; refine hK _ _ ?_; clear hK K
  suffices hrest : ¬ (p.ty = 2 ∧ w.new < 0) → PW Tryz.prog _ _ [(0, .ptr i 0 0), (6, .ptr H.length 0 0), (7, .ptr (H.length + 1) 0 0)] (wR (H ++ [⟨70, 0, pic p⟩, ⟨30, 0, enR e0⟩]) i j L fl w) _ by
    by_cases h2 : p.ty = 2
    · (repeat refine PW.seq ?_); refine PW.cond (t := _) rfl (fun h => ?_) (fun h => ?_)
      rotate_left
      · simp [h2] at h
      (repeat refine PW.seq ?_); refine PW.rg rfl fun K hK => ?_; simp (maxSteps := 3000000) (disch := omega) only [go_sem, ↓reduceIte, reduceCtorEq, pappend, plen, tgi, g.ln, g.new]; refine hK _ _ ?_; clear hK K
      (repeat refine PW.seq ?_); refine PW.cond (t := _) rfl (fun h => ?_) (fun h => ?_)
      · have hc : p.ty = 2 ∧ w.new < 0 := ⟨h2, of_decide_eq_true h⟩
        rw [if_pos hc] at hr
        subst hr
        (repeat refine PW.seq ?_); refine PW.rg rfl fun K hK => ?_; simp (maxSteps := 3000000) (disch := omega) only [go_sem, ↓reduceIte, reduceCtorEq, pappend, plen, tgi, g.ln, s.sk, tsk]; refine hK _ _ ?_; clear hK K
        exact PW.ret ⟨_, rfl, hfin _ _⟩
      · have hc : ¬ w.new < 0 := of_decide_eq_false h
        refine PW.skip ?_
        exact PW.at [0, 6, 7] (hrest (by omega)) rfl rfl
    · (repeat refine PW.seq ?_); refine PW.cond (t := _) rfl (fun h => ?_) (fun h => ?_)
      · simp [h2] at h
      refine PW.skip ?_
      exact PW.at [0, 6, 7] (hrest (by omega)) rfl rfl
  intro hc
  rw [if_neg hc] at hr
  have l6 : (enR e0).length = 6 := rfl
  have t6 : List.take 6 (enR e0) = enR e0 := rfl
  have c6 : (enR e0).all PV.cell = true := rfl
  have tji : ∀ E w B, ((wR (H ++ [⟨70, 0, pic p⟩, E]) i j L fl w).set j B)[i]? = some ⟨95, 0, wkc j L fl w⟩ := fun E w B => by rw [List.getElem?_set_ne (by omega)]; exact tgi E w
  have tjj : ∀ E w B, ((wR (H ++ [⟨70, 0, pic p⟩, E]) i j L fl w).set j B)[j]? = some B := fun E w B => by rw [List.getElem?_set_self (by rw [wR_len]; simp; omega)]
  (repeat refine PW.seq ?_); refine PW.drawi [j, i] [(98, [0]), (101, [0]), (0, [1]), (94, [1]), (95, [1]), (96, [1]), (97, [1]), (102, [1]), (103, [1])] [] [] mix (by kernel_rfl) (by simp <;> omega) fun K hK => ?_
  simp (maxSteps := 3000000) (disch := omega) only [go_sem, ↓reduceIte, reduceCtorEq, pappend, plen, tgi, tgj, tji, tjj, a1, g.ln, g.out, hln, l6, t6, c6]
  refine hK _ _ ?_; clear hK K
  have hq := wR_snoc (H ++ [⟨70, 0, pic p⟩, ⟨30, 0, enR e0⟩]) i j L fl w e0 hne hsq
  rw [← he0] at hr
  refine PW.at [0] (?_ : PW _ _ _ [(0, .ptr i 0 0)] (wR (H ++ [⟨70, 0, pic p⟩, ⟨30, 0, enR e0⟩]) i j L fl { w with out := w.out ++ [e0] }) _) rfl hq
  generalize (⟨30, 0, enR e0⟩ : Blk) = EB at *
  have hol : (w.out ++ [e0]).length = w.out.length + 1 := by simp
  clear hq
  generalize w.out ++ [e0] = o at *
  have g2 := wkg (j := j) (L := L) (fl := fl) { w with out := o } hsq
  (repeat refine PW.seq ?_); refine PW.rg rfl fun K hK => ?_; simp (maxSteps := 3000000) (disch := omega) only [go_sem, ↓reduceIte, reduceCtorEq, pappend, plen, tgi, g2.ln, g2.wt]; refine hK _ _ ?_; clear hK K
  suffices hrest : ∀ d : Wk, d = Wk.disp { w with out := o } → PW Tryz.prog _ _ [(0, .ptr i 0 0)] (wR (H ++ [⟨70, 0, pic p⟩, EB]) i j L fl d) _ by
    by_cases hwt1 : w.wt = true
    · obtain ⟨n, hn⟩ : ∃ n : Nat, w.new = (n : Int) := ⟨w.new.toNat, by have := hwt hwt1; omega⟩
      have hrest := hrest _ rfl
      unfold Wk.disp at hrest
      dsimp only at hrest
      rw [if_pos hwt1, show w.new.toNat = n by omega] at hrest
      rw [if_pos hwt1] at hsh
      (repeat refine PW.seq ?_); refine PW.cond (t := _) rfl (fun h => ?_) (fun h => ?_)
      rotate_left
      · rw [hwt1] at h; cases h
      have hln2 := enR_len o
      have hset := enR_set o n (by omega) w.sh
      have gn : (wkc j L fl { w with out := o })[138]? = some (.int .i64 (n : Int)) := g2.new.trans (by rw [hn])
      (repeat refine PW.seq ?_); refine PW.drawi [j] [(111, [0]), (120, [0]), (121, [0])] [] [] mix (by kernel_rfl) (by simp <;> omega) fun K hK => ?_
      simp (maxSteps := 3000000) (disch := omega) only [go_sem, ↓reduceIte, reduceCtorEq, pappend, plen, tgi, tgj, g2.ln, g2.out, gn, g2.sh, hln2, hset]
      refine hK _ _ ?_; clear hK K
      have hb : (wR (H ++ [⟨70, 0, pic p⟩, EB]) i j L fl { w with out := o }).set j ⟨30, o.length * 6, (o.modify n (setE w.sh)).flatMap enR⟩ = wR (H ++ [⟨70, 0, pic p⟩, EB]) i j L fl { w with out := o.modify n (setE w.sh) } := by
        unfold wR tw
        rw [List.set_set]
        unfold wkB woB wkc wtl
        simp only [List.length_modify]
      refine PW.at [0] (?_ : PW _ _ _ [(0, .ptr i 0 0)] (wR (H ++ [⟨70, 0, pic p⟩, EB]) i j L fl { w with out := o.modify n (setE w.sh) }) _) rfl hb
      have g3 := wkg (j := j) (L := L) (fl := fl) { w with out := o.modify n (setE w.sh) } hsq
      have s3 := wks (j := j) (L := L) (fl := fl) { w with out := o.modify n (setE w.sh) } hsq
      (repeat refine PW.seq ?_); refine PW.rg rfl fun K hK => ?_; simp (maxSteps := 3000000) (disch := omega) only [go_sem, ↓reduceIte, reduceCtorEq, pappend, plen, tgi, g3.ln, g3.sh, s3.sh, tsh]; refine hK _ _ ?_; clear hK K
      exact PW.at [0] hrest rfl rfl
    · have hrest := hrest _ rfl
      unfold Wk.disp at hrest
      dsimp only at hrest
      rw [if_neg hwt1] at hrest
      (repeat refine PW.seq ?_); refine PW.cond (t := _) rfl (fun h => ?_) (fun h => ?_)
      · exact absurd h hwt1
      refine PW.skip ?_
      exact PW.at [0] hrest rfl rfl
  intro d hd
  rw [← hd] at hr
  have hdsq : SqL d.sq := by rw [hd, (disp_f _).2.2.2.2.2.1]; exact hsq
  have hdl : d.out.length = w.out.length + 1 := by
    rw [hd]
    unfold Wk.disp
    split
    · simp only [List.length_modify]; exact hol
    · exact hol
  have hdn : d.no = w.no := by rw [hd, (disp_f _).2.2.2.1]
  have hdl2 : ((d.out.length : Nat) : Int) - 1 = (w.out.length : Int) := by omega
  clear hd
  have k1 := wkg (j := j) (L := L) (fl := fl) d hdsq
  have m1 := wks (j := j) (L := L) (fl := fl) d hdsq
  have k2 := wkg (j := j) (L := L) (fl := fl) { d with old := d.new } hdsq
  have m2 := wks (j := j) (L := L) (fl := fl) { d with old := d.new } hdsq
  have k3 := wkg (j := j) (L := L) (fl := fl) { d with old := d.new, new := (w.out.length : Int) } hdsq
  have m3 := wks (j := j) (L := L) (fl := fl) { d with old := d.new, new := (w.out.length : Int) } hdsq
  have k4 := wkg (j := j) (L := L) (fl := fl) { d with old := d.new, new := (w.out.length : Int), wt := true } hdsq
  have m4 := wks (j := j) (L := L) (fl := fl) { d with old := d.new, new := (w.out.length : Int), wt := true } hdsq
  (repeat refine PW.seq ?_); refine PW.drawi [i] [(0, [0]), (129, [0]), (130, [0]), (131, [0]), (132, [0]), (133, [0]), (134, [0]), (136, [0]), (137, [0]), (138, [0]), (142, [0]), (143, [0]), (144, [0]), (145, [0]), (146, [0]), (147, [0])] [] [] mix (by kernel_rfl) (by simp <;> omega) fun K hK => ?_
  simp (maxSteps := 3000000) (disch := omega) only [go_sem, ↓reduceIte, reduceCtorEq, pappend, plen, tgi, tgj, tol, tne, twt, k1.ln, k1.new, k1.out, m1.old, k2.ln, m2.new, k3.ln, m3.wt, hdl2, arith]
  refine hK _ _ ?_; clear hK K
  (repeat refine PW.seq ?_); refine PW.rg rfl fun K hK => ?_; simp (maxSteps := 3000000) (disch := omega) only [go_sem, ↓reduceIte, reduceCtorEq, pappend, plen, tgi, tno, k4.ln, k4.no, m4.no]; refine hK _ _ ?_; clear hK K
  have hm : (if d.no - 1 > 0 then d.no - 1 else 0) = max 0 (d.no - 1) := by split <;> omega
  subst hr
  refine ⟨_, rfl, ?_⟩
  rw [hm]
  exact hfin _ _
