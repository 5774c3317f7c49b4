/-
  Contracts of chapter 12: the reference's walk: pictures, items.
-/
import Derived.Test.YtahomnplappbpaaGreatDoorYg
namespace Go.Proofs.YtahomnplappbpaaGreatDoor.Sc
set_option linter.all false
set_option linter.unusedVariables false
set_option linter.unusedSimpArgs false
open Pm Ty Go.RowKit

theorem WkOk.mono {w : Wk} {m n : Nat} (h : WkOk w m) (hm : m ≤ n) : WkOk w n := ⟨h.sq, by have := h.n; omega, h.sh, h.no, h.new, h.wt⟩
theorem wdrop_k {w : Wk} {m : Nat} (h : WkOk w m) : WkOk w.drop m := ⟨h.sq, h.n, h.sh, h.no, h.new, h.wt⟩
theorem wdisp_k {w : Wk} {m : Nat} (h : WkOk w m) : w.disp.out.length = w.out.length ∧ 0 ≤ w.disp.sh ∧ w.disp.sh ≤ w.out.length := by
  have hs := h.sh
  unfold Wk.disp
  by_cases hw : w.wt = true
  · rw [if_pos hw] at hs ⊢
    refine ⟨List.length_modify _ _ _, ?_, ?_⟩
    · show 0 ≤ w.sh + 1; omega
    · show w.sh + 1 ≤ _; omega
  · rw [if_neg hw] at hs ⊢
    exact ⟨rfl, hs.1, by omega⟩
theorem wreset_k {w : Wk} {m : Nat} (h : WkOk w m) : WkOk w.reset m := by
  obtain ⟨h1, h2, h3⟩ := wdisp_k h
  have hn := h.n
  have hsq : SqOk w.disp.sq := by rw [(disp_f w).2.2.2.2.2.1]; exact h.sq
  refine ⟨hsq, ?_, ?_, ?_, ?_, fun h => by cases h⟩
  · show w.disp.out.length ≤ m; omega
  · show 0 ≤ w.disp.sh ∧ w.disp.sh + (if false = true then (1 : Int) else 0) ≤ w.disp.out.length
    rw [if_neg (by simp)]; omega
  · show 0 ≤ (0 : Int) ∧ (0 : Int) ≤ 2; omega
  · show -1 ≤ (-1 : Int) ∧ (-1 : Int) < w.disp.out.length; omega
theorem wframe_k {w : Wk} {m : Nat} (h : WkOk w m) (f l ty : Int) : WkOk (w.frame f l ty) (m + 1) := by
  obtain ⟨a1, a2, a3, a4, a5, a6⟩ := h
  unfold Wk.frame
  split
  · split
    · exact ⟨a1, by show w.out.length ≤ m + 1; omega, a3, a4, a5, a6⟩
    · refine ⟨a1, by simp; omega, ?_, a4, by simp; omega, a6⟩
      show 0 ≤ w.sh + 1 ∧ w.sh + 1 + (if w.wt = true then (1 : Int) else 0) ≤ _
      simp only [List.length_append, List.length_cons, List.length_nil]
      split at a3
      · rename_i hw; rw [if_pos hw]; omega
      · rename_i hw; rw [if_neg hw]; omega
  · split
    · exact ⟨a1, by show w.out.length ≤ m + 1; omega, a3, a4, a5, a6⟩
    · have hk : WkOk { w with out := w.out ++ [⟨f, l, ty, w.new, -1, 0⟩] } (m + 1) := by
        refine ⟨a1, by simp; omega, ?_, a4, by simp; omega, a6⟩
        show 0 ≤ w.sh ∧ w.sh + (if w.wt = true then (1 : Int) else 0) ≤ _
        simp only [List.length_append, List.length_cons, List.length_nil]
        omega
      obtain ⟨h1, h2, h3⟩ := wdisp_k hk
      have hf := disp_f { w with out := w.out ++ [⟨f, l, ty, w.new, -1, 0⟩] }
      have hs : (Wk.disp { w with out := w.out ++ [⟨f, l, ty, w.new, -1, 0⟩] }).sh ≤ w.out.length := by
        unfold Wk.disp
        split
        · rename_i hw; have hw : w.wt = true := hw; rw [if_pos hw] at a3; show w.sh + 1 ≤ _; omega
        · rename_i hw; have hw : ¬ w.wt = true := hw; rw [if_neg hw] at a3; show w.sh ≤ _; omega
      generalize Wk.disp { w with out := w.out ++ [⟨f, l, ty, w.new, -1, 0⟩] } = d at *
      simp only [List.length_append, List.length_cons, List.length_nil] at h1 h3
      obtain ⟨f1, f2, f3, f4, f5, f6, f7, f8⟩ := hf
      refine ⟨by show SqOk d.sq; rw [f6]; exact a1, by show d.out.length ≤ m + 1; omega, ?_, ?_, ?_, ?_⟩
      · show 0 ≤ d.sh ∧ d.sh + (if true = true then (1 : Int) else 0) ≤ d.out.length
        rw [if_pos rfl]; omega
      · show 0 ≤ max 0 (d.no - 1) ∧ max 0 (d.no - 1) ≤ 2
        have : d.no = w.no := f4
        omega
      · show -1 ≤ (w.out.length : Int) ∧ (w.out.length : Int) < d.out.length
        omega
      · intro _; show 0 ≤ (w.out.length : Int); omega
theorem wpic_k {L : List It} {w : Wk} {m : Nat} (h : WkOk w m) (i : Int) (hp : Pi) : WkOk (w.picture L i hp) (m + 1) := by
  have hd := wdrop_k h
  have hsk : ∀ {v : Wk}, WkOk v m → WkOk { v with sk := true } (m + 1) := fun {v} h => ⟨h.sq, by have := h.n; show v.out.length ≤ m + 1; omega, h.sh, h.no, h.new, h.wt⟩
  unfold Wk.picture
  dsimp only
  split
  · exact hsk hd
  · split
    · exact wframe_k hd _ _ _
    · split
      · exact wframe_k (w := { w with op := -1 }) ⟨h.sq, h.n, h.sh, h.no, h.new, h.wt⟩ _ _ _
      · exact ⟨h.sq, by have := h.n; show w.out.length ≤ m + 1; omega, h.sh, h.no, h.new, h.wt⟩
theorem OpR.nat {L : List It} {n : Int} (h : OpR L n) : n = -1 ∨ ∃ k : Nat, n = (k : Int) ∧ k < L.length := h
set_option maxHeartbeats 4000000 in
set_option maxRecDepth 100000 in
theorem wpic_ok (L : List It) (fl : Bool) (hL : ∀ x ∈ L, SqOk x.s) (w : Wk) (k : Nat) (hk : k < L.length) (i j : Nat) (H : Heap) (h : WkH H i j L fl w) (hw : WkOk w 900000) (hop : OpR L w.op) :
    CallOk Tryz.prog 134 [.ptr i 0 0, .int .i64 (k : Int)] H (.tup []) (wR H i j L fl (w.picture L (k : Int) L[k].p)) := by
  have hil : i < H.length := (List.getElem?_eq_some_iff.1 h.gi).1
  have hjl : j < H.length := (List.getElem?_eq_some_iff.1 h.gj).1
  have hne := h.ne
  have t0 := wrt H i j L fl hil hjl h.ne
  have hsq := hw.sq.toL
  have g := wkg (j := j) (L := L) (fl := fl) w hsq
  have s := wks (j := j) (L := L) (fl := fl) w hsq
  have ln := itL_len L hL
  have ip := itL_pic L hL k hk
  have hself := wR_self h
  have pv := fun K => pvalid_ref w.sq L[k].p K hw.sq
  have hH := fun (K : Heap) (v : Wk) => wR_h (H ++ K) i j L fl v (by simp; omega) (by simp; omega) hne
  have wf := fun (K : Heap) (v : Wk) (hv : WkOk v 900000) (q : Nat) (hq : q < L.length) (last : Int) => wframe_ok L fl hL v q hq last i j _ (hH K v) hv
  have wd := fun (K : Heap) (v : Wk) (hv : SqL v.sq) => wdrop_ok L fl v i j _ (hH K v) hv
  simp only [wR_wR _ _ _ _ _ _ _ hne] at wf wd
  generalize hr : w.picture L (k : Int) L[k].p = r
  unfold Wk.picture at hr
  dsimp only at hr
  have wfk := fun K v hv => wf K v hv k hk
  generalize L[k].p = p at *
  have p1 : (pic p).length = 6 := rfl
  have p2 : (pic p).all PV.cell = true := rfl
  have p3 : List.take 6 (pic p) = pic p := rfl
  have p4 : (pic p)[1]? = some (.int .i64 p.st) := rfl
  have p5 : (pic p)[3]? = some (.bool p.tf) := rfl
  have hfin := fun P w => wR_fin H [P] i j L fl w hil hjl
  refine CallOk.body (F0 := [(0, .ptr i 0 0), (1, .int .i64 (k : Int))]) Tryz.func134 rfl Tryz.ntmps134 Tryz.results134 rfl (by kernel_rfl) rfl ?_
  refine PW.eq rfl hself.symm ?_
  (repeat refine PW.seq ?_); refine PW.rg rfl fun K hK => ?_; simp (maxSteps := 3000000) (disch := omega) only [go_sem, ↓reduceIte, reduceCtorEq, pappend, plen, t0.gi, g.ln, g.lL, ln, ip, p2]; refine hK _ _ ?_; clear hK K
  have hYl := wR_len H i j L fl w
  have a0 : ∀ v P, (wR (H ++ [P]) i j L fl v)[H.length]? = some P := fun v P => by
    rw [wR_app _ _ _ _ _ _ _ hil hjl, List.getElem?_append_right (by rw [wR_len]; omega), wR_len, Nat.sub_self]; rfl
  refine PW.at [0, 1, 4] (?_ : PW _ _ _ [(0, .ptr i 0 0), (1, .int .i64 (k : Int)), (4, .ptr H.length 0 0)] (wR (H ++ [⟨70, 0, pic p⟩]) i j L fl w) _) (by rw [← hYl]; rfl) (by rw [wR_app _ _ _ _ _ _ _ hil hjl]; rfl)
  have t := fun P => wrt (H ++ [P]) i j L fl (by simp; omega) (by simp; omega) hne
  have tgi := fun P w => (t P).gi w
  have tsk := fun P w v => (t P).sk w v
  have top := fun P w v => (t P).op w v
  suffices hpr : PW Tryz.prog _ _ [(0, .ptr i 0 0), (1, .int .i64 (k : Int)), (4, .ptr H.length 0 0), (5, .bool (decide (0 ≤ w.op) && pairP (hdA L (max w.op 0)) p))] (wR (H ++ [⟨70, 0, pic p⟩]) i j L fl w) _ by
    rcases hop with ho | ⟨k2, ho, hk2⟩
    · have e0 : decide (0 ≤ w.op) = false := by rw [ho]; rfl
      rw [e0] at hpr
      (repeat refine PW.seq ?_); refine PW.drawg mix (by kernel_rfl) fun K hK => ?_; simp (maxSteps := 3000000) (disch := omega) only [go_sem, ↓reduceIte, reduceCtorEq, pappend, plen, tgi, g.ln, g.op, e0]; refine hK _ _ ?_; clear hK K
      exact PW.at [0, 1, 4, 5] hpr rfl rfl
    · have e0 : decide (0 ≤ w.op) = true := decide_eq_true (by omega)
      have em : (if (0 : Int) < (k2 : Int) then (k2 : Int) else 0) = (k2 : Int) := by split <;> omega
      have em2 : max w.op 0 = (k2 : Int) := by omega
      have ip2 := itL_pic L hL k2 hk2
      rw [em2, hdA_nat L k2 hk2, e0] at hpr
      have go := g.op
      generalize L[k2].p = g2 at *
      have pr := fun K => pairR_ok g2 p K
      have y1 : (pic g2).length = 6 := rfl
      have y2 : (pic g2).all PV.cell = true := rfl
      (repeat refine PW.seq ?_); refine PW.drawg mix (by kernel_rfl) fun K hK => ?_; simp (maxSteps := 3000000) (disch := omega) only [go_sem, ↓reduceIte, reduceCtorEq, pappend, plen, tgi, g.ln, g.lL, go, e0, ho, em, ln, ip2, a0, p1, p2, p3, y1, y2]
      refine VCz.call (fun _ => pr _) rfl ?_; simp (maxSteps := 3000000) (disch := omega) only [go_sem, ↓reduceIte, reduceCtorEq, pappend, plen]; refine hK _ _ ?_; clear hK K
      exact PW.at [0, 1, 4, 5] hpr rfl rfl
  generalize hpq : (decide (0 ≤ w.op) && pairP (hdA L (max w.op 0)) p) = q at *
  suffices hrest : PW Tryz.prog _ _ [(0, .ptr i 0 0), (1, .int .i64 (k : Int)), (4, .ptr H.length 0 0), (5, .bool q), (68, .bool (!w.hd || (!(pvalid w.sq p) || (!(p.st == 3) && (!q && !(leadP p))))))] (wR (H ++ [⟨70, 0, pic p⟩]) i j L fl w) _ by
    have ghd := g.hd
    rcases Bool.eq_false_or_eq_true w.hd with hh | hh
    rotate_left
    · have gh : (wkc j L fl w)[1]? = some (.bool false) := ghd.trans (by rw [hh])
      have e : (!w.hd || (!(pvalid w.sq p) || (!(p.st == 3) && (!q && !(leadP p))))) = true := by rw [hh]; rfl
      rw [e] at hrest
      (repeat refine PW.seq ?_); refine PW.drawg mix (by kernel_rfl) fun K hK => ?_; simp (maxSteps := 3000000) (disch := omega) only [go_sem, ↓reduceIte, reduceCtorEq, pappend, plen, tgi, g.ln, gh]; refine hK _ _ ?_; clear hK K
      exact PW.at [0, 1, 4, 5, 68] hrest rfl rfl
    have gh : (wkc j L fl w)[1]? = some (.bool true) := ghd.trans (by rw [hh])
    rw [hh] at hrest
    rcases Bool.eq_false_or_eq_true (pvalid w.sq p) with hv | hv
    rotate_left
    · rw [hv] at hrest pv
      (repeat refine PW.seq ?_); refine PW.drawg mix (by kernel_rfl) fun K hK => ?_; simp (maxSteps := 3000000) (disch := omega) only [go_sem, ↓reduceIte, reduceCtorEq, pappend, plen, tgi, g.ln, gh, g.sq, a0, p1, p2, p3]; refine VCz.call (fun _ => pv _) rfl ?_; simp (maxSteps := 3000000) (disch := omega) only [go_sem, ↓reduceIte, reduceCtorEq, pappend, plen]; refine hK _ _ ?_; clear hK K
      exact PW.at [0, 1, 4, 5, 68] hrest rfl rfl
    rw [hv] at hrest pv
    rcases Bool.eq_false_or_eq_true (p.st == 3) with h3 | h3
    · have e3 : (p.st != 3) = false := by simp [bne, h3]
      rw [h3] at hrest
      (repeat refine PW.seq ?_); refine PW.drawg mix (by kernel_rfl) fun K hK => ?_; simp (maxSteps := 3000000) (disch := omega) only [go_sem, ↓reduceIte, reduceCtorEq, pappend, plen, tgi, g.ln, gh, g.sq, a0, p1, p2, p3]; refine VCz.call (fun _ => pv _) rfl ?_; simp (maxSteps := 3000000) (disch := omega) only [go_sem, ↓reduceIte, reduceCtorEq, pappend, plen, a0, p1, p4, e3]; refine hK _ _ ?_; clear hK K
      exact PW.at [0, 1, 4, 5, 68] hrest rfl rfl
    have e3 : (p.st != 3) = true := by simp [bne, h3]
    rw [h3] at hrest
    cases q with
    | true =>
      (repeat refine PW.seq ?_); refine PW.drawg mix (by kernel_rfl) fun K hK => ?_; simp (maxSteps := 3000000) (disch := omega) only [go_sem, ↓reduceIte, reduceCtorEq, pappend, plen, tgi, g.ln, gh, g.sq, a0, p1, p2, p3]; refine VCz.call (fun _ => pv _) rfl ?_; simp (maxSteps := 3000000) (disch := omega) only [go_sem, ↓reduceIte, reduceCtorEq, pappend, plen, a0, p1, p4, e3]; refine hK _ _ ?_; clear hK K
      exact PW.at [0, 1, 4, 5, 68] hrest rfl rfl
    | false =>
      have e5 : (p.tf != (p.st == 1)) = !leadP p := by rw [leadP]; cases p.tf <;> cases (p.st == 1) <;> rfl
      (repeat refine PW.seq ?_); refine PW.drawg mix (by kernel_rfl) fun K hK => ?_; simp (maxSteps := 3000000) (disch := omega) only [go_sem, ↓reduceIte, reduceCtorEq, pappend, plen, tgi, g.ln, gh, g.sq, a0, p1, p2, p3]; refine VCz.call (fun _ => pv _) rfl ?_; simp (maxSteps := 3000000) (disch := omega) only [go_sem, ↓reduceIte, reduceCtorEq, pappend, plen, a0, p1, p4, p5, e3, e5]; refine hK _ _ ?_; clear hK K
      exact PW.at [0, 1, 4, 5, 68] hrest rfl rfl
  generalize hcd : (!w.hd || (!(pvalid w.sq p) || (!(p.st == 3) && (!q && !(leadP p))))) = cd at *
  cases cd with
  | true =>
    rw [if_pos rfl] at hr
    subst hr
    have wd1 := wd [⟨70, 0, pic p⟩] w hsq
    have g1 := wkg (j := j) (L := L) (fl := fl) w.drop hsq
    have s1 := wks (j := j) (L := L) (fl := fl) w.drop hsq
    (repeat refine PW.seq ?_); refine PW.cond (t := _) rfl (fun h => ?_) (fun h => ?_)
    rotate_left
    · cases h
    (repeat refine PW.seq ?_); refine PW.rg rfl fun K hK => ?_; simp (maxSteps := 3000000) (disch := omega) only [go_sem, ↓reduceIte, reduceCtorEq, pappend, plen]; refine VCx.call (wd1) rfl ?_; simp (maxSteps := 3000000) (disch := omega) only [go_sem, ↓reduceIte, reduceCtorEq, pappend, plen]; refine hK _ _ ?_; clear hK K
    (repeat refine PW.seq ?_); refine PW.rg rfl fun K hK => ?_; simp (maxSteps := 3000000) (disch := omega) only [go_sem, ↓reduceIte, reduceCtorEq, pappend, plen, tgi, g1.ln, s1.sk, tsk]; refine hK _ _ ?_; clear hK K
    exact PW.ret ⟨_, rfl, hfin _ _⟩
  | false =>
    rw [if_neg (by simp)] at hr
    (repeat refine PW.seq ?_); refine PW.cond (t := _) rfl (fun h => ?_) (fun h => ?_)
    · cases h
    refine PW.skip ?_
    (repeat refine PW.seq ?_); refine PW.block ?_
    (repeat refine PW.seq ?_); refine PW.rg rfl fun K hK => ?_; simp (maxSteps := 3000000) (disch := omega) only [go_sem, ↓reduceIte, reduceCtorEq, pappend, plen, a0, p1, p4]; refine hK _ _ ?_; clear hK K
    by_cases h3 : p.st = 3
    · rw [if_pos h3] at hr
      subst hr
      have wd1 := wd [⟨70, 0, pic p⟩] w hsq
      have wf1 := wfk [⟨70, 0, pic p⟩] w.drop (wdrop_k hw) (k : Int)
      (repeat refine PW.seq ?_); refine PW.cond (t := _) rfl (fun h => ?_) (fun h => ?_)
      rotate_left
      · simp [h3] at h
      (repeat refine PW.seq ?_); refine PW.rg rfl fun K hK => ?_; simp (maxSteps := 3000000) (disch := omega) only [go_sem, ↓reduceIte, reduceCtorEq, pappend, plen]; refine VCx.call (wd1) rfl ?_; simp (maxSteps := 3000000) (disch := omega) only [go_sem, ↓reduceIte, reduceCtorEq, pappend, plen]; refine hK _ _ ?_; clear hK K
      (repeat refine PW.seq ?_); refine PW.rg rfl fun K hK => ?_; simp (maxSteps := 3000000) (disch := omega) only [go_sem, ↓reduceIte, reduceCtorEq, pappend, plen]; refine VCx.call (wf1) rfl ?_; simp (maxSteps := 3000000) (disch := omega) only [go_sem, ↓reduceIte, reduceCtorEq, pappend, plen]; refine hK _ _ ?_; clear hK K
      exact ⟨_, rfl, hfin _ _⟩
    rw [if_neg h3] at hr
    (repeat refine PW.seq ?_); refine PW.cond (t := _) rfl (fun h => ?_) (fun h => ?_)
    · simp [h3] at h
    (repeat refine PW.seq ?_); refine PW.rg rfl fun K hK => ?_; simp (maxSteps := 3000000) (disch := omega) only [go_sem, ↓reduceIte, reduceCtorEq, pappend, plen]; refine hK _ _ ?_; clear hK K
    cases q with
    | true =>
      rw [if_pos rfl] at hr
      subst hr
      (repeat refine PW.seq ?_); refine PW.cond (t := _) rfl (fun h => ?_) (fun h => ?_)
      rotate_left
      · cases h
      obtain ⟨k2, ho, hk2⟩ : ∃ k2 : Nat, w.op = (k2 : Int) ∧ k2 < L.length := by
        rcases hop with ho | ho
        · rw [ho] at hpq; simp at hpq
        · exact ho
      have wf1 := wf [⟨70, 0, pic p⟩] { w with op := -1 } ⟨hw.sq, hw.n, hw.sh, hw.no, hw.new, hw.wt⟩ k2 hk2 (k : Int)
      rw [ho, hdA_nat L k2 hk2]
      have go : (wkc j L fl w)[140]? = some (.int .i64 (k2 : Int)) := g.op.trans (by rw [ho])
      (repeat refine PW.seq ?_); refine PW.rg rfl fun K hK => ?_; simp (maxSteps := 3000000) (disch := omega) only [go_sem, ↓reduceIte, reduceCtorEq, pappend, plen, tgi, g.ln, go]; refine hK _ _ ?_; clear hK K
      (repeat refine PW.seq ?_); refine PW.rg rfl fun K hK => ?_; simp (maxSteps := 3000000) (disch := omega) only [go_sem, ↓reduceIte, reduceCtorEq, pappend, plen, tgi, g.ln, s.op, top]; refine hK _ _ ?_; clear hK K
      (repeat refine PW.seq ?_); refine PW.rg rfl fun K hK => ?_; simp (maxSteps := 3000000) (disch := omega) only [go_sem, ↓reduceIte, reduceCtorEq, pappend, plen]; refine VCx.call (wf1) rfl ?_; simp (maxSteps := 3000000) (disch := omega) only [go_sem, ↓reduceIte, reduceCtorEq, pappend, plen]; refine hK _ _ ?_; clear hK K
      exact ⟨_, rfl, hfin _ _⟩
    | false =>
      rw [if_neg (by simp)] at hr
      subst hr
      (repeat refine PW.seq ?_); refine PW.cond (t := _) rfl (fun h => ?_) (fun h => ?_)
      · cases h
      have wd1 := wd [⟨70, 0, pic p⟩] w hsq
      have g1 := wkg (j := j) (L := L) (fl := fl) w.drop hsq
      have s1 := wks (j := j) (L := L) (fl := fl) w.drop hsq
      (repeat refine PW.seq ?_); refine PW.rg rfl fun K hK => ?_; simp (maxSteps := 3000000) (disch := omega) only [go_sem, ↓reduceIte, reduceCtorEq, pappend, plen]; refine VCx.call (wd1) rfl ?_; simp (maxSteps := 3000000) (disch := omega) only [go_sem, ↓reduceIte, reduceCtorEq, pappend, plen]; refine hK _ _ ?_; clear hK K
      (repeat refine PW.seq ?_); refine PW.rg rfl fun K hK => ?_; simp (maxSteps := 3000000) (disch := omega) only [go_sem, ↓reduceIte, reduceCtorEq, pappend, plen, tgi, g1.ln, s1.op, top]; refine hK _ _ ?_; clear hK K
      exact ⟨_, rfl, hfin _ _⟩
theorem wseq_k {w : Wk} {m : Nat} (h : WkOk w m) (s : Sq) (hs : SqOk s) : WkOk (w.seq s) m := by
  unfold Wk.seq
  split
  · have := wreset_k h
    exact ⟨hs, this.n, this.sh, this.no, this.new, this.wt⟩
  · exact h
theorem wstep_k {L : List It} {w : Wk} {m : Nat} (h : WkOk w m) (i : Int) (x : It) (hx : SqOk x.s) : WkOk (w.step L i x) (m + 1) := by
  have hd := wdrop_k h
  have mn : ∀ {v : Wk}, WkOk v m → WkOk v (m + 1) := fun h => h.mono (by omega)
  unfold Wk.step
  split
  · exact wpic_k h _ _
  · split
    · exact mn (wseq_k hd _ hx)
    · split
      · unfold Wk.grp
        split
        · exact mn (wreset_k hd)
        · split
          · exact ⟨hd.sq, (mn hd).n, hd.sh, by show 0 ≤ (2 : Int) ∧ (2 : Int) ≤ 2; omega, hd.new, hd.wt⟩
          · exact ⟨hd.sq, (mn hd).n, hd.sh, by show 0 ≤ (0 : Int) ∧ (0 : Int) ≤ 2; omega, hd.new, hd.wt⟩
      · split
        · have := mn (wreset_k hd)
          exact ⟨this.sq, this.n, this.sh, this.no, this.new, this.wt⟩
        · exact mn hd
set_option maxHeartbeats 4000000 in
set_option maxRecDepth 100000 in
theorem wstep_ok (L : List It) (fl : Bool) (hL : ∀ x ∈ L, SqOk x.s) (w : Wk) (k : Nat) (hk : k < L.length) (i j : Nat) (H : Heap) (h : WkH H i j L fl w) (hw : WkOk w 900000) (hop : OpR L w.op) :
    CallOk Tryz.prog 67 [.ptr i 0 0, .int .i64 (k : Int)] H (.tup []) (wR H i j L fl (w.step L (k : Int) L[k])) := by
  have hil : i < H.length := (List.getElem?_eq_some_iff.1 h.gi).1
  have hjl : j < H.length := (List.getElem?_eq_some_iff.1 h.gj).1
  have hne := h.ne
  have t0 := wrt H i j L fl hil hjl h.ne
  have hsq := hw.sq.toL
  have g := wkg (j := j) (L := L) (fl := fl) w hsq
  have ln := itL_len L hL
  have hx := hL _ (List.getElem_mem hk)
  have ia : List.take 148 (List.drop (k * 148) (itL L)) = itc L[k] := itL_at L hL k hk
  have hself := wR_self h
  have hH := fun (K : Heap) (v : Wk) => wR_h (H ++ K) i j L fl v (by simp; omega) (by simp; omega) hne
  have wp := fun (K : Heap) => wpic_ok L fl hL w k hk i j _ (hH K w) hw hop
  have wd := fun (K : Heap) (v : Wk) (hv : SqL v.sq) => wdrop_ok L fl v i j _ (hH K v) hv
  have wr := fun (K : Heap) (v : Wk) (hv : WkOk v 1000000) => wreset_ok L fl v i j _ (hH K v) hv
  simp only [wR_wR _ _ _ _ _ _ _ hne] at wp wd wr
  have vs := fun K => vseq_ref L[k].s K hx
  have ne := neSqG w.sq L[k].s hsq hx.toL
  generalize hr : w.step L (k : Int) L[k] = r
  unfold Wk.step at hr
  generalize L[k] = x at *
  have x1 := itc_len x hx
  have x2 := itc_cell x
  have x3 := itc_0 x
  have x4 : List.take 135 (List.drop 1 (itc x)) = sqc x.s := itc_s _ hx
  have x5 : (itc x)[136]? = some (.bool x.gc) := itc_at _ hx 0
  have x6 : (itc x)[137]? = some (.bool x.gb) := itc_at _ hx 1
  have x7 : List.take 148 (itc x) = itc x := List.take_of_length_le (by omega)
  have q1 := sqc_len _ hx.toL
  have q2 := sqc_cell x.s
  have hfin := fun P w => wR_fin H [P] i j L fl w hil hjl
  refine CallOk.body (F0 := [(0, .ptr i 0 0), (1, .int .i64 (k : Int))]) Tryz.func67 rfl Tryz.ntmps67 Tryz.results67 rfl (by kernel_rfl) rfl ?_
  refine PW.eq rfl hself.symm ?_
  (repeat refine PW.seq ?_); refine PW.rg rfl fun K hK => ?_; simp (maxSteps := 3000000) (disch := omega) only [go_sem, ↓reduceIte, reduceCtorEq, pappend, plen, t0.gi, g.ln, g.lL, ln, ia, x1, x2, x7]; refine hK _ _ ?_; clear hK K
  have hYl := wR_len H i j L fl w
  have a0 : ∀ v P, (wR (H ++ [P]) i j L fl v)[H.length]? = some P := fun v P => by
    rw [wR_app _ _ _ _ _ _ _ hil hjl, List.getElem?_append_right (by rw [wR_len]; omega), wR_len, Nat.sub_self]; rfl
  refine PW.at [0, 1, 4] (?_ : PW _ _ _ [(0, .ptr i 0 0), (1, .int .i64 (k : Int)), (4, .ptr H.length 0 0)] (wR (H ++ [⟨87, 0, itc x⟩]) i j L fl w) _) (by rw [← hYl]; rfl) (by rw [wR_app _ _ _ _ _ _ _ hil hjl])
  have t := fun P => wrt (H ++ [P]) i j L fl (by simp; omega) (by simp; omega) hne
  have tgi := fun P w => (t P).gi w
  have tno := fun P w v => (t P).no w v
  have thd := fun P w v => (t P).hd w v
  (repeat refine PW.seq ?_); refine PW.rg rfl fun K hK => ?_; simp (maxSteps := 3000000) (disch := omega) only [go_sem, ↓reduceIte, reduceCtorEq, pappend, plen, a0, x1, x3]; refine hK _ _ ?_; clear hK K
  by_cases h3 : x.k = 3
  · rw [if_pos h3] at hr
    subst hr
    have wp1 := wp [⟨87, 0, itc x⟩]
    (repeat refine PW.seq ?_); refine PW.cond (t := _) rfl (fun h => ?_) (fun h => ?_)
    rotate_left
    · simp [h3] at h
    (repeat refine PW.seq ?_); refine PW.rg rfl fun K hK => ?_; simp (maxSteps := 3000000) (disch := omega) only [go_sem, ↓reduceIte, reduceCtorEq, pappend, plen]; refine VCx.call (wp1) rfl ?_; simp (maxSteps := 3000000) (disch := omega) only [go_sem, ↓reduceIte, reduceCtorEq, pappend, plen]; refine hK _ _ ?_; clear hK K
    exact PW.ret ⟨_, rfl, hfin _ _⟩
  rw [if_neg h3] at hr
  (repeat refine PW.seq ?_); refine PW.cond (t := _) rfl (fun h => ?_) (fun h => ?_)
  · simp [h3] at h
  have wd1 := wd [⟨87, 0, itc x⟩] w hsq
  refine PW.skip ?_
  (repeat refine PW.seq ?_); refine PW.rg rfl fun K hK => ?_; simp (maxSteps := 3000000) (disch := omega) only [go_sem, ↓reduceIte, reduceCtorEq, pappend, plen]; refine VCx.call (wd1) rfl ?_; simp (maxSteps := 3000000) (disch := omega) only [go_sem, ↓reduceIte, reduceCtorEq, pappend, plen]; refine hK _ _ ?_; clear hK K
  have hwd := wdrop_k hw
  have hdsq : SqL w.drop.sq := hsq
  have ne : peqG Tryz.prog .neq 38 (.agg (sqc w.drop.sq)) (.agg (sqc x.s)) = some (.bool (!sqE w.drop.sq x.s)) := ne
  generalize w.drop = d at *
  have g := wkg (j := j) (L := L) (fl := fl) d hdsq
  have s := wks (j := j) (L := L) (fl := fl) d hdsq
  have wr1 := wr [⟨87, 0, itc x⟩] d (hwd.mono (by omega))
  have hrsq : SqL d.reset.sq := (wreset_k hwd).sq.toL
  have gr := wkg (j := j) (L := L) (fl := fl) d.reset hrsq
  have sr := wks (j := j) (L := L) (fl := fl) d.reset hrsq
  (repeat refine PW.seq ?_); refine PW.rg rfl fun K hK => ?_; simp (maxSteps := 3000000) (disch := omega) only [go_sem, ↓reduceIte, reduceCtorEq, pappend, plen, a0, x1, x3]; refine hK _ _ ?_; clear hK K
  (repeat refine PW.seq ?_); refine PW.block ?_
  (repeat refine PW.seq ?_); refine PW.rg rfl fun K hK => ?_; simp (maxSteps := 3000000) (disch := omega) only [go_sem, ↓reduceIte, reduceCtorEq, pappend, plen]; refine hK _ _ ?_; clear hK K
  by_cases h1 : x.k = 1
  · rw [if_pos h1] at hr
    unfold Wk.seq at hr
    (repeat refine PW.seq ?_); refine PW.cond (t := _) rfl (fun h => ?_) (fun h => ?_)
    rotate_left
    · simp [h1] at h
    suffices hrest : PW Tryz.prog _ _ [(0, .ptr i 0 0), (4, .ptr H.length 0 0), (37, .bool (!d.hd || !(sqE d.sq x.s)))] (wR (H ++ [⟨87, 0, itc x⟩]) i j L fl d) _ by
      have ghd := g.hd
      rcases Bool.eq_false_or_eq_true d.hd with hh | hh
      · have gh : (wkc j L fl d)[1]? = some (.bool true) := ghd.trans (by rw [hh])
        rw [hh] at hrest
        (repeat refine PW.seq ?_); refine PW.drawg mix (by kernel_rfl) fun K hK => ?_; simp (maxSteps := 3000000) (disch := omega) only [go_sem, ↓reduceIte, reduceCtorEq, pappend, plen, tgi, g.ln, gh, g.sq, a0, x1, x4, ↓ne]; refine hK _ _ ?_; clear hK K
        exact PW.at [0, 4, 37] hrest rfl rfl
      · have gh : (wkc j L fl d)[1]? = some (.bool false) := ghd.trans (by rw [hh])
        rw [hh] at hrest
        (repeat refine PW.seq ?_); refine PW.drawg mix (by kernel_rfl) fun K hK => ?_; simp (maxSteps := 3000000) (disch := omega) only [go_sem, ↓reduceIte, reduceCtorEq, pappend, plen, tgi, g.ln, gh]; refine hK _ _ ?_; clear hK K
        exact PW.at [0, 4, 37] hrest rfl rfl
    generalize (!d.hd || !(sqE d.sq x.s)) = c at *
    cases c with
    | false =>
      rw [if_neg (by simp)] at hr
      subst hr
      (repeat refine PW.seq ?_); refine PW.cond (t := _) rfl (fun h => ?_) (fun h => ?_)
      · cases h
      refine PW.skip ?_
      exact ⟨_, rfl, hfin _ _⟩
    | true =>
      rw [if_pos rfl] at hr
      subst hr
      (repeat refine PW.seq ?_); refine PW.cond (t := _) rfl (fun h => ?_) (fun h => ?_)
      rotate_left
      · cases h
      (repeat refine PW.seq ?_); refine PW.rg rfl fun K hK => ?_; simp (maxSteps := 3000000) (disch := omega) only [go_sem, ↓reduceIte, reduceCtorEq, pappend, plen]; refine VCx.call (wr1) rfl ?_; simp (maxSteps := 3000000) (disch := omega) only [go_sem, ↓reduceIte, reduceCtorEq, pappend, plen]; refine hK _ _ ?_; clear hK K
      have g1 := wkg (j := j) (L := L) (fl := fl) { d.reset with hd := vseq x.s } hrsq
      (repeat refine PW.seq ?_); refine PW.drawi [i] [(0, [0]), (40, [0]), (41, [0]), (47, [0]), (48, [0]), (49, [0]), (50, [0])] [] [44] mix (by kernel_rfl) (by simp <;> omega) fun K hK => ?_
      simp (maxSteps := 3000000) (disch := omega) only [go_sem, ↓reduceIte, reduceCtorEq, pappend, plen, a0, x1, x4]
      have d5 : ∀ v, List.take 2 (wkc j L fl v) = [.slice (itL L) L.length fl, .bool v.hd] := fun v => rfl
      have d6 : ∀ v : Wk, SqL v.sq → List.drop 137 (wkc j L fl v) = wtl j v := fun v hv => List.drop_left' (sqc_len _ hv)
      have d7 := d6 { d.reset with hd := vseq x.s } hrsq
      refine VCj.read (fun _ _ => vs _) rfl ?_; simp (maxSteps := 3000000) (disch := omega) only [go_sem, ↓reduceIte, reduceCtorEq, pappend, plen, tgi, thd, gr.ln, sr.hd, g1.ln, a0, x1, x4, q1, q2, d5, d7, List.cons_append, List.nil_append]; refine hK _ _ ?_; clear hK K
      have hb := wR_s (H ++ [⟨87, 0, itc x⟩]) i j L fl { d.reset with hd := vseq x.s } { d.reset with hd := vseq x.s, sq := x.s } hne rfl
      have hf := hfin ⟨87, 0, itc x⟩ { d.reset with hd := vseq x.s, sq := x.s }
      rw [← hb] at hf
      exact ⟨_, rfl, hf⟩
  rw [if_neg h1] at hr
  (repeat refine PW.seq ?_); refine PW.cond (t := _) rfl (fun h => ?_) (fun h => ?_)
  · simp [h1] at h
  (repeat refine PW.seq ?_); refine PW.rg rfl fun K hK => ?_; simp (maxSteps := 3000000) (disch := omega) only [go_sem, ↓reduceIte, reduceCtorEq, pappend, plen]; refine hK _ _ ?_; clear hK K
  by_cases h2 : x.k = 2
  · rw [if_pos h2] at hr
    unfold Wk.grp at hr
    (repeat refine PW.seq ?_); refine PW.cond (t := _) rfl (fun h => ?_) (fun h => ?_)
    rotate_left
    · simp [h2] at h
    (repeat refine PW.seq ?_); refine PW.rg rfl fun K hK => ?_; simp (maxSteps := 3000000) (disch := omega) only [go_sem, ↓reduceIte, reduceCtorEq, pappend, plen, a0, x1, x5]; refine hK _ _ ?_; clear hK K
    cases hc : x.gc with
    | true =>
      rw [hc, if_pos rfl] at hr
      subst hr
      (repeat refine PW.seq ?_); refine PW.cond (t := _) rfl (fun h => ?_) (fun h => ?_)
      rotate_left
      · cases h
      (repeat refine PW.seq ?_); refine PW.rg rfl fun K hK => ?_; simp (maxSteps := 3000000) (disch := omega) only [go_sem, ↓reduceIte, reduceCtorEq, pappend, plen]; refine VCx.call (wr1) rfl ?_; simp (maxSteps := 3000000) (disch := omega) only [go_sem, ↓reduceIte, reduceCtorEq, pappend, plen]; refine hK _ _ ?_; clear hK K
      exact ⟨_, rfl, hfin _ _⟩
    | false =>
      rw [hc, if_neg (by simp)] at hr
      (repeat refine PW.seq ?_); refine PW.cond (t := _) rfl (fun h => ?_) (fun h => ?_)
      · cases h
      (repeat refine PW.seq ?_); refine PW.rg rfl fun K hK => ?_; simp (maxSteps := 3000000) (disch := omega) only [go_sem, ↓reduceIte, reduceCtorEq, pappend, plen, a0, x1, x6]; refine hK _ _ ?_; clear hK K
      cases hb : x.gb with
      | true =>
        rw [hb, if_pos rfl] at hr
        subst hr
        (repeat refine PW.seq ?_); refine PW.cond (t := _) rfl (fun h => ?_) (fun h => ?_)
        rotate_left
        · cases h
        (repeat refine PW.seq ?_); refine PW.rg rfl fun K hK => ?_; simp (maxSteps := 3000000) (disch := omega) only [go_sem, ↓reduceIte, reduceCtorEq, pappend, plen, tgi, g.ln, s.no, tno]; refine hK _ _ ?_; clear hK K
        exact ⟨_, rfl, hfin _ _⟩
      | false =>
        rw [hb, if_neg (by simp)] at hr
        subst hr
        (repeat refine PW.seq ?_); refine PW.cond (t := _) rfl (fun h => ?_) (fun h => ?_)
        · cases h
        (repeat refine PW.seq ?_); refine PW.rg rfl fun K hK => ?_; simp (maxSteps := 3000000) (disch := omega) only [go_sem, ↓reduceIte, reduceCtorEq, pappend, plen, tgi, g.ln, s.no, tno]; refine hK _ _ ?_; clear hK K
        exact ⟨_, rfl, hfin _ _⟩
  rw [if_neg h2] at hr
  (repeat refine PW.seq ?_); refine PW.cond (t := _) rfl (fun h => ?_) (fun h => ?_)
  · simp [h2] at h
  (repeat refine PW.seq ?_); refine PW.rg rfl fun K hK => ?_; simp (maxSteps := 3000000) (disch := omega) only [go_sem, ↓reduceIte, reduceCtorEq, pappend, plen]; refine hK _ _ ?_; clear hK K
  by_cases h4 : x.k = 4
  · rw [if_pos h4] at hr
    subst hr
    (repeat refine PW.seq ?_); refine PW.cond (t := _) rfl (fun h => ?_) (fun h => ?_)
    rotate_left
    · simp [h4] at h
    (repeat refine PW.seq ?_); refine PW.rg rfl fun K hK => ?_; simp (maxSteps := 3000000) (disch := omega) only [go_sem, ↓reduceIte, reduceCtorEq, pappend, plen]; refine VCx.call (wr1) rfl ?_; simp (maxSteps := 3000000) (disch := omega) only [go_sem, ↓reduceIte, reduceCtorEq, pappend, plen]; refine hK _ _ ?_; clear hK K
    (repeat refine PW.seq ?_); refine PW.rg rfl fun K hK => ?_; simp (maxSteps := 3000000) (disch := omega) only [go_sem, ↓reduceIte, reduceCtorEq, pappend, plen, tgi, gr.ln, sr.hd, thd]; refine hK _ _ ?_; clear hK K
    exact ⟨_, rfl, hfin _ _⟩
  · rw [if_neg h4] at hr
    subst hr
    (repeat refine PW.seq ?_); refine PW.cond (t := _) rfl (fun h => ?_) (fun h => ?_)
    · simp [h4] at h
    refine PW.skip ?_
    exact ⟨_, rfl, hfin _ _⟩
theorem wstep_op (L : List It) (w : Wk) (k : Nat) (hk : k < L.length) (x : It) (h : OpR L w.op) : OpR L (w.step L (k : Int) x).op := by
  have h0 : OpR L (-1) := .inl rfl
  have hrs : ∀ v : Wk, v.reset.op = v.op := fun v => (disp_f v).2.2.2.2.2.2.1
  have hfr : ∀ (v : Wk) f l ty, (v.frame f l ty).op = v.op := fun v f l ty => by
    unfold Wk.frame
    split
    · split <;> rfl
    · split
      · rfl
      · exact (disp_f _).2.2.2.2.2.2.1
  unfold Wk.step
  split
  · unfold Wk.picture
    dsimp only
    split
    · exact h0
    · split
      · rw [hfr]; exact h0
      · split
        · rw [hfr]; exact h0
        · exact .inr ⟨k, rfl, hk⟩
  · split
    · unfold Wk.seq
      split
      · show OpR L w.drop.reset.op
        rw [hrs]; exact h0
      · exact h0
    · split
      · unfold Wk.grp
        split
        · rw [hrs]; exact h0
        · split <;> exact h0
      · split
        · show OpR L w.drop.reset.op
          rw [hrs]; exact h0
        · exact h0

end Go.Proofs.YtahomnplappbpaaGreatDoor.Sc
