/-
  Contracts of chapter 31: Valid.
-/
import Derived.Test.YtnjnikafhbholaaQq
import Derived.Test.YtnjnikafhbholaaQt
namespace Go.Proofs.Ytnjnikafhbholaa.Sc
set_option linter.all false
set_option linter.unusedVariables false
set_option linter.unusedSimpArgs false
open Pm Ty Go.RowKit
open Pl (Pa)

def pac (p : Pa) : List PV := [.bool p.cp, .int .i64 p.film, .int .i64 p.len, .str p.m, .int .i64 p.fr]
theorem pac_sc (n : Nat) (p : Pa) : ∀ x ∈ pac p, Scoped n x := fun x hx => by
  simp only [pac, List.mem_cons, List.not_mem_nil, or_false] at hx
  rcases hx with rfl | rfl | rfl | rfl | rfl
  · exact .bool _
  · exact .int _ _
  · exact .int _ _
  · exact .str _
  · exact .int _ _
theorem pal_sc (n : Nat) (l : List Pa) : ∀ x ∈ l.flatMap pac, Scoped n x := fun x hx => by
  obtain ⟨p, _, h⟩ := List.mem_flatMap.1 hx
  exact pac_sc n p x h
theorem pal_len (l : List Pa) : (l.flatMap pac).length = l.length * 5 := fm_len pac 5 (fun _ => rfl) l
def pa0 : Pa := ⟨false, 0, 0, [], 0⟩
def paAt (l : List Pa) (k : Nat) : Pa := l.getD k pa0
theorem pal_at (l : List Pa) (k : Nat) (h : k < l.length) : ((l.flatMap pac).drop (k * 5)).take 5 = pac (paAt l k) := fm_at pac 5 (fun _ => rfl) pa0 l k h
theorem drop_at (l : List Pa) (k : Nat) (h : k < l.length) : l.drop k = paAt l k :: l.drop (k + 1) := by
  rw [List.drop_eq_getElem_cons h]
  simp [paAt, h]
/-- Are the fields that say what is copied valid? -/
def vs (p : Pa) : Bool := if p.cp then decide (0 ≤ p.fr) && !(p.m == []) else (decide (p.fr = 0) && (p.m == []))
def paV (n a : Int) (p : Pa) : Bool := decide (p.film = a) && (decide (1 ≤ p.len) && (decide (p.len ≤ n - a) && vs p))
/-- Is it a plan of n frames? -/
def vld (n : Int) : Int → List Pa → Bool
  | a, [] => decide (a = n)
  | a, p :: r => paV n a p && vld n (a + p.len) r

theorem vs_ok (p : Pa) (H : Heap) : CallOk Try.prog 91 [.agg (pac p)] H (.bool (vs p)) H := by
  obtain ⟨cp, film, len, m, fr⟩ := p
  simp only [pac]
  refine CallOk.body (F0 := [(0, .agg [.bool cp, .int .i64 film, .int .i64 len, .str m, .int .i64 fr])]) Try.func91 rfl Try.ntmps91 Try.results91 rfl (by kernel_rfl) rfl ?_
  (repeat' (first | refine PW.seq ?_ | refine PW.skip ?_ | refine PW.block ?_ | (refine PW.rg rfl fun K hK => ?_; simp (maxSteps := 3000000) (disch := omega) only [go_sem, ↓reduceIte, reduceCtorEq, pappend, plen]) | (refine PW.draw mix (by kernel_rfl) fun K hK => ?_; simp (maxSteps := 3000000) (disch := omega) only [go_sem, ↓reduceIte, reduceCtorEq, pappend, plen]) | (refine PW.drawg mix (by kernel_rfl) fun K hK => ?_; simp (maxSteps := 3000000) (disch := omega) only [go_sem, ↓reduceIte, reduceCtorEq, pappend, plen]) | ((first | refine VO_cond (fun h => ?_) (fun h => ?_) | refine VOd_cond (fun h => ?_) (fun h => ?_) | refine VOg_cond (fun h => ?_) (fun h => ?_) | refine VOh_cond (fun h => ?_) (fun h => ?_) | refine VOi_cond (fun h => ?_) (fun h => ?_) | refine And.intro (fun h => ?_) (fun h => ?_)) <;> (try simp only [Bool.not_eq_true', Bool.not_eq_false', decide_eq_true_eq, decide_eq_false_iff_not] at h) <;> simp (maxSteps := 3000000) (disch := omega) only [go_sem, ↓reduceIte, reduceCtorEq, pappend, plen, h]) | (refine hK _ _ ?_; clear hK K) | (refine PW.cond (t := _) rfl (fun h => ?_) (fun h => ?_) <;> (try (cases h; done)) <;> (try simp only [Bool.not_eq_true', Bool.not_eq_false', decide_eq_true_eq, decide_eq_false_iff_not] at h))))
  all_goals ((refine PW.ret ⟨_, rfl, ?_⟩; first | refine .inl ⟨?_, rfl⟩ | refine Fin.base (.id' ?_ (.bool _)) | refine Fin.base (.id' ?_ (.int _ _))); (simp_all [vs, slot, Nat.beq] <;> first | rfl | omega | (rw [Bool.eq_iff_iff]; simp; done) | (rw [Bool.eq_iff_iff]; simp; omega)))

theorem hsc_snoc {H : Heap} {b : Blk} (hb : ∀ x ∈ b.cells, Scoped (H.length + 1) x) (h : HSc H) : HSc (H ++ [b]) := fun id k hk x hx => by
  rw [List.length_append]
  rw [List.getElem?_append] at hk
  split at hk
  · exact (h id k hk x hx).mono (by simp)
  · have := List.mem_of_getElem? hk
    rw [List.mem_singleton] at this
    rw [this] at hx
    exact hb x hx
theorem valid_ok (ps : List Pa) (g : Bool) (n : Int) (H : Heap) (hn : -9223372036854775808 ≤ n ∧ n ≤ 9223372036854775807) (hl : ps.length ≤ 9223372036854775807) : CallOk Try.prog 47 [.agg [.slice (ps.flatMap pac) ps.length g], .int .i64 n] H (.bool (vld n 0 ps)) H := by
  have hpl := pal_len ps
  have hat := pal_at ps
  have hsc := fun n => pal_sc n ps
  generalize hE : ps.flatMap pac = E at *
  refine CallOk.body (F0 := [(0, .agg [.slice E ps.length g]), (1, .int .i64 n)]) Try.func47 rfl Try.ntmps47 Try.results47 rfl (by kernel_rfl) rfl ?_
  (repeat refine PW.seq ?_); refine PW.rg rfl fun K hK => ?_; simp (maxSteps := 3000000) (disch := omega) only [go_sem, ↓reduceIte, reduceCtorEq, pappend, plen]; refine hK _ _ ?_; clear hK K
  (repeat refine PW.seq ?_); refine PW.rg rfl fun K hK => ?_; simp (maxSteps := 3000000) (disch := omega) only [go_sem, ↓reduceIte, reduceCtorEq, pappend, plen]; refine hK _ _ ?_; clear hK K
  (repeat refine PW.seq ?_); refine PW.rg rfl fun K hK => ?_; simp (maxSteps := 3000000) (disch := omega) only [go_sem, ↓reduceIte, reduceCtorEq, pappend, plen]; refine hK _ _ ?_; clear hK K
  (repeat refine PW.seq ?_); refine PW.block (PW.loop ?_)
  suffices hloop : ∀ (j : Nat) (a : Int), j ≤ ps.length → 0 ≤ a → (a = 0 ∨ a ≤ n) → vld n a (ps.drop j) = vld n 0 ps → PL Try.prog _ _ [(1, .int .i64 n), (5, .int .i64 a), (9, .slice E ps.length g), (10, .int .i64 (ps.length : Int)), (11, .int .i64 (j : Int))] (H ++ [⟨71, 0, [.slice E ps.length g]⟩]) _ by
    exact PL.at [1, 5, 9, 10, 11] (hloop 0 0 (by omega) (by omega) (.inl rfl) (by simp)) rfl rfl
  intro j a hj ha0 ha hv
  induction hd : ps.length - j using Nat.strongRecOn generalizing j a with
  | _ d ih =>
    refine PL.round ?_; (repeat refine PW.seq ?_); refine PW.rg rfl fun K hK => ?_; simp (maxSteps := 3000000) (disch := omega) only [go_sem, ↓reduceIte, reduceCtorEq, pappend, plen]; refine hK _ _ ?_; clear hK K
    (repeat refine PW.seq ?_); refine PW.cond (t := _) rfl (fun h => ?_) (fun h => ?_)
    rotate_left
    · have h4 : j = ps.length := by have := of_decide_eq_false h; omega
      subst h4
      refine PW.exit ?_
      rw [List.drop_length] at hv
      simp only [vld] at hv
      (repeat refine PW.seq ?_); refine PW.rg rfl fun K hK => ?_; simp (maxSteps := 3000000) (disch := omega) only [go_sem, ↓reduceIte, reduceCtorEq, pappend, plen]; refine hK _ _ ?_; clear hK K
      (refine PW.ret ⟨_, rfl, ?_⟩; first | refine .inl ⟨?_, rfl⟩ | refine Fin.base (.id' ?_ (.bool _)) | refine Fin.base (.id' ?_ (.int _ _)))
      rw [← hv]
      (simp_all [slot, Nat.beq] <;> first | rfl | omega | (rw [Bool.eq_iff_iff]; simp; done) | (rw [Bool.eq_iff_iff]; simp; omega))
    · have h4 : j < ps.length := by have := of_decide_eq_true h; omega
      have hat' := hat j h4
      rw [drop_at ps j h4] at hv
      generalize hpp : paAt ps j = p at *
      have hvs := vs_ok p
      have hv' : vld n a (p :: ps.drop (j + 1)) = (paV n a p && vld n (a + p.len) (ps.drop (j + 1))) := rfl
      rw [hv'] at hv
      clear hv'
      simp only [paV] at hv
      generalize vs p = vp at *
      obtain ⟨cp, film, len, m, fr⟩ := p
      simp only [pac] at hat' hvs
      dsimp only at hv
      refine PW.skip ?_; (repeat refine PW.seq ?_); refine PW.block ?_
      (repeat refine PW.seq ?_); refine PW.rg rfl fun K hK => ?_; simp (maxSteps := 3000000) (disch := omega) only [go_sem, ↓reduceIte, reduceCtorEq, pappend, plen, hat', hpl]; refine hK _ _ ?_; clear hK K
      (repeat refine PW.seq ?_); refine PW.rg rfl fun K hK => ?_; simp (maxSteps := 3000000) (disch := omega) only [go_sem, ↓reduceIte, reduceCtorEq, pappend, plen]
      (repeat' (first | ((first | refine VO_cond (fun h => ?_) (fun h => ?_) | refine VOd_cond (fun h => ?_) (fun h => ?_) | refine VOg_cond (fun h => ?_) (fun h => ?_) | refine VOh_cond (fun h => ?_) (fun h => ?_) | refine VOi_cond (fun h => ?_) (fun h => ?_) | refine And.intro (fun h => ?_) (fun h => ?_)) <;> (try simp only [Bool.not_eq_true', Bool.not_eq_false', decide_eq_true_eq, decide_eq_false_iff_not] at h) <;> simp (maxSteps := 3000000) (disch := omega) only [go_sem, ↓reduceIte, reduceCtorEq, pappend, plen, h]) | (refine VCx.call (hvs _) rfl ?_; simp (maxSteps := 3000000) (disch := omega) only [go_sem, ↓reduceIte, reduceCtorEq, pappend, plen]) | (refine VCy.call (hvs _) rfl ?_; simp (maxSteps := 3000000) (disch := omega) only [go_sem, ↓reduceIte, reduceCtorEq, pappend, plen]) | (refine VCz.call (fun _ => hvs _) rfl ?_; simp (maxSteps := 3000000) (disch := omega) only [go_sem, ↓reduceIte, reduceCtorEq, pappend, plen]) | (refine VCk.call (fun _ _ => hvs _) rfl ?_; simp (maxSteps := 3000000) (disch := omega) only [go_sem, ↓reduceIte, reduceCtorEq, pappend, plen])))
      all_goals refine hK _ _ ?_; clear hK K
      · (repeat refine PW.seq ?_); refine PW.cond (t := _) rfl (fun h => ?_) (fun h => ?_)
        · (repeat refine PW.seq ?_); refine PW.rg rfl fun K hK => ?_; simp (maxSteps := 3000000) (disch := omega) only [go_sem, ↓reduceIte, reduceCtorEq, pappend, plen]; refine hK _ _ ?_; clear hK K
          (refine PW.ret ⟨_, rfl, ?_⟩; first | refine .inl ⟨?_, rfl⟩ | refine Fin.base (.id' ?_ (.bool _)) | refine Fin.base (.id' ?_ (.int _ _)))
          rw [← hv]
          have : vp = false := by simpa using h
          simp [this]
          rfl
        · have h6 : vp = true := by simpa using h
          refine PW.skip ?_
          (repeat refine PW.seq ?_); refine PW.rg rfl fun K hK => ?_; simp (maxSteps := 3000000) (disch := omega) only [go_sem, ↓reduceIte, reduceCtorEq, pappend, plen]; refine hK _ _ ?_; clear hK K
          (repeat refine PW.seq ?_); refine PW.rg rfl fun K hK => ?_; simp (maxSteps := 3000000) (disch := omega) only [go_sem, ↓reduceIte, reduceCtorEq, pappend, plen]; refine hK _ _ ?_; clear hK K
          have hv2 : vld n (a + len) (ps.drop (j + 1)) = vld n 0 ps := by
            rename_i hfa _ _
            simp only [bne_eq_false_iff_eq] at hfa
            rw [← hv, h6]
            simp [hfa, show 1 ≤ len by omega, show len ≤ n - a by omega]
          refine PL.view (Vs.trim (F1 := [(1, .int .i64 n), (5, .int .i64 (a + len)), (9, .slice E ps.length g), (10, .int .i64 (ps.length : Int)), (11, .int .i64 ((j + 1 : Nat) : Int))]) (H1 := H ++ [⟨71, 0, [.slice E ps.length g]⟩]) (hsc_snoc (by simpa using sl_scoped (hsc _))) (by simp) (List.append_assoc _ [_] [_]).symm ?_) (ih (ps.length - (j + 1)) (by omega) (j + 1) (a + len) (by omega) (by omega) (by omega) hv2 rfl)
          exact ⟨.id (.int _ _), .id (.int _ _), .id (sl_scoped (hsc _)), .id (.int _ _), .id (.int _ _), trivial⟩
      all_goals
        (repeat refine PW.seq ?_); refine PW.cond (t := _) rfl (fun h => ?_) (fun h => ?_)
        · (repeat refine PW.seq ?_); refine PW.rg rfl fun K hK => ?_; simp (maxSteps := 3000000) (disch := omega) only [go_sem, ↓reduceIte, reduceCtorEq, pappend, plen]; refine hK _ _ ?_; clear hK K
          (refine PW.ret ⟨_, rfl, ?_⟩; first | refine .inl ⟨?_, rfl⟩ | refine Fin.base (.id' ?_ (.bool _)) | refine Fin.base (.id' ?_ (.int _ _)))
          rw [← hv]
          clear hv hat hat' hvs ih
          (simp_all [slot, Nat.beq] <;> first | rfl | omega | (rw [Bool.eq_iff_iff]; simp; done) | (rw [Bool.eq_iff_iff]; simp; omega))
        · cases h

theorem valid_ref (ps : List Pa) (g : Bool) (n : Int) (H : Heap) (hn : -9223372036854775808 ≤ n ∧ n ≤ 9223372036854775807) (hl : ps.length ≤ 9223372036854775807) : CallOk Try.prog 40 [.agg [.slice (ps.flatMap pac) ps.length g], .int .i64 n] H (.bool (vld n 0 ps)) H := by
  have hpl := pal_len ps
  have hat := pal_at ps
  have hsc := fun n => pal_sc n ps
  generalize hE : ps.flatMap pac = E at *
  refine CallOk.body (F0 := [(0, .agg [.slice E ps.length g]), (1, .int .i64 n)]) Try.func40 rfl Try.ntmps40 Try.results40 rfl (by kernel_rfl) rfl ?_
  (repeat refine PW.seq ?_); refine PW.rg rfl fun K hK => ?_; simp (maxSteps := 3000000) (disch := omega) only [go_sem, ↓reduceIte, reduceCtorEq, pappend, plen]; refine hK _ _ ?_; clear hK K
  (repeat refine PW.seq ?_); refine PW.rg rfl fun K hK => ?_; simp (maxSteps := 3000000) (disch := omega) only [go_sem, ↓reduceIte, reduceCtorEq, pappend, plen]; refine hK _ _ ?_; clear hK K
  (repeat refine PW.seq ?_); refine PW.rg rfl fun K hK => ?_; simp (maxSteps := 3000000) (disch := omega) only [go_sem, ↓reduceIte, reduceCtorEq, pappend, plen]; refine hK _ _ ?_; clear hK K
  (repeat refine PW.seq ?_); refine PW.block (PW.loop ?_)
  suffices hloop : ∀ (j : Nat) (a : Int), j ≤ ps.length → 0 ≤ a → (a = 0 ∨ a ≤ n) → vld n a (ps.drop j) = vld n 0 ps → PL Try.prog _ _ [(1, .int .i64 n), (2, .ptr H.length 0 0), (5, .int .i64 a), (6, .int .i64 (j : Int))] (H ++ [⟨71, 0, [.slice E ps.length g]⟩]) _ by
    exact PL.at [1, 2, 5, 6] (hloop 0 0 (by omega) (by omega) (.inl rfl) (by simp)) rfl rfl
  intro j a hj ha0 ha hv
  induction hd : ps.length - j using Nat.strongRecOn generalizing j a with
  | _ d ih =>
    refine PL.round ?_; (repeat refine PW.seq ?_); refine PW.rg rfl fun K hK => ?_; simp (maxSteps := 3000000) (disch := omega) only [go_sem, ↓reduceIte, reduceCtorEq, pappend, plen]; refine hK _ _ ?_; clear hK K
    (repeat refine PW.seq ?_); refine PW.cond (t := _) rfl (fun h => ?_) (fun h => ?_)
    rotate_left
    · have h4 : j = ps.length := by have := of_decide_eq_false h; omega
      subst h4
      refine PW.exit ?_
      rw [List.drop_length] at hv
      simp only [vld] at hv
      (repeat refine PW.seq ?_); refine PW.rg rfl fun K hK => ?_; simp (maxSteps := 3000000) (disch := omega) only [go_sem, ↓reduceIte, reduceCtorEq, pappend, plen]; refine hK _ _ ?_; clear hK K
      (refine PW.ret ⟨_, rfl, ?_⟩; first | refine .inl ⟨?_, rfl⟩ | refine Fin.base (.id' ?_ (.bool _)) | refine Fin.base (.id' ?_ (.int _ _)))
      rw [← hv]
      (simp_all [slot, Nat.beq] <;> first | rfl | omega | (rw [Bool.eq_iff_iff]; simp; done) | (rw [Bool.eq_iff_iff]; simp; omega))
    · have h4 : j < ps.length := by have := of_decide_eq_true h; omega
      have hat' := hat j h4
      rw [drop_at ps j h4] at hv
      generalize hpp : paAt ps j = p at *
      have hv' : vld n a (p :: ps.drop (j + 1)) = (paV n a p && vld n (a + p.len) (ps.drop (j + 1))) := rfl
      rw [hv'] at hv
      clear hv'
      simp only [paV, vs] at hv
      obtain ⟨cp, film, len, m, fr⟩ := p
      simp only [pac] at hat'
      dsimp only at hv
      have key : (film = a ∧ 1 ≤ len ∧ len ≤ n - a ∧ (if cp then decide (0 ≤ fr) && !(m == []) else (decide (fr = 0) && (m == []))) = true) → vld n (a + len) (ps.drop (j + 1)) = vld n 0 ps := fun ⟨e1, e2, e3, e4⟩ => by
        rw [← hv, e4]
        simp [e1, e2, e3]
      have key2 : ¬ (film = a ∧ 1 ≤ len ∧ len ≤ n - a ∧ (if cp then decide (0 ≤ fr) && !(m == []) else (decide (fr = 0) && (m == []))) = true) → vld n 0 ps = false := fun hh => by
        rw [← hv]
        cases hc : (decide (film = a) && (decide (1 ≤ len) && (decide (len ≤ n - a) && (if cp then decide (0 ≤ fr) && !(m == []) else (decide (fr = 0) && (m == [])))))) with
        | false => rfl
        | true =>
          exfalso
          simp only [Bool.and_eq_true, decide_eq_true_eq] at hc
          exact hh hc
      clear hv
      refine PW.skip ?_; (repeat refine PW.seq ?_); refine PW.block ?_
      (repeat refine PW.seq ?_); refine PW.rg rfl fun K hK => ?_; simp (maxSteps := 3000000) (disch := omega) only [go_sem, ↓reduceIte, reduceCtorEq, pappend, plen, hat', hpl]; refine hK _ _ ?_; clear hK K
      (repeat refine PW.seq ?_); refine PW.rg rfl fun K hK => ?_; simp (maxSteps := 3000000) (disch := omega) only [go_sem, ↓reduceIte, reduceCtorEq, pappend, plen]
      (repeat' ((first | refine VO_cond (fun h => ?_) (fun h => ?_) | refine VOd_cond (fun h => ?_) (fun h => ?_) | refine VOg_cond (fun h => ?_) (fun h => ?_) | refine VOh_cond (fun h => ?_) (fun h => ?_) | refine VOi_cond (fun h => ?_) (fun h => ?_) | refine And.intro (fun h => ?_) (fun h => ?_)) <;> (try simp only [Bool.not_eq_true', Bool.not_eq_false', decide_eq_true_eq, decide_eq_false_iff_not] at h) <;> simp (maxSteps := 3000000) (disch := omega) only [go_sem, ↓reduceIte, reduceCtorEq, pappend, plen, h]))
      all_goals refine hK _ _ ?_; clear hK K
      all_goals
        (repeat refine PW.seq ?_); refine PW.cond (t := _) rfl (fun h => ?_) (fun h => ?_)
      all_goals first
        | (cases h; done)
        | (refine PW.skip ?_
           (repeat refine PW.seq ?_); refine PW.rg rfl fun K hK => ?_; simp (maxSteps := 3000000) (disch := omega) only [go_sem, ↓reduceIte, reduceCtorEq, pappend, plen]; refine hK _ _ ?_; clear hK K
           (repeat refine PW.seq ?_); refine PW.rg rfl fun K hK => ?_; simp (maxSteps := 3000000) (disch := omega) only [go_sem, ↓reduceIte, reduceCtorEq, pappend, plen]; refine hK _ _ ?_; clear hK K
           refine PL.view (Vs.trim (F1 := [(1, .int .i64 n), (2, .ptr H.length 0 0), (5, .int .i64 (a + len)), (6, .int .i64 ((j + 1 : Nat) : Int))]) (H1 := H ++ [⟨71, 0, [.slice E ps.length g]⟩]) (hsc_snoc (by simpa using sl_scoped (hsc _))) (by simp) (List.append_assoc _ [_] [_]).symm ⟨.id (.int _ _), .id (.ptr (by simp)), .id (.int _ _), .id (.int _ _), trivial⟩) (ih (ps.length - (j + 1)) (by omega) (j + 1) (a + len) (by omega) (by omega) (by omega) (key ?_) rfl)
           clear key key2 ih hat hat'
           simp_all
           done)
        | ((repeat refine PW.seq ?_); refine PW.rg rfl fun K hK => ?_; simp (maxSteps := 3000000) (disch := omega) only [go_sem, ↓reduceIte, reduceCtorEq, pappend, plen]; refine hK _ _ ?_; clear hK K
           (refine PW.ret ⟨_, rfl, ?_⟩; first | refine .inl ⟨?_, rfl⟩ | refine Fin.base (.id' ?_ (.bool _)) | refine Fin.base (.id' ?_ (.int _ _)))
           rw [key2]
           · rfl
           · clear key key2 ih hat hat'
             simp_all
             try omega)

end Go.Proofs.Ytnjnikafhbholaa.Sc
