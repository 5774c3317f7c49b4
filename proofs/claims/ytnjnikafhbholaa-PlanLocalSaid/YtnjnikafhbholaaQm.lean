/-
  The law PlanLocal: contracts of frames and same.
-/
import Derived.Test.YtnjnikafhbholaaQl
namespace Go.Proofs.Ytnjnikafhbholaa.Sc
set_option linter.all false
set_option linter.unusedVariables false
set_option linter.unusedSimpArgs false
open Pm Ty Go.RowKit
open Pl (Pa Sh PF PaOk arr sh kd adj st en pts cpd jn ext shm shn tys)

theorem fm_spliceG {α : Type} (en : α → List PV) (m : Nat) (hm : ∀ x, (en x).length = m) (l : List α) (j : Nat) (x : α) (h : j < l.length) : (l.flatMap en).take (j * m) ++ (en x ++ (l.flatMap en).drop (j * m + m)) = (l.set j x).flatMap en := by
  rw [fm_take en m hm, show j * m + m = (j + 1) * m by rw [Nat.succ_mul], fm_drop en m hm, ← List.flatMap_cons, ← List.flatMap_append, List.set_eq_take_append_cons_drop, if_pos h]
/-- What a frame of a plan shows. -/
def fr1 (l : List (Option Sh)) (i : Nat) : Pa := if cpd l i then ⟨!jn l i, 0, 1, shm (sh l i), shn (sh l i)⟩ else pa0
/-- The frames from a to b, of which those below c are known. -/
def outL (l : List (Option Sh)) (a b c : Nat) : List Pa := (List.range (b - a)).map fun k => if a + k < c then fr1 l (a + k) else pa0
theorem outL_len (l : List (Option Sh)) (a b c : Nat) : (outL l a b c).length = b - a := by simp [outL]
theorem outL_same (l : List (Option Sh)) (a b c : Nat) (h : fr1 l c = pa0 ∨ c < a ∨ b ≤ c) : outL l a b (c + 1) = outL l a b c := by
  unfold outL
  apply List.map_congr_left
  intro k hk
  rw [List.mem_range] at hk
  by_cases h1 : a + k < c
  · rw [if_pos h1, if_pos (by omega)]
  · by_cases h2 : a + k = c
    · rw [if_pos (by omega), if_neg h1, h2]
      rcases h with h | h | h
      · exact h
      · omega
      · omega
    · rw [if_neg (by omega), if_neg h1]
theorem outL_get (l : List (Option Sh)) (a b c i : Nat) : (outL l a b c)[i]? = if i < b - a then some (if a + i < c then fr1 l (a + i) else pa0) else none := by
  unfold outL
  rw [List.getElem?_map]
  by_cases h : i < b - a
  · rw [List.getElem?_range h, if_pos h]; rfl
  · rw [List.getElem?_eq_none (by simp; omega), if_neg h]; rfl
theorem outL_set (l : List (Option Sh)) (a b c : Nat) (h1 : a ≤ c) (h2 : c < b) : (outL l a b c).set (c - a) (fr1 l c) = outL l a b (c + 1) := by
  apply List.ext_getElem?
  intro i
  rw [List.getElem?_set, outL_get, outL_get, outL_len]
  by_cases e : c - a = i
  · rw [if_pos e, if_pos (by omega), if_pos (by omega), if_pos (by omega), show a + i = c by omega]
  · rw [if_neg e]
    by_cases h3 : i < b - a
    · rw [if_pos h3, if_pos h3]
      by_cases h4 : a + i < c
      · rw [if_pos h4, if_pos (by omega)]
      · rw [if_neg h4, if_neg (by omega)]
    · rw [if_neg h3, if_neg h3]
theorem outL_coded {l : List (Option Sh)} {a b c : Nat} : ∀ d, (∀ j, c ≤ j → j < c + d → cpd l j = false) → outL l a b (c + d) = outL l a b c
  | 0, _ => rfl
  | d + 1, h => by
    rw [show c + (d + 1) = c + d + 1 by omega, outL_same _ _ _ _ (.inl (by unfold fr1; rw [h (c + d) (by omega) (by omega)]; rfl))]
    exact outL_coded d (fun j h1 h2 => h j h1 (by omega))
theorem outL_zero (l : List (Option Sh)) (a b : Nat) : (outL l a b 0).flatMap pac = (List.replicate (b - a) [PV.bool false, .int .i64 0, .int .i64 0, .str [], .int .i64 0]).flatten := by
  have : outL l a b 0 = List.replicate (b - a) pa0 := by
    unfold outL
    rw [List.eq_replicate_iff]
    refine ⟨by simp, fun x hx => ?_⟩
    obtain ⟨k, _, rfl⟩ := List.mem_map.1 hx
    rw [if_neg (by omega)]
  rw [this, List.flatMap, List.map_replicate]
  rfl
theorem PF.at {l : List (Option Sh)} {pc : Bool} {a n : Nat} {p : Pa} {r : List Pa} (h : PF l pc a (p :: r) n) : ∃ c, PaOk l a c p ∧ (p.cp = false → pc = false) ∧ jn l a = false ∧ PF l (!p.cp) c r n := by
  cases h with
  | cons hp hc hj h => exact ⟨_, hp, hc, hj, h⟩

set_option maxHeartbeats 4000000 in
theorem frames_ok (l : List (Option Sh)) (ps : List Pa) (g : Bool) (n a b : Nat) (H : Heap) (hps : PF l false 0 ps n) (hN : NB l) (hn : n ≤ 1000000) (hpl : ps.length ≤ 1000000) (ha : a ≤ b) (hb : b ≤ n) :
    CallOk Try.prog 45 [.agg [.slice (ps.flatMap pac) ps.length g], .int .i64 (a : Int), .int .i64 (b : Int)] H (.slice ((outL l a b n).flatMap pac) (b - a) false) H := by
  have hp5 := pal_len ps
  have hat := pal_at ps
  have e1 : (b : Int) - (a : Int) = ((b - a : Nat) : Int) := by omega
  have hz := outL_zero l a b
  have hol := fun c => pal_len (outL l a b c)
  simp only [outL_len] at hol
  refine CallOk.body (F0 := [(0, .agg [.slice (ps.flatMap pac) ps.length g]), (1, .int .i64 (a : Int)), (2, .int .i64 (b : Int))]) Try.func45 rfl Try.ntmps45 Try.results45 rfl (by kernel_rfl) rfl ?_
  (repeat refine PW.seq ?_); refine PW.rg rfl fun K hK => ?_; simp (maxSteps := 3000000) (disch := omega) only [go_sem, ↓reduceIte, reduceCtorEq, pappend, plen]; refine hK _ _ ?_; clear hK K
  (repeat refine PW.seq ?_); refine PW.rg rfl fun K hK => ?_; simp (maxSteps := 3000000) (disch := omega) only [go_sem, ↓reduceIte, reduceCtorEq, pappend, plen, e1]; refine hK _ _ ?_; clear hK K
  (repeat refine PW.seq ?_); refine PW.rg rfl fun K hK => ?_; simp (maxSteps := 3000000) (disch := omega) only [go_sem, ↓reduceIte, reduceCtorEq, pappend, plen]; refine hK _ _ ?_; clear hK K
  (repeat refine PW.seq ?_); refine PW.block (PW.loop ?_)
  suffices hl1 : ∀ (j c : Nat) (pc : Bool), j ≤ ps.length → PF l pc c (ps.drop j) n → PL Try.prog _ _ [(1, .int .i64 (a : Int)), (2, .int .i64 (b : Int)), (7, .msl (H.length + 1) 0 0 (b - a) 5 true), (17, .slice (ps.flatMap pac) ps.length g), (18, .int .i64 (ps.length : Int)), (19, .int .i64 (j : Int))] (H ++ [⟨71, 0, [.slice (ps.flatMap pac) ps.length g]⟩, ⟨77, 0, (outL l a b c).flatMap pac⟩]) _ by
    refine PL.at [1, 2, 7, 17, 18, 19] (hl1 0 0 false (by omega) (by simpa using hps)) rfl ?_
    rw [hz]
  intro j c pc hj hpf
  induction hd : ps.length - j using Nat.strongRecOn generalizing j c pc with
  | _ d ih =>
    refine PL.round ?_; (repeat refine PW.seq ?_); refine PW.rg rfl fun K hK => ?_; simp (maxSteps := 3000000) (disch := omega) only [go_sem, ↓reduceIte, reduceCtorEq, pappend, plen]; refine hK _ _ ?_; clear hK K
    (repeat refine PW.seq ?_); refine PW.cond (t := _) rfl (fun h => ?_) (fun h => ?_)
    rotate_left
    · have h4 : j = ps.length := by have := of_decide_eq_false h; omega
      subst h4
      rw [List.drop_length] at hpf
      cases hpf
      refine PW.exit ?_
      (repeat refine PW.seq ?_); refine PW.rg rfl fun K hK => ?_; simp (maxSteps := 3000000) (disch := omega) only [go_sem, ↓reduceIte, reduceCtorEq, pappend, plen]; refine hK _ _ ?_; clear hK K
      refine PW.ret ⟨_, rfl, ?_⟩
      exact Fin.base (Fz.mslC (e := 77) (xs := (outL l a b n).flatMap pac) (by omega) (hp1 _ _ _ _) (hol n) (FzC.refl (pal_sc _ _)))
    · have h4 : j < ps.length := by have := of_decide_eq_true h; omega
      have hat' := hat j h4
      rw [drop_at ps j h4] at hpf
      obtain ⟨c', hpa, _, _, hrest⟩ := PF.at hpf
      generalize paAt ps j = p at *
      obtain ⟨cp, film, len, m, fr⟩ := p
      obtain ⟨q1, q2, q3, q4, q5⟩ := hpa
      dsimp only at q1 q2 q4 q5 hrest
      have hcn := hrest.le
      simp only [pac] at hat'
      refine PW.skip ?_; (repeat refine PW.seq ?_); refine PW.block ?_
      (repeat refine PW.seq ?_); refine PW.rg rfl fun K hK => ?_; simp (maxSteps := 3000000) (disch := omega) only [go_sem, ↓reduceIte, reduceCtorEq, pappend, plen, hat', hp5]; refine hK _ _ ?_; clear hK K
      (repeat refine PW.seq ?_); refine PW.rg rfl fun K hK => ?_; simp (maxSteps := 3000000) (disch := omega) only [go_sem, ↓reduceIte, reduceCtorEq, pappend, plen]; refine hK _ _ ?_; clear hK K
      (repeat refine PW.seq ?_); refine PW.block (PW.loop ?_)
      suffices hl2 : ∀ t : Nat, c + t ≤ c' → (cp = false → t = 0) → PL Try.prog _ _ [(1, .int .i64 (a : Int)), (2, .int .i64 (b : Int)), (7, .msl (H.length + 1) 0 0 (b - a) 5 true), (9, .ptr (H.length + 2) 0 0), (10, .int .i64 (t : Int)), (17, .slice (ps.flatMap pac) ps.length g), (18, .int .i64 (ps.length : Int)), (19, .int .i64 (j : Int))] (H ++ [⟨71, 0, [.slice (ps.flatMap pac) ps.length g]⟩, ⟨77, 0, (outL l a b (c + t)).flatMap pac⟩, ⟨77, 0, [.bool cp, .int .i64 film, .int .i64 len, .str m, .int .i64 fr]⟩]) _ by
        exact PL.at [1, 2, 7, 9, 10, 17, 18, 19] (hl2 0 (by omega) (fun _ => rfl)) rfl rfl
      intro t ht ht0
      induction hd2 : c' - (c + t) using Nat.strongRecOn generalizing t with
      | _ d2 ih2 =>
        have exit2 : outL l a b (c + t) = outL l a b c' → PL Try.prog _ _ [(1, .int .i64 (a : Int)), (2, .int .i64 (b : Int)), (7, .msl (H.length + 1) 0 0 (b - a) 5 true), (17, .slice (ps.flatMap pac) ps.length g), (18, .int .i64 (ps.length : Int)), (19, .int .i64 ((j + 1 : Nat) : Int))] (H ++ [⟨71, 0, [.slice (ps.flatMap pac) ps.length g]⟩, ⟨77, 0, (outL l a b (c + t)).flatMap pac⟩]) _ := fun e => by
          rw [e]
          exact ih (ps.length - (j + 1)) (by omega) (j + 1) c' (!cp) (by omega) hrest rfl
        refine PL.round ?_
        (repeat refine PW.seq ?_); refine PW.rg rfl fun K hK => ?_; simp (maxSteps := 3000000) (disch := omega) only [go_sem, ↓reduceIte, reduceCtorEq, pappend, plen]; (repeat' ((first | refine VO_cond (fun h => ?_) (fun h => ?_) | refine VOd_cond (fun h => ?_) (fun h => ?_) | refine VOg_cond (fun h => ?_) (fun h => ?_) | refine VOh_cond (fun h => ?_) (fun h => ?_) | refine VOi_cond (fun h => ?_) (fun h => ?_) | refine And.intro (fun h => ?_) (fun h => ?_)) <;> (try simp only [Bool.not_eq_true', Bool.not_eq_false', decide_eq_true_eq, decide_eq_false_iff_not] at h) <;> simp (maxSteps := 3000000) (disch := omega) only [go_sem, ↓reduceIte, reduceCtorEq, pappend, plen, h]))
        all_goals refine hK _ _ ?_; clear hK K
        all_goals
          (repeat refine PW.seq ?_); refine PW.cond (t := _) rfl (fun h => ?_) (fun h => ?_)
        · rename_i htl
          obtain ⟨k1, k2, k, k3⟩ := q5 h (c + t) (by omega) (by omega)
          have hnb := hN _ _ k3
          have hfr := q5 h c (by omega) (by omega)
          obtain ⟨_, _, kk, kk3⟩ := hfr
          have hnb2 := hN _ _ kk3
          dsimp only at hnb hnb2
          have hf1 : fr1 l (c + t) = ⟨decide (t = 0), 0, 1, m, fr + (t : Int)⟩ := by
            unfold fr1
            rw [k1, if_pos rfl, k2, k3]
            simp only [shm, shn]
            congr 1
            · rw [Bool.eq_iff_iff]; simp
            · omega
          have hnx := outL_same l a b (c + t)
          have hset := outL_set l a b (c + t)
          have hspl := fm_spliceG pac 5 (fun _ => rfl) (outL l a b (c + t)) (c + t - a) (fr1 l (c + t))
          rw [outL_len] at hspl
          have next : ∀ X, X = (outL l a b (c + t + 1)).flatMap pac → PL Try.prog _ _ [(1, .int .i64 (a : Int)), (2, .int .i64 (b : Int)), (7, .msl (H.length + 1) 0 0 (b - a) 5 true), (9, .ptr (H.length + 2) 0 0), (10, .int .i64 ((t + 1 : Nat) : Int)), (17, .slice (ps.flatMap pac) ps.length g), (18, .int .i64 (ps.length : Int)), (19, .int .i64 (j : Int))] (H ++ [⟨71, 0, [.slice (ps.flatMap pac) ps.length g]⟩, ⟨77, 0, X⟩, ⟨77, 0, [.bool cp, .int .i64 film, .int .i64 len, .str m, .int .i64 fr]⟩]) _ := fun X hX => by
            rw [hX]
            exact ih2 (c' - (c + (t + 1))) (by omega) (t + 1) (by omega) (fun hh => by rw [h] at hh; cases hh) rfl
          refine PW.skip ?_; (repeat refine PW.seq ?_); refine PW.block ?_
          have e5 : film + (t : Int) = ((c + t : Nat) : Int) := by omega
          (repeat refine PW.seq ?_); refine PW.rg rfl fun K hK => ?_; simp (maxSteps := 3000000) (disch := omega) only [go_sem, ↓reduceIte, reduceCtorEq, pappend, plen, e5]; refine hK _ _ ?_; clear hK K
          by_cases hin : a ≤ c + t ∧ c + t < b
          · have d1 : decide ((a : Int) ≤ ((c + t : Nat) : Int)) = true := decide_eq_true (by omega)
            have d2 : decide (((c + t : Nat) : Int) < (b : Int)) = true := decide_eq_true (by omega)
            have e6 : ((c + t : Nat) : Int) - (a : Int) = ((c + t - a : Nat) : Int) := by omega
            have e7 : decide (t = 0) = decide ((t : Int) = 0) := by rw [Bool.eq_iff_iff]; simp
            have e8 : ((t : Int) == 0) = decide ((t : Int) = 0) := by rw [Bool.eq_iff_iff]; simp
            have hs5 := hspl (by omega)
            rw [hset hin.1 hin.2, hf1, e7] at hs5
            have hs6 : List.take ((c + t - a) * 5) ((outL l a b (c + t)).flatMap pac) ++ PV.bool (decide ((t : Int) = 0)) :: PV.int .i64 0 :: PV.int .i64 1 :: PV.str m :: PV.int .i64 (fr + (t : Int)) :: List.drop ((c + t - a) * 5 + (1 + 1 + 1 + 1 + 1)) ((outL l a b (c + t)).flatMap pac) = (outL l a b (c + t + 1)).flatMap pac := hs5
            (repeat refine PW.seq ?_); refine PW.rg rfl fun K hK => ?_; simp (maxSteps := 3000000) (disch := omega) only [go_sem, ↓reduceIte, reduceCtorEq, pappend, plen, d1, d2]; refine hK _ _ ?_; clear hK K
            (repeat refine PW.seq ?_); refine PW.cond (t := _) rfl (fun h => ?_) (fun h => ?_)
            rotate_left
            · cases h
            (repeat refine PW.seq ?_); refine PW.rg rfl fun K hK => ?_; simp (maxSteps := 3000000) (disch := omega) only [go_sem, ↓reduceIte, reduceCtorEq, pappend, plen, e6, e8, hol]; refine hK _ _ ?_; clear hK K
            (repeat refine PW.seq ?_); refine PW.rg rfl fun K hK => ?_; simp (maxSteps := 3000000) (disch := omega) only [go_sem, ↓reduceIte, reduceCtorEq, pappend, plen]; refine hK _ _ ?_; clear hK K
            refine PL.at [1, 2, 7, 9, 10, 17, 18, 19] (next _ hs6) rfl rfl
          · have hnx' := hnx (by omega)
            by_cases h7 : a ≤ c + t
            · have d1 : decide ((a : Int) ≤ ((c + t : Nat) : Int)) = true := decide_eq_true (by omega)
              have d2 : decide (((c + t : Nat) : Int) < (b : Int)) = false := decide_eq_false (by omega)
              (repeat refine PW.seq ?_); refine PW.rg rfl fun K hK => ?_; simp (maxSteps := 3000000) (disch := omega) only [go_sem, ↓reduceIte, reduceCtorEq, pappend, plen, d1, d2]; refine hK _ _ ?_; clear hK K
              (repeat refine PW.seq ?_); refine PW.cond (t := _) rfl (fun h => ?_) (fun h => ?_)
              · cases h
              refine PW.skip ?_
              (repeat refine PW.seq ?_); refine PW.rg rfl fun K hK => ?_; simp (maxSteps := 3000000) (disch := omega) only [go_sem, ↓reduceIte, reduceCtorEq, pappend, plen]; refine hK _ _ ?_; clear hK K
              refine PL.at [1, 2, 7, 9, 10, 17, 18, 19] (next _ (by rw [hnx'])) rfl rfl
            · have d1 : decide ((a : Int) ≤ ((c + t : Nat) : Int)) = false := decide_eq_false (by omega)
              (repeat refine PW.seq ?_); refine PW.rg rfl fun K hK => ?_; simp (maxSteps := 3000000) (disch := omega) only [go_sem, ↓reduceIte, reduceCtorEq, pappend, plen, d1]; refine hK _ _ ?_; clear hK K
              (repeat refine PW.seq ?_); refine PW.cond (t := _) rfl (fun h => ?_) (fun h => ?_)
              · cases h
              refine PW.skip ?_
              (repeat refine PW.seq ?_); refine PW.rg rfl fun K hK => ?_; simp (maxSteps := 3000000) (disch := omega) only [go_sem, ↓reduceIte, reduceCtorEq, pappend, plen]; refine hK _ _ ?_; clear hK K
              refine PL.at [1, 2, 7, 9, 10, 17, 18, 19] (next _ (by rw [hnx'])) rfl rfl
        · have hcp := h
          refine PW.exit ?_
          (repeat refine PW.seq ?_); refine PW.rg rfl fun K hK => ?_; simp (maxSteps := 3000000) (disch := omega) only [go_sem, ↓reduceIte, reduceCtorEq, pappend, plen]; refine hK _ _ ?_; clear hK K
          refine PL.view (Vs.trim (F1 := [(1, .int .i64 (a : Int)), (2, .int .i64 (b : Int)), (7, .msl (H.length + 1) 0 0 (b - a) 5 true), (17, .slice (ps.flatMap pac) ps.length g), (18, .int .i64 (ps.length : Int)), (19, .int .i64 ((j + 1 : Nat) : Int))]) (H1 := H ++ [⟨71, 0, [.slice (ps.flatMap pac) ps.length g]⟩, ⟨77, 0, (outL l a b (c + t)).flatMap pac⟩]) (hscU 2 ?_) (by simp) (List.append_assoc _ [_, _] [_]).symm ?_) (exit2 ?_)
          · intro q hq x hx
            simp only [List.mem_cons, List.not_mem_nil, or_false] at hq
            rcases hq with rfl | rfl
            · simp only [List.mem_singleton] at hx
              rw [hx]; exact sl_scoped (pal_sc _ _)
            · exact pal_sc _ _ _ hx
          · rw [List.length_append]
            simp only [List.length_cons, List.length_nil]
            exact ⟨.id (.int _ _), .id (.int _ _), .id (.msl (by omega)), .id (sl_scoped (pal_sc _ _)), .id (.int _ _), .id (.int _ _), trivial⟩
          have ht' := ht0 hcp
          subst ht'
          rw [Nat.add_zero, show c' = c + (c' - c) by omega]
          exact (outL_coded (c' - c) (fun i i1 i2 => (q4 hcp).2.2 i i1 (by omega))).symm
        · cases h
        · rename_i htl
          refine PW.exit ?_
          (repeat refine PW.seq ?_); refine PW.rg rfl fun K hK => ?_; simp (maxSteps := 3000000) (disch := omega) only [go_sem, ↓reduceIte, reduceCtorEq, pappend, plen]; refine hK _ _ ?_; clear hK K
          refine PL.view (Vs.trim (F1 := [(1, .int .i64 (a : Int)), (2, .int .i64 (b : Int)), (7, .msl (H.length + 1) 0 0 (b - a) 5 true), (17, .slice (ps.flatMap pac) ps.length g), (18, .int .i64 (ps.length : Int)), (19, .int .i64 ((j + 1 : Nat) : Int))]) (H1 := H ++ [⟨71, 0, [.slice (ps.flatMap pac) ps.length g]⟩, ⟨77, 0, (outL l a b (c + t)).flatMap pac⟩]) (hscU 2 ?_) (by simp) (List.append_assoc _ [_, _] [_]).symm ?_) (exit2 ?_)
          · intro q hq x hx
            simp only [List.mem_cons, List.not_mem_nil, or_false] at hq
            rcases hq with rfl | rfl
            · simp only [List.mem_singleton] at hx
              rw [hx]; exact sl_scoped (pal_sc _ _)
            · exact pal_sc _ _ _ hx
          · rw [List.length_append]
            simp only [List.length_cons, List.length_nil]
            exact ⟨.id (.int _ _), .id (.int _ _), .id (.msl (by omega)), .id (sl_scoped (pal_sc _ _)), .id (.int _ _), .id (.int _ _), trivial⟩
          rw [show c + t = c' by omega]

end Go.Proofs.Ytnjnikafhbholaa.Sc
