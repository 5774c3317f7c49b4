/-
  Contracts of the reference of chapter 3: Escape; of both Format; of the statements' own 'awake'.
-/
import Derived.Test.YtnnkohejhnjflaaGreatDoorZc
namespace Go.Proofs.YtnnkohejhnjflaaGreatDoor.S3
set_option linter.all false
set_option linter.unusedVariables false
set_option linter.unusedSimpArgs false
open Pm Ty Sc Go.RowKit
set_option maxRecDepth 100000

/-- The zeros at the end. -/
def tz (l : List UInt8) : Nat := (l.reverse.takeWhile (· = 0)).length
theorem tz_snoc (l : List UInt8) (c : UInt8) : tz (l ++ [c]) = if c.toNat = 0 then tz l + 1 else 0 := by
  unfold tz
  rw [List.reverse_append, List.reverse_singleton, List.singleton_append, List.takeWhile_cons]
  by_cases h : c = 0
  · subst h; simp
  · have : ¬ c.toNat = 0 := fun e => h (UInt8.toNat_inj.1 (by simpa using e))
    simp [h, this]
theorem tz_esc (p : List UInt8) : tz (escS p).1 = (escS p).2 := by
  induction p using snoc_ind with
  | nil => rfl
  | snoc p c ih =>
    rw [escS_snoc]
    by_cases h : (escS p).2 = 2 ∧ c.toNat < 4
    · rw [escStep_yes _ _ h.1 h.2, tz_snoc, tz_snoc]; simp
    · rw [escStep_no _ _ h, tz_snoc, ih]
theorem tz_two (l : List UInt8) : 2 ≤ tz l ↔ 2 ≤ l.length ∧ byt l (l.length - 1) = 0 ∧ byt l (l.length - 2) = 0 := by
  induction l using snoc_ind with
  | nil => simp [tz]
  | snoc l a _ =>
    rw [tz_snoc]
    have e1 : byt (l ++ [a]) ((l ++ [a]).length - 1) = (a.toNat : Int) := by simp [byt]
    by_cases ha : a.toNat = 0
    · rw [if_pos ha, e1]
      induction l using snoc_ind with
      | nil => simp [tz]
      | snoc l b _ =>
        have e2 : byt (l ++ [b] ++ [a]) ((l ++ [b] ++ [a]).length - 2) = (b.toNat : Int) := by simp [byt]
        rw [tz_snoc, e2]
        by_cases hb : b.toNat = 0
        · rw [if_pos hb]; simp; omega
        · rw [if_neg hb]; simp; omega
    · rw [if_neg ha, e1]; simp; omega

theorem escape_ref (p : List UInt8) (full : Bool) (H : Heap) (hl : p.length ≤ 1000000) : CallOk Tryz.prog 123 [.slice (bs p) p.length full] H (.tup [bv (escR p).1, .int .i64 (escR p).2]) H := by
  refine CallOk.body (F0 := [(0, .slice (bs p) p.length full)]) Tryz.func123 rfl Tryz.ntmps123 Tryz.results123 rfl (by kernel_rfl) rfl ?_
  refine PW.seq ?_; (repeat refine PW.seq ?_); refine PW.rg rfl fun K hK => ?_; simp (maxSteps := 3000000) (disch := omega) only [go_sem, ↓reduceIte, reduceCtorEq, pappend, plen]; refine hK _ _ ?_; clear hK K
  refine PW.seq (PW.seq (PW.rg1 [0, 18] [(0, .slice (bs p) p.length full), (18, .bool (ends0 p))] H rfl ?_ ?_))
  · by_cases h : 0 < p.length
    · simp (maxSteps := 3000000) (disch := omega) only [go_sem, ↓reduceIte, reduceCtorEq, pappend, plen, length_bs, bs_get]
      simp [ends0, h]
    · simp (maxSteps := 3000000) (disch := omega) only [go_sem, ↓reduceIte, reduceCtorEq, pappend, plen, length_bs, bs_get]
      simp [ends0, h]
  (repeat refine PW.seq ?_); refine PW.cond (t := _) rfl (fun h => ?_) (fun h => ?_)
  · have he : escR p = ([], 3) := by rw [escR, if_pos h]
    rw [he]
    refine PW.seq ?_; (repeat refine PW.seq ?_); refine PW.rg rfl fun K hK => ?_; simp (maxSteps := 3000000) (disch := omega) only [go_sem, ↓reduceIte, reduceCtorEq, pappend, plen]; refine hK _ _ ?_; clear hK K
    exact PW.ret ⟨_, rfl, Fin.give (Kept.refl H) (Frz.tup2 (Frz.slice (bs_still [])) ((Still.int _ _).frz _ _))⟩
  have he : escR p = (esc p, 0) := by rw [escR, if_neg (by simp [h])]
  rw [he]
  refine PW.skip (PW.seq ?_); (repeat refine PW.seq ?_); refine PW.rg rfl fun K hK => ?_; simp (maxSteps := 3000000) (disch := omega) only [go_sem, ↓reduceIte, reduceCtorEq, pappend, plen]; refine hK _ _ ?_; clear hK K
  refine PW.seq (PW.seq ?_); (repeat refine PW.seq ?_); refine PW.rg rfl fun K hK => ?_; simp (maxSteps := 3000000) (disch := omega) only [go_sem, ↓reduceIte, reduceCtorEq, pappend, plen]; refine hK _ _ ?_; clear hK K
  refine PW.block (PW.loop ?_)
  suffices hloop : ∀ (k : Nat) (v : PV) (H1 : Heap), k ≤ p.length → Acc H.length 5 1 H1 v (bs (escS (p.take k)).1) (escS (p.take k)).1.length → Kept H.length H H1 →
      PL Tryz.prog _ _ [(0, .slice (bs p) p.length full), (4, v), (5, .int .i64 (k : Int))] H1 _ by
    exact PL.keep [0, 4, 5] (hloop 0 _ H (Nat.zero_le _) (Acc.nil _ _ _ _) (Kept.refl H))
  intro k v H1 hk hacc hkept
  induction hm : p.length - k using Nat.strongRecOn generalizing k v H1 with
  | _ n ih =>
    have hbd := escS_bd (p.take k)
    have hlk : (p.take k).length = k := by simp; omega
    refine PL.round (PW.seq (PW.seq ?_)); (repeat refine PW.seq ?_); refine PW.rg rfl fun K hK => ?_; simp (maxSteps := 3000000) (disch := omega) only [go_sem, ↓reduceIte, reduceCtorEq, pappend, plen]; refine hK _ _ ?_; clear hK K
    (repeat refine PW.seq ?_); refine PW.cond (t := _) rfl (fun h => ?_) (fun h => ?_)
    · have h4 : k < p.length := by have := of_decide_eq_true h; omega
      have hby := byt_range p k
      have hc : byt p k = ((p.getD k 0).toNat : Int) := rfl
      have hlen := hacc.len (P := Tryz.prog) Tryz.underlying29
      refine PW.skip (PW.seq (PW.block (PW.seq ?_))); (repeat refine PW.seq ?_); refine PW.rg rfl fun K hK => ?_; simp (maxSteps := 3000000) (disch := omega) only [go_sem, ↓reduceIte, reduceCtorEq, pappend, hlen]; refine hK _ _ ?_; clear hK K
      refine PW.join [0, 4, 5] (fun F' H' => ∃ v1 out1, F' = [(0, .slice (bs p) p.length full), (4, v1), (5, .int .i64 (k : Int))] ∧
        Acc H.length 5 1 H' v1 (bs out1) out1.length ∧ Kept H.length H H' ∧ out1.length ≤ 2 * k + 1 ∧ out1 ++ [p.getD k 0] = (escStep (escS (p.take k)) (p.getD k 0)).1) ?_ ?_
      · refine PW.seq (PW.rg1 [0, 4, 5, 51] [(0, .slice (bs p) p.length full), (4, v), (5, .int .i64 (k : Int)), (51, .bool (decide ((escS (p.take k)).2 = 2 ∧ byt p k < 4)))] H1 rfl ?_ ?_)
        · have ht := tz_two (escS (p.take k)).1
          rw [tz_esc] at ht
          generalize (escS (p.take k)).1 = out at *
          generalize (escS (p.take k)).2 = z at *
          have hd : decide (z = 2 ∧ byt p k < 4) = (decide (byt p k < 4) && decide (2 ≤ out.length) && (byt out (out.length - 1) == 0) && (byt out (out.length - 2) == 0)) := by
            rw [Bool.eq_iff_iff]; simp; omega
          rw [hd]
          by_cases h1 : byt p k < 4
          · by_cases h2 : 2 ≤ out.length
            · rcases hacc.2 with rfl | ⟨id, ver, hid, rfl, hkk⟩
              all_goals by_cases h3 : byt out (out.length - 1) = 0
              · simp (maxSteps := 3000000) (disch := omega) only [go_sem, ↓reduceIte, reduceCtorEq, pappend, plen, length_bs, bs_get]
                all_goals simp [h1, h2, h3]
              · simp (maxSteps := 3000000) (disch := omega) only [go_sem, ↓reduceIte, reduceCtorEq, pappend, plen, length_bs, bs_get]
                all_goals simp [h1, h2, h3]
              · simp (maxSteps := 3000000) (disch := omega) only [go_sem, ↓reduceIte, reduceCtorEq, pappend, plen, length_bs, bs_get, hkk]
                all_goals simp [h1, h2, h3]
              · simp (maxSteps := 3000000) (disch := omega) only [go_sem, ↓reduceIte, reduceCtorEq, pappend, plen, length_bs, bs_get, hkk]
                all_goals simp [h1, h2, h3]
            · simp (maxSteps := 3000000) (disch := omega) only [go_sem, ↓reduceIte, reduceCtorEq, pappend, plen, length_bs, bs_get]
              try simp [h1, h2]
          · simp (maxSteps := 3000000) (disch := omega) only [go_sem, ↓reduceIte, reduceCtorEq, pappend, plen, length_bs, bs_get]
            try simp [h1]
        (repeat refine PW.seq ?_); refine PW.cond (t := _) rfl (fun h => ?_) (fun h => ?_)
        · have h5 := of_decide_eq_true h
          obtain ⟨v2, H2, hap, hacc2, hg2, ho2⟩ := hacc.append (P := Tryz.prog) (t := 29) (tx := 29) (x := .slice [.int .u8 3] 1 true) (news := bs [3]) (m := 1) Tryz.underlying29 sz5 by5 zc5 (by decide) rfl
            (by simp [appSrc, Tryz.underlying29, scells, bs]) rfl (by omega) (by omega) hkept.1
          (repeat refine PW.seq ?_); refine PW.rg rfl fun K hK => ?_; simp (maxSteps := 3000000) (disch := omega) only [go_sem, ↓reduceIte, reduceCtorEq, plen, hap]; refine hK _ _ ?_; clear hK K
          exact ⟨v2, (escS (p.take k)).1 ++ [3], rfl, by rw [bs_append, List.length_append]; exact hacc2, hkept.grew hg2 (fun j hj => (hacc.own_ge j hj).1), by simp; omega, by rw [escStep_yes _ _ h5.1 (by omega)]⟩
        · have h5 := of_decide_eq_false h
          exact PW.skip ⟨v, (escS (p.take k)).1, rfl, hacc, hkept, by omega, by rw [escStep_no _ _ (fun hh => h5 ⟨hh.1, by omega⟩)]⟩
      · rintro F' H' ⟨v1, out1, rfl, hacc1, hkept1, hl1, hstep⟩
        obtain ⟨v2, H2, hap, hacc2, hg2, ho2⟩ := hacc1.append (P := Tryz.prog) (t := 29) (tx := 29) (x := .slice [.int .u8 (byt p k)] 1 true) (news := bs [p.getD k 0]) (m := 1) Tryz.underlying29 sz5 by5 zc5 (by decide) rfl
          (by simp [appSrc, Tryz.underlying29, scells, bs, byt]) rfl (by omega) (by omega) hkept1.1
        (repeat refine PW.seq ?_); refine PW.rg rfl fun K hK => ?_; simp (maxSteps := 3000000) (disch := omega) only [go_sem, ↓reduceIte, reduceCtorEq, plen, hap, length_bs, bs_get]; refine hK _ _ ?_; clear hK K
        (repeat refine PW.seq ?_); refine PW.rg rfl fun K hK => ?_; simp (maxSteps := 3000000) (disch := omega) only [go_sem, ↓reduceIte, reduceCtorEq, pappend, plen]; refine hK _ _ ?_; clear hK K
        have e1 : p.take (k + 1) = p.take k ++ [p.getD k 0] := take_succ_byte p k h4
        have e2 : (escS (p.take (k + 1))).1 = out1 ++ [p.getD k 0] := by rw [e1, escS_snoc, hstep]
        refine PL.keep [0, 4, 5] ?_
        exact ih (p.length - (k + 1)) (by omega) (k + 1) v2 H2 (by omega) (by rw [e2, bs_append, List.length_append]; exact hacc2) (hkept1.grew hg2 (fun j hj => (hacc1.own_ge j hj).1)) rfl
    · have h4 : k = p.length := by have := of_decide_eq_false h; omega
      subst h4
      rw [List.take_length] at hacc
      refine PW.exit (PW.seq ?_); (repeat refine PW.seq ?_); refine PW.rg rfl fun K hK => ?_; simp (maxSteps := 3000000) (disch := omega) only [go_sem, ↓reduceIte, reduceCtorEq, pappend, plen]; refine hK _ _ ?_; clear hK K
      exact PW.ret ⟨_, rfl, Fin.give hkept (Frz.tup2 (Frz.acc hacc (bs_still _)) ((Still.int _ _).frz _ _))⟩

/-- What Format returns. -/
def fmtR (t : Int) (p : List UInt8) : List UInt8 × Int := if t < 1 ∨ 255 < t then ([], 1) else if (escR p).2 = 0 then ([0, 0, 1, UInt8.ofNat t.toNat] ++ (escR p).1, 0) else ([], (escR p).2)
theorem escR_len (p : List UInt8) : (escR p).1.length ≤ 2 * p.length := by
  unfold escR
  split
  · simp
  · exact (escS_bd p).2

theorem format_ok (t : Int) (p : List UInt8) (full : Bool) (H : Heap) (hl : p.length ≤ 1000000) :
    CallOk Tryz.prog 95 [.agg [.int .i64 t, .slice (bs p) p.length full]] H (.tup [bv (fmtR t p).1, .int .i64 (fmtR t p).2]) H := by
  refine CallOk.body (F0 := [(0, .agg [.int .i64 t, .slice (bs p) p.length full])]) Tryz.func95 rfl Tryz.ntmps95 Tryz.results95 rfl (by kernel_rfl) rfl ?_
  refine PW.seq ?_; (repeat refine PW.seq ?_); refine PW.rg rfl fun K hK => ?_; simp (maxSteps := 3000000) (disch := omega) only [go_sem, ↓reduceIte, reduceCtorEq, pappend, plen]; refine hK _ _ ?_; clear hK K
  refine PW.seq (PW.seq (PW.rg1 [1, 13] [(1, .ptr H.length 0 0), (13, .bool (decide (t < 1 ∨ 255 < t)))] (H ++ [⟨31, 0, [.int .i64 t, .slice (bs p) p.length full]⟩]) rfl ?_ ?_))
  · by_cases h : t < 1
    · simp (maxSteps := 3000000) (disch := omega) only [go_sem, ↓reduceIte, reduceCtorEq, pappend, plen]
      all_goals simp [h]
    · simp (maxSteps := 3000000) (disch := omega) only [go_sem, ↓reduceIte, reduceCtorEq, pappend, plen]
      all_goals simp [h]
  (repeat refine PW.seq ?_); refine PW.cond (t := _) rfl (fun h => ?_) (fun h => ?_)
  · have h1 := of_decide_eq_true h
    have he : fmtR t p = ([], 1) := by rw [fmtR, if_pos h1]
    rw [he]
    refine PW.seq ?_; (repeat refine PW.seq ?_); refine PW.rg rfl fun K hK => ?_; simp (maxSteps := 3000000) (disch := omega) only [go_sem, ↓reduceIte, reduceCtorEq, pappend, plen]; refine hK _ _ ?_; clear hK K
    exact PW.ret ⟨_, rfl, Fin.give (Kept.more H _) (Frz.tup2 (Frz.slice (bs_still [])) ((Still.int _ _).frz _ _))⟩
  have h1 := of_decide_eq_false h
  refine PW.skip (PW.seq ?_); (repeat refine PW.seq ?_); refine PW.rg rfl fun K hK => ?_; simp (maxSteps := 3000000) (disch := omega) only [go_sem, ↓reduceIte, reduceCtorEq, pappend, plen]; refine VCx.call (escape_ok p full _ hl) rfl ?_; simp (maxSteps := 3000000) (disch := omega) only [go_sem, ↓reduceIte, reduceCtorEq, pappend, plen]; refine hK _ _ ?_; clear hK K
  refine PW.seq (PW.seq ?_); (repeat refine PW.seq ?_); refine PW.rg rfl fun K hK => ?_; simp (maxSteps := 3000000) (disch := omega) only [go_sem, ↓reduceIte, reduceCtorEq, pappend, plen]; refine hK _ _ ?_; clear hK K
  (repeat refine PW.seq ?_); refine PW.cond (t := _) rfl (fun h => ?_) (fun h => ?_)
  · have h2 : ¬ (escR p).2 = 0 := by simpa using h
    have he : fmtR t p = ([], (escR p).2) := by rw [fmtR, if_neg h1, if_neg h2]
    rw [he]
    refine PW.seq ?_; (repeat refine PW.seq ?_); refine PW.rg rfl fun K hK => ?_; simp (maxSteps := 3000000) (disch := omega) only [go_sem, ↓reduceIte, reduceCtorEq, pappend, plen]; refine hK _ _ ?_; clear hK K
    exact PW.ret ⟨_, rfl, Fin.give (Kept.more H _) (Frz.tup2 (Frz.slice (bs_still [])) ((Still.int _ _).frz _ _))⟩
  have h2 : (escR p).2 = 0 := by simpa using h
  have he : fmtR t p = ([0, 0, 1, UInt8.ofNat t.toNat] ++ (escR p).1, 0) := by rw [fmtR, if_neg h1, if_pos h2]
  rw [he]
  have hlen := escR_len p
  have hacc : Acc H.length 5 1 (H ++ [⟨31, 0, [.int .i64 t, .slice (bs p) p.length full]⟩]) (.slice (bs [0, 0, 1, UInt8.ofNat t.toNat]) 4 true) (bs [0, 0, 1, UInt8.ofNat t.toNat]) 4 := ⟨rfl, .inl rfl⟩
  have hcell : bs [0, 0, 1, UInt8.ofNat t.toNat] = [.int .u8 0, .int .u8 0, .int .u8 1, .int .u8 t] := by
    simp [bs]; omega
  obtain ⟨v2, H2, hap, hacc2, hg2, ho2⟩ := hacc.append (P := Tryz.prog) (t := 29) (tx := 29) (x := bv (escR p).1) (news := bs (escR p).1) (m := (escR p).1.length) Tryz.underlying29 sz5 by5 zc5 (by decide) rfl
    (by simp [appSrc, Tryz.underlying29, scells, bv, length_bs]) (by simp [length_bs]) (by omega) (by omega) (by simp)
  rw [hcell] at hap
  refine PW.skip (PW.seq ?_); (repeat refine PW.seq ?_); refine PW.rg rfl fun K hK => ?_; simp (maxSteps := 3000000) (disch := omega) only [go_sem, ↓reduceIte, reduceCtorEq, plen, hap]; refine hK _ _ ?_; clear hK K
  have hb : bv ([0, 0, 1, UInt8.ofNat t.toNat] ++ (escR p).1) = .slice (bs ([0, 0, 1, UInt8.ofNat t.toNat] ++ (escR p).1)) (4 + (escR p).1.length) false := by
    simp [bv]; omega
  exact PW.ret ⟨_, rfl, Fin.give ((Kept.more H _).grew hg2 (fun j hj => (hacc.own_ge j hj).1)) (Frz.tup2 (by
    have := Frz.acc hacc2 (by rw [← bs_append]; exact bs_still _)
    rw [← bs_append] at this
    rw [hb]; exact this) ((Still.int _ _).frz _ _))⟩

theorem format_ref (t : Int) (p : List UInt8) (full : Bool) (H : Heap) (hl : p.length ≤ 1000000) :
    CallOk Tryz.prog 98 [.agg [.int .i64 t, .slice (bs p) p.length full]] H (.tup [bv (fmtR t p).1, .int .i64 (fmtR t p).2]) H := by
  refine CallOk.body (F0 := [(0, .agg [.int .i64 t, .slice (bs p) p.length full])]) Tryz.func98 rfl Tryz.ntmps98 Tryz.results98 rfl (by kernel_rfl) rfl ?_
  refine PW.seq ?_; (repeat refine PW.seq ?_); refine PW.rg rfl fun K hK => ?_; simp (maxSteps := 3000000) (disch := omega) only [go_sem, ↓reduceIte, reduceCtorEq, pappend, plen]; refine hK _ _ ?_; clear hK K
  refine PW.seq (PW.seq (PW.rg1 [1, 13] [(1, .ptr H.length 0 0), (13, .bool (decide (t < 1 ∨ 255 < t)))] (H ++ [⟨31, 0, [.int .i64 t, .slice (bs p) p.length full]⟩]) rfl ?_ ?_))
  · by_cases h : t < 1
    · simp (maxSteps := 3000000) (disch := omega) only [go_sem, ↓reduceIte, reduceCtorEq, pappend, plen]
      all_goals simp [h]
    · simp (maxSteps := 3000000) (disch := omega) only [go_sem, ↓reduceIte, reduceCtorEq, pappend, plen]
      all_goals simp [h]
  (repeat refine PW.seq ?_); refine PW.cond (t := _) rfl (fun h => ?_) (fun h => ?_)
  · have h1 := of_decide_eq_true h
    have he : fmtR t p = ([], 1) := by rw [fmtR, if_pos h1]
    rw [he]
    refine PW.seq ?_; (repeat refine PW.seq ?_); refine PW.rg rfl fun K hK => ?_; simp (maxSteps := 3000000) (disch := omega) only [go_sem, ↓reduceIte, reduceCtorEq, pappend, plen]; refine hK _ _ ?_; clear hK K
    exact PW.ret ⟨_, rfl, Fin.give (Kept.more H _) (Frz.tup2 (Frz.slice (bs_still [])) ((Still.int _ _).frz _ _))⟩
  have h1 := of_decide_eq_false h
  refine PW.skip (PW.seq ?_); (repeat refine PW.seq ?_); refine PW.rg rfl fun K hK => ?_; simp (maxSteps := 3000000) (disch := omega) only [go_sem, ↓reduceIte, reduceCtorEq, pappend, plen]; refine VCx.call (escape_ref p full _ hl) rfl ?_; simp (maxSteps := 3000000) (disch := omega) only [go_sem, ↓reduceIte, reduceCtorEq, pappend, plen]; refine hK _ _ ?_; clear hK K
  refine PW.seq (PW.seq ?_); (repeat refine PW.seq ?_); refine PW.rg rfl fun K hK => ?_; simp (maxSteps := 3000000) (disch := omega) only [go_sem, ↓reduceIte, reduceCtorEq, pappend, plen]; refine hK _ _ ?_; clear hK K
  (repeat refine PW.seq ?_); refine PW.cond (t := _) rfl (fun h => ?_) (fun h => ?_)
  · have h2 : ¬ (escR p).2 = 0 := by simpa using h
    have he : fmtR t p = ([], (escR p).2) := by rw [fmtR, if_neg h1, if_neg h2]
    rw [he]
    refine PW.seq ?_; (repeat refine PW.seq ?_); refine PW.rg rfl fun K hK => ?_; simp (maxSteps := 3000000) (disch := omega) only [go_sem, ↓reduceIte, reduceCtorEq, pappend, plen]; refine hK _ _ ?_; clear hK K
    exact PW.ret ⟨_, rfl, Fin.give (Kept.more H _) (Frz.tup2 (Frz.slice (bs_still [])) ((Still.int _ _).frz _ _))⟩
  have h2 : (escR p).2 = 0 := by simpa using h
  have he : fmtR t p = ([0, 0, 1, UInt8.ofNat t.toNat] ++ (escR p).1, 0) := by rw [fmtR, if_neg h1, if_pos h2]
  rw [he]
  have hlen := escR_len p
  have hacc : Acc H.length 5 1 (H ++ [⟨31, 0, [.int .i64 t, .slice (bs p) p.length full]⟩]) (.slice (bs [0, 0, 1, UInt8.ofNat t.toNat]) 4 true) (bs [0, 0, 1, UInt8.ofNat t.toNat]) 4 := ⟨rfl, .inl rfl⟩
  have hcell : bs [0, 0, 1, UInt8.ofNat t.toNat] = [.int .u8 0, .int .u8 0, .int .u8 1, .int .u8 t] := by
    simp [bs]; omega
  obtain ⟨v2, H2, hap, hacc2, hg2, ho2⟩ := hacc.append (P := Tryz.prog) (t := 29) (tx := 29) (x := bv (escR p).1) (news := bs (escR p).1) (m := (escR p).1.length) Tryz.underlying29 sz5 by5 zc5 (by decide) rfl
    (by simp [appSrc, Tryz.underlying29, scells, bv, length_bs]) (by simp [length_bs]) (by omega) (by omega) (by simp)
  rw [hcell] at hap
  refine PW.skip (PW.seq ?_); (repeat refine PW.seq ?_); refine PW.rg rfl fun K hK => ?_; simp (maxSteps := 3000000) (disch := omega) only [go_sem, ↓reduceIte, reduceCtorEq, plen, hap]; refine hK _ _ ?_; clear hK K
  have hb : bv ([0, 0, 1, UInt8.ofNat t.toNat] ++ (escR p).1) = .slice (bs ([0, 0, 1, UInt8.ofNat t.toNat] ++ (escR p).1)) (4 + (escR p).1.length) false := by
    simp [bv]; omega
  exact PW.ret ⟨_, rfl, Fin.give ((Kept.more H _).grew hg2 (fun j hj => (hacc.own_ge j hj).1)) (Frz.tup2 (by
    have := Frz.acc hacc2 (by rw [← bs_append]; exact bs_still _)
    rw [← bs_append] at this
    rw [hb]; exact this) ((Still.int _ _).frz _ _))⟩

end Go.Proofs.YtnnkohejhnjflaaGreatDoor.S3
