/-
  Contracts of package startcode and of the reference of chapter 3.
-/
import Derived.Test.YtnnkohejhnjflaaGreatDoorPj
namespace Go.Proofs.YtnnkohejhnjflaaGreatDoor.S3
set_option linter.all false
set_option linter.unusedVariables false
set_option linter.unusedSimpArgs false
open Pm Ty Sc Go.RowKit
set_option maxRecDepth 100000

theorem run_ok (z c : Int) (H : Heap) (hz : 0 ≤ z) (hz2 : z ≤ 1000000000) : CallOk Tryz.prog 111 [.int .i64 z, .int .u8 c] H (.int .i64 (if c = 0 then z + 1 else 0)) H := by
  refine CallOk.body (F0 := [(0, .int .i64 z), (1, .int .u8 c)]) Tryz.func111 rfl Tryz.ntmps111 Tryz.results111 rfl (by kernel_rfl) rfl ?_
  refine PW.seq ?_; (repeat refine PW.seq ?_); refine PW.rg rfl fun K hK => ?_; simp (maxSteps := 3000000) (disch := omega) only [go_sem, ↓reduceIte, reduceCtorEq, pappend, plen]; refine hK _ _ ?_; clear hK K
  refine PW.seq (PW.seq ?_); (repeat refine PW.seq ?_); refine PW.rg rfl fun K hK => ?_; simp (maxSteps := 3000000) (disch := omega) only [go_sem, ↓reduceIte, reduceCtorEq, pappend, plen]; refine hK _ _ ?_; clear hK K
  refine PW.cond (t := _) rfl (fun h => ?_) (fun h => ?_)
  · have hc : c = 0 := by simpa using h
    refine PW.seq ?_; (repeat refine PW.seq ?_); refine PW.rg rfl fun K hK => ?_; simp (maxSteps := 3000000) (disch := omega) only [go_sem, ↓reduceIte, reduceCtorEq, pappend, plen]; refine hK _ _ ?_; clear hK K
    exact PW.ret ⟨_, rfl, .inl ⟨by rw [if_pos hc]; rfl, rfl⟩⟩
  · have hc : ¬ c = 0 := by simpa using h
    refine PW.skip ?_
    refine PW.seq ?_; (repeat refine PW.seq ?_); refine PW.rg rfl fun K hK => ?_; simp (maxSteps := 3000000) (disch := omega) only [go_sem, ↓reduceIte, reduceCtorEq, pappend, plen]; refine hK _ _ ?_; clear hK K
    exact PW.ret ⟨_, rfl, .inl ⟨by rw [if_neg hc]; rfl, rfl⟩⟩

def ends0 (p : List UInt8) : Bool := decide (0 < p.length) && (byt p (p.length - 1) == 0)

theorem ends0_ok (p : List UInt8) (full : Bool) (H : Heap) (hl : p.length ≤ 1000000) : CallOk Tryz.prog 110 [.slice (bs p) p.length full] H (.bool (ends0 p)) H := by
  refine CallOk.body (F0 := [(0, .slice (bs p) p.length full)]) Tryz.func110 rfl Tryz.ntmps110 Tryz.results110 rfl (by kernel_rfl) rfl ?_
  refine PW.seq ?_; (repeat refine PW.seq ?_); refine PW.rg rfl fun K hK => ?_; simp (maxSteps := 3000000) (disch := omega) only [go_sem, ↓reduceIte, reduceCtorEq, pappend, plen]; refine hK _ _ ?_; clear hK K
  refine PW.seq (PW.rg1 [2] [(2, .bool (ends0 p))] H rfl ?_ (PW.ret ⟨_, rfl, .inl ⟨rfl, rfl⟩⟩))
  by_cases h : 0 < p.length
  · simp (maxSteps := 3000000) (disch := omega) only [go_sem, ↓reduceIte, reduceCtorEq, pappend, plen, length_bs, bs_get]
    simp [ends0, h]
  · simp (maxSteps := 3000000) (disch := omega) only [go_sem, ↓reduceIte, reduceCtorEq, pappend, plen, length_bs, bs_get]
    simp [ends0, h]

/-- A start code at place j. -/
def code (p : List UInt8) (j : Nat) : Bool := byt p j == 0 && byt p (j + 1) == 0 && byt p (j + 2) == 1 && byt p (j + 3) != 0
/-- The first start code from place i on. -/
def nxt (p : List UInt8) (i : Nat) : Nat := if i + 4 ≤ p.length then (if code p i then i else nxt p (i + 1)) else p.length
termination_by p.length - i

theorem next_ok (p : List UInt8) (full : Bool) (i : Nat) (H : Heap) (hl : p.length ≤ 1000000) (hi : i ≤ 1000010) : CallOk Tryz.prog 80 [.slice (bs p) p.length full, .int .i64 (i : Int)] H (.int .i64 (nxt p i : Int)) H := by
  generalize hr : nxt p i = r
  refine CallOk.body (F0 := [(0, .slice (bs p) p.length full), (1, .int .i64 (i : Int))]) Tryz.func80 rfl Tryz.ntmps80 Tryz.results80 rfl (by kernel_rfl) rfl ?_
  refine PW.seq ?_; (repeat refine PW.seq ?_); refine PW.rg rfl fun K hK => ?_; simp (maxSteps := 3000000) (disch := omega) only [go_sem, ↓reduceIte, reduceCtorEq, pappend, plen]; refine hK _ _ ?_; clear hK K
  refine PW.seq (PW.block (PW.loop ?_))
  refine PL.keep [0, 1] (?_ : PL _ _ _ [(0, .slice (bs p) p.length full), (1, .int .i64 (i : Int))] _ _)
  induction hm : p.length - i using Nat.strongRecOn generalizing i with
  | _ n ih =>
    refine PL.round (PW.seq (PW.seq ?_)); (repeat refine PW.seq ?_); refine PW.rg rfl fun K hK => ?_; simp (maxSteps := 3000000) (disch := omega) only [go_sem, ↓reduceIte, reduceCtorEq, pappend, plen]; refine hK _ _ ?_; clear hK K
    (repeat refine PW.seq ?_); refine PW.cond (t := _) rfl (fun h => ?_) (fun h => ?_)
    · have h4 : i + 4 ≤ p.length := by have := of_decide_eq_true h; omega
      refine PW.skip (PW.seq (PW.block (PW.seq ?_)))
      refine PW.rg1 [0, 1, 40] [(0, .slice (bs p) p.length full), (1, .int .i64 (i : Int)), (40, .bool (code p i))] H rfl ?_ ?_
      · by_cases h1 : byt p i = 0 <;> by_cases h2 : byt p (i + 1) = 0 <;> by_cases h3 : byt p (i + 2) = 1
        all_goals simp (maxSteps := 3000000) (disch := omega) only [go_sem, ↓reduceIte, reduceCtorEq, pappend, plen, length_bs, bs_get]
        all_goals simp [code, h1, h2, h3]
      (repeat refine PW.seq ?_); refine PW.cond (t := _) rfl (fun h => ?_) (fun h => ?_)
      · refine PW.seq ?_; (repeat refine PW.seq ?_); refine PW.rg rfl fun K hK => ?_; simp (maxSteps := 3000000) (disch := omega) only [go_sem, ↓reduceIte, reduceCtorEq, pappend, plen]; refine hK _ _ ?_; clear hK K
        refine PW.ret ⟨_, rfl, .inl ⟨?_, rfl⟩⟩
        rw [← hr, nxt, if_pos h4, if_pos h]; rfl
      · refine PW.skip ?_
        (repeat refine PW.seq ?_); refine PW.rg rfl fun K hK => ?_; simp (maxSteps := 3000000) (disch := omega) only [go_sem, ↓reduceIte, reduceCtorEq, pappend, plen]; refine hK _ _ ?_; clear hK K
        refine PL.keep [0, 1] ?_
        refine ih (p.length - (i + 1)) (by omega) (i + 1) (by omega) ?_ rfl
        rw [← hr, nxt.eq_def p i, if_pos h4, if_neg (by simp [h])]
    · have h4 : ¬ i + 4 ≤ p.length := by have := of_decide_eq_false h; omega
      refine PW.exit (PW.seq ?_); (repeat refine PW.seq ?_); refine PW.rg rfl fun K hK => ?_; simp (maxSteps := 3000000) (disch := omega) only [go_sem, ↓reduceIte, reduceCtorEq, pappend, plen]; refine hK _ _ ?_; clear hK K
      refine PW.ret ⟨_, rfl, .inl ⟨?_, rfl⟩⟩
      rw [← hr, nxt, if_neg h4]; rfl

/-- Escape, byte by byte: what has been written, and the zeros at its end. -/
def escStep (s : List UInt8 × Nat) (c : UInt8) : List UInt8 × Nat :=
  if s.2 = 2 ∧ c.toNat < 4 then (s.1 ++ [3] ++ [c], if c.toNat = 0 then 1 else 0) else (s.1 ++ [c], if c.toNat = 0 then s.2 + 1 else 0)
def escS (p : List UInt8) : List UInt8 × Nat := p.foldl escStep ([], 0)
def esc (p : List UInt8) : List UInt8 := (escS p).1
theorem escS_snoc (p : List UInt8) (c : UInt8) : escS (p ++ [c]) = escStep (escS p) c := by simp [escS]
theorem escStep_yes (s : List UInt8 × Nat) (c : UInt8) (h1 : s.2 = 2) (h2 : c.toNat < 4) : escStep s c = (s.1 ++ [3] ++ [c], if c.toNat = 0 then 0 + 1 else 0) := by
  unfold escStep; rw [if_pos ⟨h1, h2⟩]
theorem escStep_no (s : List UInt8 × Nat) (c : UInt8) (h : ¬ (s.2 = 2 ∧ c.toNat < 4)) : escStep s c = (s.1 ++ [c], if c.toNat = 0 then s.2 + 1 else 0) := by
  unfold escStep; rw [if_neg h]
theorem snoc_ind {motive : List UInt8 → Prop} (nil : motive []) (snoc : ∀ p c, motive p → motive (p ++ [c])) (p : List UInt8) : motive p := by
  have h : ∀ q : List UInt8, motive q.reverse := fun q => by
    induction q with
    | nil => exact nil
    | cons c q ih => rw [List.reverse_cons]; exact snoc _ _ ih
  have := h p.reverse
  rwa [List.reverse_reverse] at this
theorem escS_bd (p : List UInt8) : (escS p).2 ≤ 2 ∧ (escS p).1.length ≤ 2 * p.length := by
  induction p using snoc_ind with
  | nil => simp [escS]
  | snoc p c ih =>
    rw [escS_snoc]
    unfold escStep
    by_cases h1 : (escS p).2 = 2
    · by_cases h2 : c.toNat < 4
      · rw [if_pos ⟨h1, h2⟩]
        refine ⟨by split <;> simp, by simp; omega⟩
      · rw [if_neg (fun h => h2 h.2)]
        refine ⟨by rw [if_neg (by omega)]; simp, by simp; omega⟩
    · rw [if_neg (fun h => h1 h.1)]
      refine ⟨by split <;> simp <;> omega, by simp; omega⟩

/-- What Escape returns. -/
def escR (p : List UInt8) : List UInt8 × Int := if ends0 p then ([], 3) else (esc p, 0)
/-- Bytes as a slice. -/
def bv (p : List UInt8) : PV := .slice (bs p) p.length false
theorem bv_nil : bv [] = .slice [] 0 false := rfl

theorem escape_ok (p : List UInt8) (full : Bool) (H : Heap) (hl : p.length ≤ 1000000) : CallOk Tryz.prog 127 [.slice (bs p) p.length full] H (.tup [bv (escR p).1, .int .i64 (escR p).2]) H := by
  refine CallOk.body (F0 := [(0, .slice (bs p) p.length full)]) Tryz.func127 rfl Tryz.ntmps127 Tryz.results127 rfl (by kernel_rfl) rfl ?_
  refine PW.seq ?_; (repeat refine PW.seq ?_); refine PW.rg rfl fun K hK => ?_; simp (maxSteps := 3000000) (disch := omega) only [go_sem, ↓reduceIte, reduceCtorEq, pappend, plen]; refine hK _ _ ?_; clear hK K
  refine PW.seq (PW.seq ?_); (repeat refine PW.seq ?_); refine PW.rg rfl fun K hK => ?_; simp (maxSteps := 3000000) (disch := omega) only [go_sem, ↓reduceIte, reduceCtorEq, pappend, plen]; refine VCx.call (ends0_ok p full H hl) rfl ?_; simp (maxSteps := 3000000) (disch := omega) only [go_sem, ↓reduceIte, reduceCtorEq, pappend, plen]; refine hK _ _ ?_; clear hK K
  (repeat refine PW.seq ?_); refine PW.cond (t := _) rfl (fun h => ?_) (fun h => ?_)
  · have he : escR p = ([], 3) := by rw [escR, if_pos h]
    rw [he]
    refine PW.seq ?_; (repeat refine PW.seq ?_); refine PW.rg rfl fun K hK => ?_; simp (maxSteps := 3000000) (disch := omega) only [go_sem, ↓reduceIte, reduceCtorEq, pappend, plen]; refine hK _ _ ?_; clear hK K
    exact PW.ret ⟨_, rfl, Fin.give (Kept.refl H) (Frz.tup2 (Frz.slice (bs_still [])) ((Still.int _ _).frz _ _))⟩
  have he : escR p = (esc p, 0) := by rw [escR, if_neg (by simp [h])]
  rw [he]
  refine PW.skip (PW.seq ?_); (repeat refine PW.seq ?_); refine PW.rg rfl fun K hK => ?_; simp (maxSteps := 3000000) (disch := omega) only [go_sem, ↓reduceIte, reduceCtorEq, pappend, plen, length_bs]; refine hK _ _ ?_; clear hK K
  refine PW.seq ?_; (repeat refine PW.seq ?_); refine PW.rg rfl fun K hK => ?_; simp (maxSteps := 3000000) (disch := omega) only [go_sem, ↓reduceIte, reduceCtorEq, pappend, plen]; refine hK _ _ ?_; clear hK K
  refine PW.seq (PW.seq ?_); (repeat refine PW.seq ?_); refine PW.rg rfl fun K hK => ?_; simp (maxSteps := 3000000) (disch := omega) only [go_sem, ↓reduceIte, reduceCtorEq, pappend, plen]; refine hK _ _ ?_; clear hK K
  refine PW.block (PW.loop ?_)
  suffices hloop : ∀ (k : Nat) (v : PV) (H1 : Heap), k ≤ p.length → Acc H.length 5 1 H1 v (bs (escS (p.take k)).1) (escS (p.take k)).1.length → Kept H.length H H1 →
      PL Tryz.prog _ _ [(0, .slice (bs p) p.length full), (4, v), (5, .int .i64 ((escS (p.take k)).2 : Int)), (12, .slice (bs p) p.length full), (13, .int .i64 (p.length : Int)), (14, .int .i64 (k : Int))] H1 _ by
    exact PL.keep [0, 4, 5, 12, 13, 14] (hloop 0 _ H (Nat.zero_le _) (Acc.nil _ _ _ _) (Kept.refl H))
  intro k v H1 hk hacc hkept
  induction hm : p.length - k using Nat.strongRecOn generalizing k v H1 with
  | _ n ih =>
    have hbd := escS_bd (p.take k)
    have hlk : (p.take k).length = k := by simp; omega
    refine PL.round (PW.seq ?_); (repeat refine PW.seq ?_); refine PW.rg rfl fun K hK => ?_; simp (maxSteps := 3000000) (disch := omega) only [go_sem, ↓reduceIte, reduceCtorEq, pappend, plen]; refine hK _ _ ?_; clear hK K
    refine PW.seq ?_
    (repeat refine PW.seq ?_); refine PW.cond (t := _) rfl (fun h => ?_) (fun h => ?_)
    · have h4 : k < p.length := by have := of_decide_eq_true h; omega
      have hby := byt_range p k
      refine PW.skip (PW.seq (PW.block (PW.seq ?_))); (repeat refine PW.seq ?_); refine PW.rg rfl fun K hK => ?_; simp (maxSteps := 3000000) (disch := omega) only [go_sem, ↓reduceIte, reduceCtorEq, pappend, plen, length_bs, bs_get]; refine hK _ _ ?_; clear hK K
      have hc : byt p k = ((p.getD k 0).toNat : Int) := rfl
      refine PW.join [0, 4, 5, 7, 12, 13, 14] (fun F' H' => ∃ v1 out1 z1, F' = [(0, .slice (bs p) p.length full), (4, v1), (5, .int .i64 (z1 : Nat)), (7, .int .u8 (byt p k)), (12, .slice (bs p) p.length full), (13, .int .i64 (p.length : Int)), (14, .int .i64 (k : Int))] ∧
        Acc H.length 5 1 H' v1 (bs out1) out1.length ∧ Kept H.length H H' ∧ out1.length ≤ 2 * k + 1 ∧ z1 ≤ 2 ∧ (out1 ++ [p.getD k 0], if (p.getD k 0).toNat = 0 then z1 + 1 else 0) = escStep (escS (p.take k)) (p.getD k 0)) ?_ ?_
      · refine PW.seq (PW.rg1 [0, 4, 5, 7, 12, 13, 14, 23] [(0, .slice (bs p) p.length full), (4, v), (5, .int .i64 ((escS (p.take k)).2 : Int)), (7, .int .u8 (byt p k)), (12, .slice (bs p) p.length full), (13, .int .i64 (p.length : Int)), (14, .int .i64 (k : Int)), (23, .bool (decide ((escS (p.take k)).2 = 2 ∧ byt p k < 4)))] H1 rfl ?_ ?_)
        · by_cases h2 : (escS (p.take k)).2 = 2
          · simp (maxSteps := 3000000) (disch := omega) only [go_sem, ↓reduceIte, reduceCtorEq, pappend, plen]
            try simp [h2]
          · simp (maxSteps := 3000000) (disch := omega) only [go_sem, ↓reduceIte, reduceCtorEq, pappend, plen]
            try simp [h2]
        (repeat refine PW.seq ?_); refine PW.cond (t := _) rfl (fun h => ?_) (fun h => ?_)
        · have h5 := of_decide_eq_true h
          obtain ⟨v2, H2, hap, hacc2, hg2, ho2⟩ := hacc.append (P := Tryz.prog) (t := 29) (tx := 29) (x := .slice [.int .u8 3] 1 true) (news := bs [3]) (m := 1) Tryz.underlying29 sz5 by5 zc5 (by decide) rfl
            (by simp [appSrc, Tryz.underlying29, scells, bs]) rfl (by omega) (by omega) hkept.1
          refine PW.seq ?_; (repeat refine PW.seq ?_); refine PW.rg rfl fun K hK => ?_; simp (maxSteps := 3000000) (disch := omega) only [go_sem, ↓reduceIte, reduceCtorEq, plen, hap]; refine hK _ _ ?_; clear hK K
          (repeat refine PW.seq ?_); refine PW.rg rfl fun K hK => ?_; simp (maxSteps := 3000000) (disch := omega) only [go_sem, ↓reduceIte, reduceCtorEq, pappend, plen]; refine hK _ _ ?_; clear hK K
          exact ⟨v2, (escS (p.take k)).1 ++ [3], 0, rfl, by rw [bs_append, List.length_append]; exact hacc2, hkept.grew hg2 (fun j hj => (hacc.own_ge j hj).1), by simp; omega, by omega, by rw [escStep_yes _ _ h5.1 (by omega)]⟩
        · have h5 := of_decide_eq_false h
          exact PW.skip ⟨v, (escS (p.take k)).1, (escS (p.take k)).2, rfl, hacc, hkept, by omega, by omega, by rw [escStep_no _ _ (fun hh => h5 ⟨hh.1, by omega⟩)]⟩
      · rintro F' H' ⟨v1, out1, z1, rfl, hacc1, hkept1, hl1, hz1, hstep⟩
        obtain ⟨v2, H2, hap, hacc2, hg2, ho2⟩ := hacc1.append (P := Tryz.prog) (t := 29) (tx := 29) (x := .slice [.int .u8 (byt p k)] 1 true) (news := bs [p.getD k 0]) (m := 1) Tryz.underlying29 sz5 by5 zc5 (by decide) rfl
          (by simp [appSrc, Tryz.underlying29, scells, bs, byt]) rfl (by omega) (by omega) hkept1.1
        refine PW.seq ?_; (repeat refine PW.seq ?_); refine PW.rg rfl fun K hK => ?_; simp (maxSteps := 3000000) (disch := omega) only [go_sem, ↓reduceIte, reduceCtorEq, plen, hap]; refine hK _ _ ?_; clear hK K
        (repeat refine PW.seq ?_); refine PW.rg rfl fun K hK => ?_; simp (maxSteps := 3000000) (disch := omega) only [go_sem, ↓reduceIte, reduceCtorEq, pappend, plen]; refine VCx.call (run_ok (z1 : Int) (byt p k) H2 (by omega) (by omega)) rfl ?_; simp (maxSteps := 3000000) (disch := omega) only [go_sem, ↓reduceIte, reduceCtorEq, pappend, plen]; refine hK _ _ ?_; clear hK K
        (repeat refine PW.seq ?_); refine PW.rg rfl fun K hK => ?_; simp (maxSteps := 3000000) (disch := omega) only [go_sem, ↓reduceIte, reduceCtorEq, pappend, plen]; refine hK _ _ ?_; clear hK K
        have e1 : p.take (k + 1) = p.take k ++ [p.getD k 0] := take_succ_byte p k h4
        have e2 : escS (p.take (k + 1)) = (out1 ++ [p.getD k 0], if (p.getD k 0).toNat = 0 then z1 + 1 else 0) := by rw [e1, escS_snoc, hstep]
        have e3 : (if byt p k = 0 then (z1 : Int) + 1 else 0) = ((if (p.getD k 0).toNat = 0 then z1 + 1 else 0 : Nat) : Int) := by
          rw [hc]
          by_cases h0 : (p.getD k 0).toNat = 0
          · rw [if_pos (by omega), if_pos h0]; rfl
          · rw [if_neg (by omega), if_neg h0]; rfl
        rw [e3]
        refine PL.keep [0, 4, 5, 12, 13, 14] ?_
        have hi := ih (p.length - (k + 1)) (by omega) (k + 1) v2 H2 (by omega) (by rw [e2, bs_append, List.length_append]; exact hacc2) (hkept1.grew hg2 (fun j hj => (hacc1.own_ge j hj).1)) rfl
        rw [e2] at hi
        exact hi
    · have h4 : k = p.length := by have := of_decide_eq_false h; omega
      subst h4
      rw [List.take_length] at hacc
      refine PW.exit (PW.seq ?_); (repeat refine PW.seq ?_); refine PW.rg rfl fun K hK => ?_; simp (maxSteps := 3000000) (disch := omega) only [go_sem, ↓reduceIte, reduceCtorEq, pappend, plen]; refine hK _ _ ?_; clear hK K
      exact PW.ret ⟨_, rfl, Fin.give hkept (Frz.tup2 (Frz.acc hacc (bs_still _)) ((Still.int _ _).frz _ _))⟩

end Go.Proofs.YtnnkohejhnjflaaGreatDoor.S3
