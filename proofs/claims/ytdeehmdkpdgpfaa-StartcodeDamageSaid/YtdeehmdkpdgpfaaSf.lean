/-
  Contracts of chapter 3: Unescape; the law StartcodeEscape's contract.
-/
import Derived.Test.YtdeehmdkpdgpfaaSe
namespace Go.Proofs.Ytdeehmdkpdgpfaa.Sc
set_option linter.all false
set_option linter.unusedVariables false
set_option linter.unusedSimpArgs false
open Pm Ty Go.RowKit

/-! ### the model -/
def run0 (z : Nat) (c : UInt8) : Nat := if c.toNat = 0 then z + 1 else 0
/-- Escape, from the front. -/
def escL : Nat → List UInt8 → List UInt8
  | _, [] => []
  | z, c :: r => if z = 2 ∧ c.toNat < 4 then 3 :: c :: escL (run0 0 c) r else c :: escL (run0 z c) r
theorem escL_fold : ∀ (p o : List UInt8) (z : Nat), (p.foldl escStep (o, z)).1 = o ++ escL z p
  | [], o, z => by simp [escL]
  | c :: r, o, z => by
    rw [List.foldl_cons]
    by_cases h : z = 2 ∧ c.toNat < 4
    · rw [escStep_yes _ _ h.1 h.2, escL_fold, escL, if_pos h]; simp [run0]
    · rw [escStep_no _ _ h, escL_fold, escL, if_neg h]; simp [run0]
theorem esc_eq (p : List UInt8) : esc p = escL 0 p := by
  unfold esc escS
  rw [escL_fold]
  rfl
theorem escL_last : ∀ (p : List UInt8) (z : Nat), (escL z p).getLast? = p.getLast?
  | [], z => rfl
  | [c], z => by
    unfold escL
    split <;> simp [escL]
  | c :: d :: r, z => by
    have ih : ∀ z, (escL z (d :: r)).getLast? = (d :: r).getLast? := fun z => escL_last (d :: r) z
    have hne : ∀ z, escL z (d :: r) ≠ [] := fun z h => by
      have := ih z
      rw [h] at this
      exact absurd (List.getLast?_eq_none_iff.1 this.symm) (by simp)
    unfold escL
    split
    · obtain ⟨a, l, e⟩ := List.exists_cons_of_ne_nil (hne (run0 0 c))
      have := ih (run0 0 c)
      rw [e] at this ⊢
      rw [List.getLast?_cons_cons, List.getLast?_cons_cons, List.getLast?_cons_cons, this]
    · obtain ⟨a, l, e⟩ := List.exists_cons_of_ne_nil (hne (run0 z c))
      have := ih (run0 z c)
      rw [e] at this ⊢
      rw [List.getLast?_cons_cons, List.getLast?_cons_cons, this]
theorem ends0_last (p : List UInt8) : ends0 p = (p.getLast? == some 0) := by
  unfold ends0 byt
  induction p using snoc_ind with
  | nil => rfl
  | snoc p c _ =>
    have e : (p ++ [c]).getD ((p ++ [c]).length - 1) 0 = c := by simp
    rw [e]
    simp only [List.length_append, List.length_cons, List.length_nil, List.getLast?_concat]
    rw [Bool.eq_iff_iff]
    simp
    constructor
    · intro h
      exact UInt8.toNat_inj.1 (by simpa using h)
    · rintro rfl; rfl
/-- Unescape. -/
def une : Nat → List UInt8 → List UInt8 → Option (List UInt8)
  | _, acc, [] => some acc
  | z, acc, c :: r =>
    if z = 2 ∧ c.toNat < 4 then
      match r with
      | [] => none
      | d :: r' => if c.toNat < 3 ∨ 4 ≤ d.toNat then none else une (run0 0 d) (acc ++ [d]) r'
    else une (run0 z c) (acc ++ [c]) r
theorem une_cons (z : Nat) (acc : List UInt8) (c : UInt8) (r : List UInt8) : une z acc (c :: r) = if z = 2 ∧ c.toNat < 4 then (match r with | [] => none | d :: r' => if c.toNat < 3 ∨ 4 ≤ d.toNat then none else une (run0 0 d) (acc ++ [d]) r') else une (run0 z c) (acc ++ [c]) r := by
  rw [une.eq_def]
/-- What Unescape returns. -/
def unR (b : List UInt8) : List UInt8 × Int := if ends0 b then ([], 3) else match une 0 [] b with | none => ([], 3) | some p => (p, 0)
theorem une_escL : ∀ (p acc : List UInt8) (z : Nat), une z acc (escL z p) = some (acc ++ p)
  | [], acc, z => by simp [escL, une]
  | c :: r, acc, z => by
    unfold escL
    by_cases h : z = 2 ∧ c.toNat < 4
    · rw [if_pos h]
      unfold une
      have e3 : (3 : UInt8).toNat = 3 := rfl
      rw [if_pos ⟨h.1, by rw [e3]; omega⟩]
      simp only [e3]
      rw [if_neg (by omega), une_escL r]
      simp
    · rw [if_neg h]
      unfold une
      rw [if_neg h, une_escL r]
      simp
theorem escL_une (b : List UInt8) : ∀ (acc q : List UInt8) (z : Nat), une z acc b = some q → ∃ p, q = acc ++ p ∧ b = escL z p := by
  induction hn : b.length using Nat.strongRecOn generalizing b with
  | _ n ih =>
    intro acc q z h
    cases b with
    | nil =>
      simp [une] at h
      exact ⟨[], by simp [h], rfl⟩
    | cons c r =>
      unfold une at h
      by_cases hc : z = 2 ∧ c.toNat < 4
      · rw [if_pos hc] at h
        cases r with
        | nil => simp at h
        | cons d r' =>
          simp only at h
          by_cases hd : c.toNat < 3 ∨ 4 ≤ d.toNat
          · rw [if_pos hd] at h; cases h
          · rw [if_neg hd] at h
            obtain ⟨p, hp, hb⟩ := ih r'.length (by rw [← hn]; simp only [List.length_cons]; omega) r' rfl _ _ _ h
            refine ⟨d :: p, by simp [hp], ?_⟩
            have e3 : c = 3 := UInt8.toNat_inj.1 (by show c.toNat = 3; omega)
            rw [escL, if_pos ⟨hc.1, by omega⟩, ← hb, e3]
      · rw [if_neg hc] at h
        obtain ⟨p, hp, hb⟩ := ih r.length (by rw [← hn]; simp) r rfl _ _ _ h
        exact ⟨c :: p, by simp [hp], by rw [escL, if_neg hc, ← hb]⟩
theorem une_nil_escR {p b : List UInt8} (h : escR p = (b, 0)) : unR b = (p, 0) := by
  unfold escR at h
  by_cases he : ends0 p = true
  · rw [if_pos he] at h
    simp at h
  · rw [if_neg he] at h
    obtain rfl := (Prod.mk.inj h).1
    rw [esc_eq]
    unfold unR
    rw [ends0_last, escL_last, ← ends0_last, if_neg he, une_escL]
    rfl
theorem escR_unR {p b : List UInt8} (h : unR b = (p, 0)) : escR p = (b, 0) := by
  unfold unR at h
  by_cases he : ends0 b = true
  · rw [if_pos he] at h
    simp at h
  · rw [if_neg he] at h
    split at h
    · simp at h
    · rename_i q hq
      obtain rfl := (Prod.mk.inj h).1
      obtain ⟨p', hp, hb⟩ := escL_une b _ _ _ hq
      obtain rfl : q = p' := by simpa using hp
      unfold escR
      have : ends0 q = ends0 b := by rw [ends0_last, ends0_last, hb, escL_last]
      rw [this, if_neg he, esc_eq, ← hb]
theorem unR_cases (b : List UInt8) : unR b = ([], 3) ∨ ∃ p, unR b = (p, 0) := by
  unfold unR
  split
  · exact .inl rfl
  · split
    · exact .inl rfl
    · exact .inr ⟨_, rfl⟩
theorem escR_cases (p : List UInt8) : escR p = ([], 3) ∨ escR p = (esc p, 0) := by
  unfold escR
  split
  · exact .inl rfl
  · exact .inr rfl

/-- A byte is appended. -/
theorem app_byte {B : Nat} {H : Heap} {v : PV} {out : List UInt8} (hacc : Acc B 5 1 H v (bs out) out.length) (c : UInt8) (h : out.length ≤ 100000000) (hB : B ≤ H.length) :
    ∃ v2 H2, pappend Try.prog H 22 22 v (.slice [.int .u8 (c.toNat : Int)] 1 true) = some (v2, H2) ∧ Acc B 5 1 H2 v2 (bs (out ++ [c])) (out ++ [c]).length ∧ (∀ H0, Kept B H0 H → Kept B H0 H2) := by
  obtain ⟨v2, H2, hap, hacc2, hg2, ho2⟩ := hacc.append (P := Try.prog) (t := 22) (tx := 22) (x := .slice [.int .u8 (c.toNat : Int)] 1 true) (news := bs [c]) (m := 1) Try.underlying22 sz5 by5 zc5 (by decide) rfl
    (by simp [appSrc, Try.underlying22, scells, bs]) rfl (by omega) (by omega) hB
  exact ⟨v2, H2, hap, by rw [bs_append, List.length_append]; exact hacc2, fun H0 hk => hk.grew hg2 (fun j hj => (hacc.own_ge j hj).1)⟩

theorem byt_get (p : List UInt8) (k : Nat) : byt p k = ((p.getD k 0).toNat : Int) := rfl
theorem drop_cons' (b : List UInt8) (k : Nat) (h : k < b.length) : b.drop k = b.getD k 0 :: b.drop (k + 1) := by
  rw [List.drop_eq_getElem_cons h]
  simp [h]
theorem run0_le (z : Nat) (c : UInt8) : run0 z c ≤ z + 1 := by unfold run0; split <;> omega

theorem unescape_ok (b : List UInt8) (full : Bool) (H : Heap) (hl : b.length ≤ 1000000) : CallOk Try.prog 18 [.slice (bs b) b.length full] H (.tup [bv (unR b).1, .int .i64 (unR b).2]) H := by
  refine CallOk.body (F0 := [(0, .slice (bs b) b.length full)]) Try.func18 rfl Try.ntmps18 Try.results18 rfl (by kernel_rfl) rfl ?_
  refine PW.seq ?_; refine PW.rg rfl fun K hK => ?_; simp (disch := omega) only [go_sem, ↓reduceIte, reduceCtorEq, pappend, plen]; refine hK _ _ ?_; clear hK K
  refine PW.seq (PW.seq ?_); refine PW.rg rfl fun K hK => ?_; simp (disch := omega) only [go_sem, ↓reduceIte, reduceCtorEq, pappend, plen]; refine VC.call (ends0_ok b full H hl) rfl rfl ?_; simp (disch := omega) only [go_sem, ↓reduceIte, reduceCtorEq, pappend, plen]; refine hK _ _ ?_; clear hK K
  refine PW.cond (t := _) rfl (fun h => ?_) (fun h => ?_)
  · have he : unR b = ([], 3) := by rw [unR, if_pos h]
    rw [he]
    refine PW.seq ?_; refine PW.rg rfl fun K hK => ?_; simp (disch := omega) only [go_sem, ↓reduceIte, reduceCtorEq, pappend, plen]; refine hK _ _ ?_; clear hK K
    exact PW.ret ⟨_, rfl, Fin.give (Kept.refl H) (Frz.tup2 (Frz.slice (bs_still [])) ((Still.int _ _).frz _ _))⟩
  have hu : unR b = match une 0 [] b with | none => ([], 3) | some p => (p, 0) := by rw [unR, if_neg (by simp [h])]
  refine PW.skip (PW.seq ?_); refine PW.rg rfl fun K hK => ?_; simp (disch := omega) only [go_sem, ↓reduceIte, reduceCtorEq, pappend, plen, length_bs]; refine hK _ _ ?_; clear hK K
  refine PW.seq ?_; refine PW.rg rfl fun K hK => ?_; simp (disch := omega) only [go_sem, ↓reduceIte, reduceCtorEq, pappend, plen]; refine hK _ _ ?_; clear hK K
  refine PW.seq (PW.seq ?_); refine PW.rg rfl fun K hK => ?_; simp (disch := omega) only [go_sem, ↓reduceIte, reduceCtorEq, pappend, plen]; refine hK _ _ ?_; clear hK K
  refine PW.block (PW.loop ?_)
  suffices hloop : ∀ (k z : Nat) (out : List UInt8) (v : PV) (H1 : Heap), k ≤ b.length → z ≤ 2 → out.length ≤ k → une 0 [] b = une z out (b.drop k) → Acc H.length 5 1 H1 v (bs out) out.length → Kept H.length H H1 →
      PL Try.prog _ _ [(0, .slice (bs b) b.length full), (4, v), (5, .int .i64 (z : Int)), (6, .int .i64 (k : Int))] H1 _ by
    exact PL.keep [0, 4, 5, 6] (hloop 0 0 [] _ H (Nat.zero_le _) (by omega) (by simp) rfl (Acc.nil _ _ _ _) (Kept.refl H))
  intro k z out v H1 hk hz ho heq hacc hkept
  induction hm : b.length - k using Nat.strongRecOn generalizing k z out v H1 with
  | _ n ih =>
    refine PL.round (PW.seq (PW.seq ?_)); refine PW.rg rfl fun K hK => ?_; simp (disch := omega) only [go_sem, ↓reduceIte, reduceCtorEq, pappend, plen, length_bs]; refine hK _ _ ?_; clear hK K
    refine PW.cond (t := _) rfl (fun h => ?_) (fun h => ?_)
    · have h4 : k < b.length := by have := of_decide_eq_true h; omega
      have hby := byt_range b k
      have hc : byt b k = ((b.getD k 0).toNat : Int) := rfl
      rw [drop_cons' b k h4, une_cons] at heq
      refine PW.skip (PW.seq (PW.block (PW.seq ?_))); refine PW.rg rfl fun K hK => ?_; simp (disch := omega) only [go_sem, ↓reduceIte, reduceCtorEq, pappend, plen, length_bs, bs_get]; refine hK _ _ ?_; clear hK K
      refine PW.join [0, 4, 5, 6, 7] (fun F' H' => ∃ (k1 z1 : Nat) (c1 : UInt8), F' = [(0, .slice (bs b) b.length full), (4, v), (5, .int .i64 (z1 : Int)), (6, .int .i64 (k1 : Int)), (7, .int .u8 (c1.toNat : Int))] ∧ H' = H1 ∧
        k ≤ k1 ∧ k1 < b.length ∧ z1 ≤ 2 ∧ (z1 = 2 → c1.toNat ≠ 0) ∧ une 0 [] b = une (run0 z1 c1) (out ++ [c1]) (b.drop (k1 + 1))) ?_ ?_
      · refine PW.seq (PW.rg1 [0, 4, 5, 6, 7, 27] [(0, .slice (bs b) b.length full), (4, v), (5, .int .i64 (z : Int)), (6, .int .i64 (k : Int)), (7, .int .u8 (byt b k)), (27, .bool (decide (z = 2 ∧ byt b k < 4)))] H1 rfl ?_ ?_)
        · by_cases h2 : z = 2
          · simp (disch := omega) only [go_sem, ↓reduceIte, reduceCtorEq, pappend, plen]
            try simp [h2]
          · simp (disch := omega) only [go_sem, ↓reduceIte, reduceCtorEq, pappend, plen]
            try simp [h2]
        refine PW.cond (t := _) rfl (fun h => ?_) (fun h => ?_)
        · have h5 := of_decide_eq_true h
          rw [if_pos ⟨h5.1, by omega⟩] at heq
          have hb1 := byt_range b (k + 1)
          refine PW.seq (PW.seq (PW.rg1 [0, 4, 5, 6, 7, 44] [(0, .slice (bs b) b.length full), (4, v), (5, .int .i64 (z : Int)), (6, .int .i64 (k : Int)), (7, .int .u8 (byt b k)), (44, .bool (decide (byt b k < 3 ∨ k + 1 = b.length ∨ 4 ≤ byt b (k + 1))))] H1 rfl ?_ ?_))
          · by_cases h6 : byt b k < 3
            · simp (disch := omega) only [go_sem, ↓reduceIte, reduceCtorEq, pappend, plen, length_bs, bs_get]
              try simp [h6]
            · by_cases h7 : k + 1 = b.length
              · simp (disch := omega) only [go_sem, ↓reduceIte, reduceCtorEq, pappend, plen, length_bs, bs_get]
                try simp [h6, h7]
              · simp (disch := omega) only [go_sem, ↓reduceIte, reduceCtorEq, pappend, plen, length_bs, bs_get]
                try simp [h6, h7]
          refine PW.cond (t := _) rfl (fun h => ?_) (fun h => ?_)
          · have h6 := of_decide_eq_true h
            have hn : une 0 [] b = none := by
              rw [heq]
              split
              · rfl
              · rename_i d r' hr
                rw [if_pos]
                have hlt : k + 1 < b.length := by
                  have := congrArg List.length hr
                  simp at this
                  omega
                rw [drop_cons' b (k + 1) hlt] at hr
                have e1 := (List.cons.inj hr).1
                have e2 : byt b (k + 1) = ((b.getD (k + 1) 0).toNat : Int) := rfl
                rw [e1] at e2
                omega
            rw [hu, hn]
            refine PW.seq ?_; refine PW.rg rfl fun K hK => ?_; simp (disch := omega) only [go_sem, ↓reduceIte, reduceCtorEq, pappend, plen]; refine hK _ _ ?_; clear hK K
            exact PW.ret ⟨_, rfl, Fin.give hkept (Frz.tup2 (Frz.slice (bs_still [])) ((Still.int _ _).frz _ _))⟩
          · have h6 := of_decide_eq_false h
            have hlt : k + 1 < b.length := by omega
            refine PW.skip (PW.seq ?_); refine PW.rg rfl fun K hK => ?_; simp (disch := omega) only [go_sem, ↓reduceIte, reduceCtorEq, pappend, plen]; refine hK _ _ ?_; clear hK K
            refine PW.rg rfl fun K hK => ?_; simp (disch := omega) only [go_sem, ↓reduceIte, reduceCtorEq, pappend, plen, length_bs, bs_get]; refine hK _ _ ?_; clear hK K
            refine ⟨k + 1, 0, b.getD (k + 1) 0, rfl, rfl, by omega, hlt, by omega, by omega, ?_⟩
            rw [heq, drop_cons' b (k + 1) hlt]
            have e2 : byt b (k + 1) = ((b.getD (k + 1) 0).toNat : Int) := rfl
            simp only
            rw [if_neg (by omega)]
        · have h5 := of_decide_eq_false h
          rw [if_neg (by omega)] at heq
          exact PW.skip ⟨k, z, b.getD k 0, rfl, rfl, by omega, h4, hz, by omega, heq⟩
      · rintro F' H' ⟨k1, z1, c1, rfl, rfl, hk1, hk1', hz1, hzz, heq1⟩
        have hc1 := c1.toNat_lt
        obtain ⟨v2, H2, hap, hacc2, hk2⟩ := app_byte hacc c1 (by omega) hkept.1
        refine PW.seq ?_; refine PW.rg rfl fun K hK => ?_; simp (disch := omega) only [go_sem, ↓reduceIte, reduceCtorEq, plen, hap]; refine hK _ _ ?_; clear hK K
        have hrun : (if (c1.toNat : Int) = 0 then (z1 : Int) + 1 else 0) = ((run0 z1 c1 : Nat) : Int) := by
          unfold run0
          by_cases h0 : c1.toNat = 0
          · rw [if_pos h0, if_pos (by omega)]; rfl
          · rw [if_neg h0, if_neg (by omega)]; rfl
        refine PW.rg rfl fun K hK => ?_; simp (disch := omega) only [go_sem, ↓reduceIte, reduceCtorEq, pappend, plen]; refine VC.call (run_ok (z1 : Int) (c1.toNat : Int) _ (by omega) (by omega)) rfl rfl ?_; rw [hrun]; simp (disch := omega) only [go_sem, ↓reduceIte, reduceCtorEq, pappend, plen]; refine hK _ _ ?_; clear hK K
        refine PW.rg rfl fun K hK => ?_; simp (disch := omega) only [go_sem, ↓reduceIte, reduceCtorEq, pappend, plen]; refine hK _ _ ?_; clear hK K
        refine PL.keep [0, 4, 5, 6] ?_
        have hr : run0 z1 c1 ≤ 2 := by unfold run0; split <;> omega
        refine ih (b.length - (k1 + 1)) (by omega) (k1 + 1) (run0 z1 c1) (out ++ [c1]) v2 H2 (by omega) hr (by simp; omega) heq1 hacc2 (hk2 _ hkept) rfl
    · have h4 : k = b.length := by have := of_decide_eq_false h; omega
      subst h4
      have hs : une 0 [] b = some out := by rw [heq]; simp [une]
      rw [hu, hs]
      refine PW.exit (PW.seq ?_); refine PW.rg rfl fun K hK => ?_; simp (disch := omega) only [go_sem, ↓reduceIte, reduceCtorEq, pappend, plen]; refine hK _ _ ?_; clear hK K
      exact PW.ret ⟨_, rfl, Fin.give hkept (Frz.tup2 (Frz.acc hacc (bs_still _)) ((Still.int _ _).frz _ _))⟩

theorem law_escape (p : List UInt8) (full : Bool) (H : Heap) :
    CallOk Try.prog 5 [.slice (bs p) p.length full] H (.bool true) H := by
  refine CallOk.body (F0 := [(0, .slice (bs p) p.length full)]) Try.func5 rfl Try.ntmps5 Try.results5 rfl (by kernel_rfl) rfl ?_
  refine PW.seq ?_; refine PW.rg rfl fun K hK => ?_; simp (disch := omega) only [go_sem, ↓reduceIte, reduceCtorEq, pappend, plen]; refine hK _ _ ?_; clear hK K
  refine PW.seq (PW.seq ?_); refine PW.rg rfl fun K hK => ?_; simp (disch := omega) only [go_sem, ↓reduceIte, reduceCtorEq, pappend, plen, length_bs]; refine hK _ _ ?_; clear hK K
  refine PW.cond (t := _) rfl (fun h => ?_) (fun h => ?_)
  · refine PW.seq ?_; refine PW.rg rfl fun K hK => ?_; simp (disch := omega) only [go_sem, ↓reduceIte, reduceCtorEq, pappend, plen]; refine hK _ _ ?_; clear hK K
    exact PW.ret ⟨_, rfl, Fin.give (Kept.refl H) ((Still.bool _).frz _ _)⟩
  have hl : p.length ≤ 2000 := by have := of_decide_eq_false h; omega
  refine PW.skip (PW.seq ?_); refine PW.rg rfl fun K hK => ?_; simp (disch := omega) only [go_sem, ↓reduceIte, reduceCtorEq, pappend, plen]; refine VC.call (escape_ok p full _ (by omega)) rfl rfl ?_; simp (disch := omega) only [go_sem, ↓reduceIte, reduceCtorEq, pappend, plen]; refine hK _ _ ?_; clear hK K
  refine PW.seq ?_; refine PW.rg rfl fun K hK => ?_; simp (disch := omega) only [go_sem, ↓reduceIte, reduceCtorEq, pappend, plen]; refine VC.call (escape_ref p full _ (by omega)) rfl rfl ?_; simp (disch := omega) only [go_sem, ↓reduceIte, reduceCtorEq, pappend, plen]; refine hK _ _ ?_; clear hK K
  refine PW.seq (PW.seq ?_); refine PW.rg rfl fun K hK => ?_; simp (disch := omega) only [go_sem, ↓reduceIte, reduceCtorEq, pappend, plen]; refine VC.call (same_ok _ _ _ _ _) rfl rfl ?_; simp (disch := omega) only [go_sem, ↓reduceIte, reduceCtorEq, pappend, plen]; refine hK _ _ ?_; clear hK K
  refine PW.cond (t := _) rfl (fun h => by cases h) (fun _ => ?_)
  rcases escR_cases p with he | he
  · refine PW.skip (PW.seq (PW.seq ?_)); rw [he]; refine PW.rg rfl fun K hK => ?_; simp (disch := omega) only [go_sem, ↓reduceIte, reduceCtorEq, pappend, plen]; refine hK _ _ ?_; clear hK K
    refine PW.cond (t := _) rfl (fun _ => ?_) (fun h => by cases h)
    refine PW.seq ?_; refine PW.rg rfl fun K hK => ?_; simp (disch := omega) only [go_sem, ↓reduceIte, reduceCtorEq, pappend, plen]; refine VC.call (awake_ok _) rfl rfl ?_; simp (disch := omega) only [go_sem, ↓reduceIte, reduceCtorEq, pappend, plen]; refine hK _ _ ?_; clear hK K
    exact PW.ret ⟨_, rfl, Fin.give (Kept.refl H) ((Still.bool _).frz _ _)⟩
  · have hlen := escR_len p
    refine PW.skip (PW.seq (PW.seq ?_)); rw [he] at hlen ⊢; refine PW.rg rfl fun K hK => ?_; simp (disch := omega) only [go_sem, ↓reduceIte, reduceCtorEq, pappend, plen]; refine hK _ _ ?_; clear hK K
    refine PW.cond (t := _) rfl (fun h => by cases h) (fun _ => ?_)
    have hu : unR (esc p) = (p, 0) := une_nil_escR he
    refine PW.skip (PW.seq ?_); refine PW.rg rfl fun K hK => ?_; simp (disch := omega) only [go_sem, ↓reduceIte, reduceCtorEq, pappend, plen]; refine VC.call (unescape_ok (esc p) false _ (by simp at hlen; omega)) rfl rfl ?_; rw [hu]; simp (disch := omega) only [go_sem, ↓reduceIte, reduceCtorEq, pappend, plen]; refine hK _ _ ?_; clear hK K
    refine PW.seq ?_; refine PW.rg rfl fun K hK => ?_; simp (disch := omega) only [go_sem, ↓reduceIte, reduceCtorEq, pappend, plen]; refine VC.call (awake_ok _) rfl rfl ?_; simp (disch := omega) only [go_sem, ↓reduceIte, reduceCtorEq, pappend, plen]; refine VC.call (same_ok p p full false _) rfl rfl ?_; simp (disch := omega) only [go_sem, ↓reduceIte, reduceCtorEq, pappend, plen]; refine hK _ _ ?_; clear hK K
    exact PW.ret ⟨_, rfl, Fin.give (Kept.refl H) ((Still.bool _).frz _ _)⟩

end Go.Proofs.Ytdeehmdkpdgpfaa.Sc
