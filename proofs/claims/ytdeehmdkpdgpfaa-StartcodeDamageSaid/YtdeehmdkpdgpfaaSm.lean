/-
  Contracts of chapter 3: SameUnit, the statements' own 'same'; the law StartcodeSplit's contract.
-/
import Derived.Test.YtdeehmdkpdgpfaaSl
namespace Go.Proofs.Ytdeehmdkpdgpfaa.Sc
set_option linter.all false
set_option linter.unusedVariables false
set_option linter.unusedSimpArgs false
open Pm Ty Go.RowKit

theorem sameunit_ok (t u : Int) (p q : List UInt8) (f g : Bool) (H : Heap) : CallOk Try.prog 30 [.agg [.int .i64 t, .slice (bs p) p.length f], .agg [.int .i64 u, .slice (bs q) q.length g]] H (.bool (t == u && p == q)) H := by
  refine CallOk.body (F0 := [(0, .agg [.int .i64 t, .slice (bs p) p.length f]), (1, .agg [.int .i64 u, .slice (bs q) q.length g])]) Try.func30 rfl Try.ntmps30 Try.results30 rfl (by kernel_rfl) rfl ?_
  refine PW.seq ?_; refine PW.rg rfl fun K hK => ?_; simp (disch := omega) only [go_sem, ↓reduceIte, reduceCtorEq, pappend, plen]; refine hK _ _ ?_; clear hK K
  by_cases h : t = u
  · refine PW.seq ?_; refine PW.rg rfl fun K hK => ?_; simp (disch := omega) only [go_sem, ↓reduceIte, reduceCtorEq, pappend, plen]; refine VC.call (same_ok p q f g _) rfl rfl ?_; simp (disch := omega) only [go_sem, ↓reduceIte, reduceCtorEq, pappend, plen]; refine hK _ _ ?_; clear hK K
    refine PW.ret ⟨_, rfl, Fin.give (Kept.more H _) ?_⟩
    rw [show (t == u && p == q) = (p == q) by simp [h]]
    exact (Still.bool _).frz _ _
  · refine PW.seq ?_; refine PW.rg rfl fun K hK => ?_; simp (disch := omega) only [go_sem, ↓reduceIte, reduceCtorEq, pappend, plen]; refine hK _ _ ?_; clear hK K
    refine PW.ret ⟨_, rfl, Fin.give (Kept.more H _) ?_⟩
    rw [show (t == u && p == q) = false by simp [h]]
    exact (Still.bool _).frz _ _

def sameF (x y : Fnd) : Bool := x.fr == y.fr && x.to == y.to && x.nx == y.nx && (x.t == y.t && x.p == y.p)
theorem same2_ok (x y : Fnd) (H : Heap) : CallOk Try.prog 22 [.agg (fd x), .agg (fd y)] H (.bool (sameF x y)) H := by
  unfold fd bv
  refine CallOk.body (F0 := [(0, .agg [.int .i64 x.t, .slice (bs x.p) x.p.length false, .int .i64 x.fr, .int .i64 x.to, .int .i64 x.nx]), (1, .agg [.int .i64 y.t, .slice (bs y.p) y.p.length false, .int .i64 y.fr, .int .i64 y.to, .int .i64 y.nx])]) Try.func22 rfl Try.ntmps22 Try.results22 rfl (by kernel_rfl) rfl ?_
  refine PW.seq ?_; refine PW.rg rfl fun K hK => ?_; simp (disch := omega) only [go_sem, ↓reduceIte, reduceCtorEq, pappend, plen]; refine hK _ _ ?_; clear hK K
  have fin : ∀ c, sameF x y = c → PW Try.prog ⟨31, H⟩ .ret [(4, .bool c)] (H ++ [⟨45, 0, [.int .i64 x.t, .slice (bs x.p) x.p.length false, .int .i64 x.fr, .int .i64 x.to, .int .i64 x.nx]⟩, ⟨46, 0, [.int .i64 y.t, .slice (bs y.p) y.p.length false, .int .i64 y.fr, .int .i64 y.to, .int .i64 y.nx]⟩]) (retQ Try.prog [.tmp 4] (Fin H (.bool (sameF x y)) H)) := fun c hc => by
    rw [hc]
    exact PW.ret ⟨_, rfl, Fin.give (Kept.more H _) ((Still.bool _).frz _ _)⟩
  by_cases h1 : x.fr = y.fr
  · by_cases h2 : x.to = y.to
    · by_cases h3 : x.nx = y.nx
      · refine PW.seq ?_; refine PW.rg rfl fun K hK => ?_; simp (disch := omega) only [go_sem, ↓reduceIte, reduceCtorEq, pappend, plen]; refine VC.call (sameunit_ok x.t y.t x.p y.p false false _) rfl rfl ?_; simp (disch := omega) only [go_sem, ↓reduceIte, reduceCtorEq, pappend, plen]; refine hK _ _ ?_; clear hK K
        exact PW.keep [4] (fin _ (by simp [sameF, h1, h2, h3]))
      · refine PW.seq ?_; refine PW.rg rfl fun K hK => ?_; simp (disch := omega) only [go_sem, ↓reduceIte, reduceCtorEq, pappend, plen]; refine hK _ _ ?_; clear hK K
        exact PW.keep [4] (fin _ (by simp [sameF, h1, h2, h3]))
    · refine PW.seq ?_; refine PW.rg rfl fun K hK => ?_; simp (disch := omega) only [go_sem, ↓reduceIte, reduceCtorEq, pappend, plen]; refine hK _ _ ?_; clear hK K
      exact PW.keep [4] (fin _ (by simp [sameF, h1, h2]))
  · refine PW.seq ?_; refine PW.rg rfl fun K hK => ?_; simp (disch := omega) only [go_sem, ↓reduceIte, reduceCtorEq, pappend, plen]; refine hK _ _ ?_; clear hK K
    exact PW.keep [4] (fin _ (by simp [sameF, h1]))
theorem sameF_self (x : Fnd) : sameF x x = true := by simp [sameF]

theorem fc_len (l : List Fnd) : (fc l).length = l.length * 5 := by
  induction l with
  | nil => rfl
  | cons x l ih => rw [fc, List.flatMap_cons, List.length_append, ← fc, ih]; simp [fd]; omega
def fn (l : List Fnd) (i : Nat) : Fnd := l.getD i ⟨0, [], 0, 0, 0⟩
theorem fc_take : ∀ (l : List Fnd) (i : Nat), i < l.length → ((fc l).drop (i * 5)).take 5 = fd (fn l i)
  | x :: l, 0, _ => rfl
  | x :: l, i + 1, h => by
    have := fc_take l i (by simpa using h)
    rw [fc, List.flatMap_cons, ← fc, show (i + 1) * 5 = 5 + i * 5 by omega, ← List.drop_drop]
    exact this
theorem dc_len (l : List (Nat × Nat)) : (dc l).length = l.length * 2 := by
  induction l with
  | nil => rfl
  | cons x l ih => rw [dc, List.flatMap_cons, List.length_append, ← dc, ih]; simp [dd]; omega
def dn (l : List (Nat × Nat)) (i : Nat) : Nat × Nat := l.getD i (0, 0)
theorem dc_drop : ∀ (l : List (Nat × Nat)) (i : Nat), i < l.length → (dc l).drop (i * 2) = .int .i64 (dn l i).1 :: .int .i64 (dn l i).2 :: (dc l).drop (i * 2 + 2)
  | x :: l, 0, _ => rfl
  | x :: l, i + 1, h => by
    have := dc_drop l i (by simpa using h)
    rw [dc, List.flatMap_cons, ← dc, show (i + 1) * 2 = 2 + i * 2 by omega, show 2 + i * 2 + 2 = 2 + (i * 2 + 2) by omega, ← List.drop_drop, ← List.drop_drop]
    exact this
theorem dc_0 (l : List (Nat × Nat)) (i : Nat) (h : i < l.length) : (dc l)[i * 2]? = some (.int .i64 (dn l i).1) := by
  have := congrArg (fun l => l[0]?) (dc_drop l i h)
  simpa using this
theorem dc_1 (l : List (Nat × Nat)) (i : Nat) (h : i < l.length) : (dc l)[i * 2 + 1]? = some (.int .i64 (dn l i).2) := by
  have := congrArg (fun l => l[1]?) (dc_drop l i h)
  simpa using this
theorem splF_len (b : List UInt8) : ∀ (n i : Nat) (us : List Fnd) (ds : List (Nat × Nat)), (splF b n i us ds).1.length ≤ us.length + n ∧ (splF b n i us ds).2.length ≤ ds.length + n
  | 0, i, us, ds => by simp [splF]
  | n + 1, i, us, ds => by
    unfold splF
    split
    · split
      · have := splF_len b n (nxt b (i + 4)) (us ++ [⟨byt b (i + 3), (unR (part b (i + 4) (trm b (i + 4) (nxt b (i + 4))))).1, i, trm b (i + 4) (nxt b (i + 4)), nxt b (i + 4)⟩]) ds
        simp at this; omega
      · have := splF_len b n (nxt b (i + 4)) us (ds ++ [(i, trm b (i + 4) (nxt b (i + 4)))])
        simp at this; omega
    · simp
theorem spl_len (b : List UInt8) : (spl b).1.length ≤ b.length + 1 ∧ (spl b).2.length ≤ b.length + 2 := by
  have := splF_len b (b.length + 1) (nxt b 0) [] (if 0 < trm b 0 (nxt b 0) then [(0, nxt b 0)] else [])
  unfold spl
  refine ⟨by simpa using this.1, ?_⟩
  have h2 := this.2
  have : (if 0 < trm b 0 (nxt b 0) then [(0, nxt b 0)] else []).length ≤ 1 := by split <;> simp
  omega

theorem law_split (b : List UInt8) (full : Bool) (H : Heap) :
    CallOk Try.prog 7 [.slice (bs b) b.length full] H (.bool true) H := by
  refine CallOk.body (F0 := [(0, .slice (bs b) b.length full)]) Try.func7 rfl Try.ntmps7 Try.results7 rfl (by kernel_rfl) rfl ?_
  refine PW.seq ?_; refine PW.rg rfl fun K hK => ?_; simp (disch := omega) only [go_sem, ↓reduceIte, reduceCtorEq, pappend, plen]; refine hK _ _ ?_; clear hK K
  refine PW.seq (PW.seq ?_); refine PW.rg rfl fun K hK => ?_; simp (disch := omega) only [go_sem, ↓reduceIte, reduceCtorEq, pappend, plen, length_bs]; refine hK _ _ ?_; clear hK K
  refine PW.cond (t := _) rfl (fun h => ?_) (fun h => ?_)
  · refine PW.seq ?_; refine PW.rg rfl fun K hK => ?_; simp (disch := omega) only [go_sem, ↓reduceIte, reduceCtorEq, pappend, plen]; refine hK _ _ ?_; clear hK K
    exact PW.ret ⟨_, rfl, Fin.give (Kept.refl H) ((Still.bool _).frz _ _)⟩
  have hl : b.length ≤ 2000 := by have := of_decide_eq_false h; omega
  refine PW.skip (PW.seq ?_); refine PW.rg rfl fun K hK => ?_; simp (disch := omega) only [go_sem, ↓reduceIte, reduceCtorEq, pappend, plen]; refine VC.call (split_ok b full _ (by omega)) rfl rfl ?_; simp (disch := omega) only [go_sem, ↓reduceIte, reduceCtorEq, pappend, plen]; refine hK _ _ ?_; clear hK K
  refine PW.seq ?_; refine PW.rg rfl fun K hK => ?_; simp (disch := omega) only [go_sem, ↓reduceIte, reduceCtorEq, pappend, plen]; refine VC.call (split_ref b full _ (by omega)) rfl rfl ?_; simp (disch := omega) only [go_sem, ↓reduceIte, reduceCtorEq, pappend, plen]; refine hK _ _ ?_; clear hK K
  obtain ⟨hs1, hs2⟩ := spl_len b
  generalize (spl b).1 = us at *
  generalize (spl b).2 = ds at *
  refine PW.seq (PW.seq (PW.rg1 [0, 3, 4, 5, 6, 33] [(0, .slice (bs b) b.length full), (3, .slice (fc us) us.length false), (4, .slice (dc ds) ds.length false), (5, .slice (fc us) us.length false), (6, .slice (dc ds) ds.length false), (33, .bool false)] H rfl ?_ ?_))
  · simp (disch := omega) only [go_sem, ↓reduceIte, reduceCtorEq, pappend, plen]
    try simp
  refine PW.cond (t := _) rfl (fun h => by cases h) (fun _ => ?_)
  refine PW.skip (PW.seq (PW.seq ?_)); refine PW.rg rfl fun K hK => ?_; simp (disch := omega) only [go_sem, ↓reduceIte, reduceCtorEq, pappend, plen]; refine hK _ _ ?_; clear hK K
  refine PW.block (PW.loop ?_)
  suffices hloop : ∀ (k : Nat), k ≤ us.length → PL Try.prog _ _ [(0, .slice (bs b) b.length full), (3, .slice (fc us) us.length false), (4, .slice (dc ds) ds.length false), (5, .slice (fc us) us.length false), (6, .slice (dc ds) ds.length false), (7, .int .i64 (k : Int))] H _ by
    exact PL.keep [0, 3, 4, 5, 6, 7] (hloop 0 (Nat.zero_le _))
  intro k hk
  induction hm : us.length - k using Nat.strongRecOn generalizing k with
  | _ n ih =>
    refine PL.round (PW.seq (PW.seq ?_)); refine PW.rg rfl fun K hK => ?_; simp (disch := omega) only [go_sem, ↓reduceIte, reduceCtorEq, pappend, plen]; refine hK _ _ ?_; clear hK K
    refine PW.cond (t := _) rfl (fun h => ?_) (fun h => ?_)
    · have h4 : k < us.length := by have := of_decide_eq_true h; omega
      have hsame := same2_ok (fn us k) (fn us k) H
      rw [sameF_self] at hsame
      refine PW.skip (PW.seq (PW.block (PW.seq ?_))); refine PW.draw mix (by kernel_rfl) fun K hK => ?_; simp (disch := omega) only [go_sem, ↓reduceIte, reduceCtorEq, pappend, plen, fc_len, fc_take]; refine VCd.call (hsame) rfl rfl ?_; simp (disch := omega) only [go_sem, ↓reduceIte, reduceCtorEq, pappend, plen]; refine hK _ _ ?_; clear hK K
      refine PW.cond (t := _) rfl (fun h => by cases h) (fun _ => ?_)
      refine PW.skip ?_; refine PW.rg rfl fun K hK => ?_; simp (disch := omega) only [go_sem, ↓reduceIte, reduceCtorEq, pappend, plen]; refine hK _ _ ?_; clear hK K
      refine PL.keep [0, 3, 4, 5, 6, 7] ?_
      exact ih (us.length - (k + 1)) (by omega) (k + 1) (by omega) rfl
    · refine PW.exit ?_
      clear ih
      refine PW.seq (PW.seq ?_); refine PW.rg rfl fun K hK => ?_; simp (disch := omega) only [go_sem, ↓reduceIte, reduceCtorEq, pappend, plen]; refine hK _ _ ?_; clear hK K
      refine PW.block (PW.loop ?_)
      suffices hloop : ∀ (k : Nat), k ≤ ds.length → PL Try.prog _ _ [(4, .slice (dc ds) ds.length false), (6, .slice (dc ds) ds.length false), (8, .int .i64 (k : Int))] H _ by
        exact PL.keep [4, 6, 8] (hloop 0 (Nat.zero_le _))
      clear hm hk h
      clear k
      intro k hk
      induction hm : ds.length - k using Nat.strongRecOn generalizing k with
      | _ n ih =>
        refine PL.round (PW.seq (PW.seq ?_)); refine PW.rg rfl fun K hK => ?_; simp (disch := omega) only [go_sem, ↓reduceIte, reduceCtorEq, pappend, plen]; refine hK _ _ ?_; clear hK K
        refine PW.cond (t := _) rfl (fun h => ?_) (fun h => ?_)
        · have h4 : k < ds.length := by have := of_decide_eq_true h; omega
          refine PW.skip (PW.seq (PW.block (PW.seq (PW.draw1 [4, 6, 8, 79] [(4, .slice (dc ds) ds.length false), (6, .slice (dc ds) ds.length false), (8, .int .i64 (k : Int)), (79, .bool false)] H mix (by kernel_rfl) ?_ ?_))))
          · simp (disch := omega) only [go_sem, ↓reduceIte, reduceCtorEq, pappend, plen, dc_len, dc_0, dc_1]
            try simp
          refine PW.cond (t := _) rfl (fun h => by cases h) (fun _ => ?_)
          refine PW.skip ?_; refine PW.rg rfl fun K hK => ?_; simp (disch := omega) only [go_sem, ↓reduceIte, reduceCtorEq, pappend, plen]; refine hK _ _ ?_; clear hK K
          refine PL.keep [4, 6, 8] ?_
          exact ih (ds.length - (k + 1)) (by omega) (k + 1) (by omega) rfl
        · refine PW.exit (PW.seq ?_); refine PW.rg rfl fun K hK => ?_; simp (disch := omega) only [go_sem, ↓reduceIte, reduceCtorEq, pappend, plen]; refine VC.call (awake_ok _) rfl rfl ?_; simp (disch := omega) only [go_sem, ↓reduceIte, reduceCtorEq, pappend, plen]; refine hK _ _ ?_; clear hK K
          exact PW.ret ⟨_, rfl, Fin.give (Kept.refl H) ((Still.bool _).frz _ _)⟩

end Go.Proofs.Ytdeehmdkpdgpfaa.Sc
