/-
  The plain law of headers: what PutHeader writes TakeHeader reads.
-/
import Derived.Test.YtnjnikafhbholaaPf
import Derived.Test.YtnjnikafhbholaaPc
namespace Go.Proofs.Ytnjnikafhbholaa.Sc
set_option linter.all false
set_option linter.unusedVariables false
set_option linter.unusedSimpArgs false
open Pm Ty Go.RowKit

theorem same_ok (p q : List UInt8) (f g : Bool) (H : Heap) : CallOk Try.prog 62 [.slice (bs p) p.length f, .slice (bs q) q.length g] H (.bool (p == q)) H := by
  refine CallOk.body (F0 := [(0, .slice (bs p) p.length f), (1, .slice (bs q) q.length g)]) Try.func62 rfl Try.ntmps62 Try.results62 rfl (by kernel_rfl) rfl ?_
  (repeat refine PW.seq ?_); refine PW.rg rfl fun K hK => ?_; simp (disch := omega) only [go_sem, ↓reduceIte, reduceCtorEq, pappend, plen]; refine hK _ _ ?_; clear hK K
  (repeat refine PW.seq ?_); refine PW.rg rfl fun K hK => ?_; simp (disch := omega) only [go_sem, ↓reduceIte, reduceCtorEq, pappend, plen, length_bs, pbytes_bs]; refine hK _ _ ?_; clear hK K
  exact PW.ret ⟨_, rfl, .inl ⟨rfl, rfl⟩⟩
theorem sameunit_ok (t u : Int) (p q : List UInt8) (f g : Bool) (H : Heap) : CallOk Try.prog 17 [.agg [.int .i64 t, .slice (bs p) p.length f], .agg [.int .i64 u, .slice (bs q) q.length g]] H (.bool (t == u && p == q)) H := by
  refine CallOk.body (F0 := [(0, .agg [.int .i64 t, .slice (bs p) p.length f]), (1, .agg [.int .i64 u, .slice (bs q) q.length g])]) Try.func17 rfl Try.ntmps17 Try.results17 rfl (by kernel_rfl) rfl ?_
  (repeat refine PW.seq ?_); refine PW.rg rfl fun K hK => ?_; simp (disch := omega) only [go_sem, ↓reduceIte, reduceCtorEq, pappend, plen]; refine hK _ _ ?_; clear hK K
  by_cases h : t = u
  · (repeat refine PW.seq ?_); refine PW.rg rfl fun K hK => ?_; simp (disch := omega) only [go_sem, ↓reduceIte, reduceCtorEq, pappend, plen]; refine VCx.call (same_ok p q f g _) rfl ?_; simp (disch := omega) only [go_sem, ↓reduceIte, reduceCtorEq, pappend, plen]; refine hK _ _ ?_; clear hK K
    refine PW.ret ⟨_, rfl, Fin.base (.id' ?_ (.bool _))⟩
    simp [h, slot, Nat.beq]
  · (repeat refine PW.seq ?_); refine PW.rg rfl fun K hK => ?_; simp (disch := omega) only [go_sem, ↓reduceIte, reduceCtorEq, pappend, plen]; refine hK _ _ ?_; clear hK K
    refine PW.ret ⟨_, rfl, Fin.base (.id' ?_ (.bool _))⟩
    simp [h, slot, Nat.beq]

theorem ubit_pk (l : List Bool) (k : Nat) (h : k / 8 < (l.length + 7) / 8) : ubit (pk l) k = bn l k := by
  have h1 : ((pk l).getD (k / 8) 0).toNat = pkN l (k / 8) := by
    have := pk_byt l (k / 8) h
    simp only [byt] at this
    omega
  unfold ubit
  rw [h1]
  obtain ⟨i, r, rfl, hr⟩ : ∃ i r, k = 8 * i + r ∧ r < 8 := ⟨k / 8, k % 8, by omega, by omega⟩
  rw [show (8 * i + r) / 8 = i by omega, show (8 * i + r) % 8 = r by omega]
  unfold pkN
  have b0 := bn_lt l (8 * i)
  have b1 := bn_lt l (8 * i + 1)
  have b2 := bn_lt l (8 * i + 2)
  have b3 := bn_lt l (8 * i + 3)
  have b4 := bn_lt l (8 * i + 4)
  have b5 := bn_lt l (8 * i + 5)
  have b6 := bn_lt l (8 * i + 6)
  have b7 := bn_lt l (8 * i + 7)
  have h3 : r = 0 ∨ r = 1 ∨ r = 2 ∨ r = 3 ∨ r = 4 ∨ r = 5 ∨ r = 6 ∨ r = 7 := by omega
  rcases h3 with rfl | rfl | rfl | rfl | rfl | rfl | rfl | rfl
  all_goals (simp only [Nat.reduceSub, Nat.reducePow, Nat.add_zero]; omega)
theorem vl_bits (q : List UInt8) (a n V : Nat) (h : ∀ i < n, ubit q (a + i) = V / 2 ^ (n - 1 - i) % 2) : ∀ k ≤ n, vl q a k = V / 2 ^ (n - k) % 2 ^ k
  | 0, _ => by simp [vl, Nat.mod_one]
  | k + 1, hk => by
    rw [vl, vl_bits q a n V h k (by omega), h k (by omega), show n - k = (n - 1 - k) + 1 by omega, show n - (k + 1) = n - 1 - k by omega, Nat.pow_succ 2 (n - 1 - k), ← Nat.div_div_eq_div_mul, Nat.pow_succ 2 k, Nat.mul_comm (2 ^ k) 2, Nat.mod_mul]
    omega
theorem vl_all (q : List UInt8) (a n V : Nat) (hV : V < 2 ^ n) (h : ∀ i < n, ubit q (a + i) = V / 2 ^ (n - 1 - i) % 2) : vl q a n = V := by
  rw [vl_bits q a n V h n (Nat.le_refl _), Nat.sub_self, Nat.pow_zero, Nat.div_one, Nat.mod_eq_of_lt hV]

theorem bn_left (l m : List Bool) (k : Nat) (h : k < l.length) : bn (l ++ m) k = bn l k := by unfold bn; rw [List.getElem?_append_left h]
theorem bn_right (l m : List Bool) (k : Nat) (h : l.length ≤ k) : bn (l ++ m) k = bn m (k - l.length) := by unfold bn; rw [List.getElem?_append_right h]
theorem bn_vbits (V n i : Nat) (h : i < n) : bn (vbits V n) i = V / 2 ^ (n - 1 - i) % 2 := by
  unfold bn vbits
  rw [List.getElem?_map, List.getElem?_range h, Option.map_some, Option.getD_some, bit_toNat]
theorem take_put (p : Pi) (h : codd p = true) : takeH 181 (pk (hbits p ++ [true])) = (p, 0) := by
  obtain ⟨g1, g2, g3, g4, g5, g6⟩ := codd_rng h
  obtain ⟨ty, st, od, tf, rp, al⟩ := p
  simp only at g1 g2 g3 g4 g5 g6
  obtain ⟨o, rfl⟩ : ∃ o : Nat, od = o := ⟨od.toNat, by omega⟩
  obtain ⟨t, rfl⟩ : ∃ o : Nat, ty = o := ⟨ty.toNat, by omega⟩
  obtain ⟨s, rfl⟩ : ∃ o : Nat, st = o := ⟨st.toNat, by omega⟩
  have hbb : hbits ⟨t, s, o, tf, rp, al⟩ ++ [true] = vbits o 10 ++ (vbits t 2 ++ (vbits s 2 ++ [tf, rp, al, true])) := by simp [hbits]
  have vo := vbits_len o 10
  have vt := vbits_len t 2
  have vs := vbits_len s 2
  rw [hbb]
  generalize hL : vbits o 10 ++ (vbits t 2 ++ (vbits s 2 ++ [tf, rp, al, true])) = L
  have hLl : L.length = 18 := by rw [← hL]; simp [vo, vt, vs]
  have hql : (pk L).length = 3 := by rw [pk_len, hLl]
  have hu : ∀ k, k < 24 → ubit (pk L) k = bn L k := fun k hk => ubit_pk L k (by rw [hLl]; omega)
  have b1 : ∀ i, i < 10 → bn L i = o / 2 ^ (10 - 1 - i) % 2 := fun i hi => by rw [← hL, bn_left _ _ _ (by omega), bn_vbits o 10 i hi]
  have b2 : ∀ i, i < 2 → bn L (10 + i) = t / 2 ^ (2 - 1 - i) % 2 := fun i hi => by
    rw [← hL, bn_right _ _ _ (by omega), vo, bn_left _ _ _ (by omega), show 10 + i - 10 = i by omega, bn_vbits t 2 i hi]
  have b3 : ∀ i, i < 2 → bn L (12 + i) = s / 2 ^ (2 - 1 - i) % 2 := fun i hi => by
    rw [← hL, bn_right _ _ _ (by omega), vo, bn_right _ _ _ (by omega), vt, bn_left _ _ _ (by omega), show 12 + i - 10 - 2 = i by omega, bn_vbits s 2 i hi]
  have b4 : ∀ i, bn L (14 + i) = bn [tf, rp, al, true] i := fun i => by
    rw [← hL, bn_right _ _ _ (by omega), vo, bn_right _ _ _ (by omega), vt, bn_right _ _ _ (by omega), vs, show 14 + i - 10 - 2 - 2 = i by omega]
  have f1 : vl (pk L) 0 10 = o := vl_all _ _ _ _ (by omega) fun i hi => by rw [Nat.zero_add, hu i (by omega), b1 i hi]
  have f2 : vl (pk L) 10 2 = t := vl_all _ _ _ _ (by omega) fun i hi => by rw [hu _ (by omega), b2 i hi]
  have f3 : vl (pk L) 12 2 = s := vl_all _ _ _ _ (by omega) fun i hi => by rw [hu _ (by omega), b3 i hi]
  have one : ∀ a, vl (pk L) a 1 = ubit (pk L) a := fun a => by simp [vl]
  have f4 : ((vl (pk L) 14 1 : Int) == 1) = tf := by rw [one, hu 14 (by omega), b4 0]; cases tf <;> rfl
  have f5 : ((vl (pk L) 15 1 : Int) == 1) = rp := by rw [one, hu 15 (by omega), b4 1]; cases rp <;> rfl
  have f6 : ((vl (pk L) 16 1 : Int) == 1) = al := by rw [one, hu 16 (by omega), b4 2]; cases al <;> rfl
  have hh : hdr (pk L) = ⟨t, s, o, tf, rp, al⟩ := by rw [hdr, f1, f2, f3, f4, f5, f6]
  have hlast : lastB (pk L) = pkN L 2 := by
    have := pk_byt L 2 (by omega)
    simp only [byt] at this
    rw [lastB, hql, show 3 - 1 = 2 from rfl]
    omega
  have hpn : pkN L 2 = 128 * al.toNat + 64 := by
    have c0 := b4 2
    have c1 := b4 3
    unfold pkN
    rw [show 8 * 2 = 14 + 2 from rfl, c0, show 14 + 2 + 1 = 14 + 3 from rfl, c1, bn_out L (14 + 2 + 2) (by omega), bn_out L (14 + 2 + 3) (by omega), bn_out L (14 + 2 + 4) (by omega), bn_out L (14 + 2 + 5) (by omega), bn_out L (14 + 2 + 6) (by omega), bn_out L (14 + 2 + 7) (by omega)]
    cases al <;> rfl
  have hnb : nb (pk L) = 17 := by
    rw [nb, hlast, hpn, hql]; cases al <;> rfl
  rw [takeH, hh, h, if_pos ⟨rfl, by omega, by rw [hlast, hpn]; omega, hnb⟩]
  rfl

set_option maxHeartbeats 1600000 in
set_option maxRecDepth 10000 in
theorem law_headers (p : Pi) (t : Int) (q : List UInt8) (f : Bool) (H : Heap) : CallOk Try.prog 3 [.agg (pic p), .agg [.int .i64 t, .slice (bs q) q.length f]] H (.bool true) H := by
  refine CallOk.body (F0 := [(0, .agg (pic p)), (1, .agg [.int .i64 t, .slice (bs q) q.length f])]) Try.func3 rfl Try.ntmps3 Try.results3 rfl (by kernel_rfl) rfl ?_
  have d1 : decide ("Type" = "_") = false := by decide
  have d2 : decide ("Structure" = "_") = false := by decide
  have d3 : decide ("Order" = "_") = false := by decide
  have d4 : decide ("TopFirst" = "_") = false := by decide
  have d5 : decide ("Repeat" = "_") = false := by decide
  have d6 : decide ("Alternate" = "_") = false := by decide
  obtain ⟨a, b, e, hr⟩ : ∃ a b e, putH p = (a, b, e) := ⟨_, _, _, rfl⟩
  have p1 := fun H => putH_ok p H
  have p2 := fun H => putH_ref p H
  have tp := take_put p
  simp only [hr, uv] at p1 p2
  have hbl : b.length ≤ 1000000 := by
    have := congrArg (fun x => x.2.1.length) hr
    simp only at this
    rw [← this, putH]
    split
    · rw [pk_len]; simp [hbits, vbits_len]
    · simp
  have t1 := fun H => takeH_ok a b false hbl H
  obtain ⟨ty, st, od, tf, rp, al⟩ := p
  simp only [pic] at p1 p2 tp ⊢
  (repeat refine PW.seq ?_); refine PW.rg rfl fun K hK => ?_; simp (disch := omega) only [go_sem, ↓reduceIte, reduceCtorEq, pappend, plen]; refine hK _ _ ?_; clear hK K
  (repeat refine PW.seq ?_); refine PW.rg rfl fun K hK => ?_; simp (disch := omega) only [go_sem, ↓reduceIte, reduceCtorEq, pappend, plen]; refine hK _ _ ?_; clear hK K
  (repeat refine PW.seq ?_); refine PW.cond (t := _) rfl (fun h => ?_) (fun h => ?_)
  · (repeat refine PW.seq ?_); refine PW.rg rfl fun K hK => ?_; simp (disch := omega) only [go_sem, ↓reduceIte, reduceCtorEq, pappend, plen]; refine hK _ _ ?_; clear hK K
    exact PW.ret ⟨_, rfl, Fin.base (.id (.bool _))⟩
  have h200 : q.length ≤ 1000000 := by have := of_decide_eq_false h; omega
  refine PW.skip ?_
  (repeat refine PW.seq ?_); refine PW.rg rfl fun K hK => ?_; simp (disch := omega) only [go_sem, ↓reduceIte, reduceCtorEq, pappend, plen]; refine VCx.call (p1 _) rfl ?_; simp (disch := omega) only [go_sem, ↓reduceIte, reduceCtorEq, pappend, plen]; refine hK _ _ ?_; clear hK K
  (repeat refine PW.seq ?_); refine PW.rg rfl fun K hK => ?_; simp (disch := omega) only [go_sem, ↓reduceIte, reduceCtorEq, pappend, plen]; refine VCx.call (p2 _) rfl ?_; simp (disch := omega) only [go_sem, ↓reduceIte, reduceCtorEq, pappend, plen]; refine hK _ _ ?_; clear hK K
  have hsu := fun H => sameunit_ok a a b b false false H
  simp only [beq_self_eq_true, Bool.and_self] at hsu
  (repeat refine PW.seq ?_); refine PW.rg rfl fun K hK => ?_; simp (disch := omega) only [go_sem, ↓reduceIte, reduceCtorEq, pappend, plen]; refine VCx.call (hsu _) rfl ?_; simp (disch := omega) only [go_sem, ↓reduceIte, reduceCtorEq, pappend, plen]; refine hK _ _ ?_; clear hK K
  (repeat refine PW.seq ?_); refine PW.cond (t := _) rfl (fun h => ?_) (fun h => ?_)
  · cases h
  refine PW.skip ?_
  generalize hT : takeH t q = T
  have t2 := fun H => takeH_ok t q f h200 H
  have t3 := fun H => takeH_ref t q f h200 H
  obtain ⟨⟨x1, x2, x3, x4, x5, x6⟩, x7⟩ := T
  simp only [hT, pic] at t2 t3
  (repeat refine PW.seq ?_); refine PW.rg rfl fun K hK => ?_; simp (disch := omega) only [go_sem, ↓reduceIte, reduceCtorEq, pappend, plen]; refine hK _ _ ?_; clear hK K
  (repeat refine PW.seq ?_); refine PW.cond (t := _) rfl (fun h => ?_) (fun h => ?_)
  · have he : e = 0 := by simpa using h
    have hcd : codd ⟨ty, st, od, tf, rp, al⟩ = true := by
      cases hc : codd ⟨ty, st, od, tf, rp, al⟩ with
      | true => rfl
      | false => rw [putH, hc] at hr; simp at hr; omega
    have hab : takeH a b = (⟨ty, st, od, tf, rp, al⟩, 0) := by
      rw [putH, hcd] at hr
      simp only [if_true, Prod.mk.injEq] at hr
      rw [← hr.1, ← hr.2.1]
      exact tp hcd
    simp only [hab, pic] at t1
    (repeat refine PW.seq ?_); refine PW.rg rfl fun K hK => ?_; simp (disch := omega) only [go_sem, ↓reduceIte, reduceCtorEq, pappend, plen]; refine VCx.call (t1 _) rfl ?_; simp (disch := omega) only [go_sem, ↓reduceIte, reduceCtorEq, pappend, plen]; refine hK _ _ ?_; clear hK K
    (repeat refine PW.seq ?_); refine PW.rg rfl fun K hK => ?_; simp (disch := omega) only [go_sem, ↓reduceIte, reduceCtorEq, pappend, plen, Try.eqGuardType23, Try.stoodInHeld23, d1, d2, d3, d4, d5, d6]; refine hK _ _ ?_; clear hK K
    (repeat refine PW.seq ?_); refine PW.cond (t := _) rfl (fun h => ?_) (fun h => ?_)
    · cases h
    refine PW.skip ?_
    (repeat refine PW.seq ?_); refine PW.rg rfl fun K hK => ?_; simp (disch := omega) only [go_sem, ↓reduceIte, reduceCtorEq, pappend, plen]; refine VCx.call (t2 _) rfl ?_; simp (disch := omega) only [go_sem, ↓reduceIte, reduceCtorEq, pappend, plen]; refine hK _ _ ?_; clear hK K
    (repeat refine PW.seq ?_); refine PW.rg rfl fun K hK => ?_; simp (disch := omega) only [go_sem, ↓reduceIte, reduceCtorEq, pappend, plen]; refine VCx.call (t3 _) rfl ?_; simp (disch := omega) only [go_sem, ↓reduceIte, reduceCtorEq, pappend, plen]; refine hK _ _ ?_; clear hK K
    (repeat refine PW.seq ?_); refine PW.rg rfl fun K hK => ?_; simp (disch := omega) only [go_sem, ↓reduceIte, reduceCtorEq, pappend, plen, Try.eqGuardType23, Try.stoodInHeld23, d1, d2, d3, d4, d5, d6]; refine VCx.call (awake11 _) rfl ?_; simp (disch := omega) only [go_sem, ↓reduceIte, reduceCtorEq, pappend, plen, Try.eqGuardType23, Try.stoodInHeld23, d1, d2, d3, d4, d5, d6]; refine hK _ _ ?_; clear hK K
    exact PW.ret ⟨_, rfl, Fin.base (.id' (by simp [slot, Nat.beq]) (.bool _))⟩
  refine PW.skip ?_
  (repeat refine PW.seq ?_); refine PW.rg rfl fun K hK => ?_; simp (disch := omega) only [go_sem, ↓reduceIte, reduceCtorEq, pappend, plen]; refine VCx.call (t2 _) rfl ?_; simp (disch := omega) only [go_sem, ↓reduceIte, reduceCtorEq, pappend, plen]; refine hK _ _ ?_; clear hK K
  (repeat refine PW.seq ?_); refine PW.rg rfl fun K hK => ?_; simp (disch := omega) only [go_sem, ↓reduceIte, reduceCtorEq, pappend, plen]; refine VCx.call (t3 _) rfl ?_; simp (disch := omega) only [go_sem, ↓reduceIte, reduceCtorEq, pappend, plen]; refine hK _ _ ?_; clear hK K
  (repeat refine PW.seq ?_); refine PW.rg rfl fun K hK => ?_; simp (disch := omega) only [go_sem, ↓reduceIte, reduceCtorEq, pappend, plen, Try.eqGuardType23, Try.stoodInHeld23, d1, d2, d3, d4, d5, d6]; refine VCx.call (awake11 _) rfl ?_; simp (disch := omega) only [go_sem, ↓reduceIte, reduceCtorEq, pappend, plen, Try.eqGuardType23, Try.stoodInHeld23, d1, d2, d3, d4, d5, d6]; refine hK _ _ ?_; clear hK K
  exact PW.ret ⟨_, rfl, Fin.base (.id' (by simp [slot, Nat.beq]) (.bool _))⟩

end Go.Proofs.Ytnjnikafhbholaa.Sc
