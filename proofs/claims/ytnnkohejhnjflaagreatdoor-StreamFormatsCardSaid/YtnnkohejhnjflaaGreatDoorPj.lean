/-
  Equal bytes, equal units; the plain law of picture headers: what PutHeader writes TakeHeader reads.
-/
import Derived.Test.YtnnkohejhnjflaaGreatDoorPf
import Derived.Test.YtnnkohejhnjflaaGreatDoorBz
namespace Go.Proofs.YtnnkohejhnjflaaGreatDoor.Sc
set_option linter.all false
set_option linter.unusedVariables false
set_option linter.unusedSimpArgs false
open Pm Ty Go.RowKit

theorem same_ok (p q : List UInt8) (f g : Bool) (H : Heap) : CallOk Tryz.prog 27 [.slice (bs p) p.length f, .slice (bs q) q.length g] H (.bool (p == q)) H := by
  refine CallOk.body (F0 := [(0, .slice (bs p) p.length f), (1, .slice (bs q) q.length g)]) Tryz.func27 rfl Tryz.ntmps27 Tryz.results27 rfl (by kernel_rfl) rfl ?_
  (repeat refine PW.seq ?_); refine PW.rg rfl fun K hK => ?_; simp (maxSteps := 3000000) (disch := omega) only [go_sem, ↓reduceIte, reduceCtorEq, pappend, plen]; refine hK _ _ ?_; clear hK K
  (repeat refine PW.seq ?_); refine PW.rg rfl fun K hK => ?_; simp (maxSteps := 3000000) (disch := omega) only [go_sem, ↓reduceIte, reduceCtorEq, pappend, plen, length_bs, pbytes_bs]; refine hK _ _ ?_; clear hK K
  exact PW.ret ⟨_, rfl, .inl ⟨rfl, rfl⟩⟩
theorem sameunit_ok (t u : Int) (p q : List UInt8) (f g : Bool) (H : Heap) : CallOk Tryz.prog 10 [.agg [.int .i64 t, .slice (bs p) p.length f], .agg [.int .i64 u, .slice (bs q) q.length g]] H (.bool (t == u && p == q)) H := by
  refine CallOk.body (F0 := [(0, .agg [.int .i64 t, .slice (bs p) p.length f]), (1, .agg [.int .i64 u, .slice (bs q) q.length g])]) Tryz.func10 rfl Tryz.ntmps10 Tryz.results10 rfl (by kernel_rfl) rfl ?_
  (repeat refine PW.seq ?_); refine PW.rg rfl fun K hK => ?_; simp (maxSteps := 3000000) (disch := omega) only [go_sem, ↓reduceIte, reduceCtorEq, pappend, plen]; refine hK _ _ ?_; clear hK K
  by_cases h : t = u
  · (repeat refine PW.seq ?_); refine PW.rg rfl fun K hK => ?_; simp (maxSteps := 3000000) (disch := omega) only [go_sem, ↓reduceIte, reduceCtorEq, pappend, plen]; refine VCx.call (same_ok p q f g _) rfl ?_; simp (maxSteps := 3000000) (disch := omega) only [go_sem, ↓reduceIte, reduceCtorEq, pappend, plen]; refine hK _ _ ?_; clear hK K
    refine PW.ret ⟨_, rfl, Fin.base (.id' ?_ (.bool _))⟩
    simp [h, slot, Nat.beq]
  · (repeat refine PW.seq ?_); refine PW.rg rfl fun K hK => ?_; simp (maxSteps := 3000000) (disch := omega) only [go_sem, ↓reduceIte, reduceCtorEq, pappend, plen]; refine hK _ _ ?_; clear hK K
    refine PW.ret ⟨_, rfl, Fin.base (.id' ?_ (.bool _))⟩
    simp [h, slot, Nat.beq]

theorem take_put (p : Pi) (h : codd p = true) : takeH 181 (pk (hbits p ++ [true])) = (p, 0) := by
  obtain ⟨g1, g2, g3, g4, g5, g6⟩ := codd_rng h
  obtain ⟨ty, st, od, tf, rp, al⟩ := p
  simp only at g1 g2 g3 g4 g5 g6
  obtain ⟨o, rfl⟩ : ∃ o : Nat, od = o := ⟨od.toNat, by omega⟩
  obtain ⟨t, rfl⟩ : ∃ o : Nat, ty = o := ⟨ty.toNat, by omega⟩
  obtain ⟨s, rfl⟩ : ∃ o : Nat, st = o := ⟨st.toNat, by omega⟩
  have hbb : hbits ⟨t, s, o, tf, rp, al⟩ ++ [true] = vbits o 10 ++ (vbits t 2 ++ (vbits s 2 ++ [tf, rp, al, true])) := by simp [hbits]
  have vo := vbits_len o 10
  have vt := vbits_len t 2
  have vs := vbits_len s 2
  rw [hbb]
  generalize hL : vbits o 10 ++ (vbits t 2 ++ (vbits s 2 ++ [tf, rp, al, true])) = L
  have hLl : L.length = 18 := by rw [← hL]; simp [vo, vt, vs]
  have hql : (pk L).length = 3 := by rw [pk_len, hLl]
  have hu : ∀ k, k < 24 → ubit (pk L) k = bn L k := fun k hk => ubit_pk L k (by rw [hLl]; omega)
  have b1 : ∀ i, i < 10 → bn L i = o / 2 ^ (10 - 1 - i) % 2 := fun i hi => by rw [← hL, bn_left _ _ _ (by omega), bn_vbits o 10 i hi]
  have b2 : ∀ i, i < 2 → bn L (10 + i) = t / 2 ^ (2 - 1 - i) % 2 := fun i hi => by
    rw [← hL, bn_right _ _ _ (by omega), vo, bn_left _ _ _ (by omega), show 10 + i - 10 = i by omega, bn_vbits t 2 i hi]
  have b3 : ∀ i, i < 2 → bn L (12 + i) = s / 2 ^ (2 - 1 - i) % 2 := fun i hi => by
    rw [← hL, bn_right _ _ _ (by omega), vo, bn_right _ _ _ (by omega), vt, bn_left _ _ _ (by omega), show 12 + i - 10 - 2 = i by omega, bn_vbits s 2 i hi]
  have b4 : ∀ i, bn L (14 + i) = bn [tf, rp, al, true] i := fun i => by
    rw [← hL, bn_right _ _ _ (by omega), vo, bn_right _ _ _ (by omega), vt, bn_right _ _ _ (by omega), vs, show 14 + i - 10 - 2 - 2 = i by omega]
  have f1 : vl (pk L) 0 10 = o := vl_all _ _ _ _ (by omega) fun i hi => by rw [Nat.zero_add, hu i (by omega), b1 i hi]
  have f2 : vl (pk L) 10 2 = t := vl_all _ _ _ _ (by omega) fun i hi => by rw [hu _ (by omega), b2 i hi]
  have f3 : vl (pk L) 12 2 = s := vl_all _ _ _ _ (by omega) fun i hi => by rw [hu _ (by omega), b3 i hi]
  have one : ∀ a, vl (pk L) a 1 = ubit (pk L) a := fun a => by simp [vl]
  have f4 : ((vl (pk L) 14 1 : Int) == 1) = tf := by rw [one, hu 14 (by omega), b4 0]; cases tf <;> rfl
  have f5 : ((vl (pk L) 15 1 : Int) == 1) = rp := by rw [one, hu 15 (by omega), b4 1]; cases rp <;> rfl
  have f6 : ((vl (pk L) 16 1 : Int) == 1) = al := by rw [one, hu 16 (by omega), b4 2]; cases al <;> rfl
  have hh : hdr (pk L) = ⟨t, s, o, tf, rp, al⟩ := by rw [hdr, f1, f2, f3, f4, f5, f6]
  have hlast : lastB (pk L) = pkN L 2 := by
    have := pk_byt L 2 (by omega)
    simp only [byt] at this
    rw [lastB, hql, show 3 - 1 = 2 from rfl]
    omega
  have hpn : pkN L 2 = 128 * al.toNat + 64 := by
    have c0 := b4 2
    have c1 := b4 3
    unfold pkN
    rw [show 8 * 2 = 14 + 2 from rfl, c0, show 14 + 2 + 1 = 14 + 3 from rfl, c1, bn_out L (14 + 2 + 2) (by omega), bn_out L (14 + 2 + 3) (by omega), bn_out L (14 + 2 + 4) (by omega), bn_out L (14 + 2 + 5) (by omega), bn_out L (14 + 2 + 6) (by omega), bn_out L (14 + 2 + 7) (by omega)]
    cases al <;> rfl
  have hnb : nb (pk L) = 17 := by
    rw [nb, hlast, hpn, hql]; cases al <;> rfl
  rw [takeH, hh, h, if_pos ⟨rfl, by omega, by rw [hlast, hpn]; omega, hnb⟩]
  rfl

end Go.Proofs.YtnnkohejhnjflaaGreatDoor.Sc
