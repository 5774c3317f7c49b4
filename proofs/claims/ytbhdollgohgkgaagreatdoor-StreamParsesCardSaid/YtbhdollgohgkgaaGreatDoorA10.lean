/-
  Parts of the proof. No condition.
-/
import Derived.Test.YtbhdollgohgkgaaGreatDoorA08
import Derived.Test.YtbhdollgohgkgaaGreatDoorA09
namespace Go.Proofs.YtbhdollgohgkgaaGreatDoor.Sc
set_option linter.all false
set_option linter.unusedVariables false
set_option linter.unusedSimpArgs false
open Pm Ty Go.RowKit

theorem _root_.Go.Proofs.YtbhdollgohgkgaaGreatDoor.Pm.CallOk.fin {P : Program} {f : FuncId} {args : List PV} {v v' : PV} {H H1 Hout : Heap} (h : CallOk P f args H v' H1) (hf : HSc H → H.length ≤ Hout.length ∧ CutH H1 Hout ∧ Fz Hout.length H1 v' v) : CallOk P f args H v Hout :=
  ⟨h.1, fun C us w hw hargs => (h.2 C us w hw hargs).mono fun e w' ⟨C', u, q1, q2, q3, q4, q5⟩ => by
    obtain ⟨hlen, hcut, hfz⟩ := hf hw.hsc
    obtain ⟨g1, g2⟩ := q2.cutN hcut
    exact ⟨_, u, ((q1.toN _).trans (g1.less hlen)).full hw.lenv, g2, q3, q4, hfz.sound q2 q5⟩⟩
theorem _root_.Go.Proofs.YtbhdollgohgkgaaGreatDoor.Pm.CallOk.base {P : Program} {f : FuncId} {args : List PV} {v v' : PV} {H K : Heap} (h : CallOk P f args H v' (H ++ K)) (hf : Fz H.length (H ++ K) v' v) : CallOk P f args H v H :=
  h.fin fun hs => ⟨Nat.le_refl _, CutH.base hs, hf⟩
theorem apn (H K : Heap) (n : Nat) : (H ++ K)[H.length + n]? = K[n]? := by
  rw [List.getElem?_append_right (by omega), show H.length + n - H.length = n by omega]
theorem aps (H K : Heap) (n : Nat) (X : Blk) : (H ++ K).set (H.length + n) X = H ++ K.set n X := by
  rw [List.set_append_right _ _ (by omega), show H.length + n - H.length = n by omega]
theorem VCj.wrT {P : Program} {F : Fr} {H : Heap} {dr : Bool} {ids : List Nat} {fp : Fp} {rs : List (Nat × Nat)} {o : Oper} {K : Fr → Heap → Prop} {g : FuncId} {args : List PV} {v : PV} {i j : Nat} {k l A B : Blk} (hi : H[i]? = some k) (hj : H[j]? = some l) (hne : i ≠ j)
    (h : ∀ L : Heap, L[i]? = some k → L[j]? = some l → CallOk P g args L v (two L i j A B)) (hwi : (atP ids fp.w).elem i = true) (hwj : (atP ids fp.w).elem j = true) (hvi : (atP ids fp.v).elem i = true) (hvj : (atP ids fp.v).elem j = true)
    (hc : pcallee o.op (slot F) = some (g, args)) (hk : K (put F o.dst v) (two H i j A B)) : VCj P dr ids fp rs o F H K := by
  unfold VCj
  simp only [hc]
  refine ⟨v, two H i j A B, ?_, hk⟩
  have wi : i ∈ atP ids fp.w := by simpa [List.elem_eq_mem] using hwi
  have wj : j ∈ atP ids fp.w := by simpa [List.elem_eq_mem] using hwj
  have vi : i ∈ atP ids fp.v := by simpa [List.elem_eq_mem] using hvi
  have vj : j ∈ atP ids fp.v := by simpa [List.elem_eq_mem] using hvj
  have upd : ∀ L : Heap, L[i]? = some k → L[j]? = some l → Upd ids fp L (two L i j A B) := fun L hi hj => by
    have u1 : Upd ids fp L (L.set i A) := Upd.set hi wi (.inr vi)
    have u2 : Upd ids fp (L.set i A) ((L.set i A).set j B) := Upd.set (k := l) (by rw [List.getElem?_set_ne hne]; exact hj) wj (.inr vj)
    exact ⟨by rw [two_len], fun x hx => (u2.out x hx).trans (u1.out x hx), fun x hx => Eq.trans (u2.ver x hx) (u1.ver x hx)⟩
  cases dr with
  | false => exact h H hi hj
  | true =>
    refine ⟨upd H hi hj, fun L hL => ?_⟩
    have li := (hL.inn i (.inr wi)).trans hi
    have lj := (hL.inn j (.inr wj)).trans hj
    refine ⟨two L i j A B, by unfold StI; rw [hc]; exact h L li lj, upd L li lj, fun x hx => ?_⟩
    have hlen := hL.len
    have hij : i < H.length ∧ j < H.length := ⟨(List.getElem?_eq_some_iff.1 hi).1, (List.getElem?_eq_some_iff.1 hj).1⟩
    by_cases e : x = i
    · subst e; rw [two_0 _ _ _ _ _ ⟨by omega, hne⟩, two_0 _ _ _ _ _ ⟨by omega, hne⟩]
    · by_cases e' : x = j
      · subst e'; rw [two_1 _ _ _ _ _ (by omega), two_1 _ _ _ _ _ (by omega)]
      · unfold two
        rw [List.getElem?_set_ne (Ne.symm e'), List.getElem?_set_ne (Ne.symm e), List.getElem?_set_ne (Ne.symm e'), List.getElem?_set_ne (Ne.symm e), hL.inn x (.inr hx)]

theorem flat_len {α : Type} (enc : α → List PV) (N : Nat) : ∀ (l : List α), (∀ x ∈ l, (enc x).length = N) → (l.flatMap enc).length = l.length * N
  | [], _ => by simp
  | a :: r, h => by
    rw [List.flatMap_cons, List.length_append, flat_len enc N r (fun x hx => h x (List.mem_cons_of_mem _ hx)), h a (List.mem_cons_self ..), List.length_cons, Nat.add_mul, Nat.one_mul, Nat.add_comm]
theorem flat_at {α : Type} (enc : α → List PV) (N : Nat) : ∀ (l : List α) (k : Nat) (hk : k < l.length), (∀ x ∈ l, (enc x).length = N) → List.take N (List.drop (k * N) (l.flatMap enc)) = enc l[k]
  | [], k, hk, _ => by simp at hk
  | a :: r, 0, _, h => by
    rw [Nat.zero_mul, List.drop_zero, List.flatMap_cons]
    exact List.take_left' (h a (List.mem_cons_self ..))
  | a :: r, k + 1, hk, h => by
    have e : (k + 1) * N = (enc a).length + k * N := by rw [h a (List.mem_cons_self ..), Nat.add_mul, Nat.one_mul, Nat.add_comm]
    rw [List.flatMap_cons, e, ← List.drop_drop, List.drop_left]
    exact flat_at enc N r k (by simpa using hk) (fun x hx => h x (List.mem_cons_of_mem _ hx))
theorem hscW {H K : Heap} (hK : ∀ b ∈ K, ∀ x ∈ b.cells, Scoped (H.length + K.length) x) (h : HSc H) : HSc (H ++ K) := fun id k hk x hx => by
  rw [List.length_append]
  rw [List.getElem?_append] at hk
  split at hk
  · exact (h id k hk x hx).mono (by omega)
  · exact hK k (List.mem_of_getElem? hk) x hx


end Go.Proofs.YtbhdollgohgkgaaGreatDoor.Sc
