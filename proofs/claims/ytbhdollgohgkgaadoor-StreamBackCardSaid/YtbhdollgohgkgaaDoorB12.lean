/-
  Parts of the proof. No condition.
-/
import Derived.Test.YtbhdollgohgkgaaDoorB07
import Derived.Test.YtbhdollgohgkgaaDoorB08
namespace Go.Proofs.YtbhdollgohgkgaaDoor.Sc
set_option linter.all false
set_option linter.unusedVariables false
set_option linter.unusedSimpArgs false
open Pm Ty Go.RowKit

def hbits (p : Pi) : List Bool := vbits p.od.toNat 10 ++ vbits p.ty.toNat 2 ++ vbits p.st.toNat 2 ++ [p.tf, p.rp, p.al]
/-- A unit as a value. -/
def uv (t : Int) (q : List UInt8) : PV := .agg [.int .i64 t, .slice (bs q) q.length false]
def putH (p : Pi) : Int × List UInt8 × Int := if codd p then (181, pk (hbits p ++ [true]), 0) else (0, [], 2)
theorem all_scoped {n : Nat} {xs : List PV} (h : ∀ x ∈ xs, Scoped n x) : ∀ (j : Nat) (x : PV), xs[j]? = some x → Scoped n x := fun j x hx => h x (List.mem_of_getElem? hx)
theorem uv_scoped (n : Nat) (t : Int) (q : List UInt8) : Scoped n (uv t q) := ag_scoped fun x hx => by
  simp only [List.mem_cons, List.not_mem_nil, or_false] at hx
  rcases hx with rfl | rfl
  · exact .int _ _
  · exact sl_scoped (bs_scoped _ _)
theorem uve_scoped (n : Nat) (t : Int) (q : List UInt8) (e : Int) : Scoped n (.tup [uv t q, .int .i64 e]) := .tup (all_scoped fun x hx => by
  simp only [List.mem_cons, List.not_mem_nil, or_false] at hx
  rcases hx with rfl | rfl
  · exact uv_scoped _ _ _
  · exact .int _ _)
theorem vbits1 (b : Bool) : vbits (if b then 1 else 0) 1 = [b] := by cases b <;> rfl
theorem codd_rng {p : Pi} (h : codd p = true) : 0 ≤ p.od ∧ p.od ≤ 1023 ∧ 1 ≤ p.ty ∧ p.ty ≤ 3 ∧ 1 ≤ p.st ∧ p.st ≤ 3 := by
  simp [codd] at h; omega
theorem wA0 (j : Nat) : wA j [] = ⟨120, 0, [.msl j 0 0 0 1 true, .int .i64 0]⟩ := rfl
theorem wB0 : wB [] = ⟨5, 0, []⟩ := rfl

theorem putH_ok (p : Pi) (H : Heap) : CallOk Tryd.prog 20 [.agg (pic p)] H (.tup [uv (putH p).1 (putH p).2.1, .int .i64 (putH p).2.2]) H := by
  generalize hr : putH p = r
  obtain ⟨ty, st, od, tf, rp, al⟩ := p
  have hcd := fun H => codd_ok ⟨ty, st, od, tf, rp, al⟩ H
  refine CallOk.body (F0 := [(0, .agg [.int .i64 ty, .int .i64 st, .int .i64 od, .bool tf, .bool rp, .bool al])]) Tryd.func20 rfl Tryd.ntmps20 Tryd.results20 rfl (by kernel_rfl) rfl ?_
  (repeat refine PW.seq ?_); refine PW.rg rfl fun K hK => ?_; simp (maxSteps := 3000000) (disch := omega) only [go_sem, ↓reduceIte, reduceCtorEq, pappend, plen]; refine hK _ _ ?_; clear hK K
  (repeat refine PW.seq ?_); refine PW.rg rfl fun K hK => ?_; simp (maxSteps := 3000000) (disch := omega) only [go_sem, ↓reduceIte, reduceCtorEq, pappend, plen]; refine VCx.call (hcd _) rfl ?_; simp (maxSteps := 3000000) (disch := omega) only [go_sem, ↓reduceIte, reduceCtorEq, pappend, plen]; refine hK _ _ ?_; clear hK K
  (repeat refine PW.seq ?_); refine PW.cond (t := _) rfl (fun h => ?_) (fun h => ?_)
  · have h1 : codd ⟨ty, st, od, tf, rp, al⟩ = false := by simpa using h
    (repeat refine PW.seq ?_); refine PW.rg rfl fun K hK => ?_; simp (maxSteps := 3000000) (disch := omega) only [go_sem, ↓reduceIte, reduceCtorEq, pappend, plen]; refine hK _ _ ?_; clear hK K
    refine PW.ret ⟨.tup [.agg [.int .i64 0, .slice [] 0 true], .int .i64 2], by simp (maxSteps := 3000000) (disch := omega) only [go_sem, ↓reduceIte, reduceCtorEq, pappend, plen, presults, presult, List.mapM_cons, List.mapM_nil, Option.pure_def, Option.bind_eq_bind, Option.bind_some, Array.toList], ?_⟩
    rw [← hr, putH, h1]
    exact Fin.base (Fz.tupC ⟨Fz.aggC ⟨.id (.int _ _), .slice rfl (fun j x y hx => by simp at hx) (fun e => by cases e), trivial⟩, .id (.int _ _), trivial⟩)
  have h1 : codd ⟨ty, st, od, tf, rp, al⟩ = true := by simpa using h
  obtain ⟨g1, g2, g3, g4, g5, g6⟩ := codd_rng h1
  simp only at g1 g2 g3 g4 g5 g6
  refine PW.skip ?_
  (repeat refine PW.seq ?_); refine PW.rg rfl fun K hK => ?_; simp (maxSteps := 3000000) (disch := omega) only [go_sem, ↓reduceIte, reduceCtorEq, pappend, plen]; refine VCx.call (neww_ok _) rfl ?_; simp (maxSteps := 3000000) (disch := omega) only [go_sem, ↓reduceIte, reduceCtorEq, pappend, plen]; refine hK _ _ ?_; clear hK K
  refine PW.view (Vs.ghostH (id := H.length + 2) (j := 0) 5 1 (hp2 _ _ _ _ _) rfl) ?_
  obtain ⟨o, rfl⟩ : ∃ o : Nat, od = o := ⟨od.toNat, by omega⟩
  obtain ⟨t, rfl⟩ : ∃ o : Nat, ty = o := ⟨ty.toNat, by omega⟩
  obtain ⟨s, rfl⟩ : ∃ o : Nat, st = o := ⟨st.toNat, by omega⟩
  have hbb : hbits ⟨t, s, o, tf, rp, al⟩ = (vbits o 10 ++ (vbits t 2 ++ vbits s 2)) ++ [tf, rp, al] := by simp [hbits]
  have po : o / 2 ^ 10 = 0 := by omega
  have pt : t / 2 ^ 2 = 0 := by omega
  have ps : s / 2 ^ 2 = 0 := by omega
  (repeat refine PW.seq ?_)
  refine PW.at [1, 2, 4] (F1 := [(1, .ptr H.length 0 0), (2, .ptr (H.length + 1) 0 0), (4, .ptr (H.length + 2) 0 0)]) (H1 := H ++ [⟨33, 0, [.int .i64 (t : Int), .int .i64 (s : Int), .int .i64 (o : Int), .bool tf, .bool rp, .bool al]⟩, ⟨50, 0, [.int .i64 0, .slice [] 0 true]⟩, wA (H.length + 3) [], wB []]) ?_ rfl (by rw [wA0, wB0]; simp [hs2])
  have put1 := fun (L : List Bool) (V n : Nat) (hn : n ≤ 32) (hV : V / 2 ^ n = 0) (hL : L.length ≤ 1000000000) => put_ok (H.length + 2) (H.length + 3) L V n (H ++ [⟨33, 0, [.int .i64 (t : Int), .int .i64 (s : Int), .int .i64 (o : Int), .bool tf, .bool rp, .bool al]⟩, ⟨50, 0, [.int .i64 0, .slice [] 0 true]⟩, wA (H.length + 3) L, wB L]) (hp2 _ _ _ _ _) (hp3 _ _ _ _ _ _) (by omega) hn hV hL
  simp only [two, hs2, hs3] at put1
  (repeat refine PW.seq ?_); refine PW.rg rfl fun K hK => ?_; simp (maxSteps := 3000000) (disch := omega) only [go_sem, ↓reduceIte, reduceCtorEq, pappend, plen]; refine VCx.call (put1 [] o 10 (by omega) po (by simp)) rfl ?_; simp (maxSteps := 3000000) (disch := omega) only [go_sem, ↓reduceIte, reduceCtorEq, pappend, plen]; refine hK _ _ ?_; clear hK K
  (repeat refine PW.seq ?_); refine PW.rg rfl fun K hK => ?_; simp (maxSteps := 3000000) (disch := omega) only [go_sem, ↓reduceIte, reduceCtorEq, pappend, plen]; refine VCx.call (put1 _ t 2 (by omega) pt (by simp [vbits_len])) rfl ?_; simp (maxSteps := 3000000) (disch := omega) only [go_sem, ↓reduceIte, reduceCtorEq, pappend, plen]; refine hK _ _ ?_; clear hK K
  (repeat refine PW.seq ?_); refine PW.rg rfl fun K hK => ?_; simp (maxSteps := 3000000) (disch := omega) only [go_sem, ↓reduceIte, reduceCtorEq, pappend, plen]; refine VCx.call (put1 _ s 2 (by omega) ps (by simp [vbits_len])) rfl ?_; simp (maxSteps := 3000000) (disch := omega) only [go_sem, ↓reduceIte, reduceCtorEq, pappend, plen]; refine hK _ _ ?_; clear hK K
  generalize hB : vbits o 10 ++ (vbits t 2 ++ vbits s 2) = B at *
  have hBl : B.length = 14 := by rw [← hB]; simp [vbits_len]
  (repeat refine PW.seq ?_); refine PW.rg rfl fun K hK => ?_; simp (maxSteps := 3000000) (disch := omega) only [go_sem, ↓reduceIte, reduceCtorEq, pappend, plen]; refine hK _ _ ?_; clear hK K
  (repeat refine PW.seq ?_); refine PW.block (PW.loop ?_)
  suffices hloop : ∀ (k : Nat) (L : List Bool), k ≤ 3 → L = B ++ [tf, rp, al].take k → PL Tryd.prog _ _ [(2, .ptr (H.length + 1) 0 0), (4, .ptr (H.length + 2) 0 0), (34, .slice (fs [tf, rp, al]) 3 true), (35, .int .i64 3), (36, .int .i64 (k : Int))]
      (H ++ [⟨33, 0, [.int .i64 (t : Int), .int .i64 (s : Int), .int .i64 (o : Int), .bool tf, .bool rp, .bool al]⟩, ⟨50, 0, [.int .i64 0, .slice [] 0 true]⟩, wA (H.length + 3) L, wB L]) _ by
    exact PL.at [2, 4, 34, 35, 36] (hloop 0 B (Nat.zero_le _) (by simp)) rfl rfl
  intro k L hk hL
  have hLl : L.length ≤ 17 := by rw [hL]; simp [hBl]; omega
  induction hm : 3 - k using Nat.strongRecOn generalizing k L with
  | _ m ih =>
    refine PL.round ?_; (repeat refine PW.seq ?_); refine PW.rg rfl fun K hK => ?_; simp (maxSteps := 3000000) (disch := omega) only [go_sem, ↓reduceIte, reduceCtorEq, pappend, plen]; refine hK _ _ ?_; clear hK K
    (repeat refine PW.seq ?_); refine PW.cond (t := _) rfl (fun h => ?_) (fun h => ?_)
    · have h4 : k < 3 := by have := of_decide_eq_true h; omega
      have htk : B ++ [tf, rp, al].take (k + 1) = L ++ [flagAt [tf, rp, al] k] := by
        rw [hL, List.append_assoc]
        have : k = 0 ∨ k = 1 ∨ k = 2 := by omega
        rcases this with rfl | rfl | rfl <;> rfl
      have hfg := fs_get [tf, rp, al] k h4
      refine PW.skip ?_; (repeat refine PW.seq ?_); refine PW.block ?_
      (repeat refine PW.seq ?_); refine PW.rg rfl fun K hK => ?_; simp (maxSteps := 3000000) (disch := omega) only [go_sem, ↓reduceIte, reduceCtorEq, pappend, plen, hfg, fs_len]; refine hK _ _ ?_; clear hK K
      generalize flagAt [tf, rp, al] k = b at *
      have hnext := ih (3 - (k + 1)) (by omega) (k + 1) (L ++ [b]) (by omega) htk.symm (by rw [← htk]; simp [hBl]; omega) rfl
      have hv := vbits1 b
      (repeat refine PW.seq ?_); refine PW.rg rfl fun K hK => ?_; simp (maxSteps := 3000000) (disch := omega) only [go_sem, ↓reduceIte, reduceCtorEq, pappend, plen]; refine hK _ _ ?_; clear hK K; (repeat refine PW.seq ?_); refine PW.rg rfl fun K hK => ?_; simp (maxSteps := 3000000) (disch := omega) only [go_sem, ↓reduceIte, reduceCtorEq, pappend, plen]; refine hK _ _ ?_; clear hK K
      (repeat refine PW.seq ?_); refine PW.cond (t := _) rfl (fun h => ?_) (fun h => ?_)
      · subst h
        simp only [if_true] at hv
        have hp := put1 L 1 1 (by omega) (by decide) (by omega)
        rw [hv] at hp
        (repeat refine PW.seq ?_); refine PW.rg rfl fun K hK => ?_; simp (maxSteps := 3000000) (disch := omega) only [go_sem, ↓reduceIte, reduceCtorEq, pappend, plen]; refine hK _ _ ?_; clear hK K
        (repeat refine PW.seq ?_); refine PW.rg rfl fun K hK => ?_; simp (maxSteps := 3000000) (disch := omega) only [go_sem, ↓reduceIte, reduceCtorEq, pappend, plen]; refine VCx.call (hp) rfl ?_; simp (maxSteps := 3000000) (disch := omega) only [go_sem, ↓reduceIte, reduceCtorEq, pappend, plen]; refine hK _ _ ?_; clear hK K
        (repeat refine PW.seq ?_); refine PW.rg rfl fun K hK => ?_; simp (maxSteps := 3000000) (disch := omega) only [go_sem, ↓reduceIte, reduceCtorEq, pappend, plen]; refine hK _ _ ?_; clear hK K
        exact PL.at [2, 4, 34, 35, 36] hnext rfl rfl
      · subst h
        simp only [Bool.false_eq_true, if_false] at hv
        have hp := put1 L 0 1 (by omega) (by decide) (by omega)
        rw [hv] at hp
        refine PW.skip ?_
        (repeat refine PW.seq ?_); refine PW.rg rfl fun K hK => ?_; simp (maxSteps := 3000000) (disch := omega) only [go_sem, ↓reduceIte, reduceCtorEq, pappend, plen]; refine VCx.call (hp) rfl ?_; simp (maxSteps := 3000000) (disch := omega) only [go_sem, ↓reduceIte, reduceCtorEq, pappend, plen]; refine hK _ _ ?_; clear hK K
        (repeat refine PW.seq ?_); refine PW.rg rfl fun K hK => ?_; simp (maxSteps := 3000000) (disch := omega) only [go_sem, ↓reduceIte, reduceCtorEq, pappend, plen]; refine hK _ _ ?_; clear hK K
        exact PL.at [2, 4, 34, 35, 36] hnext rfl rfl
    · have h4 : k = 3 := by have := of_decide_eq_false h; omega
      subst h4
      have hLh : L = hbits ⟨t, s, o, tf, rp, al⟩ := by rw [hbb, hL]; rfl
      refine PW.exit ?_
      have hp := payload_ok (H.length + 2) (H.length + 3) L (H ++ [⟨33, 0, [.int .i64 (t : Int), .int .i64 (s : Int), .int .i64 (o : Int), .bool tf, .bool rp, .bool al]⟩, ⟨50, 0, [.int .i64 0, .slice [] 0 true]⟩, wA (H.length + 3) L, wB L]) (hp2 _ _ _ _ _) (hp3 _ _ _ _ _ _) (by omega)
      (repeat refine PW.seq ?_); refine PW.rg rfl fun K hK => ?_; simp (maxSteps := 3000000) (disch := omega) only [go_sem, ↓reduceIte, reduceCtorEq, pappend, plen]; refine VCx.call (hp) rfl ?_; simp (maxSteps := 3000000) (disch := omega) only [go_sem, ↓reduceIte, reduceCtorEq, pappend, plen]; refine hK _ _ ?_; clear hK K
      refine PW.ret ⟨.tup [.agg [.int .i64 181, .slice (bs (pk (L ++ [true]))) (pk (L ++ [true])).length false], .int .i64 0], by simp (maxSteps := 3000000) (disch := omega) only [go_sem, ↓reduceIte, reduceCtorEq, pappend, plen, presults, presult, List.mapM_cons, List.mapM_nil, Option.pure_def, Option.bind_eq_bind, Option.bind_some, Array.toList], ?_⟩
      rw [← hr, putH, h1, hLh]
      exact Fin.base (.id (uve_scoped _ _ _ _))

end Go.Proofs.YtbhdollgohgkgaaDoor.Sc

namespace Go.Proofs.YtbhdollgohgkgaaDoor.Sc
set_option linter.all false
set_option linter.unusedVariables false
set_option linter.unusedSimpArgs false
open Pm Ty Go.RowKit

theorem tk1_ok (c i : Nat) (p : List UInt8) (n a m : Nat) (H : Heap) (hC : H[c]? = some ⟨123, 0, [.ptr i 0 0]⟩) (hA : H[i]? = some (rA p n a)) (ha : a + m ≤ n) (hn : n ≤ 8 * p.length) (hp : p.length ≤ 100000000) (hm : m ≤ 32) :
    CallOk Tryd.prog 69 [.int .i64 (m : Int), .ptr c 0 0] H (.int .i64 (vl p a m : Int)) (H.set i (rA p n (a + m))) := by
  have hv : vl p a m < 4294967296 := by
    have h1 := vl_lt p a m
    have : 2 ^ m ≤ 2 ^ 32 := Nat.pow_le_pow_right (by omega) hm
    omega
  refine CallOk.body (F0 := [(0, .int .i64 (m : Int)), (1, .ptr c 0 0)]) Tryd.func69 rfl Tryd.ntmps69 Tryd.results69 rfl (by kernel_rfl) rfl ?_
  (repeat refine PW.seq ?_); refine PW.rg rfl fun K hK => ?_; simp (maxSteps := 3000000) (disch := omega) only [go_sem, ↓reduceIte, reduceCtorEq, pappend, plen]; refine hK _ _ ?_; clear hK K
  (repeat refine PW.seq ?_); refine PW.rg rfl fun K hK => ?_; simp (maxSteps := 3000000) (disch := omega) only [go_sem, ↓reduceIte, reduceCtorEq, pappend, plen, hC]; refine VCx.call (rtake_ok i p n a m H hA ha hn hp hm) rfl ?_; simp (maxSteps := 3000000) (disch := omega) only [go_sem, ↓reduceIte, reduceCtorEq, pappend, plen, hC]; refine hK _ _ ?_; clear hK K
  (repeat refine PW.seq ?_); refine PW.rg rfl fun K hK => ?_; simp (maxSteps := 3000000) (disch := omega) only [go_sem, ↓reduceIte, reduceCtorEq, pappend, plen]; refine hK _ _ ?_; clear hK K
  exact PW.ret ⟨_, rfl, Fin.now⟩

/-- A header as the reader gives it; what TakeHeader answers. -/
def hdr (q : List UInt8) : Pi := ⟨(vl q 10 2 : Int), (vl q 12 2 : Int), (vl q 0 10 : Int), (vl q 14 1 : Int) == 1, (vl q 15 1 : Int) == 1, (vl q 16 1 : Int) == 1⟩
def pi0 : Pi := ⟨0, 0, 0, false, false, false⟩
def takeH (t : Int) (q : List UInt8) : Pi × Int := if t = 181 ∧ q.length ≠ 0 ∧ lastB q ≠ 0 ∧ nb q = 17 then (if codd (hdr q) then (hdr q, 0) else (pi0, 3)) else (pi0, 3)

theorem pe_scoped (n : Nat) (p : Pi) (e : Int) : Scoped n (.tup [.agg (pic p), .int .i64 e]) := .tup (all_scoped fun x hx => by
  simp only [List.mem_cons, List.not_mem_nil, or_false] at hx
  rcases hx with rfl | rfl
  · refine ag_scoped fun x hx => ?_
    simp only [pic, List.mem_cons, List.not_mem_nil, or_false] at hx
    rcases hx with rfl | rfl | rfl | rfl | rfl | rfl
    · exact .int _ _
    · exact .int _ _
    · exact .int _ _
    · exact .bool _
    · exact .bool _
    · exact .bool _
  · exact .int _ _)
theorem takeH_ok (t : Int) (q : List UInt8) (f : Bool) (hq : q.length ≤ 1000000) (H : Heap) : CallOk Tryd.prog 47 [.agg [.int .i64 t, .slice (bs q) q.length f]] H (.tup [.agg (pic (takeH t q).1), .int .i64 (takeH t q).2]) H := by
  generalize hr : takeH t q = r
  refine CallOk.body (F0 := [(0, .agg [.int .i64 t, .slice (bs q) q.length f])]) Tryd.func47 rfl Tryd.ntmps47 Tryd.results47 rfl (by kernel_rfl) rfl ?_
  (repeat refine PW.seq ?_); refine PW.rg rfl fun K hK => ?_; simp (maxSteps := 3000000) (disch := omega) only [go_sem, ↓reduceIte, reduceCtorEq, pappend, plen]; refine hK _ _ ?_; clear hK K
  (repeat refine PW.seq ?_); refine PW.rg rfl fun K hK => ?_; simp (maxSteps := 3000000) (disch := omega) only [go_sem, ↓reduceIte, reduceCtorEq, pappend, plen]; refine hK _ _ ?_; clear hK K
  (repeat refine PW.seq ?_); refine PW.cond (t := _) rfl (fun h => ?_) (fun h => ?_)
  · have h1 : t ≠ 181 := by simpa using h
    (repeat refine PW.seq ?_); refine PW.rg rfl fun K hK => ?_; simp (maxSteps := 3000000) (disch := omega) only [go_sem, ↓reduceIte, reduceCtorEq, pappend, plen]; refine hK _ _ ?_; clear hK K
    refine PW.ret ⟨.tup [.agg [.int .i64 0, .int .i64 0, .int .i64 0, .bool false, .bool false, .bool false], .int .i64 3], by simp (maxSteps := 3000000) (disch := omega) only [go_sem, ↓reduceIte, reduceCtorEq, pappend, plen, presults, presult, List.mapM_cons, List.mapM_nil, Option.pure_def, Option.bind_eq_bind, Option.bind_some, Array.toList], ?_⟩
    have : r = (pi0, 3) := by rw [← hr, takeH, if_neg (by simp [h1])]
    rw [this]
    exact Fin.base (.id (pe_scoped _ pi0 3))
  have h1 : t = 181 := by simpa using h
  subst h1
  refine PW.skip ?_
  by_cases hb : q.length = 0 ∨ lastB q = 0
  · (repeat refine PW.seq ?_); refine PW.rg rfl fun K hK => ?_; simp (maxSteps := 3000000) (disch := omega) only [go_sem, ↓reduceIte, reduceCtorEq, pappend, plen]; refine VCx.call (newr_bad q f _ (by omega) hb) rfl ?_; simp (maxSteps := 3000000) (disch := omega) only [go_sem, ↓reduceIte, reduceCtorEq, pappend, plen]; refine hK _ _ ?_; clear hK K
    (repeat refine PW.seq ?_); refine PW.rg rfl fun K hK => ?_; simp (maxSteps := 3000000) (disch := omega) only [go_sem, ↓reduceIte, reduceCtorEq, pappend, plen]; refine hK _ _ ?_; clear hK K
    (repeat refine PW.seq ?_); refine PW.cond (t := _) rfl (fun h => ?_) (fun h => ?_)
    · (repeat refine PW.seq ?_); refine PW.rg rfl fun K hK => ?_; simp (maxSteps := 3000000) (disch := omega) only [go_sem, ↓reduceIte, reduceCtorEq, pappend, plen]; refine hK _ _ ?_; clear hK K
      refine PW.ret ⟨.tup [.agg [.int .i64 0, .int .i64 0, .int .i64 0, .bool false, .bool false, .bool false], .int .i64 3], by simp (maxSteps := 3000000) (disch := omega) only [go_sem, ↓reduceIte, reduceCtorEq, pappend, plen, presults, presult, List.mapM_cons, List.mapM_nil, Option.pure_def, Option.bind_eq_bind, Option.bind_some, Array.toList], ?_⟩
      have : r = (pi0, 3) := by rw [← hr, takeH, if_neg (by omega)]
      rw [this]
      exact Fin.base (.id (pe_scoped _ pi0 3))
    · cases h
  have hb1 : q.length ≠ 0 := fun e => hb (.inl e)
  have hb2 : lastB q ≠ 0 := fun e => hb (.inr e)
  obtain ⟨n1, n2, n3⟩ := nb_one q hb1 hb2
  (repeat refine PW.seq ?_); refine PW.rg rfl fun K hK => ?_; simp (maxSteps := 3000000) (disch := omega) only [go_sem, ↓reduceIte, reduceCtorEq, pappend, plen]; refine VCx.call (newr_ok q f _ (by omega) hb1 hb2) rfl ?_; simp (maxSteps := 3000000) (disch := omega) only [go_sem, ↓reduceIte, reduceCtorEq, pappend, plen]; refine hK _ _ ?_; clear hK K
  (repeat refine PW.seq ?_); refine PW.rg rfl fun K hK => ?_; simp (maxSteps := 3000000) (disch := omega) only [go_sem, ↓reduceIte, reduceCtorEq, pappend, plen]; refine VCx.call (rleft_ok (H.length + 3) q (nb q) 0 _ (hp3 _ _ _ _ _ _) (by omega) (by omega)) rfl ?_; simp (maxSteps := 3000000) (disch := omega) only [go_sem, ↓reduceIte, reduceCtorEq, pappend, plen]; refine hK _ _ ?_; clear hK K
  (repeat refine PW.seq ?_); refine PW.cond (t := _) rfl (fun h => ?_) (fun h => ?_)
  · have h17 : nb q ≠ 17 := by simp at h; omega
    (repeat refine PW.seq ?_); refine PW.rg rfl fun K hK => ?_; simp (maxSteps := 3000000) (disch := omega) only [go_sem, ↓reduceIte, reduceCtorEq, pappend, plen]; refine hK _ _ ?_; clear hK K
    refine PW.ret ⟨.tup [.agg [.int .i64 0, .int .i64 0, .int .i64 0, .bool false, .bool false, .bool false], .int .i64 3], by simp (maxSteps := 3000000) (disch := omega) only [go_sem, ↓reduceIte, reduceCtorEq, pappend, plen, presults, presult, List.mapM_cons, List.mapM_nil, Option.pure_def, Option.bind_eq_bind, Option.bind_some, Array.toList], ?_⟩
    have : r = (pi0, 3) := by rw [← hr, takeH, if_neg (by simp [h17])]
    rw [this]
    exact Fin.base (.id (pe_scoped _ pi0 3))
  have h17 : nb q = 17 := by simp at h; omega
  refine PW.skip ?_
  rw [h17]
  (repeat refine PW.seq ?_); refine PW.rg rfl fun K hK => ?_; simp (maxSteps := 3000000) (disch := omega) only [go_sem, ↓reduceIte, reduceCtorEq, pappend, plen]; refine hK _ _ ?_; clear hK K
  have tk := fun (U P D : Blk) (K : Heap) (a m : Nat) (ha : a + m ≤ 17) (hm : m ≤ 32) => tk1_ok (H.length + 4) (H.length + 3) q 17 a m (H ++ U :: P :: D :: rA q 17 a :: ⟨123, 0, [.ptr (H.length + 3) 0 0]⟩ :: K) (hp4 _ _ _ _ _ _ _) (hp3 _ _ _ _ _ _) ha (by omega) (by omega) hm
  simp only [hs3] at tk
  (repeat refine PW.seq ?_); refine PW.rg rfl fun K hK => ?_; simp (maxSteps := 3000000) (disch := omega) only [go_sem, ↓reduceIte, reduceCtorEq, pappend, plen]; refine VCx.call (tk _ _ _ _ 0 10 (by omega) (by omega)) rfl ?_; simp (maxSteps := 3000000) (disch := omega) only [go_sem, ↓reduceIte, reduceCtorEq, pappend, plen]; refine VCx.call (tk _ _ _ _ 10 2 (by omega) (by omega)) rfl ?_; simp (maxSteps := 3000000) (disch := omega) only [go_sem, ↓reduceIte, reduceCtorEq, pappend, plen]; refine VCx.call (tk _ _ _ _ 12 2 (by omega) (by omega)) rfl ?_; simp (maxSteps := 3000000) (disch := omega) only [go_sem, ↓reduceIte, reduceCtorEq, pappend, plen]; refine hK _ _ ?_; clear hK K
  (repeat refine PW.seq ?_); refine PW.rg rfl fun K hK => ?_; simp (maxSteps := 3000000) (disch := omega) only [go_sem, ↓reduceIte, reduceCtorEq, pappend, plen]; refine VCx.call (tk _ _ _ _ 14 1 (by omega) (by omega)) rfl ?_; simp (maxSteps := 3000000) (disch := omega) only [go_sem, ↓reduceIte, reduceCtorEq, pappend, plen]; refine hK _ _ ?_; clear hK K
  (repeat refine PW.seq ?_); refine PW.rg rfl fun K hK => ?_; simp (maxSteps := 3000000) (disch := omega) only [go_sem, ↓reduceIte, reduceCtorEq, pappend, plen]; refine VCx.call (tk _ _ _ _ 15 1 (by omega) (by omega)) rfl ?_; simp (maxSteps := 3000000) (disch := omega) only [go_sem, ↓reduceIte, reduceCtorEq, pappend, plen]; refine hK _ _ ?_; clear hK K
  (repeat refine PW.seq ?_); refine PW.rg rfl fun K hK => ?_; simp (maxSteps := 3000000) (disch := omega) only [go_sem, ↓reduceIte, reduceCtorEq, pappend, plen]; refine VCx.call (tk _ _ _ _ 16 1 (by omega) (by omega)) rfl ?_; simp (maxSteps := 3000000) (disch := omega) only [go_sem, ↓reduceIte, reduceCtorEq, pappend, plen]; refine hK _ _ ?_; clear hK K
  (repeat refine PW.seq ?_); refine PW.rg rfl fun K hK => ?_; simp (maxSteps := 3000000) (disch := omega) only [go_sem, ↓reduceIte, reduceCtorEq, pappend, plen]; refine VCx.call (codd_ok (hdr q) _) rfl ?_; simp (maxSteps := 3000000) (disch := omega) only [go_sem, ↓reduceIte, reduceCtorEq, pappend, plen]; refine hK _ _ ?_; clear hK K
  (repeat refine PW.seq ?_); refine PW.cond (t := _) rfl (fun h => ?_) (fun h => ?_)
  · have h2 : codd (hdr q) = false := by simpa using h
    (repeat refine PW.seq ?_); refine PW.rg rfl fun K hK => ?_; simp (maxSteps := 3000000) (disch := omega) only [go_sem, ↓reduceIte, reduceCtorEq, pappend, plen]; refine hK _ _ ?_; clear hK K
    refine PW.ret ⟨.tup [.agg [.int .i64 0, .int .i64 0, .int .i64 0, .bool false, .bool false, .bool false], .int .i64 3], by simp (maxSteps := 3000000) (disch := omega) only [go_sem, ↓reduceIte, reduceCtorEq, pappend, plen, presults, presult, List.mapM_cons, List.mapM_nil, Option.pure_def, Option.bind_eq_bind, Option.bind_some, Array.toList], ?_⟩
    have : r = (pi0, 3) := by rw [← hr, takeH, if_pos ⟨rfl, hb1, hb2, h17⟩, h2]; rfl
    rw [this]
    exact Fin.base (.id (pe_scoped _ pi0 3))
  have h2 : codd (hdr q) = true := by simpa using h
  refine PW.skip ?_
  (repeat refine PW.seq ?_); refine PW.rg rfl fun K hK => ?_; simp (maxSteps := 3000000) (disch := omega) only [go_sem, ↓reduceIte, reduceCtorEq, pappend, plen]; refine hK _ _ ?_; clear hK K
  refine PW.ret ⟨.tup [.agg [.int .i64 (vl q 10 2 : Int), .int .i64 (vl q 12 2 : Int), .int .i64 (vl q 0 10 : Int), .bool ((vl q 14 1 : Int) == 1), .bool ((vl q 15 1 : Int) == 1), .bool ((vl q 16 1 : Int) == 1)], .int .i64 0], by simp (maxSteps := 3000000) (disch := omega) only [go_sem, ↓reduceIte, reduceCtorEq, pappend, plen, presults, presult, List.mapM_cons, List.mapM_nil, Option.pure_def, Option.bind_eq_bind, Option.bind_some, Array.toList], ?_⟩
  have : r = (hdr q, 0) := by rw [← hr, takeH, if_pos ⟨rfl, hb1, hb2, h17⟩, h2]; rfl
  rw [this]
  exact Fin.base (.id (pe_scoped _ (hdr q) 0))

end Go.Proofs.YtbhdollgohgkgaaDoor.Sc

namespace Go.Proofs.YtbhdollgohgkgaaDoor.Sc
set_option linter.all false
set_option linter.unusedVariables false
set_option linter.unusedSimpArgs false
open Pm Ty Go.RowKit

end Go.Proofs.YtbhdollgohgkgaaDoor.Sc

namespace Go.Proofs.YtbhdollgohgkgaaDoor.Sc
set_option linter.all false
set_option linter.unusedVariables false
set_option linter.unusedSimpArgs false
open Pm Ty Go.RowKit

theorem same_okP (p q : List UInt8) (f g : Bool) (H : Heap) : CallOk Tryd.prog 10 [.slice (bs p) p.length f, .slice (bs q) q.length g] H (.bool (p == q)) H := by
  refine CallOk.body (F0 := [(0, .slice (bs p) p.length f), (1, .slice (bs q) q.length g)]) Tryd.func10 rfl Tryd.ntmps10 Tryd.results10 rfl (by kernel_rfl) rfl ?_
  (repeat refine PW.seq ?_); refine PW.rg rfl fun K hK => ?_; simp (maxSteps := 3000000) (disch := omega) only [go_sem, ↓reduceIte, reduceCtorEq, pappend, plen]; refine hK _ _ ?_; clear hK K
  (repeat refine PW.seq ?_); refine PW.rg rfl fun K hK => ?_; simp (maxSteps := 3000000) (disch := omega) only [go_sem, ↓reduceIte, reduceCtorEq, pappend, plen, length_bs, pbytes_bs]; refine hK _ _ ?_; clear hK K
  exact PW.ret ⟨_, rfl, .inl ⟨rfl, rfl⟩⟩
theorem sameunit_ok (t u : Int) (p q : List UInt8) (f g : Bool) (H : Heap) : CallOk Tryd.prog 76 [.agg [.int .i64 t, .slice (bs p) p.length f], .agg [.int .i64 u, .slice (bs q) q.length g]] H (.bool (t == u && p == q)) H := by
  refine CallOk.body (F0 := [(0, .agg [.int .i64 t, .slice (bs p) p.length f]), (1, .agg [.int .i64 u, .slice (bs q) q.length g])]) Tryd.func76 rfl Tryd.ntmps76 Tryd.results76 rfl (by kernel_rfl) rfl ?_
  (repeat refine PW.seq ?_); refine PW.rg rfl fun K hK => ?_; simp (maxSteps := 3000000) (disch := omega) only [go_sem, ↓reduceIte, reduceCtorEq, pappend, plen]; refine hK _ _ ?_; clear hK K
  by_cases h : t = u
  · (repeat refine PW.seq ?_); refine PW.rg rfl fun K hK => ?_; simp (maxSteps := 3000000) (disch := omega) only [go_sem, ↓reduceIte, reduceCtorEq, pappend, plen]; refine VCx.call (same_okP p q f g _) rfl ?_; simp (maxSteps := 3000000) (disch := omega) only [go_sem, ↓reduceIte, reduceCtorEq, pappend, plen]; refine hK _ _ ?_; clear hK K
    refine PW.ret ⟨_, rfl, Fin.base (.id' ?_ (.bool _))⟩
    simp [h, slot, Nat.beq]
  · (repeat refine PW.seq ?_); refine PW.rg rfl fun K hK => ?_; simp (maxSteps := 3000000) (disch := omega) only [go_sem, ↓reduceIte, reduceCtorEq, pappend, plen]; refine hK _ _ ?_; clear hK K
    refine PW.ret ⟨_, rfl, Fin.base (.id' ?_ (.bool _))⟩
    simp [h, slot, Nat.beq]

theorem take_put (p : Pi) (h : codd p = true) : takeH 181 (pk (hbits p ++ [true])) = (p, 0) := by
  obtain ⟨g1, g2, g3, g4, g5, g6⟩ := codd_rng h
  obtain ⟨ty, st, od, tf, rp, al⟩ := p
  simp only at g1 g2 g3 g4 g5 g6
  obtain ⟨o, rfl⟩ : ∃ o : Nat, od = o := ⟨od.toNat, by omega⟩
  obtain ⟨t, rfl⟩ : ∃ o : Nat, ty = o := ⟨ty.toNat, by omega⟩
  obtain ⟨s, rfl⟩ : ∃ o : Nat, st = o := ⟨st.toNat, by omega⟩
  have hbb : hbits ⟨t, s, o, tf, rp, al⟩ ++ [true] = vbits o 10 ++ (vbits t 2 ++ (vbits s 2 ++ [tf, rp, al, true])) := by simp [hbits]
  have vo := vbits_len o 10
  have vt := vbits_len t 2
  have vs := vbits_len s 2
  rw [hbb]
  generalize hL : vbits o 10 ++ (vbits t 2 ++ (vbits s 2 ++ [tf, rp, al, true])) = L
  have hLl : L.length = 18 := by rw [← hL]; simp [vo, vt, vs]
  have hql : (pk L).length = 3 := by rw [pk_len, hLl]
  have hu : ∀ k, k < 24 → ubit (pk L) k = bn L k := fun k hk => ubit_pk L k (by rw [hLl]; omega)
  have b1 : ∀ i, i < 10 → bn L i = o / 2 ^ (10 - 1 - i) % 2 := fun i hi => by rw [← hL, bn_left _ _ _ (by omega), bn_vbits o 10 i hi]
  have b2 : ∀ i, i < 2 → bn L (10 + i) = t / 2 ^ (2 - 1 - i) % 2 := fun i hi => by
    rw [← hL, bn_right _ _ _ (by omega), vo, bn_left _ _ _ (by omega), show 10 + i - 10 = i by omega, bn_vbits t 2 i hi]
  have b3 : ∀ i, i < 2 → bn L (12 + i) = s / 2 ^ (2 - 1 - i) % 2 := fun i hi => by
    rw [← hL, bn_right _ _ _ (by omega), vo, bn_right _ _ _ (by omega), vt, bn_left _ _ _ (by omega), show 12 + i - 10 - 2 = i by omega, bn_vbits s 2 i hi]
  have b4 : ∀ i, bn L (14 + i) = bn [tf, rp, al, true] i := fun i => by
    rw [← hL, bn_right _ _ _ (by omega), vo, bn_right _ _ _ (by omega), vt, bn_right _ _ _ (by omega), vs, show 14 + i - 10 - 2 - 2 = i by omega]
  have f1 : vl (pk L) 0 10 = o := vl_all _ _ _ _ (by omega) fun i hi => by rw [Nat.zero_add, hu i (by omega), b1 i hi]
  have f2 : vl (pk L) 10 2 = t := vl_all _ _ _ _ (by omega) fun i hi => by rw [hu _ (by omega), b2 i hi]
  have f3 : vl (pk L) 12 2 = s := vl_all _ _ _ _ (by omega) fun i hi => by rw [hu _ (by omega), b3 i hi]
  have one : ∀ a, vl (pk L) a 1 = ubit (pk L) a := fun a => by simp [vl]
  have f4 : ((vl (pk L) 14 1 : Int) == 1) = tf := by rw [one, hu 14 (by omega), b4 0]; cases tf <;> rfl
  have f5 : ((vl (pk L) 15 1 : Int) == 1) = rp := by rw [one, hu 15 (by omega), b4 1]; cases rp <;> rfl
  have f6 : ((vl (pk L) 16 1 : Int) == 1) = al := by rw [one, hu 16 (by omega), b4 2]; cases al <;> rfl
  have hh : hdr (pk L) = ⟨t, s, o, tf, rp, al⟩ := by rw [hdr, f1, f2, f3, f4, f5, f6]
  have hlast : lastB (pk L) = pkN L 2 := by
    have := pk_byt L 2 (by omega)
    simp only [byt] at this
    rw [lastB, hql, show 3 - 1 = 2 from rfl]
    omega
  have hpn : pkN L 2 = 128 * al.toNat + 64 := by
    have c0 := b4 2
    have c1 := b4 3
    unfold pkN
    rw [show 8 * 2 = 14 + 2 from rfl, c0, show 14 + 2 + 1 = 14 + 3 from rfl, c1, bn_out L (14 + 2 + 2) (by omega), bn_out L (14 + 2 + 3) (by omega), bn_out L (14 + 2 + 4) (by omega), bn_out L (14 + 2 + 5) (by omega), bn_out L (14 + 2 + 6) (by omega), bn_out L (14 + 2 + 7) (by omega)]
    cases al <;> rfl
  have hnb : nb (pk L) = 17 := by
    rw [nb, hlast, hpn, hql]; cases al <;> rfl
  rw [takeH, hh, h, if_pos ⟨rfl, by omega, by rw [hlast, hpn]; omega, hnb⟩]
  rfl

end Go.Proofs.YtbhdollgohgkgaaDoor.Sc

namespace Go.Proofs.YtbhdollgohgkgaaDoor.S3
set_option linter.all false
set_option linter.unusedVariables false
set_option linter.unusedSimpArgs false
open Pm Ty Sc Go.RowKit
set_option maxRecDepth 100000

theorem run_ok (z c : Int) (H : Heap) (hz : 0 ≤ z) (hz2 : z ≤ 1000000000) : CallOk Tryd.prog 44 [.int .i64 z, .int .u8 c] H (.int .i64 (if c = 0 then z + 1 else 0)) H := by
  refine CallOk.body (F0 := [(0, .int .i64 z), (1, .int .u8 c)]) Tryd.func44 rfl Tryd.ntmps44 Tryd.results44 rfl (by kernel_rfl) rfl ?_
  refine PW.seq ?_; (repeat refine PW.seq ?_); refine PW.rg rfl fun K hK => ?_; simp (maxSteps := 3000000) (disch := omega) only [go_sem, ↓reduceIte, reduceCtorEq, pappend, plen]; refine hK _ _ ?_; clear hK K
  refine PW.seq (PW.seq ?_); (repeat refine PW.seq ?_); refine PW.rg rfl fun K hK => ?_; simp (maxSteps := 3000000) (disch := omega) only [go_sem, ↓reduceIte, reduceCtorEq, pappend, plen]; refine hK _ _ ?_; clear hK K
  refine PW.cond (t := _) rfl (fun h => ?_) (fun h => ?_)
  · have hc : c = 0 := by simpa using h
    refine PW.seq ?_; (repeat refine PW.seq ?_); refine PW.rg rfl fun K hK => ?_; simp (maxSteps := 3000000) (disch := omega) only [go_sem, ↓reduceIte, reduceCtorEq, pappend, plen]; refine hK _ _ ?_; clear hK K
    exact PW.ret ⟨_, rfl, .inl ⟨by rw [if_pos hc]; rfl, rfl⟩⟩
  · have hc : ¬ c = 0 := by simpa using h
    refine PW.skip ?_
    refine PW.seq ?_; (repeat refine PW.seq ?_); refine PW.rg rfl fun K hK => ?_; simp (maxSteps := 3000000) (disch := omega) only [go_sem, ↓reduceIte, reduceCtorEq, pappend, plen]; refine hK _ _ ?_; clear hK K
    exact PW.ret ⟨_, rfl, .inl ⟨by rw [if_neg hc]; rfl, rfl⟩⟩

def ends0 (p : List UInt8) : Bool := decide (0 < p.length) && (byt p (p.length - 1) == 0)

theorem ends0_ok (p : List UInt8) (full : Bool) (H : Heap) (hl : p.length ≤ 2000000) : CallOk Tryd.prog 43 [.slice (bs p) p.length full] H (.bool (ends0 p)) H := by
  refine CallOk.body (F0 := [(0, .slice (bs p) p.length full)]) Tryd.func43 rfl Tryd.ntmps43 Tryd.results43 rfl (by kernel_rfl) rfl ?_
  refine PW.seq ?_; (repeat refine PW.seq ?_); refine PW.rg rfl fun K hK => ?_; simp (maxSteps := 3000000) (disch := omega) only [go_sem, ↓reduceIte, reduceCtorEq, pappend, plen]; refine hK _ _ ?_; clear hK K
  refine PW.seq (PW.rg1 [2] [(2, .bool (ends0 p))] H rfl ?_ (PW.ret ⟨_, rfl, .inl ⟨rfl, rfl⟩⟩))
  by_cases h : 0 < p.length
  · simp (maxSteps := 3000000) (disch := omega) only [go_sem, ↓reduceIte, reduceCtorEq, pappend, plen, length_bs, bs_get]
    simp [ends0, h]
  · simp (maxSteps := 3000000) (disch := omega) only [go_sem, ↓reduceIte, reduceCtorEq, pappend, plen, length_bs, bs_get]
    simp [ends0, h]

/-- A start code at place j. -/
def code (p : List UInt8) (j : Nat) : Bool := byt p j == 0 && byt p (j + 1) == 0 && byt p (j + 2) == 1 && byt p (j + 3) != 0
/-- The first start code from place i on. -/
def nxt (p : List UInt8) (i : Nat) : Nat := if i + 4 ≤ p.length then (if code p i then i else nxt p (i + 1)) else p.length
termination_by p.length - i

theorem next_ok (p : List UInt8) (full : Bool) (i : Nat) (H : Heap) (hl : p.length ≤ 2000000) (hi : i ≤ 2000010) : CallOk Tryd.prog 23 [.slice (bs p) p.length full, .int .i64 (i : Int)] H (.int .i64 (nxt p i : Int)) H := by
  generalize hr : nxt p i = r
  refine CallOk.body (F0 := [(0, .slice (bs p) p.length full), (1, .int .i64 (i : Int))]) Tryd.func23 rfl Tryd.ntmps23 Tryd.results23 rfl (by kernel_rfl) rfl ?_
  refine PW.seq ?_; (repeat refine PW.seq ?_); refine PW.rg rfl fun K hK => ?_; simp (maxSteps := 3000000) (disch := omega) only [go_sem, ↓reduceIte, reduceCtorEq, pappend, plen]; refine hK _ _ ?_; clear hK K
  refine PW.seq (PW.block (PW.loop ?_))
  refine PL.keep [0, 1] (?_ : PL _ _ _ [(0, .slice (bs p) p.length full), (1, .int .i64 (i : Int))] _ _)
  induction hm : p.length - i using Nat.strongRecOn generalizing i with
  | _ n ih =>
    refine PL.round (PW.seq (PW.seq ?_)); (repeat refine PW.seq ?_); refine PW.rg rfl fun K hK => ?_; simp (maxSteps := 3000000) (disch := omega) only [go_sem, ↓reduceIte, reduceCtorEq, pappend, plen]; refine hK _ _ ?_; clear hK K
    (repeat refine PW.seq ?_); refine PW.cond (t := _) rfl (fun h => ?_) (fun h => ?_)
    · have h4 : i + 4 ≤ p.length := by have := of_decide_eq_true h; omega
      refine PW.skip (PW.seq (PW.block (PW.seq ?_)))
      refine PW.rg1 [0, 1, 40] [(0, .slice (bs p) p.length full), (1, .int .i64 (i : Int)), (40, .bool (code p i))] H rfl ?_ ?_
      · by_cases h1 : byt p i = 0 <;> by_cases h2 : byt p (i + 1) = 0 <;> by_cases h3 : byt p (i + 2) = 1
        all_goals simp (maxSteps := 3000000) (disch := omega) only [go_sem, ↓reduceIte, reduceCtorEq, pappend, plen, length_bs, bs_get]
        all_goals simp [code, h1, h2, h3]
      (repeat refine PW.seq ?_); refine PW.cond (t := _) rfl (fun h => ?_) (fun h => ?_)
      · refine PW.seq ?_; (repeat refine PW.seq ?_); refine PW.rg rfl fun K hK => ?_; simp (maxSteps := 3000000) (disch := omega) only [go_sem, ↓reduceIte, reduceCtorEq, pappend, plen]; refine hK _ _ ?_; clear hK K
        refine PW.ret ⟨_, rfl, .inl ⟨?_, rfl⟩⟩
        rw [← hr, nxt, if_pos h4, if_pos h]; rfl
      · refine PW.skip ?_
        (repeat refine PW.seq ?_); refine PW.rg rfl fun K hK => ?_; simp (maxSteps := 3000000) (disch := omega) only [go_sem, ↓reduceIte, reduceCtorEq, pappend, plen]; refine hK _ _ ?_; clear hK K
        refine PL.keep [0, 1] ?_
        refine ih (p.length - (i + 1)) (by omega) (i + 1) (by omega) ?_ rfl
        rw [← hr, nxt.eq_def p i, if_pos h4, if_neg (by simp [h])]
    · have h4 : ¬ i + 4 ≤ p.length := by have := of_decide_eq_false h; omega
      refine PW.exit (PW.seq ?_); (repeat refine PW.seq ?_); refine PW.rg rfl fun K hK => ?_; simp (maxSteps := 3000000) (disch := omega) only [go_sem, ↓reduceIte, reduceCtorEq, pappend, plen]; refine hK _ _ ?_; clear hK K
      refine PW.ret ⟨_, rfl, .inl ⟨?_, rfl⟩⟩
      rw [← hr, nxt, if_neg h4]; rfl

/-- Escape, byte by byte: what has been written, and the zeros at its end. -/
def escStep (s : List UInt8 × Nat) (c : UInt8) : List UInt8 × Nat :=
  if s.2 = 2 ∧ c.toNat < 4 then (s.1 ++ [3] ++ [c], if c.toNat = 0 then 1 else 0) else (s.1 ++ [c], if c.toNat = 0 then s.2 + 1 else 0)
def escS (p : List UInt8) : List UInt8 × Nat := p.foldl escStep ([], 0)
def esc (p : List UInt8) : List UInt8 := (escS p).1
theorem escS_snoc (p : List UInt8) (c : UInt8) : escS (p ++ [c]) = escStep (escS p) c := by simp [escS]
theorem escStep_yes (s : List UInt8 × Nat) (c : UInt8) (h1 : s.2 = 2) (h2 : c.toNat < 4) : escStep s c = (s.1 ++ [3] ++ [c], if c.toNat = 0 then 0 + 1 else 0) := by
  unfold escStep; rw [if_pos ⟨h1, h2⟩]
theorem escStep_no (s : List UInt8 × Nat) (c : UInt8) (h : ¬ (s.2 = 2 ∧ c.toNat < 4)) : escStep s c = (s.1 ++ [c], if c.toNat = 0 then s.2 + 1 else 0) := by
  unfold escStep; rw [if_neg h]
theorem snoc_ind {motive : List UInt8 → Prop} (nil : motive []) (snoc : ∀ p c, motive p → motive (p ++ [c])) (p : List UInt8) : motive p := by
  have h : ∀ q : List UInt8, motive q.reverse := fun q => by
    induction q with
    | nil => exact nil
    | cons c q ih => rw [List.reverse_cons]; exact snoc _ _ ih
  have := h p.reverse
  rwa [List.reverse_reverse] at this
theorem escS_bd (p : List UInt8) : (escS p).2 ≤ 2 ∧ (escS p).1.length ≤ 2 * p.length := by
  induction p using snoc_ind with
  | nil => simp [escS]
  | snoc p c ih =>
    rw [escS_snoc]
    unfold escStep
    by_cases h1 : (escS p).2 = 2
    · by_cases h2 : c.toNat < 4
      · rw [if_pos ⟨h1, h2⟩]
        refine ⟨by split <;> simp, by simp; omega⟩
      · rw [if_neg (fun h => h2 h.2)]
        refine ⟨by rw [if_neg (by omega)]; simp, by simp; omega⟩
    · rw [if_neg (fun h => h1 h.1)]
      refine ⟨by split <;> simp <;> omega, by simp; omega⟩

/-- What Escape returns. -/
def escR (p : List UInt8) : List UInt8 × Int := if ends0 p then ([], 3) else (esc p, 0)
/-- Bytes as a slice. -/
def bv (p : List UInt8) : PV := .slice (bs p) p.length false
theorem escape_ok (p : List UInt8) (full : Bool) (H : Heap) (hl : p.length ≤ 1000000) : CallOk Tryd.prog 42 [.slice (bs p) p.length full] H (.tup [bv (escR p).1, .int .i64 (escR p).2]) H := by
  refine CallOk.body (F0 := [(0, .slice (bs p) p.length full)]) Tryd.func42 rfl Tryd.ntmps42 Tryd.results42 rfl (by kernel_rfl) rfl ?_
  refine PW.seq ?_; (repeat refine PW.seq ?_); refine PW.rg rfl fun K hK => ?_; simp (maxSteps := 3000000) (disch := omega) only [go_sem, ↓reduceIte, reduceCtorEq, pappend, plen]; refine hK _ _ ?_; clear hK K
  refine PW.seq (PW.seq ?_); (repeat refine PW.seq ?_); refine PW.rg rfl fun K hK => ?_; simp (maxSteps := 3000000) (disch := omega) only [go_sem, ↓reduceIte, reduceCtorEq, pappend, plen]; refine VCx.call (ends0_ok p full H (by omega)) rfl ?_; simp (maxSteps := 3000000) (disch := omega) only [go_sem, ↓reduceIte, reduceCtorEq, pappend, plen]; refine hK _ _ ?_; clear hK K
  (repeat refine PW.seq ?_); refine PW.cond (t := _) rfl (fun h => ?_) (fun h => ?_)
  · have he : escR p = ([], 3) := by rw [escR, if_pos h]
    rw [he]
    refine PW.seq ?_; (repeat refine PW.seq ?_); refine PW.rg rfl fun K hK => ?_; simp (maxSteps := 3000000) (disch := omega) only [go_sem, ↓reduceIte, reduceCtorEq, pappend, plen]; refine hK _ _ ?_; clear hK K
    exact PW.ret ⟨_, rfl, Fin.give (Kept.refl H) (Frz.tup2 (Frz.slice (bs_still [])) ((Still.int _ _).frz _ _))⟩
  have he : escR p = (esc p, 0) := by rw [escR, if_neg (by simp [h])]
  rw [he]
  refine PW.skip (PW.seq ?_); (repeat refine PW.seq ?_); refine PW.rg rfl fun K hK => ?_; simp (maxSteps := 3000000) (disch := omega) only [go_sem, ↓reduceIte, reduceCtorEq, pappend, plen, length_bs]; refine hK _ _ ?_; clear hK K
  refine PW.seq ?_; (repeat refine PW.seq ?_); refine PW.rg rfl fun K hK => ?_; simp (maxSteps := 3000000) (disch := omega) only [go_sem, ↓reduceIte, reduceCtorEq, pappend, plen]; refine hK _ _ ?_; clear hK K
  refine PW.seq (PW.seq ?_); (repeat refine PW.seq ?_); refine PW.rg rfl fun K hK => ?_; simp (maxSteps := 3000000) (disch := omega) only [go_sem, ↓reduceIte, reduceCtorEq, pappend, plen]; refine hK _ _ ?_; clear hK K
  refine PW.block (PW.loop ?_)
  suffices hloop : ∀ (k : Nat) (v : PV) (H1 : Heap), k ≤ p.length → Acc H.length 5 1 H1 v (bs (escS (p.take k)).1) (escS (p.take k)).1.length → Kept H.length H H1 →
      PL Tryd.prog _ _ [(0, .slice (bs p) p.length full), (4, v), (5, .int .i64 ((escS (p.take k)).2 : Int)), (12, .slice (bs p) p.length full), (13, .int .i64 (p.length : Int)), (14, .int .i64 (k : Int))] H1 _ by
    exact PL.keep [0, 4, 5, 12, 13, 14] (hloop 0 _ H (Nat.zero_le _) (Acc.nil _ _ _ _) (Kept.refl H))
  intro k v H1 hk hacc hkept
  induction hm : p.length - k using Nat.strongRecOn generalizing k v H1 with
  | _ n ih =>
    have hbd := escS_bd (p.take k)
    have hlk : (p.take k).length = k := by simp; omega
    refine PL.round (PW.seq ?_); (repeat refine PW.seq ?_); refine PW.rg rfl fun K hK => ?_; simp (maxSteps := 3000000) (disch := omega) only [go_sem, ↓reduceIte, reduceCtorEq, pappend, plen]; refine hK _ _ ?_; clear hK K
    refine PW.seq ?_
    (repeat refine PW.seq ?_); refine PW.cond (t := _) rfl (fun h => ?_) (fun h => ?_)
    · have h4 : k < p.length := by have := of_decide_eq_true h; omega
      have hby := byt_range p k
      refine PW.skip (PW.seq (PW.block (PW.seq ?_))); (repeat refine PW.seq ?_); refine PW.rg rfl fun K hK => ?_; simp (maxSteps := 3000000) (disch := omega) only [go_sem, ↓reduceIte, reduceCtorEq, pappend, plen, length_bs, bs_get]; refine hK _ _ ?_; clear hK K
      have hc : byt p k = ((p.getD k 0).toNat : Int) := rfl
      refine PW.join [0, 4, 5, 7, 12, 13, 14] (fun F' H' => ∃ v1 out1 z1, F' = [(0, .slice (bs p) p.length full), (4, v1), (5, .int .i64 (z1 : Nat)), (7, .int .u8 (byt p k)), (12, .slice (bs p) p.length full), (13, .int .i64 (p.length : Int)), (14, .int .i64 (k : Int))] ∧
        Acc H.length 5 1 H' v1 (bs out1) out1.length ∧ Kept H.length H H' ∧ out1.length ≤ 2 * k + 1 ∧ z1 ≤ 2 ∧ (out1 ++ [p.getD k 0], if (p.getD k 0).toNat = 0 then z1 + 1 else 0) = escStep (escS (p.take k)) (p.getD k 0)) ?_ ?_
      · refine PW.seq (PW.rg1 [0, 4, 5, 7, 12, 13, 14, 23] [(0, .slice (bs p) p.length full), (4, v), (5, .int .i64 ((escS (p.take k)).2 : Int)), (7, .int .u8 (byt p k)), (12, .slice (bs p) p.length full), (13, .int .i64 (p.length : Int)), (14, .int .i64 (k : Int)), (23, .bool (decide ((escS (p.take k)).2 = 2 ∧ byt p k < 4)))] H1 rfl ?_ ?_)
        · by_cases h2 : (escS (p.take k)).2 = 2
          · simp (maxSteps := 3000000) (disch := omega) only [go_sem, ↓reduceIte, reduceCtorEq, pappend, plen]
            try simp [h2]
          · simp (maxSteps := 3000000) (disch := omega) only [go_sem, ↓reduceIte, reduceCtorEq, pappend, plen]
            try simp [h2]
        (repeat refine PW.seq ?_); refine PW.cond (t := _) rfl (fun h => ?_) (fun h => ?_)
        · have h5 := of_decide_eq_true h
          obtain ⟨v2, H2, hap, hacc2, hg2, ho2⟩ := hacc.append (P := Tryd.prog) (t := 41) (tx := 41) (x := .slice [.int .u8 3] 1 true) (news := bs [3]) (m := 1) Tryd.underlying41 sz5 by5 zc5 (by decide) rfl
            (by simp [appSrc, Tryd.underlying41, scells, bs]) rfl (by omega) (by omega) hkept.1
          refine PW.seq ?_; (repeat refine PW.seq ?_); refine PW.rg rfl fun K hK => ?_; simp (maxSteps := 3000000) (disch := omega) only [go_sem, ↓reduceIte, reduceCtorEq, plen, hap]; refine hK _ _ ?_; clear hK K
          (repeat refine PW.seq ?_); refine PW.rg rfl fun K hK => ?_; simp (maxSteps := 3000000) (disch := omega) only [go_sem, ↓reduceIte, reduceCtorEq, pappend, plen]; refine hK _ _ ?_; clear hK K
          exact ⟨v2, (escS (p.take k)).1 ++ [3], 0, rfl, by rw [bs_append, List.length_append]; exact hacc2, hkept.grew hg2 (fun j hj => (hacc.own_ge j hj).1), by simp; omega, by omega, by rw [escStep_yes _ _ h5.1 (by omega)]⟩
        · have h5 := of_decide_eq_false h
          exact PW.skip ⟨v, (escS (p.take k)).1, (escS (p.take k)).2, rfl, hacc, hkept, by omega, by omega, by rw [escStep_no _ _ (fun hh => h5 ⟨hh.1, by omega⟩)]⟩
      · rintro F' H' ⟨v1, out1, z1, rfl, hacc1, hkept1, hl1, hz1, hstep⟩
        obtain ⟨v2, H2, hap, hacc2, hg2, ho2⟩ := hacc1.append (P := Tryd.prog) (t := 41) (tx := 41) (x := .slice [.int .u8 (byt p k)] 1 true) (news := bs [p.getD k 0]) (m := 1) Tryd.underlying41 sz5 by5 zc5 (by decide) rfl
          (by simp [appSrc, Tryd.underlying41, scells, bs, byt]) rfl (by omega) (by omega) hkept1.1
        refine PW.seq ?_; (repeat refine PW.seq ?_); refine PW.rg rfl fun K hK => ?_; simp (maxSteps := 3000000) (disch := omega) only [go_sem, ↓reduceIte, reduceCtorEq, plen, hap]; refine hK _ _ ?_; clear hK K
        (repeat refine PW.seq ?_); refine PW.rg rfl fun K hK => ?_; simp (maxSteps := 3000000) (disch := omega) only [go_sem, ↓reduceIte, reduceCtorEq, pappend, plen]; refine VCx.call (run_ok (z1 : Int) (byt p k) H2 (by omega) (by omega)) rfl ?_; simp (maxSteps := 3000000) (disch := omega) only [go_sem, ↓reduceIte, reduceCtorEq, pappend, plen]; refine hK _ _ ?_; clear hK K
        (repeat refine PW.seq ?_); refine PW.rg rfl fun K hK => ?_; simp (maxSteps := 3000000) (disch := omega) only [go_sem, ↓reduceIte, reduceCtorEq, pappend, plen]; refine hK _ _ ?_; clear hK K
        have e1 : p.take (k + 1) = p.take k ++ [p.getD k 0] := take_succ_byte p k h4
        have e2 : escS (p.take (k + 1)) = (out1 ++ [p.getD k 0], if (p.getD k 0).toNat = 0 then z1 + 1 else 0) := by rw [e1, escS_snoc, hstep]
        have e3 : (if byt p k = 0 then (z1 : Int) + 1 else 0) = ((if (p.getD k 0).toNat = 0 then z1 + 1 else 0 : Nat) : Int) := by
          rw [hc]
          by_cases h0 : (p.getD k 0).toNat = 0
          · rw [if_pos (by omega), if_pos h0]; rfl
          · rw [if_neg (by omega), if_neg h0]; rfl
        rw [e3]
        refine PL.keep [0, 4, 5, 12, 13, 14] ?_
        have hi := ih (p.length - (k + 1)) (by omega) (k + 1) v2 H2 (by omega) (by rw [e2, bs_append, List.length_append]; exact hacc2) (hkept1.grew hg2 (fun j hj => (hacc1.own_ge j hj).1)) rfl
        rw [e2] at hi
        exact hi
    · have h4 : k = p.length := by have := of_decide_eq_false h; omega
      subst h4
      rw [List.take_length] at hacc
      refine PW.exit (PW.seq ?_); (repeat refine PW.seq ?_); refine PW.rg rfl fun K hK => ?_; simp (maxSteps := 3000000) (disch := omega) only [go_sem, ↓reduceIte, reduceCtorEq, pappend, plen]; refine hK _ _ ?_; clear hK K
      exact PW.ret ⟨_, rfl, Fin.give hkept (Frz.tup2 (Frz.acc hacc (bs_still _)) ((Still.int _ _).frz _ _))⟩

end Go.Proofs.YtbhdollgohgkgaaDoor.S3

namespace Go.Proofs.YtbhdollgohgkgaaDoor.S3
set_option linter.all false
set_option linter.unusedVariables false
set_option linter.unusedSimpArgs false
open Pm Ty Sc Go.RowKit
set_option maxRecDepth 100000

/-- The zeros at the end. -/
def tz (l : List UInt8) : Nat := (l.reverse.takeWhile (· = 0)).length
/-- What Format returns. -/
def fmtR (t : Int) (p : List UInt8) : List UInt8 × Int := if t < 1 ∨ 255 < t then ([], 1) else if (escR p).2 = 0 then ([0, 0, 1, UInt8.ofNat t.toNat] ++ (escR p).1, 0) else ([], (escR p).2)
theorem escR_len (p : List UInt8) : (escR p).1.length ≤ 2 * p.length := by
  unfold escR
  split
  · simp
  · exact (escS_bd p).2

theorem format_ok (t : Int) (p : List UInt8) (full : Bool) (H : Heap) (hl : p.length ≤ 1000000) :
    CallOk Tryd.prog 21 [.agg [.int .i64 t, .slice (bs p) p.length full]] H (.tup [bv (fmtR t p).1, .int .i64 (fmtR t p).2]) H := by
  refine CallOk.body (F0 := [(0, .agg [.int .i64 t, .slice (bs p) p.length full])]) Tryd.func21 rfl Tryd.ntmps21 Tryd.results21 rfl (by kernel_rfl) rfl ?_
  refine PW.seq ?_; (repeat refine PW.seq ?_); refine PW.rg rfl fun K hK => ?_; simp (maxSteps := 3000000) (disch := omega) only [go_sem, ↓reduceIte, reduceCtorEq, pappend, plen]; refine hK _ _ ?_; clear hK K
  refine PW.seq (PW.seq (PW.rg1 [1, 13] [(1, .ptr H.length 0 0), (13, .bool (decide (t < 1 ∨ 255 < t)))] (H ++ [⟨50, 0, [.int .i64 t, .slice (bs p) p.length full]⟩]) rfl ?_ ?_))
  · by_cases h : t < 1
    · simp (maxSteps := 3000000) (disch := omega) only [go_sem, ↓reduceIte, reduceCtorEq, pappend, plen]
      all_goals simp [h]
    · simp (maxSteps := 3000000) (disch := omega) only [go_sem, ↓reduceIte, reduceCtorEq, pappend, plen]
      all_goals simp [h]
  (repeat refine PW.seq ?_); refine PW.cond (t := _) rfl (fun h => ?_) (fun h => ?_)
  · have h1 := of_decide_eq_true h
    have he : fmtR t p = ([], 1) := by rw [fmtR, if_pos h1]
    rw [he]
    refine PW.seq ?_; (repeat refine PW.seq ?_); refine PW.rg rfl fun K hK => ?_; simp (maxSteps := 3000000) (disch := omega) only [go_sem, ↓reduceIte, reduceCtorEq, pappend, plen]; refine hK _ _ ?_; clear hK K
    exact PW.ret ⟨_, rfl, Fin.give (Kept.more H _) (Frz.tup2 (Frz.slice (bs_still [])) ((Still.int _ _).frz _ _))⟩
  have h1 := of_decide_eq_false h
  refine PW.skip (PW.seq ?_); (repeat refine PW.seq ?_); refine PW.rg rfl fun K hK => ?_; simp (maxSteps := 3000000) (disch := omega) only [go_sem, ↓reduceIte, reduceCtorEq, pappend, plen]; refine VCx.call (escape_ok p full _ hl) rfl ?_; simp (maxSteps := 3000000) (disch := omega) only [go_sem, ↓reduceIte, reduceCtorEq, pappend, plen]; refine hK _ _ ?_; clear hK K
  refine PW.seq (PW.seq ?_); (repeat refine PW.seq ?_); refine PW.rg rfl fun K hK => ?_; simp (maxSteps := 3000000) (disch := omega) only [go_sem, ↓reduceIte, reduceCtorEq, pappend, plen]; refine hK _ _ ?_; clear hK K
  (repeat refine PW.seq ?_); refine PW.cond (t := _) rfl (fun h => ?_) (fun h => ?_)
  · have h2 : ¬ (escR p).2 = 0 := by simpa using h
    have he : fmtR t p = ([], (escR p).2) := by rw [fmtR, if_neg h1, if_neg h2]
    rw [he]
    refine PW.seq ?_; (repeat refine PW.seq ?_); refine PW.rg rfl fun K hK => ?_; simp (maxSteps := 3000000) (disch := omega) only [go_sem, ↓reduceIte, reduceCtorEq, pappend, plen]; refine hK _ _ ?_; clear hK K
    exact PW.ret ⟨_, rfl, Fin.give (Kept.more H _) (Frz.tup2 (Frz.slice (bs_still [])) ((Still.int _ _).frz _ _))⟩
  have h2 : (escR p).2 = 0 := by simpa using h
  have he : fmtR t p = ([0, 0, 1, UInt8.ofNat t.toNat] ++ (escR p).1, 0) := by rw [fmtR, if_neg h1, if_pos h2]
  rw [he]
  have hlen := escR_len p
  have hacc : Acc H.length 5 1 (H ++ [⟨50, 0, [.int .i64 t, .slice (bs p) p.length full]⟩]) (.slice (bs [0, 0, 1, UInt8.ofNat t.toNat]) 4 true) (bs [0, 0, 1, UInt8.ofNat t.toNat]) 4 := ⟨rfl, .inl rfl⟩
  have hcell : bs [0, 0, 1, UInt8.ofNat t.toNat] = [.int .u8 0, .int .u8 0, .int .u8 1, .int .u8 t] := by
    simp [bs]; omega
  obtain ⟨v2, H2, hap, hacc2, hg2, ho2⟩ := hacc.append (P := Tryd.prog) (t := 41) (tx := 41) (x := bv (escR p).1) (news := bs (escR p).1) (m := (escR p).1.length) Tryd.underlying41 sz5 by5 zc5 (by decide) rfl
    (by simp [appSrc, Tryd.underlying41, scells, bv, length_bs]) (by simp [length_bs]) (by omega) (by omega) (by simp)
  rw [hcell] at hap
  refine PW.skip (PW.seq ?_); (repeat refine PW.seq ?_); refine PW.rg rfl fun K hK => ?_; simp (maxSteps := 3000000) (disch := omega) only [go_sem, ↓reduceIte, reduceCtorEq, plen, hap]; refine hK _ _ ?_; clear hK K
  have hb : bv ([0, 0, 1, UInt8.ofNat t.toNat] ++ (escR p).1) = .slice (bs ([0, 0, 1, UInt8.ofNat t.toNat] ++ (escR p).1)) (4 + (escR p).1.length) false := by
    simp [bv]; omega
  exact PW.ret ⟨_, rfl, Fin.give ((Kept.more H _).grew hg2 (fun j hj => (hacc.own_ge j hj).1)) (Frz.tup2 (by
    have := Frz.acc hacc2 (by rw [← bs_append]; exact bs_still _)
    rw [← bs_append] at this
    rw [hb]; exact this) ((Still.int _ _).frz _ _))⟩

end Go.Proofs.YtbhdollgohgkgaaDoor.S3

namespace Go.Proofs.YtbhdollgohgkgaaDoor.S3
set_option linter.all false
set_option linter.unusedVariables false
set_option linter.unusedSimpArgs false
open Pm Ty Sc Go.RowKit
set_option maxRecDepth 100000

/-! ### the model -/
def run0 (z : Nat) (c : UInt8) : Nat := if c.toNat = 0 then z + 1 else 0
/-- Escape, from the front. -/
def escL : Nat → List UInt8 → List UInt8
  | _, [] => []
  | z, c :: r => if z = 2 ∧ c.toNat < 4 then 3 :: c :: escL (run0 0 c) r else c :: escL (run0 z c) r
theorem escL_fold : ∀ (p o : List UInt8) (z : Nat), (p.foldl escStep (o, z)).1 = o ++ escL z p
  | [], o, z => by simp [escL]
  | c :: r, o, z => by
    rw [List.foldl_cons]
    by_cases h : z = 2 ∧ c.toNat < 4
    · rw [escStep_yes _ _ h.1 h.2, escL_fold, escL, if_pos h]; simp [run0]
    · rw [escStep_no _ _ h, escL_fold, escL, if_neg h]; simp [run0]
theorem esc_eq (p : List UInt8) : esc p = escL 0 p := by
  unfold esc escS
  rw [escL_fold]
  rfl
theorem escL_last : ∀ (p : List UInt8) (z : Nat), (escL z p).getLast? = p.getLast?
  | [], z => rfl
  | [c], z => by
    unfold escL
    split <;> simp [escL]
  | c :: d :: r, z => by
    have ih : ∀ z, (escL z (d :: r)).getLast? = (d :: r).getLast? := fun z => escL_last (d :: r) z
    have hne : ∀ z, escL z (d :: r) ≠ [] := fun z h => by
      have := ih z
      rw [h] at this
      exact absurd (List.getLast?_eq_none_iff.1 this.symm) (by simp)
    unfold escL
    split
    · obtain ⟨a, l, e⟩ := List.exists_cons_of_ne_nil (hne (run0 0 c))
      have := ih (run0 0 c)
      rw [e] at this ⊢
      rw [List.getLast?_cons_cons, List.getLast?_cons_cons, List.getLast?_cons_cons, this]
    · obtain ⟨a, l, e⟩ := List.exists_cons_of_ne_nil (hne (run0 z c))
      have := ih (run0 z c)
      rw [e] at this ⊢
      rw [List.getLast?_cons_cons, List.getLast?_cons_cons, this]
theorem ends0_last (p : List UInt8) : ends0 p = (p.getLast? == some 0) := by
  unfold ends0 byt
  induction p using snoc_ind with
  | nil => rfl
  | snoc p c _ =>
    have e : (p ++ [c]).getD ((p ++ [c]).length - 1) 0 = c := by simp
    rw [e]
    simp only [List.length_append, List.length_cons, List.length_nil, List.getLast?_concat]
    rw [Bool.eq_iff_iff]
    simp
    constructor
    · intro h
      exact UInt8.toNat_inj.1 (by simpa using h)
    · rintro rfl; rfl
/-- Unescape. -/
def une : Nat → List UInt8 → List UInt8 → Option (List UInt8)
  | _, acc, [] => some acc
  | z, acc, c :: r =>
    if z = 2 ∧ c.toNat < 4 then
      match r with
      | [] => none
      | d :: r' => if c.toNat < 3 ∨ 4 ≤ d.toNat then none else une (run0 0 d) (acc ++ [d]) r'
    else une (run0 z c) (acc ++ [c]) r
theorem une_cons (z : Nat) (acc : List UInt8) (c : UInt8) (r : List UInt8) : une z acc (c :: r) = if z = 2 ∧ c.toNat < 4 then (match r with | [] => none | d :: r' => if c.toNat < 3 ∨ 4 ≤ d.toNat then none else une (run0 0 d) (acc ++ [d]) r') else une (run0 z c) (acc ++ [c]) r := by
  rw [une.eq_def]
/-- What Unescape returns. -/
def unR (b : List UInt8) : List UInt8 × Int := if ends0 b then ([], 3) else match une 0 [] b with | none => ([], 3) | some p => (p, 0)
theorem une_escL : ∀ (p acc : List UInt8) (z : Nat), une z acc (escL z p) = some (acc ++ p)
  | [], acc, z => by simp [escL, une]
  | c :: r, acc, z => by
    unfold escL
    by_cases h : z = 2 ∧ c.toNat < 4
    · rw [if_pos h]
      unfold une
      have e3 : (3 : UInt8).toNat = 3 := rfl
      rw [if_pos ⟨h.1, by rw [e3]; omega⟩]
      simp only [e3]
      rw [if_neg (by omega), une_escL r]
      simp
    · rw [if_neg h]
      unfold une
      rw [if_neg h, une_escL r]
      simp
theorem escL_une (b : List UInt8) : ∀ (acc q : List UInt8) (z : Nat), une z acc b = some q → ∃ p, q = acc ++ p ∧ b = escL z p := by
  induction hn : b.length using Nat.strongRecOn generalizing b with
  | _ n ih =>
    intro acc q z h
    cases b with
    | nil =>
      simp [une] at h
      exact ⟨[], by simp [h], rfl⟩
    | cons c r =>
      unfold une at h
      by_cases hc : z = 2 ∧ c.toNat < 4
      · rw [if_pos hc] at h
        cases r with
        | nil => simp at h
        | cons d r' =>
          simp only at h
          by_cases hd : c.toNat < 3 ∨ 4 ≤ d.toNat
          · rw [if_pos hd] at h; cases h
          · rw [if_neg hd] at h
            obtain ⟨p, hp, hb⟩ := ih r'.length (by rw [← hn]; simp only [List.length_cons]; omega) r' rfl _ _ _ h
            refine ⟨d :: p, by simp [hp], ?_⟩
            have e3 : c = 3 := UInt8.toNat_inj.1 (by show c.toNat = 3; omega)
            rw [escL, if_pos ⟨hc.1, by omega⟩, ← hb, e3]
      · rw [if_neg hc] at h
        obtain ⟨p, hp, hb⟩ := ih r.length (by rw [← hn]; simp) r rfl _ _ _ h
        exact ⟨c :: p, by simp [hp], by rw [escL, if_neg hc, ← hb]⟩
theorem une_nil_escR {p b : List UInt8} (h : escR p = (b, 0)) : unR b = (p, 0) := by
  unfold escR at h
  by_cases he : ends0 p = true
  · rw [if_pos he] at h
    simp at h
  · rw [if_neg he] at h
    obtain rfl := (Prod.mk.inj h).1
    rw [esc_eq]
    unfold unR
    rw [ends0_last, escL_last, ← ends0_last, if_neg he, une_escL]
    rfl
theorem escR_unR {p b : List UInt8} (h : unR b = (p, 0)) : escR p = (b, 0) := by
  unfold unR at h
  by_cases he : ends0 b = true
  · rw [if_pos he] at h
    simp at h
  · rw [if_neg he] at h
    split at h
    · simp at h
    · rename_i q hq
      obtain rfl := (Prod.mk.inj h).1
      obtain ⟨p', hp, hb⟩ := escL_une b _ _ _ hq
      obtain rfl : q = p' := by simpa using hp
      unfold escR
      have : ends0 q = ends0 b := by rw [ends0_last, ends0_last, hb, escL_last]
      rw [this, if_neg he, esc_eq, ← hb]
theorem unR_cases (b : List UInt8) : unR b = ([], 3) ∨ ∃ p, unR b = (p, 0) := by
  unfold unR
  split
  · exact .inl rfl
  · split
    · exact .inl rfl
    · exact .inr ⟨_, rfl⟩
theorem escR_cases (p : List UInt8) : escR p = ([], 3) ∨ escR p = (esc p, 0) := by
  unfold escR
  split
  · exact .inl rfl
  · exact .inr rfl

/-- A byte is appended. -/
theorem app_byte {B : Nat} {H : Heap} {v : PV} {out : List UInt8} (hacc : Acc B 5 1 H v (bs out) out.length) (c : UInt8) (h : out.length ≤ 100000000) (hB : B ≤ H.length) :
    ∃ v2 H2, pappend Tryd.prog H 41 41 v (.slice [.int .u8 (c.toNat : Int)] 1 true) = some (v2, H2) ∧ Acc B 5 1 H2 v2 (bs (out ++ [c])) (out ++ [c]).length ∧ (∀ H0, Kept B H0 H → Kept B H0 H2) := by
  obtain ⟨v2, H2, hap, hacc2, hg2, ho2⟩ := hacc.append (P := Tryd.prog) (t := 41) (tx := 41) (x := .slice [.int .u8 (c.toNat : Int)] 1 true) (news := bs [c]) (m := 1) Tryd.underlying41 sz5 by5 zc5 (by decide) rfl
    (by simp [appSrc, Tryd.underlying41, scells, bs]) rfl (by omega) (by omega) hB
  exact ⟨v2, H2, hap, by rw [bs_append, List.length_append]; exact hacc2, fun H0 hk => hk.grew hg2 (fun j hj => (hacc.own_ge j hj).1)⟩

theorem drop_cons' (b : List UInt8) (k : Nat) (h : k < b.length) : b.drop k = b.getD k 0 :: b.drop (k + 1) := by
  rw [List.drop_eq_getElem_cons h]
  simp [h]
theorem run0_le (z : Nat) (c : UInt8) : run0 z c ≤ z + 1 := by unfold run0; split <;> omega

theorem unescape_ok (b : List UInt8) (full : Bool) (H : Heap) (hl : b.length ≤ 2000000) : CallOk Tryd.prog 25 [.slice (bs b) b.length full] H (.tup [bv (unR b).1, .int .i64 (unR b).2]) H := by
  refine CallOk.body (F0 := [(0, .slice (bs b) b.length full)]) Tryd.func25 rfl Tryd.ntmps25 Tryd.results25 rfl (by kernel_rfl) rfl ?_
  refine PW.seq ?_; (repeat refine PW.seq ?_); refine PW.rg rfl fun K hK => ?_; simp (maxSteps := 3000000) (disch := omega) only [go_sem, ↓reduceIte, reduceCtorEq, pappend, plen]; refine hK _ _ ?_; clear hK K
  refine PW.seq (PW.seq ?_); (repeat refine PW.seq ?_); refine PW.rg rfl fun K hK => ?_; simp (maxSteps := 3000000) (disch := omega) only [go_sem, ↓reduceIte, reduceCtorEq, pappend, plen]; refine VCx.call (ends0_ok b full H hl) rfl ?_; simp (maxSteps := 3000000) (disch := omega) only [go_sem, ↓reduceIte, reduceCtorEq, pappend, plen]; refine hK _ _ ?_; clear hK K
  (repeat refine PW.seq ?_); refine PW.cond (t := _) rfl (fun h => ?_) (fun h => ?_)
  · have he : unR b = ([], 3) := by rw [unR, if_pos h]
    rw [he]
    refine PW.seq ?_; (repeat refine PW.seq ?_); refine PW.rg rfl fun K hK => ?_; simp (maxSteps := 3000000) (disch := omega) only [go_sem, ↓reduceIte, reduceCtorEq, pappend, plen]; refine hK _ _ ?_; clear hK K
    exact PW.ret ⟨_, rfl, Fin.give (Kept.refl H) (Frz.tup2 (Frz.slice (bs_still [])) ((Still.int _ _).frz _ _))⟩
  have hu : unR b = match une 0 [] b with | none => ([], 3) | some p => (p, 0) := by rw [unR, if_neg (by simp [h])]
  refine PW.skip (PW.seq ?_); (repeat refine PW.seq ?_); refine PW.rg rfl fun K hK => ?_; simp (maxSteps := 3000000) (disch := omega) only [go_sem, ↓reduceIte, reduceCtorEq, pappend, plen, length_bs]; refine hK _ _ ?_; clear hK K
  refine PW.seq ?_; (repeat refine PW.seq ?_); refine PW.rg rfl fun K hK => ?_; simp (maxSteps := 3000000) (disch := omega) only [go_sem, ↓reduceIte, reduceCtorEq, pappend, plen]; refine hK _ _ ?_; clear hK K
  refine PW.seq (PW.seq ?_); (repeat refine PW.seq ?_); refine PW.rg rfl fun K hK => ?_; simp (maxSteps := 3000000) (disch := omega) only [go_sem, ↓reduceIte, reduceCtorEq, pappend, plen]; refine hK _ _ ?_; clear hK K
  refine PW.block (PW.loop ?_)
  suffices hloop : ∀ (k z : Nat) (out : List UInt8) (v : PV) (H1 : Heap), k ≤ b.length → z ≤ 2 → out.length ≤ k → une 0 [] b = une z out (b.drop k) → Acc H.length 5 1 H1 v (bs out) out.length → Kept H.length H H1 →
      PL Tryd.prog _ _ [(0, .slice (bs b) b.length full), (4, v), (5, .int .i64 (z : Int)), (6, .int .i64 (k : Int))] H1 _ by
    exact PL.keep [0, 4, 5, 6] (hloop 0 0 [] _ H (Nat.zero_le _) (by omega) (by simp) rfl (Acc.nil _ _ _ _) (Kept.refl H))
  intro k z out v H1 hk hz ho heq hacc hkept
  induction hm : b.length - k using Nat.strongRecOn generalizing k z out v H1 with
  | _ n ih =>
    refine PL.round (PW.seq (PW.seq ?_)); (repeat refine PW.seq ?_); refine PW.rg rfl fun K hK => ?_; simp (maxSteps := 3000000) (disch := omega) only [go_sem, ↓reduceIte, reduceCtorEq, pappend, plen, length_bs]; refine hK _ _ ?_; clear hK K
    (repeat refine PW.seq ?_); refine PW.cond (t := _) rfl (fun h => ?_) (fun h => ?_)
    · have h4 : k < b.length := by have := of_decide_eq_true h; omega
      have hby := byt_range b k
      have hc : byt b k = ((b.getD k 0).toNat : Int) := rfl
      rw [drop_cons' b k h4, une_cons] at heq
      refine PW.skip (PW.seq (PW.block (PW.seq ?_))); (repeat refine PW.seq ?_); refine PW.rg rfl fun K hK => ?_; simp (maxSteps := 3000000) (disch := omega) only [go_sem, ↓reduceIte, reduceCtorEq, pappend, plen, length_bs, bs_get]; refine hK _ _ ?_; clear hK K
      refine PW.join [0, 4, 5, 6, 7] (fun F' H' => ∃ (k1 z1 : Nat) (c1 : UInt8), F' = [(0, .slice (bs b) b.length full), (4, v), (5, .int .i64 (z1 : Int)), (6, .int .i64 (k1 : Int)), (7, .int .u8 (c1.toNat : Int))] ∧ H' = H1 ∧
        k ≤ k1 ∧ k1 < b.length ∧ z1 ≤ 2 ∧ (z1 = 2 → c1.toNat ≠ 0) ∧ une 0 [] b = une (run0 z1 c1) (out ++ [c1]) (b.drop (k1 + 1))) ?_ ?_
      · refine PW.seq (PW.rg1 [0, 4, 5, 6, 7, 27] [(0, .slice (bs b) b.length full), (4, v), (5, .int .i64 (z : Int)), (6, .int .i64 (k : Int)), (7, .int .u8 (byt b k)), (27, .bool (decide (z = 2 ∧ byt b k < 4)))] H1 rfl ?_ ?_)
        · by_cases h2 : z = 2
          · simp (maxSteps := 3000000) (disch := omega) only [go_sem, ↓reduceIte, reduceCtorEq, pappend, plen]
            try simp [h2]
          · simp (maxSteps := 3000000) (disch := omega) only [go_sem, ↓reduceIte, reduceCtorEq, pappend, plen]
            try simp [h2]
        (repeat refine PW.seq ?_); refine PW.cond (t := _) rfl (fun h => ?_) (fun h => ?_)
        · have h5 := of_decide_eq_true h
          rw [if_pos ⟨h5.1, by omega⟩] at heq
          have hb1 := byt_range b (k + 1)
          refine PW.seq (PW.seq (PW.rg1 [0, 4, 5, 6, 7, 44] [(0, .slice (bs b) b.length full), (4, v), (5, .int .i64 (z : Int)), (6, .int .i64 (k : Int)), (7, .int .u8 (byt b k)), (44, .bool (decide (byt b k < 3 ∨ k + 1 = b.length ∨ 4 ≤ byt b (k + 1))))] H1 rfl ?_ ?_))
          · by_cases h6 : byt b k < 3
            · simp (maxSteps := 3000000) (disch := omega) only [go_sem, ↓reduceIte, reduceCtorEq, pappend, plen, length_bs, bs_get]
              try simp [h6]
            · by_cases h7 : k + 1 = b.length
              · simp (maxSteps := 3000000) (disch := omega) only [go_sem, ↓reduceIte, reduceCtorEq, pappend, plen, length_bs, bs_get]
                try simp [h6, h7]
              · simp (maxSteps := 3000000) (disch := omega) only [go_sem, ↓reduceIte, reduceCtorEq, pappend, plen, length_bs, bs_get]
                try simp [h6, h7]
          (repeat refine PW.seq ?_); refine PW.cond (t := _) rfl (fun h => ?_) (fun h => ?_)
          · have h6 := of_decide_eq_true h
            have hn : une 0 [] b = none := by
              rw [heq]
              split
              · rfl
              · rename_i d r' hr
                rw [if_pos]
                have hlt : k + 1 < b.length := by
                  have := congrArg List.length hr
                  simp at this
                  omega
                rw [drop_cons' b (k + 1) hlt] at hr
                have e1 := (List.cons.inj hr).1
                have e2 : byt b (k + 1) = ((b.getD (k + 1) 0).toNat : Int) := rfl
                rw [e1] at e2
                omega
            rw [hu, hn]
            refine PW.seq ?_; (repeat refine PW.seq ?_); refine PW.rg rfl fun K hK => ?_; simp (maxSteps := 3000000) (disch := omega) only [go_sem, ↓reduceIte, reduceCtorEq, pappend, plen]; refine hK _ _ ?_; clear hK K
            exact PW.ret ⟨_, rfl, Fin.give hkept (Frz.tup2 (Frz.slice (bs_still [])) ((Still.int _ _).frz _ _))⟩
          · have h6 := of_decide_eq_false h
            have hlt : k + 1 < b.length := by omega
            refine PW.skip (PW.seq ?_); (repeat refine PW.seq ?_); refine PW.rg rfl fun K hK => ?_; simp (maxSteps := 3000000) (disch := omega) only [go_sem, ↓reduceIte, reduceCtorEq, pappend, plen]; refine hK _ _ ?_; clear hK K
            (repeat refine PW.seq ?_); refine PW.rg rfl fun K hK => ?_; simp (maxSteps := 3000000) (disch := omega) only [go_sem, ↓reduceIte, reduceCtorEq, pappend, plen, length_bs, bs_get]; refine hK _ _ ?_; clear hK K
            refine ⟨k + 1, 0, b.getD (k + 1) 0, rfl, rfl, by omega, hlt, by omega, by omega, ?_⟩
            rw [heq, drop_cons' b (k + 1) hlt]
            have e2 : byt b (k + 1) = ((b.getD (k + 1) 0).toNat : Int) := rfl
            simp only
            rw [if_neg (by omega)]
        · have h5 := of_decide_eq_false h
          rw [if_neg (by omega)] at heq
          exact PW.skip ⟨k, z, b.getD k 0, rfl, rfl, by omega, h4, hz, by omega, heq⟩
      · rintro F' H' ⟨k1, z1, c1, rfl, rfl, hk1, hk1', hz1, hzz, heq1⟩
        have hc1 := c1.toNat_lt
        obtain ⟨v2, H2, hap, hacc2, hk2⟩ := app_byte hacc c1 (by omega) hkept.1
        refine PW.seq ?_; (repeat refine PW.seq ?_); refine PW.rg rfl fun K hK => ?_; simp (maxSteps := 3000000) (disch := omega) only [go_sem, ↓reduceIte, reduceCtorEq, plen, hap]; refine hK _ _ ?_; clear hK K
        have hrun : (if (c1.toNat : Int) = 0 then (z1 : Int) + 1 else 0) = ((run0 z1 c1 : Nat) : Int) := by
          unfold run0
          by_cases h0 : c1.toNat = 0
          · rw [if_pos h0, if_pos (by omega)]; rfl
          · rw [if_neg h0, if_neg (by omega)]; rfl
        (repeat refine PW.seq ?_); refine PW.rg rfl fun K hK => ?_; simp (maxSteps := 3000000) (disch := omega) only [go_sem, ↓reduceIte, reduceCtorEq, pappend, plen]; refine VCx.call (run_ok (z1 : Int) (c1.toNat : Int) _ (by omega) (by omega)) rfl ?_; rw [hrun]; simp (maxSteps := 3000000) (disch := omega) only [go_sem, ↓reduceIte, reduceCtorEq, pappend, plen]; refine hK _ _ ?_; clear hK K
        (repeat refine PW.seq ?_); refine PW.rg rfl fun K hK => ?_; simp (maxSteps := 3000000) (disch := omega) only [go_sem, ↓reduceIte, reduceCtorEq, pappend, plen]; refine hK _ _ ?_; clear hK K
        refine PL.keep [0, 4, 5, 6] ?_
        have hr : run0 z1 c1 ≤ 2 := by unfold run0; split <;> omega
        refine ih (b.length - (k1 + 1)) (by omega) (k1 + 1) (run0 z1 c1) (out ++ [c1]) v2 H2 (by omega) hr (by simp; omega) heq1 hacc2 (hk2 _ hkept) rfl
    · have h4 : k = b.length := by have := of_decide_eq_false h; omega
      subst h4
      have hs : une 0 [] b = some out := by rw [heq]; simp [une]
      rw [hu, hs]
      refine PW.exit (PW.seq ?_); (repeat refine PW.seq ?_); refine PW.rg rfl fun K hK => ?_; simp (maxSteps := 3000000) (disch := omega) only [go_sem, ↓reduceIte, reduceCtorEq, pappend, plen]; refine hK _ _ ?_; clear hK K
      exact PW.ret ⟨_, rfl, Fin.give hkept (Frz.tup2 (Frz.acc hacc (bs_still _)) ((Still.int _ _).frz _ _))⟩

end Go.Proofs.YtbhdollgohgkgaaDoor.S3

namespace Go.Proofs.YtbhdollgohgkgaaDoor.S3
set_option linter.all false
set_option linter.unusedVariables false
set_option linter.unusedSimpArgs false
open Pm Ty Sc Go.RowKit
set_option maxRecDepth 100000

/-- The reference's first walk: what is left without the bytes 3 behind two bytes 0. -/
def ru : Nat → List UInt8 → List UInt8 → List UInt8
  | _, acc, [] => acc
  | z, acc, c :: r => if z = 2 ∧ c.toNat = 3 then ru 0 acc r else ru (if c.toNat = 0 then min (z + 1) 2 else 0) (acc ++ [c]) r
theorem ru_cons (z : Nat) (acc : List UInt8) (c : UInt8) (r : List UInt8) : ru z acc (c :: r) = if z = 2 ∧ c.toNat = 3 then ru 0 acc r else ru (if c.toNat = 0 then min (z + 1) 2 else 0) (acc ++ [c]) r := rfl
theorem ru_escL : ∀ (p acc : List UInt8) (z : Nat), z ≤ 2 → ru z acc (escL z p) = acc ++ p
  | [], acc, z, _ => by simp [escL, ru]
  | c :: r, acc, z, hz => by
    unfold escL
    by_cases h : z = 2 ∧ c.toNat < 4
    · rw [if_pos h, ru_cons, if_pos ⟨h.1, rfl⟩, ru_cons, if_neg (by omega)]
      have e : (if c.toNat = 0 then min (0 + 1) 2 else 0) = run0 0 c := by unfold run0; split <;> rfl
      rw [e, ru_escL r _ _ (by have := run0_le 0 c; omega)]
      simp
    · rw [if_neg h, ru_cons, if_neg (by omega)]
      have e : (if c.toNat = 0 then min (z + 1) 2 else 0) = run0 z c := by
        unfold run0
        by_cases h0 : c.toNat = 0
        · rw [if_pos h0, if_pos h0]; omega
        · rw [if_neg h0, if_neg h0]
      rw [e, ru_escL r _ _ (by unfold run0; split <;> omega)]
      simp
theorem ru_len : ∀ (b acc : List UInt8) (z : Nat), (ru z acc b).length ≤ acc.length + b.length
  | [], acc, z => by simp [ru]
  | c :: r, acc, z => by
    rw [ru_cons]
    split
    · have := ru_len r acc 0; simp; omega
    · have := ru_len r (acc ++ [c]) (if c.toNat = 0 then min (z + 1) 2 else 0); simp at this ⊢; omega
theorem unR_ref (b : List UInt8) : unR b = if (escR (ru 0 [] b)).2 ≠ 0 ∨ b ≠ (escR (ru 0 [] b)).1 then ([], 3) else (ru 0 [] b, 0) := by
  rcases unR_cases b with h | ⟨p, h⟩
  · rw [h, if_pos]
    by_cases h2 : (escR (ru 0 [] b)).2 = 0
    · right
      intro h1
      have : escR (ru 0 [] b) = (b, 0) := Prod.ext h1.symm h2
      rw [une_nil_escR this] at h
      simp at h
    · exact .inl h2
  · have he := escR_unR h
    have hr : ru 0 [] b = p := by
      rcases escR_cases p with h1 | h1
      · rw [h1] at he; simp at he
      · rw [h1] at he
        have : b = escL 0 p := by rw [← esc_eq]; exact (Prod.mk.inj he).1.symm
        rw [this, ru_escL p [] 0 (by omega)]
        rfl
    rw [h, hr, he, if_neg (by simp)]

theorem unR_len (b : List UInt8) : (unR b).1.length ≤ b.length := by
  rw [unR_ref]
  split
  · simp
  · have := ru_len b [] 0; simpa using this

end Go.Proofs.YtbhdollgohgkgaaDoor.S3

namespace Go.Proofs.YtbhdollgohgkgaaDoor.S3
set_option linter.all false
set_option linter.unusedVariables false
set_option linter.unusedSimpArgs false
open Pm Ty Sc Go.RowKit
set_option maxRecDepth 100000

def un (us : List (Int × List UInt8)) (i : Nat) : Int × List UInt8 := us.getD i (0, [])
/-! ### no start code within -/
def noc : Nat → List UInt8 → Prop
  | _, [] => True
  | z, c :: r => ¬ (2 ≤ z ∧ c.toNat < 3) ∧ noc (run0 z c) r
theorem noc_escL : ∀ (p : List UInt8) (z : Nat), z ≤ 2 → noc z (escL z p)
  | [], z, _ => trivial
  | c :: r, z, hz => by
    unfold escL
    by_cases h : z = 2 ∧ c.toNat < 4
    · rw [if_pos h]
      refine ⟨fun hh => absurd hh.2 (by decide), ?_⟩
      rw [show run0 z 3 = 0 from rfl]
      exact ⟨by omega, noc_escL r _ (by have := run0_le 0 c; omega)⟩
    · rw [if_neg h]
      refine ⟨by omega, noc_escL r _ ?_⟩
      unfold run0
      split <;> omega
end Go.Proofs.YtbhdollgohgkgaaDoor.S3

namespace Go.Proofs.YtbhdollgohgkgaaDoor.S3
set_option linter.all false
set_option linter.unusedVariables false
set_option linter.unusedSimpArgs false
open Pm Ty Sc Go.RowKit
set_option maxRecDepth 100000

/-! ### the model -/
def trm (b : List UInt8) (lo : Nat) : Nat → Nat
  | 0 => 0
  | k + 1 => if lo ≤ k ∧ byt b k = 0 then trm b lo k else k + 1
theorem trm_le (b : List UInt8) (lo : Nat) : ∀ k, trm b lo k ≤ k
  | 0 => Nat.le_refl _
  | k + 1 => by rw [trm]; split; have := trm_le b lo k; omega; omega
theorem trm_ge (b : List UInt8) (lo : Nat) : ∀ k, lo ≤ k → lo ≤ trm b lo k
  | 0, h => h
  | k + 1, h => by
    rw [trm]
    split
    · exact trm_ge b lo k (by omega)
    · exact h
theorem trm_step (b : List UInt8) (lo k : Nat) (h : lo < k ∧ byt b (k - 1) = 0) : trm b lo k = trm b lo (k - 1) := by
  obtain ⟨j, rfl⟩ : ∃ j, k = j + 1 := ⟨k - 1, by omega⟩
  rw [trm, if_pos ⟨by omega, h.2⟩]
  rfl
theorem trm_stop (b : List UInt8) (lo k : Nat) (h : ¬ (lo < k ∧ byt b (k - 1) = 0)) : trm b lo k = k := by
  cases k with
  | zero => rfl
  | succ k => rw [trm, if_neg (fun hh => h ⟨by omega, hh.2⟩)]
theorem nxt_le (p : List UInt8) (i : Nat) : nxt p i ≤ p.length := by
  induction hm : p.length - i using Nat.strongRecOn generalizing i with
  | _ n ih =>
    rw [nxt]
    split
    · split
      · omega
      · exact ih (p.length - (i + 1)) (by omega) (i + 1) rfl
    · exact Nat.le_refl _
theorem nxt_ge (p : List UInt8) (i : Nat) (h : i ≤ p.length) : i ≤ nxt p i := by
  induction hm : p.length - i using Nat.strongRecOn generalizing i with
  | _ n ih =>
    rw [nxt]
    split
    · split
      · exact Nat.le_refl _
      · have := ih (p.length - (i + 1)) (by omega) (i + 1) (by omega) rfl; omega
    · exact h
theorem nxt_room (p : List UInt8) (i : Nat) (h : nxt p i < p.length) : nxt p i + 4 ≤ p.length := by
  induction hm : p.length - i using Nat.strongRecOn generalizing i with
  | _ n ih =>
    rw [nxt] at h ⊢
    split
    · rename_i h4
      rw [if_pos h4] at h
      split
      · exact h4
      · rename_i hc
        rw [if_neg hc] at h
        exact ih (p.length - (i + 1)) (by omega) (i + 1) h rfl
    · rename_i h4
      rw [if_neg h4] at h
      omega
def part (b : List UInt8) (i j : Nat) : List UInt8 := (b.drop i).take (j - i)
theorem part_len (b : List UInt8) (i j : Nat) (h : j ≤ b.length) : (part b i j).length = j - i := by simp [part]; omega
theorem bs_part (b : List UInt8) (i j : Nat) : ((bs b).drop i).take (j - i) = bs (part b i j) := by simp [bs, part]

structure Fnd where
  t : Int
  p : List UInt8
  fr : Nat
  to : Nat
  nx : Nat
def fd (x : Fnd) : List PV := [.int .i64 x.t, bv x.p, .int .i64 x.fr, .int .i64 x.to, .int .i64 x.nx]
def fc (l : List Fnd) : List PV := l.flatMap fd
def dd (x : Nat × Nat) : List PV := [.int .i64 x.1, .int .i64 x.2]
def dc (l : List (Nat × Nat)) : List PV := l.flatMap dd
def splF (b : List UInt8) : Nat → Nat → List Fnd → List (Nat × Nat) → List Fnd × List (Nat × Nat)
  | 0, _, us, ds => (us, ds)
  | n + 1, i, us, ds =>
    if i < b.length then
      if (unR (part b (i + 4) (trm b (i + 4) (nxt b (i + 4))))).2 = 0 then
        splF b n (nxt b (i + 4)) (us ++ [⟨byt b (i + 3), (unR (part b (i + 4) (trm b (i + 4) (nxt b (i + 4))))).1, i, trm b (i + 4) (nxt b (i + 4)), nxt b (i + 4)⟩]) ds
      else splF b n (nxt b (i + 4)) us (ds ++ [(i, trm b (i + 4) (nxt b (i + 4)))])
    else (us, ds)
def spl (b : List UInt8) : List Fnd × List (Nat × Nat) := splF b (b.length + 1) (nxt b 0) [] (if 0 < trm b 0 (nxt b 0) then [(0, nxt b 0)] else [])

theorem trim_ok (b : List UInt8) (full : Bool) (lo hi : Nat) (H : Heap) (hl : b.length ≤ 2000000) (hi' : hi ≤ b.length) (hlo : lo ≤ 2000010) :
    CallOk Tryd.prog 24 [.slice (bs b) b.length full, .int .i64 (lo : Int), .int .i64 (hi : Int)] H (.int .i64 (trm b lo hi : Int)) H := by
  generalize hr : trm b lo hi = r
  refine CallOk.body (F0 := [(0, .slice (bs b) b.length full), (1, .int .i64 (lo : Int)), (2, .int .i64 (hi : Int))]) Tryd.func24 rfl Tryd.ntmps24 Tryd.results24 rfl (by kernel_rfl) rfl ?_
  refine PW.seq ?_; (repeat refine PW.seq ?_); refine PW.rg rfl fun K hK => ?_; simp (maxSteps := 3000000) (disch := omega) only [go_sem, ↓reduceIte, reduceCtorEq, pappend, plen]; refine hK _ _ ?_; clear hK K
  refine PW.seq (PW.block (PW.loop ?_))
  refine PL.keep [0, 1, 2] (?_ : PL _ _ _ [(0, .slice (bs b) b.length full), (1, .int .i64 (lo : Int)), (2, .int .i64 (hi : Int))] _ _)
  induction hm : hi using Nat.strongRecOn generalizing hi with
  | _ n ih =>
    subst hm
    refine PL.round (PW.seq (PW.seq (PW.rg1 [0, 1, 2, 17] [(0, .slice (bs b) b.length full), (1, .int .i64 (lo : Int)), (2, .int .i64 (hi : Int)), (17, .bool (decide (lo < hi ∧ byt b (hi - 1) = 0)))] H rfl ?_ ?_)))
    · by_cases h1 : lo < hi
      · have e : ((hi : Int) - 1) = ((hi - 1 : Nat) : Int) := by omega
        simp (maxSteps := 3000000) (disch := omega) only [go_sem, ↓reduceIte, reduceCtorEq, pappend, plen, length_bs, bs_get, e]
        try simp [h1]
        rw [Bool.eq_iff_iff]; simp
      · simp (maxSteps := 3000000) (disch := omega) only [go_sem, ↓reduceIte, reduceCtorEq, pappend, plen, length_bs, bs_get]
        try simp [h1]
    (repeat refine PW.seq ?_); refine PW.cond (t := _) rfl (fun h => ?_) (fun h => ?_)
    · have h4 := of_decide_eq_true h
      refine PW.skip (PW.block ?_); (repeat refine PW.seq ?_); refine PW.rg rfl fun K hK => ?_; simp (maxSteps := 3000000) (disch := omega) only [go_sem, ↓reduceIte, reduceCtorEq, pappend, plen]; refine hK _ _ ?_; clear hK K
      refine PL.keep [0, 1, 2] ?_
      have e : ((hi : Int) - 1) = ((hi - 1 : Nat) : Int) := by omega
      have := ih (hi - 1) (by omega) (hi - 1) (by omega) (by rw [← hr, trm_step b lo hi h4]) rfl
      rw [← e] at this
      exact this
    · have h4 := of_decide_eq_false h
      rw [trm_stop b lo hi h4] at hr
      subst hr
      refine PW.exit (PW.seq ?_); (repeat refine PW.seq ?_); refine PW.rg rfl fun K hK => ?_; simp (maxSteps := 3000000) (disch := omega) only [go_sem, ↓reduceIte, reduceCtorEq, pappend, plen]; refine hK _ _ ?_; clear hK K
      exact PW.ret ⟨_, rfl, .inl ⟨rfl, rfl⟩⟩

end Go.Proofs.YtbhdollgohgkgaaDoor.S3

namespace Go.Proofs.YtbhdollgohgkgaaDoor.S3
set_option linter.all false
set_option linter.unusedVariables false
set_option linter.unusedSimpArgs false
open Pm Ty Sc Go.RowKit
set_option maxRecDepth 100000

end Go.Proofs.YtbhdollgohgkgaaDoor.S3

namespace Go.Proofs.YtbhdollgohgkgaaDoor.S3
set_option linter.all false
set_option linter.unusedVariables false
set_option linter.unusedSimpArgs false
open Pm Ty Sc Go.RowKit
set_option maxRecDepth 100000

end Go.Proofs.YtbhdollgohgkgaaDoor.S3

namespace Go.Proofs.YtbhdollgohgkgaaDoor.S3
set_option linter.all false
set_option linter.unusedVariables false
set_option linter.unusedSimpArgs false
open Pm Ty Sc Go.RowKit
set_option maxRecDepth 100000

def fn (l : List Fnd) (i : Nat) : Fnd := l.getD i ⟨0, [], 0, 0, 0⟩
theorem splF_len (b : List UInt8) : ∀ (n i : Nat) (us : List Fnd) (ds : List (Nat × Nat)), (splF b n i us ds).1.length ≤ us.length + n ∧ (splF b n i us ds).2.length ≤ ds.length + n
  | 0, i, us, ds => by simp [splF]
  | n + 1, i, us, ds => by
    unfold splF
    split
    · split
      · have := splF_len b n (nxt b (i + 4)) (us ++ [⟨byt b (i + 3), (unR (part b (i + 4) (trm b (i + 4) (nxt b (i + 4))))).1, i, trm b (i + 4) (nxt b (i + 4)), nxt b (i + 4)⟩]) ds
        simp at this; omega
      · have := splF_len b n (nxt b (i + 4)) us (ds ++ [(i, trm b (i + 4) (nxt b (i + 4)))])
        simp at this; omega
    · simp
theorem spl_len (b : List UInt8) : (spl b).1.length ≤ b.length + 1 ∧ (spl b).2.length ≤ b.length + 2 := by
  have := splF_len b (b.length + 1) (nxt b 0) [] (if 0 < trm b 0 (nxt b 0) then [(0, nxt b 0)] else [])
  unfold spl
  refine ⟨by simpa using this.1, ?_⟩
  have h2 := this.2
  have : (if 0 < trm b 0 (nxt b 0) then [(0, nxt b 0)] else []).length ≤ 1 := by split <;> simp
  omega

end Go.Proofs.YtbhdollgohgkgaaDoor.S3
