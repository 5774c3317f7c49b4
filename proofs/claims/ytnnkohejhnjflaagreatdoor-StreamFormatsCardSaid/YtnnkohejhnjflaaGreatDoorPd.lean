/-
  Contracts of chapter 11: PutHeader, the program's and the reference's.
-/
import Derived.Test.YtnnkohejhnjflaaGreatDoorPb
import Derived.Test.YtnnkohejhnjflaaGreatDoorBy
namespace Go.Proofs.YtnnkohejhnjflaaGreatDoor.Sc
set_option linter.all false
set_option linter.unusedVariables false
set_option linter.unusedSimpArgs false
open Pm Ty Go.RowKit

def hbits (p : Pi) : List Bool := vbits p.od.toNat 10 ++ vbits p.ty.toNat 2 ++ vbits p.st.toNat 2 ++ [p.tf, p.rp, p.al]
/-- A unit as a value. -/
def uv (t : Int) (q : List UInt8) : PV := .agg [.int .i64 t, .slice (bs q) q.length false]
def putH (p : Pi) : Int × List UInt8 × Int := if codd p then (181, pk (hbits p ++ [true]), 0) else (0, [], 2)
theorem all_scoped {n : Nat} {xs : List PV} (h : ∀ x ∈ xs, Scoped n x) : ∀ (j : Nat) (x : PV), xs[j]? = some x → Scoped n x := fun j x hx => h x (List.mem_of_getElem? hx)
theorem uv_scoped (n : Nat) (t : Int) (q : List UInt8) : Scoped n (uv t q) := ag_scoped fun x hx => by
  simp only [List.mem_cons, List.not_mem_nil, or_false] at hx
  rcases hx with rfl | rfl
  · exact .int _ _
  · exact sl_scoped (bs_scoped _ _)
theorem uve_scoped (n : Nat) (t : Int) (q : List UInt8) (e : Int) : Scoped n (.tup [uv t q, .int .i64 e]) := .tup (all_scoped fun x hx => by
  simp only [List.mem_cons, List.not_mem_nil, or_false] at hx
  rcases hx with rfl | rfl
  · exact uv_scoped _ _ _
  · exact .int _ _)
theorem vbits1 (b : Bool) : vbits (if b then 1 else 0) 1 = [b] := by cases b <;> rfl
theorem codd_rng {p : Pi} (h : codd p = true) : 0 ≤ p.od ∧ p.od ≤ 1023 ∧ 1 ≤ p.ty ∧ p.ty ≤ 3 ∧ 1 ≤ p.st ∧ p.st ≤ 3 := by
  simp [codd] at h; omega
theorem wA0 (j : Nat) : wA j [] = ⟨136, 0, [.msl j 0 0 0 1 true, .int .i64 0]⟩ := rfl
theorem wB0 : wB [] = ⟨5, 0, []⟩ := rfl

theorem putH_ok (p : Pi) (H : Heap) : CallOk Tryz.prog 94 [.agg (pic p)] H (.tup [uv (putH p).1 (putH p).2.1, .int .i64 (putH p).2.2]) H := by
  generalize hr : putH p = r
  obtain ⟨ty, st, od, tf, rp, al⟩ := p
  have hcd := fun H => codd_ok ⟨ty, st, od, tf, rp, al⟩ H
  refine CallOk.body (F0 := [(0, .agg [.int .i64 ty, .int .i64 st, .int .i64 od, .bool tf, .bool rp, .bool al])]) Tryz.func94 rfl Tryz.ntmps94 Tryz.results94 rfl (by kernel_rfl) rfl ?_
  (repeat refine PW.seq ?_); refine PW.rg rfl fun K hK => ?_; simp (maxSteps := 3000000) (disch := omega) only [go_sem, ↓reduceIte, reduceCtorEq, pappend, plen]; refine hK _ _ ?_; clear hK K
  (repeat refine PW.seq ?_); refine PW.rg rfl fun K hK => ?_; simp (maxSteps := 3000000) (disch := omega) only [go_sem, ↓reduceIte, reduceCtorEq, pappend, plen]; refine VCx.call (hcd _) rfl ?_; simp (maxSteps := 3000000) (disch := omega) only [go_sem, ↓reduceIte, reduceCtorEq, pappend, plen]; refine hK _ _ ?_; clear hK K
  (repeat refine PW.seq ?_); refine PW.cond (t := _) rfl (fun h => ?_) (fun h => ?_)
  · have h1 : codd ⟨ty, st, od, tf, rp, al⟩ = false := by simpa using h
    (repeat refine PW.seq ?_); refine PW.rg rfl fun K hK => ?_; simp (maxSteps := 3000000) (disch := omega) only [go_sem, ↓reduceIte, reduceCtorEq, pappend, plen]; refine hK _ _ ?_; clear hK K
    refine PW.ret ⟨.tup [.agg [.int .i64 0, .slice [] 0 true], .int .i64 2], by simp (maxSteps := 3000000) (disch := omega) only [go_sem, ↓reduceIte, reduceCtorEq, pappend, plen, presults, presult, List.mapM_cons, List.mapM_nil, Option.pure_def, Option.bind_eq_bind, Option.bind_some, Array.toList], ?_⟩
    rw [← hr, putH, h1]
    exact Fin.base (Fz.tupC ⟨Fz.aggC ⟨.id (.int _ _), .slice rfl (fun j x y hx => by simp at hx) (fun e => by cases e), trivial⟩, .id (.int _ _), trivial⟩)
  have h1 : codd ⟨ty, st, od, tf, rp, al⟩ = true := by simpa using h
  obtain ⟨g1, g2, g3, g4, g5, g6⟩ := codd_rng h1
  simp only at g1 g2 g3 g4 g5 g6
  refine PW.skip ?_
  (repeat refine PW.seq ?_); refine PW.rg rfl fun K hK => ?_; simp (maxSteps := 3000000) (disch := omega) only [go_sem, ↓reduceIte, reduceCtorEq, pappend, plen]; refine VCx.call (neww_ok _) rfl ?_; simp (maxSteps := 3000000) (disch := omega) only [go_sem, ↓reduceIte, reduceCtorEq, pappend, plen]; refine hK _ _ ?_; clear hK K
  refine PW.view (Vs.ghostH (id := H.length + 2) (j := 0) 5 1 (hp2 _ _ _ _ _) rfl) ?_
  obtain ⟨o, rfl⟩ : ∃ o : Nat, od = o := ⟨od.toNat, by omega⟩
  obtain ⟨t, rfl⟩ : ∃ o : Nat, ty = o := ⟨ty.toNat, by omega⟩
  obtain ⟨s, rfl⟩ : ∃ o : Nat, st = o := ⟨st.toNat, by omega⟩
  have hbb : hbits ⟨t, s, o, tf, rp, al⟩ = (vbits o 10 ++ (vbits t 2 ++ vbits s 2)) ++ [tf, rp, al] := by simp [hbits]
  have po : o / 2 ^ 10 = 0 := by omega
  have pt : t / 2 ^ 2 = 0 := by omega
  have ps : s / 2 ^ 2 = 0 := by omega
  (repeat refine PW.seq ?_)
  refine PW.at [1, 2, 4] (F1 := [(1, .ptr H.length 0 0), (2, .ptr (H.length + 1) 0 0), (4, .ptr (H.length + 2) 0 0)]) (H1 := H ++ [⟨58, 0, [.int .i64 (t : Int), .int .i64 (s : Int), .int .i64 (o : Int), .bool tf, .bool rp, .bool al]⟩, ⟨31, 0, [.int .i64 0, .slice [] 0 true]⟩, wA (H.length + 3) [], wB []]) ?_ rfl (by rw [wA0, wB0]; simp [hs2])
  have put1 := fun (L : List Bool) (V n : Nat) (hn : n ≤ 32) (hV : V / 2 ^ n = 0) (hL : L.length ≤ 1000000000) => put_ok (H.length + 2) (H.length + 3) L V n (H ++ [⟨58, 0, [.int .i64 (t : Int), .int .i64 (s : Int), .int .i64 (o : Int), .bool tf, .bool rp, .bool al]⟩, ⟨31, 0, [.int .i64 0, .slice [] 0 true]⟩, wA (H.length + 3) L, wB L]) (hp2 _ _ _ _ _) (hp3 _ _ _ _ _ _) (by omega) hn hV hL
  simp only [two, hs2, hs3] at put1
  (repeat refine PW.seq ?_); refine PW.rg rfl fun K hK => ?_; simp (maxSteps := 3000000) (disch := omega) only [go_sem, ↓reduceIte, reduceCtorEq, pappend, plen]; refine VCx.call (put1 [] o 10 (by omega) po (by simp)) rfl ?_; simp (maxSteps := 3000000) (disch := omega) only [go_sem, ↓reduceIte, reduceCtorEq, pappend, plen]; refine hK _ _ ?_; clear hK K
  (repeat refine PW.seq ?_); refine PW.rg rfl fun K hK => ?_; simp (maxSteps := 3000000) (disch := omega) only [go_sem, ↓reduceIte, reduceCtorEq, pappend, plen]; refine VCx.call (put1 _ t 2 (by omega) pt (by simp [vbits_len])) rfl ?_; simp (maxSteps := 3000000) (disch := omega) only [go_sem, ↓reduceIte, reduceCtorEq, pappend, plen]; refine hK _ _ ?_; clear hK K
  (repeat refine PW.seq ?_); refine PW.rg rfl fun K hK => ?_; simp (maxSteps := 3000000) (disch := omega) only [go_sem, ↓reduceIte, reduceCtorEq, pappend, plen]; refine VCx.call (put1 _ s 2 (by omega) ps (by simp [vbits_len])) rfl ?_; simp (maxSteps := 3000000) (disch := omega) only [go_sem, ↓reduceIte, reduceCtorEq, pappend, plen]; refine hK _ _ ?_; clear hK K
  generalize hB : vbits o 10 ++ (vbits t 2 ++ vbits s 2) = B at *
  have hBl : B.length = 14 := by rw [← hB]; simp [vbits_len]
  (repeat refine PW.seq ?_); refine PW.rg rfl fun K hK => ?_; simp (maxSteps := 3000000) (disch := omega) only [go_sem, ↓reduceIte, reduceCtorEq, pappend, plen]; refine hK _ _ ?_; clear hK K
  (repeat refine PW.seq ?_); refine PW.block (PW.loop ?_)
  suffices hloop : ∀ (k : Nat) (L : List Bool), k ≤ 3 → L = B ++ [tf, rp, al].take k → PL Tryz.prog _ _ [(2, .ptr (H.length + 1) 0 0), (4, .ptr (H.length + 2) 0 0), (34, .slice (fs [tf, rp, al]) 3 true), (35, .int .i64 3), (36, .int .i64 (k : Int))]
      (H ++ [⟨58, 0, [.int .i64 (t : Int), .int .i64 (s : Int), .int .i64 (o : Int), .bool tf, .bool rp, .bool al]⟩, ⟨31, 0, [.int .i64 0, .slice [] 0 true]⟩, wA (H.length + 3) L, wB L]) _ by
    exact PL.at [2, 4, 34, 35, 36] (hloop 0 B (Nat.zero_le _) (by simp)) rfl rfl
  intro k L hk hL
  have hLl : L.length ≤ 17 := by rw [hL]; simp [hBl]; omega
  induction hm : 3 - k using Nat.strongRecOn generalizing k L with
  | _ m ih =>
    refine PL.round ?_; (repeat refine PW.seq ?_); refine PW.rg rfl fun K hK => ?_; simp (maxSteps := 3000000) (disch := omega) only [go_sem, ↓reduceIte, reduceCtorEq, pappend, plen]; refine hK _ _ ?_; clear hK K
    (repeat refine PW.seq ?_); refine PW.cond (t := _) rfl (fun h => ?_) (fun h => ?_)
    · have h4 : k < 3 := by have := of_decide_eq_true h; omega
      have htk : B ++ [tf, rp, al].take (k + 1) = L ++ [flagAt [tf, rp, al] k] := by
        rw [hL, List.append_assoc]
        have : k = 0 ∨ k = 1 ∨ k = 2 := by omega
        rcases this with rfl | rfl | rfl <;> rfl
      have hfg := fs_get [tf, rp, al] k h4
      refine PW.skip ?_; (repeat refine PW.seq ?_); refine PW.block ?_
      (repeat refine PW.seq ?_); refine PW.rg rfl fun K hK => ?_; simp (maxSteps := 3000000) (disch := omega) only [go_sem, ↓reduceIte, reduceCtorEq, pappend, plen, hfg, fs_len]; refine hK _ _ ?_; clear hK K
      generalize flagAt [tf, rp, al] k = b at *
      have hnext := ih (3 - (k + 1)) (by omega) (k + 1) (L ++ [b]) (by omega) htk.symm (by rw [← htk]; simp [hBl]; omega) rfl
      have hv := vbits1 b
      (repeat refine PW.seq ?_); refine PW.rg rfl fun K hK => ?_; simp (maxSteps := 3000000) (disch := omega) only [go_sem, ↓reduceIte, reduceCtorEq, pappend, plen]; refine hK _ _ ?_; clear hK K; (repeat refine PW.seq ?_); refine PW.rg rfl fun K hK => ?_; simp (maxSteps := 3000000) (disch := omega) only [go_sem, ↓reduceIte, reduceCtorEq, pappend, plen]; refine hK _ _ ?_; clear hK K
      (repeat refine PW.seq ?_); refine PW.cond (t := _) rfl (fun h => ?_) (fun h => ?_)
      · subst h
        simp only [if_true] at hv
        have hp := put1 L 1 1 (by omega) (by decide) (by omega)
        rw [hv] at hp
        (repeat refine PW.seq ?_); refine PW.rg rfl fun K hK => ?_; simp (maxSteps := 3000000) (disch := omega) only [go_sem, ↓reduceIte, reduceCtorEq, pappend, plen]; refine hK _ _ ?_; clear hK K
        (repeat refine PW.seq ?_); refine PW.rg rfl fun K hK => ?_; simp (maxSteps := 3000000) (disch := omega) only [go_sem, ↓reduceIte, reduceCtorEq, pappend, plen]; refine VCx.call (hp) rfl ?_; simp (maxSteps := 3000000) (disch := omega) only [go_sem, ↓reduceIte, reduceCtorEq, pappend, plen]; refine hK _ _ ?_; clear hK K
        (repeat refine PW.seq ?_); refine PW.rg rfl fun K hK => ?_; simp (maxSteps := 3000000) (disch := omega) only [go_sem, ↓reduceIte, reduceCtorEq, pappend, plen]; refine hK _ _ ?_; clear hK K
        exact PL.at [2, 4, 34, 35, 36] hnext rfl rfl
      · subst h
        simp only [Bool.false_eq_true, if_false] at hv
        have hp := put1 L 0 1 (by omega) (by decide) (by omega)
        rw [hv] at hp
        refine PW.skip ?_
        (repeat refine PW.seq ?_); refine PW.rg rfl fun K hK => ?_; simp (maxSteps := 3000000) (disch := omega) only [go_sem, ↓reduceIte, reduceCtorEq, pappend, plen]; refine VCx.call (hp) rfl ?_; simp (maxSteps := 3000000) (disch := omega) only [go_sem, ↓reduceIte, reduceCtorEq, pappend, plen]; refine hK _ _ ?_; clear hK K
        (repeat refine PW.seq ?_); refine PW.rg rfl fun K hK => ?_; simp (maxSteps := 3000000) (disch := omega) only [go_sem, ↓reduceIte, reduceCtorEq, pappend, plen]; refine hK _ _ ?_; clear hK K
        exact PL.at [2, 4, 34, 35, 36] hnext rfl rfl
    · have h4 : k = 3 := by have := of_decide_eq_false h; omega
      subst h4
      have hLh : L = hbits ⟨t, s, o, tf, rp, al⟩ := by rw [hbb, hL]; rfl
      refine PW.exit ?_
      have hp := payload_ok (H.length + 2) (H.length + 3) L (H ++ [⟨58, 0, [.int .i64 (t : Int), .int .i64 (s : Int), .int .i64 (o : Int), .bool tf, .bool rp, .bool al]⟩, ⟨31, 0, [.int .i64 0, .slice [] 0 true]⟩, wA (H.length + 3) L, wB L]) (hp2 _ _ _ _ _) (hp3 _ _ _ _ _ _) (by omega)
      (repeat refine PW.seq ?_); refine PW.rg rfl fun K hK => ?_; simp (maxSteps := 3000000) (disch := omega) only [go_sem, ↓reduceIte, reduceCtorEq, pappend, plen]; refine VCx.call (hp) rfl ?_; simp (maxSteps := 3000000) (disch := omega) only [go_sem, ↓reduceIte, reduceCtorEq, pappend, plen]; refine hK _ _ ?_; clear hK K
      refine PW.ret ⟨.tup [.agg [.int .i64 181, .slice (bs (pk (L ++ [true]))) (pk (L ++ [true])).length false], .int .i64 0], by simp (maxSteps := 3000000) (disch := omega) only [go_sem, ↓reduceIte, reduceCtorEq, pappend, plen, presults, presult, List.mapM_cons, List.mapM_nil, Option.pure_def, Option.bind_eq_bind, Option.bind_some, Array.toList], ?_⟩
      rw [← hr, putH, h1, hLh]
      exact Fin.base (.id (uve_scoped _ _ _ _))

theorem bitr_ok (b : Bool) (H : Heap) : CallOk Tryz.prog 141 [.bool b] H (.int .u32 (b.toNat : Int)) H := by
  refine CallOk.body (F0 := [(0, .bool b)]) Tryz.func141 rfl Tryz.ntmps141 Tryz.results141 rfl (by kernel_rfl) rfl ?_
  cases b <;> (repeat' (first | refine PW.seq ?_ | refine PW.skip ?_ | refine PW.block ?_ | (refine PW.rg rfl fun K hK => ?_; simp (maxSteps := 3000000) (disch := omega) only [go_sem, ↓reduceIte, reduceCtorEq, pappend, plen]) | (refine PW.draw mix (by kernel_rfl) fun K hK => ?_; simp (maxSteps := 3000000) (disch := omega) only [go_sem, ↓reduceIte, reduceCtorEq, pappend, plen]) | (refine PW.drawg mix (by kernel_rfl) fun K hK => ?_; simp (maxSteps := 3000000) (disch := omega) only [go_sem, ↓reduceIte, reduceCtorEq, pappend, plen]) | (refine PW.drawt [] [] mix (by kernel_rfl) fun K hK => ?_; simp (maxSteps := 3000000) (disch := omega) only [go_sem, ↓reduceIte, reduceCtorEq, pappend, plen]) | ((first | refine VO_cond (fun h => ?_) (fun h => ?_) | refine VOd_cond (fun h => ?_) (fun h => ?_) | refine VOg_cond (fun h => ?_) (fun h => ?_) | refine VOh_cond (fun h => ?_) (fun h => ?_) | refine VOi_cond (fun h => ?_) (fun h => ?_) | refine And.intro (fun h => ?_) (fun h => ?_)) <;> (try simp only [Bool.not_eq_true', Bool.not_eq_false', decide_eq_true_eq, decide_eq_false_iff_not] at h) <;> simp (maxSteps := 3000000) (disch := omega) only [go_sem, ↓reduceIte, reduceCtorEq, pappend, plen, h]) | (refine hK _ _ ?_; clear hK K) | (refine PW.cond (t := _) rfl (fun h => ?_) (fun h => ?_) <;> (try (cases h; done)) <;> (try simp only [Bool.not_eq_true', Bool.not_eq_false', decide_eq_true_eq, decide_eq_false_iff_not] at h))))
  all_goals ((refine PW.ret ⟨_, rfl, ?_⟩; first | refine .inl ⟨?_, rfl⟩ | refine Fin.base (.id' ?_ (.bool _)) | refine Fin.base (.id' ?_ (.int _ _))); rfl)
theorem zb3 (a b c : Bool) : bs (zb [a, b, c]) = [.int .u8 (a.toNat : Int), .int .u8 (b.toNat : Int), .int .u8 (c.toNat : Int)] := by cases a <;> cases b <;> cases c <;> rfl
theorem bool_u8 (b : Bool) : (b.toNat : Int) ≤ 255 := by cases b <;> decide
theorem putH_ref (p : Pi) (H : Heap) : CallOk Tryz.prog 128 [.agg (pic p)] H (.tup [uv (putH p).1 (putH p).2.1, .int .i64 (putH p).2.2]) H := by
  generalize hr : putH p = r
  obtain ⟨ty, st, od, tf, rp, al⟩ := p
  have hcd := fun H => codd_ref ⟨ty, st, od, tf, rp, al⟩ H
  refine CallOk.body (F0 := [(0, .agg [.int .i64 ty, .int .i64 st, .int .i64 od, .bool tf, .bool rp, .bool al])]) Tryz.func128 rfl Tryz.ntmps128 Tryz.results128 rfl (by kernel_rfl) rfl ?_
  (repeat refine PW.seq ?_); refine PW.rg rfl fun K hK => ?_; simp (maxSteps := 3000000) (disch := omega) only [go_sem, ↓reduceIte, reduceCtorEq, pappend, plen]; refine hK _ _ ?_; clear hK K
  (repeat refine PW.seq ?_); refine PW.rg rfl fun K hK => ?_; simp (maxSteps := 3000000) (disch := omega) only [go_sem, ↓reduceIte, reduceCtorEq, pappend, plen]; refine VCx.call (hcd _) rfl ?_; simp (maxSteps := 3000000) (disch := omega) only [go_sem, ↓reduceIte, reduceCtorEq, pappend, plen]; refine hK _ _ ?_; clear hK K
  (repeat refine PW.seq ?_); refine PW.cond (t := _) rfl (fun h => ?_) (fun h => ?_)
  · have h1 : codd ⟨ty, st, od, tf, rp, al⟩ = false := by simpa using h
    (repeat refine PW.seq ?_); refine PW.rg rfl fun K hK => ?_; simp (maxSteps := 3000000) (disch := omega) only [go_sem, ↓reduceIte, reduceCtorEq, pappend, plen]; refine hK _ _ ?_; clear hK K
    refine PW.ret ⟨.tup [.agg [.int .i64 0, .slice [] 0 true], .int .i64 2], by simp (maxSteps := 3000000) (disch := omega) only [go_sem, ↓reduceIte, reduceCtorEq, pappend, plen, presults, presult, List.mapM_cons, List.mapM_nil, Option.pure_def, Option.bind_eq_bind, Option.bind_some, Array.toList], ?_⟩
    rw [← hr, putH, h1]
    exact Fin.base (Fz.tupC ⟨Fz.aggC ⟨.id (.int _ _), .slice rfl (fun j x y hx => by simp at hx) (fun e => by cases e), trivial⟩, .id (.int _ _), trivial⟩)
  have h1 : codd ⟨ty, st, od, tf, rp, al⟩ = true := by simpa using h
  obtain ⟨g1, g2, g3, g4, g5, g6⟩ := codd_rng h1
  simp only at g1 g2 g3 g4 g5 g6
  refine PW.skip ?_
  obtain ⟨o, rfl⟩ : ∃ o : Nat, od = o := ⟨od.toNat, by omega⟩
  obtain ⟨t, rfl⟩ : ∃ o : Nat, ty = o := ⟨ty.toNat, by omega⟩
  obtain ⟨s, rfl⟩ : ∃ o : Nat, st = o := ⟨st.toNat, by omega⟩
  have hbb : hbits ⟨t, s, o, tf, rp, al⟩ = (vbits o 10 ++ (vbits t 2 ++ vbits s 2)) ++ [tf, rp, al] := by simp [hbits]
  have vo := vbits_len o 10
  have vt := vbits_len t 2
  have vs := vbits_len s 2
  (repeat refine PW.seq ?_); refine PW.rg rfl fun K hK => ?_; simp (maxSteps := 3000000) (disch := omega) only [go_sem, ↓reduceIte, reduceCtorEq, pappend, plen]; refine VCx.call (bits_ref o 10 _ (by omega)) rfl ?_; simp (maxSteps := 3000000) (disch := omega) only [go_sem, ↓reduceIte, reduceCtorEq, pappend, plen]; refine hK _ _ ?_; clear hK K
  (repeat refine PW.seq ?_); refine PW.rg rfl fun K hK => ?_; simp (maxSteps := 3000000) (disch := omega) only [go_sem, ↓reduceIte, reduceCtorEq, pappend, plen, length_bs, zb_len, vo, vt, vs]; refine VCx.call (bits_ref t 2 _ (by omega)) rfl ?_; simp (maxSteps := 3000000) (disch := omega) only [go_sem, ↓reduceIte, reduceCtorEq, pappend, plen, length_bs, zb_len, vo, vt, vs]; refine hK _ _ ?_; clear hK K
  (repeat refine PW.seq ?_); refine PW.rg rfl fun K hK => ?_; simp (maxSteps := 3000000) (disch := omega) only [go_sem, ↓reduceIte, reduceCtorEq, pappend, plen, length_bs, zb_len, vo, vt, vs]; refine VCx.call (bits_ref s 2 _ (by omega)) rfl ?_; simp (maxSteps := 3000000) (disch := omega) only [go_sem, ↓reduceIte, reduceCtorEq, pappend, plen, length_bs, zb_len, vo, vt, vs]; refine hK _ _ ?_; clear hK K
  have b1 := bool_u8 tf
  have b2 := bool_u8 rp
  have b3 := bool_u8 al
  (repeat refine PW.seq ?_); refine PW.draw mix (by kernel_rfl) fun K hK => ?_; simp (maxSteps := 3000000) (disch := omega) only [go_sem, ↓reduceIte, reduceCtorEq, pappend, plen]; (repeat' (first | ((first | refine VO_cond (fun h => ?_) (fun h => ?_) | refine VOd_cond (fun h => ?_) (fun h => ?_) | refine VOg_cond (fun h => ?_) (fun h => ?_) | refine VOh_cond (fun h => ?_) (fun h => ?_) | refine VOi_cond (fun h => ?_) (fun h => ?_) | refine And.intro (fun h => ?_) (fun h => ?_)) <;> (try simp only [Bool.not_eq_true', Bool.not_eq_false', decide_eq_true_eq, decide_eq_false_iff_not] at h) <;> simp (maxSteps := 3000000) (disch := omega) only [go_sem, ↓reduceIte, reduceCtorEq, pappend, plen, length_bs, zb_len, vo, vt, vs, h]) | (refine VCx.call (bitr_ok _ _) rfl ?_; simp (maxSteps := 3000000) (disch := omega) only [go_sem, ↓reduceIte, reduceCtorEq, pappend, plen, length_bs, zb_len, vo, vt, vs]) | (refine VCy.call (bitr_ok _ _) rfl ?_; simp (maxSteps := 3000000) (disch := omega) only [go_sem, ↓reduceIte, reduceCtorEq, pappend, plen, length_bs, zb_len, vo, vt, vs]) | (refine VCz.call (fun _ => bitr_ok _ _) rfl ?_; simp (maxSteps := 3000000) (disch := omega) only [go_sem, ↓reduceIte, reduceCtorEq, pappend, plen, length_bs, zb_len, vo, vt, vs]) | (refine VCk.call (fun _ _ => bitr_ok _ _) rfl ?_; simp (maxSteps := 3000000) (disch := omega) only [go_sem, ↓reduceIte, reduceCtorEq, pappend, plen, length_bs, zb_len, vo, vt, vs]) | (refine VCj.now (bitr_ok _ _) rfl ?_; simp (maxSteps := 3000000) (disch := omega) only [go_sem, ↓reduceIte, reduceCtorEq, pappend, plen, length_bs, zb_len, vo, vt, vs])))
  refine hK _ _ ?_; clear hK K
  obtain ⟨B, hB⟩ : ∃ B, B = hbits ⟨t, s, o, tf, rp, al⟩ := ⟨_, rfl⟩
  have hBl : B.length = 17 := by rw [hB, hbb]; simp [vo, vt, vs]
  have hcells : bs (zb B) = bs (zb (vbits o 10)) ++ (bs (zb (vbits t 2)) ++ (bs (zb (vbits s 2)) ++ [.int .u8 (tf.toNat : Int), .int .u8 (rp.toNat : Int), .int .u8 (al.toNat : Int)])) := by
    rw [hB, hbb, ← zb3]; simp [zb_append, bs_append]
  refine PW.at [2, 4] (F1 := [(2, .ptr (H.length + 1) 0 0), (4, .msl (H.length + 2) (bs (zb B)).length 0 17 1 true)]) (H1 := H ++ [⟨58, 0, [.int .i64 (t : Int), .int .i64 (s : Int), .int .i64 (o : Int), .bool tf, .bool rp, .bool al]⟩, ⟨31, 0, [.int .i64 0, .slice [] 0 true]⟩, ⟨5, (bs (zb B)).length, bs (zb B)⟩, ⟨5, 2, bs (zb (vbits t 2))⟩, ⟨5, 2, bs (zb (vbits s 2))⟩]) ?_ ?_ ?_
  rotate_left
  · have tt : List.take 2 (bs (zb (vbits t 2))) = bs (zb (vbits t 2)) := List.take_of_length_le (by simp [length_bs, zb_len, vt])
    have ts : List.take 2 (bs (zb (vbits s 2))) = bs (zb (vbits s 2)) := List.take_of_length_le (by simp [length_bs, zb_len, vs])
    rw [hcells]; simp (maxSteps := 3000000) (disch := omega) only [go_sem, ↓reduceIte, reduceCtorEq, pappend, plen, tt, ts]
  · have tt : List.take 2 (bs (zb (vbits t 2))) = bs (zb (vbits t 2)) := List.take_of_length_le (by simp [length_bs, zb_len, vt])
    have ts : List.take 2 (bs (zb (vbits s 2))) = bs (zb (vbits s 2)) := List.take_of_length_le (by simp [length_bs, zb_len, vs])
    rw [hcells]; simp only [tt, ts]
  have hp : CallOk Tryz.prog 44 [.msl (H.length + 2) (bs (zb B)).length 0 17 1 true] (H ++ [⟨58, 0, [.int .i64 (t : Int), .int .i64 (s : Int), .int .i64 (o : Int), .bool tf, .bool rp, .bool al]⟩, ⟨31, 0, [.int .i64 0, .slice [] 0 true]⟩, ⟨5, (bs (zb B)).length, bs (zb B)⟩, ⟨5, 2, bs (zb (vbits t 2))⟩, ⟨5, 2, bs (zb (vbits s 2))⟩])
      (.slice (bs (pk (B ++ [true]))) (pk (B ++ [true])).length false) (H ++ [⟨58, 0, [.int .i64 (t : Int), .int .i64 (s : Int), .int .i64 (o : Int), .bool tf, .bool rp, .bool al]⟩, ⟨31, 0, [.int .i64 0, .slice [] 0 true]⟩, ⟨5, (bs (zb B)).length + 1, []⟩, ⟨5, 2, bs (zb (vbits t 2))⟩, ⟨5, 2, bs (zb (vbits s 2))⟩]) := by
    refine CallOk.frz1 (args' := [.slice (bs (zb B)) B.length false]) (id := H.length + 2) (k := ⟨5, (bs (zb B)).length, bs (zb B)⟩) (hp2 _ _ _ _ _) ?_ ⟨.inr ⟨17, 1, true, rfl, by simp [length_bs, zb_len, hBl], by rw [hBl]⟩, trivial⟩
    rw [hs2]
    exact payload_ref B false _ (by omega)
  (repeat refine PW.seq ?_); refine PW.rg rfl fun K hK => ?_; simp (maxSteps := 3000000) (disch := omega) only [go_sem, ↓reduceIte, reduceCtorEq, pappend, plen]; refine VCx.call (hp) rfl ?_; simp (maxSteps := 3000000) (disch := omega) only [go_sem, ↓reduceIte, reduceCtorEq, pappend, plen]; refine hK _ _ ?_; clear hK K
  refine PW.ret ⟨.tup [.agg [.int .i64 181, .slice (bs (pk (B ++ [true]))) (pk (B ++ [true])).length false], .int .i64 0], by simp (maxSteps := 3000000) (disch := omega) only [go_sem, ↓reduceIte, reduceCtorEq, pappend, plen, presults, presult, List.mapM_cons, List.mapM_nil, Option.pure_def, Option.bind_eq_bind, Option.bind_some, Array.toList], ?_⟩
  rw [← hr, putH, h1, ← hB]
  exact Fin.base (.id (uve_scoped _ _ _ _))

end Go.Proofs.YtnnkohejhnjflaaGreatDoor.Sc
