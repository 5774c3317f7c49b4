/-
  Parts of the proof, put together in one text. No condition.
-/
import Derived.Test.YthmladiijdlgkaaGreatHd
import Derived.Test.YthmladiijdlgkaaGreatPmF
import Derived.Test.YthmladiijdlgkaaGreatBy
import Derived.Test.YthmladiijdlgkaaGreatHa
import Derived.WalkSmall
import Derived.Laws.Build
import Derived.Test.YthmladiijdlgkaaGreatHb
import Derived.Defers
import Derived.Recover
namespace Go.Proofs.YthmladiijdlgkaaGreat.Sc
set_option linter.all false
set_option linter.unusedVariables false
set_option linter.unusedSimpArgs false
open Pm Ty Go.RowKit
theorem chgP (H : Heap) (i j : Nat) (M : List Bool) (x0 x1 x3 : Blk) (c : Cx) (m : Mb) (s : St) (hi : i < H.length) (hj : j < H.length) (hne : i ≠ j) (hl : M.length ≤ 800000000) (hdl : -30 ≤ m.dl ∧ m.dl ≤ 30) (hq : 1 ≤ s.q ∧ s.q ≤ 31) :
    CallOk Tryz.prog 37 [.ptr (H.length + 4) 0 0] (pH H i j M x0 x1 x3 c m s) (.tup []) (pH H i j (M ++ b3M c m) x0 x1 x3 c m (s3M m s)) := by
  have h4 := fun M => pH_4 H i j M x0 x1 x3 c m s
  have h2 := fun M => pH_2 H i j M x0 x1 x3 c m s
  have ho := hl_ok m (H.length + 2) _ (h2 M)
  have bo := fun K => bcx_ok c K
  have fl := fun M b hl => flagP H i j M x0 x1 x3 c m s b hi hj hne hl
  have ps := fun M v hv hl => psP H i j M x0 x1 x3 c m s v hi hj hne hv hl
  have st := fun M B => pH_set H i j M x0 x1 x3 c m s B
  have k4 : (mbc m)[4]? = some (.bool m.fd) := rfl
  have k17 : (mbc m)[17]? = some (.int .i64 m.dl) := rfl
  have e3 : b3M c m = if hlM m then (if bcx c then [m.fd] else []) ++ sg m.dl else [] := rfl
  have es : s3M m s = if hlM m then ⟨s.q + m.dl, s.da, s.db, s.dc, s.va, s.vb, s.vc, s.vd⟩ else s := rfl
  generalize hlM m = hv at *
  generalize bcx c = bv at *
  refine CallOk.body (F0 := [(0, .ptr (H.length + 4) 0 0)]) Tryz.func37 rfl Tryz.ntmps37 Tryz.results37 rfl (by kernel_rfl) rfl ?_
  cases hv with
  | false =>
    rw [if_neg (by decide)] at e3 es
    rw [e3, es, List.append_nil]
    (repeat' (first | refine PW.seq ?_ | refine PW.skip ?_ | refine PW.block ?_ | (refine PW.rg rfl fun K hK => ?_; simp (disch:=omega) only [go_sem, ↓reduceIte, h4, pB, pC]) | (refine PW.draw mix (by kernel_rfl) fun K hK => ?_; simp (disch:=omega) only [go_sem, ↓reduceIte, reduceCtorEq, pappend, plen, h4, h2, pB, pC]) | (refine PW.drawg mix (by kernel_rfl) fun K hK => ?_; simp (disch:=omega) only [go_sem, ↓reduceIte, reduceCtorEq, pappend, plen, h4, h2, pB, pC]) | (refine PW.drawt [] [] mix (by kernel_rfl) fun K hK => ?_; simp (disch:=omega) only [go_sem, ↓reduceIte, reduceCtorEq, pappend, plen, h4, h2, pB, pC]) | ((first | refine VO_cond (fun h => ?_) (fun h => ?_) | refine VOd_cond (fun h => ?_) (fun h => ?_) | refine VOg_cond (fun h => ?_) (fun h => ?_) | refine VOh_cond (fun h => ?_) (fun h => ?_) | refine VOi_cond (fun h => ?_) (fun h => ?_) | refine And.intro (fun h => ?_) (fun h => ?_)) <;> (try simp only [Bool.not_eq_true', Bool.not_eq_false', decide_eq_true_eq, decide_eq_false_iff_not] at h) <;> simp (disch:=omega) only [go_sem, ↓reduceIte, reduceCtorEq, pappend, plen, h4, h2, pB, pC, h]) | (refine VCx.call (ho) rfl ?_; simp (disch:=omega) only [go_sem]) | (refine VCy.call (ho) rfl ?_; simp (disch:=omega) only [go_sem, ↓reduceIte, reduceCtorEq, pappend, plen, h4, h2, pB, pC]) | (refine VCz.call (fun _ => ho) rfl ?_; simp (disch:=omega) only [go_sem, ↓reduceIte, reduceCtorEq, pappend, plen, h4, h2, pB, pC]) | (refine VCk.call (fun _ _ => ho) rfl ?_; simp (disch:=omega) only [go_sem, ↓reduceIte, reduceCtorEq, pappend, plen, h4, h2, pB, pC]) | (refine VCj.now (ho) rfl ?_; simp (disch:=omega) only [go_sem, ↓reduceIte, reduceCtorEq, pappend, plen, h4, h2, pB, pC]) | (refine hK _ _ ?_; clear hK K) | (refine PW.cond (t := _) rfl (fun h => ?_) (fun h => ?_) <;> (try (cases h; done)) <;> (try simp only [] at h))))
    exact PW.ret (Exists.intro _ (And.intro rfl Fin.now))
  | true =>
    rw [if_pos rfl] at e3 es
    suffices hrest : ∀ M1, M1 ++ sg m.dl = M ++ b3M c m → M1.length ≤ 800000001 → PW Tryz.prog _ _ [(0, .ptr (H.length + 4) 0 0)] (pH H i j M1 x0 x1 x3 c m s) _ by
      (repeat refine PW.seq ?_); refine PW.rg rfl fun K hK => ?_; simp (disch:=omega) only [go_sem, ↓reduceIte, h4, pB, pC]; refine VCx.call (ho) rfl ?_; simp (disch:=omega) only [go_sem]; refine hK _ _ ?_; clear hK K
      (repeat refine PW.seq ?_); refine PW.cond (t := _) rfl (fun h => ?_) (fun h => ?_)
      · cases h
      refine PW.skip ?_
      (repeat refine PW.seq ?_); refine PW.rg rfl fun K hK => ?_; simp (disch:=omega) only [go_sem, ↓reduceIte, h4, pB, pC]; refine VCx.call (bo _) rfl ?_; simp (disch:=omega) only [go_sem]; refine hK _ _ ?_; clear hK K
      cases bv with
      | false =>
        (repeat refine PW.seq ?_); refine PW.cond (t := _) rfl (fun h => ?_) (fun h => ?_)
        · cases h
        refine PW.skip ?_
        rw [if_neg (by decide), List.nil_append] at e3
        exact PW.at [0] (hrest M (by rw [e3]) (by omega)) rfl rfl
      | true =>
        (repeat refine PW.seq ?_); refine PW.cond (t := _) rfl (fun h => ?_) (fun h => ?_)
        rotate_left
        · cases h
        rw [if_pos rfl] at e3
        have fl1 := fl M m.fd (by omega)
        (repeat refine PW.seq ?_); refine PW.rg rfl fun K hK => ?_; simp (disch:=omega) only [go_sem, ↓reduceIte, h4, pB, pC, h2, mB, k4]
        refine VCx.call (fl1) rfl ?_; simp (disch:=omega) only [go_sem]; refine hK _ _ ?_; clear hK K
        exact PW.at [0] (hrest (M ++ [m.fd]) (by rw [e3, List.append_assoc]) (by simp; omega)) rfl rfl
    intro M1 hM1 hl1
    have ps1 := ps M1 m.dl (by omega) (by omega)
    rw [hM1] at ps1
    (repeat refine PW.seq ?_); refine PW.drawt [] [] mix (by kernel_rfl) fun K hK => ?_; simp (disch:=omega) only [go_sem, ↓reduceIte, h4, pB, pC, h2, mB, k17]
    refine VCj.now (ps1) rfl ?_; simp (disch:=omega) only [go_sem]; refine hK _ _ ?_; clear hK K
    (repeat refine PW.seq ?_); refine PW.drawt [] [] mix (by kernel_rfl) fun K hK => ?_; simp (disch:=omega) only [go_sem, ↓reduceIte, h4, pB, pC, h2, mB, k17, st]; refine hK _ _ ?_; clear hK K
    rw [es]
    exact Exists.intro _ (And.intro rfl Fin.now)
theorem codP (H : Heap) (i j : Nat) (M : List Bool) (x0 x1 x3 : Blk) (c : Cx) (m : Mb) (s : St) (hi : i < H.length) (hj : j < H.length) (hne : i ≠ j) (hl : M.length ≤ 800000000) :
    CallOk Tryz.prog 38 [.ptr (H.length + 4) 0 0] (pH H i j M x0 x1 x3 c m s) (.tup []) (pH H i j (M ++ b4M m) x0 x1 x3 c m s) := by
  have h4 := fun M => pH_4 H i j M x0 x1 x3 c m s
  have h2 := fun M => pH_2 H i j M x0 x1 x3 c m s
  have ho := hl_ok m (H.length + 2) _ (h2 M)
  have fl := fun M b hl => flagP H i j M x0 x1 x3 c m s b hi hj hne hl
  have k0 : (mbc m)[0]? = some (.int .i64 m.k) := rfl
  have k18 : List.take 6 (List.drop 18 (mbc m)) = fs (cdl m) := rfl
  have hcl : (fs (cdl m)).length = 6 := rfl
  have hcl' : (cdl m).length = 6 := rfl
  have hca : (mbc m).length = 24 + (is m.lv).length := by simp [mbc]; omega
  have hfg := fun n (hn : n < 6) => fs_get (cdl m) n hn
  have e4 : b4M m = if decide (m.k = 2) && hlM m then cdl m else [] := rfl
  generalize hlM m = hv at *
  refine CallOk.body (F0 := [(0, .ptr (H.length + 4) 0 0)]) Tryz.func38 rfl Tryz.ntmps38 Tryz.results38 rfl (by kernel_rfl) rfl ?_
  by_cases hk : m.k = 2
  rotate_left
  · have q2 : (m.k != 2) = true := by simp [hk]
    rw [decide_eq_false hk, Bool.false_and, if_neg (by decide)] at e4
    rw [e4, List.append_nil]
    (repeat' (first | refine PW.seq ?_ | refine PW.skip ?_ | refine PW.block ?_ | (refine PW.rg rfl fun K hK => ?_; simp (disch:=omega) only [go_sem, ↓reduceIte, h4, h2, pB, pC, mB, k0, q2]) | (refine PW.draw mix (by kernel_rfl) fun K hK => ?_; simp (disch:=omega) only [go_sem, ↓reduceIte, reduceCtorEq, pappend, plen, h4, h2, pB, pC, mB, k0, q2]) | (refine PW.drawg mix (by kernel_rfl) fun K hK => ?_; simp (disch:=omega) only [go_sem, ↓reduceIte, reduceCtorEq, pappend, plen, h4, h2, pB, pC, mB, k0, q2]) | (refine PW.drawt [] [] mix (by kernel_rfl) fun K hK => ?_; simp (disch:=omega) only [go_sem, ↓reduceIte, reduceCtorEq, pappend, plen, h4, h2, pB, pC, mB, k0, q2]) | ((first | refine VO_cond (fun h => ?_) (fun h => ?_) | refine VOd_cond (fun h => ?_) (fun h => ?_) | refine VOg_cond (fun h => ?_) (fun h => ?_) | refine VOh_cond (fun h => ?_) (fun h => ?_) | refine VOi_cond (fun h => ?_) (fun h => ?_) | refine And.intro (fun h => ?_) (fun h => ?_)) <;> (try simp only [Bool.not_eq_true', Bool.not_eq_false', decide_eq_true_eq, decide_eq_false_iff_not] at h) <;> simp (disch:=omega) only [go_sem, ↓reduceIte, reduceCtorEq, pappend, plen, h4, h2, pB, pC, mB, k0, q2, h]) | (refine VCx.call (ho) rfl ?_; simp (disch:=omega) only [go_sem, ↓reduceIte, reduceCtorEq, pappend, plen, h4, h2, pB, pC, mB, k0, q2]) | (refine VCy.call (ho) rfl ?_; simp (disch:=omega) only [go_sem, ↓reduceIte, reduceCtorEq, pappend, plen, h4, h2, pB, pC, mB, k0, q2]) | (refine VCz.call (fun _ => ho) rfl ?_; simp (disch:=omega) only [go_sem, ↓reduceIte, reduceCtorEq, pappend, plen, h4, h2, pB, pC, mB, k0, q2]) | (refine VCk.call (fun _ _ => ho) rfl ?_; simp (disch:=omega) only [go_sem, ↓reduceIte, reduceCtorEq, pappend, plen, h4, h2, pB, pC, mB, k0, q2]) | (refine VCj.now (ho) rfl ?_; simp (disch:=omega) only [go_sem, ↓reduceIte, reduceCtorEq, pappend, plen, h4, h2, pB, pC, mB, k0, q2]) | (refine hK _ _ ?_; clear hK K) | (refine PW.cond (t := _) rfl (fun h => ?_) (fun h => ?_) <;> (try (cases h; done)) <;> (try simp only [] at h))))
    exact PW.ret (Exists.intro _ (And.intro rfl Fin.now))
  have q2 : (m.k != 2) = false := by simp [hk]
  rw [decide_eq_true hk, Bool.true_and] at e4
  cases hv with
  | false =>
    rw [if_neg (by decide)] at e4
    rw [e4, List.append_nil]
    (repeat' (first | refine PW.seq ?_ | refine PW.skip ?_ | refine PW.block ?_ | (refine PW.rg rfl fun K hK => ?_; simp (disch:=omega) only [go_sem, ↓reduceIte, h4, h2, pB, pC, mB, k0, q2]) | (refine PW.draw mix (by kernel_rfl) fun K hK => ?_; simp (disch:=omega) only [go_sem, ↓reduceIte, reduceCtorEq, pappend, plen, h4, h2, pB, pC, mB, k0, q2]) | (refine PW.drawg mix (by kernel_rfl) fun K hK => ?_; simp (disch:=omega) only [go_sem, ↓reduceIte, reduceCtorEq, pappend, plen, h4, h2, pB, pC, mB, k0, q2]) | (refine PW.drawt [] [] mix (by kernel_rfl) fun K hK => ?_; simp (disch:=omega) only [go_sem, ↓reduceIte, reduceCtorEq, pappend, plen, h4, h2, pB, pC, mB, k0, q2]) | ((first | refine VO_cond (fun h => ?_) (fun h => ?_) | refine VOd_cond (fun h => ?_) (fun h => ?_) | refine VOg_cond (fun h => ?_) (fun h => ?_) | refine VOh_cond (fun h => ?_) (fun h => ?_) | refine VOi_cond (fun h => ?_) (fun h => ?_) | refine And.intro (fun h => ?_) (fun h => ?_)) <;> (try simp only [Bool.not_eq_true', Bool.not_eq_false', decide_eq_true_eq, decide_eq_false_iff_not] at h) <;> simp (disch:=omega) only [go_sem, ↓reduceIte, reduceCtorEq, pappend, plen, h4, h2, pB, pC, mB, k0, q2, h]) | (refine VCx.call (ho) rfl ?_; simp (disch:=omega) only [go_sem]) | (refine VCy.call (ho) rfl ?_; simp (disch:=omega) only [go_sem, ↓reduceIte, reduceCtorEq, pappend, plen, h4, h2, pB, pC, mB, k0, q2]) | (refine VCz.call (fun _ => ho) rfl ?_; simp (disch:=omega) only [go_sem, ↓reduceIte, reduceCtorEq, pappend, plen, h4, h2, pB, pC, mB, k0, q2]) | (refine VCk.call (fun _ _ => ho) rfl ?_; simp (disch:=omega) only [go_sem, ↓reduceIte, reduceCtorEq, pappend, plen, h4, h2, pB, pC, mB, k0, q2]) | (refine VCj.now (ho) rfl ?_; simp (disch:=omega) only [go_sem, ↓reduceIte, reduceCtorEq, pappend, plen, h4, h2, pB, pC, mB, k0, q2]) | (refine hK _ _ ?_; clear hK K) | (refine PW.cond (t := _) rfl (fun h => ?_) (fun h => ?_) <;> (try (cases h; done)) <;> (try simp only [] at h))))
    exact PW.ret (Exists.intro _ (And.intro rfl Fin.now))
  | true =>
    rw [if_pos rfl] at e4
    rw [e4]
    (repeat refine PW.seq ?_); refine PW.rg rfl fun K hK => ?_; simp (disch:=omega) only [go_sem, ↓reduceIte, h4, h2, pB, pC, mB, k0, q2]; refine VCx.call (ho) rfl ?_; simp (disch:=omega) only [go_sem]; refine hK _ _ ?_; clear hK K
    (repeat refine PW.seq ?_); refine PW.cond (t := _) rfl (fun h => ?_) (fun h => ?_)
    · cases h
    refine PW.skip ?_
    (repeat refine PW.seq ?_); refine PW.rg rfl fun K hK => ?_; simp (disch:=omega) only [go_sem, ↓reduceIte, h4, h2, pB, pC, mB, k18, hca]; refine hK _ _ ?_; clear hK K
    (repeat refine PW.seq ?_); refine PW.block (PW.loop ?_)
    suffices hl1 : ∀ (n : Nat) (M1 : List Bool), n ≤ 6 → M1 = M ++ (cdl m).take n → PL Tryz.prog _ _ [(0, .ptr (H.length + 4) 0 0), (26, .agg (fs (cdl m))), (27, .int .i64 (n : Int))] (pH H i j M1 x0 x1 x3 c m s) _ by
      exact PL.at [0, 26, 27] (hl1 0 M (by omega) (by simp)) rfl rfl
    intro n M1 hn hM1
    have hMl : M1.length ≤ 800000006 := by rw [hM1]; simp; omega
    induction hd : 6 - n using Nat.strongRecOn generalizing n M1 with
    | _ d ih =>
      refine PL.round ?_; (repeat refine PW.seq ?_); refine PW.rg rfl fun K hK => ?_; simp (disch:=omega) only [go_sem, ↓reduceIte]; refine hK _ _ ?_; clear hK K
      (repeat refine PW.seq ?_); refine PW.cond (t := _) rfl (fun h => ?_) (fun h => ?_)
      · have h6 : n < 6 := by have := of_decide_eq_true h; omega
        have hgn := hfg n h6
        have hsn : M ++ (cdl m).take (n + 1) = M1 ++ [flagAt (cdl m) n] := by
          rw [hM1, List.append_assoc]
          congr 1
          unfold flagAt
          rw [List.getD_eq_getElem?_getD, List.getElem?_eq_getElem (by omega), Option.getD_some, List.take_append_getElem]
        generalize flagAt (cdl m) n = b at *
        have fl1 := fl M1 b (by omega)
        refine PW.skip ?_; (repeat refine PW.seq ?_); refine PW.block ?_
        (repeat refine PW.seq ?_); refine PW.rg rfl fun K hK => ?_; simp (disch:=omega) only [go_sem, hgn]; refine hK _ _ ?_; clear hK K
        (repeat refine PW.seq ?_); refine PW.rg rfl fun K hK => ?_; simp (disch:=omega) only [go_sem]; refine VCx.call (fl1) rfl ?_; simp (disch:=omega) only [go_sem]; refine hK _ _ ?_; clear hK K
        (repeat refine PW.seq ?_); refine PW.rg rfl fun K hK => ?_; simp (disch:=omega) only [go_sem, ↓reduceIte]; refine hK _ _ ?_; clear hK K
        exact PL.at [0, 26, 27] (ih (6 - (n + 1)) (by omega) (n + 1) (M1 ++ [b]) (by omega) hsn.symm (by rw [← hsn]; simp; omega) rfl) rfl rfl
      · have h6 : n = 6 := by have := of_decide_eq_false h; omega
        subst h6
        rw [List.take_of_length_le (by omega)] at hM1
        subst hM1
        refine PW.exit ?_
        exact Exists.intro _ (And.intro rfl Fin.now)
end Go.Proofs.YthmladiijdlgkaaGreat.Sc

namespace Go.Proofs.YthmladiijdlgkaaGreat.Sc
set_option linter.all false
set_option linter.unusedVariables false
set_option linter.unusedSimpArgs false
open Pm Ty Go.RowKit

def vXm (m : Mb) (d k : Nat) : Int := if d = 0 then (if k = 0 then m.va else m.vc) else (if k = 0 then m.ve else m.vg)
def vYm (m : Mb) (d k : Nat) : Int := if d = 0 then (if k = 0 then m.vb else m.vd) else (if k = 0 then m.vf else m.vh)
def slm (m : Mb) (d k : Nat) : Int := if d = 0 then (if k = 0 then m.sa else m.sb) else (if k = 0 then m.sc else m.sd)
def usd (m : Mb) (d : Nat) : Bool := if d = 0 then m.ua else m.ub
def sXs (s : St) (d : Nat) : Int := if d = 0 then s.va else s.vc
def sYs (s : St) (d : Nat) : Int := if d = 0 then s.vb else s.vd
def setV (s : St) (d : Nat) (x y : Int) : St := if d = 0 then ⟨s.q, s.da, s.db, s.dc, x, y, s.vc, s.vd⟩ else ⟨s.q, s.da, s.db, s.dc, s.va, s.vb, x, y⟩
def vec1 (c : Cx) (m : Mb) (s : St) (d k : Nat) : List Bool := (if m.fp || fcx c then [decide (slm m d k = 1)] else []) ++ (sg (vXm m d k - sXs s d) ++ sg (vYm m d k - sYs s d))
def nvM (m : Mb) : Nat := if m.fp then 2 else 1
/-- The last n vectors of a direction. -/
def vecsR (c : Cx) (m : Mb) (d : Nat) : Nat → St → List Bool × St
  | 0, s => ([], s)
  | n + 1, s => (vec1 c m s d (nvM m - (n + 1)) ++ (vecsR c m d n (setV s d (vXm m d (nvM m - (n + 1))) (vYm m d (nvM m - (n + 1))))).1, (vecsR c m d n (setV s d (vXm m d (nvM m - (n + 1))) (vYm m d (nvM m - (n + 1))))).2)
def dirB (c : Cx) (m : Mb) (s : St) (d : Nat) : List Bool × St := if usd m d then vecsR c m d (nvM m) s else ([], s)
/-- The last n directions. -/
def dirsR (c : Cx) (m : Mb) : Nat → St → List Bool × St
  | 0, s => ([], s)
  | n + 1, s => ((dirB c m s (1 - n)).1 ++ (dirsR c m n (dirB c m s (1 - n)).2).1, (dirsR c m n (dirB c m s (1 - n)).2).2)
def b2M (c : Cx) (m : Mb) (s : St) : List Bool := if m.k = 2 then (if bcx c then [m.fp] else []) ++ (dirsR c m 2 s).1 else []
def s2M (c : Cx) (m : Mb) (s : St) : St := if m.k = 2 then (dirsR c m 2 s).2 else s
/-- Vectors in range. -/
def vrM (m : Mb) : Prop := ∀ d k, (-63 ≤ vXm m d k ∧ vXm m d k ≤ 63) ∧ (-63 ≤ vYm m d k ∧ vYm m d k ≤ 63)
def vrS (s : St) : Prop := ∀ d, (-63 ≤ sXs s d ∧ sXs s d ≤ 63) ∧ (-63 ≤ sYs s d ∧ sYs s d ≤ 63)
theorem vrS_set {m : Mb} {s : St} (hm : vrM m) (hs : vrS s) (d k : Nat) : vrS (setV s d (vXm m d k) (vYm m d k)) := fun e => by
  have a := hm d k
  have b0 := hs 0
  have b1 := hs 1
  simp only [sXs, sYs, if_true, Nat.one_ne_zero, if_false] at b0 b1
  generalize vXm m d k = x at *
  generalize vYm m d k = y at *
  unfold setV sXs sYs
  by_cases hd : d = 0 <;> by_cases he : e = 0 <;> simp only [hd, he, if_true, if_false] <;> omega
theorem vec1_len {c : Cx} {m : Mb} {s : St} (hm : vrM m) (hs : vrS s) (d k : Nat) : (vec1 c m s d k).length ≤ 63 := by
  have a := hm d k
  have b := hs d
  have h1 := sg_len (vXm m d k - sXs s d) (by omega)
  have h2 := sg_len (vYm m d k - sYs s d) (by omega)
  unfold vec1
  split <;> simp only [List.length_append, List.length_cons, List.length_nil] <;> omega
theorem vecsR_len {c : Cx} {m : Mb} (hm : vrM m) (d : Nat) : ∀ n s, vrS s → (vecsR c m d n s).1.length ≤ n * 63 ∧ vrS (vecsR c m d n s).2
  | 0, s, hs => ⟨by simp [vecsR], hs⟩
  | n + 1, s, hs => by
    obtain ⟨i1, i2⟩ := vecsR_len (c := c) hm d n _ (vrS_set hm hs d (nvM m - (n + 1)))
    have := vec1_len (c := c) hm hs d (nvM m - (n + 1))
    refine ⟨?_, i2⟩
    simp only [vecsR, List.length_append]
    omega
theorem nvM_b (m : Mb) : nvM m ≤ 2 ∧ 1 ≤ nvM m := by unfold nvM; split <;> omega
theorem dirB_len {c : Cx} {m : Mb} {s : St} (hm : vrM m) (hs : vrS s) (d : Nat) : (dirB c m s d).1.length ≤ 126 ∧ vrS (dirB c m s d).2 := by
  unfold dirB
  have := nvM_b m
  obtain ⟨i1, i2⟩ := vecsR_len (c := c) hm d (nvM m) s hs
  split
  · exact ⟨by omega, i2⟩
  · exact ⟨by simp, hs⟩
theorem dirsR_len {c : Cx} {m : Mb} (hm : vrM m) : ∀ n s, vrS s → (dirsR c m n s).1.length ≤ n * 126
  | 0, s, hs => by simp [dirsR]
  | n + 1, s, hs => by
    obtain ⟨i1, i2⟩ := dirB_len (c := c) hm hs (1 - n)
    have := dirsR_len (c := c) hm n _ i2
    simp only [dirsR, List.length_append]
    omega

section
variable (H : Heap) (i j : Nat) (M : List Bool) (x0 x1 x3 : Blk) (c : Cx) (m : Mb) (s : St) (K : Heap)
theorem pHK : pH H i j M x0 x1 x3 c m s ++ K = two H i j (wA j M) (wB M) ++ ([x0, x1, mB m, x3, pB s i c (H.length + 2)] ++ K) := List.append_assoc _ _ _
theorem pHK_2 : (pH H i j M x0 x1 x3 c m s ++ K)[H.length + 2]? = some (mB m) := by rw [List.getElem?_append_left (by rw [pH_len]; omega)]; exact pH_2 ..
theorem pHK_4 : (pH H i j M x0 x1 x3 c m s ++ K)[H.length + 4]? = some (pB s i c (H.length + 2)) := by rw [List.getElem?_append_left (by rw [pH_len]; omega)]; exact pH_4 ..
theorem pHK_5 (V : Blk) : (pH H i j M x0 x1 x3 c m s ++ V :: K)[H.length + 5]? = some V := by rw [List.getElem?_append_right (by rw [pH_len]; omega), pH_len, Nat.sub_self]; rfl
theorem pHK_s5 (V B : Blk) : (pH H i j M x0 x1 x3 c m s ++ V :: K).set (H.length + 5) B = pH H i j M x0 x1 x3 c m s ++ B :: K := by rw [List.set_append_right _ _ (by rw [pH_len]; omega), pH_len, Nat.sub_self]; rfl
theorem pHK_set (B : Blk) : (pH H i j M x0 x1 x3 c m s ++ K).set (H.length + 4) B = (two H i j (wA j M) (wB M) ++ [x0, x1, mB m, x3, B]) ++ K := by rw [List.set_append_left _ _ (by rw [pH_len]; omega), pH_set]
theorem psPK (v : Int) (hi : i < H.length) (hj : j < H.length) (hne : i ≠ j) (hv : -32767 ≤ v ∧ v ≤ 32767) (hl : M.length ≤ 900000000) :
    CallOk Tryz.prog 75 [.ptr i 0 0, .int .i64 v] (pH H i j M x0 x1 x3 c m s ++ K) (.int .i64 0) (pH H i j (M ++ sg v) x0 x1 x3 c m s ++ K) := by
  rw [pHK, pHK]; exact psK i j M v H _ hi hj hne hv hl
theorem hsc_pH (M1 : List Bool) (s1 : St) (hi : i < H.length) (hj : j < H.length) (hne : i ≠ j) (h : HSc (pH H i j M x0 x1 x3 c m s)) : HSc (pH H i j M1 x0 x1 x3 c m s1) := by
  have e : pH H i j M1 x0 x1 x3 c m s1 = (two (pH H i j M x0 x1 x3 c m s) i j (wA j M1) (wB M1)).set (H.length + 4) (pB s1 i c (H.length + 2)) := by
    have : two (pH H i j M x0 x1 x3 c m s) i j (wA j M1) (wB M1) = pH H i j M1 x0 x1 x3 c m s := by
      unfold pH
      rw [two_app _ _ _ _ _ _ (by rw [two_len]; exact hi) (by rw [two_len]; exact hj), two_two _ _ _ _ _ _ _ hne]
    rw [this, pH_set]; rfl
  rw [e]
  have hl := pH_len H i j M x0 x1 x3 c m s
  refine HSc.set (hsc_two _ i j M1 (by omega) h) fun x hx => ?_
  rw [two_len, hl]
  simp only [pB, pC, List.mem_cons, List.not_mem_nil, or_false] at hx
  rcases hx with rfl | rfl | rfl | rfl | rfl | rfl | rfl | rfl | rfl | rfl | rfl | rfl | rfl | rfl
  all_goals first | exact .int _ _ | exact .bool _ | exact .ptr (by omega)
end

set_option maxHeartbeats 4000000 in
set_option maxRecDepth 100000 in
theorem predP (H : Heap) (i j : Nat) (M : List Bool) (x0 x1 x3 : Blk) (c : Cx) (m : Mb) (s : St) (hi : i < H.length) (hj : j < H.length) (hne : i ≠ j) (hl : M.length ≤ 800000000) (hm : vrM m) (hs : vrS s) :
    CallOk Tryz.prog 36 [.ptr (H.length + 4) 0 0] (pH H i j M x0 x1 x3 c m s) (.tup []) (pH H i j (M ++ b2M c m s) x0 x1 x3 c m (s2M c m s)) := by
  have h4 := fun M s => pH_4 H i j M x0 x1 x3 c m s
  have h2 := fun M s => pH_2 H i j M x0 x1 x3 c m s
  have bo := fun K => bcx_ok c K
  have fl := fun M s b hl => flagP H i j M x0 x1 x3 c m s b hi hj hne hl
  have ps := fun M s v hv hl => psP H i j M x0 x1 x3 c m s v hi hj hne hv hl
  have ve := fun M s => vecs_ok m (H.length + 2) _ (h2 M s)
  have se := fun M s => sel_ok c m (H.length + 2) _ (h2 M s)
  by_cases hk : m.k = 2
  rotate_left
  · have e1 : b2M c m s = [] := by unfold b2M; rw [if_neg hk]
    have e2 : s2M c m s = s := by unfold s2M; rw [if_neg hk]
    rw [e1, e2, List.append_nil]
    have d1 : decide (m.k = 2) = false := decide_eq_false hk
    refine CallOk.body (F0 := [(0, .ptr (H.length + 4) 0 0)]) Tryz.func36 rfl Tryz.ntmps36 Tryz.results36 rfl (by kernel_rfl) rfl ?_
    (repeat refine PW.seq ?_); refine PW.rg rfl fun K hK => ?_; simp (maxSteps := 3000000) (disch := omega) only [go_sem, ↓reduceIte, h4, pB, pC, h2, mB, mbc]; refine hK _ _ ?_; clear hK K
    (repeat refine PW.seq ?_); refine PW.cond (t := _) rfl (fun h => ?_) (fun h => ?_)
    rotate_left
    · cases h
    refine PW.ret ?_
    exact Exists.intro _ (And.intro rfl Fin.now)
  have e1 : b2M c m s = (if bcx c then [m.fp] else []) ++ (dirsR c m 2 s).1 := by unfold b2M; rw [if_pos hk]
  have e2 : s2M c m s = (dirsR c m 2 s).2 := by unfold s2M; rw [if_pos hk]
  rw [e1, e2]
  have hTl := dirsR_len (c := c) hm 2 s hs
  generalize hS : (dirsR c m 2 s).2 = S
  generalize hT : M ++ ((if bcx c then [m.fp] else []) ++ (dirsR c m 2 s).1) = T
  have hTb : T.length ≤ 800001000 := by
    rw [← hT]
    simp only [List.length_append]
    split <;> simp <;> omega
  refine CallOk.body (F0 := [(0, .ptr (H.length + 4) 0 0)]) Tryz.func36 rfl Tryz.ntmps36 Tryz.results36 rfl (by kernel_rfl) rfl ?_
  (repeat refine PW.seq ?_); refine PW.rg rfl fun K hK => ?_; simp (maxSteps := 3000000) (disch := omega) only [go_sem, ↓reduceIte, h4, pB, pC, h2, mB, mbc]; refine hK _ _ ?_; clear hK K
  (repeat refine PW.seq ?_); refine PW.cond (t := _) rfl (fun h => ?_) (fun h => ?_)
  · cases h
  refine PW.skip ?_
  have k2 : (mbc m)[3]? = some (.bool m.fp) := rfl
  have k1 : List.take 2 (List.drop 1 (mbc m)) = [.bool m.ua, .bool m.ub] := rfl
  suffices hl1 : ∀ (d : Nat) (M1 : List Bool) (s1 : St), d ≤ 2 → vrS s1 → M1 ++ (dirsR c m (2 - d) s1).1 = T → (dirsR c m (2 - d) s1).2 = S → PL Tryz.prog _ _ [(0, .ptr (H.length + 4) 0 0), (34, .agg [.bool m.ua, .bool m.ub]), (35, .int .i64 (d : Int))] (pH H i j M1 x0 x1 x3 c m s1) _ by
    (repeat refine PW.seq ?_); refine PW.rg rfl fun K hK => ?_; simp (maxSteps := 3000000) (disch := omega) only [go_sem, ↓reduceIte, h4, pB, pC]; refine VCx.call (bo _) rfl ?_; simp (maxSteps := 3000000) (disch := omega) only [go_sem]; refine hK _ _ ?_; clear hK K
    cases hbv : bcx c with
    | false =>
      (repeat refine PW.seq ?_); refine PW.cond (t := _) rfl (fun h => ?_) (fun h => ?_)
      · cases h
      refine PW.skip ?_
      rw [hbv, if_neg (by decide), List.nil_append] at hT
      (repeat refine PW.seq ?_); refine PW.rg rfl fun K hK => ?_; simp (maxSteps := 3000000) (disch := omega) only [go_sem, ↓reduceIte, h4, pB, pC, h2, mB, k1]; refine hK _ _ ?_; clear hK K
      (repeat refine PW.seq ?_); refine PW.block (PW.loop ?_)
      exact PL.at [0, 34, 35] (hl1 0 M s (by omega) hs hT hS) rfl rfl
    | true =>
      (repeat refine PW.seq ?_); refine PW.cond (t := _) rfl (fun h => ?_) (fun h => ?_)
      rotate_left
      · cases h
      rw [hbv, if_pos rfl, ← List.append_assoc] at hT
      have fl1 := fl M s m.fp (by omega)
      (repeat refine PW.seq ?_); refine PW.rg rfl fun K hK => ?_; simp (maxSteps := 3000000) (disch := omega) only [go_sem, ↓reduceIte, h4, pB, pC, h2, mB, k2]
      refine VCx.call (fl1) rfl ?_; simp (maxSteps := 3000000) (disch := omega) only [go_sem]; refine hK _ _ ?_; clear hK K
      (repeat refine PW.seq ?_); refine PW.rg rfl fun K hK => ?_; simp (maxSteps := 3000000) (disch := omega) only [go_sem, ↓reduceIte, h4, pB, pC, h2, mB, k1]; refine hK _ _ ?_; clear hK K
      (repeat refine PW.seq ?_); refine PW.block (PW.loop ?_)
      exact PL.at [0, 34, 35] (hl1 0 _ s (by omega) hs hT hS) rfl rfl
  intro d M1 s1 hd hs1 hM1 hS1
  induction hdd : 2 - d using Nat.strongRecOn generalizing d M1 s1 with
  | _ dd ih =>
    refine PL.round ?_; (repeat refine PW.seq ?_); refine PW.rg rfl fun K hK => ?_; simp (maxSteps := 3000000) (disch := omega) only [go_sem, ↓reduceIte]; refine hK _ _ ?_; clear hK K
    (repeat refine PW.seq ?_); refine PW.cond (t := _) rfl (fun h => ?_) (fun h => ?_)
    rotate_left
    · have h6 : d = 2 := by have := of_decide_eq_false h; omega
      subst h6
      refine PW.exit ?_
      simp only [Nat.sub_self, dirsR, List.append_nil] at hM1 hS1
      subst hM1 hS1
      exact Exists.intro _ (And.intro rfl Fin.now)
    have h6 : d < 2 := by have := of_decide_eq_true h; omega
    obtain ⟨n', hn'⟩ : ∃ n', 2 - d = n' + 1 := ⟨1 - d, by omega⟩
    have hd1 : 1 - n' = d := by omega
    rw [hn', dirsR, hd1] at hM1 hS1
    have hnx := fun M1 s1 => ih (2 - (d + 1)) (by omega) (d + 1) M1 s1 (by omega)
    rw [show 2 - (d + 1) = n' by omega] at hnx
    have hT1 : M1.length ≤ 800001000 := by
      have : M1.length ≤ T.length := by rw [← hM1, List.length_append]; omega
      omega
    have hus : ([.bool m.ua, .bool m.ub] : List PV)[d]? = some (.bool (usd m d)) := by
      have : d = 0 ∨ d = 1 := by omega
      rcases this with rfl | rfl <;> rfl
    have hdb : dirB c m s1 d = if usd m d then vecsR c m d (nvM m) s1 else ([], s1) := rfl
    refine PW.skip ?_; (repeat refine PW.seq ?_); refine PW.block ?_
    (repeat refine PW.seq ?_); refine PW.rg rfl fun K hK => ?_; simp (maxSteps := 3000000) (disch := omega) only [go_sem, hus]; refine hK _ _ ?_; clear hK K
    (repeat refine PW.seq ?_); refine PW.rg rfl fun K hK => ?_; simp (maxSteps := 3000000) (disch := omega) only [go_sem]; refine hK _ _ ?_; clear hK K
    cases hu : usd m d with
    | false =>
      rw [hu, if_neg (by decide)] at hdb
      rw [hdb] at hM1 hS1
      (repeat refine PW.seq ?_); refine PW.cond (t := _) rfl (fun h => ?_) (fun h => ?_)
      rotate_left
      · cases h
      refine PW.exit ?_
      (repeat refine PW.seq ?_); refine PW.rg rfl fun K hK => ?_; simp (maxSteps := 3000000) (disch := omega) only [go_sem, ↓reduceIte]; refine hK _ _ ?_; clear hK K
      exact PL.at [0, 34, 35] (hnx M1 s1 hs1 hM1 hS1 rfl) rfl rfl
    | true =>
      rw [hu, if_pos rfl] at hdb
      rw [hdb] at hM1 hS1
      (repeat refine PW.seq ?_); refine PW.cond (t := _) rfl (fun h => ?_) (fun h => ?_)
      · cases h
      refine PW.skip ?_
      have hnv := nvM_b m
      have vo := ve M1 s1
      have env : (if m.fp then (2 : Int) else 1) = ((nvM m : Nat) : Int) := by unfold nvM; cases m.fp <;> rfl
      rw [env] at vo
      (repeat refine PW.seq ?_); refine PW.rg rfl fun K hK => ?_; simp (maxSteps := 3000000) (disch := omega) only [go_sem, ↓reduceIte, h4, pB, pC]; refine VCx.call (vo) rfl ?_; simp (maxSteps := 3000000) (disch := omega) only [go_sem]; refine hK _ _ ?_; clear hK K
      (repeat refine PW.seq ?_); refine PW.block (PW.loop ?_)
      suffices hl2 : ∀ (k : Nat) (M2 : List Bool) (s2 : St), k ≤ nvM m → vrS s2 → M2 ++ ((vecsR c m d (nvM m - k) s2).1 ++ (dirsR c m n' (vecsR c m d (nvM m - k) s2).2).1) = T → (dirsR c m n' (vecsR c m d (nvM m - k) s2).2).2 = S →
          PL Tryz.prog _ _ [(0, .ptr (H.length + 4) 0 0), (2, .int .i64 (d : Int)), (34, .agg [.bool m.ua, .bool m.ub]), (35, .int .i64 (d : Int)), (45, .int .i64 (nvM m : Int)), (46, .int .i64 (k : Int))] (pH H i j M2 x0 x1 x3 c m s2) _ by
        exact PL.at [0, 2, 34, 35, 45, 46] (hl2 0 M1 s1 (by omega) hs1 hM1 hS1) rfl rfl
      clear ih hM1 hS1 hs1 hT1 hdb vo
      intro k M2 s2 hk2 hs2 hM2 hS2
      induction hkk : nvM m - k using Nat.strongRecOn generalizing k M2 s2 with
      | _ kk ih2 =>
        refine PL.round ?_; (repeat refine PW.seq ?_); refine PW.rg rfl fun K hK => ?_; simp (maxSteps := 3000000) (disch := omega) only [go_sem, ↓reduceIte]; refine hK _ _ ?_; clear hK K
        (repeat refine PW.seq ?_); refine PW.cond (t := _) rfl (fun h => ?_) (fun h => ?_)
        rotate_left
        · have h7 : k = nvM m := by have := of_decide_eq_false h; omega
          subst h7
          refine PW.exit ?_
          simp only [Nat.sub_self, vecsR, List.nil_append] at hM2 hS2
          (repeat refine PW.seq ?_); refine PW.rg rfl fun K hK => ?_; simp (maxSteps := 3000000) (disch := omega) only [go_sem, ↓reduceIte]; refine hK _ _ ?_; clear hK K
          exact PL.at [0, 34, 35] (hnx M2 s2 hs2 hM2 hS2 rfl) rfl rfl
        have h7 : k < nvM m := by have := of_decide_eq_true h; omega
        obtain ⟨n2, hn2⟩ : ∃ n2, nvM m - k = n2 + 1 := ⟨nvM m - k - 1, by omega⟩
        have hk1 : nvM m - (n2 + 1) = k := by omega
        rw [hn2, vecsR, hk1] at hM2 hS2
        have hnx2 := fun M1 s1 => ih2 (nvM m - (k + 1)) (by omega) (k + 1) M1 s1 (by omega)
        rw [show nvM m - (k + 1) = n2 by omega] at hnx2
        clear ih2
        have hT2 : M2.length ≤ 800001000 := by
          have : M2.length ≤ T.length := by rw [← hM2, List.length_append]; omega
          omega
        refine PW.skip ?_; (repeat refine PW.seq ?_); refine PW.block ?_
        (repeat refine PW.seq ?_); refine PW.rg rfl fun K hK => ?_; simp (maxSteps := 3000000) (disch := omega) only [go_sem]; refine hK _ _ ?_; clear hK K
        have se1 := se M2 s2
        (repeat refine PW.seq ?_); refine PW.drawt [] [] mix (by kernel_rfl) fun K hK => ?_; simp (maxSteps := 3000000) (disch := omega) only [go_sem, ↓reduceIte, h4, pB, pC]
        refine VCj.now (se1) rfl ?_; simp (maxSteps := 3000000) (disch := omega) only [go_sem]; refine hK _ _ ?_; clear hK K
        have hd01 : d = 0 ∨ d = 1 := by omega
        have hk01 : k = 0 ∨ k = 1 := by omega
        have kS : (mbc m)[13 + d * 2 + k]? = some (.int .i64 (slm m d k)) := by
          rcases hd01 with rfl | rfl <;> rcases hk01 with rfl | rfl <;> rfl
        have kV : List.take 2 (List.drop (5 + d * 4 + k * 2) (mbc m)) = [.int .i64 (vXm m d k), .int .i64 (vYm m d k)] := by
          rcases hd01 with rfl | rfl <;> rcases hk01 with rfl | rfl <;> rfl
        have kX : ∀ mi, (pC s2 i c mi)[4 + d * 2]? = some (.int .i64 (sXs s2 d)) := fun mi => by
          rcases hd01 with rfl | rfl <;> rfl
        have kY : ∀ mi, (pC s2 i c mi)[4 + d * 2 + 1]? = some (.int .i64 (sYs s2 d)) := fun mi => by
          rcases hd01 with rfl | rfl <;> rfl
        have hve : vec1 c m s2 d k = (if m.fp || fcx c then [decide (slm m d k = 1)] else []) ++ (sg (vXm m d k - sXs s2 d) ++ sg (vYm m d k - sYs s2 d)) := rfl
        have hX := (hm d k).1
        have hY := (hm d k).2
        have hX' := (hs2 d).1
        have hY' := (hs2 d).2
        have hs3 := vrS_set hm hs2 d k
        have hse1 : fl = fl := rfl
        suffices hv : ∀ M3 : List Bool, M3 ++ (sg (vXm m d k - sXs s2 d) ++ (sg (vYm m d k - sYs s2 d) ++ ((vecsR c m d n2 (setV s2 d (vXm m d k) (vYm m d k))).1 ++ (dirsR c m n' (vecsR c m d n2 (setV s2 d (vXm m d k) (vYm m d k))).2).1))) = T → M3.length ≤ 800001010 →
            PW Tryz.prog _ _ [(0, .ptr (H.length + 4) 0 0), (2, .int .i64 (d : Int)), (4, .int .i64 (k : Int)), (34, .agg [.bool m.ua, .bool m.ub]), (35, .int .i64 (d : Int)), (45, .int .i64 (nvM m : Int)), (46, .int .i64 (k : Int))] (pH H i j M3 x0 x1 x3 c m s2) _ by
          cases hsel : (m.fp || fcx c) with
          | false =>
            (repeat refine PW.seq ?_); refine PW.cond (t := _) rfl (fun h => ?_) (fun h => ?_)
            · cases h
            refine PW.skip ?_
            rw [hve, hsel, if_neg (by decide), List.nil_append, List.append_assoc, List.append_assoc] at hM2
            exact PW.at [0, 2, 4, 34, 35, 45, 46] (hv M2 hM2 (by omega)) rfl rfl
          | true =>
            (repeat refine PW.seq ?_); refine PW.cond (t := _) rfl (fun h => ?_) (fun h => ?_)
            rotate_left
            · cases h
            rw [hve, hsel, if_pos rfl, List.append_assoc, List.append_assoc, List.append_assoc, ← List.append_assoc M2] at hM2
            have fl1 := fl M2 s2 (decide (slm m d k = 1)) (by omega)
            have hbe : (slm m d k == 1) = decide (slm m d k = 1) := rfl
            (repeat refine PW.seq ?_); refine PW.rg rfl fun K hK => ?_; simp (maxSteps := 3000000) (disch := omega) only [go_sem, ↓reduceIte, h4, pB, pC, h2, mB, kS, hbe]
            refine VCx.call (fl1) rfl ?_; simp (maxSteps := 3000000) (disch := omega) only [go_sem]; refine hK _ _ ?_; clear hK K
            exact PW.at [0, 2, 4, 34, 35, 45, 46] (hv _ hM2 (by simp; omega)) rfl rfl
        intro M3 hM3 hT3
        have b1 := sg_len (vXm m d k - sXs s2 d) (by omega)
        have p1 := psPK H i j M3 x0 x1 x3 c m s2 [⟨55, 0, [.int .i64 (vXm m d k), .int .i64 (vYm m d k)]⟩] (vXm m d k - sXs s2 d) hi hj hne (by omega) (by omega)
        have p2 := psPK H i j (M3 ++ sg (vXm m d k - sXs s2 d)) x0 x1 x3 c m s2 [⟨55, 0, [.int .i64 (vXm m d k), .int .i64 (vYm m d k)]⟩] (vYm m d k - sYs s2 d) hi hj hne (by omega) (by rw [List.length_append]; omega)
        rw [← List.append_assoc, ← List.append_assoc] at hM3
        generalize hM4 : M3 ++ sg (vXm m d k - sXs s2 d) ++ sg (vYm m d k - sYs s2 d) = M4 at *
        have q4 := fun M => pHK_4 H i j M x0 x1 x3 c m s2 [⟨55, 0, [.int .i64 (vXm m d k), .int .i64 (vYm m d k)]⟩]
        have q5 := fun M V => pHK_5 H i j M x0 x1 x3 c m s2 [] V
        have r5 := fun M V B => pHK_s5 H i j M x0 x1 x3 c m s2 [] V B
        have hset := fun B => pHK_set H i j M4 x0 x1 x3 c m s2 [⟨55, 0, [.int .i64 (vXm m d k), .int .i64 (vYm m d k)]⟩] B
        have pc8 : ∀ mi, (pC s2 i c mi)[8]? = some (.ptr i 0 0) := fun _ => rfl
        have pcl : ∀ mi, (pC s2 i c mi).length = 14 := fun _ => rfl
        have hpl := fun M s => pH_len H i j M x0 x1 x3 c m s
        have hca : (mbc m).length = 24 + (is m.lv).length := by simp [mbc]; omega
        (repeat refine PW.seq ?_); refine PW.rg rfl fun K hK => ?_; simp (maxSteps := 3000000) (disch := omega) only [go_sem, ↓reduceIte, h4, pB, pC, h2, mB, kV, hpl, hca, q5, r5]; refine hK _ _ ?_; clear hK K
        (repeat refine PW.seq ?_); refine PW.drawt [] [] mix (by kernel_rfl) fun K hK => ?_; simp (maxSteps := 3000000) (disch := omega) only [go_sem, ↓reduceIte, q4, q5, pB, kX, pc8]
        refine VCj.now (p1) rfl ?_; simp (maxSteps := 3000000) (disch := omega) only [go_sem]; refine hK _ _ ?_; clear hK K
        (repeat refine PW.seq ?_); refine PW.drawt [] [] mix (by kernel_rfl) fun K hK => ?_; simp (maxSteps := 3000000) (disch := omega) only [go_sem, ↓reduceIte, q4, q5, pB, kY, pc8]
        refine VCj.now (p2) rfl ?_; simp (maxSteps := 3000000) (disch := omega) only [go_sem]; refine hK _ _ ?_; clear hK K
        (repeat refine PW.seq ?_); refine PW.drawt [] [] mix (by kernel_rfl) fun K hK => ?_; simp (maxSteps := 3000000) (disch := omega) only [go_sem, ↓reduceIte, q4, q5, pB, hset, pcl]
        have hcell : List.take (4 + d * 2) (pC s2 i c (H.length + 2)) ++ PV.int .i64 (vXm m d k) :: PV.int .i64 (vYm m d k) :: List.drop (4 + d * 2 + (1 + 1)) (pC s2 i c (H.length + 2)) = pC (setV s2 d (vXm m d k) (vYm m d k)) i c (H.length + 2) := by
          rcases hd01 with rfl | rfl <;> rfl
        rw [hcell]
        refine hK _ _ ?_; clear hK K
        (repeat refine PW.seq ?_); refine PW.rg rfl fun K hK => ?_; simp (maxSteps := 3000000) (disch := omega) only [go_sem, ↓reduceIte]; refine hK _ _ ?_; clear hK K
        refine PL.view (Vs.trim (F1 := [(0, .ptr (H.length + 4) 0 0), (2, .int .i64 (d : Int)), (34, .agg [.bool m.ua, .bool m.ub]), (35, .int .i64 (d : Int)), (45, .int .i64 (nvM m : Int)), (46, .int .i64 ((k + 1 : Nat) : Int))]) (H1 := pH H i j M4 x0 x1 x3 c m (setV s2 d (vXm m d k) (vYm m d k))) (hsc_pH H i j M x0 x1 x3 c m s M4 _ hi hj hne) (by rw [pH_len, pH_len]; exact Nat.le_refl _) (List.append_assoc _ [_, _, _, _, _] [_]).symm ?_) (hnx2 M4 _ hs3 hM3 hS2 rfl)
        rw [pH_len]
        refine ⟨.id (.ptr (by omega)), .id (.int _ _), .id (ag_scoped fun x hx => ?_), .id (.int _ _), .id (.int _ _), .id (.int _ _), trivial⟩
        simp only [List.mem_cons, List.not_mem_nil, or_false] at hx
        rcases hx with rfl | rfl <;> exact .bool _

end Go.Proofs.YthmladiijdlgkaaGreat.Sc

namespace Go.Proofs.YthmladiijdlgkaaGreat.Sc
set_option linter.all false
set_option linter.unusedVariables false
set_option linter.unusedSimpArgs false
open Pm Ty Go.RowKit

def blkM (m : Mb) (n : Nat) : List Int := (m.lv.drop (n * 64)).take 64
def dcS (s : St) (k : Nat) : Int := if k = 0 then s.da else if k = 1 then s.db else s.dc
def setD (s : St) (k : Nat) (x : Int) : St := if k = 0 then ⟨s.q, x, s.db, s.dc, s.va, s.vb, s.vc, s.vd⟩ else if k = 1 then ⟨s.q, s.da, x, s.dc, s.va, s.vb, s.vc, s.vd⟩ else ⟨s.q, s.da, s.db, x, s.va, s.vb, s.vc, s.vd⟩
/-- The last n blocks. -/
def lvsR (m : Mb) : Nat → St → List Bool × St
  | 0, s => ([], s)
  | n + 1, s => if flagAt (cdl m) (5 - n) then
      (if m.k = 2 then (bkc (blkM m (5 - n)) 0 ++ (lvsR m n s).1, (lvsR m n s).2)
       else (sg (intAt m.lv ((5 - n) * 64) - dcS s (5 - n - 3)) ++ (bkc (blkM m (5 - n)) 1 ++ (lvsR m n (setD s (5 - n - 3) (intAt m.lv ((5 - n) * 64)))).1), (lvsR m n (setD s (5 - n - 3) (intAt m.lv ((5 - n) * 64)))).2)) else lvsR m n s
/-- Levels in range. -/
def lrM (m : Mb) : Prop := ∀ q, q < 384 → win (intAt m.lv q) 4095 = true
def dcR (s : St) : Prop := ∀ k, -4095 ≤ dcS s k ∧ dcS s k ≤ 4095
theorem dcR_set {s : St} (h : dcR s) (k : Nat) {x : Int} (hx : -4095 ≤ x ∧ x ≤ 4095) : dcR (setD s k x) := fun e => by
  have h0 : -4095 ≤ s.da ∧ s.da ≤ 4095 := h 0
  have h1 : -4095 ≤ s.db ∧ s.db ≤ 4095 := h 1
  have h2 : -4095 ≤ s.dc ∧ s.dc ≤ 4095 := h 2
  unfold setD
  split
  · unfold dcS; dsimp only; split; exact hx; split; exact h1; exact h2
  · split
    · unfold dcS; dsimp only; split; exact h0; split; exact hx; exact h2
    · unfold dcS; dsimp only; split; exact h0; split; exact h1; exact hx
theorem blkM_in {m : Mb} (h : lrM m) {n : Nat} (hn : n < 6) : inrB (blkM m n) := fun p hp => by
  unfold blkM
  rw [blk_at m.lv n p hp]
  exact h _ (by omega)
theorem lvsR_len {m : Mb} (h : lrM m) : ∀ n s, n ≤ 6 → dcR s → (lvsR m n s).1.length ≤ n * 4100
  | 0, s, _, _ => by simp [lvsR]
  | n + 1, s, hn, hs => by
    have i1 := lvsR_len h n s (by omega) hs
    have w := win_b (h ((5 - n) * 64) (by omega))
    have i2 := lvsR_len h n (setD s (5 - n - 3) (intAt m.lv ((5 - n) * 64))) (by omega) (dcR_set hs _ w)
    have d := hs (5 - n - 3)
    have k0 := bkc_len (blkM m (5 - n)) 0 (blkM_in h (by omega)) (by omega)
    have k1 := bkc_len (blkM m (5 - n)) 1 (blkM_in h (by omega)) (by omega)
    have g := sg_len (intAt m.lv ((5 - n) * 64) - dcS s (5 - n - 3)) (by omega)
    rw [lvsR]
    by_cases hf : flagAt (cdl m) (5 - n) = true
    · rw [if_pos hf]
      by_cases hk : m.k = 2
      · rw [if_pos hk]
        simp only [List.length_append]
        omega
      · rw [if_neg hk]
        simp only [List.length_append]
        omega
    · rw [if_neg hf]
      exact Nat.le_trans i1 (by omega)
theorem pC_dc (s : St) (w : Nat) (c : Cx) (mi q : Nat) (h : q < 3) : (pC s w c mi)[1 + q]? = some (.int .i64 (dcS s q)) := by
  have : q = 0 ∨ q = 1 ∨ q = 2 := by omega
  rcases this with rfl | rfl | rfl <;> rfl
theorem pC_sdc (s : St) (w : Nat) (c : Cx) (mi q : Nat) (x : Int) (h : q < 3) : (pC s w c mi).set (1 + q) (.int .i64 x) = pC (setD s q x) w c mi := by
  have : q = 0 ∨ q = 1 ∨ q = 2 := by omega
  rcases this with rfl | rfl | rfl <;> rfl
theorem mbc_cd (m : Mb) (hl : m.lv.length = 384) : List.take 6 (List.drop 18 (mbc m)) = fs (cdl m) := rfl
theorem mbc_l0 (m : Mb) (n : Nat) (hl : m.lv.length = 384) (hn : n < 6) : (mbc m)[24 + n * 64]? = some (.int .i64 (intAt m.lv (n * 64))) := by
  rw [show 24 + n * 64 = n * 64 + 24 by omega]
  exact is_get m.lv (n * 64) (by omega)
theorem mbc_bl (m : Mb) (n : Nat) : List.take 64 (List.drop (24 + n * 64) (mbc m)) = is (blkM m n) := by
  rw [show 24 + n * 64 = n * 64 + 24 by omega]
  show List.take 64 (List.drop (n * 64) (is m.lv)) = _
  rw [is_drop, is_take]; rfl
theorem bputP (H : Heap) (i j : Nat) (M : List Bool) (x0 x1 x3 : Blk) (c : Cx) (m : Mb) (s : St) (bl : List Int) (fr : Nat) (hi : i < H.length) (hj : j < H.length) (hne : i ≠ j) (hfr : fr ≤ 1) (hbl : bl.length = 64) (hr : inrB bl) (hl : M.length ≤ 800000000) :
    CallOk Tryz.prog 76 [.ptr i 0 0, .agg (is bl), .int .i64 (fr : Int)] (pH H i j M x0 x1 x3 c m s) (.int .i64 0) (pH H i j (M ++ bkc bl fr) x0 x1 x3 c m s) := by
  have := bput_ok i j M bl fr _ (two_Ki H i j (wA j M) (wB M) [x0, x1, mB m, x3, pB s i c (H.length + 2)] hi hne) (two_Kj H i j (wA j M) (wB M) [x0, x1, mB m, x3, pB s i c (H.length + 2)] hj) hne hfr hbl hr hl
  rw [two_app _ _ _ _ _ _ (by rw [two_len]; exact hi) (by rw [two_len]; exact hj), two_two _ _ _ _ _ _ _ hne] at this
  exact this

set_option maxHeartbeats 4000000 in
theorem levP (H : Heap) (i j : Nat) (M : List Bool) (x0 x1 x3 : Blk) (c : Cx) (m : Mb) (s : St) (hi : i < H.length) (hj : j < H.length) (hne : i ≠ j) (hl : M.length ≤ 700000000) (hm : lrM m) (hs : dcR s) (hml : m.lv.length = 384) :
    CallOk Tryz.prog 39 [.ptr (H.length + 4) 0 0] (pH H i j M x0 x1 x3 c m s) (.tup []) (pH H i j (M ++ (lvsR m 6 s).1) x0 x1 x3 c m (lvsR m 6 s).2) := by
  have h4 := fun M s => pH_4 H i j M x0 x1 x3 c m s
  have h2 := fun M s => pH_2 H i j M x0 x1 x3 c m s
  have ps := fun M s v hv hl => psP H i j M x0 x1 x3 c m s v hi hj hne hv hl
  have bp := fun M s bl fr h1 h2 h3 h4 => bputP H i j M x0 x1 x3 c m s bl fr hi hj hne h1 h2 h3 h4
  have k0 : (mbc m)[0]? = some (.int .i64 m.k) := rfl
  have hcd := mbc_cd m hml
  have hl0 := fun n hn => mbc_l0 m n hml hn
  have hbl := mbc_bl m
  have hlen := mbc_len m hml
  have hcl : (fs (cdl m)).length = 6 := rfl
  have hfg := fun n (hn : n < 6) => fs_get (cdl m) n hn
  have hTl := lvsR_len hm 6 s (by omega) hs
  have co := fun n hn K => cmp_ok n K hn
  have blen := fun n (hn : n < 6) => blk_len m.lv n hml hn
  generalize hS : (lvsR m 6 s).2 = S
  generalize hT : M ++ (lvsR m 6 s).1 = T
  have hTb : T.length ≤ 700030000 := by rw [← hT, List.length_append]; omega
  refine CallOk.body (F0 := [(0, .ptr (H.length + 4) 0 0)]) Tryz.func39 rfl Tryz.ntmps39 Tryz.results39 rfl (by kernel_rfl) rfl ?_
  (repeat refine PW.seq ?_); refine PW.rg rfl fun K hK => ?_; simp (maxSteps := 3000000) (disch := omega) only [go_sem, ↓reduceIte, h4, pB, pC, h2, mB, hcd, hlen]; refine hK _ _ ?_; clear hK K
  (repeat refine PW.seq ?_); refine PW.block (PW.loop ?_)
  suffices hl1 : ∀ (n : Nat) (M1 : List Bool) (s1 : St), n ≤ 6 → dcR s1 → M1 ++ (lvsR m (6 - n) s1).1 = T → (lvsR m (6 - n) s1).2 = S → PL Tryz.prog _ _ [(0, .ptr (H.length + 4) 0 0), (11, .agg (fs (cdl m))), (12, .int .i64 (n : Int))] (pH H i j M1 x0 x1 x3 c m s1) _ by
    exact PL.at [0, 11, 12] (hl1 0 M s (by omega) hs hT hS) rfl rfl
  intro n M1 s1 hn hs1 hT1 hS1
  induction hd : 6 - n using Nat.strongRecOn generalizing n M1 s1 with
  | _ d ih =>
    refine PL.round ?_; (repeat refine PW.seq ?_); refine PW.rg rfl fun K hK => ?_; simp (maxSteps := 3000000) (disch := omega) only [go_sem, ↓reduceIte]; refine hK _ _ ?_; clear hK K
    (repeat refine PW.seq ?_); refine PW.cond (t := _) rfl (fun h => ?_) (fun h => ?_)
    rotate_left
    · have h6 : n = 6 := by have := of_decide_eq_false h; omega
      subst h6
      refine PW.exit ?_
      simp only [Nat.sub_self, lvsR, List.append_nil] at hT1 hS1
      subst hT1 hS1
      exact Exists.intro _ (And.intro rfl Fin.now)
    · have h6 : n < 6 := by have := of_decide_eq_true h; omega
      have hM1 : M1.length ≤ 700030000 := by
        have : M1.length ≤ T.length := by rw [← hT1, List.length_append]; omega
        omega
      obtain ⟨d', hd'⟩ : ∃ d', 6 - n = d' + 1 := ⟨5 - n, by omega⟩
      have hn5 : 5 - d' = n := by omega
      have hdn : 6 - (n + 1) = d' := by omega
      rw [hd', lvsR, hn5] at hT1 hS1
      have hnx := ih (6 - (n + 1)) (by omega) (n + 1)
      have hgx := hfg n h6
      have hbln := hbl n
      have hbl64 := blen n h6
      change (blkM m n).length = 64 at hbl64
      have hin := blkM_in hm h6
      have hl0n := hl0 n h6
      have wl := win_b (hm (n * 64) (by omega))
      have dl := hs1 (n - 3)
      generalize intAt m.lv (n * 64) = x at *
      generalize blkM m n = bl at *
      have hcel := is_cell bl
      have hil : (is bl).length = 64 := by rw [is_len, hbl64]
      rw [hdn] at hnx
      refine PW.skip ?_; (repeat refine PW.seq ?_); refine PW.block ?_
      (repeat refine PW.seq ?_); refine PW.rg rfl fun K hK => ?_; simp (maxSteps := 3000000) (disch := omega) only [go_sem, hgx]; refine hK _ _ ?_; clear hK K
      generalize flagAt (cdl m) n = fg at *
      (repeat refine PW.seq ?_); refine PW.rg rfl fun K hK => ?_; simp (maxSteps := 3000000) (disch := omega) only [go_sem]; refine hK _ _ ?_; clear hK K
      cases fg with
      | false =>
        simp only [Bool.false_eq_true, if_false] at hT1 hS1
        (repeat refine PW.seq ?_); refine PW.cond (t := _) rfl (fun h => ?_) (fun h => ?_)
        rotate_left
        · cases h
        refine PW.exit ?_
        (repeat refine PW.seq ?_); refine PW.rg rfl fun K hK => ?_; simp (maxSteps := 3000000) (disch := omega) only [go_sem, ↓reduceIte]; refine hK _ _ ?_; clear hK K
        exact PL.at [0, 11, 12] (hnx M1 s1 (by omega) hs1 hT1 hS1 rfl) rfl rfl
      | true =>
        simp only [if_true] at hT1 hS1
        (repeat refine PW.seq ?_); refine PW.cond (t := _) rfl (fun h => ?_) (fun h => ?_)
        · cases h
        refine PW.skip ?_
        (repeat refine PW.seq ?_); refine PW.rg rfl fun K hK => ?_; simp (maxSteps := 3000000) (disch := omega) only [go_sem, ↓reduceIte, h4, pB, pC, h2, mB, k0]; refine hK _ _ ?_; clear hK K
        have pc8 : ∀ mi, (pC s1 i c mi)[8]? = some (.ptr i 0 0) := fun _ => rfl
        have pcl : ∀ mi, (pC s1 i c mi).length = 14 := fun _ => rfl
        have pc13 : ∀ mi, (pC s1 i c mi)[13]? = some (.ptr mi 0 0) := fun _ => rfl
        have hq3 : n - 3 < 3 := by omega
        have pdc := fun mi => pC_dc s1 i c mi (n - 3) hq3
        have psd := fun mi x => pC_sdc s1 i c mi (n - 3) x hq3
        have con := co n h6
        (repeat refine PW.seq ?_); refine PW.cond (t := _) rfl (fun h => ?_) (fun h => ?_)
        · have hk : m.k = 2 := by simpa using h
          rw [if_pos hk] at hT1 hS1
          rw [← List.append_assoc] at hT1
          have bp1 := bp M1 s1 bl 0 (by omega) hbl64 hin (by omega)
          (repeat refine PW.seq ?_); refine PW.drawt [] [] mix (by kernel_rfl) fun K hK => ?_; simp (maxSteps := 3000000) (disch := omega) only [go_sem, ↓reduceIte, h4, pB, pc8, pc13, h2, mB, hbln, hlen]
          refine VCj.now (bp1) rfl ?_; simp (maxSteps := 3000000) (disch := omega) only [go_sem]; refine hK _ _ ?_; clear hK K
          refine PW.exit ?_
          (repeat refine PW.seq ?_); refine PW.rg rfl fun K hK => ?_; simp (maxSteps := 3000000) (disch := omega) only [go_sem, ↓reduceIte]; refine hK _ _ ?_; clear hK K
          exact PL.at [0, 11, 12] (hnx _ s1 (by omega) hs1 hT1 hS1 rfl) rfl rfl
        · have hk : ¬m.k = 2 := by simpa using h
          rw [if_neg hk] at hT1 hS1
          refine PW.skip ?_
          (repeat refine PW.seq ?_); refine PW.draw mix (by kernel_rfl) fun K hK => ?_; simp (maxSteps := 3000000) (disch := omega) only [go_sem]
          refine VCy.call (con _) rfl ?_; simp (maxSteps := 3000000) (disch := omega) only [go_sem, ↓reduceIte, h4, pB]; refine hK _ _ ?_; clear hK K
          have hs4 := dcR_set hs1 (n - 3) wl
          have g1 := sg_len (x - dcS s1 (n - 3)) (by omega)
          have p1 := ps M1 s1 (x - dcS s1 (n - 3)) (by omega) (by omega)
          have p2 := bp (M1 ++ sg (x - dcS s1 (n - 3))) (setD s1 (n - 3) x) bl 1 (by omega) hbl64 hin (by rw [List.length_append]; omega)
          have hset := fun M B => pH_set H i j M x0 x1 x3 c m s1 B
          rw [← List.append_assoc, ← List.append_assoc] at hT1
          (repeat refine PW.seq ?_); refine PW.drawt [] [] mix (by kernel_rfl) fun K hK => ?_; simp (maxSteps := 3000000) (disch := omega) only [go_sem, ↓reduceIte, h4, pB, pc8, pc13, h2, mB, hl0n, pdc]
          refine VCj.now (p1) rfl ?_; simp (maxSteps := 3000000) (disch := omega) only [go_sem]; refine hK _ _ ?_; clear hK K
          (repeat refine PW.seq ?_); refine PW.rg rfl fun K hK => ?_; simp (maxSteps := 3000000) (disch := omega) only [go_sem, ↓reduceIte, h4, pB, pc13, h2, mB, hl0n, hset, psd, pcl]; refine hK _ _ ?_; clear hK K
          refine PW.eq (H1 := pH H i j (M1 ++ sg (x - dcS s1 (n - 3))) x0 x1 x3 c m (setD s1 (n - 3) x)) rfl rfl ?_
          have pc8' : ∀ mi, (pC (setD s1 (n - 3) x) i c mi)[8]? = some (.ptr i 0 0) := fun _ => rfl
          have pc13' : ∀ mi, (pC (setD s1 (n - 3) x) i c mi)[13]? = some (.ptr mi 0 0) := fun _ => rfl
          (repeat refine PW.seq ?_); refine PW.drawt [] [] mix (by kernel_rfl) fun K hK => ?_; simp (maxSteps := 3000000) (disch := omega) only [go_sem, ↓reduceIte, h4, pB, pc8', pc13', h2, mB, hbln, hlen]
          refine VCj.now (p2) rfl ?_; simp (maxSteps := 3000000) (disch := omega) only [go_sem]; refine hK _ _ ?_; clear hK K
          (repeat refine PW.seq ?_); refine PW.rg rfl fun K hK => ?_; simp (maxSteps := 3000000) (disch := omega) only [go_sem, ↓reduceIte]; refine hK _ _ ?_; clear hK K
          exact PL.at [0, 11, 12] (hnx _ _ (by omega) hs4 hT1 hS1 rfl) rfl (by rw [List.append_assoc])

end Go.Proofs.YthmladiijdlgkaaGreat.Sc

namespace Go.Proofs.YthmladiijdlgkaaGreat.Sc
set_option linter.all false
set_option linter.unusedVariables false
set_option linter.unusedSimpArgs false
open Pm Ty Go.RowKit
def s23 (c : Cx) (m : Mb) (s : St) : St := s3M m (s2M c m s)
def mbits (c : Cx) (s : St) (m : Mb) : List Bool := b1M c m ++ (b2M c m s ++ (b3M c m ++ (b4M m ++ (lvsR m 6 (s23 c m s)).1)))
def mstate (c : Cx) (s : St) (m : Mb) : St := aft (lvsR m 6 (s23 c m s)).2 m.k
def zSt : St := ⟨0, 0, 0, 0, 0, 0, 0, 0⟩
def mput (c : Cx) (s : St) (m : Mb) : List Bool × St × Int :=
  if fmS c m && vstB s then (if vqB (s.q + m.dl) then (mbits c s m, mstate c s m, 0) else ([], zSt, 2)) else ([], zSt, 1)
theorem zbk_zero {lv : List Int} {n j : Nat} (h : zbk lv n = true) (hj : j < 64) : intAt lv (n * 64 + j) = 0 := by
  have e := blk_at lv n j hj
  have hz : (lv.drop (n * 64)).take 64 = List.replicate 64 0 := by simpa [zbk] using h
  rw [hz] at e
  rw [← e]
  rw [intAt, List.getD_eq_getElem?_getD, List.getElem?_replicate, if_pos hj]
  rfl
structure Fmd (c : Cx) (m : Mb) : Prop where
  k : m.k = 0 ∨ m.k = 1 ∨ m.k = 2
  v : vrM m
  l : lrM m
  d : -30 ≤ m.dl ∧ m.dl ≤ 30
  z : m.k = 0 → m.dl = 0 ∧ hlM m = false
  i : m.k = 1 → cdl m = [true, true, true, true, true, true]
  n : hlM m = false → m.dl = 0
theorem lvr_all {lv : List Int} (h : lvr lv = true) : ∀ q, q < 384 → win (intAt lv q) 4095 = true := fun q hq => List.all_eq_true.1 h q (List.mem_range.2 hq)
theorem lr_zero {lv : List Int} (h : zlv lv = true) : ∀ q, q < 384 → win (intAt lv q) 4095 = true := fun q hq => by
  simp only [zlv, Bool.and_eq_true] at h
  obtain ⟨h0, h1, h2, h3, h4, h5, _⟩ := h
  have e : q = q / 64 * 64 + q % 64 := by omega
  have hj : q % 64 < 64 := by omega
  have hn : q / 64 = 0 ∨ q / 64 = 1 ∨ q / 64 = 2 ∨ q / 64 = 3 ∨ q / 64 = 4 ∨ q / 64 = 5 := by omega
  have z : intAt lv q = 0 := by
    rw [e]
    rcases hn with hn | hn | hn | hn | hn | hn <;> rw [hn]
    · exact zbk_zero h0 hj
    · exact zbk_zero h1 hj
    · exact zbk_zero h2 hj
    · exact zbk_zero h3 hj
    · exact zbk_zero h4 hj
    · exact zbk_zero h5 hj
  rw [z]; decide
theorem vrM_of {m : Mb} (h0 : (-63 ≤ m.va ∧ m.va ≤ 63) ∧ (-63 ≤ m.vb ∧ m.vb ≤ 63)) (h1 : (-63 ≤ m.vc ∧ m.vc ≤ 63) ∧ (-63 ≤ m.vd ∧ m.vd ≤ 63)) (h2 : (-63 ≤ m.ve ∧ m.ve ≤ 63) ∧ (-63 ≤ m.vf ∧ m.vf ≤ 63)) (h3 : (-63 ≤ m.vg ∧ m.vg ≤ 63) ∧ (-63 ≤ m.vh ∧ m.vh ≤ 63)) : vrM m := fun d k => by
  unfold vXm vYm
  split <;> split
  · exact h0
  · exact h1
  · exact h2
  · exact h3
theorem vrg_b {x y : Int} (h : vrg x y = true) : (-63 ≤ x ∧ x ≤ 63) ∧ (-63 ≤ y ∧ y ≤ 63) := by
  simp only [vrg, Bool.and_eq_true] at h
  exact ⟨win_b h.1, win_b h.2⟩
theorem dirS_b {c : Cx} {fp used : Bool} {a b d e p q : Int} (h : dirS c fp used a b d e p q = true) : ((-63 ≤ a ∧ a ≤ 63) ∧ (-63 ≤ b ∧ b ≤ 63)) ∧ ((-63 ≤ d ∧ d ≤ 63) ∧ (-63 ≤ e ∧ e ≤ 63)) := by
  unfold dirS at h
  split at h
  · simp only [Bool.and_eq_true] at h
    exact ⟨vrg_b h.1, vrg_b h.2.1⟩
  · simp only [Bool.and_eq_true, decide_eq_true_eq] at h
    omega
theorem fch_b {c : Cx} {m : Mb} (h : fch c m = true) : (-30 ≤ m.dl ∧ m.dl ≤ 30) ∧ (hlM m = false → m.dl = 0) := by
  unfold fch at h
  split at h
  · rename_i hh
    simp only [Bool.and_eq_true] at h
    exact ⟨win_b h.2, fun e => by rw [e] at hh; cases hh⟩
  · simp only [Bool.and_eq_true, decide_eq_true_eq] at h
    exact ⟨by omega, fun _ => h.2⟩
theorem fmd_of {c : Cx} {m : Mb} (h : fmS c m = true) : Fmd c m := by
  unfold fmS at h
  simp only [Bool.and_eq_true] at h
  obtain ⟨h1, h2⟩ := h
  split at h2
  · rename_i hk
    simp only [Bool.and_eq_true, zmb] at h2
    obtain ⟨_, hz, hl, _⟩ := h2
    simp only [zA, Bool.and_eq_true, beq_iff_eq, and_true] at hz
    have hh : hlM m = false := by simp [hlM, anyC, hk, hz]
    exact ⟨.inl hk, vrM_of (by omega) (by omega) (by omega) (by omega), lr_zero hl, by omega, fun _ => ⟨by omega, hh⟩, fun e => by omega, fun _ => by omega⟩
  · split at h2
    · rename_i hk0 hk
      simp only [Bool.and_eq_true] at h2
      obtain ⟨hz, ha, hf, hl⟩ := h2
      simp only [zI, Bool.and_eq_true, beq_iff_eq, and_true] at hz
      simp only [aC, Bool.and_eq_true, beq_iff_eq, and_true] at ha
      obtain ⟨f1, f2⟩ := fch_b hf
      exact ⟨.inr (.inl hk), vrM_of (by omega) (by omega) (by omega) (by omega), lvr_all hl, f1, fun e => absurd e hk0, fun _ => by simp [cdl, ha], f2⟩
    · split at h2
      · rename_i hk0 hk1 hk
        by_cases ht : c.t = 1
        · rw [intS_I c m ht] at h2; cases h2
        · rw [intS_eq c m hk ht] at h2
          simp only [Bool.and_eq_true, fprd, d0S, d1S] at h2
          obtain ⟨⟨_, _, h3, h4⟩, hf, _, hl⟩ := h2
          obtain ⟨f1, f2⟩ := fch_b hf
          exact ⟨.inr (.inr hk), vrM_of (dirS_b h3).1 (dirS_b h3).2 (dirS_b h4).1 (dirS_b h4).2, lvr_all hl, f1, fun e => absurd e hk0, fun e => absurd e hk1, f2⟩
      · cases h2
theorem vst_b {s : St} (h : vstB s = true) : (1 ≤ s.q ∧ s.q ≤ 31) ∧ vrS s ∧ dcR s := by
  simp only [vstB, Bool.and_eq_true, vqB, decide_eq_true_eq] at h
  obtain ⟨⟨h1, h2, h3⟩, h4, h5, h6⟩ := h
  refine ⟨h4, fun d => ?_, fun k => ?_⟩
  · unfold sXs sYs
    split
    · exact vrg_b h5
    · exact vrg_b h6
  · unfold dcS
    split
    · exact win_b h1
    · split
      · exact win_b h2
      · exact win_b h3
def SameQ (s t : St) : Prop := t.q = s.q ∧ t.da = s.da ∧ t.db = s.db ∧ t.dc = s.dc
theorem setV_same (s : St) (d : Nat) (x y : Int) : SameQ s (setV s d x y) := by unfold setV; split <;> exact ⟨rfl, rfl, rfl, rfl⟩
theorem SameQ.trans {a b c : St} (h : SameQ a b) (k : SameQ b c) : SameQ a c := ⟨k.1.trans h.1, k.2.1.trans h.2.1, k.2.2.1.trans h.2.2.1, k.2.2.2.trans h.2.2.2⟩
theorem vecsR_same (c : Cx) (m : Mb) (d : Nat) : ∀ n s, SameQ s (vecsR c m d n s).2
  | 0, s => ⟨rfl, rfl, rfl, rfl⟩
  | n + 1, s => (setV_same s d _ _).trans (vecsR_same c m d n _)
theorem dirB_same (c : Cx) (m : Mb) (s : St) (d : Nat) : SameQ s (dirB c m s d).2 := by
  unfold dirB; split
  · exact vecsR_same c m d _ s
  · exact ⟨rfl, rfl, rfl, rfl⟩
theorem dirsR_same (c : Cx) (m : Mb) : ∀ n s, SameQ s (dirsR c m n s).2
  | 0, s => ⟨rfl, rfl, rfl, rfl⟩
  | n + 1, s => (dirB_same c m s _).trans (dirsR_same c m n _)
theorem s2M_same (c : Cx) (m : Mb) (s : St) : SameQ s (s2M c m s) := by
  unfold s2M; split
  · exact dirsR_same c m 2 s
  · exact ⟨rfl, rfl, rfl, rfl⟩
theorem dcR_same {s t : St} (h : SameQ s t) (k : dcR s) : dcR t := fun e => by
  have := k e
  unfold dcS at this ⊢
  rw [h.2.1, h.2.2.1, h.2.2.2]; exact this
theorem s3M_dc {m : Mb} {s : St} (k : dcR s) : dcR (s3M m s) := by
  unfold s3M; split
  · exact k
  · exact k
end Go.Proofs.YthmladiijdlgkaaGreat.Sc

namespace Go.Proofs.YthmladiijdlgkaaGreat.Sc
set_option linter.all false
set_option linter.unusedVariables false
set_option linter.unusedSimpArgs false
open Pm Ty Go.RowKit
section
variable (H : Heap) (i j : Nat) (A B : Blk) (K : Heap)
theorem two_Kn (n : Nat) : (two H i j A B ++ K)[H.length + n]? = K[n]? := by
  rw [List.getElem?_append_right (by rw [two_len]; omega), two_len, show H.length + n - H.length = n by omega]
theorem two_K0 : (two H i j A B ++ K)[H.length]? = K[0]? := two_Kn H i j A B K 0
theorem two_Ksn (n : Nat) (X : Blk) : (two H i j A B ++ K).set (H.length + n) X = two H i j A B ++ K.set n X := by
  rw [List.set_append_right _ _ (by rw [two_len]; omega), two_len, show H.length + n - H.length = n by omega]
theorem two_Kl : (two H i j A B ++ K).length = H.length + K.length := by rw [List.length_append, two_len]
end
theorem pH_3 (H : Heap) (i j : Nat) (M : List Bool) (x0 x1 x3 : Blk) (c : Cx) (m : Mb) (s : St) : (pH H i j M x0 x1 x3 c m s)[H.length + 3]? = some x3 := by
  unfold pH; rw [two_Kn]; rfl
theorem pH_set3 (H : Heap) (i j : Nat) (M : List Bool) (x0 x1 x3 : Blk) (c : Cx) (m : Mb) (s : St) (B : Blk) : (pH H i j M x0 x1 x3 c m s).set (H.length + 3) B = pH H i j M x0 x1 B c m s := by
  unfold pH; rw [two_Ksn]; rfl
theorem all_scoped' {n : Nat} {xs : List PV} (h : ∀ x ∈ xs, Scoped n x) : ∀ (j : Nat) (x : PV), xs[j]? = some x → Scoped n x := fun j x hx => h x (List.mem_of_getElem? hx)
theorem cxc_cell (c : Cx) : (cxc c).all PV.cell = true := rfl
theorem stc_cell (s : St) : (stc s).all PV.cell = true := rfl
theorem mbc_cell (m : Mb) : (mbc m).all PV.cell = true := by
  have hall := is_cell m.lv
  simp [mbc, PV.cell]
  exact fun x hx => List.all_eq_true.1 hall x hx
theorem mbits_len {c : Cx} {s : St} {m : Mb} (hf : Fmd c m) (hv : vrS s) (hd : dcR s) : (mbits c s m).length ≤ 30000 ∧ (b1M c m).length ≤ 31 ∧ (b2M c m s).length ≤ 300 ∧ (b3M c m).length ≤ 40 ∧ (b4M m).length ≤ 6 ∧ dcR (s23 c m s) := by
  have h1 : (b1M c m).length ≤ 31 := by
    unfold b1M
    split
    · simp
    · exact eg_len _ (by have := numM_b c m; omega)
  have h2 : (b2M c m s).length ≤ 300 := by
    unfold b2M
    have := dirsR_len (c := c) hf.v 2 s hv
    split
    · simp only [List.length_append]
      split <;> simp <;> omega
    · simp
  have h3 : (b3M c m).length ≤ 40 := by
    unfold b3M
    have := sg_len m.dl (by have := hf.d; omega)
    split
    · simp only [List.length_append]
      split <;> simp <;> omega
    · simp
  have h4 : (b4M m).length ≤ 6 := by
    unfold b4M
    split
    · exact Nat.le_refl _
    · simp
  have h5 : dcR (s23 c m s) := s3M_dc (dcR_same (s2M_same c m s) hd)
  have h6 := lvsR_len hf.l 6 _ (by omega) h5
  refine ⟨?_, h1, h2, h3, h4, h5⟩
  unfold mbits
  simp only [List.length_append]
  omega
set_option maxHeartbeats 4000000 in
set_option maxRecDepth 100000 in
theorem mput0 (H : Heap) (i j : Nat) (M : List Bool) (c : Cx) (m : Mb) (s : St) (hA : H[i]? = some (wA j M)) (hB : H[j]? = some (wB M)) (hne : i ≠ j) (hl : M.length ≤ 600000000) (hml : m.lv.length = 384)
    (fm : fmS c m = true) (vs : vstB s = true) (vq : vqB (s.q + m.dl) = true) :
    CallOk Tryz.prog 16 [.ptr i 0 0, .agg (cxc c), .agg (stc s), .agg (mbc m)] H (.tup [.agg (stc (mstate c s m)), .int .i64 0]) (two H i j (wA j (M ++ mbits c s m)) (wB (M ++ mbits c s m))) := by
  have hi := (List.getElem?_eq_some_iff.1 hA).1
  have hj := (List.getElem?_eq_some_iff.1 hB).1
  have hself := two_self hA hB
  have hF := fmd_of fm
  obtain ⟨hq, hv, hd⟩ := vst_b vs
  have hdl := hF.d
  have fo := fun K => fm_ok c m K hml
  have vo := fun K => vst_ok' s K
  rw [fm] at fo
  rw [vs] at vo
  have qo := fun K => vq_ok (s.q + m.dl) K
  rw [vq] at qo
  have gi := fun K => two_Ki H i j (wA j M) (wB M) K hi hne
  have c1 := cxc_cell c
  have c2 := stc_cell s
  have c3 := mbc_cell m
  have m408 := mbc_len m hml
  have tk3 : List.take 408 (mbc m) = mbc m := List.take_of_length_le (by omega)
  have k17 : (mbc m)[17]? = some (.int .i64 m.dl) := rfl
  have k0 : (mbc m)[0]? = some (.int .i64 m.k) := rfl
  refine CallOk.body (F0 := [(0, .ptr i 0 0), (1, .agg (cxc c)), (2, .agg (stc s)), (3, .agg (mbc m))]) Tryz.func16 rfl Tryz.ntmps16 Tryz.results16 rfl (by kernel_rfl) rfl ?_
  refine PW.eq rfl hself.symm ?_
  have hlen : (two H i j (wA j M) (wB M)).length = H.length := two_len ..
  (repeat refine PW.seq ?_); refine PW.rg rfl fun K hK => ?_; simp (disch:=omega) only [go_sem, c1, c2, c3, hlen, two_Kl, Nat.reduceAdd]; refine hK _ _ ?_; clear hK K
  have tk1 : List.take 4 (cxc c) = cxc c := rfl
  have tk2 : List.take 8 (stc s) = stc s := rfl
  have l1 : (cxc c).length = 4 := rfl
  have l2 : (stc s).length = 8 := rfl
  have s0 : (stc s)[0]? = some (.int .i64 s.q) := rfl
  (repeat refine PW.seq ?_); refine PW.rg rfl fun K hK => ?_; simp (disch:=omega) only [go_sem, ↓reduceIte, gi, wA_v, two_Kn, two_K0, tk1, tk3, l1, m408]
  refine VCx.call (fo _) rfl ?_; simp (disch:=omega) only [go_sem, ↓reduceIte, two_Kn, tk2, l2]
  refine VCx.call (vo _) rfl ?_; simp (disch:=omega) only [go_sem]; refine hK _ _ ?_; clear hK K
  (repeat refine PW.seq ?_); refine PW.cond (t := _) rfl (fun h => ?_) (fun h => ?_)
  · cases h
  refine PW.skip ?_
  (repeat refine PW.seq ?_); refine PW.rg rfl fun K hK => ?_; simp (disch:=omega) only [go_sem, ↓reduceIte, two_Kn, s0, k17]
  refine VCx.call (qo _) rfl ?_; simp (disch:=omega) only [go_sem]; refine hK _ _ ?_; clear hK K
  (repeat refine PW.seq ?_); refine PW.cond (t := _) rfl (fun h => ?_) (fun h => ?_)
  · cases h
  refine PW.skip ?_
  (repeat refine PW.seq ?_); refine PW.rg rfl fun K hK => ?_; simp (disch:=omega) only [go_sem, ↓reduceIte, two_Kn, two_K0, stc, cxc, two_Kl, two_Ksn, Nat.reduceAdd]; refine hK _ _ ?_; clear hK K
  refine PW.at [7, 8, 10] (F1 := [(7, .ptr (H.length + 2) 0 0), (8, .ptr (H.length + 3) 0 0), (10, .ptr (H.length + 4) 0 0)]) (H1 := pH H i j M ⟨51, 0, cxc c⟩ ⟨58, 0, stc s⟩ ⟨58, 0, stc zSt⟩ c m s) ?_ rfl rfl
  generalize (⟨51, 0, cxc c⟩ : Blk) = x0
  generalize (⟨58, 0, stc s⟩ : Blk) = x1
  obtain ⟨x3, hx3⟩ : ∃ x3 : Blk, x3 = ⟨58, 0, stc zSt⟩ := ⟨_, rfl⟩
  rw [← hx3]
  clear fo vo qo tk3 gi hself
  have nf : (pvc Value.nilFunc).cells = [.nl 0] := rfl
  have hF3 : 1 ≤ (s2M c m s).q ∧ (s2M c m s).q ≤ 31 := by rw [(s2M_same c m s).1]; exact hq
  obtain ⟨_, n1, n2, n3, n4, hd5⟩ := mbits_len (c := c) hF hv hd
  have p1 := kindP H i j M x0 x1 x3 c m s hi hj hne (by omega) hF.k
  have p2 := predP H i j (M ++ b1M c m) x0 x1 x3 c m s hi hj hne (by rw [List.length_append]; omega) hF.v hv
  have p3 := chgP H i j (M ++ b1M c m ++ b2M c m s) x0 x1 x3 c m (s2M c m s) hi hj hne (by simp only [List.length_append]; omega) hdl hF3
  have p4 := codP H i j (M ++ b1M c m ++ b2M c m s ++ b3M c m) x0 x1 x3 c m (s3M m (s2M c m s)) hi hj hne (by simp only [List.length_append]; omega)
  have p5 := levP H i j (M ++ b1M c m ++ b2M c m s ++ b3M c m ++ b4M m) x0 x1 x3 c m (s3M m (s2M c m s)) hi hj hne (by simp only [List.length_append]; omega) hF.l hd5 hml
  have hT : M ++ b1M c m ++ b2M c m s ++ b3M c m ++ b4M m ++ (lvsR m 6 (s3M m (s2M c m s))).1 = M ++ mbits c s m := by
    simp only [mbits, s23, List.append_assoc]
  rw [hT] at p5
  simp only [List.append_assoc] at p2 p3 p4 p5
  have hst : mstate c s m = aft (lvsR m 6 (s3M m (s2M c m s))).2 m.k := rfl
  rw [hst]
  generalize (lvsR m 6 (s3M m (s2M c m s))).2 = s6 at *
  generalize M ++ mbits c s m = T at *
  (repeat refine PW.seq ?_); refine PW.rg rfl fun K hK => ?_; simp (disch:=omega) only [go_sem, ↓reduceIte, reduceCtorEq]; refine hK _ _ ?_; clear hK K
  (repeat refine PW.seq ?_); refine PW.block (PW.loop ?_)
  refine PL.round ?_
  (repeat refine PW.seq ?_); refine PW.rg rfl fun K hK => ?_; simp (disch:=omega) only [go_sem, ↓reduceIte]; refine hK _ _ ?_; clear hK K
  (repeat refine PW.seq ?_); refine PW.cond (t := _) rfl (fun h => ?_) (fun h => ?_)
  rotate_left
  · cases h
  refine PW.skip ?_; (repeat refine PW.seq ?_); refine PW.block ?_
  (repeat refine PW.seq ?_); refine PW.rg rfl fun K hK => ?_; simp (disch:=omega) only [go_sem]; refine hK _ _ ?_; clear hK K
  (repeat refine PW.seq ?_); refine PW.rg rfl fun K hK => ?_; simp (disch:=omega) only [go_sem]; refine VCx.call (p1) rfl ?_; simp (disch:=omega) only [go_sem]; refine hK _ _ ?_; clear hK K
  (repeat refine PW.seq ?_); refine PW.rg rfl fun K hK => ?_; simp (disch:=omega) only [go_sem, ↓reduceIte]; refine hK _ _ ?_; clear hK K
  refine PL.round ?_
  (repeat refine PW.seq ?_); refine PW.rg rfl fun K hK => ?_; simp (disch:=omega) only [go_sem, ↓reduceIte]; refine hK _ _ ?_; clear hK K
  (repeat refine PW.seq ?_); refine PW.cond (t := _) rfl (fun h => ?_) (fun h => ?_)
  rotate_left
  · cases h
  refine PW.skip ?_; (repeat refine PW.seq ?_); refine PW.block ?_
  (repeat refine PW.seq ?_); refine PW.rg rfl fun K hK => ?_; simp (disch:=omega) only [go_sem]; refine hK _ _ ?_; clear hK K
  (repeat refine PW.seq ?_); refine PW.rg rfl fun K hK => ?_; simp (disch:=omega) only [go_sem]; refine VCx.call (p2) rfl ?_; simp (disch:=omega) only [go_sem]; refine hK _ _ ?_; clear hK K
  (repeat refine PW.seq ?_); refine PW.rg rfl fun K hK => ?_; simp (disch:=omega) only [go_sem, ↓reduceIte]; refine hK _ _ ?_; clear hK K
  refine PL.round ?_
  (repeat refine PW.seq ?_); refine PW.rg rfl fun K hK => ?_; simp (disch:=omega) only [go_sem, ↓reduceIte]; refine hK _ _ ?_; clear hK K
  (repeat refine PW.seq ?_); refine PW.cond (t := _) rfl (fun h => ?_) (fun h => ?_)
  rotate_left
  · cases h
  refine PW.skip ?_; (repeat refine PW.seq ?_); refine PW.block ?_
  (repeat refine PW.seq ?_); refine PW.rg rfl fun K hK => ?_; simp (disch:=omega) only [go_sem]; refine hK _ _ ?_; clear hK K
  (repeat refine PW.seq ?_); refine PW.rg rfl fun K hK => ?_; simp (disch:=omega) only [go_sem]; refine VCx.call (p3) rfl ?_; simp (disch:=omega) only [go_sem]; refine hK _ _ ?_; clear hK K
  (repeat refine PW.seq ?_); refine PW.rg rfl fun K hK => ?_; simp (disch:=omega) only [go_sem, ↓reduceIte]; refine hK _ _ ?_; clear hK K
  refine PL.round ?_
  (repeat refine PW.seq ?_); refine PW.rg rfl fun K hK => ?_; simp (disch:=omega) only [go_sem, ↓reduceIte]; refine hK _ _ ?_; clear hK K
  (repeat refine PW.seq ?_); refine PW.cond (t := _) rfl (fun h => ?_) (fun h => ?_)
  rotate_left
  · cases h
  refine PW.skip ?_; (repeat refine PW.seq ?_); refine PW.block ?_
  (repeat refine PW.seq ?_); refine PW.rg rfl fun K hK => ?_; simp (disch:=omega) only [go_sem]; refine hK _ _ ?_; clear hK K
  (repeat refine PW.seq ?_); refine PW.rg rfl fun K hK => ?_; simp (disch:=omega) only [go_sem]; refine VCx.call (p4) rfl ?_; simp (disch:=omega) only [go_sem]; refine hK _ _ ?_; clear hK K
  (repeat refine PW.seq ?_); refine PW.rg rfl fun K hK => ?_; simp (disch:=omega) only [go_sem, ↓reduceIte]; refine hK _ _ ?_; clear hK K
  refine PL.round ?_
  (repeat refine PW.seq ?_); refine PW.rg rfl fun K hK => ?_; simp (disch:=omega) only [go_sem, ↓reduceIte]; refine hK _ _ ?_; clear hK K
  (repeat refine PW.seq ?_); refine PW.cond (t := _) rfl (fun h => ?_) (fun h => ?_)
  rotate_left
  · cases h
  refine PW.skip ?_; (repeat refine PW.seq ?_); refine PW.block ?_
  (repeat refine PW.seq ?_); refine PW.rg rfl fun K hK => ?_; simp (disch:=omega) only [go_sem]; refine hK _ _ ?_; clear hK K
  (repeat refine PW.seq ?_); refine PW.rg rfl fun K hK => ?_; simp (disch:=omega) only [go_sem]; refine VCx.call (p5) rfl ?_; simp (disch:=omega) only [go_sem]; refine hK _ _ ?_; clear hK K
  (repeat refine PW.seq ?_); refine PW.rg rfl fun K hK => ?_; simp (disch:=omega) only [go_sem, ↓reduceIte]; refine hK _ _ ?_; clear hK K
  refine PL.round ?_
  (repeat refine PW.seq ?_); refine PW.rg rfl fun K hK => ?_; simp (disch:=omega) only [go_sem, ↓reduceIte]; refine hK _ _ ?_; clear hK K
  (repeat refine PW.seq ?_); refine PW.cond (t := _) rfl (fun h => ?_) (fun h => ?_)
  · cases h
  refine PW.exit ?_
  have g4 := pH_4 H i j T x0 x1 x3 c m s6
  have g2 := pH_2 H i j T x0 x1 x3 c m s6
  have g3 := pH_3 H i j T x0 x1 x3 c m s6
  have gs := fun B => pH_set3 H i j T x0 x1 x3 c m s6 B
  have ao := fun K => aft_ok s6 m.k K
  have tp : ∀ mi, List.take 8 (pC s6 i c mi) = stc s6 := fun _ => rfl
  have lp : ∀ mi, (pC s6 i c mi).length = 14 := fun _ => rfl
  have l8 : ∀ t, (stc t).length = 8 := fun _ => rfl
  have c8 : ∀ t, (stc t).all PV.cell = true := fun _ => rfl
  have g3 : (pH H i j T x0 x1 x3 c m s6)[H.length + 3]? = some ⟨58, 0, [.int .i64 0, .int .i64 0, .int .i64 0, .int .i64 0, .int .i64 0, .int .i64 0, .int .i64 0, .int .i64 0]⟩ := by rw [g3, hx3]; rfl
  have tk8 : ∀ t, List.take 8 (stc t) = stc t := fun _ => rfl
  have gf := pH_3 H i j T x0 x1 ⟨58, 0, stc (aft s6 m.k)⟩ c m s6
  (repeat refine PW.seq ?_); refine PW.rg rfl fun K hK => ?_; simp (disch:=omega) only [go_sem, ↓reduceIte, g4, g2, pB, mB, k0, tp, lp]
  refine VCx.call (ao _) rfl ?_; simp (disch:=omega) only [go_sem, ↓reduceIte, g3, gs, l8]
  refine hK _ _ ?_; clear hK K
  refine PW.ret ⟨.tup [.agg (stc (aft s6 m.k)), .int .i64 0], by simp (disch:=omega) only [go_sem, ↓reduceIte, presults, presult, List.mapM_cons, List.mapM_nil, Option.pure_def, Option.bind_eq_bind, tk8, gf, l8], ?_⟩
  exact Fin.cut rfl (two_len ..).symm (hsc_two H i j T hj) (.id (.tup (all_scoped' fun x hx => by
    simp only [List.mem_cons, List.not_mem_nil, or_false] at hx
    rcases hx with rfl | rfl
    · exact stc_scoped _ _
    · exact .int _ _)))
end Go.Proofs.YthmladiijdlgkaaGreat.Sc

namespace Go.Proofs.YthmladiijdlgkaaGreat.Sc
set_option linter.all false
set_option linter.unusedVariables false
set_option linter.unusedSimpArgs false
open Pm Ty Go.RowKit
theorem stE_scoped (n : Nat) (s : St) (e : Int) : Scoped n (.tup [.agg (stc s), .int .i64 e]) := .tup (all_scoped' fun x hx => by
  simp only [List.mem_cons, List.not_mem_nil, or_false] at hx
  rcases hx with rfl | rfl
  · exact stc_scoped _ _
  · exact .int _ _)
set_option maxHeartbeats 4000000 in
set_option maxRecDepth 100000 in
theorem mput1 (H : Heap) (i j : Nat) (M : List Bool) (c : Cx) (m : Mb) (s : St) (hA : H[i]? = some (wA j M)) (hml : m.lv.length = 384) (hbad : (fmS c m && vstB s) = false) :
    CallOk Tryz.prog 16 [.ptr i 0 0, .agg (cxc c), .agg (stc s), .agg (mbc m)] H (.tup [.agg (stc zSt), .int .i64 1]) H := by
  have hi := (List.getElem?_eq_some_iff.1 hA).1
  have hx := fun K => get_ext (K := K) hA
  have fo := fun K => fm_ok c m K hml
  have vo := fun K => vst_ok' s K
  generalize fmS c m = f1 at *
  generalize vstB s = v1 at *
  have c1 := cxc_cell c
  have c2 := stc_cell s
  have c3 := mbc_cell m
  have m408 := mbc_len m hml
  have tk1 : List.take 4 (cxc c) = cxc c := rfl
  have tk2 : List.take 8 (stc s) = stc s := rfl
  have tk3 : List.take 408 (mbc m) = mbc m := List.take_of_length_le (by omega)
  have l1 : (cxc c).length = 4 := rfl
  have l2 : (stc s).length = 8 := rfl
  refine CallOk.body (F0 := [(0, .ptr i 0 0), (1, .agg (cxc c)), (2, .agg (stc s)), (3, .agg (mbc m))]) Tryz.func16 rfl Tryz.ntmps16 Tryz.results16 rfl (by kernel_rfl) rfl ?_
  (repeat refine PW.seq ?_); refine PW.rg rfl fun K hK => ?_; simp (disch:=omega) only [go_sem, c1, c2, c3]; refine hK _ _ ?_; clear hK K
  cases f1 with
  | false =>
    (repeat refine PW.seq ?_); refine PW.rg rfl fun K hK => ?_; simp (disch:=omega) only [go_sem, ↓reduceIte, hx, wA_v, tk1, tk3, l1, m408]
    refine VCx.call (fo _) rfl ?_; simp (disch:=omega) only [go_sem, ↓reduceIte]; refine hK _ _ ?_; clear hK K
    (repeat refine PW.seq ?_); refine PW.cond (t := _) rfl (fun h => ?_) (fun h => ?_)
    rotate_left
    · cases h
    (repeat refine PW.seq ?_); refine PW.rg rfl fun K hK => ?_; simp (disch:=omega) only [go_sem, ↓reduceIte]; refine hK _ _ ?_; clear hK K
    refine PW.ret ⟨.tup [.agg (stc zSt), .int .i64 1], by simp (disch:=omega) only [go_sem, ↓reduceIte, presults, presult, List.mapM_cons, List.mapM_nil, Option.pure_def, Option.bind_eq_bind, stc, zSt], ?_⟩
    exact Fin.base (.id (stE_scoped _ _ _))
  | true =>
    rw [Bool.true_and] at hbad
    subst hbad
    (repeat refine PW.seq ?_); refine PW.rg rfl fun K hK => ?_; simp (disch:=omega) only [go_sem, ↓reduceIte, hx, wA_v, tk1, tk3, l1, m408]
    refine VCx.call (fo _) rfl ?_; simp (disch:=omega) only [go_sem, ↓reduceIte, tk2, l2]
    refine VCx.call (vo _) rfl ?_; simp (disch:=omega) only [go_sem]; refine hK _ _ ?_; clear hK K
    (repeat refine PW.seq ?_); refine PW.cond (t := _) rfl (fun h => ?_) (fun h => ?_)
    rotate_left
    · cases h
    (repeat refine PW.seq ?_); refine PW.rg rfl fun K hK => ?_; simp (disch:=omega) only [go_sem, ↓reduceIte]; refine hK _ _ ?_; clear hK K
    refine PW.ret ⟨.tup [.agg (stc zSt), .int .i64 1], by simp (disch:=omega) only [go_sem, ↓reduceIte, presults, presult, List.mapM_cons, List.mapM_nil, Option.pure_def, Option.bind_eq_bind, stc, zSt], ?_⟩
    exact Fin.base (.id (stE_scoped _ _ _))
set_option maxHeartbeats 4000000 in
set_option maxRecDepth 100000 in
theorem mput2 (H : Heap) (i j : Nat) (M : List Bool) (c : Cx) (m : Mb) (s : St) (hA : H[i]? = some (wA j M)) (hml : m.lv.length = 384) (fm : fmS c m = true) (vs : vstB s = true) (vq : vqB (s.q + m.dl) = false) :
    CallOk Tryz.prog 16 [.ptr i 0 0, .agg (cxc c), .agg (stc s), .agg (mbc m)] H (.tup [.agg (stc zSt), .int .i64 2]) H := by
  have hi := (List.getElem?_eq_some_iff.1 hA).1
  have hx := fun K => get_ext (K := K) hA
  have fo := fun K => fm_ok c m K hml
  have vo := fun K => vst_ok' s K
  have qo := fun K => vq_ok (s.q + m.dl) K
  have hdl := (fmd_of fm).d
  have hq := (vst_b vs).1
  rw [fm] at fo
  rw [vs] at vo
  rw [vq] at qo
  have c1 := cxc_cell c
  have c2 := stc_cell s
  have c3 := mbc_cell m
  have m408 := mbc_len m hml
  have tk1 : List.take 4 (cxc c) = cxc c := rfl
  have tk2 : List.take 8 (stc s) = stc s := rfl
  have tk3 : List.take 408 (mbc m) = mbc m := List.take_of_length_le (by omega)
  have l1 : (cxc c).length = 4 := rfl
  have l2 : (stc s).length = 8 := rfl
  have k17 : (mbc m)[17]? = some (.int .i64 m.dl) := rfl
  have s0 : (stc s)[0]? = some (.int .i64 s.q) := rfl
  refine CallOk.body (F0 := [(0, .ptr i 0 0), (1, .agg (cxc c)), (2, .agg (stc s)), (3, .agg (mbc m))]) Tryz.func16 rfl Tryz.ntmps16 Tryz.results16 rfl (by kernel_rfl) rfl ?_
  (repeat refine PW.seq ?_); refine PW.rg rfl fun K hK => ?_; simp (disch:=omega) only [go_sem, c1, c2, c3]; refine hK _ _ ?_; clear hK K
  (repeat refine PW.seq ?_); refine PW.rg rfl fun K hK => ?_; simp (disch:=omega) only [go_sem, ↓reduceIte, hx, wA_v, tk1, tk3, l1, m408]
  refine VCx.call (fo _) rfl ?_; simp (disch:=omega) only [go_sem, ↓reduceIte, tk2, l2]
  refine VCx.call (vo _) rfl ?_; simp (disch:=omega) only [go_sem]; refine hK _ _ ?_; clear hK K
  (repeat refine PW.seq ?_); refine PW.cond (t := _) rfl (fun h => ?_) (fun h => ?_)
  · cases h
  refine PW.skip ?_
  (repeat refine PW.seq ?_); refine PW.rg rfl fun K hK => ?_; simp (disch:=omega) only [go_sem, ↓reduceIte, s0, k17]
  refine VCx.call (qo _) rfl ?_; simp (disch:=omega) only [go_sem]; refine hK _ _ ?_; clear hK K
  (repeat refine PW.seq ?_); refine PW.cond (t := _) rfl (fun h => ?_) (fun h => ?_)
  rotate_left
  · cases h
  (repeat refine PW.seq ?_); refine PW.rg rfl fun K hK => ?_; simp (disch:=omega) only [go_sem, ↓reduceIte]; refine hK _ _ ?_; clear hK K
  refine PW.ret ⟨.tup [.agg (stc zSt), .int .i64 2], by simp (disch:=omega) only [go_sem, ↓reduceIte, presults, presult, List.mapM_cons, List.mapM_nil, Option.pure_def, Option.bind_eq_bind, stc, zSt], ?_⟩
  exact Fin.base (.id (stE_scoped _ _ _))
theorem mput_ok (H : Heap) (i j : Nat) (M : List Bool) (c : Cx) (m : Mb) (s : St) (hA : H[i]? = some (wA j M)) (hB : H[j]? = some (wB M)) (hne : i ≠ j) (hl : M.length ≤ 600000000) (hml : m.lv.length = 384) :
    CallOk Tryz.prog 16 [.ptr i 0 0, .agg (cxc c), .agg (stc s), .agg (mbc m)] H (.tup [.agg (stc (mput c s m).2.1), .int .i64 (mput c s m).2.2]) (two H i j (wA j (M ++ (mput c s m).1)) (wB (M ++ (mput c s m).1))) := by
  by_cases h1 : (fmS c m && vstB s) = true
  · have h2 := h1
    rw [Bool.and_eq_true] at h2
    cases h3 : vqB (s.q + m.dl) with
    | true =>
      have e : mput c s m = (mbits c s m, mstate c s m, 0) := by unfold mput; rw [if_pos h1, if_pos h3]
      rw [e]
      exact mput0 H i j M c m s hA hB hne hl hml h2.1 h2.2 h3
    | false =>
      have e : mput c s m = ([], zSt, 2) := by unfold mput; rw [if_pos h1, if_neg (by rw [h3]; decide)]
      rw [e, List.append_nil, two_self hA hB]
      exact mput2 H i j M c m s hA hml h2.1 h2.2 h3
  · have e : mput c s m = ([], zSt, 1) := by unfold mput; rw [if_neg h1]
    rw [e, List.append_nil, two_self hA hB]
    exact mput1 H i j M c m s hA hml (by simpa using h1)
end Go.Proofs.YthmladiijdlgkaaGreat.Sc

namespace Go.Proofs.YthmladiijdlgkaaGreat.Sc
set_option linter.all false
set_option linter.unusedVariables false
set_option linter.unusedSimpArgs false
open Pm Ty Go.RowKit
theorem apn (H K : Heap) (n : Nat) : (H ++ K)[H.length + n]? = K[n]? := by
  rw [List.getElem?_append_right (by omega), show H.length + n - H.length = n by omega]
theorem aps (H K : Heap) (n : Nat) (X : Blk) : (H ++ K).set (H.length + n) X = H ++ K.set n X := by
  rw [List.set_append_right _ _ (by omega), show H.length + n - H.length = n by omega]
theorem same_bytes (p q : List UInt8) (f g : Bool) (H : Heap) : CallOk Tryz.prog 24 [.slice (bs p) p.length f, .slice (bs q) q.length g] H (.bool (p == q)) H := by
  refine CallOk.body (F0 := [(0, .slice (bs p) p.length f), (1, .slice (bs q) q.length g)]) Tryz.func24 rfl Tryz.ntmps24 Tryz.results24 rfl (by kernel_rfl) rfl ?_
  (repeat refine PW.seq ?_); refine PW.rg rfl fun K hK => ?_; simp (disch:=omega) only [go_sem]; refine hK _ _ ?_; clear hK K
  (repeat refine PW.seq ?_); refine PW.rg rfl fun K hK => ?_; simp (disch:=omega) only [go_sem, ↓reduceIte, length_bs, pbytes_bs]; refine hK _ _ ?_; clear hK K
  exact PW.ret ⟨_, rfl, .inl ⟨rfl, rfl⟩⟩
theorem flat_len {α : Type} (enc : α → List PV) (N : Nat) : ∀ (l : List α), (∀ x ∈ l, (enc x).length = N) → (l.flatMap enc).length = l.length * N
  | [], _ => by simp
  | a :: r, h => by
    rw [List.flatMap_cons, List.length_append, flat_len enc N r (fun x hx => h x (List.mem_cons_of_mem _ hx)), h a (List.mem_cons_self ..), List.length_cons, Nat.add_mul, Nat.one_mul, Nat.add_comm]
theorem flat_at {α : Type} (enc : α → List PV) (N : Nat) : ∀ (l : List α) (k : Nat) (hk : k < l.length), (∀ x ∈ l, (enc x).length = N) → List.take N (List.drop (k * N) (l.flatMap enc)) = enc l[k]
  | [], k, hk, _ => by simp at hk
  | a :: r, 0, _, h => by
    rw [Nat.zero_mul, List.drop_zero, List.flatMap_cons]
    exact List.take_left' (h a (List.mem_cons_self ..))
  | a :: r, k + 1, hk, h => by
    have e : (k + 1) * N = (enc a).length + k * N := by rw [h a (List.mem_cons_self ..), Nat.add_mul, Nat.one_mul, Nat.add_comm]
    rw [List.flatMap_cons, e, ← List.drop_drop, List.drop_left]
    exact flat_at enc N r k (by simpa using hk) (fun x hx => h x (List.mem_cons_of_mem _ hx))
theorem mbl_sc (l : List Mb) (n : Nat) : ∀ x ∈ l.flatMap mbc, Scoped n x := fun x hx => by
  obtain ⟨m, _, hx⟩ := List.mem_flatMap.1 hx
  simp only [mbc, List.mem_cons] at hx
  rcases hx with rfl | rfl | rfl | rfl | rfl | rfl | rfl | rfl | rfl | rfl | rfl | rfl | rfl | rfl | rfl | rfl | rfl | rfl | rfl | rfl | rfl | rfl | rfl | rfl | hx
  all_goals first | exact .int _ _ | exact .bool _ | exact is_scoped _ _ _ hx
theorem hscW {H K : Heap} (hK : ∀ b ∈ K, ∀ x ∈ b.cells, Scoped (H.length + K.length) x) (h : HSc H) : HSc (H ++ K) := fun id k hk x hx => by
  rw [List.length_append]
  rw [List.getElem?_append] at hk
  split at hk
  · exact (h id k hk x hx).mono (by omega)
  · exact hK k (List.mem_of_getElem? hk) x hx
end Go.Proofs.YthmladiijdlgkaaGreat.Sc

namespace Go.Proofs.YthmladiijdlgkaaGreat.Sc
set_option linter.all false
set_option linter.unusedVariables false
set_option linter.unusedSimpArgs false
open Pm Ty Go.RowKit
def ubit (p : List UInt8) (k : Nat) : Nat := (p.getD (k / 8) 0).toNat / 2 ^ (7 - k % 8) % 2
theorem ubit_lt (p : List UInt8) (k : Nat) : ubit p k < 2 := Nat.mod_lt _ (by omega)
def vl (p : List UInt8) (a : Nat) : Nat → Nat
  | 0 => 0
  | n + 1 => 2 * vl p a n + ubit p (a + n)
theorem vl_lt (p : List UInt8) (a : Nat) : ∀ n, vl p a n < 2 ^ n
  | 0 => by simp [vl]
  | n + 1 => by
    have h1 := vl_lt p a n
    have h2 := ubit_lt p (a + n)
    rw [vl, Nat.pow_succ]
    omega
theorem pshl1_u32 (k' : IntKind) (V : Nat) (h : 2 * V < 4294967296) : pint .shl .u32 (V : Int) k' 1 = some (.int .u32 ((2 * V : Nat) : Int)) := by
  simp only [pint, IntKind.bits]
  rw [if_neg (by omega), show min (1 : Int).toNat 32 = 1 from rfl, show (V : Int) * (2 : Int) ^ 1 = ((2 * V : Nat) : Int) by omega, w32 _ (by omega)]
theorem or_even (a b : Nat) (hb : b < 2) : 2 * a ||| b = 2 * a + b := by
  have h1 : 2 * a = a <<< 1 := by rw [Nat.shiftLeft_eq]; omega
  rw [h1, Nat.shiftLeft_add_eq_or_of_lt (by simpa using hb)]
theorem por_u32 (a b : Nat) (hb : b < 2) (h : 2 * a < 4294967296) : pint .or .u32 ((2 * a : Nat) : Int) .u32 (b : Int) = some (.int .u32 ((2 * a + b : Nat) : Int)) := by
  have key0 : (BitVec.ofInt 32 ((2 * a : Nat) : Int) ||| BitVec.ofInt 32 (b : Int)).toNat = 2 * a + b := by
    rw [BitVec.ofInt_natCast, BitVec.ofInt_natCast, BitVec.toNat_or, BitVec.toNat_ofNat, BitVec.toNat_ofNat, Nat.mod_eq_of_lt (by omega), Nat.mod_eq_of_lt (by omega)]
    exact or_even a b hb
  have key : (BitVec.ofInt IntKind.u32.bits ((2 * a : Nat) : Int) ||| BitVec.ofInt IntKind.u32.bits (b : Int)).toNat = 2 * a + b := key0
  simp only [pint, key, if_true]
  rw [w32 _ (by omega)]
def rA (p : List UInt8) (n a : Nat) : Blk := ⟨114, 0, [.slice (bs p) p.length false, .int .i64 (n : Int), .int .i64 (a : Int)]⟩
theorem rleft_ok (i : Nat) (p : List UInt8) (n a : Nat) (H : Heap) (hA : H[i]? = some (rA p n a)) (ha : a ≤ n) (hn : n ≤ 1000000000) : CallOk Tryz.prog 29 [.ptr i 0 0] H (.int .i64 ((n - a : Nat) : Int)) H := by
  have e : (n : Int) - (a : Int) = ((n - a : Nat) : Int) := by omega
  refine CallOk.body (F0 := [(0, .ptr i 0 0)]) Tryz.func29 rfl Tryz.ntmps29 Tryz.results29 rfl (by kernel_rfl) rfl ?_
  (repeat' (first | refine PW.seq ?_ | refine PW.skip ?_ | refine PW.block ?_ | (refine PW.rg rfl fun K hK => ?_; simp (disch:=omega) only [go_sem, hA, rA]) | (refine PW.draw mix (by kernel_rfl) fun K hK => ?_; simp (disch:=omega) only [go_sem, ↓reduceIte, hA, rA, e]) | (refine PW.drawg mix (by kernel_rfl) fun K hK => ?_; simp (disch:=omega) only [go_sem, ↓reduceIte, reduceCtorEq, pappend, plen, hA, rA, e]) | (refine PW.drawt [] [] mix (by kernel_rfl) fun K hK => ?_; simp (disch:=omega) only [go_sem, ↓reduceIte, reduceCtorEq, pappend, plen, hA, rA, e]) | ((first | refine VO_cond (fun h => ?_) (fun h => ?_) | refine VOd_cond (fun h => ?_) (fun h => ?_) | refine VOg_cond (fun h => ?_) (fun h => ?_) | refine VOh_cond (fun h => ?_) (fun h => ?_) | refine VOi_cond (fun h => ?_) (fun h => ?_) | refine And.intro (fun h => ?_) (fun h => ?_)) <;> (try simp only [Bool.not_eq_true', Bool.not_eq_false', decide_eq_true_eq, decide_eq_false_iff_not] at h) <;> simp (disch:=omega) only [go_sem, ↓reduceIte, reduceCtorEq, pappend, plen, hA, rA, e, h]) | (refine hK _ _ ?_; clear hK K) | (refine PW.cond (t := _) rfl (fun h => ?_) (fun h => ?_) <;> (try (cases h; done)) <;> (try simp only [] at h))))
  all_goals exact PW.ret ⟨_, rfl, Fin.now⟩
theorem rtake_short (i : Nat) (p : List UInt8) (n a m : Nat) (H : Heap) (hA : H[i]? = some (rA p n a)) (ha : a ≤ n) (hn : n ≤ 1000000000) (hm : m ≤ 32) (hs : n - a < m) :
    CallOk Tryz.prog 27 [.ptr i 0 0, .int .i64 (m : Int)] H (.tup [.int .u32 0, .int .i64 4]) H := by
  refine CallOk.body (F0 := [(0, .ptr i 0 0), (1, .int .i64 (m : Int))]) Tryz.func27 rfl Tryz.ntmps27 Tryz.results27 rfl (by kernel_rfl) rfl ?_
  (repeat' (first | refine PW.seq ?_ | refine PW.skip ?_ | refine PW.block ?_ | (refine PW.rg rfl fun K hK => ?_; simp (disch:=omega) only [go_sem, ↓reduceIte, hA, rA]) | (refine PW.draw mix (by kernel_rfl) fun K hK => ?_; simp (disch:=omega) only [go_sem, ↓reduceIte, hA, rA]) | (refine PW.drawg mix (by kernel_rfl) fun K hK => ?_; simp (disch:=omega) only [go_sem, ↓reduceIte, reduceCtorEq, pappend, plen, hA, rA]) | (refine PW.drawt [] [] mix (by kernel_rfl) fun K hK => ?_; simp (disch:=omega) only [go_sem, ↓reduceIte, reduceCtorEq, pappend, plen, hA, rA]) | ((first | refine VO_cond (fun h => ?_) (fun h => ?_) | refine VOd_cond (fun h => ?_) (fun h => ?_) | refine VOg_cond (fun h => ?_) (fun h => ?_) | refine VOh_cond (fun h => ?_) (fun h => ?_) | refine VOi_cond (fun h => ?_) (fun h => ?_) | refine And.intro (fun h => ?_) (fun h => ?_)) <;> (try simp only [Bool.not_eq_true', Bool.not_eq_false', decide_eq_true_eq, decide_eq_false_iff_not] at h) <;> simp (disch:=omega) only [go_sem, ↓reduceIte, reduceCtorEq, pappend, plen, hA, rA, h]) | (refine hK _ _ ?_; clear hK K) | (refine PW.cond (t := _) rfl (fun h => ?_) (fun h => ?_) <;> (try (cases h; done)) <;> (try simp only [] at h))))
  all_goals first | exact PW.ret ⟨_, rfl, Fin.now⟩ | omega
theorem rtake_ok (i : Nat) (p : List UInt8) (n a m : Nat) (H : Heap) (hA : H[i]? = some (rA p n a)) (ha : a + m ≤ n) (hn : n ≤ 8 * p.length) (hp : p.length ≤ 100000000) (hm : m ≤ 32) :
    CallOk Tryz.prog 27 [.ptr i 0 0, .int .i64 (m : Int)] H (.tup [.int .u32 (vl p a m : Int), .int .i64 0]) (H.set i (rA p n (a + m))) := by
  have hi := (List.getElem?_eq_some_iff.1 hA).1
  have hself := set_self hA
  refine CallOk.body (F0 := [(0, .ptr i 0 0), (1, .int .i64 (m : Int))]) Tryz.func27 rfl Tryz.ntmps27 Tryz.results27 rfl (by kernel_rfl) rfl ?_
  (repeat refine PW.seq ?_); refine PW.rg rfl fun K hK => ?_; simp (disch:=omega) only [go_sem]; refine hK _ _ ?_; clear hK K
  (repeat refine PW.seq ?_)
  refine PW.rgv [0, 1] 17 (.bool false) rfl ?_ ?_
  · simp (disch:=omega) only [go_sem, ↓reduceIte, hA, rA]
  (repeat refine PW.seq ?_); refine PW.cond (t := _) rfl (fun h => ?_) (fun h => ?_)
  · cases h
  refine PW.skip ?_
  (repeat refine PW.seq ?_); refine PW.draw mix (by kernel_rfl) fun K hK => ?_; simp (disch:=omega) only [go_sem, ↓reduceIte, hA, rA]; refine hK _ _ ?_; clear hK K
  (repeat refine PW.seq ?_); refine PW.cond (t := _) rfl (fun h => ?_) (fun h => ?_)
  · cases h
  refine PW.skip ?_
  (repeat refine PW.seq ?_); refine PW.rg rfl fun K hK => ?_; simp (disch:=omega) only [go_sem]; refine hK _ _ ?_; clear hK K
  (repeat refine PW.seq ?_); refine PW.rg rfl fun K hK => ?_; simp (disch:=omega) only [go_sem]; refine hK _ _ ?_; clear hK K
  (repeat refine PW.seq ?_); refine PW.block (PW.loop ?_)
  suffices hloop : ∀ (k : Nat), k ≤ m → PL Tryz.prog _ _ [(0, .ptr i 0 0), (6, .int .u32 (vl p a k : Int)), (29, .int .i64 (m : Int)), (30, .int .i64 (k : Int))] (H.set i (rA p n (a + k))) _ by
    exact PL.at [0, 6, 29, 30] (hloop 0 (Nat.zero_le _)) rfl hself.symm
  intro k hk
  induction hmk : m - k using Nat.strongRecOn generalizing k with
  | _ r ih =>
    refine PL.round ?_; (repeat refine PW.seq ?_); refine PW.rg rfl fun K hK => ?_; simp (disch:=omega) only [go_sem, ↓reduceIte]; refine hK _ _ ?_; clear hK K
    have hat : ∀ B : Blk, (H.set i B)[i]? = some B := fun B => by simp [hi]
    (repeat refine PW.seq ?_); refine PW.cond (t := _) rfl (fun h => ?_) (fun h => ?_)
    · have h4 : k < m := by have := of_decide_eq_true h; omega
      have hnext := ih (m - (k + 1)) (by omega) (k + 1) (by omega) rfl
      have hr8 : (a + k) % 8 < 8 := Nat.mod_lt _ (by omega)
      have hq8 : (a + k) / 8 < p.length := by omega
      have hu : ubit p (a + k) = (p.getD ((a + k) / 8) 0).toNat / 2 ^ (7 - (a + k) % 8) % 2 := rfl
      have e3 : (7 : Int) - (((a + k) % 8 : Nat) : Int) = ((7 - (a + k) % 8 : Nat) : Int) := by omega
      have e4 : ((a + k : Nat) : Int) + 1 = ((a + (k + 1) : Nat) : Int) := by omega
      have hul := ubit_lt p (a + k)
      have hvl := vl_lt p a k
      have hvl2 : 2 * vl p a k < 4294967296 := by
        have : 2 ^ k ≤ 2 ^ 31 := Nat.pow_le_pow_right (by omega) (by omega)
        omega
      have hb : byt p ((a + k) / 8) = ((p.getD ((a + k) / 8) 0).toNat : Int) := rfl
      refine PW.skip ?_; (repeat refine PW.seq ?_); refine PW.block ?_
      (repeat refine PW.seq ?_); refine PW.draw mix (by kernel_rfl) fun K hK => ?_; simp (disch:=omega) only [go_sem, ↓reduceIte, hat, rA, tdiv8, tmod8, length_bs, bs_get, e3, hb, pshr_u8, pand1_u8, ← hu]; refine hK _ _ ?_; clear hK K
      (repeat refine PW.seq ?_); refine PW.rg rfl fun K hK => ?_; simp (disch:=omega) only [go_sem, pshl1_u32, por_u32]; refine hK _ _ ?_; clear hK K
      (repeat refine PW.seq ?_); refine PW.rg rfl fun K hK => ?_; simp (disch:=omega) only [go_sem, ↓reduceIte, hat, e4, List.set_set]; refine hK _ _ ?_; clear hK K
      (repeat refine PW.seq ?_); refine PW.rg rfl fun K hK => ?_; simp (disch:=omega) only [go_sem, ↓reduceIte]; refine hK _ _ ?_; clear hK K
      exact PL.at [0, 6, 29, 30] hnext rfl rfl
    · have h4 : k = m := by have := of_decide_eq_false h; omega
      subst h4
      refine PW.exit ?_
      (repeat refine PW.seq ?_); refine PW.rg rfl fun K hK => ?_; simp (disch:=omega) only [go_sem]; refine hK _ _ ?_; clear hK K
      refine PW.ret ⟨_, rfl, Fin.now⟩
end Go.Proofs.YthmladiijdlgkaaGreat.Sc

namespace Go.Proofs.YthmladiijdlgkaaGreat.Sc
set_option linter.all false
set_option linter.unusedVariables false
set_option linter.unusedSimpArgs false
open Pm Ty Go.RowKit
inductive Rr (α : Type) where
  | ok (v : α) (a : Nat)
  | er (e : Nat) (a : Nat)
def Rr.bind {α β : Type} (x : Rr α) (f : α → Nat → Rr β) : Rr β := match x with | .ok v a => f v a | .er e a => .er e a
def Rr.at {α : Type} : Rr α → Nat | .ok _ a => a | .er _ a => a
theorem Rr.bind_ok {α β : Type} (v : α) (a : Nat) (f : α → Nat → Rr β) : (Rr.ok v a).bind f = f v a := rfl
theorem Rr.bind_er {α β : Type} (e a : Nat) (f : α → Nat → Rr β) : (Rr.er e a : Rr α).bind f = .er e a := rfl
theorem Rr.bind_bind {α β γ : Type} (x : Rr α) (f : α → Nat → Rr β) (g : β → Nat → Rr γ) : (x.bind f).bind g = x.bind fun v a => (f v a).bind g := by cases x <;> rfl
theorem vl_add (p : List UInt8) (a m : Nat) : ∀ n, vl p a (m + n) = vl p a m * 2 ^ n + vl p (a + m) n
  | 0 => by simp [vl]
  | n + 1 => by
    rw [show m + (n + 1) = (m + n) + 1 by omega, vl, vl_add p a m n, vl, Nat.pow_succ, show a + (m + n) = a + m + n by omega, ← Nat.mul_assoc]
    omega
def zrs (q : List UInt8) (n : Nat) : Nat → Nat → Nat
  | 0, _ => 0
  | c + 1, a => if a < n ∧ ubit q a = 0 then zrs q n c (a + 1) + 1 else 0
section
variable {q : List UInt8} {n : Nat}
theorem zrs_le : ∀ (c a : Nat), zrs q n c a ≤ c
  | 0, a => by simp [zrs]
  | c + 1, a => by
    have := zrs_le c (a + 1)
    simp only [zrs]; split <;> omega
theorem zrs_step {c a : Nat} (h : a < n) (h0 : ubit q a = 0) : zrs q n (c + 1) a = zrs q n c (a + 1) + 1 := by
  simp only [zrs]; rw [if_pos ⟨h, h0⟩]
theorem zrs_end {c a : Nat} (h : n ≤ a) : zrs q n c a = 0 := by
  cases c with
  | zero => rfl
  | succ c => simp only [zrs]; rw [if_neg (by omega)]
theorem zrs_one {c a : Nat} (h : ubit q a = 1) : zrs q n c a = 0 := by
  cases c with
  | zero => rfl
  | succ c => simp only [zrs]; rw [if_neg (by omega)]
theorem zrs_at : ∀ (c a : Nat), zrs q n c a < c → a + zrs q n c a < n → ubit q (a + zrs q n c a) = 1
  | 0, a, h, _ => by omega
  | c + 1, a, h, h2 => by
    simp only [zrs] at h h2 ⊢
    split at h
    · rename_i hh
      rw [if_pos hh] at h2 ⊢
      have := zrs_at c (a + 1) (by omega) (by omega)
      rwa [show a + (zrs q n c (a + 1) + 1) = a + 1 + zrs q n c (a + 1) by omega]
    · rename_i hh
      rw [if_neg hh] at h2 ⊢
      have := ubit_lt q a
      have h3 : ¬ ubit q a = 0 := fun e => hh ⟨by omega, e⟩
      rw [Nat.add_zero]; omega
end
def tkU (q : List UInt8) (n a : Nat) : Rr Nat :=
  if zrs q n 16 a = 16 then .er 2 a else if n - a < 2 * zrs q n 16 a + 1 then .er 3 a else .ok (2 ^ zrs q n 16 a + vl q (a + zrs q n 16 a + 1) (zrs q n 16 a) - 1) (a + (2 * zrs q n 16 a + 1))
def usg (v : Nat) : Int := if v % 2 = 1 then ((v + 1) / 2 : Nat) else -((v / 2 : Nat) : Int)
def tkS (q : List UInt8) (n a : Nat) : Rr Int := (tkU q n a).bind fun v a => .ok (usg v) a
theorem tkU_b {q : List UInt8} {n a v a1 : Nat} (h : tkU q n a = .ok v a1) (ha : a ≤ n) : v ≤ 65534 ∧ a < a1 ∧ a1 ≤ n := by
  unfold tkU at h
  split at h
  · cases h
  · split at h
    · cases h
    · have h1 := zrs_le (q := q) (n := n) 16 a
      injection h with h2 h3
      have h4 : zrs q n 16 a ≤ 15 := by omega
      have h5 := vl_lt q (a + zrs q n 16 a + 1) (zrs q n 16 a)
      have h6 : 2 ^ zrs q n 16 a ≤ 2 ^ 15 := Nat.pow_le_pow_right (by omega) h4
      omega
theorem tkU_e {q : List UInt8} {n a e a1 : Nat} (h : tkU q n a = .er e a1) : a1 = a ∧ e ≤ 3 := by
  unfold tkU at h
  split at h
  · injection h with h2 h3; omega
  · split at h
    · injection h with h2 h3; omega
    · cases h
theorem usg_b (v : Nat) (h : v ≤ 65534) : -32767 ≤ usg v ∧ usg v ≤ 32767 := by unfold usg; split <;> omega
theorem tkS_b {q : List UInt8} {n a a1 : Nat} {v : Int} (h : tkS q n a = .ok v a1) (ha : a ≤ n) : (-32767 ≤ v ∧ v ≤ 32767) ∧ a < a1 ∧ a1 ≤ n := by
  unfold tkS at h
  cases hu : tkU q n a with
  | er e a2 => rw [hu] at h; cases h
  | ok w a2 =>
    rw [hu] at h
    injection h with h2 h3
    have := tkU_b hu ha
    subst h2 h3
    exact ⟨usg_b w this.1, this.2⟩
theorem tkS_e {q : List UInt8} {n a e a1 : Nat} (h : tkS q n a = .er e a1) : a1 = a ∧ e ≤ 3 := by
  unfold tkS at h
  cases hu : tkU q n a with
  | ok w a2 => rw [hu] at h; cases h
  | er e a2 =>
    rw [hu] at h
    injection h with h2 h3
    have := tkU_e hu
    omega
end Go.Proofs.YthmladiijdlgkaaGreat.Sc

namespace Go.Proofs.YthmladiijdlgkaaGreat.Sc
set_option linter.all false
set_option linter.unusedVariables false
set_option linter.unusedSimpArgs false
open Pm Ty Go.RowKit
theorem rA_sc (p : List UInt8) (n a k : Nat) : ∀ x ∈ (rA p n a).cells, Scoped k x := fun x hx => by
  simp only [rA, List.mem_cons, List.not_mem_nil, or_false] at hx
  rcases hx with rfl | rfl | rfl
  · exact sl_scoped (bs_scoped _ _)
  · exact .int _ _
  · exact .int _ _
theorem hsc_rA (H : Heap) (i : Nat) (p : List UInt8) (n a : Nat) (h : HSc H) : HSc (H.set i (rA p n a)) := HSc.set h (rA_sc _ _ _ _)
def rvU : Rr Nat → PV
  | .ok v _ => .tup [.int .i64 (v : Int), .int .i64 0]
  | .er e _ => .tup [.int .i64 0, .int .i64 ((e : Int) + 1)]
def rvS : Rr Int → PV
  | .ok v _ => .tup [.int .i64 v, .int .i64 0]
  | .er e _ => .tup [.int .i64 0, .int .i64 ((e : Int) + 1)]
theorem tup2_sc (k : Nat) (x y : Int) : Scoped k (.tup [.int .i64 x, .int .i64 y]) := .tup fun j x hx => by
  have := List.mem_of_getElem? hx
  simp only [List.mem_cons, List.not_mem_nil, or_false] at this
  rcases this with rfl | rfl <;> exact .int _ _
theorem pshl1_64 (k' : IntKind) (s : Nat) (h : s ≤ 40) : pint .shl .i64 1 k' (s : Int) = some (.int .i64 ((2 ^ s : Nat) : Int)) := by
  have h2 : 2 ^ s ≤ 2 ^ 40 := Nat.pow_le_pow_right (by omega) h
  simp only [pint, IntKind.bits]
  rw [if_neg (by omega), show min (s : Int).toNat 64 = s by omega, show (1 : Int) * (2 : Int) ^ s = ((2 ^ s : Nat) : Int) by simp]
  generalize 2 ^ s = N at *
  rw [w64 _ (by omega)]
theorem tku_ok (i : Nat) (p : List UInt8) (n a : Nat) (H : Heap) (hA : H[i]? = some (rA p n a)) (ha : a ≤ n) (hn : n ≤ 8 * p.length) (hp : p.length ≤ 100000000) :
    CallOk Tryz.prog 88 [.ptr i 0 0] H (rvU (tkU p n a)) (H.set i (rA p n (tkU p n a).at)) := by
  have hi := (List.getElem?_eq_some_iff.1 hA).1
  have hself := set_self hA
  have hA' := fun K => get_ext (K := K) hA
  refine CallOk.body (F0 := [(0, .ptr i 0 0)]) Tryz.func88 rfl Tryz.ntmps88 Tryz.results88 rfl (by kernel_rfl) rfl ?_
  (repeat refine PW.seq ?_); refine PW.rg rfl fun K hK => ?_; simp (disch:=omega) only [go_sem]; refine hK _ _ ?_; clear hK K
  (repeat refine PW.seq ?_); refine PW.rg rfl fun K hK => ?_; simp (disch:=omega) only [go_sem, hA]; refine hK _ _ ?_; clear hK K
  (repeat refine PW.seq ?_); refine PW.cond (t := _) rfl (fun h => ?_) (fun h => ?_)
  · cases h
  refine PW.skip ?_
  (repeat refine PW.seq ?_); refine PW.rg rfl fun K hK => ?_; simp (disch:=omega) only [go_sem, ↓reduceIte, hA, rA]; refine hK _ _ ?_; clear hK K
  (repeat refine PW.seq ?_); refine PW.rg rfl fun K hK => ?_; simp (disch:=omega) only [go_sem]; refine hK _ _ ?_; clear hK K
  (repeat refine PW.seq ?_); refine PW.block (PW.loop ?_)
  suffices hl : ∀ j, j ≤ 15 → zrs p n 16 a = j + zrs p n (16 - j) (a + j) → a + j ≤ n → PL Tryz.prog _ _ [(0, .ptr i 0 0), (4, .ptr H.length 0 0), (5, .int .i64 (j : Int))] (H ++ [rA p n (a + j)]) _ by
    exact PL.at [0, 4, 5] (hl 0 (by omega) (by simp) (by omega)) rfl rfl
  intro j hj hz hjn
  induction hd : 16 - j using Nat.strongRecOn generalizing j with
  | _ d ih =>
    subst hd
    refine PL.round ?_; (repeat refine PW.seq ?_); refine PW.block ?_
    by_cases h0 : n = a + j
    · have t := rtake_short H.length p n (a + j) 1 (H ++ [rA p n (a + j)]) (hp0 _ _ _) hjn (by omega) (by omega) (by omega)
      have hz0 : zrs p n (16 - j) (a + j) = 0 := zrs_end (by omega)
      have hr : tkU p n a = .er 3 a := by
        unfold tkU; rw [if_neg (by omega), if_pos (by omega)]
      (repeat refine PW.seq ?_); refine PW.rg rfl fun K hK => ?_; simp (disch:=omega) only [go_sem]; refine VCx.call (t) rfl ?_; simp (disch:=omega) only [go_sem]; refine hK _ _ ?_; clear hK K
      (repeat refine PW.seq ?_); refine PW.rg rfl fun K hK => ?_; simp (disch:=omega) only [go_sem, ↓reduceIte]; refine hK _ _ ?_; clear hK K
      (repeat refine PW.seq ?_); refine PW.cond (t := _) rfl (fun h => ?_) (fun h => ?_)
      rotate_left
      · cases h
      (repeat refine PW.seq ?_); refine PW.rg rfl fun K hK => ?_; simp (disch:=omega) only [go_sem]; refine hK _ _ ?_; clear hK K
      refine PW.ret ⟨.tup [.int .i64 0, .int .i64 4], by simp (disch:=omega) only [go_sem, presults, presult, List.mapM_cons, List.mapM_nil, Option.pure_def, Option.bind_eq_bind], ?_⟩
      rw [hr]
      exact Fin.cut (show _ = H.set i (rA p n a) ++ [_] by rw [hself]) (by simp) (hsc_rA _ _ _ _ _) (.id (tup2_sc _ _ _))
    have t := rtake_ok H.length p n (a + j) 1 (H ++ [rA p n (a + j)]) (hp0 _ _ _) (by omega) hn hp (by omega)
    have hv1 : vl p (a + j) 1 = ubit p (a + j) := by simp [vl]
    rw [hv1, hs0, show a + j + 1 = a + (j + 1) by omega] at t
    have hub := ubit_lt p (a + j)
    (repeat refine PW.seq ?_); refine PW.rg rfl fun K hK => ?_; simp (disch:=omega) only [go_sem]; refine VCx.call (t) rfl ?_; simp (disch:=omega) only [go_sem]; refine hK _ _ ?_; clear hK K
    (repeat refine PW.seq ?_); refine PW.rg rfl fun K hK => ?_; simp (disch:=omega) only [go_sem, ↓reduceIte]; refine hK _ _ ?_; clear hK K
    (repeat refine PW.seq ?_); refine PW.cond (t := _) rfl (fun h => ?_) (fun h => ?_)
    · cases h
    refine PW.skip ?_
    by_cases h1 : ubit p (a + j) = 1
    · have hz1 : zrs p n (16 - j) (a + j) = 0 := zrs_one h1
      rw [hz1, Nat.add_zero] at hz
      rw [h1]
      (repeat refine PW.seq ?_); refine PW.rg rfl fun K hK => ?_; simp (disch:=omega) only [go_sem, ↓reduceIte]; refine hK _ _ ?_; clear hK K
      (repeat refine PW.seq ?_); refine PW.cond (t := _) rfl (fun h => ?_) (fun h => ?_)
      rotate_left
      · cases h
      refine PW.exit ?_
      by_cases h2 : n - (a + (j + 1)) < j
      · have t2 := rtake_short H.length p n (a + (j + 1)) j (H ++ [rA p n (a + (j + 1))]) (hp0 _ _ _) (by omega) (by omega) (by omega) h2
        have hr : tkU p n a = .er 3 a := by
          unfold tkU; rw [if_neg (by omega), if_pos (by omega)]
        (repeat refine PW.seq ?_); refine PW.rg rfl fun K hK => ?_; simp (disch:=omega) only [go_sem]; refine VCx.call (t2) rfl ?_; simp (disch:=omega) only [go_sem]; refine hK _ _ ?_; clear hK K
        (repeat refine PW.seq ?_); refine PW.rg rfl fun K hK => ?_; simp (disch:=omega) only [go_sem, ↓reduceIte]; refine hK _ _ ?_; clear hK K
        (repeat refine PW.seq ?_); refine PW.cond (t := _) rfl (fun h => ?_) (fun h => ?_)
        rotate_left
        · cases h
        (repeat refine PW.seq ?_); refine PW.rg rfl fun K hK => ?_; simp (disch:=omega) only [go_sem]; refine hK _ _ ?_; clear hK K
        refine PW.ret ⟨.tup [.int .i64 0, .int .i64 4], by simp (disch:=omega) only [go_sem, presults, presult, List.mapM_cons, List.mapM_nil, Option.pure_def, Option.bind_eq_bind], ?_⟩
        rw [hr]
        exact Fin.cut (show _ = H.set i (rA p n a) ++ [_] by rw [hself]) (by simp) (hsc_rA _ _ _ _ _) (.id (tup2_sc _ _ _))
      · have t2 := rtake_ok H.length p n (a + (j + 1)) j (H ++ [rA p n (a + (j + 1))]) (hp0 _ _ _) (by omega) hn hp (by omega)
        rw [hs0] at t2
        have hr : tkU p n a = .ok (2 ^ j + vl p (a + (j + 1)) j - 1) (a + (2 * j + 1)) := by
          unfold tkU; rw [if_neg (by omega), if_neg (by omega), hz, show a + j + 1 = a + (j + 1) by omega]
        have hvl := vl_lt p (a + (j + 1)) j
        have hpw : 2 ^ j ≤ 2 ^ 15 := Nat.pow_le_pow_right (by omega) hj
        have hsum : ((2 ^ j : Nat) : Int) + (vl p (a + (j + 1)) j : Int) - 1 = ((2 ^ j + vl p (a + (j + 1)) j - 1 : Nat) : Int) := by
          have : 0 < 2 ^ j := Nat.pow_pos (by omega)
          omega
        rw [hr]
        simp only [Rr.at, rvU]
        rw [show a + (j + 1) + j = a + (2 * j + 1) by omega] at t2
        generalize vl p (a + (j + 1)) j = w at *
        (repeat refine PW.seq ?_); refine PW.rg rfl fun K hK => ?_; simp (disch:=omega) only [go_sem]; refine VCx.call (t2) rfl ?_; simp (disch:=omega) only [go_sem]; refine hK _ _ ?_; clear hK K
        (repeat refine PW.seq ?_); refine PW.rg rfl fun K hK => ?_; simp (disch:=omega) only [go_sem, ↓reduceIte]; refine hK _ _ ?_; clear hK K
        (repeat refine PW.seq ?_); refine PW.cond (t := _) rfl (fun h => ?_) (fun h => ?_)
        · cases h
        refine PW.skip ?_
        (repeat refine PW.seq ?_); refine PW.rg rfl fun K hK => ?_; simp (disch:=omega) only [go_sem, ↓reduceIte, hA', rA]; refine hK _ _ ?_; clear hK K
        have hpw2 : 2 ^ j = 2 ^ j := rfl
        have hsh := fun k' => pshl1_64 k' j (by omega)
        generalize 2 ^ j = m at *
        (repeat refine PW.seq ?_); refine PW.rg rfl fun K hK => ?_; simp (disch:=omega) only [go_sem, ↓reduceIte, hsh, hsum]; refine hK _ _ ?_; clear hK K
        refine PW.ret ⟨.tup [.int .i64 ((m + w - 1 : Nat) : Int), .int .i64 0], by simp (disch:=omega) only [go_sem, presults, presult, List.mapM_cons, List.mapM_nil, Option.pure_def, Option.bind_eq_bind], ?_⟩
        refine Fin.cut (K := [rA p n (a + (2 * j + 1))]) ?_ (by simp) (hsc_rA _ _ _ _ _) (.id (tup2_sc _ _ _))
        rw [List.set_append_left _ _ hi]; rfl
    · have h00 : ubit p (a + j) = 0 := by omega
      rw [h00]
      (repeat refine PW.seq ?_); refine PW.rg rfl fun K hK => ?_; simp (disch:=omega) only [go_sem, ↓reduceIte]; refine hK _ _ ?_; clear hK K
      (repeat refine PW.seq ?_); refine PW.cond (t := _) rfl (fun h => ?_) (fun h => ?_)
      · cases h
      refine PW.skip ?_
      have hzs : zrs p n (16 - j) (a + j) = zrs p n (16 - (j + 1)) (a + (j + 1)) + 1 := by
        rw [show 16 - j = (16 - (j + 1)) + 1 by omega, zrs_step (by omega) h00]; rfl
      by_cases h15 : j = 15
      · have hr : tkU p n a = .er 2 a := by
          subst h15
          unfold tkU; rw [if_pos (by rw [hz, hzs]; rfl)]
        have d : ((j : Int) == 15) = true := by simp [h15]
        (repeat refine PW.seq ?_); refine PW.rg rfl fun K hK => ?_; simp (disch:=omega) only [go_sem, ↓reduceIte, d]; refine hK _ _ ?_; clear hK K
        (repeat refine PW.seq ?_); refine PW.cond (t := _) rfl (fun h => ?_) (fun h => ?_)
        rotate_left
        · cases h
        (repeat refine PW.seq ?_); refine PW.rg rfl fun K hK => ?_; simp (disch:=omega) only [go_sem]; refine hK _ _ ?_; clear hK K
        refine PW.ret ⟨.tup [.int .i64 0, .int .i64 3], by simp (disch:=omega) only [go_sem, presults, presult, List.mapM_cons, List.mapM_nil, Option.pure_def, Option.bind_eq_bind], ?_⟩
        rw [hr]
        exact Fin.cut (show _ = H.set i (rA p n a) ++ [_] by rw [hself]) (by simp) (hsc_rA _ _ _ _ _) (.id (tup2_sc _ _ _))
      · have d : ((j : Int) == 15) = false := by
          rw [beq_eq_false_iff_ne]; omega
        (repeat refine PW.seq ?_); refine PW.rg rfl fun K hK => ?_; simp (disch:=omega) only [go_sem, ↓reduceIte, d]; refine hK _ _ ?_; clear hK K
        (repeat refine PW.seq ?_); refine PW.cond (t := _) rfl (fun h => ?_) (fun h => ?_)
        · cases h
        refine PW.skip ?_
        (repeat refine PW.seq ?_); refine PW.rg rfl fun K hK => ?_; simp (disch:=omega) only [go_sem, ↓reduceIte]; refine hK _ _ ?_; clear hK K
        exact PL.at [0, 4, 5] (ih (16 - (j + 1)) (by omega) (j + 1) (by omega) (by omega) (by omega) rfl) rfl rfl
theorem tks_ok (i : Nat) (p : List UInt8) (n a : Nat) (H : Heap) (hA : H[i]? = some (rA p n a)) (ha : a ≤ n) (hn : n ≤ 8 * p.length) (hp : p.length ≤ 100000000) :
    CallOk Tryz.prog 91 [.ptr i 0 0] H (rvS (tkS p n a)) (H.set i (rA p n (tkS p n a).at)) := by
  have t := tku_ok i p n a H hA ha hn hp
  unfold tkS
  cases hu : tkU p n a with
  | er e a1 =>
    rw [hu] at t
    have he := (tkU_e hu).2
    have d : ((e : Int) + 1 != 0) = true := by simp; omega
    simp only [Rr.bind, rvU, rvS, Rr.at] at t ⊢
    generalize H.set i (rA p n a1) = Hz at *
    refine CallOk.body (F0 := [(0, .ptr i 0 0)]) Tryz.func91 rfl Tryz.ntmps91 Tryz.results91 rfl (by kernel_rfl) rfl ?_
    (repeat refine PW.seq ?_); refine PW.rg rfl fun K hK => ?_; simp (disch:=omega) only [go_sem]; refine hK _ _ ?_; clear hK K
    (repeat refine PW.seq ?_); refine PW.rg rfl fun K hK => ?_; simp (disch:=omega) only [go_sem]; refine VCx.call (t) rfl ?_; simp (disch:=omega) only [go_sem]; refine hK _ _ ?_; clear hK K
    (repeat refine PW.seq ?_); refine PW.rg rfl fun K hK => ?_; simp (disch:=omega) only [go_sem, ↓reduceIte, d]; refine hK _ _ ?_; clear hK K
    (repeat refine PW.seq ?_); refine PW.cond (t := _) rfl (fun h => ?_) (fun h => ?_)
    rotate_left
    · cases h
    (repeat refine PW.seq ?_); refine PW.rg rfl fun K hK => ?_; simp (disch:=omega) only [go_sem]; refine hK _ _ ?_; clear hK K
    exact PW.ret ⟨_, rfl, Fin.now⟩
  | ok w a1 =>
    rw [hu] at t
    have hb := (tkU_b hu ha).1
    simp only [Rr.bind, rvU, rvS, Rr.at] at t ⊢
    generalize H.set i (rA p n a1) = Hz at *
    have hm : (w : Int).tmod 2 = ((w % 2 : Nat) : Int) := tmodN w 2
    refine CallOk.body (F0 := [(0, .ptr i 0 0)]) Tryz.func91 rfl Tryz.ntmps91 Tryz.results91 rfl (by kernel_rfl) rfl ?_
    (repeat refine PW.seq ?_); refine PW.rg rfl fun K hK => ?_; simp (disch:=omega) only [go_sem]; refine hK _ _ ?_; clear hK K
    (repeat refine PW.seq ?_); refine PW.rg rfl fun K hK => ?_; simp (disch:=omega) only [go_sem]; refine VCx.call (t) rfl ?_; simp (disch:=omega) only [go_sem]; refine hK _ _ ?_; clear hK K
    (repeat refine PW.seq ?_); refine PW.rg rfl fun K hK => ?_; simp (disch:=omega) only [go_sem, ↓reduceIte]; refine hK _ _ ?_; clear hK K
    (repeat refine PW.seq ?_); refine PW.cond (t := _) rfl (fun h => ?_) (fun h => ?_)
    · cases h
    refine PW.skip ?_
    by_cases h2 : w % 2 = 1
    · have hus : usg w = (((w + 1) / 2 : Nat) : Int) := by unfold usg; rw [if_pos h2]
      rw [hus]
      have e1 : (w : Int) + 1 = ((w + 1 : Nat) : Int) := by omega
      have e2 : (((w + 1 : Nat) : Int)).tdiv 2 = (((w + 1) / 2 : Nat) : Int) := tdivN _ 2
      (repeat refine PW.seq ?_); refine PW.rg rfl fun K hK => ?_; simp (disch:=omega) only [go_sem, ↓reduceIte, hm, h2]; refine hK _ _ ?_; clear hK K
      (repeat refine PW.seq ?_); refine PW.cond (t := _) rfl (fun h => ?_) (fun h => ?_)
      rotate_left
      · cases h
      (repeat refine PW.seq ?_); refine PW.rg rfl fun K hK => ?_; simp (disch:=omega) only [go_sem, ↓reduceIte, e1, e2]; refine hK _ _ ?_; clear hK K
      exact PW.ret ⟨_, rfl, Fin.now⟩
    · have h3 : w % 2 = 0 := by omega
      have hus : usg w = -((w / 2 : Nat) : Int) := by unfold usg; rw [if_neg h2]
      rw [hus]
      have e2 : (-(w : Int)).tdiv 2 = -((w / 2 : Nat) : Int) := by rw [Int.neg_tdiv]; rfl
      (repeat refine PW.seq ?_); refine PW.rg rfl fun K hK => ?_; simp (disch:=omega) only [go_sem, ↓reduceIte, hm, h3]; refine hK _ _ ?_; clear hK K
      (repeat refine PW.seq ?_); refine PW.cond (t := _) rfl (fun h => ?_) (fun h => ?_)
      · cases h
      refine PW.skip ?_
      (repeat refine PW.seq ?_); refine PW.rg rfl fun K hK => ?_; simp (disch:=omega) only [go_sem, ↓reduceIte, Int.zero_sub, e2]; refine hK _ _ ?_; clear hK K
      exact PW.ret ⟨_, rfl, Fin.now⟩
end Go.Proofs.YthmladiijdlgkaaGreat.Sc

namespace Go.Proofs.YthmladiijdlgkaaGreat.Pm
set_option linter.all false
set_option linter.unusedVariables false
set_option linter.unusedSimpArgs false
open Go.RowKit
variable {P : Program} {C : Ctx} {H : Heap} {w : World} {F : Fr} {a : Act} {N : Nat}
def CallPan (P : Program) (f : FuncId) (args : List PV) (H : Heap) (ch : List PanicEntry) (H' : Heap) : Prop :=
  callable P f = true ∧ ∀ (C : Ctx) (us : List Value) (w : World), WRel C H w → VRels C args us →
    Calls P f us.toArray w fun e w' => ∃ C', CLe C C' ∧ WRel C' H' w' ∧ Below C.B w w' ∧ e = .panicked ch
theorem vops_then {all : List Oper} {K : Fr → Heap → Prop} {D : List Deferred} {rest : List Oper} : ∀ (l : List Oper) (F : Fr) (H : Heap), l.all (dstOk N) = true → vops P all l K F H → ∀ (C : Ctx) (a : Act) (w : World), a.defers = D → WRel C H w → FRel C N (slot F) a →
    ∀ Q : Exit → Act → World → Prop, (∀ C' F' H' a' w', CLe C C' → a'.defers = D → WRel C' H' w' → Below C.B w w' → FRel C' N (slot F') a' → K F' H' → wpList P all.toArray Q rest a' w') → wpList P all.toArray Q (l ++ rest) a w
  | [], F, H, _, h, C, a, w, hd, hw, hf, Q, hQ => hQ C F H a w (.refl _) hd hw (.refl _ _) hf h
  | o :: r, F, H, hall, h, C, a, w, hd, hw, hf, Q, hQ => by
    simp only [List.all_cons, Bool.and_eq_true] at hall
    simp only [vops] at h
    rw [List.cons_append]
    split at h
    · rename_i b hb
      have hwant := want_sound hf hb
      unfold wpList
      cases b with
      | true =>
        rw [if_pos hwant]
        left
        have h1 := h.1 rfl
        have step : ∀ R, ExecR P o (slot F) H R → (∀ v H', R v H' → vops P all r K (put F o.dst v) H') → o.wp P a w (wpList P all.toArray Q (r ++ rest)) Q := fun R he hr => by
          refine execR_sound hall.1 hw hf he _ _ fun C' u w' v H' q0 q1 q2 q3 q4 => ?_
          rw [← get_put] at q4
          refine vops_then (D := D) (rest := rest) r _ _ hall.2 (hr v H' q0) C' _ w' (by cases ho : o.dst <;> simp [Act.put, hd]) q2 q4 Q ?_
          intro C'' F'' H'' a'' w'' p1 p2 p3 p4 p5 p6
          exact hQ C'' F'' H'' a'' w'' (q1.trans p1) p2 p3 (q3.trans (by rw [← q1.B]; exact p4)) p5 p6
        split at h1
        · rename_i g args hc
          obtain ⟨R, hcall, hr⟩ := h1
          exact step R (by unfold ExecR; rw [hc]; exact hcall) hr
        · rename_i hc
          split at h1
          · rename_i v H' hp
            exact step (fun v' H'' => v' = v ∧ H'' = H') (by unfold ExecR; rw [hc]; exact ⟨v, H', hp, rfl, rfl⟩) (fun v' H'' e => by rw [e.1, e.2]; exact h1)
          · exact h1.elim
      | false =>
        rw [if_neg (by rw [hwant]; simp)]
        have h2 := h.2 rfl
        have q4 := hf.put o.dst (dstOk_of hall.1) (VRel.undefV (C := C))
        rw [← get_put] at q4
        exact vops_then (D := D) (rest := rest) r _ _ hall.2 h2 C _ w (by cases ho : o.dst <;> simp [Act.put, hd]) hw q4 Q hQ
    · exact h.elim
theorem execPan_sound {o : Oper} {f : Nat → PV} {g : FuncId} {args : List PV} {ch : List PanicEntry} {H' : Heap} (hw : WRel C H w) (hf : FRel C N f a) (hc : pcallee o.op f = some (g, args)) (h : CallPan P g args H ch H')
    (next : Act → World → Prop) (Q : Exit → Act → World → Prop) (hn : ∀ C' w', CLe C C' → WRel C' H' w' → Below C.B w w' → FRel C' N f a → Q (.panic ch) a w') : o.wp P a w next Q := by
  unfold pcallee at hc
  split at hc
  · rename_i x xs ts ho
    split at hc
    · rename_i f' first captured hfv
      simp only [Option.some.injEq, Prod.mk.injEq] at hc
      obtain ⟨rfl, rfl⟩ := hc
      have hv := ev_rel hf x
      rw [hfv] at hv
      obtain ⟨us, ws, hl, hl', hR, hR', he⟩ : ∃ us ws, us.length = first.length ∧ ws.length = captured.length ∧ Rel C first us ∧ Rel C captured ws ∧ a.eval x = .func (.func f') us.toArray ws.toArray := by
        generalize a.eval x = q at hv
        cases hv with
        | func hl hl' hR hR' => exact ⟨_, _, hl, hl', hR, hR', rfl⟩
      obtain ⟨hal, har⟩ := evs_rel hf xs.toList
      have hrun : (execOp a.eval o).run P w = .ok (.enter f' (us ++ xs.toList.map a.eval ++ ws).toArray) w := by
        have e1 : us.toArray ++ xs.map a.eval ++ ws.toArray = (us ++ xs.toList.map a.eval ++ ws).toArray := by
          apply Array.ext'; simp
        simp only [execOp, ho, resolve, he, Deferred.ofValue, invoke, Sem.run_bind, Sem.run_pure, Result.andThen_ok, run_callFunc h.1, e1]
      unfold Oper.wp
      rw [hrun, Oper.upon_enter]
      refine (h.2 C _ w hw ⟨by simp [hl, hl'], Rel.append (by simp [hl]) (Rel.append hl hR har) hR'⟩).mono ?_
      rintro e w' ⟨C', q1, q2, q3, rfl⟩
      exact hn C' w' q1 q2 q3 (hf.mono q1)
    · cases hc
  · cases hc
section rules
variable {E : Env} {Q : Exit → Fr → Heap → Prop}
theorem PW.region_pan {id : Nat} {ops : Array Oper} (n : Nat) (hd : (ops.toList.take n).all (dstOk E.N) = true)
    (h : vops P ops.toList (ops.toList.take n) (fun F' H' => ∃ o r g args ch H'', ops.toList.drop n = o :: r ∧ want ops.toList (slot F') o = some true ∧ pcallee o.op (slot F') = some (g, args) ∧ CallPan P g args H' ch H'' ∧ Q (.panic ch) F' H'') F H) :
    PW P E (.region id ops false) F H Q := fun hs C a w hdf hw hf => by
  refine wp_region_list ?_
  have := vops_then (P := P) (all := ops.toList) (rest := ops.toList.drop n) (ops.toList.take n) F H hd h C a w hdf hw hf (Post E C w Q) (fun C' F' H' a' w' p1 p2 p3 p4 p5 p6 => by
    obtain ⟨o, r, g, args, ch, H'', e1, e2, e3, e4, e5⟩ := p6
    rw [e1]
    unfold wpList
    rw [if_pos (want_sound p5 e2)]
    left
    exact execPan_sound p3 p5 e3 e4 _ _ fun C'' w'' r1 r2 r3 r4 => ⟨C'', F', H'', (p1.trans r1).toN _, p2, r2, p4.trans (by rw [← p1.B]; exact r3), r4, e5⟩)
  rw [List.take_append_drop] at this
  simpa using this
end rules
def POut (H : Heap) (Hout : Heap) (H' : Heap) : Prop := H' = Hout ∨ (∃ K, H' = H ++ K ∧ Hout = H) ∨ (HSc H → H.length ≤ Hout.length ∧ CutH H' Hout)
def panQ (ch : List PanicEntry) (H Hout : Heap) : Exit → Fr → Heap → Prop
  | .panic ch', _, H' => ch' = ch ∧ POut H Hout H'
  | _, _, _ => False
theorem CallPan.intro {f : FuncId} {fn : Func} {c : Code} {args : List PV} {ch : List PanicEntry} {Hout : Heap} (hf : P.funcs[f]? = some fn) (hb : fn.body = some c) (hcall : callable P f = true) (hn : args.length ≤ fn.ntmps)
    (h : PW P ⟨fn.ntmps, H⟩ c (argFr args 0) H (panQ ch H Hout)) : CallPan P f args H ch Hout := by
  refine ⟨hcall, fun C us w hw hargs => calls_of_wp hf hb ?_⟩
  have hfr : FRel C fn.ntmps (slot (argFr args 0)) { tmps := us.toArray ++ Array.replicate (fn.ntmps - us.toArray.size) Go.undef, defers := [] } := by
    refine ⟨by simp [hargs.1]; omega, fun t => ?_⟩
    rw [get_argFr]
    simp only [Nat.zero_le, if_true, Nat.sub_zero]
    by_cases ht : t < args.length
    · have htu : t < us.length := by rw [hargs.1]; exact ht
      have e1 : args.getD t .undef = args[t] := by simp [List.getD, ht]
      have e2 : (us.toArray ++ Array.replicate (fn.ntmps - us.toArray.size) Go.undef).getD t Go.undef = us[t] := by
        rw [Array.getD_eq_getD_getElem?, Array.getElem?_append_left (by simpa using htu)]
        simp [htu]
      rw [e1, e2]
      exact hargs.2 t _ _ (List.getElem?_eq_getElem ht) (List.getElem?_eq_getElem htu)
    · have e1 : args.getD t .undef = .undef := by simp [List.getD, List.getElem?_eq_none (by omega : args.length ≤ t)]
      rw [e1]
      exact .undef _
  refine wp_mono (h hw.hsc C _ w rfl hw hfr) ?_
  rintro e a' w' ⟨C', F', H', q1, q2, q3, q4, q5, q6⟩
  have q1' := q1.full hw.lenv
  cases e with
  | panic ch' =>
    obtain ⟨rfl, hp⟩ := q6
    refine ⟨q2, ?_⟩
    rcases hp with rfl | ⟨K, rfl, rfl⟩ | hp
    · exact ⟨C', q1', q3, q4, rfl⟩
    · obtain ⟨g1, g2⟩ := WRel.give hw q1' q3
      exact ⟨_, g1, g2, q4, rfl⟩
    · obtain ⟨hlen, hcut⟩ := hp hw.hsc
      obtain ⟨g1, g2⟩ := q3.cutN hcut
      exact ⟨_, (q1.trans (g1.less hlen)).full hw.lenv, g2, q4, rfl⟩
  | _ => exact q6.elim
theorem CallPan.body {f : FuncId} {fn : Func} {c : Code} {F0 : Fr} {args : List PV} {ch : List PanicEntry} {Hout : Heap} (hf : P.funcs[f]? = some fn) (hb : fn.body = some c) (hN : fn.ntmps = N) (hF : argFr args 0 = F0)
    (hcall : callable P f = true) (hn : Nat.ble args.length N = true) (h : PW P ⟨N, H⟩ c F0 H (panQ ch H Hout)) : CallPan P f args H ch Hout := by
  subst hN hF
  exact CallPan.intro hf hb hcall (Nat.le_of_ble_eq_true hn) h
end Go.Proofs.YthmladiijdlgkaaGreat.Pm

namespace Go.Proofs.YthmladiijdlgkaaGreat.Pm
set_option linter.all false
set_option linter.unusedVariables false
set_option linter.unusedSimpArgs false
open Go.RowKit
variable {P : Program} {C : Ctx} {H : Heap} {w : World} {F : Fr} {a : Act} {N : Nat}
def pnc (ty : TypeId) (k : IntKind) (e : Int) : List PanicEntry := [{ v := .iface ty (.agg #[.int k e]), recovered := false }]
theorem agg1_inv {C : Ctx} {k : IntKind} {e : Int} {u : Value} (h : VRel C (.agg [.int k e]) u) : u = .agg #[.int k e] := by
  cases h with
  | agg hl hc hR =>
    rename_i us
    match us, hl with
    | [y], _ =>
      have := hR 0 _ _ rfl rfl
      cases this
      rfl
section rules
variable {E : Env} {Q : Exit → Fr → Heap → Prop}
theorem PW.raise {id : Nat} {ops : Array Oper} (n : Nat) {s d : Nat} {ty : TypeId} {k : IntKind} {e : Int} (hd : (ops.toList.take n).all (dstOk E.N) = true) (hdN : d < E.N) (hty : P.concrete ty = true)
    (h : vops P ops.toList (ops.toList.take n) (fun F' H' => ∃ o1 o2 r, ops.toList.drop n = o1 :: o2 :: r ∧ o1.guard = none ∧ o2.guard = none ∧ o1.op = .makeInterface ty (.tmp s) ∧ o1.dst = some d ∧ o2.op = .panic (.tmp d) ∧ slot F' s = .agg [.int k e] ∧ Q (.panic (pnc ty k e)) (put F' (some d) .undef) H') F H) :
    PW P E (.region id ops false) F H Q := fun hs C a w hdf hw hf => by
  refine wp_region_list ?_
  have := vops_then (P := P) (all := ops.toList) (rest := ops.toList.drop n) (ops.toList.take n) F H hd h C a w hdf hw hf (Post E C w Q) (fun C' F' H' a' w' p1 p2 p3 p4 p5 p6 => by
    obtain ⟨o1, o2, r, e1, g1, g2, x1, d1, x2, hsl, hq⟩ := p6
    rw [e1]
    have hv := p5.2 s
    rw [hsl] at hv
    have hu := agg1_inv hv
    have hsz := p5.1
    have w1 : ∀ a0 : Act, Region.wanted o1 (yielded ops.toList.toArray a0.tmps) = true := fun a0 => by simp [Region.wanted, g1]
    have w2 : ∀ a0 : Act, Region.wanted o2 (yielded ops.toList.toArray a0.tmps) = true := fun a0 => by simp [Region.wanted, g2]
    have r1 : (execOp a'.eval o1).run P w' = .ok (.value (.iface ty (.agg #[.int k e]))) w' := by
      simp only [execOp, x1]
      have : a'.eval (.tmp s) = .agg #[.int k e] := hu
      rw [this]
      simp only [Sem.run_bind, run_makeInterface _ _ _ hty, Result.andThen_ok, Sem.run_pure]
    unfold wpList
    rw [if_pos (w1 _)]
    left
    unfold Oper.wp
    rw [r1, Oper.upon_value]
    unfold wpList
    rw [if_pos (w2 _)]
    left
    have hlt : d < a'.tmps.size := by omega
    have r2 : (execOp (a'.put o1.dst (.iface ty (.agg #[.int k e]))).eval o2).run P w' = .halt (.panic (.iface ty (.agg #[.int k e]))) w' := by
      simp only [execOp, x2]
      have : (a'.put o1.dst (.iface ty (.agg #[.int k e]))).eval (.tmp d) = .iface ty (.agg #[.int k e]) := by
        rw [d1]
        simp [Act.put, Act.eval, hlt]
      rw [this]
      simp only [Sem.run_bind, run_panic_iface, Result.andThen_halt]
    unfold Oper.wp
    rw [r2, Oper.upon_panic]
    have q4 := p5.put (some d) (fun t ht => by injection ht with ht; omega) (VRel.undef (C := C') (.iface ty (.agg #[.int k e])))
    rw [← get_put] at q4
    exact ⟨C', _, H', p1.toN _, by rw [d1]; simpa [Act.put] using p2, p3, p4, by rw [d1]; exact q4, hq⟩)
  rw [List.take_append_drop] at this
  simpa using this
theorem PW.raiseV {id : Nat} {ops : Array Oper} (n : Nat) {s d : Nat} {ty : TypeId} {k : IntKind} {e : Int} (hd : (ops.toList.take n).all (dstOk E.N) = true)
    (hs : ∃ o1 o2 r, ops.toList.drop n = o1 :: o2 :: r ∧ o1.guard = none ∧ o2.guard = none ∧ o1.op = .makeInterface ty (.tmp s) ∧ o1.dst = some d ∧ o2.op = .panic (.tmp d)) (hdN : d < E.N) (hty : P.concrete ty = true)
    (h : ∀ K : Fr → Heap → Prop, (∀ F' H', slot F' s = .agg [.int k e] → Q (.panic (pnc ty k e)) (put F' (some d) .undef) H' → K F' H') → VO P (ops.toList.map (·.dst)) (ops.toList.take n) (some (F, H)) K) : PW P E (.region id ops false) F H Q := by
  obtain ⟨o1, o2, r, e1, e2, e3, e4, e5, e6⟩ := hs
  exact PW.raise n hd hdN hty (VO_sound _ _ _ (h _ fun F' H' h1 h2 => ⟨o1, o2, r, e1, e2, e3, e4, e5, e6, h1, h2⟩))
theorem PW.panV {id : Nat} {ops : Array Oper} (n : Nat) {o : Oper} (hd : (ops.toList.take n).all (dstOk E.N) = true) (hs : ∃ o' r, ops.toList.drop n = o' :: r ∧ (o' = o ∧ o'.guard = none))
    (h : ∀ K : Fr → Heap → Prop, (∀ F' H' g args ch H'', pcallee o.op (slot F') = some (g, args) → CallPan P g args H' ch H'' → Q (.panic ch) F' H'' → K F' H') → VO P (ops.toList.map (·.dst)) (ops.toList.take n) (some (F, H)) K) : PW P E (.region id ops false) F H Q := by
  obtain ⟨o', r, e1, rfl, e2⟩ := hs
  exact PW.region_pan n hd (VO_sound _ _ _ (h _ fun F' H' g args ch H'' h1 h2 h3 => ⟨o', r, g, args, ch, H'', e1, by unfold want; rw [e2], h1, h2, h3⟩))
end rules
end Go.Proofs.YthmladiijdlgkaaGreat.Pm

namespace Go.Proofs.YthmladiijdlgkaaGreat.Sc
set_option linter.all false
set_option linter.unusedVariables false
set_option linter.unusedSimpArgs false
open Pm Ty Go.RowKit
def tkB (q : List UInt8) (n : Nat) : Nat → Nat → Nat → List Int → Rr (List Int)
  | 0, _, a, _ => .er 2 a
  | f + 1, p, a, l => (tkU q n a).bind fun v a1 => if v = 0 then .ok l a1 else if 64 < p + v then .er 2 a1 else
    (tkS q n a1).bind fun w a2 => if w = 0 then .er 2 a2 else if win w 4095 = false then .er 2 a2 else tkB q n f (p + v) a2 (l.set (p + v - 1) w)
def z64 : List Int := List.replicate 64 0
def tkBl (q : List UInt8) (n fr a : Nat) : Rr (List Int) := tkB q n 65 fr a z64
theorem tkB_b {q : List UInt8} {n : Nat} : ∀ (f p a : Nat) (l : List Int) {l' : List Int} {a' : Nat}, tkB q n f p a l = .ok l' a' → a ≤ n → a < a' ∧ a' ≤ n ∧ l'.length = l.length
  | 0, p, a, l, l', a', h, ha => by simp [tkB] at h
  | f + 1, p, a, l, l', a', h, ha => by
    simp only [tkB] at h
    cases hu : tkU q n a with
    | er e a1 => rw [hu] at h; cases h
    | ok v a1 =>
      have b1 := tkU_b hu ha
      rw [hu, Rr.bind_ok] at h
      split at h
      · injection h with h1 h2; subst h1 h2; exact ⟨b1.2.1, b1.2.2, rfl⟩
      · split at h
        · cases h
        · cases hv : tkS q n a1 with
          | er e a2 => rw [hv] at h; cases h
          | ok w a2 =>
            have b2 := tkS_b hv b1.2.2
            rw [hv, Rr.bind_ok] at h
            split at h
            · cases h
            · split at h
              · cases h
              · have := tkB_b f (p + v) a2 _ h b2.2.2
                rw [List.length_set] at this
                exact ⟨by omega, this.2.1, this.2.2⟩
theorem tkB_e {q : List UInt8} {n : Nat} : ∀ (f p a : Nat) (l : List Int) {e a' : Nat}, tkB q n f p a l = .er e a' → a ≤ n → a ≤ a' ∧ a' ≤ n ∧ e ≤ 3
  | 0, p, a, l, e, a', h, ha => by
    simp only [tkB] at h
    injection h with h1 h2
    omega
  | f + 1, p, a, l, e, a', h, ha => by
    simp only [tkB] at h
    cases hu : tkU q n a with
    | er e1 a1 =>
      rw [hu] at h
      have := tkU_e hu
      injection h with h1 h2
      omega
    | ok v a1 =>
      have b1 := tkU_b hu ha
      rw [hu, Rr.bind_ok] at h
      split at h
      · cases h
      · split at h
        · injection h with h1 h2; omega
        · cases hv : tkS q n a1 with
          | er e2 a2 =>
            rw [hv] at h
            have := tkS_e hv
            injection h with h1 h2
            omega
          | ok w a2 =>
            have b2 := tkS_b hv b1.2.2
            rw [hv, Rr.bind_ok] at h
            split at h
            · injection h with h1 h2; omega
            · split at h
              · injection h with h1 h2; omega
              · have := tkB_e f (p + v) a2 _ h b2.2.2
                omega
def bpn (e : Nat) : List PanicEntry := pnc 151 .i64 ((e : Int) + 1)
theorem must_ok (v : Int) (H : Heap) : CallOk Tryz.prog 115 [.int .i64 v, .int .i64 0] H (.int .i64 v) H := by
  refine CallOk.body (F0 := [(0, .int .i64 v), (1, .int .i64 0)]) Tryz.func115 rfl Tryz.ntmps115 Tryz.results115 rfl (by kernel_rfl) rfl ?_
  (repeat' (first | refine PW.seq ?_ | refine PW.skip ?_ | refine PW.block ?_ | (refine PW.rg rfl fun K hK => ?_; simp (disch:=omega) only [go_sem, ↓reduceIte]) | (refine PW.draw mix (by kernel_rfl) fun K hK => ?_; simp (disch:=omega) only [go_sem, ↓reduceIte, reduceCtorEq, pappend, plen]) | (refine PW.drawg mix (by kernel_rfl) fun K hK => ?_; simp (disch:=omega) only [go_sem, ↓reduceIte, reduceCtorEq, pappend, plen]) | (refine PW.drawt [] [] mix (by kernel_rfl) fun K hK => ?_; simp (disch:=omega) only [go_sem, ↓reduceIte, reduceCtorEq, pappend, plen]) | ((first | refine VO_cond (fun h => ?_) (fun h => ?_) | refine VOd_cond (fun h => ?_) (fun h => ?_) | refine VOg_cond (fun h => ?_) (fun h => ?_) | refine VOh_cond (fun h => ?_) (fun h => ?_) | refine VOi_cond (fun h => ?_) (fun h => ?_) | refine And.intro (fun h => ?_) (fun h => ?_)) <;> (try simp only [Bool.not_eq_true', Bool.not_eq_false', decide_eq_true_eq, decide_eq_false_iff_not] at h) <;> simp (disch:=omega) only [go_sem, ↓reduceIte, reduceCtorEq, pappend, plen, h]) | (refine hK _ _ ?_; clear hK K) | (refine PW.cond (t := _) rfl (fun h => ?_) (fun h => ?_) <;> (try (cases h; done)) <;> (try simp only [] at h))))
  all_goals exact PW.ret ⟨_, rfl, Fin.now⟩
theorem must_pan (e : Nat) (H : Heap) : CallPan Tryz.prog 115 [.int .i64 0, .int .i64 ((e : Int) + 1)] H (bpn e) H := by
  have d : ((e : Int) + 1 != 0) = true := by simp; omega
  refine CallPan.body (F0 := [(0, .int .i64 0), (1, .int .i64 ((e : Int) + 1))]) Tryz.func115 rfl Tryz.ntmps115 rfl (by kernel_rfl) rfl ?_
  (repeat refine PW.seq ?_); refine PW.rg rfl fun K hK => ?_; simp (disch:=omega) only [go_sem]; refine hK _ _ ?_; clear hK K
  (repeat refine PW.seq ?_); refine PW.rg rfl fun K hK => ?_; simp (disch:=omega) only [go_sem, ↓reduceIte, d]; refine hK _ _ ?_; clear hK K
  (repeat refine PW.seq ?_); refine PW.cond (t := _) rfl (fun h => ?_) (fun h => ?_)
  rotate_left
  · cases h
  (repeat refine PW.seq ?_); refine PW.raiseV (k := .i64) (e := (e : Int) + 1) 2 rfl ⟨_, _, _, rfl, rfl, rfl, rfl, rfl, rfl⟩ (Nat.le_of_ble_eq_true rfl) (by kernel_rfl) fun K hK => ?_; simp (disch:=omega) only [go_sem]; refine hK _ _ rfl ?_; clear hK K
  exact ⟨rfl, .inl rfl⟩
def rdH (H : Heap) (i : Nat) (p : List UInt8) (n a : Nat) (l : List Int) : Heap := H.set i (rA p n a) ++ [⟨65, 0, is z64⟩, ⟨65, 0, is l⟩]
section
variable (H : Heap) (i : Nat) (p : List UInt8) (n a : Nat) (l : List Int)
theorem rdH_i (hi : i < H.length) : (rdH H i p n a l)[i]? = some (rA p n a) := by
  unfold rdH; rw [List.getElem?_append_left (by simpa using hi)]; simp [hi]
theorem rdH_si (hi : i < H.length) (a' : Nat) : (rdH H i p n a l).set i (rA p n a') = rdH H i p n a' l := by
  unfold rdH; rw [List.set_append_left _ _ (by simpa using hi), List.set_set]
theorem rdH_0 : (rdH H i p n a l)[H.length]? = some ⟨65, 0, is z64⟩ := by
  have := hp0 (H.set i (rA p n a)) [⟨65, 0, is l⟩] ⟨65, 0, is z64⟩
  rwa [List.length_set] at this
theorem rdH_1 : (rdH H i p n a l)[H.length + 1]? = some ⟨65, 0, is l⟩ := by
  have := hp1 (H.set i (rA p n a)) [] ⟨65, 0, is z64⟩ ⟨65, 0, is l⟩
  rwa [List.length_set] at this
theorem rdH_s1 (l' : List Int) : (rdH H i p n a l).set (H.length + 1) ⟨65, 0, is l'⟩ = rdH H i p n a l' := by
  have := hs1 (H.set i (rA p n a)) [] ⟨65, 0, is z64⟩ ⟨65, 0, is l⟩ ⟨65, 0, is l'⟩
  rwa [List.length_set] at this
theorem rdH_s0 (l' : List Int) : (rdH H i p n a l).set H.length ⟨65, 0, is l'⟩ = H.set i (rA p n a) ++ [⟨65, 0, is l'⟩, ⟨65, 0, is l⟩] := by
  have := hs0 (H.set i (rA p n a)) [⟨65, 0, is l⟩] ⟨65, 0, is z64⟩ ⟨65, 0, is l'⟩
  rwa [List.length_set] at this
end
theorem rd_out (H : Heap) (i : Nat) (p : List UInt8) (n a : Nat) (l : List Int) : POut H (H.set i (rA p n a)) (rdH H i p n a l) :=
  .inr (.inr fun h => ⟨by simp, CutH.base (hsc_rA _ _ _ _ _ h)⟩)
set_option maxHeartbeats 1000000 in
theorem read_pan (i : Nat) (p : List UInt8) (n a fr e a' : Nat) (H : Heap) (hA : H[i]? = some (rA p n a)) (ha : a ≤ n) (hn : n ≤ 8 * p.length) (hp : p.length ≤ 100000000) (hfr : fr ≤ 1) (hr : tkBl p n fr a = .er e a') :
    CallPan Tryz.prog 107 [.ptr i 0 0, .int .i64 (fr : Int)] H (bpn e) (H.set i (rA p n a')) := by
  have hi := (List.getElem?_eq_some_iff.1 hA).1
  have hself := set_self hA
  have al := fun x K => alw_ok x K
  have mo := fun v K => must_ok v K
  have mp := fun e K => must_pan e K
  refine CallPan.body (F0 := [(0, .ptr i 0 0), (1, .int .i64 (fr : Int))]) Tryz.func107 rfl Tryz.ntmps107 rfl (by kernel_rfl) rfl ?_
  (repeat refine PW.seq ?_); refine PW.rg rfl fun K hK => ?_; simp (disch:=omega) only [go_sem]; refine hK _ _ ?_; clear hK K
  (repeat refine PW.seq ?_); refine PW.rg rfl fun K hK => ?_; simp (disch:=omega) only [go_sem]; refine hK _ _ ?_; clear hK K
  (repeat refine PW.seq ?_); refine PW.rg rfl fun K hK => ?_; simp (disch:=omega) only [go_sem, ↓reduceIte]; refine hK _ _ ?_; clear hK K
  (repeat refine PW.seq ?_); refine PW.block (PW.loop ?_)
  suffices hl : ∀ (f at' a : Nat) (l : List Int), at' ≤ 64 → 64 - at' < f → a ≤ n → l.length = 64 → tkB p n f at' a l = .er e a' → PL Tryz.prog _ _ [(0, .ptr i 0 0), (4, .ptr H.length 0 0), (5, .ptr (H.length + 1) 0 0), (6, .int .i64 ((at' : Int) - 1))] (rdH H i p n a l) _ by
    exact PL.at [0, 4, 5, 6] (hl 65 fr a z64 (by omega) (by omega) ha (by simp [z64]) hr) rfl (by unfold rdH; rw [hself]; rfl)
  clear hr hself hA ha
  intro f
  induction f with
  | zero => intro at' a l h1 h2; omega
  | succ f ih =>
    intro at' a l h1 h2 ha hll hr
    have tu := tku_ok i p n a (rdH H i p n a l) (rdH_i H i p n a l hi) ha hn hp
    simp only [tkB] at hr
    refine PL.round ?_; (repeat refine PW.seq ?_); refine PW.block ?_
    cases hu : tkU p n a with
    | er e1 a1 =>
      rw [hu, Rr.bind_er] at hr
      injection hr with r1 r2
      subst r1 r2
      rw [hu] at tu
      simp only [rvU, Rr.at, rdH_si _ _ _ _ _ _ hi] at tu
      (repeat refine PW.seq ?_); refine PW.panV 4 rfl ⟨_, _, rfl, rfl, rfl⟩ fun K hK => ?_; simp (disch:=omega) only [go_sem]
      refine VCx.call (tu) rfl ?_; simp (disch:=omega) only [go_sem]
      exact hK _ _ _ _ _ _ rfl (mp _ _) ⟨rfl, rd_out ..⟩
    | ok v a1 =>
      have b1 := tkU_b hu ha
      rw [hu, Rr.bind_ok] at hr
      rw [hu] at tu
      simp only [rvU, Rr.at, rdH_si _ _ _ _ _ _ hi] at tu
      have hv0 : ¬ v = 0 := fun e0 => by rw [if_pos e0] at hr; cases hr
      rw [if_neg hv0] at hr
      have d1 : ((v : Int) == 0) = false := by rw [beq_eq_false_iff_ne]; omega
      (repeat refine PW.seq ?_); refine PW.rg rfl fun K hK => ?_; simp (disch:=omega) only [go_sem]
      refine VCx.call (tu) rfl ?_; simp (disch:=omega) only [go_sem]
      refine VCx.call (mo _ _) rfl ?_; simp (disch:=omega) only [go_sem]; refine hK _ _ ?_; clear hK K
      (repeat refine PW.seq ?_); refine PW.rg rfl fun K hK => ?_; simp (disch:=omega) only [go_sem, ↓reduceIte, d1]; refine hK _ _ ?_; clear hK K
      (repeat refine PW.seq ?_); refine PW.cond (t := _) rfl (fun h => ?_) (fun h => ?_)
      · cases h
      refine PW.skip ?_
      (repeat refine PW.seq ?_); refine PW.rg rfl fun K hK => ?_; simp (disch:=omega) only [go_sem, ↓reduceIte]; refine hK _ _ ?_; clear hK K
      have e1 : (at' : Int) - 1 + (v : Int) = ((at' + v : Nat) : Int) - 1 := by omega
      by_cases h64 : 64 < at' + v
      · rw [if_pos h64] at hr
        injection hr with r1 r2
        subst r1 r2
        have d2 : decide ((64 : Int) ≤ ((at' + v : Nat) : Int) - 1) = true := decide_eq_true (by omega)
        (repeat refine PW.seq ?_); refine PW.rg rfl fun K hK => ?_; simp (disch:=omega) only [go_sem, ↓reduceIte, e1, d2]; refine hK _ _ ?_; clear hK K
        (repeat refine PW.seq ?_); refine PW.cond (t := _) rfl (fun h => ?_) (fun h => ?_)
        rotate_left
        · cases h
        (repeat refine PW.seq ?_); refine PW.raiseV (k := .i64) (e := 3) 1 rfl ⟨_, _, _, rfl, rfl, rfl, rfl, rfl, rfl⟩ (Nat.le_of_ble_eq_true rfl) (by kernel_rfl) fun K hK => ?_; simp (disch:=omega) only [go_sem]; refine hK _ _ rfl ?_; clear hK K
        exact ⟨rfl, rd_out ..⟩
      rw [if_neg h64] at hr
      have d2 : decide ((64 : Int) ≤ ((at' + v : Nat) : Int) - 1) = false := decide_eq_false (by omega)
      (repeat refine PW.seq ?_); refine PW.rg rfl fun K hK => ?_; simp (disch:=omega) only [go_sem, ↓reduceIte, e1, d2]; refine hK _ _ ?_; clear hK K
      (repeat refine PW.seq ?_); refine PW.cond (t := _) rfl (fun h => ?_) (fun h => ?_)
      · cases h
      refine PW.skip ?_
      have ts := tks_ok i p n a1 (rdH H i p n a1 l) (rdH_i H i p n a1 l hi) b1.2.2 hn hp
      cases hw : tkS p n a1 with
      | er e2 a2 =>
        rw [hw, Rr.bind_er] at hr
        injection hr with r1 r2
        subst r1 r2
        rw [hw] at ts
        simp only [rvS, Rr.at, rdH_si _ _ _ _ _ _ hi] at ts
        (repeat refine PW.seq ?_); refine PW.panV 5 rfl ⟨_, _, rfl, rfl, rfl⟩ fun K hK => ?_; simp (disch:=omega) only [go_sem]
        refine VCx.call (ts) rfl ?_; simp (disch:=omega) only [go_sem]
        exact hK _ _ _ _ _ _ rfl (mp _ _) ⟨rfl, rd_out ..⟩
      | ok w a2 =>
        have b2 := tkS_b hw b1.2.2
        rw [hw, Rr.bind_ok] at hr
        rw [hw] at ts
        simp only [rvS, Rr.at, rdH_si _ _ _ _ _ _ hi] at ts
        have e3 : ((at' + v : Nat) : Int) - 1 = ((at' + v - 1 : Nat) : Int) := by omega
        have hil : (is l).length = 64 := by rw [is_len, hll]
        (repeat refine PW.seq ?_); refine PW.rg rfl fun K hK => ?_; simp (disch:=omega) only [go_sem]
        refine VCx.call (ts) rfl ?_; simp (disch:=omega) only [go_sem]
        refine VCx.call (mo _ _) rfl ?_; simp (disch:=omega) only [go_sem, ↓reduceIte, e3, rdH_1, hil, is_set, rdH_s1]; refine hK _ _ ?_; clear hK K
        have hgl : (is (l.set (at' + v - 1) w))[at' + v - 1]? = some (.int .i64 w) := by
          rw [is_get _ _ (by rw [List.length_set]; omega)]
          simp [intAt, hll, show at' + v - 1 < 64 by omega]
        have hil2 : (is (l.set (at' + v - 1) w)).length = 64 := by rw [is_len, List.length_set, hll]
        by_cases hw0 : w = 0
        · rw [if_pos hw0] at hr
          injection hr with r1 r2
          subst r1 r2
          have d3 : (w == 0) = true := by simp [hw0]
          (repeat refine PW.seq ?_); refine PW.rg rfl fun K hK => ?_; simp (disch:=omega) only [go_sem, ↓reduceIte, rdH_1, hgl, d3]; refine hK _ _ ?_; clear hK K
          (repeat refine PW.seq ?_); refine PW.cond (t := _) rfl (fun h => ?_) (fun h => ?_)
          rotate_left
          · cases h
          (repeat refine PW.seq ?_); refine PW.raiseV (k := .i64) (e := 3) 1 rfl ⟨_, _, _, rfl, rfl, rfl, rfl, rfl, rfl⟩ (Nat.le_of_ble_eq_true rfl) (by kernel_rfl) fun K hK => ?_; simp (disch:=omega) only [go_sem]; refine hK _ _ rfl ?_; clear hK K
          exact ⟨rfl, rd_out ..⟩
        · rw [if_neg hw0] at hr
          have d3 : (w == 0) = false := by simp [hw0]
          have alw := fun K => al w K
          cases hwn : win w 4095 with
          | false =>
            rw [hwn, if_pos rfl] at hr
            rw [hwn] at alw
            injection hr with r1 r2
            subst r1 r2
            (repeat refine PW.seq ?_); refine PW.rg rfl fun K hK => ?_; simp (disch:=omega) only [go_sem, ↓reduceIte, rdH_1, hgl, d3]
            refine VCx.call (alw _) rfl ?_; simp (disch:=omega) only [go_sem]; refine hK _ _ ?_; clear hK K
            (repeat refine PW.seq ?_); refine PW.cond (t := _) rfl (fun h => ?_) (fun h => ?_)
            rotate_left
            · cases h
            (repeat refine PW.seq ?_); refine PW.raiseV (k := .i64) (e := 3) 1 rfl ⟨_, _, _, rfl, rfl, rfl, rfl, rfl, rfl⟩ (Nat.le_of_ble_eq_true rfl) (by kernel_rfl) fun K hK => ?_; simp (disch:=omega) only [go_sem]; refine hK _ _ rfl ?_; clear hK K
            exact ⟨rfl, rd_out ..⟩
          | true =>
            rw [hwn, if_neg (by decide)] at hr
            rw [hwn] at alw
            (repeat refine PW.seq ?_); refine PW.rg rfl fun K hK => ?_; simp (disch:=omega) only [go_sem, ↓reduceIte, rdH_1, hgl, d3]
            refine VCx.call (alw _) rfl ?_; simp (disch:=omega) only [go_sem]; refine hK _ _ ?_; clear hK K
            (repeat refine PW.seq ?_); refine PW.cond (t := _) rfl (fun h => ?_) (fun h => ?_)
            · cases h
            refine PW.skip ?_
            exact PL.at [0, 4, 5, 6] (ih (at' + v) a2 _ (by omega) (by omega) b2.2.2 (by rw [List.length_set, hll]) hr) (by simp [kp, slot]; omega) rfl
set_option maxHeartbeats 1000000 in
theorem read_ok (i : Nat) (p : List UInt8) (n a fr a' : Nat) (l' : List Int) (H : Heap) (hA : H[i]? = some (rA p n a)) (ha : a ≤ n) (hn : n ≤ 8 * p.length) (hp : p.length ≤ 100000000) (hfr : fr ≤ 1) (hr : tkBl p n fr a = .ok l' a') :
    CallOk Tryz.prog 107 [.ptr i 0 0, .int .i64 (fr : Int)] H (.agg (is l')) (H.set i (rA p n a')) := by
  have hi := (List.getElem?_eq_some_iff.1 hA).1
  have hself := set_self hA
  have al := fun x K => alw_ok x K
  have mo := fun v K => must_ok v K
  have mp := fun e K => must_pan e K
  refine CallOk.body (F0 := [(0, .ptr i 0 0), (1, .int .i64 (fr : Int))]) Tryz.func107 rfl Tryz.ntmps107 Tryz.results107 rfl (by kernel_rfl) rfl ?_
  (repeat refine PW.seq ?_); refine PW.rg rfl fun K hK => ?_; simp (disch:=omega) only [go_sem]; refine hK _ _ ?_; clear hK K
  (repeat refine PW.seq ?_); refine PW.rg rfl fun K hK => ?_; simp (disch:=omega) only [go_sem]; refine hK _ _ ?_; clear hK K
  (repeat refine PW.seq ?_); refine PW.rg rfl fun K hK => ?_; simp (disch:=omega) only [go_sem, ↓reduceIte]; refine hK _ _ ?_; clear hK K
  (repeat refine PW.seq ?_); refine PW.block (PW.loop ?_)
  suffices hl : ∀ (f at' a : Nat) (l : List Int), at' ≤ 64 → 64 - at' < f → a ≤ n → l.length = 64 → tkB p n f at' a l = .ok l' a' → PL Tryz.prog _ _ [(0, .ptr i 0 0), (4, .ptr H.length 0 0), (5, .ptr (H.length + 1) 0 0), (6, .int .i64 ((at' : Int) - 1))] (rdH H i p n a l) _ by
    exact PL.at [0, 4, 5, 6] (hl 65 fr a z64 (by omega) (by omega) ha (by simp [z64]) hr) rfl (by unfold rdH; rw [hself]; rfl)
  clear hr hself hA ha
  intro f
  induction f with
  | zero => intro at' a l h1 h2; omega
  | succ f ih =>
    intro at' a l h1 h2 ha hll hr
    have tu := tku_ok i p n a (rdH H i p n a l) (rdH_i H i p n a l hi) ha hn hp
    simp only [tkB] at hr
    refine PL.round ?_; (repeat refine PW.seq ?_); refine PW.block ?_
    cases hu : tkU p n a with
    | er e1 a1 =>
      rw [hu, Rr.bind_er] at hr
      cases hr
    | ok v a1 =>
      have b1 := tkU_b hu ha
      rw [hu, Rr.bind_ok] at hr
      rw [hu] at tu
      simp only [rvU, Rr.at, rdH_si _ _ _ _ _ _ hi] at tu
      by_cases hv0 : v = 0
      · rw [if_pos hv0] at hr
        injection hr with r1 r2
        subst r1 r2
        have d1 : ((v : Int) == 0) = true := by simp [hv0]
        (repeat refine PW.seq ?_); refine PW.rg rfl fun K hK => ?_; simp (disch:=omega) only [go_sem]
        refine VCx.call (tu) rfl ?_; simp (disch:=omega) only [go_sem]
        refine VCx.call (mo _ _) rfl ?_; simp (disch:=omega) only [go_sem]; refine hK _ _ ?_; clear hK K
        (repeat refine PW.seq ?_); refine PW.rg rfl fun K hK => ?_; simp (disch:=omega) only [go_sem, ↓reduceIte, d1]; refine hK _ _ ?_; clear hK K
        (repeat refine PW.seq ?_); refine PW.cond (t := _) rfl (fun h => ?_) (fun h => ?_)
        rotate_left
        · cases h
        have hil : (is l).length = 64 := by rw [is_len, hll]
        have hz : (is z64).length = 64 := by rw [is_len]; simp [z64]
        have htk : List.take 64 (is l) = is l := List.take_of_length_le (by omega)
        have hcel := is_cell l
        have hdz : List.drop 64 (is z64) = [] := List.drop_of_length_le (by omega)
        have hg0 : (H.set i (rA p n a1) ++ [⟨65, 0, is l⟩, ⟨65, 0, is l⟩])[H.length]? = some ⟨65, 0, is l⟩ := by
          have := hp0 (H.set i (rA p n a1)) [⟨65, 0, is l⟩] ⟨65, 0, is l⟩
          rwa [List.length_set] at this
        (repeat refine PW.seq ?_); refine PW.rg rfl fun K hK => ?_; simp (disch:=omega) only [go_sem, ↓reduceIte, rdH_1, rdH_0, hil, hz, htk, hdz, rdH_s0]; refine hK _ _ ?_; clear hK K
        refine PW.ret ⟨.agg (is l), by simp (disch:=omega) only [go_sem, ↓reduceIte, presults, presult, hg0, hil, htk], ?_⟩
        exact Fin.cut rfl (by simp) (hsc_rA _ _ _ _ _) (.id (ag_scoped (is_scoped _ _)))
      rw [if_neg hv0] at hr
      have d1 : ((v : Int) == 0) = false := by rw [beq_eq_false_iff_ne]; omega
      (repeat refine PW.seq ?_); refine PW.rg rfl fun K hK => ?_; simp (disch:=omega) only [go_sem]
      refine VCx.call (tu) rfl ?_; simp (disch:=omega) only [go_sem]
      refine VCx.call (mo _ _) rfl ?_; simp (disch:=omega) only [go_sem]; refine hK _ _ ?_; clear hK K
      (repeat refine PW.seq ?_); refine PW.rg rfl fun K hK => ?_; simp (disch:=omega) only [go_sem, ↓reduceIte, d1]; refine hK _ _ ?_; clear hK K
      (repeat refine PW.seq ?_); refine PW.cond (t := _) rfl (fun h => ?_) (fun h => ?_)
      · cases h
      refine PW.skip ?_
      (repeat refine PW.seq ?_); refine PW.rg rfl fun K hK => ?_; simp (disch:=omega) only [go_sem, ↓reduceIte]; refine hK _ _ ?_; clear hK K
      have e1 : (at' : Int) - 1 + (v : Int) = ((at' + v : Nat) : Int) - 1 := by omega
      by_cases h64 : 64 < at' + v
      · rw [if_pos h64] at hr
        cases hr
      rw [if_neg h64] at hr
      have d2 : decide ((64 : Int) ≤ ((at' + v : Nat) : Int) - 1) = false := decide_eq_false (by omega)
      (repeat refine PW.seq ?_); refine PW.rg rfl fun K hK => ?_; simp (disch:=omega) only [go_sem, ↓reduceIte, e1, d2]; refine hK _ _ ?_; clear hK K
      (repeat refine PW.seq ?_); refine PW.cond (t := _) rfl (fun h => ?_) (fun h => ?_)
      · cases h
      refine PW.skip ?_
      have ts := tks_ok i p n a1 (rdH H i p n a1 l) (rdH_i H i p n a1 l hi) b1.2.2 hn hp
      cases hw : tkS p n a1 with
      | er e2 a2 =>
        rw [hw, Rr.bind_er] at hr
        cases hr
      | ok w a2 =>
        have b2 := tkS_b hw b1.2.2
        rw [hw, Rr.bind_ok] at hr
        rw [hw] at ts
        simp only [rvS, Rr.at, rdH_si _ _ _ _ _ _ hi] at ts
        have e3 : ((at' + v : Nat) : Int) - 1 = ((at' + v - 1 : Nat) : Int) := by omega
        have hil : (is l).length = 64 := by rw [is_len, hll]
        (repeat refine PW.seq ?_); refine PW.rg rfl fun K hK => ?_; simp (disch:=omega) only [go_sem]
        refine VCx.call (ts) rfl ?_; simp (disch:=omega) only [go_sem]
        refine VCx.call (mo _ _) rfl ?_; simp (disch:=omega) only [go_sem, ↓reduceIte, e3, rdH_1, hil, is_set, rdH_s1]; refine hK _ _ ?_; clear hK K
        have hgl : (is (l.set (at' + v - 1) w))[at' + v - 1]? = some (.int .i64 w) := by
          rw [is_get _ _ (by rw [List.length_set]; omega)]
          simp [intAt, hll, show at' + v - 1 < 64 by omega]
        have hil2 : (is (l.set (at' + v - 1) w)).length = 64 := by rw [is_len, List.length_set, hll]
        by_cases hw0 : w = 0
        · rw [if_pos hw0] at hr
          cases hr
        · rw [if_neg hw0] at hr
          have d3 : (w == 0) = false := by simp [hw0]
          have alw := fun K => al w K
          cases hwn : win w 4095 with
          | false =>
            rw [hwn, if_pos rfl] at hr
            cases hr
          | true =>
            rw [hwn, if_neg (by decide)] at hr
            rw [hwn] at alw
            (repeat refine PW.seq ?_); refine PW.rg rfl fun K hK => ?_; simp (disch:=omega) only [go_sem, ↓reduceIte, rdH_1, hgl, d3]
            refine VCx.call (alw _) rfl ?_; simp (disch:=omega) only [go_sem]; refine hK _ _ ?_; clear hK K
            (repeat refine PW.seq ?_); refine PW.cond (t := _) rfl (fun h => ?_) (fun h => ?_)
            · cases h
            refine PW.skip ?_
            exact PL.at [0, 4, 5, 6] (ih (at' + v) a2 _ (by omega) (by omega) b2.2.2 (by rw [List.length_set, hll]) hr) (by simp [kp, slot]; omega) rfl
end Go.Proofs.YthmladiijdlgkaaGreat.Sc

namespace Go.Proofs.YthmladiijdlgkaaGreat.Pm
set_option linter.all false
set_option linter.unusedVariables false
set_option linter.unusedSimpArgs false
open Go.RowKit
variable {P : Program} {C : Ctx} {H : Heap} {w : World} {F : Fr} {a : Act} {N : Nat}
theorem wpL_op {all : Array Oper} {o : Oper} {rest : List Oper} {v : PV} {H' : Heap} {Q : Exit → Act → World → Prop} (hw : WRel C H w) (hf : FRel C N (slot F) a) (hd : dstOk N o = true) (hg : o.guard = none) (hp : pcallee o.op (slot F) = none) (he : pop P o.op (slot F) H = some (v, H'))
    (hn : ∀ C' u w', CLe C C' → WRel C' H' w' → Below C.B w w' → FRel C' N (slot (put F o.dst v)) (a.put o.dst u) → wpList P all Q rest (a.put o.dst u) w') : wpList P all Q (o :: rest) a w := by
  unfold wpList
  rw [if_pos (by simp [Region.wanted, hg])]
  left
  refine execR_sound hd hw hf (R := fun v' H'' => v' = v ∧ H'' = H') (by unfold ExecR; rw [hp]; exact ⟨v, H', he, rfl, rfl⟩) _ _ fun C' u w' v' H'' q0 q1 q2 q3 q4 => ?_
  obtain ⟨rfl, rfl⟩ := q0
  rw [← get_put] at q4
  exact hn C' u w' q1 q2 q3 q4
theorem wpL_val {all : Array Oper} {o : Oper} {rest : List Oper} {u : Value} {Q : Exit → Act → World → Prop} (hg : o.guard = none) (he : (execOp a.eval o).run P w = .ok (.value u) w) (hn : wpList P all Q rest (a.put o.dst u) w) : wpList P all Q (o :: rest) a w := by
  unfold wpList
  rw [if_pos (by simp [Region.wanted, hg])]
  left
  unfold Oper.wp
  rw [he, Oper.upon_value]
  exact hn
theorem frel_args {args : List PV} {us : List Value} (hargs : VRels C args us) (hn : args.length ≤ N) : FRel C N (slot (argFr args 0)) { tmps := us.toArray ++ Array.replicate (N - us.toArray.size) Go.undef, defers := [] } := by
  refine ⟨by simp [hargs.1]; omega, fun t => ?_⟩
  rw [get_argFr]
  simp only [Nat.zero_le, if_true, Nat.sub_zero]
  by_cases ht : t < args.length
  · have htu : t < us.length := by rw [hargs.1]; exact ht
    have e1 : args.getD t .undef = args[t] := by simp [List.getD, ht]
    have e2 : (us.toArray ++ Array.replicate (N - us.toArray.size) Go.undef).getD t Go.undef = us[t] := by
      rw [Array.getD_eq_getD_getElem?, Array.getElem?_append_left (by simpa using htu)]
      simp [htu]
    rw [e1, e2]
    exact hargs.2 t _ _ (List.getElem?_eq_getElem ht) (List.getElem?_eq_getElem htu)
  · have e1 : args.getD t .undef = .undef := by simp [List.getD, List.getElem?_eq_none (by omega : args.length ≤ t)]
    rw [e1]
    exact .undef _
theorem WRel.drop {A K : Heap} {C0 : Ctx} {w0 : World} (h0 : WRel C0 H w0) (hl : H.length = A.length) (hA : HSc A) (hle : CLe C0 C) (hw : WRel C (A ++ K) w) : ∃ C', CLe C0 C' ∧ WRel C' A w := by
  obtain ⟨g1, g2⟩ := hw.cutN (CutH.base hA)
  exact ⟨_, ((hle.toN _).trans (g1.less (m := H.length) (by omega))).full h0.lenv, g2⟩
theorem wpL_defer {all : Array Oper} {o : Oper} {rest : List Oper} {d : Deferred} {Q : Exit → Act → World → Prop} (hg : o.guard = none) (he : (execOp a.eval o).run P w = .ok (.defer d) w) (hn : wpList P all Q rest ({ a with defers := d :: a.defers }.put o.dst Go.undef) w) : wpList P all Q (o :: rest) a w := by
  unfold wpList
  rw [if_pos (by simp [Region.wanted, hg])]
  left
  unfold Oper.wp
  rw [he, Oper.upon_defer]
  exact hn
theorem PW.hand {c : Code} {F1 : Fr} {H1 : Heap} {Q : Exit → Act → World → Prop} (ks : List Nat) (h : PW P ⟨N, H⟩ c F H (fun x F' H' => x = .normal ∧ kp ks F' = F1 ∧ H' = H1)) (hd : a.defers = []) (hw : WRel C H w) (hf : FRel C N (slot F) a)
    (hn : ∀ C' a' w', CLe C C' → a'.defers = [] → WRel C' H1 w' → Below C.B w w' → FRel C' N (slot F1) a' → Q .normal a' w') : c.wp P Q a w := by
  refine wp_mono (h hw.hsc C a w hd hw hf) ?_
  rintro x a' w' ⟨C', F', H', y1, y2, y3, y4, y5, rfl, rfl, rfl⟩
  exact hn C' a' w' (y1.full hw.lenv) y2 y3 y4 (y5.keep ks)
theorem wp_region_cut {id : Nat} {ops : Array Oper} {K : Fr → Heap → Prop} {Q : Exit → Act → World → Prop} (n : Nat) (hd : (ops.toList.take n).all (dstOk N) = true) (h : VO P (ops.toList.map (·.dst)) (ops.toList.take n) (some (F, H)) K) {D : List Deferred} (hD : a.defers = D) (hw : WRel C H w) (hf : FRel C N (slot F) a)
    (hn : ∀ C' F' H' a' w', CLe C C' → a'.defers = D → WRel C' H' w' → Below C.B w w' → FRel C' N (slot F') a' → K F' H' → wpList P ops Q (ops.toList.drop n) a' w') : (Code.region id ops false).wp P Q a w := by
  refine wp_region_list ?_
  have := vops_then (P := P) (all := ops.toList) (rest := ops.toList.drop n) (ops.toList.take n) F H hd (VO_sound _ _ _ h) C a w hD hw hf Q (fun C' F' H' a' w' p1 p2 p3 p4 p5 p6 => by
    simpa using hn C' F' H' a' w' p1 p2 p3 p4 p5 p6)
  rw [List.take_append_drop] at this
  simpa using this
theorem WRel.dropV {A K : Heap} {C0 : Ctx} {w0 : World} {v : PV} {u : Value} (h0 : WRel C0 H w0) (hl : H.length = A.length) (hA : HSc A) (hle : CLe C0 C) (hw : WRel C (A ++ K) w) (hv : VRel C v u) (hs : Scoped A.length v) : ∃ C', CLe C0 C' ∧ WRel C' A w ∧ VRel C' v u := by
  obtain ⟨g1, g2⟩ := hw.cutN (CutH.base hA)
  exact ⟨_, ((hle.toN _).trans (g1.less (m := H.length) (by omega))).full h0.lenv, g2, (Fz.id hs).sound hw hv⟩
end Go.Proofs.YthmladiijdlgkaaGreat.Pm

namespace Go.Proofs.YthmladiijdlgkaaGreat.Sc
set_option linter.all false
set_option linter.unusedVariables false
set_option linter.unusedSimpArgs false
open Pm Ty Go.RowKit
theorem catch_idle (x y : Value) (w : World) : CallsD Tryz.prog 106 #[x, y] .returning w fun e u' w' => e = .returned (.tuple #[]) ∧ u' = .returning ∧ w' = w := by
  refine callsD_of_wpS Tryz.func106 rfl fun c₀ cs hu => ?_
  apply wpS_seq
  apply wpS_region
  simp [wpOpsS, go_sem, recoverD, hu, Tryz.ntmps106, Exit.thenS]
  apply wpS_seq
  apply wpS_region
  simp [wpOpsS, go_sem, Exit.thenS]
  refine wpS_cond (t := false) (by simp [Act.eval, Array.replicate]) ?_
  simp only [Bool.false_eq_true, if_false]
  refine wpS_of_wp (wp_skip ?_)
  cases c₀
  simp_all [bodyPostS, results, Tryz.results106]
def caughtR (C : Ctx) (H' : Heap) (w : World) (e : Nat) : Ending → FrameMode → World → Prop := fun x u' w' =>
  x = .returned (.tuple #[]) ∧ u' = .panicking [{ v := .iface 151 (.agg #[.int .i64 ((e : Int) + 1)]), recovered := true }] ∧ ∃ C', CLe C C' ∧ WRel C' H' w' ∧ Below C.B w w'
set_option maxHeartbeats 1000000 in
theorem catch_pan (i4 i5 e : Nat) (l : List Int) (z : Int) (H : Heap) (C : Ctx) (x y : Value) (w : World) (h4 : H[i4]? = some ⟨65, 0, is l⟩) (h5 : H[i5]? = some ⟨35, 0, [.int .i64 z]⟩) (hl : l.length = 64) (hne : i4 ≠ i5)
    (hw : WRel C H w) (hx : VRel C (.ptr i4 0 0) x) (hy : VRel C (.ptr i5 0 0) y) :
    CallsD Tryz.prog 106 #[x, y] (.panicking (bpn e)) w (caughtR C ((H.set i4 ⟨65, 0, is z64⟩).set i5 ⟨35, 0, [.int .i64 ((e : Int) + 1)]⟩) w e) := by
  refine callsD_of_wpS Tryz.func106 rfl fun c₀ cs hu => ?_
  unfold bpn pnc at hu
  apply wpS_seq
  apply wpS_region
  simp [wpOpsS, go_sem, recoverD, hu, Tryz.ntmps106, Exit.thenS]
  apply wpS_seq
  apply wpS_region
  simp [wpOpsS, go_sem, Exit.thenS]
  refine wpS_cond (t := true) (by simp [Act.eval, Array.replicate]) ?_
  simp only [if_true]
  refine wpS_of_wp ?_
  have hp4 : i4 < H.length := (List.getElem?_eq_some_iff.1 h4).1
  have hp5 : i5 < H.length := (List.getElem?_eq_some_iff.1 h5).1
  have hfr : FRel C 17 (slot [(0, .ptr i4 0 0), (1, .ptr i5 0 0)]) { tmps := #[x, y] ++ ((((Array.replicate 15 undef).setIfInBounds 3 (Value.iface 151 (.agg #[.int .i64 ((e : Int) + 1)]))).setIfInBounds 0 (Value.iface 151 (.agg #[.int .i64 ((e : Int) + 1)]))).setIfInBounds 4 (Value.iface 151 (.agg #[.int .i64 ((e : Int) + 1)]))).setIfInBounds 5 (Value.bool true), defers := [] } := by
    refine ⟨by simp, fun t => ?_⟩
    match t with
    | 0 => exact hx
    | 1 => exact hy
    | t + 2 => exact .undef _
  have hil : (is l).length = 64 := by rw [is_len, hl]
  have hz : (is z64).length = 64 := by rw [is_len]; simp [z64]
  have hzc : (is z64).all PV.cell = true := is_cell z64
  have hdl : List.drop 64 (is l) = [] := List.drop_of_length_le (by omega)
  have hbz : ∀ Q : List PV → Prop, Q (is z64) → Q (List.replicate 64 (.int .i64 0)) := fun Q h => by simpa [is, z64] using h
  have h5' : (H.set i4 ⟨65, 0, is z64⟩)[i5]? = some ⟨35, 0, [.int .i64 z]⟩ := by rw [List.getElem?_set_ne hne]; exact h5
  generalize hPQ : bodyPostS Tryz.prog _ c₀ cs _ = PQ
  refine wp_seq (wp_region_list ?_)
  refine wpL_op (v := .agg (is z64)) (H' := H) hw hfr rfl rfl rfl (by kernel_rfl) fun C1 u1 w1 p1 p2 p3 p4 => ?_
  refine wpL_op (v := .tup []) (H' := H.set i4 ⟨65, 0, is z64⟩) p2 p4 rfl rfl rfl (by simp (disch:=omega) only [go_sem, ↓reduceIte, h4, hz, hil, hdl]) fun C2 u2 w2 r1 r2 r3 r4 => ?_
  refine wpL_op (v := .tup []) (H' := (H.set i4 ⟨65, 0, is z64⟩).set i5 ⟨35, 0, [.int .i64 3]⟩) r2 r4 rfl rfl rfl (by simp (disch:=omega) only [go_sem, ↓reduceIte, h5']) fun C3 u3 w3 s1 s2 s3 s4 => ?_
  refine wp_seq (wp_region_list ?_)
  refine wpL_val (u := .iface 151 (.agg #[.int .i64 ((e : Int) + 1)])) rfl (by kernel_rfl) ?_
  have t1 := s4.put (some 10) (fun t ht => by injection ht with ht; omega) (VRel.undef (C := C3) (Value.iface 151 (.agg #[.int .i64 ((e : Int) + 1)])))
  refine wpL_val (u := .tuple #[.agg #[.int .i64 ((e : Int) + 1)], .bool true]) rfl (by kernel_rfl) ?_
  have hvt : VRel C3 (.tup [.agg [.int .i64 ((e : Int) + 1)], .bool true]) (.tuple #[.agg #[.int .i64 ((e : Int) + 1)], .bool true]) := by
    refine .tup (us := [.agg #[.int .i64 ((e : Int) + 1)], .bool true]) rfl fun j x u hx hu => ?_
    match j with
    | 0 =>
      injection hx with hx; injection hu with hu
      subst hx hu
      refine .agg (us := [.int .i64 ((e : Int) + 1)]) rfl (by simp [PV.cell]) fun j x u hx hu => ?_
      match j with
      | 0 => injection hx with hx; injection hu with hu; subst hx hu; exact .int _ _
      | j + 1 => cases hx
    | 1 => injection hx with hx; injection hu with hu; subst hx hu; exact .bool _
    | j + 2 => cases hx
  have t2 := t1.put (some 11) (fun t ht => by injection ht with ht; omega) hvt
  rw [← get_put, ← get_put] at t2
  have hl2 : ((H.set i4 ⟨65, 0, is z64⟩).set i5 ⟨35, 0, [.int .i64 3]⟩).length = H.length := by simp
  have g5 : ((H.set i4 ⟨65, 0, is z64⟩).set i5 ⟨35, 0, [.int .i64 3]⟩)[i5]? = some ⟨35, 0, [.int .i64 3]⟩ := by simp [hp5]
  have hss : ((H.set i4 ⟨65, 0, is z64⟩).set i5 ⟨35, 0, [.int .i64 3]⟩).set i5 ⟨35, 0, [.int .i64 ((e : Int) + 1)]⟩ = (H.set i4 ⟨65, 0, is z64⟩).set i5 ⟨35, 0, [.int .i64 ((e : Int) + 1)]⟩ := List.set_set ..
  have hscF : HSc H → HSc ((H.set i4 ⟨65, 0, is z64⟩).set i5 ⟨35, 0, [.int .i64 ((e : Int) + 1)]⟩) := fun h => HSc.set (HSc.set h (is_scoped _ _)) fun x hx => by
    simp only [List.mem_cons, List.not_mem_nil, or_false] at hx
    subst hx; exact .int _ _
  have hlF : H.length = ((H.set i4 ⟨65, 0, is z64⟩).set i5 ⟨35, 0, [.int .i64 ((e : Int) + 1)]⟩).length := by simp
  generalize (H.set i4 ⟨65, 0, is z64⟩).set i5 ⟨35, 0, [.int .i64 3]⟩ = H2 at *
  generalize (H.set i4 ⟨65, 0, is z64⟩).set i5 ⟨35, 0, [.int .i64 ((e : Int) + 1)]⟩ = H3 at *
  refine vops_sound (N := 17) _ _ _ rfl (K := fun F' H' => kp [1, 3, 4] F' = [(1, .ptr i5 0 0), (3, .ptr H2.length 0 0), (4, .bool true)] ∧ H' = H2 ++ [⟨151, 0, [.int .i64 ((e : Int) + 1)]⟩]) (VO_sound _ _ _ ?_) C3 _ w3 rfl s2 t2 _ ?_
  · simp (disch:=omega) only [go_sem, ↓reduceIte]
  intro C4 F4 H4 a4 w4 k1 k2 k3 k4 k5 ⟨k6, k7⟩
  subst k7
  have k5' := k5.keep [1, 3, 4]
  rw [k6] at k5'
  have g5x := get_ext (K := [(⟨151, 0, [.int .i64 ((e : Int) + 1)]⟩ : Blk)]) g5
  have hsx : ∀ B : Blk, (H2 ++ [(⟨151, 0, [.int .i64 ((e : Int) + 1)]⟩ : Blk)]).set i5 B = H2.set i5 B ++ [⟨151, 0, [.int .i64 ((e : Int) + 1)]⟩] := fun B => by
    exact List.set_append_left _ _ (by omega)
  have gF := hp0 H2 [] ⟨151, 0, [.int .i64 ((e : Int) + 1)]⟩
  have pw : ∀ {c : Code} {Q : Exit → Act → World → Prop}, PW Tryz.prog ⟨17, H2 ++ [⟨151, 0, [.int .i64 ((e : Int) + 1)]⟩]⟩ c [(1, .ptr i5 0 0), (3, .ptr H2.length 0 0), (4, .bool true)] (H2 ++ [⟨151, 0, [.int .i64 ((e : Int) + 1)]⟩]) (fun x _ H' => x = .normal ∧ H' = H3 ++ [⟨151, 0, [.int .i64 ((e : Int) + 1)]⟩]) →
      (∀ C' a' w', CLe C4 C' → a'.defers = [] → WRel C' (H3 ++ [⟨151, 0, [.int .i64 ((e : Int) + 1)]⟩]) w' → Below C4.B w4 w' → a'.tmps.size = 17 → Q .normal a' w') → c.wp Tryz.prog Q a4 w4 := fun h hQ => by
    refine wp_mono (h k3.hsc C4 a4 w4 k2 k3 k5') ?_
    rintro x a' w' ⟨C', F', H', y1, y2, y3, y4, y5, rfl, rfl⟩
    exact hQ C' a' w' (y1.full k3.lenv) y2 y3 y4 y5.1
  refine pw ?_ ?_
  · (repeat refine PW.seq ?_); refine PW.rg rfl fun K hK => ?_; simp (disch:=omega) only [go_sem]; refine hK _ _ ?_; clear hK K
    (repeat refine PW.seq ?_); refine PW.cond (t := _) rfl (fun h => ?_) (fun h => ?_)
    rotate_left
    · cases h
    (repeat refine PW.seq ?_); refine PW.rg rfl fun K hK => ?_; simp (disch:=omega) only [go_sem, ↓reduceIte, gF, g5x, hsx, hss]; refine hK _ _ ?_; clear hK K
    exact ⟨rfl, rfl⟩
  intro C5 a5 w5 y1 y2 y3 y4 y5
  show PQ _ _ _ _
  rw [← hPQ]
  have c1 := p1.trans r1
  have c2 := c1.trans s1
  have c3 := c2.trans k1
  have c4 := c3.trans y1
  have b1 := p3.trans (by rw [← p1.B]; exact r3)
  have b2 := b1.trans (by rw [← c1.B]; exact s3)
  have b3 := b2.trans (by rw [← c2.B]; exact k4)
  have b4 := b3.trans (by rw [← c3.B]; exact y4)
  obtain ⟨C', d1, d2⟩ := WRel.drop hw hlF (hscF hw.hsc) c4 y3
  exact ⟨y2, _, rfl, .tuple #[], by simp [results, Tryz.results106], rfl, rfl, C', d1, d2, b4⟩
end Go.Proofs.YthmladiijdlgkaaGreat.Sc

namespace Go.Proofs.YthmladiijdlgkaaGreat.Sc
set_option linter.all false
set_option linter.unusedVariables false
set_option linter.unusedSimpArgs false
open Pm Ty Go.RowKit
def rvB : Rr (List Int) → PV
  | .ok l _ => .tup [.agg (is l), .int .i64 0]
  | .er e _ => .tup [.agg (is z64), .int .i64 ((e : Int) + 1)]
theorem rvB_sc (k : Nat) (x : Rr (List Int)) : Scoped k (rvB x) := by
  cases x <;> refine .tup fun j x hx => ?_
  all_goals
    have := List.mem_of_getElem? hx
    simp only [List.mem_cons, List.not_mem_nil, or_false] at this
    rcases this with rfl | rfl
    · exact ag_scoped (is_scoped _ _)
    · exact .int _ _
def tkH (H : Heap) (i : Nat) (p : List UInt8) (n a : Nat) (l : List Int) (e : Int) : Heap := H.set i (rA p n a) ++ [⟨65, 0, is l⟩, ⟨35, 0, [.int .i64 e]⟩]
set_option maxHeartbeats 1000000 in
set_option maxRecDepth 100000 in
theorem btake_ok (i : Nat) (p : List UInt8) (n a fr : Nat) (H : Heap) (hA : H[i]? = some (rA p n a)) (ha : a ≤ n) (hn : n ≤ 8 * p.length) (hp : p.length ≤ 100000000) (hfr : fr ≤ 1) :
    CallOk Tryz.prog 92 [.ptr i 0 0, .int .i64 (fr : Int)] H (rvB (tkBl p n fr a)) (H.set i (rA p n (tkBl p n fr a).at)) := by
  have hi := (List.getElem?_eq_some_iff.1 hA).1
  have hself := set_self hA
  refine ⟨by kernel_rfl, fun C us w hw hargs => calls_of_wp_defers Tryz.func92 rfl ?_⟩
  have hfr0 := frel_args (N := 18) hargs (Nat.le_of_ble_eq_true rfl)
  change FRel C 18 (slot [(0, .ptr i 0 0), (1, .int .i64 (fr : Int))]) _ at hfr0
  have vo := fun K => vst_ok fr K hfr
  have hAx := fun K => get_ext (K := K) hA
  refine wp_seq ?_
  refine PW.hand [0, 1, 4, 5] (F1 := [(0, .ptr i 0 0), (1, .int .i64 (fr : Int)), (4, .ptr H.length 0 0), (5, .ptr (H.length + 1) 0 0)]) (H1 := tkH H i p n a z64 0) ?_ rfl hw hfr0 ?_
  · (repeat refine PW.seq ?_); refine PW.rg rfl fun K hK => ?_; simp (disch:=omega) only [go_sem]; refine hK _ _ ?_; clear hK K
    refine ⟨rfl, rfl, ?_⟩
    unfold tkH; rw [hself]; rfl
  intro C1 a1 w1 p1 p2 p3 p4 p5
  refine wp_seq ?_
  have g0 : (tkH H i p n a z64 0)[i]? = some (rA p n a) := by unfold tkH; rw [hself]; exact hAx _
  refine PW.hand [0, 1, 4, 5] (F1 := [(0, .ptr i 0 0), (1, .int .i64 (fr : Int)), (4, .ptr H.length 0 0), (5, .ptr (H.length + 1) 0 0)]) (H1 := tkH H i p n a z64 0) ?_ p2 p3 p5 ?_
  · (repeat refine PW.seq ?_); refine PW.rg rfl fun K hK => ?_; simp (disch:=omega) only [go_sem, g0, rA]
    refine VCx.call (vo _) rfl ?_; simp (disch:=omega) only [go_sem]; refine hK _ _ ?_; clear hK K
    (repeat refine PW.seq ?_); refine PW.cond (t := _) rfl (fun h => ?_) (fun h => ?_)
    · cases h
    exact PW.skip ⟨rfl, rfl, rfl⟩
  intro C2 a2 w2 r1 r2 r3 r4 r5
  refine wp_seq (wp_region_list ?_)
  have hx := r5.2 4
  have hy := r5.2 5
  generalize hxv : a2.tmps.getD 4 Go.undef = x at hx
  generalize hyv : a2.tmps.getD 5 Go.undef = y at hy
  refine wpL_val (u := .func (.func 106) #[] #[x, y]) rfl ?_ ?_
  · subst hxv hyv
    simp [execOp, Instr.makeFunc, Act.eval]
  refine wpL_defer (d := ⟨.fn (.func 106) #[x, y], #[]⟩) rfl ?_ ?_
  · have e14 : (a2.put (some 14) (Value.func (.func 106) #[] #[x, y])).eval (.tmp 14) = Value.func (.func 106) #[] #[x, y] := by
      have := r5.1
      simp [Act.put, Act.eval, this]
    simp [execOp, resolve, e14, Deferred.ofValue]
  have t1 := r5.put (some 14) (fun t ht => by injection ht with ht; omega) (VRel.undef (C := C2) (Value.func (.func 106) #[] #[x, y]))
  rw [← get_put] at t1
  have t2 : FRel C2 18 (slot [(14, .undef), (0, .ptr i 0 0), (1, .int .i64 (fr : Int)), (4, .ptr H.length 0 0), (5, .ptr (H.length + 1) 0 0)]) ({ a2.put (some 14) (Value.func (.func 106) #[] #[x, y]) with defers := ⟨.fn (.func 106) #[x, y], #[]⟩ :: a2.defers }) := t1
  have hhsc := fun a' => hsc_rA H i p n a' hw.hsc
  have cB1 : CLe C C2 := p1.trans r1
  have bB1 : Below C.B w w2 := p4.trans (by rw [← p1.B]; exact r4)
  have htk : ∀ a' l z, (tkH H i p n a l z).set i (rA p n a') = tkH H i p n a' l z := fun a' l z => by
    unfold tkH; rw [List.set_append_left _ _ (by simpa using hi), List.set_set]
  have h4 : ∀ a' l z, (tkH H i p n a' l z)[H.length]? = some ⟨65, 0, is l⟩ := fun a' l z => by
    have := hp0 (H.set i (rA p n a')) [⟨35, 0, [.int .i64 z]⟩] ⟨65, 0, is l⟩
    rwa [List.length_set] at this
  have h5 : ∀ a' l z, (tkH H i p n a' l z)[H.length + 1]? = some ⟨35, 0, [.int .i64 z]⟩ := fun a' l z => by
    have := hp1 (H.set i (rA p n a')) [] ⟨65, 0, is l⟩ ⟨35, 0, [.int .i64 z]⟩
    rwa [List.length_set] at this
  have s4 : ∀ a' l z l', (tkH H i p n a' l z).set H.length ⟨65, 0, is l'⟩ = tkH H i p n a' l' z := fun a' l z l' => by
    have := hs0 (H.set i (rA p n a')) [⟨35, 0, [.int .i64 z]⟩] ⟨65, 0, is l⟩ ⟨65, 0, is l'⟩
    rwa [List.length_set] at this
  have s5 : ∀ a' l z z', (tkH H i p n a' l z).set (H.length + 1) ⟨35, 0, [.int .i64 z']⟩ = tkH H i p n a' l z' := fun a' l z z' => by
    have := hs1 (H.set i (rA p n a')) [] ⟨65, 0, is l⟩ ⟨35, 0, [.int .i64 z]⟩ ⟨35, 0, [.int .i64 z']⟩
    rwa [List.length_set] at this
  have hz : (is z64).length = 64 := by rw [is_len]; simp [z64]
  have hsl : ∀ a', H.length = (H.set i (rA p n a')).length := fun a' => by simp
  refine wp_seq ?_
  cases hr : tkBl p n fr a with
  | ok l a' =>
    have rd := read_ok i p n a fr a' l (tkH H i p n a z64 0) g0 ha hn hp hfr hr
    rw [htk] at rd
    have hll : l.length = 64 := by
      have := (tkB_b _ _ _ _ hr ha).2.2
      simpa [z64] using this
    have hil : (is l).length = 64 := by rw [is_len, hll]
    have htl : List.take 64 (is l) = is l := List.take_of_length_le (by omega)
    have hcl := is_cell l
    have hdz : List.drop 64 (is z64) = [] := List.drop_of_length_le (by omega)
    refine wp_region_cut 5 rfl (K := fun F' H' => kp [4, 5] F' = [(4, .ptr H.length 0 0), (5, .ptr (H.length + 1) 0 0)] ∧ H' = tkH H i p n a' l 0) ?_ (D := [⟨.fn (.func 106) #[x, y], #[]⟩]) (by simp [Act.put, r2]) r3 t2 ?_
    · simp (disch:=omega) only [go_sem, ↓reduceIte]
      refine VCx.call (rd) rfl ?_; simp (disch:=omega) only [go_sem, ↓reduceIte, h4, h5, s4, s5, hil, hz, hdz]
    intro C3 F3 H3 a3 w3 q1 q2 q3 q4 q5 ⟨q6, q7⟩
    subst q7
    have q5' := q5.keep [4, 5]
    rw [q6] at q5'
    refine wp_ret ?_
    show Leaves _ _ _ _ _ _ _
    rw [q2]
    refine leaves_cons (by simp) (by kernel_rfl) ((catch_idle x y w3).mono ?_)
    rintro _ _ _ ⟨rfl, rfl, rfl⟩
    obtain ⟨u, u1, u2⟩ := presults_sound (P := Tryz.prog) (fn := Tryz.f92) (v := .tup [.agg (is l), .int .i64 0]) q3 q5' (by simp (disch:=omega) only [go_sem, ↓reduceIte, presults, presult, List.mapM_cons, List.mapM_nil, Option.pure_def, Option.bind_eq_bind, Tryz.results92, h4, h5, hil, htl])
    obtain ⟨C', d1, d2, d3⟩ := WRel.dropV hw (hsl a') (hhsc a') (cB1.trans q1) q3 u1 (rvB_sc _ (.ok l a'))
    exact ⟨u, u2, C', u, d1, d2, bB1.trans (by rw [← cB1.B]; exact q4), rfl, d3⟩
  | er e a' =>
    have rd := read_pan i p n a fr e a' (tkH H i p n a z64 0) g0 ha hn hp hfr hr
    rw [htk] at rd
    refine wp_region_cut 2 rfl (K := fun F' H' => kp [4, 5, 15, 16] F' = [(4, .ptr H.length 0 0), (5, .ptr (H.length + 1) 0 0), (15, .ptr i 0 0), (16, .int .i64 (fr : Int))] ∧ H' = tkH H i p n a z64 0) ?_ (D := [⟨.fn (.func 106) #[x, y], #[]⟩]) (by simp [Act.put, r2]) r3 t2 ?_
    · simp (disch:=omega) only [go_sem]
    intro C3 F3 H3 a3 w3 q1 q2 q3 q4 q5 ⟨q6, q7⟩
    subst q7
    have q5' := q5.keep [4, 5, 15, 16]
    rw [q6] at q5'
    show wpList _ _ _ (_ :: _) _ _
    unfold wpList
    rw [if_pos (by kernel_rfl)]
    left
    refine execPan_sound q3 q5' (by simp (disch:=omega) only [go_sem, pcallee]) rd _ _ fun C4 w4 y1 y2 y3 y4 => ?_
    show Leaves _ _ _ _ _ _ _
    rw [q2]
    have hx4 := hx.mono (q1.trans y1)
    have hy4 := hy.mono (q1.trans y1)
    have cp := catch_pan H.length (H.length + 1) e z64 0 (tkH H i p n a' z64 0) C4 x y w4 (h4 _ _ _) (h5 _ _ _) (by simp [z64]) (by omega) y2 hx4 hy4
    rw [s4, s5] at cp
    refine leaves_cons (by simp) (by kernel_rfl) (cp.mono ?_)
    rintro _ _ w5 ⟨rfl, rfl, C5, v1, v2, v3⟩
    have htl : List.take 64 (is z64) = is z64 := List.take_of_length_le (by omega)
    obtain ⟨u, u1, u2⟩ := presults_sound (P := Tryz.prog) (fn := Tryz.f92) (v := .tup [.agg (is z64), .int .i64 ((e : Int) + 1)]) v2 (y4.mono v1) (by simp (disch:=omega) only [go_sem, ↓reduceIte, presults, presult, List.mapM_cons, List.mapM_nil, Option.pure_def, Option.bind_eq_bind, Tryz.results92, h4, h5, hz, htl])
    have c3 := (cB1.trans q1).trans y1
    obtain ⟨C', d1, d2, d3⟩ := WRel.dropV hw (hsl a') (hhsc a') (c3.trans v1) v2 u1 (rvB_sc _ (.er e a'))
    have b2 := bB1.trans (by rw [← cB1.B]; exact q4)
    have b3 := b2.trans (by rw [← (cB1.trans q1).B]; exact y3)
    exact ⟨u, u2, C', u, d1, d2, b3.trans (by rw [← c3.B]; exact v3), rfl, d3⟩
end Go.Proofs.YthmladiijdlgkaaGreat.Sc

namespace Go.Proofs.YthmladiijdlgkaaGreat.Sc
set_option linter.all false
set_option linter.unusedVariables false
set_option linter.unusedSimpArgs false
open Pm Ty Go.RowKit
def tkF (q : List UInt8) (n a : Nat) : Rr Bool := if a < n then .ok (decide (ubit q a = 1)) (a + 1) else .er 3 a
def tkD (q : List UInt8) (n : Nat) (pr : Int) (most : Nat) (a : Nat) : Rr Int := (tkS q n a).bind fun d a1 => if win (pr + d) most then .ok (pr + d) a1 else .er 2 a1
def setSl (m : Mb) (d k : Nat) (x : Int) : Mb := if d = 0 then (if k = 0 then { m with sa := x } else { m with sb := x }) else (if k = 0 then { m with sc := x } else { m with sd := x })
def setVm (m : Mb) (d k : Nat) (x y : Int) : Mb := if d = 0 then (if k = 0 then { m with va := x, vb := y } else { m with vc := x, vd := y }) else (if k = 0 then { m with ve := x, vf := y } else { m with vg := x, vh := y })
def setCd (m : Mb) (n : Nat) (b : Bool) : Mb := if n = 0 then { m with ca := b } else if n = 1 then { m with cb := b } else if n = 2 then { m with cc := b } else if n = 3 then { m with cd := b } else if n = 4 then { m with ce := b } else { m with cf := b }
def setLv (m : Mb) (n : Nat) (l : List Int) : Mb := { m with lv := m.lv.take (n * 64) ++ l ++ m.lv.drop (n * 64 + 64) }
def inMb : Mb := ⟨1, false, false, false, false, 0, 0, 0, 0, 0, 0, 0, 0, 0, 0, 0, 0, 0, true, true, true, true, true, true, zl384⟩
def peMb (v : Nat) : Mb := ⟨2, decide (v ≤ 2) || decide (5 ≤ v), decide (3 ≤ v), false, false, 0, 0, 0, 0, 0, 0, 0, 0, 0, 0, 0, 0, 0, false, false, false, false, false, false, zl384⟩
def tkKd (c : Cx) (q : List UInt8) (n a : Nat) : Rr (Mb × Bool) :=
  if c.t = 1 then .ok (inMb, true) a else (tkU q n a).bind fun v a1 => if (if c.t = 2 then 3 else 7) < v then .er 2 a1 else if v = (if c.t = 2 then 3 else 7) then .ok (inMb, true) a1 else if v = 0 then .ok (zMb, false) a1 else .ok (peMb v, decide (v % 2 = 0)) a1
def tkVc (c : Cx) (q : List UInt8) (n : Nat) (m : Mb) (s : St) (d k a : Nat) : Rr (Mb × St) :=
  (if m.fp || fcx c then (tkF q n a).bind fun b a1 => .ok (setSl m d k (b.toNat : Int)) a1 else .ok m a).bind fun m a1 =>
  (tkD q n (sXs s d) 63 a1).bind fun x a2 => (tkD q n (sYs s d) 63 a2).bind fun y a3 => .ok (setVm m d k x y, setV s d x y) a3
def tkVs (c : Cx) (q : List UInt8) (n d : Nat) : Nat → Nat → Mb → St → Nat → Rr (Mb × St)
  | 0, _, m, s, a => .ok (m, s) a
  | r + 1, k, m, s, a => (tkVc c q n m s d k a).bind fun x a1 => tkVs c q n d r (k + 1) x.1 x.2 a1
def tkDr (c : Cx) (q : List UInt8) (n : Nat) (m : Mb) (s : St) (d a : Nat) : Rr (Mb × St) := if usd m d then tkVs c q n d (nvM m) 0 m s a else .ok (m, s) a
def tkDs (c : Cx) (q : List UInt8) (n : Nat) : Nat → Nat → Mb → St → Nat → Rr (Mb × St)
  | 0, _, m, s, a => .ok (m, s) a
  | r + 1, d, m, s, a => (tkDr c q n m s d a).bind fun x a1 => tkDs c q n r (d + 1) x.1 x.2 a1
def tkPr (c : Cx) (q : List UInt8) (n : Nat) (m : Mb) (s : St) (a : Nat) : Rr (Mb × St) :=
  if m.k = 2 then (if bcx c then (tkF q n a).bind fun b a1 => .ok { m with fp := b } a1 else .ok m a).bind fun m a1 => tkDs c q n 2 0 m s a1 else .ok (m, s) a
def tkCh (c : Cx) (q : List UInt8) (n : Nat) (hl : Bool) (m : Mb) (s : St) (a : Nat) : Rr (Mb × St) :=
  if hl then (if bcx c then (tkF q n a).bind fun b a1 => .ok { m with fd := b } a1 else .ok m a).bind fun m a1 =>
    (tkS q n a1).bind fun d a2 => if vqB (s.q + d) then .ok ({ m with dl := d }, { s with q := s.q + d }) a2 else .er 2 a2 else .ok (m, s) a
def tkCf (q : List UInt8) (n : Nat) : Nat → Mb → Nat → Rr Mb
  | 0, m, a => if anyC m then .ok m a else .er 2 a
  | r + 1, m, a => (tkF q n a).bind fun b a1 => tkCf q n r (setCd m (5 - r) b) a1
def tkCo (q : List UInt8) (n : Nat) (hl : Bool) (m : Mb) (a : Nat) : Rr Mb := if decide (m.k = 2) && hl then tkCf q n 6 m a else .ok m a
def tkLv (q : List UInt8) (n : Nat) : Nat → Mb → St → Nat → Rr (Mb × St)
  | 0, m, s, a => .ok (m, s) a
  | r + 1, m, s, a => if flagAt (cdl m) (5 - r) then
      (if m.k = 2 then (tkBl q n 0 a).bind fun l a1 => if l = z64 then .er 2 a1 else tkLv q n r (setLv m (5 - r) l) s a1
       else (tkD q n (dcS s (5 - r - 3)) 4095 a).bind fun d a1 => (tkBl q n 1 a1).bind fun l a2 => tkLv q n r (setLv m (5 - r) (l.set 0 d)) (setD s (5 - r - 3) d) a2) else tkLv q n r m s a
def tkRs (c : Cx) (q : List UInt8) (n : Nat) (hl : Bool) (m : Mb) (s : St) (a : Nat) : Rr (Mb × St) :=
  (tkPr c q n m s a).bind fun y a2 => (tkCh c q n hl y.1 y.2 a2).bind fun z a3 => (tkCo q n hl z.1 a3).bind fun m a4 => (tkLv q n 6 m z.2 a4).bind fun w a5 => .ok (w.1, aft w.2 w.1.k) a5
def mtk (c : Cx) (s : St) (q : List UInt8) (n a : Nat) : Rr (Mb × St) := (tkKd c q n a).bind fun x a1 => tkRs c q n x.2 x.1 s a1
theorem tkF_b {q : List UInt8} {n a a1 : Nat} {b : Bool} (h : tkF q n a = .ok b a1) : a1 = a + 1 ∧ a < n ∧ b = decide (ubit q a = 1) := by
  unfold tkF at h
  split at h
  · injection h with h1 h2; exact ⟨h2.symm, by assumption, h1.symm⟩
  · cases h
theorem tkF_e {q : List UInt8} {n a e a1 : Nat} (h : tkF q n a = .er e a1) : a1 = a ∧ e = 3 ∧ n ≤ a := by
  unfold tkF at h
  split at h
  · cases h
  · injection h with h1 h2; omega
theorem tkD_b {q : List UInt8} {n a a1 most : Nat} {pr v : Int} (h : tkD q n pr most a = .ok v a1) (ha : a ≤ n) : (-(most : Int) ≤ v ∧ v ≤ most) ∧ a ≤ a1 ∧ a1 ≤ n := by
  unfold tkD at h
  cases hs : tkS q n a with
  | er e a2 => rw [hs] at h; cases h
  | ok d a2 =>
    rw [hs, Rr.bind_ok] at h
    have b := tkS_b hs ha
    split at h
    · rename_i hw
      injection h with h1 h2
      subst h1 h2
      exact ⟨win_b hw, by omega, b.2.2⟩
    · cases h
theorem tkD_e {q : List UInt8} {n a a1 e most : Nat} {pr : Int} (h : tkD q n pr most a = .er e a1) (ha : a ≤ n) : a ≤ a1 ∧ a1 ≤ n ∧ e ≤ 3 := by
  unfold tkD at h
  cases hs : tkS q n a with
  | er e2 a2 =>
    rw [hs] at h
    have := tkS_e hs
    injection h with h1 h2
    omega
  | ok d a2 =>
    rw [hs, Rr.bind_ok] at h
    have b := tkS_b hs ha
    split at h
    · cases h
    · injection h with h1 h2; omega
def tC (s : St) (w : Nat) (c : Cx) (mi : Nat) (hl : Bool) : List PV := [.int .i64 s.q, .int .i64 s.da, .int .i64 s.db, .int .i64 s.dc, .int .i64 s.va, .int .i64 s.vb, .int .i64 s.vc, .int .i64 s.vd, .ptr w 0 0, .int .i64 c.t, .int .i64 c.s, .bool c.i, .bool c.n, .ptr mi 0 0, .bool hl]
def tB (s : St) (w : Nat) (c : Cx) (mi : Nat) (hl : Bool) : Blk := ⟨118, 0, tC s w c mi hl⟩
theorem tB_v (s : St) (w : Nat) (c : Cx) (mi : Nat) (hl : Bool) : (tB s w c mi hl).ver = 0 := rfl
theorem tB_c (s : St) (w : Nat) (c : Cx) (mi : Nat) (hl : Bool) : (tB s w c mi hl).cells = tC s w c mi hl := rfl
theorem tB_e (s : St) (w : Nat) (c : Cx) (mi : Nat) (hl : Bool) : (tB s w c mi hl).e = 118 := rfl
theorem mB_v (m : Mb) : (mB m).ver = 0 := rfl
theorem mB_c (m : Mb) : (mB m).cells = mbc m := rfl
theorem mB_e (m : Mb) : (mB m).e = 68 := rfl
def tG (H : Heap) (i : Nat) (p : List UInt8) (n a : Nat) (X : Heap) (B4 B5 : Blk) : Heap := H.set i (rA p n a) ++ (X ++ [B4, B5])
section
variable (H : Heap) (i : Nat) (p : List UInt8) (n a : Nat) (X : Heap) (B4 B5 : Blk)
theorem tG_i (hi : i < H.length) : (tG H i p n a X B4 B5)[i]? = some (rA p n a) := by
  unfold tG; rw [List.getElem?_append_left (by simpa using hi)]; simp [hi]
theorem tG_si (hi : i < H.length) (a' : Nat) : (tG H i p n a X B4 B5).set i (rA p n a') = tG H i p n a' X B4 B5 := by
  unfold tG; rw [List.set_append_left _ _ (by simpa using hi), List.set_set]
theorem tG_4 (hX : X.length = 4) : (tG H i p n a X B4 B5)[H.length + 4]? = some B4 := by
  unfold tG
  rw [List.getElem?_append_right (by simp), List.length_set, show H.length + 4 - H.length = 4 by omega, List.getElem?_append_right (by omega), hX]; rfl
theorem tG_5 (hX : X.length = 4) : (tG H i p n a X B4 B5)[H.length + 5]? = some B5 := by
  unfold tG
  rw [List.getElem?_append_right (by simp), List.length_set, show H.length + 5 - H.length = 5 by omega, List.getElem?_append_right (by omega), hX]; rfl
theorem tG_s4 (hX : X.length = 4) (B : Blk) : (tG H i p n a X B4 B5).set (H.length + 4) B = tG H i p n a X B B5 := by
  unfold tG
  rw [List.set_append_right _ _ (by simp), List.length_set, show H.length + 4 - H.length = 4 by omega, List.set_append_right _ _ (by omega), hX]; rfl
theorem tG_s5 (hX : X.length = 4) (B : Blk) : (tG H i p n a X B4 B5).set (H.length + 5) B = tG H i p n a X B4 B := by
  unfold tG
  rw [List.set_append_right _ _ (by simp), List.length_set, show H.length + 5 - H.length = 5 by omega, List.set_append_right _ _ (by omega), hX]; rfl
end
def rvF : Rr Bool → PV
  | .ok b _ => .tup [.bool b, .int .i64 0]
  | .er e _ => .tup [.bool false, .int .i64 ((e : Int) + 1)]
section
variable (H : Heap) (i : Nat) (p : List UInt8) (n a : Nat) (X : Heap) (B4 : Blk) (c : Cx) (s : St) (hl : Bool) (hi : i < H.length) (hX : X.length = 4) (ha : a ≤ n) (hn : n ≤ 8 * p.length) (hp : p.length ≤ 100000000)
include hi hX ha hn hp
theorem tdist_ok (pr : Int) (most : Nat) (hm : most ≤ 4095) (hpr : -4095 ≤ pr ∧ pr ≤ 4095) : CallOk Tryz.prog 93 [.ptr (H.length + 5) 0 0, .int .i64 pr, .int .i64 (most : Int)] (tG H i p n a X B4 (tB s i c (H.length + 4) hl)) (rvS (tkD p n pr most a)) (tG H i p n (tkD p n pr most a).at X B4 (tB s i c (H.length + 4) hl)) := by
  have g5 := fun a => tG_5 H i p n a X B4 (tB s i c (H.length + 4) hl) hX
  have gi := tG_i H i p n a X B4 (tB s i c (H.length + 4) hl) hi
  have pc8 : (tC s i c (H.length + 4) hl)[8]? = some (.ptr i 0 0) := rfl
  have t := tks_ok i p n a _ gi ha hn hp
  have wo := fun x K => win_ok x most K (by omega)
  rw [tG_si _ _ _ _ _ _ _ _ hi] at t
  unfold tkD
  cases hs : tkS p n a with
  | er e a1 =>
    rw [hs] at t
    simp only [Rr.bind, rvS, Rr.at] at t ⊢
    have he := (tkS_e hs).2
    have d0 : ((e : Int) + 1 != 0) = true := by simp; omega
    generalize tG H i p n a1 X B4 (tB s i c (H.length + 4) hl) = Hz at *
    refine CallOk.body (F0 := [(0, .ptr (H.length + 5) 0 0), (1, .int .i64 pr), (2, .int .i64 (most : Int))]) Tryz.func93 rfl Tryz.ntmps93 Tryz.results93 rfl (by kernel_rfl) rfl ?_
    (repeat refine PW.seq ?_); refine PW.rg rfl fun K hK => ?_; simp (disch:=omega) only [go_sem]; refine hK _ _ ?_; clear hK K
    (repeat refine PW.seq ?_); refine PW.rg rfl fun K hK => ?_; simp (disch:=omega) only [go_sem, ↓reduceIte, g5, tB_v, tB_c, pc8]; refine VCx.call (t) rfl ?_; simp (disch:=omega) only [go_sem]; refine hK _ _ ?_; clear hK K
    (repeat refine PW.seq ?_); refine PW.rg rfl fun K hK => ?_; simp (disch:=omega) only [go_sem, ↓reduceIte, d0]; refine hK _ _ ?_; clear hK K
    (repeat refine PW.seq ?_); refine PW.cond (t := _) rfl (fun h => ?_) (fun h => ?_)
    rotate_left
    · cases h
    (repeat refine PW.seq ?_); refine PW.rg rfl fun K hK => ?_; simp (disch:=omega) only [go_sem]; refine hK _ _ ?_; clear hK K
    exact PW.ret ⟨_, rfl, Fin.now⟩
  | ok d a1 =>
    rw [hs] at t
    have b := (tkS_b hs ha).1
    simp only [rvS, Rr.at] at t
    have wd := fun K => wo (pr + d) K
    refine CallOk.body (F0 := [(0, .ptr (H.length + 5) 0 0), (1, .int .i64 pr), (2, .int .i64 (most : Int))]) Tryz.func93 rfl Tryz.ntmps93 Tryz.results93 rfl (by kernel_rfl) rfl ?_
    (repeat refine PW.seq ?_); refine PW.rg rfl fun K hK => ?_; simp (disch:=omega) only [go_sem]; refine hK _ _ ?_; clear hK K
    (repeat refine PW.seq ?_); refine PW.rg rfl fun K hK => ?_; simp (disch:=omega) only [go_sem, ↓reduceIte, g5, tB_v, tB_c, pc8]; refine VCx.call (t) rfl ?_; simp (disch:=omega) only [go_sem]; refine hK _ _ ?_; clear hK K
    (repeat refine PW.seq ?_); refine PW.rg rfl fun K hK => ?_; simp (disch:=omega) only [go_sem, ↓reduceIte]; refine hK _ _ ?_; clear hK K
    (repeat refine PW.seq ?_); refine PW.cond (t := _) rfl (fun h => ?_) (fun h => ?_)
    · cases h
    refine PW.skip ?_
    simp only [Rr.bind]
    cases hw : win (pr + d) most with
    | true =>
      rw [hw] at wd
      (repeat refine PW.seq ?_); refine PW.rg rfl fun K hK => ?_; simp (disch:=omega) only [go_sem, ↓reduceIte]
      refine VCx.call (wd _) rfl ?_; simp (disch:=omega) only [go_sem]; refine hK _ _ ?_; clear hK K
      (repeat refine PW.seq ?_); refine PW.cond (t := _) rfl (fun h => ?_) (fun h => ?_)
      · cases h
      refine PW.skip ?_
      (repeat refine PW.seq ?_); refine PW.rg rfl fun K hK => ?_; simp (disch:=omega) only [go_sem, ↓reduceIte]; refine hK _ _ ?_; clear hK K
      exact PW.ret ⟨_, rfl, Fin.now⟩
    | false =>
      rw [hw] at wd
      (repeat refine PW.seq ?_); refine PW.rg rfl fun K hK => ?_; simp (disch:=omega) only [go_sem, ↓reduceIte]
      refine VCx.call (wd _) rfl ?_; simp (disch:=omega) only [go_sem]; refine hK _ _ ?_; clear hK K
      (repeat refine PW.seq ?_); refine PW.cond (t := _) rfl (fun h => ?_) (fun h => ?_)
      rotate_left
      · cases h
      (repeat refine PW.seq ?_); refine PW.rg rfl fun K hK => ?_; simp (disch:=omega) only [go_sem]; refine hK _ _ ?_; clear hK K
      exact PW.ret ⟨_, rfl, Fin.now⟩
end
end Go.Proofs.YthmladiijdlgkaaGreat.Sc

namespace Go.Proofs.YthmladiijdlgkaaGreat.Sc
set_option linter.all false
set_option linter.unusedVariables false
set_option linter.unusedSimpArgs false
open Pm Ty Go.RowKit
theorem mbc_sk (m : Mb) (x : Int) : (mbc m).set 0 (.int .i64 x) = mbc { m with k := x } := rfl
theorem mbc_su (m : Mb) (x y : Bool) : List.take 1 (mbc m) ++ .bool x :: .bool y :: List.drop 3 (mbc m) = mbc { m with ua := x, ub := y } := rfl
theorem mbc_sc6 (m : Mb) (b0 b1 b2 b3 b4 b5 : Bool) : List.take 18 (mbc m) ++ .bool b0 :: .bool b1 :: .bool b2 :: .bool b3 :: .bool b4 :: .bool b5 :: List.drop 24 (mbc m) = mbc { m with ca := b0, cb := b1, cc := b2, cd := b3, ce := b4, cf := b5 } := rfl
theorem mB_of (m : Mb) : (⟨68, 0, mbc m⟩ : Blk) = mB m := rfl
theorem tB_of (s : St) (w : Nat) (c : Cx) (mi : Nat) (hl : Bool) : (⟨118, 0, tC s w c mi hl⟩ : Blk) = tB s w c mi hl := rfl
theorem tC_sh (s : St) (w : Nat) (c : Cx) (mi : Nat) (hl b : Bool) : (tC s w c mi hl).set 14 (.bool b) = tC s w c mi b := rfl
theorem tC_mi (s : St) (w : Nat) (c : Cx) (mi : Nat) (hl : Bool) : (tC s w c mi hl)[13]? = some (.ptr mi 0 0) := rfl
theorem tC_w (s : St) (w : Nat) (c : Cx) (mi : Nat) (hl : Bool) : (tC s w c mi hl)[8]? = some (.ptr w 0 0) := rfl
theorem tC_t (s : St) (w : Nat) (c : Cx) (mi : Nat) (hl : Bool) : (tC s w c mi hl)[9]? = some (.int .i64 c.t) := rfl
theorem tC_c (s : St) (w : Nat) (c : Cx) (mi : Nat) (hl : Bool) : List.take 4 (List.drop 9 (tC s w c mi hl)) = cxc c := rfl
theorem tC_hl (s : St) (w : Nat) (c : Cx) (mi : Nat) (hl : Bool) : (tC s w c mi hl)[14]? = some (.bool hl) := rfl
theorem tC_len (s : St) (w : Nat) (c : Cx) (mi : Nat) (hl : Bool) : (tC s w c mi hl).length = 15 := rfl
theorem allb_ok (H : Heap) : CallOk Tryz.prog 62 [] H (.agg [.bool true, .bool true, .bool true, .bool true, .bool true, .bool true]) H := by
  refine CallOk.body (F0 := []) Tryz.func62 rfl Tryz.ntmps62 Tryz.results62 rfl (by kernel_rfl) rfl ?_
  (repeat refine PW.seq ?_); refine PW.rg rfl fun K hK => ?_; simp (disch:=omega) only [go_sem]; refine hK _ _ ?_; clear hK K
  (repeat refine PW.seq ?_); refine PW.rg rfl fun K hK => ?_; simp (disch:=omega) only [go_sem, ↓reduceIte]; refine hK _ _ ?_; clear hK K
  refine PW.ret ⟨.agg [.bool true, .bool true, .bool true, .bool true, .bool true, .bool true], by simp (disch:=omega) only [go_sem, ↓reduceIte, presults, presult], ?_⟩
  exact Fin.base (.id (ag_scoped (fs_scoped _ [true, true, true, true, true, true])))
section
variable (H : Heap) (i : Nat) (p : List UInt8) (n a : Nat) (X : Heap) (c : Cx) (s : St) (hl : Bool) (hX : X.length = 4)
include hX
theorem tintra_ok (m : Mb) (hml : m.lv.length = 384) : CallOk Tryz.prog 87 [.ptr (H.length + 5) 0 0] (tG H i p n a X (mB m) (tB s i c (H.length + 4) hl)) (.tup []) (tG H i p n a X (mB { m with k := 1, ca := true, cb := true, cc := true, cd := true, ce := true, cf := true }) (tB s i c (H.length + 4) true)) := by
  have g5 := fun B4 B5 => tG_5 H i p n a X B4 B5 hX
  have g4 := fun B4 B5 => tG_4 H i p n a X B4 B5 hX
  have s5 := fun B4 B5 B => tG_s5 H i p n a X B4 B5 hX B
  have s4 := fun B4 B5 B => tG_s4 H i p n a X B4 B5 hX B
  have hlen := mbc_len m hml
  have al := fun K => allb_ok K
  refine CallOk.body (F0 := [(0, .ptr (H.length + 5) 0 0)]) Tryz.func87 rfl Tryz.ntmps87 Tryz.results87 rfl (by kernel_rfl) rfl ?_
  (repeat refine PW.seq ?_); refine PW.rg rfl fun K hK => ?_; simp (disch:=omega) only [go_sem, ↓reduceIte, g5, g4, s4, tB_v, tB_c, tC_mi, mB_v, mB_c, mB_e, mbc_sk, mB_of, hlen]; refine hK _ _ ?_; clear hK K
  have hlen2 := mbc_len { m with k := 1 } hml
  (repeat refine PW.seq ?_); refine PW.draw mix (by kernel_rfl) fun K hK => ?_; simp (disch:=omega) only [go_sem, ↓reduceIte, g5, g4, tB_v, tB_c, tC_mi, mB_v, mB_c, hlen2]
  refine VCy.callP al rfl ?_; simp (disch:=omega) only [go_sem, ↓reduceIte, g4, s4, mB_v, mB_c, mB_e, mB_of, hlen2, mbc_sc6, Nat.reduceAdd]; refine hK _ _ ?_; clear hK K
  (repeat refine PW.seq ?_); refine PW.rg rfl fun K hK => ?_; simp (disch:=omega) only [go_sem, ↓reduceIte, g5, s5, tB_v, tB_c, tB_e, tC_sh, tC_len, tB_of]; refine hK _ _ ?_; clear hK K
  exact Exists.intro _ (And.intro rfl Fin.now)
end
def ecd : Nat → PV := fun e => .int .i64 ((e : Int) + 1)
theorem zl384_len : zl384.length = 384 := by unfold zl384; exact List.length_replicate
section
variable (H : Heap) (i : Nat) (p : List UInt8) (n a : Nat) (X : Heap) (c : Cx) (s : St) (hi : i < H.length) (hX : X.length = 4) (ha : a ≤ n) (hn : n ≤ 8 * p.length) (hp : p.length ≤ 100000000)
include hi hX ha hn hp
theorem tkind_ok : CallOk Tryz.prog 56 [.ptr (H.length + 5) 0 0] (tG H i p n a X (mB zMb) (tB s i c (H.length + 4) false))
    (match tkKd c p n a with | .ok _ _ => .int .i64 0 | .er e _ => ecd e)
    (match tkKd c p n a with | .ok x a1 => tG H i p n a1 X (mB x.1) (tB s i c (H.length + 4) x.2) | .er _ a1 => tG H i p n a1 X (mB zMb) (tB s i c (H.length + 4) false)) := by
  have g5 := fun a B4 B5 => tG_5 H i p n a X B4 B5 hX
  have g4 := fun a B4 B5 => tG_4 H i p n a X B4 B5 hX
  have s5 := fun a B4 B5 B => tG_s5 H i p n a X B4 B5 hX B
  have s4 := fun a B4 B5 B => tG_s4 H i p n a X B4 B5 hX B
  have ti := fun a => tintra_ok H i p n a X c s false hX zMb zl384_len
  have hzl := mbc_len zMb zl384_len
  refine CallOk.body (F0 := [(0, .ptr (H.length + 5) 0 0)]) Tryz.func56 rfl Tryz.ntmps56 Tryz.results56 rfl (by kernel_rfl) rfl ?_
  (repeat refine PW.seq ?_); refine PW.rg rfl fun K hK => ?_; simp (disch:=omega) only [go_sem]; refine hK _ _ ?_; clear hK K
  by_cases ht1 : c.t = 1
  · have q1 : (c.t == 1) = true := by simp [ht1]
    (repeat refine PW.seq ?_); refine PW.rg rfl fun K hK => ?_; simp (disch:=omega) only [go_sem, ↓reduceIte, g5, tB_v, tB_c, tC_t, q1]; refine hK _ _ ?_; clear hK K
    (repeat refine PW.seq ?_); refine PW.cond (t := _) rfl (fun h => ?_) (fun h => ?_)
    rotate_left
    · cases h
    (repeat refine PW.seq ?_); refine PW.rg rfl fun K hK => ?_; simp (disch:=omega) only [go_sem]; refine VCx.call (ti _) rfl ?_; simp (disch:=omega) only [go_sem]; refine hK _ _ ?_; clear hK K
    (repeat refine PW.seq ?_); refine PW.rg rfl fun K hK => ?_; simp (disch:=omega) only [go_sem]; refine hK _ _ ?_; clear hK K
    refine PW.ret ⟨_, rfl, ?_⟩
    have hk : tkKd c p n a = .ok (inMb, true) a := by unfold tkKd; rw [if_pos ht1]
    rw [hk]
    exact Fin.now
  have q1 : (c.t == 1) = false := by simp [ht1]
  have tu := tku_ok i p n a _ (tG_i H i p n a X (mB zMb) (tB s i c (H.length + 4) false) hi) ha hn hp
  rw [tG_si _ _ _ _ _ _ _ _ hi] at tu
  have hk : tkKd c p n a = (tkU p n a).bind fun v a1 => if (if c.t = 2 then 3 else 7) < v then .er 2 a1 else if v = (if c.t = 2 then 3 else 7) then .ok (inMb, true) a1 else if v = 0 then .ok (zMb, false) a1 else .ok (peMb v, decide (v % 2 = 0)) a1 := by unfold tkKd; rw [if_neg ht1]
  (repeat refine PW.seq ?_); refine PW.rg rfl fun K hK => ?_; simp (disch:=omega) only [go_sem, ↓reduceIte, g5, tB_v, tB_c, tC_t, q1]; refine hK _ _ ?_; clear hK K
  (repeat refine PW.seq ?_); refine PW.cond (t := _) rfl (fun h => ?_) (fun h => ?_)
  · cases h
  refine PW.skip ?_
  cases hu : tkU p n a with
  | er e a1 =>
    rw [hu] at tu hk
    rw [hk]
    simp only [rvU, Rr.at, Rr.bind] at tu ⊢
    have d0 : ((e : Int) + 1 != 0) = true := by simp; omega
    have he := (tkU_e hu).2
    (repeat refine PW.seq ?_); refine PW.rg rfl fun K hK => ?_; simp (disch:=omega) only [go_sem, ↓reduceIte, g5, tB_v, tB_c, tC_w]; refine VCx.call (tu) rfl ?_; simp (disch:=omega) only [go_sem]; refine hK _ _ ?_; clear hK K
    (repeat refine PW.seq ?_); refine PW.rg rfl fun K hK => ?_; simp (disch:=omega) only [go_sem, ↓reduceIte, d0]; refine hK _ _ ?_; clear hK K
    (repeat refine PW.seq ?_); refine PW.cond (t := _) rfl (fun h => ?_) (fun h => ?_)
    rotate_left
    · cases h
    (repeat refine PW.seq ?_); refine PW.rg rfl fun K hK => ?_; simp (disch:=omega) only [go_sem]; refine hK _ _ ?_; clear hK K
    exact PW.ret ⟨_, rfl, Fin.now⟩
  | ok v a1 =>
    have hb := tkU_b hu ha
    rw [hu] at tu hk
    rw [hk]
    simp only [rvU, Rr.at, Rr.bind] at tu ⊢
    clear hk hu
    (repeat refine PW.seq ?_); refine PW.rg rfl fun K hK => ?_; simp (disch:=omega) only [go_sem, ↓reduceIte, g5, tB_v, tB_c, tC_w]; refine VCx.call (tu) rfl ?_; simp (disch:=omega) only [go_sem]; refine hK _ _ ?_; clear hK K
    (repeat refine PW.seq ?_); refine PW.rg rfl fun K hK => ?_; simp (disch:=omega) only [go_sem, ↓reduceIte]; refine hK _ _ ?_; clear hK K
    (repeat refine PW.seq ?_); refine PW.cond (t := _) rfl (fun h => ?_) (fun h => ?_)
    · cases h
    refine PW.skip ?_
    (repeat refine PW.seq ?_); refine PW.rg rfl fun K hK => ?_; simp (disch:=omega) only [go_sem]; refine hK _ _ ?_; clear hK K
    refine PW.to [0, 3, 5] [(0, .ptr (H.length + 5) 0 0), (3, .int .i64 (v : Int)), (5, .int .i64 ((if c.t = 2 then 3 else 7 : Nat) : Int))] (tG H i p n a1 X (mB zMb) (tB s i c (H.length + 4) false)) ?_ ?_
    · by_cases ht2 : c.t = 2
      · have q2 : (c.t == 2) = true := by simp [ht2]
        rw [if_pos ht2]
        (repeat refine PW.seq ?_); refine PW.rg rfl fun K hK => ?_; simp (disch:=omega) only [go_sem, ↓reduceIte, g5, tB_v, tB_c, tC_t, q2]; refine hK _ _ ?_; clear hK K
        (repeat refine PW.seq ?_); refine PW.cond (t := _) rfl (fun h => ?_) (fun h => ?_)
        rotate_left
        · cases h
        (repeat refine PW.seq ?_); refine PW.rg rfl fun K hK => ?_; simp (disch:=omega) only [go_sem]; refine hK _ _ ?_; clear hK K
        exact ⟨rfl, rfl⟩
      · have q2 : (c.t == 2) = false := by simp [ht2]
        rw [if_neg ht2]
        (repeat refine PW.seq ?_); refine PW.rg rfl fun K hK => ?_; simp (disch:=omega) only [go_sem, ↓reduceIte, g5, tB_v, tB_c, tC_t, q2]; refine hK _ _ ?_; clear hK K
        (repeat refine PW.seq ?_); refine PW.cond (t := _) rfl (fun h => ?_) (fun h => ?_)
        · cases h
        exact PW.skip ⟨rfl, rfl⟩
    have hL : (if c.t = 2 then 3 else 7 : Nat) ≤ 7 := by split <;> omega
    have hL0 : 3 ≤ (if c.t = 2 then 3 else 7 : Nat) := by split <;> omega
    generalize (if c.t = 2 then 3 else 7 : Nat) = last at *
    (repeat refine PW.seq ?_); refine PW.block ?_
    by_cases h1 : last < v
    · have d1 : decide ((last : Int) < (v : Int)) = true := decide_eq_true (by omega)
      rw [if_pos h1]
      (repeat refine PW.seq ?_); refine PW.rg rfl fun K hK => ?_; simp (disch:=omega) only [go_sem, ↓reduceIte, d1]; refine hK _ _ ?_; clear hK K
      (repeat refine PW.seq ?_); refine PW.cond (t := _) rfl (fun h => ?_) (fun h => ?_)
      rotate_left
      · cases h
      (repeat refine PW.seq ?_); refine PW.rg rfl fun K hK => ?_; simp (disch:=omega) only [go_sem]; refine hK _ _ ?_; clear hK K
      exact PW.ret ⟨_, rfl, Fin.now⟩
    have d1 : decide ((last : Int) < (v : Int)) = false := decide_eq_false (by omega)
    rw [if_neg h1]
    (repeat refine PW.seq ?_); refine PW.rg rfl fun K hK => ?_; simp (disch:=omega) only [go_sem, ↓reduceIte, d1]; refine hK _ _ ?_; clear hK K
    (repeat refine PW.seq ?_); refine PW.cond (t := _) rfl (fun h => ?_) (fun h => ?_)
    · cases h
    by_cases h2 : v = last
    · have d2 : ((v : Int) == (last : Int)) = true := by simp [h2]
      rw [if_pos h2]
      (repeat refine PW.seq ?_); refine PW.rg rfl fun K hK => ?_; simp (disch:=omega) only [go_sem, ↓reduceIte, d2]; refine hK _ _ ?_; clear hK K
      (repeat refine PW.seq ?_); refine PW.cond (t := _) rfl (fun h => ?_) (fun h => ?_)
      rotate_left
      · cases h
      (repeat refine PW.seq ?_); refine PW.rg rfl fun K hK => ?_; simp (disch:=omega) only [go_sem]; refine VCx.call (ti _) rfl ?_; simp (disch:=omega) only [go_sem]; refine hK _ _ ?_; clear hK K
      (repeat refine PW.seq ?_); refine PW.rg rfl fun K hK => ?_; simp (disch:=omega) only [go_sem]; refine hK _ _ ?_; clear hK K
      exact PW.ret ⟨_, rfl, Fin.now⟩
    have d2 : ((v : Int) == (last : Int)) = false := by rw [beq_eq_false_iff_ne]; omega
    rw [if_neg h2]
    (repeat refine PW.seq ?_); refine PW.rg rfl fun K hK => ?_; simp (disch:=omega) only [go_sem, ↓reduceIte, d2]; refine hK _ _ ?_; clear hK K
    (repeat refine PW.seq ?_); refine PW.cond (t := _) rfl (fun h => ?_) (fun h => ?_)
    · cases h
    by_cases h3 : v = 0
    · have d3 : decide ((0 : Int) < (v : Int)) = false := decide_eq_false (by omega)
      rw [if_pos h3]
      (repeat refine PW.seq ?_); refine PW.rg rfl fun K hK => ?_; simp (disch:=omega) only [go_sem, ↓reduceIte, d3]; refine hK _ _ ?_; clear hK K
      (repeat refine PW.seq ?_); refine PW.cond (t := _) rfl (fun h => ?_) (fun h => ?_)
      · cases h
      refine PW.skip ?_
      (repeat refine PW.seq ?_); refine PW.rg rfl fun K hK => ?_; simp (disch:=omega) only [go_sem]; refine hK _ _ ?_; clear hK K
      exact PW.ret ⟨_, rfl, Fin.now⟩
    have d3 : decide ((0 : Int) < (v : Int)) = true := decide_eq_true (by omega)
    rw [if_neg h3]
    (repeat refine PW.seq ?_); refine PW.rg rfl fun K hK => ?_; simp (disch:=omega) only [go_sem, ↓reduceIte, d3]; refine hK _ _ ?_; clear hK K
    (repeat refine PW.seq ?_); refine PW.cond (t := _) rfl (fun h => ?_) (fun h => ?_)
    rotate_left
    · cases h
    have hv7 : v < 7 := by omega
    have h6 : v = 1 ∨ v = 2 ∨ v = 3 ∨ v = 4 ∨ v = 5 ∨ v = 6 := by omega
    have hm6 : mbc { zMb with k := 2 } = mbc { zMb with k := 2 } := rfl
    have hzl2 := mbc_len { zMb with k := 2 } zl384_len
    clear h1 h2 h3 d1 d2 d3 hb hL hL0 tu
    (repeat refine PW.seq ?_); refine PW.rg rfl fun K hK => ?_; simp (disch:=omega) only [go_sem, ↓reduceIte, g5, g4, s4, tB_v, tB_c, tC_mi, mB_v, mB_c, mB_e, mbc_sk, mB_of, hzl]; refine hK _ _ ?_; clear hK K
    rcases h6 with rfl | rfl | rfl | rfl | rfl | rfl
    all_goals
      (repeat refine PW.seq ?_); refine PW.rg rfl fun K hK => ?_; simp (disch:=omega) only [go_sem, ↓reduceIte, g5, g4, s4, tB_v, tB_c, tC_mi, mB_v, mB_c, mB_e, mbc_su, mB_of, hzl2, Nat.reduceAdd]; refine hK _ _ ?_; clear hK K
      (repeat refine PW.seq ?_); refine PW.rg rfl fun K hK => ?_; simp (disch:=omega) only [go_sem, ↓reduceIte, g5, s5, tB_v, tB_c, tB_e, tC_sh, tC_len, tB_of]; refine hK _ _ ?_; clear hK K
      (repeat refine PW.seq ?_); refine PW.rg rfl fun K hK => ?_; simp (disch:=omega) only [go_sem]; refine hK _ _ ?_; clear hK K
      exact PW.ret ⟨_, rfl, Fin.now⟩
end
end Go.Proofs.YthmladiijdlgkaaGreat.Sc

namespace Go.Proofs.YthmladiijdlgkaaGreat.Sc
set_option linter.all false
set_option linter.unusedVariables false
set_option linter.unusedSimpArgs false
open Pm Ty Go.RowKit

theorem tC_x (s : St) (w : Nat) (c : Cx) (mi : Nat) (hl : Bool) (d : Nat) (hd : d < 2) : (tC s w c mi hl)[4 + d * 2]? = some (.int .i64 (sXs s d)) := by
  have : d = 0 ∨ d = 1 := by omega
  rcases this with rfl | rfl <;> rfl
theorem tC_y (s : St) (w : Nat) (c : Cx) (mi : Nat) (hl : Bool) (d : Nat) (hd : d < 2) : (tC s w c mi hl)[4 + d * 2 + 1]? = some (.int .i64 (sYs s d)) := by
  have : d = 0 ∨ d = 1 := by omega
  rcases this with rfl | rfl <;> rfl
theorem tC_sx (s : St) (w : Nat) (c : Cx) (mi : Nat) (hl : Bool) (d : Nat) (hd : d < 2) (x : Int) : (tC s w c mi hl).set (4 + d * 2) (.int .i64 x) = tC (setV s d x (sYs s d)) w c mi hl := by
  have : d = 0 ∨ d = 1 := by omega
  rcases this with rfl | rfl <;> rfl
theorem tC_sy (s : St) (w : Nat) (c : Cx) (mi : Nat) (hl : Bool) (d : Nat) (hd : d < 2) (y : Int) : (tC s w c mi hl).set (4 + d * 2 + 1) (.int .i64 y) = tC (setV s d (sXs s d) y) w c mi hl := by
  have : d = 0 ∨ d = 1 := by omega
  rcases this with rfl | rfl <;> rfl
theorem tC_v (s : St) (w : Nat) (c : Cx) (mi : Nat) (hl : Bool) (d : Nat) (hd : d < 2) : List.take 2 (List.drop (4 + d * 2) (tC s w c mi hl)) = [.int .i64 (sXs s d), .int .i64 (sYs s d)] := by
  have : d = 0 ∨ d = 1 := by omega
  rcases this with rfl | rfl <;> rfl
theorem setV_y (s : St) (d : Nat) (x y z : Int) : setV (setV s d x y) d x z = setV s d x z := by unfold setV; split <;> rfl
theorem setV_X (s : St) (d : Nat) (x y : Int) : sXs (setV s d x y) d = x := by unfold setV sXs; split <;> rfl
theorem setV_Y (s : St) (d : Nat) (x y : Int) : sYs (setV s d x y) d = y := by unfold setV sYs; split <;> rfl
theorem mbc_ss (m : Mb) (d k : Nat) (hd : d < 2) (hk : k < 2) (x : Int) : (mbc m).set (13 + d * 2 + k) (.int .i64 x) = mbc (setSl m d k x) := by
  have h1 : d = 0 ∨ d = 1 := by omega
  have h2 : k = 0 ∨ k = 1 := by omega
  rcases h1 with rfl | rfl <;> rcases h2 with rfl | rfl <;> rfl
theorem mbc_sv (m : Mb) (d k : Nat) (hd : d < 2) (hk : k < 2) (x y : Int) : List.take (5 + d * 4 + k * 2) (mbc m) ++ .int .i64 x :: .int .i64 y :: List.drop (5 + d * 4 + k * 2 + (1 + 1)) (mbc m) = mbc (setVm m d k x y) := by
  have h1 : d = 0 ∨ d = 1 := by omega
  have h2 : k = 0 ∨ k = 1 := by omega
  rcases h1 with rfl | rfl <;> rcases h2 with rfl | rfl <;> rfl
theorem setSl_lv (m : Mb) (d k : Nat) (x : Int) : (setSl m d k x).lv = m.lv := by unfold setSl; split <;> split <;> rfl
theorem setVm_lv (m : Mb) (d k : Nat) (x y : Int) : (setVm m d k x y).lv = m.lv := by unfold setVm; split <;> split <;> rfl

/-- What a part leaves behind. -/
def prtR (H : Heap) (i : Nat) (p : List UInt8) (n : Nat) (X : Heap) (c : Cx) (hl : Bool) (x : Rr (Mb × St)) : PV → Heap → Prop := fun v H' =>
  match x with
  | .ok y a => v = .int .i64 0 ∧ H' = tG H i p n a X (mB y.1) (tB y.2 i c (H.length + 4) hl)
  | .er e _ => v = ecd e ∧ ∃ a m s, a ≤ n ∧ m.lv.length = 384 ∧ H' = tG H i p n a X (mB m) (tB s i c (H.length + 4) hl)

section
variable (H : Heap) (i : Nat) (p : List UInt8) (n : Nat) (X : Heap) (c : Cx) (hl : Bool) (hi : i < H.length) (hX : X.length = 4) (hn : n ≤ 8 * p.length) (hp : p.length ≤ 100000000)
include hi hX hn hp
set_option maxHeartbeats 2000000 in
theorem tvec_ok (m : Mb) (s : St) (d k a : Nat) (hd : d < 2) (hk : k < 2) (hml : m.lv.length = 384) (hs : vrS s) (ha : a ≤ n) : CallEx Tryz.prog 90 [.ptr (H.length + 5) 0 0, .int .i64 (d : Int), .int .i64 (k : Int)] (tG H i p n a X (mB m) (tB s i c (H.length + 4) hl)) (prtR H i p n X c hl (tkVc c p n m s d k a)) := by
  have g5 := fun a B4 B5 => tG_5 H i p n a X B4 B5 hX
  have g4 := fun a B4 B5 => tG_4 H i p n a X B4 B5 hX
  have s5 := fun a B4 B5 B => tG_s5 H i p n a X B4 B5 hX B
  have s4 := fun a B4 B5 B => tG_s4 H i p n a X B4 B5 hX B
  have gi := fun a B4 B5 => tG_i H i p n a X B4 B5 hi
  have si := fun a B4 B5 a' => tG_si H i p n a X B4 B5 hi a'
  have hlen := mbc_len m hml
  have se := sel_ok c m (H.length + 4) _ (g4 a (mB m) (tB s i c (H.length + 4) hl))
  have tx := fun s => tC_x s i c (H.length + 4) hl d hd
  have ty := fun s => tC_y s i c (H.length + 4) hl d hd
  have tsx := fun s => tC_sx s i c (H.length + 4) hl d hd
  have tsy := fun s => tC_sy s i c (H.length + 4) hl d hd
  have tv := fun s => tC_v s i c (H.length + 4) hl d hd
  generalize hres : tkVc c p n m s d k a = res
  unfold tkVc at hres
  refine CallEx.body (F0 := [(0, .ptr (H.length + 5) 0 0), (1, .int .i64 (d : Int)), (2, .int .i64 (k : Int))]) Tryz.func90 rfl Tryz.ntmps90 Tryz.results90 rfl (by kernel_rfl) rfl ?_
  (repeat refine PW.seq ?_); refine PW.rg rfl fun K hK => ?_; simp (maxSteps := 3000000) (disch := omega) only [go_sem]; refine hK _ _ ?_; clear hK K
  (repeat refine PW.seq ?_); refine PW.drawt [] [] mix (by kernel_rfl) fun K hK => ?_; simp (maxSteps := 3000000) (disch := omega) only [go_sem, ↓reduceIte, g5, tB_v, tB_c, tC_c, tC_mi, tC_len, Nat.reduceAdd, Nat.reduceLeDiff]
  refine VCj.now (se) rfl ?_; simp (maxSteps := 3000000) (disch := omega) only [go_sem]; refine hK _ _ ?_; clear hK K
  suffices hrest : ∀ (m : Mb) (a : Nat), m.lv.length = 384 → a ≤ n → ((tkD p n (sXs s d) 63 a).bind fun x a2 => (tkD p n (sYs s d) 63 a2).bind fun y a3 => .ok (setVm m d k x y, setV s d x y) a3) = res →
      PW Tryz.prog _ _ [(0, .ptr (H.length + 5) 0 0), (1, .int .i64 (d : Int)), (2, .int .i64 (k : Int))] (tG H i p n a X (mB m) (tB s i c (H.length + 4) hl)) _ by
    cases hsel : (m.fp || fcx c) with
    | false =>
      rw [hsel, if_neg (by decide), Rr.bind_ok] at hres
      (repeat refine PW.seq ?_); refine PW.cond (t := _) rfl (fun h => ?_) (fun h => ?_)
      · cases h
      refine PW.skip ?_
      exact PW.at [0, 1, 2] (hrest m a hml ha hres) rfl rfl
    | true =>
      rw [hsel, if_pos rfl] at hres
      (repeat refine PW.seq ?_); refine PW.cond (t := _) rfl (fun h => ?_) (fun h => ?_)
      rotate_left
      · cases h
      by_cases han : a < n
      · have hf : tkF p n a = .ok (decide (ubit p a = 1)) (a + 1) := by unfold tkF; rw [if_pos han]
        rw [hf, Rr.bind_ok, Rr.bind_ok] at hres
        have hub := ubit_lt p a
        have t := rtake_ok i p n a 1 _ (gi a (mB m) (tB s i c (H.length + 4) hl)) (by omega) hn hp (by omega)
        rw [si, show vl p a 1 = ubit p a by simp [vl]] at t
        have hbn : ((decide (ubit p a = 1)).toNat : Int) = (ubit p a : Int) := by
          have : ubit p a = 0 ∨ ubit p a = 1 := by omega
          rcases this with e | e <;> rw [e] <;> rfl
        rw [hbn] at hres
        have hst := mbc_ss m d k hd hk (ubit p a : Int)
        (repeat refine PW.seq ?_); refine PW.rg rfl fun K hK => ?_; simp (maxSteps := 3000000) (disch := omega) only [go_sem, ↓reduceIte, g5, tB_v, tB_c, tC_w]; refine VCx.call (t) rfl ?_; simp (maxSteps := 3000000) (disch := omega) only [go_sem]; refine hK _ _ ?_; clear hK K
        (repeat refine PW.seq ?_); refine PW.rg rfl fun K hK => ?_; simp (maxSteps := 3000000) (disch := omega) only [go_sem, ↓reduceIte]; refine hK _ _ ?_; clear hK K
        (repeat refine PW.seq ?_); refine PW.cond (t := _) rfl (fun h => ?_) (fun h => ?_)
        · cases h
        refine PW.skip ?_
        (repeat refine PW.seq ?_); refine PW.rg rfl fun K hK => ?_; simp (maxSteps := 3000000) (disch := omega) only [go_sem, ↓reduceIte, g5, g4, s4, tB_v, tB_c, tC_mi, mB_v, mB_c, mB_e, hlen, hst, mB_of]; refine hK _ _ ?_; clear hK K
        exact PW.at [0, 1, 2] (hrest _ (a + 1) (by rw [setSl_lv]; exact hml) (by omega) hres) rfl rfl
      · have hf : tkF p n a = .er 3 a := by unfold tkF; rw [if_neg han]
        rw [hf, Rr.bind_er, Rr.bind_er] at hres
        have t := rtake_short i p n a 1 _ (gi a (mB m) (tB s i c (H.length + 4) hl)) (by omega) (by omega) (by omega) (by omega)
        (repeat refine PW.seq ?_); refine PW.rg rfl fun K hK => ?_; simp (maxSteps := 3000000) (disch := omega) only [go_sem, ↓reduceIte, g5, tB_v, tB_c, tC_w]; refine VCx.call (t) rfl ?_; simp (maxSteps := 3000000) (disch := omega) only [go_sem]; refine hK _ _ ?_; clear hK K
        (repeat refine PW.seq ?_); refine PW.rg rfl fun K hK => ?_; simp (maxSteps := 3000000) (disch := omega) only [go_sem, ↓reduceIte]; refine hK _ _ ?_; clear hK K
        (repeat refine PW.seq ?_); refine PW.cond (t := _) rfl (fun h => ?_) (fun h => ?_)
        rotate_left
        · cases h
        (repeat refine PW.seq ?_); refine PW.rg rfl fun K hK => ?_; simp (maxSteps := 3000000) (disch := omega) only [go_sem]; refine hK _ _ ?_; clear hK K
        refine PW.ret ⟨_, rfl, .inl ?_⟩
        rw [← hres]
        exact ⟨rfl, a, m, s, ha, hml, rfl⟩
  clear hres ha hml hlen se
  intro m a hml ha hres
  have hlen := mbc_len m hml
  have hsd := hs d
  (repeat refine PW.seq ?_); refine PW.rg rfl fun K hK => ?_; simp (maxSteps := 3000000) (disch := omega) only [go_sem, ↓reduceIte, g5, tB_v]; refine hK _ _ ?_; clear hK K
  have t1 := tdist_ok H i p n a X (mB m) c s hl hi hX ha hn hp (sXs s d) 63 (by omega) (by omega)
  cases h1 : tkD p n (sXs s d) 63 a with
  | er e a1 =>
    have hb := tkD_e h1 ha
    rw [h1] at t1 hres
    simp only [rvS, Rr.at, Rr.bind] at t1 hres
    have d0 : ((e : Int) + 1 != 0) = true := by simp; omega
    (repeat refine PW.seq ?_); refine PW.rg rfl fun K hK => ?_; simp (maxSteps := 3000000) (disch := omega) only [go_sem, ↓reduceIte, g5, tB_v, tB_c, tx]; refine VCx.call (t1) rfl ?_; simp (maxSteps := 3000000) (disch := omega) only [go_sem, ↓reduceIte, g5, tB_v, tB_c, s5, tsx, tB_e, tB_of, tC_len]; refine hK _ _ ?_; clear hK K
    (repeat refine PW.seq ?_); refine PW.rg rfl fun K hK => ?_; simp (maxSteps := 3000000) (disch := omega) only [go_sem, ↓reduceIte, d0]; refine hK _ _ ?_; clear hK K
    (repeat refine PW.seq ?_); refine PW.cond (t := _) rfl (fun h => ?_) (fun h => ?_)
    rotate_left
    · cases h
    (repeat refine PW.seq ?_); refine PW.rg rfl fun K hK => ?_; simp (maxSteps := 3000000) (disch := omega) only [go_sem]; refine hK _ _ ?_; clear hK K
    refine PW.ret ⟨_, rfl, .inl ?_⟩
    rw [← hres]
    exact ⟨rfl, a1, m, _, hb.2.1, hml, rfl⟩
  | ok x a1 =>
    have hb := tkD_b h1 ha
    rw [h1] at t1 hres
    simp only [rvS, Rr.at] at t1
    rw [Rr.bind_ok] at hres
    (repeat refine PW.seq ?_); refine PW.rg rfl fun K hK => ?_; simp (maxSteps := 3000000) (disch := omega) only [go_sem, ↓reduceIte, g5, tB_v, tB_c, tx]; refine VCx.call (t1) rfl ?_; simp (maxSteps := 3000000) (disch := omega) only [go_sem, ↓reduceIte, g5, tB_v, tB_c, s5, tsx, tB_e, tB_of, tC_len]; refine hK _ _ ?_; clear hK K
    (repeat refine PW.seq ?_); refine PW.rg rfl fun K hK => ?_; simp (maxSteps := 3000000) (disch := omega) only [go_sem, ↓reduceIte]; refine hK _ _ ?_; clear hK K
    (repeat refine PW.seq ?_); refine PW.cond (t := _) rfl (fun h => ?_) (fun h => ?_)
    · cases h
    refine PW.skip ?_
    have t2 := tdist_ok H i p n a1 X (mB m) c (setV s d x (sYs s d)) hl hi hX hb.2.2 hn hp (sYs s d) 63 (by omega) (by omega)
    have ty2 := ty (setV s d x (sYs s d))
    rw [setV_Y] at ty2
    have tsy2 := tsy (setV s d x (sYs s d))
    rw [setV_X] at tsy2
    simp only [setV_y] at tsy2
    cases h2 : tkD p n (sYs s d) 63 a1 with
    | er e a2 =>
      have hb2 := tkD_e h2 hb.2.2
      rw [h2] at t2 hres
      simp only [rvS, Rr.at, Rr.bind] at t2 hres
      have d0 : ((e : Int) + 1 != 0) = true := by simp; omega
      (repeat refine PW.seq ?_); refine PW.rg rfl fun K hK => ?_; simp (maxSteps := 3000000) (disch := omega) only [go_sem, ↓reduceIte, g5, tB_v, tB_c, ty2]; refine VCx.call (t2) rfl ?_; simp (maxSteps := 3000000) (disch := omega) only [go_sem, ↓reduceIte, g5, tB_v, tB_c, s5, tsy2, tB_e, tB_of, tC_len]; refine hK _ _ ?_; clear hK K
      (repeat refine PW.seq ?_); refine PW.rg rfl fun K hK => ?_; simp (maxSteps := 3000000) (disch := omega) only [go_sem, ↓reduceIte, d0]; refine hK _ _ ?_; clear hK K
      (repeat refine PW.seq ?_); refine PW.cond (t := _) rfl (fun h => ?_) (fun h => ?_)
      rotate_left
      · cases h
      (repeat refine PW.seq ?_); refine PW.rg rfl fun K hK => ?_; simp (maxSteps := 3000000) (disch := omega) only [go_sem]; refine hK _ _ ?_; clear hK K
      refine PW.ret ⟨_, rfl, .inl ?_⟩
      rw [← hres]
      exact ⟨rfl, a2, m, _, hb2.2.1, hml, rfl⟩
    | ok y a2 =>
      have hb2 := tkD_b h2 hb.2.2
      rw [h2] at t2 hres
      simp only [rvS, Rr.at] at t2
      rw [Rr.bind_ok] at hres
      have tv2 := tv (setV s d x y)
      rw [setV_X, setV_Y] at tv2
      have hsv := mbc_sv m d k hd hk x y
      (repeat refine PW.seq ?_); refine PW.rg rfl fun K hK => ?_; simp (maxSteps := 3000000) (disch := omega) only [go_sem, ↓reduceIte, g5, tB_v, tB_c, ty2]; refine VCx.call (t2) rfl ?_; simp (maxSteps := 3000000) (disch := omega) only [go_sem, ↓reduceIte, g5, tB_v, tB_c, s5, tsy2, tB_e, tB_of, tC_len]; refine hK _ _ ?_; clear hK K
      (repeat refine PW.seq ?_); refine PW.rg rfl fun K hK => ?_; simp (maxSteps := 3000000) (disch := omega) only [go_sem, ↓reduceIte]; refine hK _ _ ?_; clear hK K
      (repeat refine PW.seq ?_); refine PW.cond (t := _) rfl (fun h => ?_) (fun h => ?_)
      · cases h
      refine PW.skip ?_
      (repeat refine PW.seq ?_); refine PW.drawi [H.length + 4] [(81, [0]), (87, [0]), (88, [0]), (89, [0]), (90, [0])] [] [] mix (by kernel_rfl) (by simp <;> omega) fun K hK => ?_
      simp (maxSteps := 3000000) (disch := omega) only [go_sem, ↓reduceIte, g5, g4, s4, tB_v, tB_c, tC_mi, tC_len, tv2, mB_v, mB_c, mB_e, hlen, hsv, mB_of]
      refine hK _ _ ?_; clear hK K
      (repeat refine PW.seq ?_); refine PW.rg rfl fun K hK => ?_; simp (maxSteps := 3000000) (disch := omega) only [go_sem]; refine hK _ _ ?_; clear hK K
      refine PW.ret ⟨_, rfl, .inl ?_⟩
      rw [← hres]
      exact ⟨rfl, rfl⟩
end

end Go.Proofs.YthmladiijdlgkaaGreat.Sc

namespace Go.Proofs.YthmladiijdlgkaaGreat.Sc
set_option linter.all false
set_option linter.unusedVariables false
set_option linter.unusedSimpArgs false
open Pm Ty Go.RowKit
theorem tflag_gen (L : Heap) (ti i : Nat) (p : List UInt8) (n a : Nat) (c : Cx) (s : St) (mi : Nat) (hl : Bool) (hT : L[ti]? = some (tB s i c mi hl)) (hR : L[i]? = some (rA p n a)) (ha : a ≤ n) (hn : n ≤ 8 * p.length) (hp : p.length ≤ 100000000) :
    CallOk Tryz.prog 89 [.ptr ti 0 0] L (rvF (tkF p n a)) (L.set i (rA p n (tkF p n a).at)) := by
  have hself := set_self hR
  cases hf : tkF p n a with
  | ok b a1 =>
    obtain ⟨rfl, h2, rfl⟩ := tkF_b hf
    have t := rtake_ok i p n a 1 _ hR (by omega) hn hp (by omega)
    rw [show vl p a 1 = ubit p a by simp [vl]] at t
    have e1 : ((ubit p a : Int) == 1) = decide (ubit p a = 1) := by
      rw [Bool.eq_iff_iff]; simp; omega
    simp only [rvF, Rr.at]
    generalize L.set i (rA p n (a + 1)) = Hz at *
    refine CallOk.body (F0 := [(0, .ptr ti 0 0)]) Tryz.func89 rfl Tryz.ntmps89 Tryz.results89 rfl (by kernel_rfl) rfl ?_
    (repeat refine PW.seq ?_); refine PW.rg rfl fun K hK => ?_; simp (disch:=omega) only [go_sem]; refine hK _ _ ?_; clear hK K
    (repeat refine PW.seq ?_); refine PW.rg rfl fun K hK => ?_; simp (disch:=omega) only [go_sem, ↓reduceIte, hT, tB_v, tB_c, tC_w]; refine VCx.call (t) rfl ?_; simp (disch:=omega) only [go_sem]; refine hK _ _ ?_; clear hK K
    (repeat refine PW.seq ?_); refine PW.rg rfl fun K hK => ?_; simp (disch:=omega) only [go_sem, ↓reduceIte, e1]; refine hK _ _ ?_; clear hK K
    exact PW.ret ⟨_, rfl, Fin.now⟩
  | er e a1 =>
    obtain ⟨rfl, rfl, h2⟩ := tkF_e hf
    have t := rtake_short i p n a1 1 _ hR (by omega) (by omega) (by omega) (by omega)
    simp only [rvF, Rr.at, hself]
    refine CallOk.body (F0 := [(0, .ptr ti 0 0)]) Tryz.func89 rfl Tryz.ntmps89 Tryz.results89 rfl (by kernel_rfl) rfl ?_
    (repeat refine PW.seq ?_); refine PW.rg rfl fun K hK => ?_; simp (disch:=omega) only [go_sem]; refine hK _ _ ?_; clear hK K
    (repeat refine PW.seq ?_); refine PW.rg rfl fun K hK => ?_; simp (disch:=omega) only [go_sem, ↓reduceIte, hT, tB_v, tB_c, tC_w]; refine VCx.call (t) rfl ?_; simp (disch:=omega) only [go_sem]; refine hK _ _ ?_; clear hK K
    (repeat refine PW.seq ?_); refine PW.rg rfl fun K hK => ?_; simp (disch:=omega) only [go_sem, ↓reduceIte]; refine hK _ _ ?_; clear hK K
    exact PW.ret ⟨_, rfl, Fin.now⟩
theorem mbc_sp (m : Mb) (b : Bool) : (mbc m).set 3 (.bool b) = mbc { m with fp := b } := rfl
theorem mbc_sd (m : Mb) (b : Bool) : (mbc m).set 4 (.bool b) = mbc { m with fd := b } := rfl
theorem mbc_k (m : Mb) : (mbc m)[0]? = some (.int .i64 m.k) := rfl
theorem mbc_us (m : Mb) : List.take 2 (List.drop 1 (mbc m)) = [.bool m.ua, .bool m.ub] := rfl
def SameU (m m' : Mb) : Prop := m'.lv = m.lv ∧ m'.ua = m.ua ∧ m'.ub = m.ub ∧ m'.fp = m.fp ∧ m'.k = m.k
theorem SameU.refl (m : Mb) : SameU m m := ⟨rfl, rfl, rfl, rfl, rfl⟩
theorem SameU.trans {a b c : Mb} (h : SameU a b) (k : SameU b c) : SameU a c := ⟨k.1.trans h.1, k.2.1.trans h.2.1, k.2.2.1.trans h.2.2.1, k.2.2.2.1.trans h.2.2.2.1, k.2.2.2.2.trans h.2.2.2.2⟩
theorem setSl_same (m : Mb) (d k : Nat) (x : Int) : SameU m (setSl m d k x) := by unfold setSl; split <;> split <;> exact ⟨rfl, rfl, rfl, rfl, rfl⟩
theorem setVm_same (m : Mb) (d k : Nat) (x y : Int) : SameU m (setVm m d k x y) := by unfold setVm; split <;> split <;> exact ⟨rfl, rfl, rfl, rfl, rfl⟩
theorem vrS_setV {s : St} (hs : vrS s) (d : Nat) {x y : Int} (hx : -63 ≤ x ∧ x ≤ 63) (hy : -63 ≤ y ∧ y ≤ 63) : vrS (setV s d x y) := fun e => by
  have h0 := hs 0
  have h1 := hs 1
  have he := hs e
  unfold setV
  split
  · unfold sXs sYs; dsimp only
    split
    · exact ⟨hx, hy⟩
    · exact h1
  · unfold sXs sYs; dsimp only
    split
    · exact h0
    · exact ⟨hx, hy⟩
theorem tkVc_b {c : Cx} {p : List UInt8} {n : Nat} {m : Mb} {s : St} {d k a : Nat} {y : Mb × St} {a1 : Nat} (h : tkVc c p n m s d k a = .ok y a1) (ha : a ≤ n) (hs : vrS s) : a1 ≤ n ∧ SameU m y.1 ∧ vrS y.2 := by
  unfold tkVc at h
  suffices hr : ∀ (m' : Mb) (a' : Nat), SameU m m' → a' ≤ n → ((tkD p n (sXs s d) 63 a').bind fun x a2 => (tkD p n (sYs s d) 63 a2).bind fun y a3 => .ok (setVm m' d k x y, setV s d x y) a3) = .ok y a1 → a1 ≤ n ∧ SameU m y.1 ∧ vrS y.2 by
    split at h
    · cases hf : tkF p n a with
      | er e a2 => rw [hf] at h; cases h
      | ok b a2 =>
        have := tkF_b hf
        rw [hf, Rr.bind_ok, Rr.bind_ok] at h
        exact hr _ _ (setSl_same m d k _) (by omega) h
    · rw [Rr.bind_ok] at h
      exact hr _ _ (.refl m) ha h
  intro m' a' hm' ha' h
  cases h1 : tkD p n (sXs s d) 63 a' with
  | er e a2 => rw [h1] at h; cases h
  | ok x a2 =>
    have b1 := tkD_b h1 ha'
    rw [h1, Rr.bind_ok] at h
    cases h2 : tkD p n (sYs s d) 63 a2 with
    | er e a3 => rw [h2] at h; cases h
    | ok z a3 =>
      have b2 := tkD_b h2 b1.2.2
      rw [h2, Rr.bind_ok] at h
      injection h with e1 e2
      subst e1 e2
      exact ⟨b2.2.2, hm'.trans (setVm_same _ _ _ _ _), vrS_setV hs d (by omega) (by omega)⟩
theorem tkVs_b {c : Cx} {p : List UInt8} {n d : Nat} : ∀ (r k : Nat) (m : Mb) (s : St) (a : Nat) {y : Mb × St} {a1 : Nat}, tkVs c p n d r k m s a = .ok y a1 → a ≤ n → vrS s → a1 ≤ n ∧ SameU m y.1 ∧ vrS y.2
  | 0, k, m, s, a, y, a1, h, ha, hs => by
    simp only [tkVs] at h
    injection h with e1 e2
    subst e1 e2
    exact ⟨ha, .refl m, hs⟩
  | r + 1, k, m, s, a, y, a1, h, ha, hs => by
    simp only [tkVs] at h
    cases h1 : tkVc c p n m s d k a with
    | er e a2 => rw [h1] at h; cases h
    | ok x a2 =>
      obtain ⟨b1, b2, b3⟩ := tkVc_b h1 ha hs
      rw [h1, Rr.bind_ok] at h
      obtain ⟨c1, c2, c3⟩ := tkVs_b r (k + 1) x.1 x.2 a2 h b1 b3
      exact ⟨c1, b2.trans c2, c3⟩
theorem tkDr_b {c : Cx} {p : List UInt8} {n d : Nat} {m : Mb} {s : St} {a : Nat} {y : Mb × St} {a1 : Nat} (h : tkDr c p n m s d a = .ok y a1) (ha : a ≤ n) (hs : vrS s) : a1 ≤ n ∧ SameU m y.1 ∧ vrS y.2 := by
  unfold tkDr at h
  split at h
  · exact tkVs_b _ _ _ _ _ h ha hs
  · injection h with e1 e2
    subst e1 e2
    exact ⟨ha, .refl m, hs⟩
section
variable (H : Heap) (i : Nat) (p : List UInt8) (n : Nat) (X : Heap) (c : Cx) (hl : Bool) (hi : i < H.length) (hX : X.length = 4) (hn : n ≤ 8 * p.length) (hp : p.length ≤ 100000000)
include hi hX hn hp
set_option maxHeartbeats 4000000 in
theorem tpred_ok (m : Mb) (s : St) (a : Nat) (hml : m.lv.length = 384) (hs : vrS s) (ha : a ≤ n) : CallEx Tryz.prog 57 [.ptr (H.length + 5) 0 0] (tG H i p n a X (mB m) (tB s i c (H.length + 4) hl)) (prtR H i p n X c hl (tkPr c p n m s a)) := by
  have g5 := fun a B4 B5 => tG_5 H i p n a X B4 B5 hX
  have g4 := fun a B4 B5 => tG_4 H i p n a X B4 B5 hX
  have s5 := fun a B4 B5 B => tG_s5 H i p n a X B4 B5 hX B
  have s4 := fun a B4 B5 B => tG_s4 H i p n a X B4 B5 hX B
  have gi := fun a B4 B5 => tG_i H i p n a X B4 B5 hi
  have si := fun a B4 B5 a' => tG_si H i p n a X B4 B5 hi a'
  have hlen := mbc_len m hml
  have bo := fun K => bcx_ok c K
  generalize hres : tkPr c p n m s a = res
  unfold tkPr at hres
  by_cases hk : m.k = 2
  rotate_left
  · rw [if_neg hk] at hres
    have d1 : decide (m.k = 2) = false := decide_eq_false hk
    have d2 : (m.k != 2) = true := by simp [hk]
    refine CallEx.body (F0 := [(0, .ptr (H.length + 5) 0 0)]) Tryz.func57 rfl Tryz.ntmps57 Tryz.results57 rfl (by kernel_rfl) rfl ?_
    (repeat refine PW.seq ?_); refine PW.rg rfl fun K hK => ?_; simp (disch:=omega) only [go_sem]; refine hK _ _ ?_; clear hK K
    (repeat refine PW.seq ?_); refine PW.rg rfl fun K hK => ?_; simp (disch:=omega) only [go_sem, ↓reduceIte, g5, g4, tB_v, tB_c, tC_mi, mB_v, mB_c, mbc_k, d2]; refine hK _ _ ?_; clear hK K
    (repeat refine PW.seq ?_); refine PW.cond (t := _) rfl (fun h => ?_) (fun h => ?_)
    rotate_left
    · cases h
    (repeat refine PW.seq ?_); refine PW.rg rfl fun K hK => ?_; simp (disch:=omega) only [go_sem]; refine hK _ _ ?_; clear hK K
    refine PW.ret ⟨_, rfl, .inl ?_⟩
    rw [← hres]
    exact ⟨rfl, rfl⟩
  rw [if_pos hk] at hres
  have d2 : (m.k != 2) = false := by simp [hk]
  refine CallEx.body (F0 := [(0, .ptr (H.length + 5) 0 0)]) Tryz.func57 rfl Tryz.ntmps57 Tryz.results57 rfl (by kernel_rfl) rfl ?_
  (repeat refine PW.seq ?_); refine PW.rg rfl fun K hK => ?_; simp (disch:=omega) only [go_sem]; refine hK _ _ ?_; clear hK K
  (repeat refine PW.seq ?_); refine PW.rg rfl fun K hK => ?_; simp (disch:=omega) only [go_sem, ↓reduceIte, g5, g4, tB_v, tB_c, tC_mi, mB_v, mB_c, mbc_k, d2]; refine hK _ _ ?_; clear hK K
  (repeat refine PW.seq ?_); refine PW.cond (t := _) rfl (fun h => ?_) (fun h => ?_)
  · cases h
  refine PW.skip ?_
  suffices hrest : ∀ (m : Mb) (a : Nat), m.lv.length = 384 → a ≤ n → tkDs c p n 2 0 m s a = res → PW Tryz.prog _ _ [(0, .ptr (H.length + 5) 0 0)] (tG H i p n a X (mB m) (tB s i c (H.length + 4) hl)) _ by
    (repeat refine PW.seq ?_); refine PW.rg rfl fun K hK => ?_; simp (disch:=omega) only [go_sem, ↓reduceIte, g5, tB_v, tB_c, tC_c, tC_len, Nat.reduceAdd, Nat.reduceLeDiff]; refine VCx.call (bo _) rfl ?_; simp (disch:=omega) only [go_sem]; refine hK _ _ ?_; clear hK K
    cases hbv : bcx c with
    | false =>
      rw [hbv, if_neg (by decide), Rr.bind_ok] at hres
      (repeat refine PW.seq ?_); refine PW.cond (t := _) rfl (fun h => ?_) (fun h => ?_)
      · cases h
      refine PW.skip ?_
      exact PW.at [0] (hrest m a hml ha hres) rfl rfl
    | true =>
      rw [hbv, if_pos rfl] at hres
      (repeat refine PW.seq ?_); refine PW.cond (t := _) rfl (fun h => ?_) (fun h => ?_)
      rotate_left
      · cases h
      (repeat refine PW.seq ?_); refine PW.drawi [i, H.length + 4] [(24, [1]), (25, [0]), (29, [1]), (30, [1])] [] [] mix (by kernel_rfl) (by simp <;> omega) fun K hK => ?_
      simp (disch:=omega) only [go_sem, ↓reduceIte, g5, tB_v, tB_c, tC_mi]
      refine VCj.wr1 (gi a (mB m) (tB s i c (H.length + 4) hl)) (fun L hL hG => tflag_gen L (H.length + 5) i p n a c s (H.length + 4) hl ((hG.out _ (by simp; omega)).trans (g5 _ _ _)) hL ha hn hp) (by simp (disch:=omega) only [go_sem]) (.inl rfl) rfl ?_
      rw [si]
      cases hf : tkF p n a with
      | ok b a1 =>
        obtain ⟨rfl, h2, _⟩ := tkF_b hf
        rw [hf, Rr.bind_ok, Rr.bind_ok] at hres
        simp only [rvF, Rr.at]
        simp (disch:=omega) only [go_sem, ↓reduceIte, g4, s4, mB_v, mB_c, mB_e, hlen, mbc_sp, mB_of]
        refine hK _ _ ?_; clear hK K
        (repeat refine PW.seq ?_); refine PW.rg rfl fun K hK => ?_; simp (disch:=omega) only [go_sem, ↓reduceIte]; refine hK _ _ ?_; clear hK K
        (repeat refine PW.seq ?_); refine PW.cond (t := _) rfl (fun h => ?_) (fun h => ?_)
        · cases h
        refine PW.skip ?_
        exact PW.at [0] (hrest { m with fp := b } (a + 1) hml (by omega) hres) rfl rfl
      | er e a1 =>
        obtain ⟨rfl, rfl, h2⟩ := tkF_e hf
        rw [hf, Rr.bind_er, Rr.bind_er] at hres
        simp only [rvF, Rr.at]
        simp (disch:=omega) only [go_sem, ↓reduceIte, g4, s4, mB_v, mB_c, mB_e, hlen, mbc_sp, mB_of]
        refine hK _ _ ?_; clear hK K
        (repeat refine PW.seq ?_); refine PW.rg rfl fun K hK => ?_; simp (disch:=omega) only [go_sem, ↓reduceIte]; refine hK _ _ ?_; clear hK K
        (repeat refine PW.seq ?_); refine PW.cond (t := _) rfl (fun h => ?_) (fun h => ?_)
        rotate_left
        · cases h
        (repeat refine PW.seq ?_); refine PW.rg rfl fun K hK => ?_; simp (disch:=omega) only [go_sem]; refine hK _ _ ?_; clear hK K
        refine PW.ret ⟨_, rfl, .inl ?_⟩
        rw [← hres]
        exact ⟨rfl, a1, { m with fp := false }, s, ha, hml, rfl⟩
  clear hres ha hml hlen
  intro m a hml ha hres
  have ve := fun m1 s1 a1 => vecs_ok m1 (H.length + 4) _ (g4 a1 (mB m1) (tB s1 i c (H.length + 4) hl))
  have vc := fun m1 s1 d k a1 hd hk hml hs ha => tvec_ok H i p n X c hl hi hX hn hp m1 s1 d k a1 hd hk hml hs ha
  have hlen := mbc_len m hml
  (repeat refine PW.seq ?_); refine PW.rg rfl fun K hK => ?_; simp (disch:=omega) only [go_sem, ↓reduceIte, g5, g4, tB_v, tB_c, tC_mi, mB_v, mB_c, mbc_us, hlen, Nat.reduceAdd, Nat.reduceLeDiff]; refine hK _ _ ?_; clear hK K
  (repeat refine PW.seq ?_); refine PW.block (PW.loop ?_)
  suffices hl1 : ∀ (d : Nat) (m1 : Mb) (s1 : St) (a1 : Nat), d ≤ 2 → SameU m m1 → vrS s1 → a1 ≤ n → tkDs c p n (2 - d) d m1 s1 a1 = res → PL Tryz.prog _ _ [(0, .ptr (H.length + 5) 0 0), (40, .agg [.bool m.ua, .bool m.ub]), (41, .int .i64 (d : Int))] (tG H i p n a1 X (mB m1) (tB s1 i c (H.length + 4) hl)) _ by
    exact PL.at [0, 40, 41] (hl1 0 m s a (by omega) (.refl m) hs ha hres) rfl rfl
  clear hres ha hlen hs
  intro d m1 s1 a1 hd hm1 hs1 ha1 hres
  induction hdd : 2 - d using Nat.strongRecOn generalizing d m1 s1 a1 with
  | _ dd ih =>
    refine PL.round ?_; (repeat refine PW.seq ?_); refine PW.rg rfl fun K hK => ?_; simp (disch:=omega) only [go_sem, ↓reduceIte]; refine hK _ _ ?_; clear hK K
    (repeat refine PW.seq ?_); refine PW.cond (t := _) rfl (fun h => ?_) (fun h => ?_)
    rotate_left
    · have h6 : d = 2 := by have := of_decide_eq_false h; omega
      subst h6
      refine PW.exit ?_
      simp only [Nat.sub_self, tkDs] at hres
      (repeat refine PW.seq ?_); refine PW.rg rfl fun K hK => ?_; simp (disch:=omega) only [go_sem]; refine hK _ _ ?_; clear hK K
      refine PW.ret ⟨_, rfl, .inl ?_⟩
      rw [← hres]
      exact ⟨rfl, rfl⟩
    have h6 : d < 2 := by have := of_decide_eq_true h; omega
    obtain ⟨n', hn'⟩ : ∃ n', 2 - d = n' + 1 := ⟨1 - d, by omega⟩
    rw [hn', tkDs] at hres
    have hnx := fun m1 s1 a1 => ih (2 - (d + 1)) (by omega) (d + 1) m1 s1 a1 (by omega)
    rw [show 2 - (d + 1) = n' by omega] at hnx
    have hus : ([.bool m.ua, .bool m.ub] : List PV)[d]? = some (.bool (usd m1 d)) := by
      have : d = 0 ∨ d = 1 := by omega
      unfold usd
      rw [hm1.2.1, hm1.2.2.1]
      rcases this with rfl | rfl <;> rfl
    have hdr : tkDr c p n m1 s1 d a1 = if usd m1 d then tkVs c p n d (nvM m1) 0 m1 s1 a1 else .ok (m1, s1) a1 := rfl
    rw [hdr] at hres
    refine PW.skip ?_; (repeat refine PW.seq ?_); refine PW.block ?_
    (repeat refine PW.seq ?_); refine PW.rg rfl fun K hK => ?_; simp (disch:=omega) only [go_sem, hus]; refine hK _ _ ?_; clear hK K
    (repeat refine PW.seq ?_); refine PW.rg rfl fun K hK => ?_; simp (disch:=omega) only [go_sem]; refine hK _ _ ?_; clear hK K
    cases hu : usd m1 d with
    | false =>
      rw [hu, if_neg (by decide), Rr.bind_ok] at hres
      (repeat refine PW.seq ?_); refine PW.cond (t := _) rfl (fun h => ?_) (fun h => ?_)
      rotate_left
      · cases h
      refine PW.exit ?_
      (repeat refine PW.seq ?_); refine PW.rg rfl fun K hK => ?_; simp (disch:=omega) only [go_sem, ↓reduceIte]; refine hK _ _ ?_; clear hK K
      exact PL.at [0, 40, 41] (hnx m1 s1 a1 hm1 hs1 ha1 hres rfl) rfl rfl
    | true =>
      rw [hu, if_pos rfl] at hres
      (repeat refine PW.seq ?_); refine PW.cond (t := _) rfl (fun h => ?_) (fun h => ?_)
      · cases h
      refine PW.skip ?_
      have vo := ve m1 s1 a1
      have env : (if m1.fp then (2 : Int) else 1) = ((nvM m : Nat) : Int) := by unfold nvM; rw [hm1.2.2.2.1]; cases m.fp <;> rfl
      have env2 : nvM m1 = nvM m := by unfold nvM; rw [hm1.2.2.2.1]
      rw [env] at vo
      rw [env2] at hres
      (repeat refine PW.seq ?_); refine PW.rg rfl fun K hK => ?_; simp (disch:=omega) only [go_sem, ↓reduceIte, g5, tB_v, tB_c, tC_mi]; refine VCx.call (vo) rfl ?_; simp (disch:=omega) only [go_sem]; refine hK _ _ ?_; clear hK K
      (repeat refine PW.seq ?_); refine PW.block (PW.loop ?_)
      suffices hl2 : ∀ (k : Nat) (m2 : Mb) (s2 : St) (a2 : Nat), k ≤ nvM m → SameU m m2 → vrS s2 → a2 ≤ n → ((tkVs c p n d (nvM m - k) k m2 s2 a2).bind fun x a1 => tkDs c p n n' (d + 1) x.1 x.2 a1) = res →
          PL Tryz.prog _ _ [(0, .ptr (H.length + 5) 0 0), (3, .int .i64 (d : Int)), (40, .agg [.bool m.ua, .bool m.ub]), (41, .int .i64 (d : Int)), (51, .int .i64 (nvM m : Int)), (52, .int .i64 (k : Int))] (tG H i p n a2 X (mB m2) (tB s2 i c (H.length + 4) hl)) _ by
        exact PL.at [0, 3, 40, 41, 51, 52] (hl2 0 m1 s1 a1 (by omega) hm1 hs1 ha1 hres) rfl rfl
      clear ih hres hs1 ha1 vo hdr hu hus env env2 hm1
      have hnv := nvM_b m
      intro k m2 s2 a2 hk2 hm2 hs2 ha2 hres
      induction hkk : nvM m - k using Nat.strongRecOn generalizing k m2 s2 a2 with
      | _ kk ih2 =>
        refine PL.round ?_; (repeat refine PW.seq ?_); refine PW.rg rfl fun K hK => ?_; simp (disch:=omega) only [go_sem, ↓reduceIte]; refine hK _ _ ?_; clear hK K
        (repeat refine PW.seq ?_); refine PW.cond (t := _) rfl (fun h => ?_) (fun h => ?_)
        rotate_left
        · have h7 : k = nvM m := by have := of_decide_eq_false h; omega
          subst h7
          refine PW.exit ?_
          simp only [Nat.sub_self, tkVs, Rr.bind_ok] at hres
          (repeat refine PW.seq ?_); refine PW.rg rfl fun K hK => ?_; simp (disch:=omega) only [go_sem, ↓reduceIte]; refine hK _ _ ?_; clear hK K
          exact PL.at [0, 40, 41] (hnx m2 s2 a2 hm2 hs2 ha2 hres rfl) rfl rfl
        have h7 : k < nvM m := by have := of_decide_eq_true h; omega
        obtain ⟨n2, hn2⟩ : ∃ n2, nvM m - k = n2 + 1 := ⟨nvM m - k - 1, by omega⟩
        rw [hn2, tkVs, Rr.bind_bind] at hres
        have hnx2 := fun m1 s1 a1 => ih2 (nvM m - (k + 1)) (by omega) (k + 1) m1 s1 a1 (by omega)
        rw [show nvM m - (k + 1) = n2 by omega] at hnx2
        clear ih2
        have v1 := vc m2 s2 d k a2 h6 (by omega) (by rw [hm2.1]; exact hml) hs2 ha2
        refine PW.skip ?_; (repeat refine PW.seq ?_); refine PW.block ?_
        (repeat refine PW.seq ?_); refine PW.rg rfl fun K hK => ?_; simp (disch:=omega) only [go_sem]; refine hK _ _ ?_; clear hK K
        (repeat refine PW.seq ?_); refine PW.rg rfl fun K hK => ?_; simp (disch:=omega) only [go_sem]
        refine VCx.callR v1 rfl fun v H' hR => ?_
        cases hv : tkVc c p n m2 s2 d k a2 with
        | er e a3 =>
          rw [hv] at hR hres
          obtain ⟨rfl, a4, m4, s4', h1, h2, rfl⟩ := hR
          rw [Rr.bind_er] at hres
          have d0 : ((e : Int) + 1 != 0) = true := by simp; omega
          simp (disch:=omega) only [go_sem, ecd]; refine hK _ _ ?_; clear hK K
          (repeat refine PW.seq ?_); refine PW.rg rfl fun K hK => ?_; simp (disch:=omega) only [go_sem, ↓reduceIte, d0]; refine hK _ _ ?_; clear hK K
          (repeat refine PW.seq ?_); refine PW.cond (t := _) rfl (fun h => ?_) (fun h => ?_)
          rotate_left
          · cases h
          (repeat refine PW.seq ?_); refine PW.rg rfl fun K hK => ?_; simp (disch:=omega) only [go_sem]; refine hK _ _ ?_; clear hK K
          refine PW.ret ⟨_, rfl, .inl ?_⟩
          rw [← hres]
          exact ⟨rfl, a4, m4, s4', h1, h2, rfl⟩
        | ok y a3 =>
          obtain ⟨b1, b2, b3⟩ := tkVc_b hv ha2 hs2
          rw [hv] at hR hres
          obtain ⟨rfl, rfl⟩ := hR
          rw [Rr.bind_ok] at hres
          simp (disch:=omega) only [go_sem]; refine hK _ _ ?_; clear hK K
          (repeat refine PW.seq ?_); refine PW.rg rfl fun K hK => ?_; simp (disch:=omega) only [go_sem, ↓reduceIte]; refine hK _ _ ?_; clear hK K
          (repeat refine PW.seq ?_); refine PW.cond (t := _) rfl (fun h => ?_) (fun h => ?_)
          · cases h
          refine PW.skip ?_
          (repeat refine PW.seq ?_); refine PW.rg rfl fun K hK => ?_; simp (disch:=omega) only [go_sem, ↓reduceIte]; refine hK _ _ ?_; clear hK K
          exact PL.at [0, 3, 40, 41, 51, 52] (hnx2 y.1 y.2 a3 (hm2.trans b2) b3 b1 hres rfl) rfl rfl
end
end Go.Proofs.YthmladiijdlgkaaGreat.Sc

namespace Go.Proofs.YthmladiijdlgkaaGreat.Sc
set_option linter.all false
set_option linter.unusedVariables false
set_option linter.unusedSimpArgs false
open Pm Ty Go.RowKit
theorem mbc_sl (m : Mb) (x : Int) : (mbc m).set 17 (.int .i64 x) = mbc { m with dl := x } := rfl
theorem mbc_l (m : Mb) : (mbc m)[17]? = some (.int .i64 m.dl) := rfl
theorem tC_q (s : St) (w : Nat) (c : Cx) (mi : Nat) (hl : Bool) : (tC s w c mi hl)[0]? = some (.int .i64 s.q) := rfl
theorem tC_sq (s : St) (w : Nat) (c : Cx) (mi : Nat) (hl : Bool) (x : Int) : (tC s w c mi hl).set 0 (.int .i64 x) = tC { s with q := x } w c mi hl := rfl
theorem mbc_sc (m : Mb) (n : Nat) (b : Bool) (hn : n < 6) : (mbc m).set (18 + n) (.bool b) = mbc (setCd m n b) := by
  have : n = 0 ∨ n = 1 ∨ n = 2 ∨ n = 3 ∨ n = 4 ∨ n = 5 := by omega
  rcases this with rfl | rfl | rfl | rfl | rfl | rfl <;> rfl
theorem setCd_lv (m : Mb) (n : Nat) (b : Bool) : (setCd m n b).lv = m.lv := by
  unfold setCd
  repeat' split
  all_goals rfl
theorem mbc_6 (m : Mb) : List.take 6 (List.drop 18 (mbc m)) = fs (cdl m) := rfl
theorem eqB6z (a b c d e f : Bool) : peqG Tryz.prog .eql 64 (.agg [.bool a, .bool b, .bool c, .bool d, .bool e, .bool f]) (.agg [.bool false, .bool false, .bool false, .bool false, .bool false, .bool false]) = some (.bool ((a == false) && ((b == false) && ((c == false) && ((d == false) && ((e == false) && ((f == false) && true))))))) := by kernel_rfl
theorem eqB6m (m : Mb) : peqG Tryz.prog .eql 64 (.agg (fs (cdl m))) (.agg [.bool false, .bool false, .bool false, .bool false, .bool false, .bool false]) = some (.bool !anyC m) := by
  have := eqB6z m.ca m.cb m.cc m.cd m.ce m.cf
  rw [show fs (cdl m) = [.bool m.ca, .bool m.cb, .bool m.cc, .bool m.cd, .bool m.ce, .bool m.cf] from rfl, this]
  unfold anyC
  cases m.ca <;> cases m.cb <;> cases m.cc <;> cases m.cd <;> cases m.ce <;> cases m.cf <;> rfl
section
variable (H : Heap) (i : Nat) (p : List UInt8) (n : Nat) (X : Heap) (c : Cx) (hl : Bool) (hi : i < H.length) (hX : X.length = 4) (hn : n ≤ 8 * p.length) (hp : p.length ≤ 100000000)
include hi hX hn hp
set_option maxHeartbeats 4000000 in
theorem tchg_ok (m : Mb) (s : St) (a : Nat) (hml : m.lv.length = 384) (hq : 1 ≤ s.q ∧ s.q ≤ 31) (ha : a ≤ n) : CallEx Tryz.prog 58 [.ptr (H.length + 5) 0 0] (tG H i p n a X (mB m) (tB s i c (H.length + 4) hl)) (prtR H i p n X c hl (tkCh c p n hl m s a)) := by
  have g5 := fun a B4 B5 => tG_5 H i p n a X B4 B5 hX
  have g4 := fun a B4 B5 => tG_4 H i p n a X B4 B5 hX
  have s5 := fun a B4 B5 B => tG_s5 H i p n a X B4 B5 hX B
  have s4 := fun a B4 B5 B => tG_s4 H i p n a X B4 B5 hX B
  have gi := fun a B4 B5 => tG_i H i p n a X B4 B5 hi
  have si := fun a B4 B5 a' => tG_si H i p n a X B4 B5 hi a'
  have hlen := mbc_len m hml
  have bo := fun K => bcx_ok c K
  have qo := fun x K => vq_ok x K
  generalize hres : tkCh c p n hl m s a = res
  unfold tkCh at hres
  refine CallEx.body (F0 := [(0, .ptr (H.length + 5) 0 0)]) Tryz.func58 rfl Tryz.ntmps58 Tryz.results58 rfl (by kernel_rfl) rfl ?_
  (repeat refine PW.seq ?_); refine PW.rg rfl fun K hK => ?_; simp (disch:=omega) only [go_sem]; refine hK _ _ ?_; clear hK K
  cases hhl : hl with
  | false =>
    subst hhl
    rw [if_neg (by decide)] at hres
    (repeat refine PW.seq ?_); refine PW.rg rfl fun K hK => ?_; simp (disch:=omega) only [go_sem, ↓reduceIte, g5, tB_v, tB_c, tC_hl]; refine hK _ _ ?_; clear hK K
    (repeat refine PW.seq ?_); refine PW.cond (t := _) rfl (fun h => ?_) (fun h => ?_)
    rotate_left
    · cases h
    (repeat refine PW.seq ?_); refine PW.rg rfl fun K hK => ?_; simp (disch:=omega) only [go_sem]; refine hK _ _ ?_; clear hK K
    refine PW.ret ⟨_, rfl, .inl ?_⟩
    rw [← hres]
    exact ⟨rfl, rfl⟩
  | true =>
    subst hhl
    rw [if_pos rfl] at hres
    (repeat refine PW.seq ?_); refine PW.rg rfl fun K hK => ?_; simp (disch:=omega) only [go_sem, ↓reduceIte, g5, tB_v, tB_c, tC_hl]; refine hK _ _ ?_; clear hK K
    (repeat refine PW.seq ?_); refine PW.cond (t := _) rfl (fun h => ?_) (fun h => ?_)
    · cases h
    refine PW.skip ?_
    suffices hrest : ∀ (m : Mb) (a : Nat), m.lv.length = 384 → a ≤ n → ((tkS p n a).bind fun d a2 => if vqB (s.q + d) then .ok ({ m with dl := d }, { s with q := s.q + d }) a2 else .er 2 a2) = res → PW Tryz.prog _ _ [(0, .ptr (H.length + 5) 0 0)] (tG H i p n a X (mB m) (tB s i c (H.length + 4) true)) _ by
      (repeat refine PW.seq ?_); refine PW.rg rfl fun K hK => ?_; simp (disch:=omega) only [go_sem, ↓reduceIte, g5, tB_v, tB_c, tC_c, tC_len, Nat.reduceAdd, Nat.reduceLeDiff]; refine VCx.call (bo _) rfl ?_; simp (disch:=omega) only [go_sem]; refine hK _ _ ?_; clear hK K
      cases hbv : bcx c with
      | false =>
        rw [hbv, if_neg (by decide), Rr.bind_ok] at hres
        (repeat refine PW.seq ?_); refine PW.cond (t := _) rfl (fun h => ?_) (fun h => ?_)
        · cases h
        refine PW.skip ?_
        exact PW.at [0] (hrest m a hml ha hres) rfl rfl
      | true =>
        rw [hbv, if_pos rfl] at hres
        (repeat refine PW.seq ?_); refine PW.cond (t := _) rfl (fun h => ?_) (fun h => ?_)
        rotate_left
        · cases h
        (repeat refine PW.seq ?_); refine PW.drawi [i, H.length + 4] [(17, [1]), (18, [0]), (22, [1]), (23, [1])] [] [] mix (by kernel_rfl) (by simp <;> omega) fun K hK => ?_
        simp (disch:=omega) only [go_sem, ↓reduceIte, g5, tB_v, tB_c, tC_mi]
        refine VCj.wr1 (gi a (mB m) (tB s i c (H.length + 4) true)) (fun L hL hG => tflag_gen L (H.length + 5) i p n a c s (H.length + 4) true ((hG.out _ (by simp; omega)).trans (g5 _ _ _)) hL ha hn hp) (by simp (disch:=omega) only [go_sem]) (.inl rfl) rfl ?_
        rw [si]
        cases hf : tkF p n a with
        | ok b a1 =>
          obtain ⟨rfl, h2, _⟩ := tkF_b hf
          rw [hf, Rr.bind_ok, Rr.bind_ok] at hres
          simp only [rvF, Rr.at]
          simp (disch:=omega) only [go_sem, ↓reduceIte, g4, s4, mB_v, mB_c, mB_e, hlen, mbc_sd, mB_of]
          refine hK _ _ ?_; clear hK K
          (repeat refine PW.seq ?_); refine PW.rg rfl fun K hK => ?_; simp (disch:=omega) only [go_sem, ↓reduceIte]; refine hK _ _ ?_; clear hK K
          (repeat refine PW.seq ?_); refine PW.cond (t := _) rfl (fun h => ?_) (fun h => ?_)
          · cases h
          refine PW.skip ?_
          exact PW.at [0] (hrest { m with fd := b } (a + 1) hml (by omega) hres) rfl rfl
        | er e a1 =>
          obtain ⟨rfl, rfl, h2⟩ := tkF_e hf
          rw [hf, Rr.bind_er, Rr.bind_er] at hres
          simp only [rvF, Rr.at]
          simp (disch:=omega) only [go_sem, ↓reduceIte, g4, s4, mB_v, mB_c, mB_e, hlen, mbc_sd, mB_of]
          refine hK _ _ ?_; clear hK K
          (repeat refine PW.seq ?_); refine PW.rg rfl fun K hK => ?_; simp (disch:=omega) only [go_sem, ↓reduceIte]; refine hK _ _ ?_; clear hK K
          (repeat refine PW.seq ?_); refine PW.cond (t := _) rfl (fun h => ?_) (fun h => ?_)
          rotate_left
          · cases h
          (repeat refine PW.seq ?_); refine PW.rg rfl fun K hK => ?_; simp (disch:=omega) only [go_sem]; refine hK _ _ ?_; clear hK K
          refine PW.ret ⟨_, rfl, .inl ?_⟩
          rw [← hres]
          exact ⟨rfl, a1, { m with fd := false }, s, ha, hml, rfl⟩
    clear hres ha hml hlen
    intro m a hml ha hres
    have hlen := mbc_len m hml
    (repeat refine PW.seq ?_); refine PW.drawi [i, H.length + 4] [(31, [1]), (35, [0]), (39, [1]), (40, [1])] [] [] mix (by kernel_rfl) (by simp <;> omega) fun K hK => ?_
    simp (disch:=omega) only [go_sem, ↓reduceIte, g5, tB_v, tB_c, tC_mi, tC_w]
    refine VCj.wr1 (gi a (mB m) (tB s i c (H.length + 4) true)) (fun L hL hG => tks_ok i p n a L hL ha hn hp) (by simp (disch:=omega) only [go_sem]) (.inl rfl) rfl ?_
    rw [si]
    cases h1 : tkS p n a with
    | er e a1 =>
      have he := tkS_e h1
      rw [h1, Rr.bind_er] at hres
      simp only [rvS, Rr.at]
      have d0 : ((e : Int) + 1 != 0) = true := by simp; omega
      simp (disch:=omega) only [go_sem, ↓reduceIte, g4, s4, mB_v, mB_c, mB_e, hlen, mbc_sl, mB_of]
      refine hK _ _ ?_; clear hK K
      (repeat refine PW.seq ?_); refine PW.rg rfl fun K hK => ?_; simp (disch:=omega) only [go_sem, ↓reduceIte, d0]; refine hK _ _ ?_; clear hK K
      (repeat refine PW.seq ?_); refine PW.cond (t := _) rfl (fun h => ?_) (fun h => ?_)
      rotate_left
      · cases h
      (repeat refine PW.seq ?_); refine PW.rg rfl fun K hK => ?_; simp (disch:=omega) only [go_sem]; refine hK _ _ ?_; clear hK K
      refine PW.ret ⟨_, rfl, .inl ?_⟩
      rw [← hres]
      exact ⟨rfl, a1, { m with dl := 0 }, s, by omega, hml, rfl⟩
    | ok d a1 =>
      have hb := tkS_b h1 ha
      rw [h1, Rr.bind_ok] at hres
      simp only [rvS, Rr.at]
      simp (disch:=omega) only [go_sem, ↓reduceIte, g4, s4, mB_v, mB_c, mB_e, hlen, mbc_sl, mB_of]
      refine hK _ _ ?_; clear hK K
      (repeat refine PW.seq ?_); refine PW.rg rfl fun K hK => ?_; simp (disch:=omega) only [go_sem, ↓reduceIte]; refine hK _ _ ?_; clear hK K
      (repeat refine PW.seq ?_); refine PW.cond (t := _) rfl (fun h => ?_) (fun h => ?_)
      · cases h
      refine PW.skip ?_
      (repeat refine PW.seq ?_); refine PW.drawt [] [] mix (by kernel_rfl) fun K hK => ?_; simp (disch:=omega) only [go_sem, ↓reduceIte, g5, g4, s5, tB_v, tB_c, tB_e, tC_mi, tC_q, tC_sq, tC_len, tB_of, mB_v, mB_c, mbc_l]; refine hK _ _ ?_; clear hK K
      have qo1 := fun K => qo (s.q + d) K
      cases hv : vqB (s.q + d) with
      | false =>
        rw [hv] at qo1 hres
        rw [if_neg (by decide)] at hres
        (repeat refine PW.seq ?_); refine PW.rg rfl fun K hK => ?_; simp (disch:=omega) only [go_sem, ↓reduceIte, g5, tB_v, tB_c, tC_q]
        refine VCx.call (qo1 _) rfl ?_; simp (disch:=omega) only [go_sem]; refine hK _ _ ?_; clear hK K
        (repeat refine PW.seq ?_); refine PW.cond (t := _) rfl (fun h => ?_) (fun h => ?_)
        rotate_left
        · cases h
        (repeat refine PW.seq ?_); refine PW.rg rfl fun K hK => ?_; simp (disch:=omega) only [go_sem]; refine hK _ _ ?_; clear hK K
        refine PW.ret ⟨_, rfl, .inl ?_⟩
        rw [← hres]
        exact ⟨rfl, a1, { m with dl := d }, { s with q := s.q + d }, hb.2.2, hml, rfl⟩
      | true =>
        rw [hv] at qo1 hres
        rw [if_pos rfl] at hres
        (repeat refine PW.seq ?_); refine PW.rg rfl fun K hK => ?_; simp (disch:=omega) only [go_sem, ↓reduceIte, g5, tB_v, tB_c, tC_q]
        refine VCx.call (qo1 _) rfl ?_; simp (disch:=omega) only [go_sem]; refine hK _ _ ?_; clear hK K
        (repeat refine PW.seq ?_); refine PW.cond (t := _) rfl (fun h => ?_) (fun h => ?_)
        · cases h
        refine PW.skip ?_
        (repeat refine PW.seq ?_); refine PW.rg rfl fun K hK => ?_; simp (disch:=omega) only [go_sem]; refine hK _ _ ?_; clear hK K
        refine PW.ret ⟨_, rfl, .inl ?_⟩
        rw [← hres]
        exact ⟨rfl, rfl⟩
set_option maxHeartbeats 4000000 in
theorem tcod_ok (m : Mb) (s : St) (a : Nat) (hml : m.lv.length = 384) (ha : a ≤ n) : CallEx Tryz.prog 59 [.ptr (H.length + 5) 0 0] (tG H i p n a X (mB m) (tB s i c (H.length + 4) hl)) (prtR H i p n X c hl ((tkCo p n hl m a).bind fun m a => .ok (m, s) a)) := by
  have g5 := fun a B4 B5 => tG_5 H i p n a X B4 B5 hX
  have g4 := fun a B4 B5 => tG_4 H i p n a X B4 B5 hX
  have s5 := fun a B4 B5 B => tG_s5 H i p n a X B4 B5 hX B
  have s4 := fun a B4 B5 B => tG_s4 H i p n a X B4 B5 hX B
  have gi := fun a B4 B5 => tG_i H i p n a X B4 B5 hi
  have si := fun a B4 B5 a' => tG_si H i p n a X B4 B5 hi a'
  have hlen := fun (m : Mb) (h : m.lv.length = 384) => mbc_len m h
  generalize hres : (tkCo p n hl m a).bind (fun m a => Rr.ok (m, s) a) = res
  unfold tkCo at hres
  refine CallEx.body (F0 := [(0, .ptr (H.length + 5) 0 0)]) Tryz.func59 rfl Tryz.ntmps59 Tryz.results59 rfl (by kernel_rfl) rfl ?_
  (repeat refine PW.seq ?_); refine PW.rg rfl fun K hK => ?_; simp (disch:=omega) only [go_sem]; refine hK _ _ ?_; clear hK K
  by_cases hk : m.k = 2
  rotate_left
  · have d2 : (m.k != 2) = true := by simp [hk]
    rw [decide_eq_false hk, Bool.false_and, if_neg (by decide), Rr.bind_ok] at hres
    (repeat refine PW.seq ?_); refine PW.rg rfl fun K hK => ?_; simp (disch:=omega) only [go_sem, ↓reduceIte, g5, g4, tB_v, tB_c, tC_mi, mB_v, mB_c, mbc_k, d2]; refine hK _ _ ?_; clear hK K
    (repeat refine PW.seq ?_); refine PW.cond (t := _) rfl (fun h => ?_) (fun h => ?_)
    rotate_left
    · cases h
    (repeat refine PW.seq ?_); refine PW.rg rfl fun K hK => ?_; simp (disch:=omega) only [go_sem]; refine hK _ _ ?_; clear hK K
    refine PW.ret ⟨_, rfl, .inl ?_⟩
    rw [← hres]
    exact ⟨rfl, rfl⟩
  have d2 : (m.k != 2) = false := by simp [hk]
  rw [decide_eq_true hk, Bool.true_and] at hres
  cases hhl : hl with
  | false =>
    subst hhl
    rw [if_neg (by decide), Rr.bind_ok] at hres
    (repeat refine PW.seq ?_); refine PW.rg rfl fun K hK => ?_; simp (disch:=omega) only [go_sem, ↓reduceIte, g5, g4, tB_v, tB_c, tC_mi, tC_hl, mB_v, mB_c, mbc_k, d2]; refine hK _ _ ?_; clear hK K
    (repeat refine PW.seq ?_); refine PW.cond (t := _) rfl (fun h => ?_) (fun h => ?_)
    rotate_left
    · cases h
    (repeat refine PW.seq ?_); refine PW.rg rfl fun K hK => ?_; simp (disch:=omega) only [go_sem]; refine hK _ _ ?_; clear hK K
    refine PW.ret ⟨_, rfl, .inl ?_⟩
    rw [← hres]
    exact ⟨rfl, rfl⟩
  | true =>
    subst hhl
    rw [if_pos rfl] at hres
    (repeat refine PW.seq ?_); refine PW.rg rfl fun K hK => ?_; simp (disch:=omega) only [go_sem, ↓reduceIte, g5, g4, tB_v, tB_c, tC_mi, tC_hl, mB_v, mB_c, mbc_k, d2]; refine hK _ _ ?_; clear hK K
    (repeat refine PW.seq ?_); refine PW.cond (t := _) rfl (fun h => ?_) (fun h => ?_)
    · cases h
    refine PW.skip ?_
    (repeat refine PW.seq ?_); refine PW.rg rfl fun K hK => ?_; simp (disch:=omega) only [go_sem]; refine hK _ _ ?_; clear hK K
    (repeat refine PW.seq ?_); refine PW.block (PW.loop ?_)
    suffices hl1 : ∀ (k : Nat) (m1 : Mb) (a1 : Nat), k ≤ 6 → m1.lv.length = 384 → a1 ≤ n → ((tkCf p n (6 - k) m1 a1).bind fun m a => Rr.ok (m, s) a) = res → PL Tryz.prog _ _ [(0, .ptr (H.length + 5) 0 0), (19, .int .i64 (k : Int))] (tG H i p n a1 X (mB m1) (tB s i c (H.length + 4) true)) _ by
      exact PL.at [0, 19] (hl1 0 m a (by omega) hml ha hres) rfl rfl
    clear hres hk d2 hml ha
    intro k m1 a1 hk6 hml ha hres
    induction hd : 6 - k using Nat.strongRecOn generalizing k m1 a1 with
    | _ d ih =>
      refine PL.round ?_; (repeat refine PW.seq ?_); refine PW.rg rfl fun K hK => ?_; simp (disch:=omega) only [go_sem, ↓reduceIte]; refine hK _ _ ?_; clear hK K
      (repeat refine PW.seq ?_); refine PW.cond (t := _) rfl (fun h => ?_) (fun h => ?_)
      rotate_left
      · have h6 : k = 6 := by have := of_decide_eq_false h; omega
        subst h6
        refine PW.exit ?_
        have hlm := hlen m1 hml
        have e6 := eqB6m m1
        simp only [Nat.sub_self, tkCf] at hres
        cases hac : anyC m1 with
        | true =>
          rw [hac, if_pos rfl, Rr.bind_ok] at hres
          rw [hac] at e6
          (repeat refine PW.seq ?_); refine PW.rg rfl fun K hK => ?_; simp (disch:=omega) only [go_sem, ↓reduceIte, g5, g4, tB_v, tB_c, tC_mi, mB_v, mB_c, mbc_6, hlm, ↓e6, Nat.reduceAdd, Nat.reduceLeDiff]; refine hK _ _ ?_; clear hK K
          (repeat refine PW.seq ?_); refine PW.cond (t := _) rfl (fun h => ?_) (fun h => ?_)
          · cases h
          refine PW.skip ?_
          (repeat refine PW.seq ?_); refine PW.rg rfl fun K hK => ?_; simp (disch:=omega) only [go_sem]; refine hK _ _ ?_; clear hK K
          refine PW.ret ⟨_, rfl, .inl ?_⟩
          rw [← hres]
          exact ⟨rfl, rfl⟩
        | false =>
          rw [hac, if_neg (by decide), Rr.bind_er] at hres
          rw [hac] at e6
          (repeat refine PW.seq ?_); refine PW.rg rfl fun K hK => ?_; simp (disch:=omega) only [go_sem, ↓reduceIte, g5, g4, tB_v, tB_c, tC_mi, mB_v, mB_c, mbc_6, hlm, ↓e6, Nat.reduceAdd, Nat.reduceLeDiff]; refine hK _ _ ?_; clear hK K
          (repeat refine PW.seq ?_); refine PW.cond (t := _) rfl (fun h => ?_) (fun h => ?_)
          rotate_left
          · cases h
          (repeat refine PW.seq ?_); refine PW.rg rfl fun K hK => ?_; simp (disch:=omega) only [go_sem]; refine hK _ _ ?_; clear hK K
          refine PW.ret ⟨_, rfl, .inl ?_⟩
          rw [← hres]
          exact ⟨rfl, a1, m1, s, ha, hml, rfl⟩
      have h6 : k < 6 := by have := of_decide_eq_true h; omega
      obtain ⟨n', hn'⟩ : ∃ n', 6 - k = n' + 1 := ⟨5 - k, by omega⟩
      have hkn : 5 - n' = k := by omega
      rw [hn', tkCf, hkn, Rr.bind_bind] at hres
      have hnx := fun m1 a1 => ih (6 - (k + 1)) (by omega) (k + 1) m1 a1 (by omega)
      rw [show 6 - (k + 1) = n' by omega] at hnx
      have hlm := hlen m1 hml
      have hst := fun b => mbc_sc m1 k b h6
      refine PW.skip ?_; (repeat refine PW.seq ?_); refine PW.block ?_
      (repeat refine PW.seq ?_); refine PW.rg rfl fun K hK => ?_; simp (disch:=omega) only [go_sem]; refine hK _ _ ?_; clear hK K
      (repeat refine PW.seq ?_); refine PW.drawi [i, H.length + 4] [(26, [1]), (28, [0]), (32, [1]), (33, [1]), (34, [1])] [] [] mix (by kernel_rfl) (by simp <;> omega) fun K hK => ?_
      simp (disch:=omega) only [go_sem, ↓reduceIte, g5, tB_v, tB_c, tC_mi]
      refine VCj.wr1 (gi a1 (mB m1) (tB s i c (H.length + 4) true)) (fun L hL hG => tflag_gen L (H.length + 5) i p n a1 c s (H.length + 4) true ((hG.out _ (by simp; omega)).trans (g5 _ _ _)) hL ha hn hp) (by simp (disch:=omega) only [go_sem]) (.inl rfl) rfl ?_
      rw [si]
      cases hf : tkF p n a1 with
      | ok b a2 =>
        obtain ⟨rfl, h2, _⟩ := tkF_b hf
        rw [hf, Rr.bind_ok] at hres
        simp only [rvF, Rr.at]
        simp (disch:=omega) only [go_sem, ↓reduceIte, g4, s4, mB_v, mB_c, mB_e, hlm, hst, mB_of]
        refine hK _ _ ?_; clear hK K
        (repeat refine PW.seq ?_); refine PW.rg rfl fun K hK => ?_; simp (disch:=omega) only [go_sem, ↓reduceIte]; refine hK _ _ ?_; clear hK K
        (repeat refine PW.seq ?_); refine PW.cond (t := _) rfl (fun h => ?_) (fun h => ?_)
        · cases h
        refine PW.skip ?_
        (repeat refine PW.seq ?_); refine PW.rg rfl fun K hK => ?_; simp (disch:=omega) only [go_sem, ↓reduceIte]; refine hK _ _ ?_; clear hK K
        exact PL.at [0, 19] (hnx (setCd m1 k b) (a1 + 1) (by rw [setCd_lv]; exact hml) (by omega) hres rfl) rfl rfl
      | er e a2 =>
        obtain ⟨rfl, rfl, h2⟩ := tkF_e hf
        rw [hf, Rr.bind_er] at hres
        simp only [rvF, Rr.at]
        simp (disch:=omega) only [go_sem, ↓reduceIte, g4, s4, mB_v, mB_c, mB_e, hlm, hst, mB_of]
        refine hK _ _ ?_; clear hK K
        (repeat refine PW.seq ?_); refine PW.rg rfl fun K hK => ?_; simp (disch:=omega) only [go_sem, ↓reduceIte]; refine hK _ _ ?_; clear hK K
        (repeat refine PW.seq ?_); refine PW.cond (t := _) rfl (fun h => ?_) (fun h => ?_)
        rotate_left
        · cases h
        (repeat refine PW.seq ?_); refine PW.rg rfl fun K hK => ?_; simp (disch:=omega) only [go_sem]; refine hK _ _ ?_; clear hK K
        refine PW.ret ⟨_, rfl, .inl ?_⟩
        rw [← hres]
        exact ⟨rfl, a2, setCd m1 k false, s, ha, by rw [setCd_lv]; exact hml, rfl⟩
end
end Go.Proofs.YthmladiijdlgkaaGreat.Sc

namespace Go.Proofs.YthmladiijdlgkaaGreat.Sc
set_option linter.all false
set_option linter.unusedVariables false
set_option linter.unusedSimpArgs false
open Pm Ty Go.RowKit

def hdM (m : Mb) : List PV := [.int .i64 m.k, .bool m.ua, .bool m.ub, .bool m.fp, .bool m.fd, .int .i64 m.va, .int .i64 m.vb, .int .i64 m.vc, .int .i64 m.vd, .int .i64 m.ve, .int .i64 m.vf, .int .i64 m.vg, .int .i64 m.vh, .int .i64 m.sa, .int .i64 m.sb, .int .i64 m.sc, .int .i64 m.sd, .int .i64 m.dl, .bool m.ca, .bool m.cb, .bool m.cc, .bool m.cd, .bool m.ce, .bool m.cf]
theorem mbc_app (m : Mb) : mbc m = hdM m ++ is m.lv := rfl
theorem hdM_len (m : Mb) : (hdM m).length = 24 := rfl
theorem mbc_tk (m : Mb) (x : Nat) : List.take (24 + x) (mbc m) = hdM m ++ is (m.lv.take x) := by
  rw [mbc_app, List.take_append, hdM_len, List.take_of_length_le (by rw [hdM_len]; omega), show 24 + x - 24 = x by omega, is_take]
theorem mbc_dp (m : Mb) (x : Nat) : List.drop (24 + x) (mbc m) = is (m.lv.drop x) := by
  rw [mbc_app, List.drop_append, hdM_len, List.drop_of_length_le (by rw [hdM_len]; omega), show 24 + x - 24 = x by omega, is_drop]; rfl
theorem setLv_len (m : Mb) (k : Nat) (l : List Int) (hk : k < 6) (hl : l.length = 64) (hm : m.lv.length = 384) : (setLv m k l).lv.length = 384 := by
  simp only [setLv, List.length_append, List.length_take, List.length_drop, hl, hm]; omega
theorem mbc_sL (m : Mb) (k : Nat) (l : List Int) : List.take (24 + k * 64) (mbc m) ++ (is l ++ List.drop (24 + k * 64 + 64) (mbc m)) = mbc (setLv m k l) := by
  rw [mbc_tk, show 24 + k * 64 + 64 = 24 + (k * 64 + 64) by omega, mbc_dp, mbc_app]
  show _ = hdM m ++ is (m.lv.take (k * 64) ++ l ++ m.lv.drop (k * 64 + 64))
  rw [is_append, is_append, List.append_assoc, List.append_assoc]
theorem mbc_gL (m : Mb) (k : Nat) (l : List Int) (hk : k < 6) (hl : l.length = 64) (hm : m.lv.length = 384) : List.take 64 (List.drop (24 + k * 64) (mbc (setLv m k l))) = is l := by
  rw [mbc_dp, is_take]
  congr 1
  have h1 : (m.lv.take (k * 64)).length = k * 64 := by rw [List.length_take]; omega
  simp only [setLv]
  rw [List.append_assoc, List.drop_left' h1, List.take_left' hl]
theorem mbc_s0 (m : Mb) (k : Nat) (l : List Int) (d : Int) (hk : k < 6) (hl : l.length = 64) (hm : m.lv.length = 384) : (mbc (setLv m k l)).set (24 + k * 64) (.int .i64 d) = mbc (setLv m k (l.set 0 d)) := by
  have h1 : (m.lv.take (k * 64)).length = k * 64 := by rw [List.length_take]; omega
  rw [mbc_app, mbc_app, List.set_append_right _ _ (by rw [hdM_len]; omega), hdM_len, show 24 + k * 64 - 24 = k * 64 by omega, is_set]
  show hdM m ++ _ = hdM m ++ _
  congr 2
  simp only [setLv]
  rw [List.append_assoc, List.set_append_right _ _ (by omega), h1, Nat.sub_self, List.set_append_left _ _ (by omega), ← List.append_assoc]
theorem tC_d (s : St) (w : Nat) (c : Cx) (mi : Nat) (hl : Bool) (q : Nat) (h : q < 3) : (tC s w c mi hl)[1 + q]? = some (.int .i64 (dcS s q)) := by
  have : q = 0 ∨ q = 1 ∨ q = 2 := by omega
  rcases this with rfl | rfl | rfl <;> rfl
theorem tC_sd (s : St) (w : Nat) (c : Cx) (mi : Nat) (hl : Bool) (q : Nat) (h : q < 3) (x : Int) : (tC s w c mi hl).set (1 + q) (.int .i64 x) = tC (setD s q x) w c mi hl := by
  have : q = 0 ∨ q = 1 ∨ q = 2 := by omega
  rcases this with rfl | rfl | rfl <;> rfl
theorem dcS_set (s : St) (q : Nat) (x : Int) (h : q < 3) : dcS (setD s q x) q = x := by
  have : q = 0 ∨ q = 1 ∨ q = 2 := by omega
  rcases this with rfl | rfl | rfl <;> rfl
theorem pqZ64 (l : List Int) (h : l.length = 64) : peqI (.int .i64) (is l) [.int .i64 0, .int .i64 0, .int .i64 0, .int .i64 0, .int .i64 0, .int .i64 0, .int .i64 0, .int .i64 0, .int .i64 0, .int .i64 0, .int .i64 0, .int .i64 0, .int .i64 0, .int .i64 0, .int .i64 0, .int .i64 0, .int .i64 0, .int .i64 0, .int .i64 0, .int .i64 0, .int .i64 0, .int .i64 0, .int .i64 0, .int .i64 0, .int .i64 0, .int .i64 0, .int .i64 0, .int .i64 0, .int .i64 0, .int .i64 0, .int .i64 0, .int .i64 0, .int .i64 0, .int .i64 0, .int .i64 0, .int .i64 0, .int .i64 0, .int .i64 0, .int .i64 0, .int .i64 0, .int .i64 0, .int .i64 0, .int .i64 0, .int .i64 0, .int .i64 0, .int .i64 0, .int .i64 0, .int .i64 0, .int .i64 0, .int .i64 0, .int .i64 0, .int .i64 0, .int .i64 0, .int .i64 0, .int .i64 0, .int .i64 0, .int .i64 0, .int .i64 0, .int .i64 0, .int .i64 0, .int .i64 0, .int .i64 0, .int .i64 0, .int .i64 0] = some (decide (l = z64)) := by
  have hp := peqI_is .i64 l z64 (by simp [z64, h])
  have dz : (l == z64) = decide (l = z64) := by rw [Bool.eq_iff_iff]; simp
  rw [dz] at hp
  exact hp

section
variable (H : Heap) (i : Nat) (p : List UInt8) (n : Nat) (X : Heap) (c : Cx) (hl : Bool) (hi : i < H.length) (hX : X.length = 4) (hn : n ≤ 8 * p.length) (hp : p.length ≤ 100000000)
include hi hX hn hp
set_option maxHeartbeats 4000000 in
theorem tlev_ok (m : Mb) (s : St) (a : Nat) (hml : m.lv.length = 384) (hs : dcR s) (ha : a ≤ n) : CallEx Tryz.prog 60 [.ptr (H.length + 5) 0 0] (tG H i p n a X (mB m) (tB s i c (H.length + 4) hl)) (prtR H i p n X c hl (tkLv p n 6 m s a)) := by
  have g5 := fun a B4 B5 => tG_5 H i p n a X B4 B5 hX
  have g4 := fun a B4 B5 => tG_4 H i p n a X B4 B5 hX
  have s5 := fun a B4 B5 B => tG_s5 H i p n a X B4 B5 hX B
  have s4 := fun a B4 B5 B => tG_s4 H i p n a X B4 B5 hX B
  have gi := fun a B4 B5 => tG_i H i p n a X B4 B5 hi
  have si := fun a B4 B5 a' => tG_si H i p n a X B4 B5 hi a'
  have hlen := fun (m : Mb) (h : m.lv.length = 384) => mbc_len m h
  have hfg := fun k (hk : k < 6) => fs_get (cdl m) k hk
  have hcl : (fs (cdl m)).length = 6 := rfl
  have co := fun k hk K => cmp_ok k K hk
  have hzl : z64.length = 64 := by simp [z64]
  generalize hres : tkLv p n 6 m s a = res
  have hlm := hlen m hml
  refine CallEx.body (F0 := [(0, .ptr (H.length + 5) 0 0)]) Tryz.func60 rfl Tryz.ntmps60 Tryz.results60 rfl (by kernel_rfl) rfl ?_
  (repeat refine PW.seq ?_); refine PW.rg rfl fun K hK => ?_; simp (maxSteps := 3000000) (disch := omega) only [go_sem]; refine hK _ _ ?_; clear hK K
  (repeat refine PW.seq ?_); refine PW.rg rfl fun K hK => ?_; simp (maxSteps := 3000000) (disch := omega) only [go_sem, ↓reduceIte, g5, g4, tB_v, tB_c, tC_mi, mB_v, mB_c, mbc_6, hlm, Nat.reduceAdd, Nat.reduceLeDiff]; refine hK _ _ ?_; clear hK K
  (repeat refine PW.seq ?_); refine PW.block (PW.loop ?_)
  suffices hl1 : ∀ (k : Nat) (m1 : Mb) (s1 : St) (a1 : Nat), k ≤ 6 → m1.lv.length = 384 → cdl m1 = cdl m → dcR s1 → a1 ≤ n → tkLv p n (6 - k) m1 s1 a1 = res → PL Tryz.prog _ _ [(0, .ptr (H.length + 5) 0 0), (13, .agg (fs (cdl m))), (14, .int .i64 (k : Int))] (tG H i p n a1 X (mB m1) (tB s1 i c (H.length + 4) hl)) _ by
    exact PL.at [0, 13, 14] (hl1 0 m s a (by omega) hml rfl hs ha hres) rfl rfl
  clear hres hml ha hs hlm
  intro k m1 s1 a1 hk6 hml hcd hs ha hres
  induction hd : 6 - k using Nat.strongRecOn generalizing k m1 s1 a1 with
  | _ d ih =>
    refine PL.round ?_; (repeat refine PW.seq ?_); refine PW.rg rfl fun K hK => ?_; simp (maxSteps := 3000000) (disch := omega) only [go_sem, ↓reduceIte]; refine hK _ _ ?_; clear hK K
    (repeat refine PW.seq ?_); refine PW.cond (t := _) rfl (fun h => ?_) (fun h => ?_)
    rotate_left
    · have h6 : k = 6 := by have := of_decide_eq_false h; omega
      subst h6
      refine PW.exit ?_
      simp only [Nat.sub_self, tkLv] at hres
      (repeat refine PW.seq ?_); refine PW.rg rfl fun K hK => ?_; simp (maxSteps := 3000000) (disch := omega) only [go_sem]; refine hK _ _ ?_; clear hK K
      refine PW.ret ⟨_, rfl, .inl ?_⟩
      rw [← hres]
      exact ⟨rfl, rfl⟩
    have h6 : k < 6 := by have := of_decide_eq_true h; omega
    obtain ⟨n', hn'⟩ : ∃ n', 6 - k = n' + 1 := ⟨5 - k, by omega⟩
    have hkn : 5 - n' = k := by omega
    rw [hn', tkLv, hkn, hcd] at hres
    have hnx := fun m1 s1 a1 => ih (6 - (k + 1)) (by omega) (k + 1) m1 s1 a1 (by omega)
    rw [show 6 - (k + 1) = n' by omega] at hnx
    have hlm := hlen m1 hml
    have hgx := hfg k h6
    refine PW.skip ?_; (repeat refine PW.seq ?_); refine PW.block ?_
    (repeat refine PW.seq ?_); refine PW.rg rfl fun K hK => ?_; simp (maxSteps := 3000000) (disch := omega) only [go_sem, hgx]; refine hK _ _ ?_; clear hK K
    generalize flagAt (cdl m) k = fg at *
    (repeat refine PW.seq ?_); refine PW.rg rfl fun K hK => ?_; simp (maxSteps := 3000000) (disch := omega) only [go_sem]; refine hK _ _ ?_; clear hK K
    cases fg with
    | false =>
      rw [if_neg (by decide)] at hres
      (repeat refine PW.seq ?_); refine PW.cond (t := _) rfl (fun h => ?_) (fun h => ?_)
      rotate_left
      · cases h
      refine PW.exit ?_
      (repeat refine PW.seq ?_); refine PW.rg rfl fun K hK => ?_; simp (maxSteps := 3000000) (disch := omega) only [go_sem, ↓reduceIte]; refine hK _ _ ?_; clear hK K
      exact PL.at [0, 13, 14] (hnx m1 s1 a1 hml hcd hs ha hres rfl) rfl rfl
    | true =>
      rw [if_pos rfl] at hres
      (repeat refine PW.seq ?_); refine PW.cond (t := _) rfl (fun h => ?_) (fun h => ?_)
      · cases h
      refine PW.skip ?_
      (repeat refine PW.seq ?_); refine PW.rg rfl fun K hK => ?_; simp (maxSteps := 3000000) (disch := omega) only [go_sem, ↓reduceIte, g5, g4, tB_v, tB_c, tC_mi, mB_v]; refine hK _ _ ?_; clear hK K
      (repeat refine PW.seq ?_); refine PW.rg rfl fun K hK => ?_; simp (maxSteps := 3000000) (disch := omega) only [go_sem, ↓reduceIte, g5, g4, tB_v, tB_c, tC_mi, mB_v, mB_c, mbc_k]; refine hK _ _ ?_; clear hK K
      have hsL := fun m l => mbc_sL m k l
      have hq3 : k - 3 < 3 := by omega
      by_cases hk : m1.k = 2
      · rw [if_pos hk] at hres
        have d1 : (m1.k == 2) = true := by simp [hk]
        have bt := btake_ok i p n a1 0 _ (gi a1 (mB m1) (tB s1 i c (H.length + 4) hl)) ha hn hp (by omega)
        rw [si] at bt
        rw [d1]
        (repeat refine PW.seq ?_); refine PW.cond (t := _) rfl (fun h => ?_) (fun h => ?_)
        rotate_left
        · cases h
        cases hb : tkBl p n 0 a1 with
        | er e a2 =>
          have hbe := tkB_e _ _ _ _ hb ha
          rw [hb] at bt hres
          simp only [rvB, Rr.at] at bt
          rw [Rr.bind_er] at hres
          have hil : (is z64).length = 64 := by rw [is_len, hzl]
          have hic := is_cell z64
          have d0 : ((e : Int) + 1 != 0) = true := by simp; omega
          have d9 := setLv_len m1 k z64 h6 hzl hml
          generalize hZ : is z64 = Z at *
          (repeat refine PW.seq ?_); refine PW.rg rfl fun K hK => ?_; simp (maxSteps := 3000000) (disch := omega) only [go_sem, ↓reduceIte, g5, tB_v, tB_c, tC_w]; refine VCx.call (bt) rfl ?_; simp (maxSteps := 3000000) (disch := omega) only [go_sem, ↓reduceIte, g4, s4, mB_v, mB_c, mB_e, hlm, hil]; refine hK _ _ ?_; clear hK K
          rw [← hZ]
          simp only [hsL, mB_of]
          (repeat refine PW.seq ?_); refine PW.rg rfl fun K hK => ?_; simp (maxSteps := 3000000) (disch := omega) only [go_sem, ↓reduceIte, d0]; refine hK _ _ ?_; clear hK K
          (repeat refine PW.seq ?_); refine PW.cond (t := _) rfl (fun h => ?_) (fun h => ?_)
          rotate_left
          · cases h
          (repeat refine PW.seq ?_); refine PW.rg rfl fun K hK => ?_; simp (maxSteps := 3000000) (disch := omega) only [go_sem]; refine hK _ _ ?_; clear hK K
          refine PW.ret ⟨_, rfl, .inl ?_⟩
          rw [← hres]
          exact ⟨rfl, a2, setLv m1 k z64, s1, by omega, d9, rfl⟩
        | ok l a2 =>
          have hbo := tkB_b _ _ _ _ hb ha
          have hll : l.length = 64 := by rw [hbo.2.2, hzl]
          rw [hb] at bt hres
          simp only [rvB, Rr.at] at bt
          rw [Rr.bind_ok] at hres
          have hil : (is l).length = 64 := by rw [is_len, hll]
          have hic := is_cell l
          have d9 := setLv_len m1 k l h6 hll hml
          have hlm9 := hlen _ d9
          have hgl := mbc_gL m1 k l h6 hll hml
          have ez := pqZ64 l hll
          (repeat refine PW.seq ?_); refine PW.rg rfl fun K hK => ?_; simp (maxSteps := 3000000) (disch := omega) only [go_sem, ↓reduceIte, g5, tB_v, tB_c, tC_w]; refine VCx.call (bt) rfl ?_; simp (maxSteps := 3000000) (disch := omega) only [go_sem, ↓reduceIte, g4, s4, mB_v, mB_c, mB_e, hlm, hil]; refine hK _ _ ?_; clear hK K
          simp only [hsL, mB_of]
          (repeat refine PW.seq ?_); refine PW.rg rfl fun K hK => ?_; simp (maxSteps := 3000000) (disch := omega) only [go_sem, ↓reduceIte]; refine hK _ _ ?_; clear hK K
          (repeat refine PW.seq ?_); refine PW.cond (t := _) rfl (fun h => ?_) (fun h => ?_)
          · cases h
          refine PW.skip ?_
          by_cases hz : l = z64
          · rw [if_pos hz] at hres
            rw [decide_eq_true hz] at ez
            (repeat refine PW.seq ?_); refine PW.rg rfl fun K hK => ?_; simp (maxSteps := 3000000) (disch := omega) only [go_sem, ↓reduceIte, g4, mB_v, mB_c, hlm9, hgl, hil, ez]; refine hK _ _ ?_; clear hK K
            (repeat refine PW.seq ?_); refine PW.cond (t := _) rfl (fun h => ?_) (fun h => ?_)
            rotate_left
            · cases h
            (repeat refine PW.seq ?_); refine PW.rg rfl fun K hK => ?_; simp (maxSteps := 3000000) (disch := omega) only [go_sem]; refine hK _ _ ?_; clear hK K
            refine PW.ret ⟨_, rfl, .inl ?_⟩
            rw [← hres]
            exact ⟨rfl, a2, setLv m1 k l, s1, hbo.2.1, d9, rfl⟩
          · rw [if_neg hz] at hres
            rw [decide_eq_false hz] at ez
            (repeat refine PW.seq ?_); refine PW.rg rfl fun K hK => ?_; simp (maxSteps := 3000000) (disch := omega) only [go_sem, ↓reduceIte, g4, mB_v, mB_c, hlm9, hgl, hil, ez]; refine hK _ _ ?_; clear hK K
            (repeat refine PW.seq ?_); refine PW.cond (t := _) rfl (fun h => ?_) (fun h => ?_)
            · cases h
            refine PW.skip ?_
            refine PW.exit ?_
            (repeat refine PW.seq ?_); refine PW.rg rfl fun K hK => ?_; simp (maxSteps := 3000000) (disch := omega) only [go_sem, ↓reduceIte]; refine hK _ _ ?_; clear hK K
            exact PL.at [0, 13, 14] (hnx (setLv m1 k l) s1 a2 d9 hcd hs hbo.2.1 hres rfl) rfl rfl
      · rw [if_neg hk] at hres
        have d1 : (m1.k == 2) = false := by simp [hk]
        rw [d1]
        (repeat refine PW.seq ?_); refine PW.cond (t := _) rfl (fun h => ?_) (fun h => ?_)
        · cases h
        refine PW.skip ?_
        have con := co k h6
        have pdc := fun s => tC_d s i c (H.length + 4) hl (k - 3) hq3
        have psd := fun s x => tC_sd s i c (H.length + 4) hl (k - 3) hq3 x
        have hsk := hs (k - 3)
        (repeat refine PW.seq ?_); refine PW.draw mix (by kernel_rfl) fun K hK => ?_; simp (maxSteps := 3000000) (disch := omega) only [go_sem]
        refine VCy.call (con _) rfl ?_; simp (maxSteps := 3000000) (disch := omega) only [go_sem, ↓reduceIte, g5, tB_v]; refine hK _ _ ?_; clear hK K
        have td := tdist_ok H i p n a1 X (mB m1) c s1 hl hi hX ha hn hp (dcS s1 (k - 3)) 4095 (by omega) hsk
        cases h1 : tkD p n (dcS s1 (k - 3)) 4095 a1 with
        | er e a2 =>
          have hb := tkD_e h1 ha
          rw [h1] at td hres
          simp only [rvS, Rr.at] at td
          rw [Rr.bind_er] at hres
          have d0 : ((e : Int) + 1 != 0) = true := by simp; omega
          (repeat refine PW.seq ?_); refine PW.rg rfl fun K hK => ?_; simp (maxSteps := 3000000) (disch := omega) only [go_sem, ↓reduceIte, g5, tB_v, tB_c, pdc]; refine VCx.call (td) rfl ?_; simp (maxSteps := 3000000) (disch := omega) only [go_sem, ↓reduceIte, g5, tB_v, tB_c, s5, psd, tB_e, tB_of, tC_len]; refine hK _ _ ?_; clear hK K
          (repeat refine PW.seq ?_); refine PW.rg rfl fun K hK => ?_; simp (maxSteps := 3000000) (disch := omega) only [go_sem, ↓reduceIte, d0]; refine hK _ _ ?_; clear hK K
          (repeat refine PW.seq ?_); refine PW.cond (t := _) rfl (fun h => ?_) (fun h => ?_)
          rotate_left
          · cases h
          (repeat refine PW.seq ?_); refine PW.rg rfl fun K hK => ?_; simp (maxSteps := 3000000) (disch := omega) only [go_sem]; refine hK _ _ ?_; clear hK K
          refine PW.ret ⟨_, rfl, .inl ?_⟩
          rw [← hres]
          exact ⟨rfl, a2, m1, setD s1 (k - 3) 0, by omega, hml, rfl⟩
        | ok x a2 =>
          have hb := tkD_b h1 ha
          rw [h1] at td hres
          simp only [rvS, Rr.at] at td
          rw [Rr.bind_ok] at hres
          (repeat refine PW.seq ?_); refine PW.rg rfl fun K hK => ?_; simp (maxSteps := 3000000) (disch := omega) only [go_sem, ↓reduceIte, g5, tB_v, tB_c, pdc]; refine VCx.call (td) rfl ?_; simp (maxSteps := 3000000) (disch := omega) only [go_sem, ↓reduceIte, g5, tB_v, tB_c, s5, psd, tB_e, tB_of, tC_len]; refine hK _ _ ?_; clear hK K
          (repeat refine PW.seq ?_); refine PW.rg rfl fun K hK => ?_; simp (maxSteps := 3000000) (disch := omega) only [go_sem, ↓reduceIte]; refine hK _ _ ?_; clear hK K
          (repeat refine PW.seq ?_); refine PW.cond (t := _) rfl (fun h => ?_) (fun h => ?_)
          · cases h
          refine PW.skip ?_
          have hs2 := dcR_set hs (k - 3) (x := x) (by omega)
          have pd2 := pdc (setD s1 (k - 3) x)
          rw [dcS_set _ _ _ hq3] at pd2
          have bt := btake_ok i p n a2 1 _ (gi a2 (mB m1) (tB (setD s1 (k - 3) x) i c (H.length + 4) hl)) hb.2.2 hn hp (by omega)
          rw [si] at bt
          cases hbk : tkBl p n 1 a2 with
          | er e a3 =>
            have hbe := tkB_e _ _ _ _ hbk hb.2.2
            rw [hbk] at bt hres
            simp only [rvB, Rr.at] at bt
            rw [Rr.bind_er] at hres
            have hil : (is z64).length = 64 := by rw [is_len, hzl]
            have hic := is_cell z64
            have d0 : ((e : Int) + 1 != 0) = true := by simp; omega
            have d9 := setLv_len m1 k z64 h6 hzl hml
            generalize hZ : is z64 = Z at *
            (repeat refine PW.seq ?_); refine PW.rg rfl fun K hK => ?_; simp (maxSteps := 3000000) (disch := omega) only [go_sem, ↓reduceIte, g5, tB_v, tB_c, tC_w]; refine VCx.call (bt) rfl ?_; simp (maxSteps := 3000000) (disch := omega) only [go_sem, ↓reduceIte, g4, s4, mB_v, mB_c, mB_e, hlm, hil]; refine hK _ _ ?_; clear hK K
            rw [← hZ]
            simp only [hsL, mB_of]
            (repeat refine PW.seq ?_); refine PW.rg rfl fun K hK => ?_; simp (maxSteps := 3000000) (disch := omega) only [go_sem, ↓reduceIte, d0]; refine hK _ _ ?_; clear hK K
            (repeat refine PW.seq ?_); refine PW.cond (t := _) rfl (fun h => ?_) (fun h => ?_)
            rotate_left
            · cases h
            (repeat refine PW.seq ?_); refine PW.rg rfl fun K hK => ?_; simp (maxSteps := 3000000) (disch := omega) only [go_sem]; refine hK _ _ ?_; clear hK K
            refine PW.ret ⟨_, rfl, .inl ?_⟩
            rw [← hres]
            exact ⟨rfl, a3, setLv m1 k z64, setD s1 (k - 3) x, by omega, d9, rfl⟩
          | ok l a3 =>
            have hbo := tkB_b _ _ _ _ hbk hb.2.2
            have hll : l.length = 64 := by rw [hbo.2.2, hzl]
            rw [hbk] at bt hres
            simp only [rvB, Rr.at] at bt
            rw [Rr.bind_ok] at hres
            have hil : (is l).length = 64 := by rw [is_len, hll]
            have hic := is_cell l
            have d9 := setLv_len m1 k l h6 hll hml
            have hlm9 := hlen _ d9
            have hs0 := mbc_s0 m1 k l x h6 hll hml
            have d8 := setLv_len m1 k (l.set 0 x) h6 (by rw [List.length_set]; exact hll) hml
            (repeat refine PW.seq ?_); refine PW.rg rfl fun K hK => ?_; simp (maxSteps := 3000000) (disch := omega) only [go_sem, ↓reduceIte, g5, tB_v, tB_c, tC_w]; refine VCx.call (bt) rfl ?_; simp (maxSteps := 3000000) (disch := omega) only [go_sem, ↓reduceIte, g4, s4, mB_v, mB_c, mB_e, hlm, hil]; refine hK _ _ ?_; clear hK K
            simp only [hsL, mB_of]
            (repeat refine PW.seq ?_); refine PW.rg rfl fun K hK => ?_; simp (maxSteps := 3000000) (disch := omega) only [go_sem, ↓reduceIte]; refine hK _ _ ?_; clear hK K
            (repeat refine PW.seq ?_); refine PW.cond (t := _) rfl (fun h => ?_) (fun h => ?_)
            · cases h
            refine PW.skip ?_
            (repeat refine PW.seq ?_); refine PW.drawt [] [] mix (by kernel_rfl) fun K hK => ?_; simp (maxSteps := 3000000) (disch := omega) only [go_sem, ↓reduceIte, g5, g4, s4, tB_v, tB_c, pd2, mB_v, mB_c, mB_e, hlm9, hs0, mB_of]; refine hK _ _ ?_; clear hK K
            (repeat refine PW.seq ?_); refine PW.rg rfl fun K hK => ?_; simp (maxSteps := 3000000) (disch := omega) only [go_sem, ↓reduceIte]; refine hK _ _ ?_; clear hK K
            exact PL.at [0, 13, 14] (hnx (setLv m1 k (l.set 0 x)) (setD s1 (k - 3) x) a3 d8 hcd hs2 hbo.2.1 hres rfl) rfl rfl
end

end Go.Proofs.YthmladiijdlgkaaGreat.Sc
