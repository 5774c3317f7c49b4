/-
  Parts of the proof, put together in one text. No condition.
-/
import Derived.Test.YtahomnplappbpaaGreatDoorV24
import Derived.Test.YtahomnplappbpaaGreatDoorV21
import Derived.Test.YtahomnplappbpaaGreatDoorV17
import Derived.Test.YtahomnplappbpaaGreatDoorV23
namespace Go.Proofs.YtahomnplappbpaaGreatDoor.Sc
set_option linter.all false
set_option linter.unusedVariables false
set_option linter.unusedSimpArgs false
open Pm Ty Go.RowKit

/-! ### directions by number -/
def v1 (m : Mb) (d : Nat) : Int := if d = 0 then m.va else m.ve
def v2 (m : Mb) (d : Nat) : Int := if d = 0 then m.vb else m.vf
def v3 (m : Mb) (d : Nat) : Int := if d = 0 then m.vc else m.vg
def v4 (m : Mb) (d : Nat) : Int := if d = 0 then m.vd else m.vh
def s1 (m : Mb) (d : Nat) : Int := if d = 0 then m.sa else m.sc
def s2 (m : Mb) (d : Nat) : Int := if d = 0 then m.sb else m.sd
def us (m : Mb) (d : Nat) : Bool := if d = 0 then m.ua else m.ub
structure PrOk (m : Mb) : Prop where
  u : m.ua = true ∨ m.ub = true
  f : ∀ d, us m d = true → m.fp = true → (s1 m d = 0 ∨ s1 m d = 1) ∧ (s2 m d = 0 ∨ s2 m d = 1) ∧ vrg (v1 m d) (v2 m d) = true ∧ vrg (v3 m d) (v4 m d) = true
end Go.Proofs.YtahomnplappbpaaGreatDoor.Sc

namespace Go.Proofs.YtahomnplappbpaaGreatDoor.Sc
set_option linter.all false
set_option linter.unusedVariables false
set_option linter.unusedSimpArgs false
open Pm Ty Go.RowKit

/-- A plane that is filled, up to k. -/
def rpk (n k : Nat) : List UInt8 := List.replicate k 128 ++ List.replicate (n - k) 0
theorem rpk_len {n k : Nat} (h : k ≤ n) : (rpk n k).length = n := by simp [rpk]; omega
theorem rpk_end (n : Nat) : rpk n n = List.replicate n 128 := by simp [rpk]

end Go.Proofs.YtahomnplappbpaaGreatDoor.Sc

namespace Go.Proofs.YtahomnplappbpaaGreatDoor.Sc
set_option linter.all false
set_option linter.unusedVariables false
set_option linter.unusedSimpArgs false
open Pm Ty Go.RowKit

end Go.Proofs.YtahomnplappbpaaGreatDoor.Sc

namespace Go.Proofs.YtahomnplappbpaaGreatDoor.Sc
set_option linter.all false
set_option linter.unusedVariables false
set_option linter.unusedSimpArgs false
open Pm Ty Go.RowKit

def zBk (n : Nat) : Blk := ⟨5, 1, bs (List.replicate n 0)⟩
theorem zBk_fl (N : Nat) (f : Nat → Int) : zBk N = ⟨5, 1, bs (flB N f 0)⟩ := by unfold zBk; rw [flB_0, bs_zero]
/-! ### distances -/
end Go.Proofs.YtahomnplappbpaaGreatDoor.Sc

namespace Go.Proofs.YtahomnplappbpaaGreatDoor.Sc
set_option linter.all false
set_option linter.unusedVariables false
set_option linter.unusedSimpArgs false
open Pm Ty Go.RowKit

theorem fl_128 (n : Nat) : rgB n (fun _ => 128) = List.replicate n 128 := by
  apply List.ext_getElem
  · simp [rgB]
  intro i h1 h2
  simp [rgB, u8]
end Go.Proofs.YtahomnplappbpaaGreatDoor.Sc

namespace Go.Proofs.YtahomnplappbpaaGreatDoor.Sc
set_option linter.all false
set_option linter.unusedVariables false
set_option linter.unusedSimpArgs false
open Pm Ty Go.RowKit

/-- A gray frame of A by B macroblocks. -/
def flt (A B : Nat) : Fm := ⟨((16 * A : Nat) : Int), ((16 * B : Nat) : Int), List.replicate (16 * A * (16 * B)) 128, List.replicate (8 * A * (8 * B)) 128, List.replicate (8 * A * (8 * B)) 128⟩
theorem flt_c (A B : Nat) : fmc (flt A B) = [.int .i64 ((16 * A : Nat) : Int), .int .i64 ((16 * B : Nat) : Int), .slice (bs (List.replicate (16 * A * (16 * B)) 128)) (16 * A * (16 * B)) false, .slice (bs (List.replicate (8 * A * (8 * B)) 128)) (8 * A * (8 * B)) false, .slice (bs (List.replicate (8 * A * (8 * B)) 128)) (8 * A * (8 * B)) false] := by
  unfold flt fmc; simp only [List.length_replicate]
theorem mul_k (k : Nat) (hk : k ≤ 64) (H : Heap) : CallOk Tryz.prog 223 [.int .u64 1, .int .u64 ((64 * k : Nat) : Int)] H (.tup [.int .u64 0, .int .u64 ((64 * k : Nat) : Int)]) H := by
  have h : ((List.range 65).all fun k => isVal (evalN Tryz.prog 100000 (.call 223 [.int .u64 1, .int .u64 ((64 * k : Nat) : Int)] [])) (.tup [.int .u64 0, .int .u64 ((64 * k : Nat) : Int)])) = true := by kernel_rfl
  exact CallOk.evalV 100000 (List.all_eq_true.1 h k (List.mem_range.2 (by omega))) (fun x hx => by
    simp only [List.mem_cons, List.not_mem_nil, or_false] at hx
    rcases hx with rfl | rfl <;> exact .int _ _)
theorem wrap_k (k : Nat) (hk : k ≤ 64) : IntKind.u64.wrap ((64 * k : Nat) : Int) = ((64 * k : Nat) : Int) := by
  have h : ((List.range 65).all fun k => decide (IntKind.u64.wrap ((64 * k : Nat) : Int) = ((64 * k : Nat) : Int))) = true := by kernel_rfl
  exact of_decide_eq_true (List.all_eq_true.1 h k (List.mem_range.2 (by omega)))

set_option maxHeartbeats 1600000 in
theorem repeatG_ok (n k : Nat) (hn : n = 64 * k) (hk : 1 ≤ k ∧ k ≤ 64) (H : Heap) : CallOk Tryz.prog 155 [.slice [.int .u8 128] 1 true, .int .i64 (n : Int)] H (.slice (bs (List.replicate n 128)) n false) H := by
  have mu : ∀ K, CallOk Tryz.prog 223 [.int .u64 1, .int .u64 (n : Int)] K (.tup [.int .u64 0, .int .u64 (n : Int)]) K := fun K => by
    rw [hn]; exact mul_k k hk.2 K
  have hz : (List.replicate n [PV.int .u8 0]).flatten = bs (List.replicate n 0) := bs_zero n
  have u1 : IntKind.u64.wrap (n : Int) = (n : Int) := by rw [hn]; exact wrap_k k hk.2
  have u2 : IntKind.u64.wrap 1 = 1 := rfl
  have hnb : 1 ≤ n ∧ n ≤ 4096 := by omega
  clear hn
  refine CallOk.body (F0 := [(0, .slice [.int .u8 128] 1 true), (1, .int .i64 (n : Int))]) Tryz.func155 rfl Tryz.ntmps155 Tryz.results155 rfl (by kernel_rfl) rfl ?_
  (repeat refine PW.seq ?_); refine PW.rg rfl fun K hK => ?_; simp (disch := omega) only [go_sem, ↓reduceIte, reduceCtorEq, pappend, plen]; refine hK _ _ ?_; clear hK K
  (repeat refine PW.seq ?_); refine PW.rg rfl fun K hK => ?_; simp (disch := omega) only [go_sem, ↓reduceIte, reduceCtorEq, pappend, plen]; refine hK _ _ ?_; clear hK K
  (repeat refine PW.seq ?_); refine PW.cond (t := _) rfl (fun h => ?_) (fun h => ?_)
  · cases h
  refine PW.skip ?_
  (repeat refine PW.seq ?_); refine PW.rg rfl fun K hK => ?_; simp (disch := omega) only [go_sem, ↓reduceIte, reduceCtorEq, pappend, plen, u1, u2]; refine VCx.call (mu _) rfl ?_; simp (disch := omega) only [go_sem, ↓reduceIte, reduceCtorEq, pappend, plen, u1, u2]; refine hK _ _ ?_; clear hK K
  (repeat refine PW.seq ?_)
  refine PW.rgv (P := Tryz.prog) [0, 6] 26 (.bool false) ?_ ?_ ?_
  · rfl
  · simp (disch := omega) only [go_sem, ↓reduceIte, reduceCtorEq, pappend, plen]; (repeat' ((first | refine VO_cond ?_ ?_ | refine VOd_cond ?_ ?_ | refine VOg_cond ?_ ?_ | refine VOh_cond ?_ ?_ | refine VOi_cond ?_ ?_ | refine And.intro ?_ ?_) <;> intro h <;> (try simp only [Bool.not_eq_true', Bool.not_eq_false', decide_eq_true_eq, decide_eq_false_iff_not] at h) <;> simp (disch := omega) only [go_sem, ↓reduceIte, reduceCtorEq, pappend, plen, h]))
    all_goals (simp_all [slot, Nat.beq] <;> first | rfl | omega | (rw [Bool.eq_iff_iff]; simp; done) | (rw [Bool.eq_iff_iff]; simp; omega))
  (repeat refine PW.seq ?_); refine PW.cond (t := _) rfl (fun h => ?_) (fun h => ?_)
  · cases h
  refine PW.skip ?_
  (repeat refine PW.seq ?_); refine PW.rg rfl fun K hK => ?_; simp (disch := omega) only [go_sem, ↓reduceIte, reduceCtorEq, pappend, plen]; refine hK _ _ ?_; clear hK K
  rw [hz]
  have mn : min 1 n = 1 := by omega
  (repeat refine PW.seq ?_); refine PW.rg rfl fun K hK => ?_; simp (disch := omega) only [go_sem, ↓reduceIte, reduceCtorEq, pappend, plen, length_bs, List.length_replicate, mn]; refine hK _ _ ?_; clear hK K
  (repeat refine PW.seq ?_); refine PW.block (PW.loop ?_)
  suffices hloop : ∀ k : Nat, 1 ≤ k → k ≤ n → PL Tryz.prog _ _ [(7, .msl H.length 0 0 n 1 true), (8, .int .i64 (k : Int))] (H ++ [⟨5, 0, bs (rpk n k)⟩]) _ by
    refine PL.at [7, 8] (hloop 1 (by omega) (by omega)) rfl ?_
    obtain ⟨m, rfl⟩ : ∃ m, n = m + 1 := ⟨n - 1, by omega⟩
    simp [splice, rpk, bs, List.replicate_succ]
  intro k hk1 hkn
  induction hm : n - k using Nat.strongRecOn generalizing k with
  | _ d ih =>
    have hl := rpk_len hkn
    refine PL.round ?_; (repeat refine PW.seq ?_); refine PW.rg rfl fun K hK => ?_; simp (disch := omega) only [go_sem, ↓reduceIte, reduceCtorEq, pappend, plen]; refine hK _ _ ?_; clear hK K
    (repeat refine PW.seq ?_); refine PW.cond (t := _) rfl (fun h => ?_) (fun h => ?_)
    · have h4 : k < n := by have := of_decide_eq_true h; omega
      refine PW.skip ?_; (repeat refine PW.seq ?_); refine PW.block ?_
      (repeat refine PW.seq ?_); refine PW.draw mix (by kernel_rfl) fun K hK => ?_
      simp (disch := omega) only [go_sem, ↓reduceIte, reduceCtorEq, pappend, plen, length_bs, hl]
      refine hK _ _ ?_; clear hK K
      have hm1 : min (k - 0) (n - k) = min k (n - k) := by rw [Nat.sub_zero]
      rw [hm1, Nat.sub_zero]
      have e1 : (k : Int) + ((min k (n - k) : Nat) : Int) = ((k + min k (n - k) : Nat) : Int) := by omega
      rw [e1]
      have e2 : List.take k (bs (rpk n k)) = bs (List.replicate k 128) := by
        rw [bs_take]; congr 1; unfold rpk; rw [List.take_append_of_le_length (by simp), List.take_of_length_le (by simp)]
      have e3 : List.take (min k (n - k)) (bs (List.replicate k (128 : UInt8))) = bs (List.replicate (min k (n - k)) 128) := by
        rw [bs_take, List.take_replicate]; congr 2; omega
      have e4 : List.drop (k + (bs (List.replicate (min k (n - k)) (128 : UInt8))).length) (bs (rpk n k)) = bs (List.replicate (n - (k + min k (n - k))) 0) := by
        rw [length_bs, List.length_replicate, bs_drop]
        congr 1
        unfold rpk
        rw [List.drop_append, List.length_replicate, List.drop_of_length_le (by simp), List.nil_append, List.drop_replicate]
        congr 1; omega
      rw [e2, e3, e4]
      have e5 : bs (List.replicate k 128) ++ (bs (List.replicate (min k (n - k)) 128) ++ bs (List.replicate (n - (k + min k (n - k))) 0)) = bs (rpk n (k + min k (n - k))) := by
        rw [← bs_append, ← bs_append]; unfold rpk; rw [← List.append_assoc, List.replicate_append_replicate]
      rw [e5]
      exact PL.at [7, 8] (ih (n - (k + min k (n - k))) (by omega) (k + min k (n - k)) (by omega) (by omega) rfl) rfl rfl
    · have h4 : k = n := by have := of_decide_eq_false h; omega
      subst h4
      refine PW.exit ?_
      rw [rpk_end]
      (repeat refine PW.seq ?_); refine PW.rg rfl fun K hK => ?_; simp (disch := omega) only [go_sem, ↓reduceIte, reduceCtorEq, pappend, plen]; refine hK _ _ ?_; clear hK K
      refine PW.ret ⟨_, rfl, ?_⟩
      exact Fin.base (Fz.mslC (e := 5) (xs := bs (List.replicate k 128)) (by omega) (hp0 _ _ _) (by simp [length_bs]) (FzC.refl (bs_scoped _ _)))
theorem nAB {A B : Nat} (hA : 1 ≤ A ∧ A ≤ 4) (hB : 1 ≤ B ∧ B ≤ 4) : 1 ≤ A * B ∧ A * B ≤ 16 := ⟨Nat.mul_pos (by omega) (by omega), Nat.mul_le_mul hA.2 hB.2⟩

set_option maxRecDepth 10000 in
theorem flatG_ok (A B : Nat) (hA : 1 ≤ A ∧ A ≤ 4) (hB : 1 ≤ B ∧ B ≤ 4) (H : Heap) : CallOk Tryz.prog 79 [.int .i64 ((16 * A : Nat) : Int), .int .i64 ((16 * B : Nat) : Int), .int .u8 128, .int .u8 128, .int .u8 128] H (.tup [.agg (fmc (flt A B)), .int .i64 0]) H := by
  have fz := fun K => fsz_ok ((16 * A : Nat) : Int) ((16 * B : Nat) : Int) K
  have hfs : fsz ((16 * A : Nat) : Int) ((16 * B : Nat) : Int) = true := by
    simp only [fsz, Bool.and_eq_true, decide_eq_true_eq]; omega
  rw [hfs] at fz
  have nb := nAB hA hB
  have p1 : 16 * A * (16 * B) = 64 * (4 * (A * B)) := by rw [Nat.mul_mul_mul_comm]; omega
  have p2 : 8 * A * (8 * B) = 64 * (A * B) := by rw [Nat.mul_mul_mul_comm]
  have r1 := fun K => repeatG_ok (16 * A * (16 * B)) _ p1 (by omega) K
  have r2 := fun K => repeatG_ok (8 * A * (8 * B)) _ p2 (by omega) K
  rw [flt_c]
  have b1 : 16 * A * (16 * B) ≤ 4096 := by omega
  have b2 : 8 * A * (8 * B) ≤ 4096 := by omega
  have m1 : ((16 * A : Nat) : Int) * ((16 * B : Nat) : Int) = ((16 * A * (16 * B) : Nat) : Int) := (Int.natCast_mul _ _).symm
  have m2 : ((8 * A : Nat) : Int) * ((8 * B : Nat) : Int) = ((8 * A * (8 * B) : Nat) : Int) := (Int.natCast_mul _ _).symm
  have d1 : ((16 * A : Nat) : Int).tdiv 2 = ((8 * A : Nat) : Int) := by rw [tdiv_pos _ _ (by omega)]; omega
  have d2 : ((16 * B : Nat) : Int).tdiv 2 = ((8 * B : Nat) : Int) := by rw [tdiv_pos _ _ (by omega)]; omega
  generalize 16 * A * (16 * B) = n1 at r1 m1 b1 p1 ⊢
  generalize 8 * A * (8 * B) = n2 at r2 m2 b2 p2 ⊢
  generalize List.replicate n1 (128 : UInt8) = P at r1 ⊢
  generalize List.replicate n2 (128 : UInt8) = Q at r2 ⊢
  refine CallOk.body (F0 := [(0, .int .i64 ((16 * A : Nat) : Int)), (1, .int .i64 ((16 * B : Nat) : Int)), (2, .int .u8 128), (3, .int .u8 128), (4, .int .u8 128)]) Tryz.func79 rfl Tryz.ntmps79 Tryz.results79 rfl (by kernel_rfl) rfl ?_
  (repeat refine PW.seq ?_); refine PW.rg rfl fun K hK => ?_; simp (disch := omega) only [go_sem, ↓reduceIte, reduceCtorEq, pappend, plen]; refine hK _ _ ?_; clear hK K
  (repeat refine PW.seq ?_); refine PW.rg rfl fun K hK => ?_; simp (disch := omega) only [go_sem, ↓reduceIte, reduceCtorEq, pappend, plen]; refine VCx.call (fz _) rfl ?_; simp (disch := omega) only [go_sem, ↓reduceIte, reduceCtorEq, pappend, plen]; refine hK _ _ ?_; clear hK K
  (repeat refine PW.seq ?_); refine PW.cond (t := _) rfl (fun h => ?_) (fun h => ?_)
  · cases h
  refine PW.skip ?_
  (repeat refine PW.seq ?_); refine PW.rg rfl fun K hK => ?_; simp (disch := omega) only [go_sem, ↓reduceIte, reduceCtorEq, pappend, plen, d1, d2, m1, m2]; refine hK _ _ ?_; clear hK K
  (repeat refine PW.seq ?_); refine PW.rg rfl fun K hK => ?_; simp (disch := omega) only [go_sem, ↓reduceIte, reduceCtorEq, pappend, plen]; refine VCx.call (r1 _) rfl ?_; simp (disch := omega) only [go_sem, ↓reduceIte, reduceCtorEq, pappend, plen]; refine VCx.call (r2 _) rfl ?_; simp (disch := omega) only [go_sem, ↓reduceIte, reduceCtorEq, pappend, plen]; refine VCx.call (r2 _) rfl ?_; simp (disch := omega) only [go_sem, ↓reduceIte, reduceCtorEq, pappend, plen]; refine hK _ _ ?_; clear hK K
  refine PW.ret ⟨.tup [.agg [.int .i64 ((16 * A : Nat) : Int), .int .i64 ((16 * B : Nat) : Int), .slice (bs P) n1 false, .slice (bs Q) n2 false, .slice (bs Q) n2 false], .int .i64 0], by simp (disch := omega) only [go_sem, ↓reduceIte, reduceCtorEq, pappend, plen, presults, presult, List.mapM_cons, List.mapM_nil, Option.pure_def, Option.bind_eq_bind, Option.bind_some, Array.toList], ?_⟩
  exact Fin.base (.id (fe_scoped _ _ _ _ _ _ _ _ _ _))

set_option maxHeartbeats 1600000 in
set_option maxRecDepth 100000 in
theorem blankG_ref (w h : Int) (N1 N2 : Nat) (hw : 0 ≤ w ∧ w ≤ 64) (hh : 0 ≤ h ∧ h ≤ 64) (m1 : w * h = (N1 : Int)) (m2 : w / 2 * (h / 2) = (N2 : Int)) (hN : 1 ≤ N1 ∧ N1 ≤ 4096 ∧ 1 ≤ N2 ∧ N2 ≤ 4096) (K0 : Heap) : CallOk Tryz.prog 48 [.int .i64 w, .int .i64 h] (K0 ++ [plc, plc, plc]) (.agg [.int .i64 w, .int .i64 h, .msl K0.length 1 0 N1 1 true, .msl (K0.length + 1) 1 0 N2 1 true, .msl (K0.length + 2) 1 0 N2 1 true]) (K0 ++ [zBk N1, zBk N2, zBk N2]) := by
  have d1 : w.tdiv 2 = w / 2 := tdiv_pos _ _ (by omega)
  have d2 : h.tdiv 2 = h / 2 := tdiv_pos _ _ (by omega)
  have z1 : (List.replicate N1 [PV.int .u8 0]).flatten = bs (List.replicate N1 0) := bs_zero N1
  have z2 : (List.replicate N2 [PV.int .u8 0]).flatten = bs (List.replicate N2 0) := bs_zero N2
  refine CallOk.body (F0 := [(0, .int .i64 w), (1, .int .i64 h)]) Tryz.func48 rfl Tryz.ntmps48 Tryz.results48 rfl (by kernel_rfl) rfl ?_
  (repeat refine PW.seq ?_); refine PW.rg rfl fun K hK => ?_; simp (disch := omega) only [go_sem, ↓reduceIte, reduceCtorEq, pappend, plen, plc]; refine hK _ _ ?_; clear hK K
  (repeat refine PW.seq ?_); refine PW.drawi [K0.length, K0.length + 1, K0.length + 2, K0.length + 3] [(4, [3]), (10, [0]), (16, [1]), (22, [2])] [(10, 0), (16, 1), (22, 2)] [] mix (by kernel_rfl) (by simp <;> omega) fun K hK => ?_
  simp (disch := omega) only [go_sem, ↓reduceIte, reduceCtorEq, pappend, plen, arith, plc, d1, d2, m1, m2]
  refine hK _ _ ?_; clear hK K
  rw [z1, z2]
  refine PW.ret ⟨.agg [.int .i64 w, .int .i64 h, .msl K0.length 1 0 N1 1 true, .msl (K0.length + 1) 1 0 N2 1 true, .msl (K0.length + 2) 1 0 N2 1 true], by simp (disch := omega) only [go_sem, ↓reduceIte, reduceCtorEq, pappend, plen, presults, presult, List.mapM_cons, List.mapM_nil, Option.pure_def, Option.bind_eq_bind, Option.bind_some, Array.toList], ?_⟩
  refine Fin.cut (A := K0 ++ [zBk N1, zBk N2, zBk N2]) (List.append_assoc _ [_, _, _] [_]).symm (by simp) (hscP (by simp) fun b hb x hx => ?_) (.id (ag_scoped fun x hx => ?_))
  · simp only [List.mem_cons, List.not_mem_nil, or_false] at hb
    rcases hb with rfl | rfl | rfl <;> exact bs_scoped _ _ x hx
  · simp only [List.mem_cons, List.not_mem_nil, or_false] at hx
    rcases hx with rfl | rfl | rfl | rfl | rfl
    · exact .int _ _
    · exact .int _ _
    · exact .msl (by simp only [List.length_append, List.length_cons, List.length_nil]; omega)
    · exact .msl (by simp only [List.length_append, List.length_cons, List.length_nil]; omega)
    · exact .msl (by simp only [List.length_append, List.length_cons, List.length_nil]; omega)

set_option maxHeartbeats 3200000 in
set_option maxRecDepth 10000 in
theorem flatG_ref (A B : Nat) (hA : 1 ≤ A ∧ A ≤ 4) (hB : 1 ≤ B ∧ B ≤ 4) (H : Heap) : CallOk Tryz.prog 26 [.int .i64 ((16 * A : Nat) : Int), .int .i64 ((16 * B : Nat) : Int), .int .u8 128, .int .u8 128, .int .u8 128] H (.agg (fmc (flt A B))) H := by
  have nb := nAB hA hB
  have p1 : 16 * A * (16 * B) = 64 * (4 * (A * B)) := by rw [Nat.mul_mul_mul_comm]; omega
  have p2 : 8 * A * (8 * B) = 64 * (A * B) := by rw [Nat.mul_mul_mul_comm]
  have b1 : 1 ≤ 16 * A * (16 * B) ∧ 16 * A * (16 * B) ≤ 4096 := by omega
  have b2 : 1 ≤ 8 * A * (8 * B) ∧ 8 * A * (8 * B) ≤ 4096 := by omega
  have m1 : ((16 * A : Nat) : Int) * ((16 * B : Nat) : Int) = ((16 * A * (16 * B) : Nat) : Int) := (Int.natCast_mul _ _).symm
  have d1 : ((16 * A : Nat) : Int) / 2 = ((8 * A : Nat) : Int) := by omega
  have d2 : ((16 * B : Nat) : Int) / 2 = ((8 * B : Nat) : Int) := by omega
  have m2 : ((16 * A : Nat) : Int) / 2 * (((16 * B : Nat) : Int) / 2) = ((8 * A * (8 * B) : Nat) : Int) := by rw [d1, d2]; exact (Int.natCast_mul _ _).symm
  have bl := blankG_ref ((16 * A : Nat) : Int) ((16 * B : Nat) : Int) _ _ (by omega) (by omega) m1 m2 (by omega) (H ++ [⟨53, 0, [PV.int .i64 0, PV.int .i64 0, PV.slice [] 0 true, PV.slice [] 0 true, PV.slice [] 0 true]⟩])
  rw [flt_c]
  generalize 16 * A * (16 * B) = N1 at bl b1 ⊢
  generalize 8 * A * (8 * B) = N2 at bl b2 ⊢
  clear p1 p2 m1 m2 d1 d2
  rw [zBk_fl N1 (fun _ => 128), zBk_fl N2 (fun _ => 128)] at bl
  simp only [plc, hl1, List.append_assoc, List.cons_append, List.nil_append, Nat.add_assoc, Nat.reduceAdd] at bl
  rw [← fl_128, ← fl_128, ← flB_end, ← flB_end]
  have fs := fun (N k : Nat) => flB_set (N := N) (f := fun _ => 128) (n := k) (by decide)
  have fl := fun N k => flB_len N (fun _ => 128) k
  generalize hw : ((16 * A : Nat) : Int) = w at bl ⊢
  generalize hh : ((16 * B : Nat) : Int) = ht at bl ⊢
  refine CallOk.body (F0 := [(0, .int .i64 w), (1, .int .i64 ht), (2, .int .u8 128), (3, .int .u8 128), (4, .int .u8 128)]) Tryz.func26 rfl Tryz.ntmps26 Tryz.results26 rfl (by kernel_rfl) rfl ?_
  (repeat refine PW.seq ?_); refine PW.rg rfl fun K hK => ?_; simp (disch := omega) only [go_sem, ↓reduceIte, reduceCtorEq, pappend, plen]; refine hK _ _ ?_; clear hK K
  refine PW.view (Vs.place 5) ?_
  refine PW.view (Vs.place 5) ?_
  refine PW.view (Vs.place 5) ?_
  (repeat refine PW.seq ?_); refine PW.rg rfl fun K hK => ?_; simp (disch := omega) only [go_sem, ↓reduceIte, reduceCtorEq, pappend, plen]; refine VCx.call (bl) rfl ?_; simp (disch := omega) only [go_sem, ↓reduceIte, reduceCtorEq, pappend, plen]; refine hK _ _ ?_; clear hK K
  (repeat refine PW.seq ?_); refine PW.rg rfl fun K hK => ?_; simp (disch := omega) only [go_sem, ↓reduceIte, reduceCtorEq, pappend, plen]; refine hK _ _ ?_; clear hK K
  (repeat refine PW.seq ?_); refine PW.block (PW.loop ?_)
  suffices h1 : ∀ k : Nat, k ≤ N1 → PL Tryz.prog _ _ [(2, .int .u8 128), (3, .int .u8 128), (4, .int .u8 128), (10, .ptr H.length 0 0), (11, .ptr (H.length + 4) 0 0), (12, .int .i64 (k : Int))] (H ++ [⟨53, 0, [PV.int .i64 0, PV.int .i64 0, PV.slice [] 0 true, PV.slice [] 0 true, PV.slice [] 0 true]⟩, ⟨5, 1, bs (flB N1 (fun _ => 128) k)⟩, ⟨5, 1, bs (flB N2 (fun _ => 128) 0)⟩, ⟨5, 1, bs (flB N2 (fun _ => 128) 0)⟩, ⟨53, 0, [.int .i64 w, .int .i64 ht, .msl (H.length + 1) 1 0 N1 1 true, .msl (H.length + 2) 1 0 N2 1 true, .msl (H.length + 3) 1 0 N2 1 true]⟩]) _ by
    exact PL.at [2, 3, 4, 10, 11, 12] (h1 0 (by omega)) rfl rfl
  refine cnt N1 (fun k hk ih => ?_) ?_
  · have ct := lt_t hk
    refine PL.round ?_; (repeat refine PW.seq ?_); refine PW.rg rfl fun K hK => ?_; simp (disch := omega) only [go_sem, ↓reduceIte, reduceCtorEq, pappend, plen, ct]; refine hK _ _ ?_; clear hK K; (repeat refine PW.seq ?_); refine PW.cond (t := _) rfl (fun h => ?_) (fun h => ?_)
    rotate_left
    · cases h
    refine PW.skip ?_; (repeat refine PW.seq ?_); refine PW.block ?_
    (repeat refine PW.seq ?_); refine PW.rg rfl fun K hK => ?_; simp (disch := omega) only [go_sem, ↓reduceIte, reduceCtorEq, pappend, plen, length_bs, fl, fs]; refine hK _ _ ?_; clear hK K
    (repeat refine PW.seq ?_); refine PW.rg rfl fun K hK => ?_; simp (disch := omega) only [go_sem, ↓reduceIte, reduceCtorEq, pappend, plen]; refine hK _ _ ?_; clear hK K
    exact PL.at [2, 3, 4, 10, 11, 12] ih rfl rfl
  refine PL.round ?_; (repeat refine PW.seq ?_); refine PW.rg rfl fun K hK => ?_; simp (disch := omega) only [go_sem, ↓reduceIte, reduceCtorEq, pappend, plen, lt_f N1]; refine hK _ _ ?_; clear hK K; (repeat refine PW.seq ?_); refine PW.cond (t := _) rfl (fun h => ?_) (fun h => ?_)
  · cases h
  refine PW.exit ?_
  (repeat refine PW.seq ?_); refine PW.rg rfl fun K hK => ?_; simp (disch := omega) only [go_sem, ↓reduceIte, reduceCtorEq, pappend, plen]; refine hK _ _ ?_; clear hK K
  (repeat refine PW.seq ?_); refine PW.block (PW.loop ?_)
  suffices h1 : ∀ k : Nat, k ≤ N2 → PL Tryz.prog _ _ [(3, .int .u8 128), (4, .int .u8 128), (10, .ptr H.length 0 0), (11, .ptr (H.length + 4) 0 0), (13, .int .i64 (k : Int))] (H ++ [⟨53, 0, [PV.int .i64 0, PV.int .i64 0, PV.slice [] 0 true, PV.slice [] 0 true, PV.slice [] 0 true]⟩, ⟨5, 1, bs (flB N1 (fun _ => 128) N1)⟩, ⟨5, 1, bs (flB N2 (fun _ => 128) k)⟩, ⟨5, 1, bs (flB N2 (fun _ => 128) k)⟩, ⟨53, 0, [.int .i64 w, .int .i64 ht, .msl (H.length + 1) 1 0 N1 1 true, .msl (H.length + 2) 1 0 N2 1 true, .msl (H.length + 3) 1 0 N2 1 true]⟩]) _ by
    exact PL.at [3, 4, 10, 11, 13] (h1 0 (by omega)) rfl rfl
  refine cnt N2 (fun k hk ih => ?_) ?_
  · have ct := lt_t hk
    refine PL.round ?_; (repeat refine PW.seq ?_); refine PW.rg rfl fun K hK => ?_; simp (disch := omega) only [go_sem, ↓reduceIte, reduceCtorEq, pappend, plen, ct]; refine hK _ _ ?_; clear hK K; (repeat refine PW.seq ?_); refine PW.cond (t := _) rfl (fun h => ?_) (fun h => ?_)
    rotate_left
    · cases h
    refine PW.skip ?_; (repeat refine PW.seq ?_); refine PW.block ?_
    (repeat refine PW.seq ?_); refine PW.drawi [H.length + 2, H.length + 3] [(37, [0]), (44, [0]), (40, [1]), (45, [1])] [] [] mix (by kernel_rfl) (by simp <;> omega) fun K hK => ?_
    simp (disch := omega) only [go_sem, ↓reduceIte, reduceCtorEq, pappend, plen, arith, length_bs, fl, fs]
    refine hK _ _ ?_; clear hK K
    (repeat refine PW.seq ?_); refine PW.rg rfl fun K hK => ?_; simp (disch := omega) only [go_sem, ↓reduceIte, reduceCtorEq, pappend, plen]; refine hK _ _ ?_; clear hK K
    exact PL.at [3, 4, 10, 11, 13] ih rfl rfl
  refine PL.round ?_; (repeat refine PW.seq ?_); refine PW.rg rfl fun K hK => ?_; simp (disch := omega) only [go_sem, ↓reduceIte, reduceCtorEq, pappend, plen, lt_f N2]; refine hK _ _ ?_; clear hK K; (repeat refine PW.seq ?_); refine PW.cond (t := _) rfl (fun h => ?_) (fun h => ?_)
  · cases h
  refine PW.exit ?_
  (repeat refine PW.seq ?_); refine PW.rg rfl fun K hK => ?_; simp (disch := omega) only [go_sem, ↓reduceIte, reduceCtorEq, pappend, plen]; refine hK _ _ ?_; clear hK K
  refine PW.ret ⟨.agg [.int .i64 w, .int .i64 ht, .msl (H.length + 1) 1 0 N1 1 true, .msl (H.length + 2) 1 0 N2 1 true, .msl (H.length + 3) 1 0 N2 1 true], by simp (disch := omega) only [go_sem, ↓reduceIte, reduceCtorEq, pappend, plen, presults, presult, List.mapM_cons, List.mapM_nil, Option.pure_def, Option.bind_eq_bind, Option.bind_some, Array.toList], ?_⟩
  refine Fin.base (Fz.aggC ⟨.id (.int _ _), .id (.int _ _), Fz.mslC (e := 5) (xs := bs (flB N1 (fun _ => 128) N1)) (by omega) (apn _ _ 1) (by rw [length_bs, fl]; omega) (FzC.refl (bs_scoped _ _)), Fz.mslC (e := 5) (xs := bs (flB N2 (fun _ => 128) N2)) (by omega) (apn _ _ 2) (by rw [length_bs, fl]; omega) (FzC.refl (bs_scoped _ _)), Fz.mslC (e := 5) (xs := bs (flB N2 (fun _ => 128) N2)) (by omega) (apn _ _ 3) (by rw [length_bs, fl]; omega) (FzC.refl (bs_scoped _ _)), trivial⟩)

end Go.Proofs.YtahomnplappbpaaGreatDoor.Sc

namespace Go.Proofs.YtahomnplappbpaaGreatDoor.Sc
set_option linter.all false
set_option linter.unusedVariables false
set_option linter.unusedSimpArgs false
open Pm Ty Go.RowKit

theorem sqk_cell (s : Sq) : (sqc s).all PV.cell = true := by simp [sqc, bs, PV.cell]
theorem sqk_len (s : Sq) (hs : SqOk s) : (sqc s).length = 135 := by
  obtain ⟨_, _, _, _, _, _, h1, h2⟩ := hs
  simp [sqc, length_bs, h1, h2]
theorem sqc_tk (s : Sq) (hs : SqOk s) : List.take 135 (sqc s) = sqc s := List.take_of_length_le (by rw [sqk_len s hs]; exact Nat.le_refl _)
theorem sqc_w (s : Sq) : (sqc s)[0]? = some (.int .i64 s.w) := rfl
/-- Is the header valid for the sequence, and may it be a second field? -/
def fitB (s : Sq) (p : Pi) (b : Bool) : Bool := pvalid s p && !(b && decide (p.st = 3))
theorem fits_ok (s : Sq) (p : Pi) (b : Bool) (H : Heap) (hs : SqOk s) : CallOk Tryz.prog 116 [.agg (sqc s), .agg (pic p), .bool b] H (.bool (fitB s p b)) H := by
  have pv := fun K => pvalid_ok s p K hs
  have h1 := sqk_cell s
  have h2 := sqk_len s hs
  have h3 := sqc_tk s hs
  have hst : (p.st == 3) = decide (p.st = 3) := rfl
  generalize hr : fitB s p b = r
  unfold fitB at hr
  generalize pvalid s p = v at *
  refine CallOk.body (F0 := [(0, .agg (sqc s)), (1, .agg (pic p)), (2, .bool b)]) Tryz.func116 rfl Tryz.ntmps116 Tryz.results116 rfl (by kernel_rfl) rfl ?_
  (repeat refine PW.seq ?_); refine PW.rg rfl fun K hK => ?_; simp (disch := omega) only [go_sem, ↓reduceIte, reduceCtorEq, pappend, plen, h1, pic]; refine hK _ _ ?_; clear hK K
  cases v <;> cases b
  all_goals
    (repeat refine PW.seq ?_); refine PW.rg rfl fun K hK => ?_; simp (disch := omega) only [go_sem, ↓reduceIte, reduceCtorEq, pappend, plen, h2, h3]
    refine VCx.call (pv _) rfl ?_; simp (disch := omega) only [go_sem, ↓reduceIte, reduceCtorEq, pappend, plen]; refine hK _ _ ?_; clear hK K
    refine PW.ret ⟨_, rfl, Fin.base (.id' ?_ (.bool _))⟩
    subst hr
    first | (simp [slot, Nat.beq]; done) | (simp [slot, Nat.beq]; rfl)
end Go.Proofs.YtahomnplappbpaaGreatDoor.Sc
