/-
  Contracts of the codes of numbers: package vlc and its reference.
-/
import Derived.Test.YthmladiijdlgkaaGreatBy
import Derived.Test.YthmladiijdlgkaaGreatPmZ
namespace Go.Proofs.YthmladiijdlgkaaGreat.Sc
set_option linter.all false
set_option linter.unusedVariables false
set_option linter.unusedSimpArgs false
open Pm Ty Go.RowKit
theorem _root_.Go.Proofs.YthmladiijdlgkaaGreat.Pm.CallOk.fin {P : Program} {f : FuncId} {args : List PV} {v v' : PV} {H H1 Hout : Heap} (h : CallOk P f args H v' H1) (hf : HSc H → H.length ≤ Hout.length ∧ CutH H1 Hout ∧ Fz Hout.length H1 v' v) : CallOk P f args H v Hout :=
  ⟨h.1, fun C us w hw hargs => (h.2 C us w hw hargs).mono fun e w' ⟨C', u, q1, q2, q3, q4, q5⟩ => by
    obtain ⟨hlen, hcut, hfz⟩ := hf hw.hsc
    obtain ⟨g1, g2⟩ := q2.cutN hcut
    exact ⟨_, u, ((q1.toN _).trans (g1.less hlen)).full hw.lenv, g2, q3, q4, hfz.sound q2 q5⟩⟩
theorem _root_.Go.Proofs.YthmladiijdlgkaaGreat.Pm.CallOk.base {P : Program} {f : FuncId} {args : List PV} {v v' : PV} {H K : Heap} (h : CallOk P f args H v' (H ++ K)) (hf : Fz H.length (H ++ K) v' v) : CallOk P f args H v H :=
  h.fin fun hs => ⟨Nat.le_refl _, CutH.base hs, hf⟩
theorem two_two (H : Heap) (i j : Nat) (A B A' B' : Blk) (h : i ≠ j) : two (two H i j A B) i j A' B' = two H i j A' B' := by
  unfold two
  rw [List.set_comm _ _ (Ne.symm h), List.set_set, List.set_set]
def eg (v : Nat) : List Bool := vbits 0 (Nat.log2 (v + 1)) ++ vbits (v + 1) (Nat.log2 (v + 1) + 1)
def fld (v : Int) : Nat := if 0 < v then (2 * v - 1).toNat else (-2 * v).toNat
def sg (v : Int) : List Bool := eg (fld v)
theorem log2_b (v : Nat) (h : v ≤ 65534) : Nat.log2 (v + 1) ≤ 15 := by
  have := (Nat.log2_lt (n := v + 1) (by omega) (k := 16)).2 (by omega)
  omega
theorem eg_len (v : Nat) (h : v ≤ 65534) : (eg v).length ≤ 31 := by
  have := log2_b v h
  simp [eg, vbits_len]; omega
theorem fld_b (v : Int) (h : -32767 ≤ v ∧ v ≤ 32767) : fld v ≤ 65534 := by unfold fld; split <;> omega
theorem sg_len (v : Int) (h : -32767 ≤ v ∧ v ≤ 32767) : (sg v).length ≤ 31 := eg_len _ (fld_b v h)
theorem bits_frz (V n : Nat) (H : Heap) (hn : n ≤ 32) : CallOk Tryz.prog 20 [.int .u32 (V : Int), .int .i64 (n : Int)] H (.slice (bs (zb (vbits V n))) n false) H :=
  (bits_ref V n H hn).base (Fz.mslC (e := 5) (xs := bs (zb (vbits V n))) (Nat.le_refl _) (by simp) (by simp [length_bs, zb_len, vbits_len]) (FzC.refl (bs_scoped _ _)))
def bytN (T : List UInt8) (x : Nat) : Nat := (T.getD x 0).toNat
theorem bytN_i (T : List UInt8) (x : Nat) : ((T.getD x 0).toNat : Int) = (bytN T x : Int) := rfl
theorem bytN_b (T : List UInt8) (x : Nat) : bytN T x < 256 := by unfold bytN; exact UInt8.toNat_lt _
theorem bytN_w (T : List UInt8) (x : Nat) : IntKind.i64.wrap (bytN T x : Int) = (bytN T x : Int) := w64 _ (by have := bytN_b T x; omega)
theorem bytN_w8 (T : List UInt8) (x : Nat) : IntKind.i64.wrap (8 + (bytN T x : Int)) = 8 + (bytN T x : Int) := w64 _ (by have := bytN_b T x; omega)
theorem bytN_w0 (T : List UInt8) (x : Nat) : IntKind.i64.wrap (0 + (bytN T x : Int)) = (bytN T x : Int) := by rw [Int.zero_add]; exact bytN_w T x
theorem bytN_w08 (T : List UInt8) (x : Nat) : IntKind.i64.wrap (0 + 8 + (bytN T x : Int)) = 8 + (bytN T x : Int) := bytN_w8 T x
theorem log2_div (x : Nat) (h : 256 ≤ x) : Nat.log2 x = Nat.log2 (x / 256) + 8 := by
  have h1 : x / 256 ≠ 0 := by omega
  have a := Nat.log2_self_le h1
  have b := @Nat.lt_log2_self (x / 256)
  generalize Nat.log2 (x / 256) = k at *
  have e8 : 2 ^ (k + 8) = 256 * 2 ^ k := by rw [Nat.pow_add]; omega
  have e9 : 2 ^ (k + 8 + 1) = 256 * 2 ^ (k + 1) := by rw [show k + 8 + 1 = k + 1 + 8 by omega, Nat.pow_add (m := k + 1)]; omega
  have l1 := (Nat.le_log2 (n := x) (k := k + 8) (by omega)).2 (by omega)
  have l2 := (Nat.log2_lt (n := x) (k := k + 8 + 1) (by omega)).2 (by omega)
  omega
set_option maxRecDepth 100000 in
theorem len64_ok (x : Nat) (H : Heap) (h : 0 < x ∧ x < 65536) : CallOk Tryz.prog 111 [.int .u64 (x : Int)] H (.int .i64 ((Nat.log2 x + 1 : Nat) : Int)) H := by
  obtain ⟨h0, h1⟩ := h
  refine CallOk.body (F0 := [(0, .int .u64 (x : Int))]) Tryz.func111 rfl Tryz.ntmps111 Tryz.results111 rfl (by kernel_rfl) rfl ?_
  have d1 : decide (4294967296 ≤ (x : Int)) = false := decide_eq_false (by omega)
  have d2 : decide (65536 ≤ (x : Int)) = false := decide_eq_false (by omega)
  (repeat refine PW.seq ?_); refine PW.rg rfl fun K hK => ?_; simp (disch:=omega) only [go_sem]; refine hK _ _ ?_; clear hK K
  (repeat refine PW.seq ?_); refine PW.rg rfl fun K hK => ?_; simp (disch:=omega) only [go_sem, ↓reduceIte, d1]; refine hK _ _ ?_; clear hK K
  (repeat refine PW.seq ?_); refine PW.cond (t := _) rfl (fun h => ?_) (fun h => ?_)
  · cases h
  refine PW.skip ?_
  clear h
  (repeat refine PW.seq ?_); refine PW.rg rfl fun K hK => ?_; simp (disch:=omega) only [go_sem, ↓reduceIte, d2]; refine hK _ _ ?_; clear hK K
  (repeat refine PW.seq ?_); refine PW.cond (t := _) rfl (fun h => ?_) (fun h => ?_)
  · cases h
  refine PW.skip ?_
  clear h
  (repeat refine PW.seq ?_); refine PW.rg rfl fun K hK => ?_; simp (disch:=omega) only [go_sem, ↓reduceIte]; refine hK _ _ ?_; clear hK K
  by_cases hx : x < 256
  · have d3 : decide (256 ≤ (x : Int)) = false := decide_eq_false (by omega)
    rw [d3]
    (repeat refine PW.seq ?_); refine PW.cond (t := _) rfl (fun h => ?_) (fun h => ?_)
    · cases h
    clear h
    refine PW.skip ?_
    (repeat refine PW.seq ?_); refine PW.rg rfl fun K hK => ?_; simp (disch:=omega) only [go_sem]
    rw [if_pos ⟨by omega, Int.ofNat_lt.2 (show x < 256 from hx)⟩]
    simp only [bytN_i]
    simp (disch:=omega) only [go_sem, ↓reduceIte, bytN_w, bytN_w0]
    refine hK _ _ ?_; clear hK K
    (refine PW.ret ⟨_, rfl, ?_⟩; first | refine .inl ⟨?_, rfl⟩ | refine Fin.base (.id' ?_ (.bool _)) | refine Fin.base (.id' ?_ (.int _ _)))
    show PV.int .i64 _ = _
    congr 1
    refine congrArg (Nat.cast (R := Int)) ?_
    clear d1 d2 d3 h1
    revert h0
    revert hx
    revert x
    decide +kernel
  · have d3 : decide (256 ≤ (x : Int)) = true := decide_eq_true (by omega)
    rw [d3]
    (repeat refine PW.seq ?_); refine PW.cond (t := _) rfl (fun h => ?_) (fun h => ?_)
    rotate_left
    · cases h
    clear h
    have hx2 : x / 256 < 256 := by omega
    have hld := log2_div x (by omega)
    have hsh : pint .shr .u64 (x : Int) .u64 8 = some (.int .u64 ((x / 256 : Nat) : Int)) := by
      simp only [pint, IntKind.bits]
      rw [if_neg (by omega), show ((2 : Int) ^ min (Int.toNat 8) 64) = ((256 : Nat) : Int) from rfl, fdivN]
    have h0' : 0 < x / 256 := by omega
    rw [hld]
    generalize x / 256 = y at *
    (repeat refine PW.seq ?_); refine PW.rg rfl fun K hK => ?_; simp (disch:=omega) only [go_sem, hsh]; refine hK _ _ ?_; clear hK K
    (repeat refine PW.seq ?_); refine PW.rg rfl fun K hK => ?_; simp (disch:=omega) only [go_sem, ↓reduceIte]; refine hK _ _ ?_; clear hK K
    (repeat refine PW.seq ?_); refine PW.rg rfl fun K hK => ?_; simp (disch:=omega) only [go_sem]
    rw [if_pos ⟨by omega, Int.ofNat_lt.2 (show y < 256 from hx2)⟩]
    simp only [bytN_i]
    simp (disch:=omega) only [go_sem, ↓reduceIte, bytN_w, bytN_w08]
    refine hK _ _ ?_; clear hK K
    (refine PW.ret ⟨_, rfl, ?_⟩; first | refine .inl ⟨?_, rfl⟩ | refine Fin.base (.id' ?_ (.bool _)) | refine Fin.base (.id' ?_ (.int _ _)))
    show PV.int .i64 _ = _
    congr 1
    rw [show ((Nat.log2 y + 8 + 1 : Nat) : Int) = 8 + ((Nat.log2 y + 1 : Nat) : Int) by omega]
    congr 1
    refine congrArg (Nat.cast (R := Int)) ?_
    clear d1 d2 d3 h1 hsh hld hx h0
    revert h0'
    revert hx2
    revert y
    decide +kernel
theorem len_ok (x : Nat) (H : Heap) (h : 0 < x ∧ x < 65536) : CallOk Tryz.prog 98 [.int .u64 (x : Int)] H (.int .i64 ((Nat.log2 x + 1 : Nat) : Int)) H := by
  have lo := fun K => len64_ok x K h
  refine CallOk.body (F0 := [(0, .int .u64 (x : Int))]) Tryz.func98 rfl Tryz.ntmps98 Tryz.results98 rfl (by kernel_rfl) rfl ?_
  (repeat refine PW.seq ?_); refine PW.rg rfl fun K hK => ?_; simp (disch:=omega) only [go_sem]; refine hK _ _ ?_; clear hK K
  (repeat refine PW.seq ?_); refine PW.cond (t := _) rfl (fun h => ?_) (fun h => ?_)
  · cases h
  refine PW.skip ?_
  (repeat refine PW.seq ?_); refine PW.rg rfl fun K hK => ?_; simp (disch:=omega) only [go_sem]; refine VCx.call (lo _) rfl ?_; simp (disch:=omega) only [go_sem]; refine hK _ _ ?_; clear hK K
  (refine PW.ret ⟨_, rfl, ?_⟩; first | refine .inl ⟨?_, rfl⟩ | refine Fin.base (.id' ?_ (.bool _)) | refine Fin.base (.id' ?_ (.int _ _)))
  rfl
theorem pu_ok (i j : Nat) (l : List Bool) (v : Nat) (H : Heap) (hA : H[i]? = some (wA j l)) (hB : H[j]? = some (wB l)) (hne : i ≠ j) (hv : v ≤ 65534) (hl : l.length ≤ 900000000) :
    CallOk Tryz.prog 70 [.ptr i 0 0, .int .i64 (v : Int)] H (.int .i64 0) (two H i j (wA j (l ++ eg v)) (wB (l ++ eg v))) := by
  have hi := (List.getElem?_eq_some_iff.1 hA).1
  have hj := (List.getElem?_eq_some_iff.1 hB).1
  have hk := log2_b v hv
  have e1 : ((Nat.log2 (v + 1) + 1 : Nat) : Int) - 1 = (Nat.log2 (v + 1) : Int) := by omega
  have e2 : (v : Int) + 1 = ((v + 1 : Nat) : Int) := by omega
  have e3 : (Nat.log2 (v + 1) : Int) + 1 = ((Nat.log2 (v + 1) + 1 : Nat) : Int) := by omega
  have hlo := fun K => len_ok (v + 1) K (by omega)
  have hpz : (v + 1) / 2 ^ (Nat.log2 (v + 1) + 1) = 0 := Nat.div_eq_of_lt Nat.lt_log2_self
  have p1 := put_ok i j l 0 (Nat.log2 (v + 1)) H hA hB hne (by omega) (Nat.zero_div _) (by omega)
  have hl1 : (l ++ vbits 0 (Nat.log2 (v + 1))).length ≤ 1000000000 := by simp [vbits_len]; omega
  have p2 := put_ok i j (l ++ vbits 0 (Nat.log2 (v + 1))) (v + 1) (Nat.log2 (v + 1) + 1) _ (two_0 H i j (wA j (l ++ vbits 0 (Nat.log2 (v + 1)))) (wB (l ++ vbits 0 (Nat.log2 (v + 1)))) ⟨hi, hne⟩) (two_1 H i j (wA j (l ++ vbits 0 (Nat.log2 (v + 1)))) (wB (l ++ vbits 0 (Nat.log2 (v + 1)))) hj) hne (by omega) hpz hl1
  rw [two_two _ _ _ _ _ _ _ hne, List.append_assoc] at p2
  change CallOk _ _ _ _ _ (two H i j (wA j (l ++ eg v)) (wB (l ++ eg v))) at p2
  generalize two H i j (wA j (l ++ eg v)) (wB (l ++ eg v)) = Hz at *
  generalize two H i j (wA j (l ++ vbits 0 (Nat.log2 (v + 1)))) (wB (l ++ vbits 0 (Nat.log2 (v + 1)))) = Hy at *
  generalize Nat.log2 (v + 1) = k at *
  refine CallOk.body (F0 := [(0, .ptr i 0 0), (1, .int .i64 (v : Int))]) Tryz.func70 rfl Tryz.ntmps70 Tryz.results70 rfl (by kernel_rfl) rfl ?_
  (repeat refine PW.seq ?_); refine PW.rg rfl fun K hK => ?_; simp (disch:=omega) only [go_sem]; refine hK _ _ ?_; clear hK K
  (repeat refine PW.seq ?_); refine PW.rg rfl fun K hK => ?_; simp (disch:=omega) only [go_sem, hA, wA]; refine hK _ _ ?_; clear hK K
  (repeat refine PW.seq ?_); refine PW.cond (t := _) rfl (fun h => ?_) (fun h => ?_)
  · cases h
  refine PW.skip ?_
  have d1 : decide ((v : Int) < 0) = false := decide_eq_false (by omega)
  have d2 : decide ((65534 : Int) < (v : Int)) = false := decide_eq_false (by omega)
  (repeat refine PW.seq ?_); refine PW.rg rfl fun K hK => ?_; simp (disch:=omega) only [go_sem, ↓reduceIte, d1, d2]; refine hK _ _ ?_; clear hK K
  (repeat refine PW.seq ?_); refine PW.cond (t := _) rfl (fun h => ?_) (fun h => ?_)
  · cases h
  refine PW.skip ?_
  (repeat refine PW.seq ?_); refine PW.rg rfl fun K hK => ?_; simp (disch:=omega) only [go_sem]; refine hK _ _ ?_; clear hK K
  (repeat refine PW.seq ?_); refine PW.rg rfl fun K hK => ?_; simp (disch:=omega) only [go_sem, ↓reduceIte, e2, wu64]; refine VCx.call (hlo _) rfl ?_; simp (disch:=omega) only [go_sem, ↓reduceIte, e1]; refine hK _ _ ?_; clear hK K
  (repeat refine PW.seq ?_); refine PW.rg rfl fun K hK => ?_; simp (disch:=omega) only [go_sem]; refine VCx.call (p1) rfl ?_; simp (disch:=omega) only [go_sem]; refine hK _ _ ?_; clear hK K
  (repeat refine PW.seq ?_); refine PW.rg rfl fun K hK => ?_; simp (disch:=omega) only [go_sem, ↓reduceIte]; refine hK _ _ ?_; clear hK K
  (repeat refine PW.seq ?_); refine PW.cond (t := _) rfl (fun h => ?_) (fun h => ?_)
  · cases h
  refine PW.skip ?_
  (repeat refine PW.seq ?_); refine PW.rg rfl fun K hK => ?_; simp (disch:=omega) only [go_sem, ↓reduceIte, e2, e3]; refine VCx.call (p2) rfl ?_; simp (disch:=omega) only [go_sem]; refine hK _ _ ?_; clear hK K
  exact PW.ret ⟨_, rfl, Fin.now⟩
theorem fold_ok (v : Int) (H : Heap) (hv : -32767 ≤ v ∧ v ≤ 32767) : CallOk Tryz.prog 100 [.int .i64 v] H (.int .i64 (fld v : Int)) H := by
  refine CallOk.body (F0 := [(0, .int .i64 v)]) Tryz.func100 rfl Tryz.ntmps100 Tryz.results100 rfl (by kernel_rfl) rfl ?_
  (repeat' (first | refine PW.seq ?_ | refine PW.skip ?_ | refine PW.block ?_ | (refine PW.rg rfl fun K hK => ?_; simp (disch:=omega) only [go_sem, ↓reduceIte]) | (refine PW.draw mix (by kernel_rfl) fun K hK => ?_; simp (disch:=omega) only [go_sem, ↓reduceIte, reduceCtorEq, pappend, plen]) | (refine PW.drawg mix (by kernel_rfl) fun K hK => ?_; simp (disch:=omega) only [go_sem, ↓reduceIte, reduceCtorEq, pappend, plen]) | (refine PW.drawt [] [] mix (by kernel_rfl) fun K hK => ?_; simp (disch:=omega) only [go_sem, ↓reduceIte, reduceCtorEq, pappend, plen]) | ((first | refine VO_cond (fun h => ?_) (fun h => ?_) | refine VOd_cond (fun h => ?_) (fun h => ?_) | refine VOg_cond (fun h => ?_) (fun h => ?_) | refine VOh_cond (fun h => ?_) (fun h => ?_) | refine VOi_cond (fun h => ?_) (fun h => ?_) | refine And.intro (fun h => ?_) (fun h => ?_)) <;> (try simp only [Bool.not_eq_true', Bool.not_eq_false', decide_eq_true_eq, decide_eq_false_iff_not] at h) <;> simp (disch:=omega) only [go_sem, ↓reduceIte, reduceCtorEq, pappend, plen, h]) | (refine hK _ _ ?_; clear hK K) | (refine PW.cond (t := _) rfl (fun h => ?_) (fun h => ?_) <;> (try (cases h; done)) <;> (try simp only [decide_eq_true_eq, decide_eq_false_iff_not] at h))))
  all_goals ((refine PW.ret ⟨_, rfl, ?_⟩; first | refine .inl ⟨?_, rfl⟩ | refine Fin.base (.id' ?_ (.bool _)) | refine Fin.base (.id' ?_ (.int _ _))); simp (disch:=omega) only [go_sem]; unfold fld; split <;> simp_all <;> omega)
theorem unsg_ref (v : Int) (H : Heap) (hv : -32767 ≤ v ∧ v ≤ 32767) : CallOk Tryz.prog 86 [.int .i64 v] H (.int .i64 (fld v : Int)) H := by
  refine CallOk.body (F0 := [(0, .int .i64 v)]) Tryz.func86 rfl Tryz.ntmps86 Tryz.results86 rfl (by kernel_rfl) rfl ?_
  (repeat' (first | refine PW.seq ?_ | refine PW.skip ?_ | refine PW.block ?_ | (refine PW.rg rfl fun K hK => ?_; simp (disch:=omega) only [go_sem, ↓reduceIte]) | (refine PW.draw mix (by kernel_rfl) fun K hK => ?_; simp (disch:=omega) only [go_sem, ↓reduceIte, reduceCtorEq, pappend, plen]) | (refine PW.drawg mix (by kernel_rfl) fun K hK => ?_; simp (disch:=omega) only [go_sem, ↓reduceIte, reduceCtorEq, pappend, plen]) | (refine PW.drawt [] [] mix (by kernel_rfl) fun K hK => ?_; simp (disch:=omega) only [go_sem, ↓reduceIte, reduceCtorEq, pappend, plen]) | ((first | refine VO_cond (fun h => ?_) (fun h => ?_) | refine VOd_cond (fun h => ?_) (fun h => ?_) | refine VOg_cond (fun h => ?_) (fun h => ?_) | refine VOh_cond (fun h => ?_) (fun h => ?_) | refine VOi_cond (fun h => ?_) (fun h => ?_) | refine And.intro (fun h => ?_) (fun h => ?_)) <;> (try simp only [Bool.not_eq_true', Bool.not_eq_false', decide_eq_true_eq, decide_eq_false_iff_not] at h) <;> simp (disch:=omega) only [go_sem, ↓reduceIte, reduceCtorEq, pappend, plen, h]) | (refine hK _ _ ?_; clear hK K) | (refine PW.cond (t := _) rfl (fun h => ?_) (fun h => ?_) <;> (try (cases h; done)) <;> (try simp only [decide_eq_true_eq, decide_eq_false_iff_not] at h))))
  all_goals ((refine PW.ret ⟨_, rfl, ?_⟩; first | refine .inl ⟨?_, rfl⟩ | refine Fin.base (.id' ?_ (.bool _)) | refine Fin.base (.id' ?_ (.int _ _))); simp (disch:=omega) only [go_sem]; unfold fld; split <;> simp_all <;> omega)
theorem ps_ok (i j : Nat) (l : List Bool) (v : Int) (H : Heap) (hA : H[i]? = some (wA j l)) (hB : H[j]? = some (wB l)) (hne : i ≠ j) (hv : -32767 ≤ v ∧ v ≤ 32767) (hl : l.length ≤ 900000000) :
    CallOk Tryz.prog 75 [.ptr i 0 0, .int .i64 v] H (.int .i64 0) (two H i j (wA j (l ++ sg v)) (wB (l ++ sg v))) := by
  have fo := fun K => fold_ok v K hv
  have po := pu_ok i j l (fld v) H hA hB hne (fld_b v hv) hl
  change CallOk _ _ _ _ _ (two H i j (wA j (l ++ sg v)) (wB (l ++ sg v))) at po
  generalize two H i j (wA j (l ++ sg v)) (wB (l ++ sg v)) = Hz at *
  refine CallOk.body (F0 := [(0, .ptr i 0 0), (1, .int .i64 v)]) Tryz.func75 rfl Tryz.ntmps75 Tryz.results75 rfl (by kernel_rfl) rfl ?_
  (repeat refine PW.seq ?_); refine PW.rg rfl fun K hK => ?_; simp (disch:=omega) only [go_sem]; refine hK _ _ ?_; clear hK K
  (repeat refine PW.seq ?_); refine PW.rg rfl fun K hK => ?_; simp (disch:=omega) only [go_sem, hA, wA]; refine hK _ _ ?_; clear hK K
  (repeat refine PW.seq ?_); refine PW.cond (t := _) rfl (fun h => ?_) (fun h => ?_)
  · cases h
  refine PW.skip ?_
  have d1 : decide (v < -32767) = false := decide_eq_false (by omega)
  have d2 : decide ((32767 : Int) < v) = false := decide_eq_false (by omega)
  (repeat refine PW.seq ?_); refine PW.rg rfl fun K hK => ?_; simp (disch:=omega) only [go_sem, ↓reduceIte, d1, d2]; refine hK _ _ ?_; clear hK K
  (repeat refine PW.seq ?_); refine PW.cond (t := _) rfl (fun h => ?_) (fun h => ?_)
  · cases h
  refine PW.skip ?_
  (repeat refine PW.seq ?_); refine PW.rg rfl fun K hK => ?_; simp (disch:=omega) only [go_sem]
  refine VCx.call (fo _) rfl ?_; simp (disch:=omega) only [go_sem]
  refine VCx.call (po) rfl ?_; simp (disch:=omega) only [go_sem]
  refine hK _ _ ?_; clear hK K
  exact PW.ret ⟨_, rfl, Fin.now⟩
theorem pshl2 (k' : IntKind) (k : Nat) (h : k ≤ 40) : pint .shl .i64 2 k' (k : Int) = some (.int .i64 ((2 ^ (k + 1) : Nat) : Int)) := by
  have h2 : 2 ^ (k + 1) ≤ 2 ^ 41 := Nat.pow_le_pow_right (by omega) (by omega)
  simp only [pint, IntKind.bits]
  rw [if_neg (by omega), show min (k : Int).toNat 64 = k by omega, show (2 : Int) * (2 : Int) ^ k = ((2 ^ (k + 1) : Nat) : Int) by rw [Nat.pow_succ]; simp [Int.mul_comm]]
  generalize 2 ^ (k + 1) = N at *
  rw [w64 _ (by omega)]
theorem half_ref (v : Nat) (H : Heap) (hv : v ≤ 65534) : CallOk Tryz.prog 85 [.int .i64 (v : Int)] H (.int .i64 (Nat.log2 (v + 1) : Int)) H := by
  have hk := log2_b v hv
  have e2 : (v : Int) + 1 = ((v + 1 : Nat) : Int) := by omega
  refine CallOk.body (F0 := [(0, .int .i64 (v : Int))]) Tryz.func85 rfl Tryz.ntmps85 Tryz.results85 rfl (by kernel_rfl) rfl ?_
  (repeat refine PW.seq ?_); refine PW.rg rfl fun K hK => ?_; simp (disch:=omega) only [go_sem]; refine hK _ _ ?_; clear hK K; (repeat refine PW.seq ?_); refine PW.rg rfl fun K hK => ?_; simp (disch:=omega) only [go_sem]; refine hK _ _ ?_; clear hK K
  (repeat refine PW.seq ?_); refine PW.block (PW.loop ?_)
  suffices hl1 : ∀ k : Nat, k ≤ Nat.log2 (v + 1) → PL Tryz.prog _ _ [(0, .int .i64 (v : Int)), (3, .int .i64 (k : Int))] H _ by
    exact PL.at [0, 3] (hl1 0 (by omega)) rfl rfl
  intro k hkl
  induction hd : Nat.log2 (v + 1) - k using Nat.strongRecOn generalizing k with
  | _ d ih =>
    have hle := Nat.le_log2 (n := v + 1) (k := k + 1) (by omega)
    refine PL.round ?_; (repeat refine PW.seq ?_); refine PW.rg rfl fun K hK => ?_; simp (disch:=omega) only [go_sem, ↓reduceIte, wu64, pshl2, e2]; refine hK _ _ ?_; clear hK K
    (repeat refine PW.seq ?_); refine PW.cond (t := _) rfl (fun h => ?_) (fun h => ?_)
    · have h4 : 2 ^ (k + 1) ≤ v + 1 := by have := of_decide_eq_true h; exact_mod_cast this
      have h5 := hle.2 h4
      refine PW.skip ?_; (repeat refine PW.seq ?_); refine PW.block ?_
      (repeat refine PW.seq ?_); refine PW.rg rfl fun K hK => ?_; simp (disch:=omega) only [go_sem, ↓reduceIte]; refine hK _ _ ?_; clear hK K
      exact PL.at [0, 3] (ih (Nat.log2 (v + 1) - (k + 1)) (by omega) (k + 1) (by omega) rfl) rfl rfl
    · have h4 : ¬ 2 ^ (k + 1) ≤ v + 1 := fun hh => (of_decide_eq_false h) (by exact_mod_cast hh)
      have h5 : ¬ k + 1 ≤ Nat.log2 (v + 1) := fun hh => h4 (hle.1 hh)
      refine PW.exit ?_
      (repeat refine PW.seq ?_); refine PW.rg rfl fun K hK => ?_; simp (disch:=omega) only [go_sem]; refine hK _ _ ?_; clear hK K
      (refine PW.ret ⟨_, rfl, ?_⟩; first | refine .inl ⟨?_, rfl⟩ | refine Fin.base (.id' ?_ (.bool _)) | refine Fin.base (.id' ?_ (.int _ _)))
      have : k = Nat.log2 (v + 1) := by omega
      rw [← this]; rfl
theorem zb_zero (k : Nat) : bs (zb (vbits 0 k)) = reps k [.int .u8 0] := by
  have h1 : vbits 0 k = List.replicate k false := by
    simp only [vbits, Nat.zero_div, Nat.zero_mod]
    apply List.ext_getElem (by simp)
    intro i h1 h2
    simp
  rw [h1]
  clear h1
  induction k with
  | zero => rfl
  | succ k ih =>
    rw [List.replicate_succ, show zb (false :: List.replicate k false) = 0 :: zb (List.replicate k false) from rfl, show bs (0 :: zb (List.replicate k false)) = .int .u8 0 :: bs (zb (List.replicate k false)) from rfl, ih]
    simp [reps, List.replicate_succ]
set_option maxRecDepth 10000 in
theorem eg_ref (v : Nat) (H : Heap) (hv : v ≤ 65534) : CallOk Tryz.prog 44 [.int .i64 (v : Int)] H (.slice (bs (zb (eg v))) (eg v).length false) H := by
  have hk := log2_b v hv
  have hh := fun K => half_ref v K hv
  have e2 : (v : Int) + 1 = ((v + 1 : Nat) : Int) := by omega
  have e3 : (Nat.log2 (v + 1) : Int) + 1 = ((Nat.log2 (v + 1) + 1 : Nat) : Int) := by omega
  have bo := fun K => bits_frz (v + 1) (Nat.log2 (v + 1) + 1) K (by omega)
  have hb1 : (bs (zb (vbits (v + 1) (Nat.log2 (v + 1) + 1)))).length = Nat.log2 (v + 1) + 1 := by simp [length_bs, zb_len, vbits_len]
  have hb0 : (reps (Nat.log2 (v + 1)) [PV.int .u8 0]).length = Nat.log2 (v + 1) := by simp [reps]
  have hce : bs (zb (eg v)) = reps (Nat.log2 (v + 1)) [.int .u8 0] ++ bs (zb (vbits (v + 1) (Nat.log2 (v + 1) + 1))) := by rw [eg, zb_append, bs_append, zb_zero]
  have hcl : (eg v).length = Nat.log2 (v + 1) + (Nat.log2 (v + 1) + 1) := by simp [eg, vbits_len]
  rw [hce, hcl]
  have hsc := bs_scoped H.length (zb (eg v))
  rw [hce] at hsc
  generalize Nat.log2 (v + 1) = k at *
  generalize bs (zb (vbits (v + 1) (k + 1))) = Y at *
  refine CallOk.body (F0 := [(0, .int .i64 (v : Int))]) Tryz.func44 rfl Tryz.ntmps44 Tryz.results44 rfl (by kernel_rfl) rfl ?_
  (repeat refine PW.seq ?_); refine PW.rg rfl fun K hK => ?_; simp (disch:=omega) only [go_sem]; refine hK _ _ ?_; clear hK K
  (repeat refine PW.seq ?_); refine PW.rg rfl fun K hK => ?_; simp (disch:=omega) only [go_sem]; refine VCx.call (hh _) rfl ?_; simp (disch:=omega) only [go_sem]; refine hK _ _ ?_; clear hK K
  by_cases hk0 : k = 0
  · refine PW.view (Vs.place 5) ?_
    (repeat refine PW.seq ?_); refine PW.drawi [H.length] [(14, [0]), (2, [0])] [(7, 9), (14, 0)] [13] mix (by kernel_rfl) (by simp <;> omega) fun K hK => ?_
    simp (disch:=omega) only [go_sem, ↓reduceIte, e2, e3, List.getElem?_nil]
    refine VCj.read (fun _ _ => bo _) rfl ?_; simp (disch:=omega) only [go_sem, ↓reduceIte, hb1]
    refine hK _ _ ?_; clear hK K
    refine PW.ret ⟨.msl H.length 1 0 (k + 1) 1 true, by simp (disch:=omega) only [go_sem, presults, presult], ?_⟩
    rw [show reps k [PV.int .u8 0] = [] by rw [hk0]; rfl, List.nil_append, show k + (k + 1) = k + 1 by omega]
    exact Fin.base (Fz.mslC (e := 5) (xs := Y) (Nat.le_refl _) (by simp) (by simp [hb1]) (FzC.refl fun x hx => hsc x (List.mem_append.2 (.inr hx))))
  · refine PW.view (Vs.place 5) ?_
    (repeat refine PW.seq ?_); refine PW.drawi [H.length] [(7, [0]), (14, [0]), (2, [0])] [(7, 0)] [13] mix (by kernel_rfl) (by simp <;> omega) fun K hK => ?_
    simp (disch:=omega) only [go_sem, ↓reduceIte, pappend, e2, e3]
    have hfl : (List.replicate k [PV.int .u8 0]).flatten.length = k := by simp
    refine VCj.read (fun _ _ => bo _) rfl ?_; simp (disch:=omega) only [go_sem, ↓reduceIte, reduceCtorEq, pappend, hfl, hb1, List.length_append]
    refine hK _ _ ?_; clear hK K
    refine PW.ret ⟨.msl H.length (k + (k + 1)) 0 (k + (k + 1)) 1 true, by simp (disch:=omega) only [go_sem, presults, presult], ?_⟩
    exact Fin.base (Fz.mslC (e := 5) (xs := reps k [.int .u8 0] ++ Y) (Nat.le_refl _) (by simp [reps]) (by simp [hb1, hb0]) (FzC.refl hsc))
theorem sg_ref (v : Int) (H : Heap) (hv : -32767 ≤ v ∧ v ≤ 32767) : CallOk Tryz.prog 49 [.int .i64 v] H (.slice (bs (zb (sg v))) (sg v).length false) H := by
  have uo := fun K => unsg_ref v K hv
  have eo := fun K => eg_ref (fld v) K (fld_b v hv)
  change ∀ K, CallOk _ _ _ K (.slice (bs (zb (sg v))) (sg v).length false) K at eo
  have hsc := bs_scoped H.length (zb (sg v))
  generalize bs (zb (sg v)) = Y at *
  refine CallOk.body (F0 := [(0, .int .i64 v)]) Tryz.func49 rfl Tryz.ntmps49 Tryz.results49 rfl (by kernel_rfl) rfl ?_
  (repeat refine PW.seq ?_); refine PW.rg rfl fun K hK => ?_; simp (disch:=omega) only [go_sem]; refine hK _ _ ?_; clear hK K
  (repeat refine PW.seq ?_); refine PW.rg rfl fun K hK => ?_; simp (disch:=omega) only [go_sem]
  refine VCx.call (uo _) rfl ?_; simp (disch:=omega) only [go_sem]
  refine VCx.call (eo _) rfl ?_; simp (disch:=omega) only [go_sem]
  refine hK _ _ ?_; clear hK K
  refine PW.ret ⟨.slice Y (sg v).length false, by simp (disch:=omega) only [go_sem, presults, presult], ?_⟩
  exact Fin.now
end Go.Proofs.YthmladiijdlgkaaGreat.Sc
