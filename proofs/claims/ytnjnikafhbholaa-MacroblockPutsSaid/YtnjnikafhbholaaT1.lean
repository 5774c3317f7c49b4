/-
  THE STATEMENT MacroblockPutsSaid, PROVED (from the contract 'law_puts').
-/
import Derived.Test.YtnjnikafhbholaaHe
import Derived.Test.YtnjnikafhbholaaHf
import Derived.Test.YtnjnikafhbholaaPn
import Derived.Test.YtnjnikafhbholaaLm
namespace Go.Proofs.Ytnjnikafhbholaa.Sc
set_option linter.all false
set_option linter.unusedVariables false
set_option linter.unusedSimpArgs false
open Pm Ty Go.RowKit

/-- The bits of a macroblock, and the state after it. -/
def s23 (c : Cx) (m : Mb) (s : St) : St := s3M m (s2M c m s)
def mbits (c : Cx) (s : St) (m : Mb) : List Bool := b1M c m ++ (b2M c m s ++ (b3M c m ++ (b4M m ++ (lvsR m 6 (s23 c m s)).1)))
def mstate (c : Cx) (s : St) (m : Mb) : St := aft (lvsR m 6 (s23 c m s)).2 m.k
def zSt : St := ⟨0, 0, 0, 0, 0, 0, 0, 0⟩
/-- What Put answers: the bits, the state, the error. -/
def mput (c : Cx) (s : St) (m : Mb) : List Bool × St × Int :=
  if fmS c m && vstB s then (if vqB (s.q + m.dl) then (mbits c s m, mstate c s m, 0) else ([], zSt, 2)) else ([], zSt, 1)

/-! ### what 'formed' gives -/
theorem zbk_zero {lv : List Int} {n j : Nat} (h : zbk lv n = true) (hj : j < 64) : intAt lv (n * 64 + j) = 0 := by
  have e := blk_at lv n j hj
  have hz : (lv.drop (n * 64)).take 64 = List.replicate 64 0 := by simpa [zbk] using h
  rw [hz] at e
  rw [← e]
  rw [intAt, List.getD_eq_getElem?_getD, List.getElem?_replicate, if_pos hj]
  rfl
structure Fmd (c : Cx) (m : Mb) : Prop where
  k : m.k = 0 ∨ m.k = 1 ∨ m.k = 2
  v : vrM m
  l : lrM m
  d : -30 ≤ m.dl ∧ m.dl ≤ 30
  z : m.k = 0 → m.dl = 0 ∧ hlM m = false
  i : m.k = 1 → cdl m = [true, true, true, true, true, true]
  n : hlM m = false → m.dl = 0
theorem lvr_all {lv : List Int} (h : lvr lv = true) : ∀ q, q < 384 → win (intAt lv q) 4095 = true := fun q hq => List.all_eq_true.1 h q (List.mem_range.2 hq)
theorem lr_zero {lv : List Int} (h : zlv lv = true) : ∀ q, q < 384 → win (intAt lv q) 4095 = true := fun q hq => by
  simp only [zlv, Bool.and_eq_true] at h
  obtain ⟨h0, h1, h2, h3, h4, h5, _⟩ := h
  have e : q = q / 64 * 64 + q % 64 := by omega
  have hj : q % 64 < 64 := by omega
  have hn : q / 64 = 0 ∨ q / 64 = 1 ∨ q / 64 = 2 ∨ q / 64 = 3 ∨ q / 64 = 4 ∨ q / 64 = 5 := by omega
  have z : intAt lv q = 0 := by
    rw [e]
    rcases hn with hn | hn | hn | hn | hn | hn <;> rw [hn]
    · exact zbk_zero h0 hj
    · exact zbk_zero h1 hj
    · exact zbk_zero h2 hj
    · exact zbk_zero h3 hj
    · exact zbk_zero h4 hj
    · exact zbk_zero h5 hj
  rw [z]; decide
theorem vrM_of {m : Mb} (h0 : (-63 ≤ m.va ∧ m.va ≤ 63) ∧ (-63 ≤ m.vb ∧ m.vb ≤ 63)) (h1 : (-63 ≤ m.vc ∧ m.vc ≤ 63) ∧ (-63 ≤ m.vd ∧ m.vd ≤ 63)) (h2 : (-63 ≤ m.ve ∧ m.ve ≤ 63) ∧ (-63 ≤ m.vf ∧ m.vf ≤ 63)) (h3 : (-63 ≤ m.vg ∧ m.vg ≤ 63) ∧ (-63 ≤ m.vh ∧ m.vh ≤ 63)) : vrM m := fun d k => by
  unfold vXm vYm
  split <;> split
  · exact h0
  · exact h1
  · exact h2
  · exact h3
theorem vrg_b {x y : Int} (h : vrg x y = true) : (-63 ≤ x ∧ x ≤ 63) ∧ (-63 ≤ y ∧ y ≤ 63) := by
  simp only [vrg, Bool.and_eq_true] at h
  exact ⟨win_b h.1, win_b h.2⟩
theorem dirS_b {c : Cx} {fp used : Bool} {a b d e p q : Int} (h : dirS c fp used a b d e p q = true) : ((-63 ≤ a ∧ a ≤ 63) ∧ (-63 ≤ b ∧ b ≤ 63)) ∧ ((-63 ≤ d ∧ d ≤ 63) ∧ (-63 ≤ e ∧ e ≤ 63)) := by
  unfold dirS at h
  split at h
  · simp only [Bool.and_eq_true] at h
    exact ⟨vrg_b h.1, vrg_b h.2.1⟩
  · simp only [Bool.and_eq_true, decide_eq_true_eq] at h
    omega
theorem fch_b {c : Cx} {m : Mb} (h : fch c m = true) : (-30 ≤ m.dl ∧ m.dl ≤ 30) ∧ (hlM m = false → m.dl = 0) := by
  unfold fch at h
  split at h
  · rename_i hh
    simp only [Bool.and_eq_true] at h
    exact ⟨win_b h.2, fun e => by rw [e] at hh; cases hh⟩
  · simp only [Bool.and_eq_true, decide_eq_true_eq] at h
    exact ⟨by omega, fun _ => h.2⟩
theorem fmd_of {c : Cx} {m : Mb} (h : fmS c m = true) : Fmd c m := by
  unfold fmS at h
  simp only [Bool.and_eq_true] at h
  obtain ⟨h1, h2⟩ := h
  split at h2
  · rename_i hk
    simp only [Bool.and_eq_true, zmb] at h2
    obtain ⟨_, hz, hl, _⟩ := h2
    simp only [zA, Bool.and_eq_true, beq_iff_eq, and_true] at hz
    have hh : hlM m = false := by simp [hlM, anyC, hk, hz]
    exact ⟨.inl hk, vrM_of (by omega) (by omega) (by omega) (by omega), lr_zero hl, by omega, fun _ => ⟨by omega, hh⟩, fun e => by omega, fun _ => by omega⟩
  · split at h2
    · rename_i hk0 hk
      simp only [Bool.and_eq_true] at h2
      obtain ⟨hz, ha, hf, hl⟩ := h2
      simp only [zI, Bool.and_eq_true, beq_iff_eq, and_true] at hz
      simp only [aC, Bool.and_eq_true, beq_iff_eq, and_true] at ha
      obtain ⟨f1, f2⟩ := fch_b hf
      exact ⟨.inr (.inl hk), vrM_of (by omega) (by omega) (by omega) (by omega), lvr_all hl, f1, fun e => absurd e hk0, fun _ => by simp [cdl, ha], f2⟩
    · split at h2
      · rename_i hk0 hk1 hk
        by_cases ht : c.t = 1
        · rw [intS_I c m ht] at h2; cases h2
        · rw [intS_eq c m hk ht] at h2
          simp only [Bool.and_eq_true, fprd, d0S, d1S] at h2
          obtain ⟨⟨_, _, h3, h4⟩, hf, _, hl⟩ := h2
          obtain ⟨f1, f2⟩ := fch_b hf
          exact ⟨.inr (.inr hk), vrM_of (dirS_b h3).1 (dirS_b h3).2 (dirS_b h4).1 (dirS_b h4).2, lvr_all hl, f1, fun e => absurd e hk0, fun e => absurd e hk1, f2⟩
      · cases h2
theorem vst_b {s : St} (h : vstB s = true) : (1 ≤ s.q ∧ s.q ≤ 31) ∧ vrS s ∧ dcR s := by
  simp only [vstB, Bool.and_eq_true, vqB, decide_eq_true_eq] at h
  obtain ⟨⟨h1, h2, h3⟩, h4, h5, h6⟩ := h
  refine ⟨h4, fun d => ?_, fun k => ?_⟩
  · unfold sXs sYs
    split
    · exact vrg_b h5
    · exact vrg_b h6
  · unfold dcS
    split
    · exact win_b h1
    · split
      · exact win_b h2
      · exact win_b h3

def SameQ (s t : St) : Prop := t.q = s.q ∧ t.da = s.da ∧ t.db = s.db ∧ t.dc = s.dc
theorem setV_same (s : St) (d : Nat) (x y : Int) : SameQ s (setV s d x y) := by unfold setV; split <;> exact ⟨rfl, rfl, rfl, rfl⟩
theorem SameQ.trans {a b c : St} (h : SameQ a b) (k : SameQ b c) : SameQ a c := ⟨k.1.trans h.1, k.2.1.trans h.2.1, k.2.2.1.trans h.2.2.1, k.2.2.2.trans h.2.2.2⟩
theorem vecsR_same (c : Cx) (m : Mb) (d : Nat) : ∀ n s, SameQ s (vecsR c m d n s).2
  | 0, s => ⟨rfl, rfl, rfl, rfl⟩
  | n + 1, s => (setV_same s d _ _).trans (vecsR_same c m d n _)
theorem dirB_same (c : Cx) (m : Mb) (s : St) (d : Nat) : SameQ s (dirB c m s d).2 := by
  unfold dirB; split
  · exact vecsR_same c m d _ s
  · exact ⟨rfl, rfl, rfl, rfl⟩
theorem dirsR_same (c : Cx) (m : Mb) : ∀ n s, SameQ s (dirsR c m n s).2
  | 0, s => ⟨rfl, rfl, rfl, rfl⟩
  | n + 1, s => (dirB_same c m s _).trans (dirsR_same c m n _)
theorem s2M_same (c : Cx) (m : Mb) (s : St) : SameQ s (s2M c m s) := by
  unfold s2M; split
  · exact dirsR_same c m 2 s
  · exact ⟨rfl, rfl, rfl, rfl⟩
theorem dcR_same {s t : St} (h : SameQ s t) (k : dcR s) : dcR t := fun e => by
  have := k e
  unfold dcS at this ⊢
  rw [h.2.1, h.2.2.1, h.2.2.2]; exact this
theorem s3M_dc {m : Mb} {s : St} (k : dcR s) : dcR (s3M m s) := by
  unfold s3M; split
  · exact k
  · exact k

end Go.Proofs.Ytnjnikafhbholaa.Sc

namespace Go.Proofs.Ytnjnikafhbholaa.Sc
set_option linter.all false
set_option linter.unusedVariables false
set_option linter.unusedSimpArgs false
open Pm Ty Go.RowKit

section
variable (H : Heap) (i j : Nat) (A B : Blk) (K : Heap)
theorem two_Kn (n : Nat) : (two H i j A B ++ K)[H.length + n]? = K[n]? := by
  rw [List.getElem?_append_right (by rw [two_len]; omega), two_len, show H.length + n - H.length = n by omega]
theorem two_K0 : (two H i j A B ++ K)[H.length]? = K[0]? := two_Kn H i j A B K 0
theorem two_Ksn (n : Nat) (X : Blk) : (two H i j A B ++ K).set (H.length + n) X = two H i j A B ++ K.set n X := by
  rw [List.set_append_right _ _ (by rw [two_len]; omega), two_len, show H.length + n - H.length = n by omega]
theorem two_Kl : (two H i j A B ++ K).length = H.length + K.length := by rw [List.length_append, two_len]
end
theorem pH_3 (H : Heap) (i j : Nat) (M : List Bool) (x0 x1 x3 : Blk) (c : Cx) (m : Mb) (s : St) : (pH H i j M x0 x1 x3 c m s)[H.length + 3]? = some x3 := by
  unfold pH; rw [two_Kn]; rfl
theorem pH_set3 (H : Heap) (i j : Nat) (M : List Bool) (x0 x1 x3 : Blk) (c : Cx) (m : Mb) (s : St) (B : Blk) : (pH H i j M x0 x1 x3 c m s).set (H.length + 3) B = pH H i j M x0 x1 B c m s := by
  unfold pH; rw [two_Ksn]; rfl
theorem all_scoped' {n : Nat} {xs : List PV} (h : ∀ x ∈ xs, Scoped n x) : ∀ (j : Nat) (x : PV), xs[j]? = some x → Scoped n x := fun j x hx => h x (List.mem_of_getElem? hx)
theorem cxc_cell (c : Cx) : (cxc c).all PV.cell = true := rfl
theorem stc_cell (s : St) : (stc s).all PV.cell = true := rfl
theorem mbc_cell (m : Mb) : (mbc m).all PV.cell = true := by
  have hall := is_cell m.lv
  simp [mbc, PV.cell]
  exact fun x hx => List.all_eq_true.1 hall x hx

theorem mbits_len {c : Cx} {s : St} {m : Mb} (hf : Fmd c m) (hv : vrS s) (hd : dcR s) : (mbits c s m).length ≤ 30000 ∧ (b1M c m).length ≤ 31 ∧ (b2M c m s).length ≤ 300 ∧ (b3M c m).length ≤ 40 ∧ (b4M m).length ≤ 6 ∧ dcR (s23 c m s) := by
  have h1 : (b1M c m).length ≤ 31 := by
    unfold b1M
    split
    · simp
    · exact eg_len _ (by have := numM_b c m; omega)
  have h2 : (b2M c m s).length ≤ 300 := by
    unfold b2M
    have := dirsR_len (c := c) hf.v 2 s hv
    split
    · simp only [List.length_append]
      split <;> simp <;> omega
    · simp
  have h3 : (b3M c m).length ≤ 40 := by
    unfold b3M
    have := sg_len m.dl (by have := hf.d; omega)
    split
    · simp only [List.length_append]
      split <;> simp <;> omega
    · simp
  have h4 : (b4M m).length ≤ 6 := by
    unfold b4M
    split
    · exact Nat.le_refl _
    · simp
  have h5 : dcR (s23 c m s) := s3M_dc (dcR_same (s2M_same c m s) hd)
  have h6 := lvsR_len hf.l 6 _ (by omega) h5
  refine ⟨?_, h1, h2, h3, h4, h5⟩
  unfold mbits
  simp only [List.length_append]
  omega

set_option maxHeartbeats 4000000 in
set_option maxRecDepth 100000 in
theorem mput0 (H : Heap) (i j : Nat) (M : List Bool) (c : Cx) (m : Mb) (s : St) (hA : H[i]? = some (wA j M)) (hB : H[j]? = some (wB M)) (hne : i ≠ j) (hl : M.length ≤ 600000000) (hml : m.lv.length = 384)
    (fm : fmS c m = true) (vs : vstB s = true) (vq : vqB (s.q + m.dl) = true) :
    CallOk Try.prog 58 [.ptr i 0 0, .agg (cxc c), .agg (stc s), .agg (mbc m)] H (.tup [.agg (stc (mstate c s m)), .int .i64 0]) (two H i j (wA j (M ++ mbits c s m)) (wB (M ++ mbits c s m))) := by
  have hi := (List.getElem?_eq_some_iff.1 hA).1
  have hj := (List.getElem?_eq_some_iff.1 hB).1
  have hself := two_self hA hB
  have hF := fmd_of fm
  obtain ⟨hq, hv, hd⟩ := vst_b vs
  have hdl := hF.d
  have fo := fun K => fm_ok c m K hml
  have vo := fun K => vst_ok' s K
  rw [fm] at fo
  rw [vs] at vo
  have qo := fun K => vq_ok (s.q + m.dl) K
  rw [vq] at qo
  have gi := fun K => two_Ki H i j (wA j M) (wB M) K hi hne
  have c1 := cxc_cell c
  have c2 := stc_cell s
  have c3 := mbc_cell m
  have m408 := mbc_len m hml
  have tk3 : List.take 408 (mbc m) = mbc m := List.take_of_length_le (by omega)
  have k17 : (mbc m)[17]? = some (.int .i64 m.dl) := rfl
  have k0 : (mbc m)[0]? = some (.int .i64 m.k) := rfl
  refine CallOk.body (F0 := [(0, .ptr i 0 0), (1, .agg (cxc c)), (2, .agg (stc s)), (3, .agg (mbc m))]) Try.func58 rfl Try.ntmps58 Try.results58 rfl (by kernel_rfl) rfl ?_
  refine PW.eq rfl hself.symm ?_
  have hlen : (two H i j (wA j M) (wB M)).length = H.length := two_len ..
  (repeat refine PW.seq ?_); refine PW.rg rfl fun K hK => ?_; simp (maxSteps := 3000000) (disch := omega) only [go_sem, ↓reduceIte, reduceCtorEq, pappend, plen, c1, c2, c3, hlen, two_Kl, Nat.reduceAdd]; refine hK _ _ ?_; clear hK K
  have tk1 : List.take 4 (cxc c) = cxc c := rfl
  have tk2 : List.take 8 (stc s) = stc s := rfl
  have l1 : (cxc c).length = 4 := rfl
  have l2 : (stc s).length = 8 := rfl
  have s0 : (stc s)[0]? = some (.int .i64 s.q) := rfl
  (repeat refine PW.seq ?_); refine PW.rg rfl fun K hK => ?_; simp (maxSteps := 3000000) (disch := omega) only [go_sem, ↓reduceIte, reduceCtorEq, pappend, plen, gi, wA_v, two_Kn, two_K0, tk1, tk3, l1, m408]
  refine VCx.call (fo _) rfl ?_; simp (maxSteps := 3000000) (disch := omega) only [go_sem, ↓reduceIte, reduceCtorEq, pappend, plen, two_Kn, two_K0, tk2, l2]
  refine VCx.call (vo _) rfl ?_; simp (maxSteps := 3000000) (disch := omega) only [go_sem, ↓reduceIte, reduceCtorEq, pappend, plen]; refine hK _ _ ?_; clear hK K
  (repeat refine PW.seq ?_); refine PW.cond (t := _) rfl (fun h => ?_) (fun h => ?_)
  · cases h
  refine PW.skip ?_
  (repeat refine PW.seq ?_); refine PW.rg rfl fun K hK => ?_; simp (maxSteps := 3000000) (disch := omega) only [go_sem, ↓reduceIte, reduceCtorEq, pappend, plen, two_Kn, two_K0, s0, k17, l2, m408]
  refine VCx.call (qo _) rfl ?_; simp (maxSteps := 3000000) (disch := omega) only [go_sem, ↓reduceIte, reduceCtorEq, pappend, plen]; refine hK _ _ ?_; clear hK K
  (repeat refine PW.seq ?_); refine PW.cond (t := _) rfl (fun h => ?_) (fun h => ?_)
  · cases h
  refine PW.skip ?_
  (repeat refine PW.seq ?_); refine PW.rg rfl fun K hK => ?_; simp (maxSteps := 3000000) (disch := omega) only [go_sem, ↓reduceIte, reduceCtorEq, pappend, plen, two_Kn, two_K0, stc, cxc, two_Kl, two_Ksn, Nat.reduceAdd]; refine hK _ _ ?_; clear hK K
  refine PW.at [7, 8, 10] (F1 := [(7, .ptr (H.length + 2) 0 0), (8, .ptr (H.length + 3) 0 0), (10, .ptr (H.length + 4) 0 0)]) (H1 := pH H i j M ⟨106, 0, cxc c⟩ ⟨113, 0, stc s⟩ ⟨113, 0, stc zSt⟩ c m s) ?_ rfl rfl
  generalize (⟨106, 0, cxc c⟩ : Blk) = x0
  generalize (⟨113, 0, stc s⟩ : Blk) = x1
  obtain ⟨x3, hx3⟩ : ∃ x3 : Blk, x3 = ⟨113, 0, stc zSt⟩ := ⟨_, rfl⟩
  rw [← hx3]
  clear fo vo qo tk3 gi hself
  have nf : (pvc Value.nilFunc).cells = [.nl 0] := rfl
  have hF3 : 1 ≤ (s2M c m s).q ∧ (s2M c m s).q ≤ 31 := by rw [(s2M_same c m s).1]; exact hq
  obtain ⟨_, n1, n2, n3, n4, hd5⟩ := mbits_len (c := c) hF hv hd
  have p1 := kindP H i j M x0 x1 x3 c m s hi hj hne (by omega) hF.k
  have p2 := predP H i j (M ++ b1M c m) x0 x1 x3 c m s hi hj hne (by rw [List.length_append]; omega) hF.v hv
  have p3 := chgP H i j (M ++ b1M c m ++ b2M c m s) x0 x1 x3 c m (s2M c m s) hi hj hne (by simp only [List.length_append]; omega) hdl hF3
  have p4 := codP H i j (M ++ b1M c m ++ b2M c m s ++ b3M c m) x0 x1 x3 c m (s3M m (s2M c m s)) hi hj hne (by simp only [List.length_append]; omega)
  have p5 := levP H i j (M ++ b1M c m ++ b2M c m s ++ b3M c m ++ b4M m) x0 x1 x3 c m (s3M m (s2M c m s)) hi hj hne (by simp only [List.length_append]; omega) hF.l hd5 hml
  have hT : M ++ b1M c m ++ b2M c m s ++ b3M c m ++ b4M m ++ (lvsR m 6 (s3M m (s2M c m s))).1 = M ++ mbits c s m := by
    simp only [mbits, s23, List.append_assoc]
  rw [hT] at p5
  simp only [List.append_assoc] at p2 p3 p4 p5
  have hst : mstate c s m = aft (lvsR m 6 (s3M m (s2M c m s))).2 m.k := rfl
  rw [hst]
  generalize (lvsR m 6 (s3M m (s2M c m s))).2 = s6 at *
  generalize M ++ mbits c s m = T at *
  (repeat refine PW.seq ?_); refine PW.rg rfl fun K hK => ?_; simp (maxSteps := 3000000) (disch := omega) only [go_sem, ↓reduceIte, reduceCtorEq, pappend, plen, nf]; refine hK _ _ ?_; clear hK K
  (repeat refine PW.seq ?_); refine PW.block (PW.loop ?_)
  refine PL.round ?_
  (repeat refine PW.seq ?_); refine PW.rg rfl fun K hK => ?_; simp (maxSteps := 3000000) (disch := omega) only [go_sem, ↓reduceIte, reduceCtorEq, pappend, plen]; refine hK _ _ ?_; clear hK K
  (repeat refine PW.seq ?_); refine PW.cond (t := _) rfl (fun h => ?_) (fun h => ?_)
  rotate_left
  · cases h
  refine PW.skip ?_; (repeat refine PW.seq ?_); refine PW.block ?_
  (repeat refine PW.seq ?_); refine PW.rg rfl fun K hK => ?_; simp (maxSteps := 3000000) (disch := omega) only [go_sem, ↓reduceIte, reduceCtorEq, pappend, plen]; refine hK _ _ ?_; clear hK K
  (repeat refine PW.seq ?_); refine PW.rg rfl fun K hK => ?_; simp (maxSteps := 3000000) (disch := omega) only [go_sem, ↓reduceIte, reduceCtorEq, pappend, plen]; refine VCx.call (p1) rfl ?_; simp (maxSteps := 3000000) (disch := omega) only [go_sem, ↓reduceIte, reduceCtorEq, pappend, plen]; refine hK _ _ ?_; clear hK K
  (repeat refine PW.seq ?_); refine PW.rg rfl fun K hK => ?_; simp (maxSteps := 3000000) (disch := omega) only [go_sem, ↓reduceIte, reduceCtorEq, pappend, plen]; refine hK _ _ ?_; clear hK K
  refine PL.round ?_
  (repeat refine PW.seq ?_); refine PW.rg rfl fun K hK => ?_; simp (maxSteps := 3000000) (disch := omega) only [go_sem, ↓reduceIte, reduceCtorEq, pappend, plen]; refine hK _ _ ?_; clear hK K
  (repeat refine PW.seq ?_); refine PW.cond (t := _) rfl (fun h => ?_) (fun h => ?_)
  rotate_left
  · cases h
  refine PW.skip ?_; (repeat refine PW.seq ?_); refine PW.block ?_
  (repeat refine PW.seq ?_); refine PW.rg rfl fun K hK => ?_; simp (maxSteps := 3000000) (disch := omega) only [go_sem, ↓reduceIte, reduceCtorEq, pappend, plen]; refine hK _ _ ?_; clear hK K
  (repeat refine PW.seq ?_); refine PW.rg rfl fun K hK => ?_; simp (maxSteps := 3000000) (disch := omega) only [go_sem, ↓reduceIte, reduceCtorEq, pappend, plen]; refine VCx.call (p2) rfl ?_; simp (maxSteps := 3000000) (disch := omega) only [go_sem, ↓reduceIte, reduceCtorEq, pappend, plen]; refine hK _ _ ?_; clear hK K
  (repeat refine PW.seq ?_); refine PW.rg rfl fun K hK => ?_; simp (maxSteps := 3000000) (disch := omega) only [go_sem, ↓reduceIte, reduceCtorEq, pappend, plen]; refine hK _ _ ?_; clear hK K
  refine PL.round ?_
  (repeat refine PW.seq ?_); refine PW.rg rfl fun K hK => ?_; simp (maxSteps := 3000000) (disch := omega) only [go_sem, ↓reduceIte, reduceCtorEq, pappend, plen]; refine hK _ _ ?_; clear hK K
  (repeat refine PW.seq ?_); refine PW.cond (t := _) rfl (fun h => ?_) (fun h => ?_)
  rotate_left
  · cases h
  refine PW.skip ?_; (repeat refine PW.seq ?_); refine PW.block ?_
  (repeat refine PW.seq ?_); refine PW.rg rfl fun K hK => ?_; simp (maxSteps := 3000000) (disch := omega) only [go_sem, ↓reduceIte, reduceCtorEq, pappend, plen]; refine hK _ _ ?_; clear hK K
  (repeat refine PW.seq ?_); refine PW.rg rfl fun K hK => ?_; simp (maxSteps := 3000000) (disch := omega) only [go_sem, ↓reduceIte, reduceCtorEq, pappend, plen]; refine VCx.call (p3) rfl ?_; simp (maxSteps := 3000000) (disch := omega) only [go_sem, ↓reduceIte, reduceCtorEq, pappend, plen]; refine hK _ _ ?_; clear hK K
  (repeat refine PW.seq ?_); refine PW.rg rfl fun K hK => ?_; simp (maxSteps := 3000000) (disch := omega) only [go_sem, ↓reduceIte, reduceCtorEq, pappend, plen]; refine hK _ _ ?_; clear hK K
  refine PL.round ?_
  (repeat refine PW.seq ?_); refine PW.rg rfl fun K hK => ?_; simp (maxSteps := 3000000) (disch := omega) only [go_sem, ↓reduceIte, reduceCtorEq, pappend, plen]; refine hK _ _ ?_; clear hK K
  (repeat refine PW.seq ?_); refine PW.cond (t := _) rfl (fun h => ?_) (fun h => ?_)
  rotate_left
  · cases h
  refine PW.skip ?_; (repeat refine PW.seq ?_); refine PW.block ?_
  (repeat refine PW.seq ?_); refine PW.rg rfl fun K hK => ?_; simp (maxSteps := 3000000) (disch := omega) only [go_sem, ↓reduceIte, reduceCtorEq, pappend, plen]; refine hK _ _ ?_; clear hK K
  (repeat refine PW.seq ?_); refine PW.rg rfl fun K hK => ?_; simp (maxSteps := 3000000) (disch := omega) only [go_sem, ↓reduceIte, reduceCtorEq, pappend, plen]; refine VCx.call (p4) rfl ?_; simp (maxSteps := 3000000) (disch := omega) only [go_sem, ↓reduceIte, reduceCtorEq, pappend, plen]; refine hK _ _ ?_; clear hK K
  (repeat refine PW.seq ?_); refine PW.rg rfl fun K hK => ?_; simp (maxSteps := 3000000) (disch := omega) only [go_sem, ↓reduceIte, reduceCtorEq, pappend, plen]; refine hK _ _ ?_; clear hK K
  refine PL.round ?_
  (repeat refine PW.seq ?_); refine PW.rg rfl fun K hK => ?_; simp (maxSteps := 3000000) (disch := omega) only [go_sem, ↓reduceIte, reduceCtorEq, pappend, plen]; refine hK _ _ ?_; clear hK K
  (repeat refine PW.seq ?_); refine PW.cond (t := _) rfl (fun h => ?_) (fun h => ?_)
  rotate_left
  · cases h
  refine PW.skip ?_; (repeat refine PW.seq ?_); refine PW.block ?_
  (repeat refine PW.seq ?_); refine PW.rg rfl fun K hK => ?_; simp (maxSteps := 3000000) (disch := omega) only [go_sem, ↓reduceIte, reduceCtorEq, pappend, plen]; refine hK _ _ ?_; clear hK K
  (repeat refine PW.seq ?_); refine PW.rg rfl fun K hK => ?_; simp (maxSteps := 3000000) (disch := omega) only [go_sem, ↓reduceIte, reduceCtorEq, pappend, plen]; refine VCx.call (p5) rfl ?_; simp (maxSteps := 3000000) (disch := omega) only [go_sem, ↓reduceIte, reduceCtorEq, pappend, plen]; refine hK _ _ ?_; clear hK K
  (repeat refine PW.seq ?_); refine PW.rg rfl fun K hK => ?_; simp (maxSteps := 3000000) (disch := omega) only [go_sem, ↓reduceIte, reduceCtorEq, pappend, plen]; refine hK _ _ ?_; clear hK K
  refine PL.round ?_
  (repeat refine PW.seq ?_); refine PW.rg rfl fun K hK => ?_; simp (maxSteps := 3000000) (disch := omega) only [go_sem, ↓reduceIte, reduceCtorEq, pappend, plen]; refine hK _ _ ?_; clear hK K
  (repeat refine PW.seq ?_); refine PW.cond (t := _) rfl (fun h => ?_) (fun h => ?_)
  · cases h
  refine PW.exit ?_
  have g4 := pH_4 H i j T x0 x1 x3 c m s6
  have g2 := pH_2 H i j T x0 x1 x3 c m s6
  have g3 := pH_3 H i j T x0 x1 x3 c m s6
  have gs := fun B => pH_set3 H i j T x0 x1 x3 c m s6 B
  have ao := fun K => aft_ok s6 m.k K
  have tp : ∀ mi, List.take 8 (pC s6 i c mi) = stc s6 := fun _ => rfl
  have lp : ∀ mi, (pC s6 i c mi).length = 14 := fun _ => rfl
  have l8 : ∀ t, (stc t).length = 8 := fun _ => rfl
  have c8 : ∀ t, (stc t).all PV.cell = true := fun _ => rfl
  have g3 : (pH H i j T x0 x1 x3 c m s6)[H.length + 3]? = some ⟨113, 0, [.int .i64 0, .int .i64 0, .int .i64 0, .int .i64 0, .int .i64 0, .int .i64 0, .int .i64 0, .int .i64 0]⟩ := by rw [g3, hx3]; rfl
  have tk8 : ∀ t, List.take 8 (stc t) = stc t := fun _ => rfl
  have gf := pH_3 H i j T x0 x1 ⟨113, 0, stc (aft s6 m.k)⟩ c m s6
  (repeat refine PW.seq ?_); refine PW.rg rfl fun K hK => ?_; simp (maxSteps := 3000000) (disch := omega) only [go_sem, ↓reduceIte, reduceCtorEq, pappend, plen, g4, g2, pB, mB, k0, tp, lp]
  refine VCx.call (ao _) rfl ?_; simp (maxSteps := 3000000) (disch := omega) only [go_sem, ↓reduceIte, reduceCtorEq, pappend, plen, g3, gs, l8, c8]
  refine hK _ _ ?_; clear hK K
  refine PW.ret ⟨.tup [.agg (stc (aft s6 m.k)), .int .i64 0], by simp (maxSteps := 3000000) (disch := omega) only [go_sem, ↓reduceIte, reduceCtorEq, pappend, plen, presults, presult, List.mapM_cons, List.mapM_nil, Option.pure_def, Option.bind_eq_bind, Option.bind_some, Array.toList, tk8, gf, l8], ?_⟩
  exact Fin.cut rfl (two_len ..).symm (hsc_two H i j T hj) (.id (.tup (all_scoped' fun x hx => by
    simp only [List.mem_cons, List.not_mem_nil, or_false] at hx
    rcases hx with rfl | rfl
    · exact stc_scoped _ _
    · exact .int _ _)))

end Go.Proofs.Ytnjnikafhbholaa.Sc

namespace Go.Proofs.Ytnjnikafhbholaa.Sc
set_option linter.all false
set_option linter.unusedVariables false
set_option linter.unusedSimpArgs false
open Pm Ty Go.RowKit

theorem stE_scoped (n : Nat) (s : St) (e : Int) : Scoped n (.tup [.agg (stc s), .int .i64 e]) := .tup (all_scoped' fun x hx => by
  simp only [List.mem_cons, List.not_mem_nil, or_false] at hx
  rcases hx with rfl | rfl
  · exact stc_scoped _ _
  · exact .int _ _)
set_option maxHeartbeats 4000000 in
set_option maxRecDepth 100000 in
/-- Without a writer. -/
theorem mput_nil (c : Cx) (s : St) (m : Mb) (H : Heap) (hml : m.lv.length = 384) : CallOk Try.prog 58 [.nilp, .agg (cxc c), .agg (stc s), .agg (mbc m)] H (.tup [.agg (stc zSt), .int .i64 1]) H := by
  have c1 := cxc_cell c
  have c2 := stc_cell s
  have c3 := mbc_cell m
  refine CallOk.body (F0 := [(0, .nilp), (1, .agg (cxc c)), (2, .agg (stc s)), (3, .agg (mbc m))]) Try.func58 rfl Try.ntmps58 Try.results58 rfl (by kernel_rfl) rfl ?_
  (repeat refine PW.seq ?_); refine PW.rg rfl fun K hK => ?_; simp (maxSteps := 3000000) (disch := omega) only [go_sem, ↓reduceIte, reduceCtorEq, pappend, plen, c1, c2, c3, Nat.reduceAdd]; refine hK _ _ ?_; clear hK K
  (repeat refine PW.seq ?_); refine PW.rg rfl fun K hK => ?_; simp (maxSteps := 3000000) (disch := omega) only [go_sem, ↓reduceIte, reduceCtorEq, pappend, plen]; refine hK _ _ ?_; clear hK K
  (repeat refine PW.seq ?_); refine PW.cond (t := _) rfl (fun h => ?_) (fun h => ?_)
  rotate_left
  · cases h
  (repeat refine PW.seq ?_); refine PW.rg rfl fun K hK => ?_; simp (maxSteps := 3000000) (disch := omega) only [go_sem, ↓reduceIte, reduceCtorEq, pappend, plen]; refine hK _ _ ?_; clear hK K
  refine PW.ret ⟨.tup [.agg (stc zSt), .int .i64 1], by simp (maxSteps := 3000000) (disch := omega) only [go_sem, ↓reduceIte, reduceCtorEq, pappend, plen, presults, presult, List.mapM_cons, List.mapM_nil, Option.pure_def, Option.bind_eq_bind, Option.bind_some, Array.toList, stc, zSt], ?_⟩
  exact Fin.base (.id (stE_scoped _ _ _))
set_option maxHeartbeats 4000000 in
set_option maxRecDepth 100000 in
theorem mput1 (H : Heap) (i j : Nat) (M : List Bool) (c : Cx) (m : Mb) (s : St) (hA : H[i]? = some (wA j M)) (hml : m.lv.length = 384) (hbad : (fmS c m && vstB s) = false) :
    CallOk Try.prog 58 [.ptr i 0 0, .agg (cxc c), .agg (stc s), .agg (mbc m)] H (.tup [.agg (stc zSt), .int .i64 1]) H := by
  have hi := (List.getElem?_eq_some_iff.1 hA).1
  have hx := fun K => get_ext (K := K) hA
  have fo := fun K => fm_ok c m K hml
  have vo := fun K => vst_ok' s K
  generalize fmS c m = f1 at *
  generalize vstB s = v1 at *
  have c1 := cxc_cell c
  have c2 := stc_cell s
  have c3 := mbc_cell m
  have m408 := mbc_len m hml
  have tk1 : List.take 4 (cxc c) = cxc c := rfl
  have tk2 : List.take 8 (stc s) = stc s := rfl
  have tk3 : List.take 408 (mbc m) = mbc m := List.take_of_length_le (by omega)
  have l1 : (cxc c).length = 4 := rfl
  have l2 : (stc s).length = 8 := rfl
  refine CallOk.body (F0 := [(0, .ptr i 0 0), (1, .agg (cxc c)), (2, .agg (stc s)), (3, .agg (mbc m))]) Try.func58 rfl Try.ntmps58 Try.results58 rfl (by kernel_rfl) rfl ?_
  (repeat refine PW.seq ?_); refine PW.rg rfl fun K hK => ?_; simp (maxSteps := 3000000) (disch := omega) only [go_sem, ↓reduceIte, reduceCtorEq, pappend, plen, c1, c2, c3, Nat.reduceAdd]; refine hK _ _ ?_; clear hK K
  cases f1 with
  | false =>
    (repeat refine PW.seq ?_); refine PW.rg rfl fun K hK => ?_; simp (maxSteps := 3000000) (disch := omega) only [go_sem, ↓reduceIte, reduceCtorEq, pappend, plen, hx, wA_v, tk1, tk2, tk3, l1, l2, m408]
    refine VCx.call (fo _) rfl ?_; simp (maxSteps := 3000000) (disch := omega) only [go_sem, ↓reduceIte, reduceCtorEq, pappend, plen]; refine hK _ _ ?_; clear hK K
    (repeat refine PW.seq ?_); refine PW.cond (t := _) rfl (fun h => ?_) (fun h => ?_)
    rotate_left
    · cases h
    (repeat refine PW.seq ?_); refine PW.rg rfl fun K hK => ?_; simp (maxSteps := 3000000) (disch := omega) only [go_sem, ↓reduceIte, reduceCtorEq, pappend, plen]; refine hK _ _ ?_; clear hK K
    refine PW.ret ⟨.tup [.agg (stc zSt), .int .i64 1], by simp (maxSteps := 3000000) (disch := omega) only [go_sem, ↓reduceIte, reduceCtorEq, pappend, plen, presults, presult, List.mapM_cons, List.mapM_nil, Option.pure_def, Option.bind_eq_bind, Option.bind_some, Array.toList, stc, zSt], ?_⟩
    exact Fin.base (.id (stE_scoped _ _ _))
  | true =>
    rw [Bool.true_and] at hbad
    subst hbad
    (repeat refine PW.seq ?_); refine PW.rg rfl fun K hK => ?_; simp (maxSteps := 3000000) (disch := omega) only [go_sem, ↓reduceIte, reduceCtorEq, pappend, plen, hx, wA_v, tk1, tk2, tk3, l1, l2, m408]
    refine VCx.call (fo _) rfl ?_; simp (maxSteps := 3000000) (disch := omega) only [go_sem, ↓reduceIte, reduceCtorEq, pappend, plen, tk2, l2]
    refine VCx.call (vo _) rfl ?_; simp (maxSteps := 3000000) (disch := omega) only [go_sem, ↓reduceIte, reduceCtorEq, pappend, plen]; refine hK _ _ ?_; clear hK K
    (repeat refine PW.seq ?_); refine PW.cond (t := _) rfl (fun h => ?_) (fun h => ?_)
    rotate_left
    · cases h
    (repeat refine PW.seq ?_); refine PW.rg rfl fun K hK => ?_; simp (maxSteps := 3000000) (disch := omega) only [go_sem, ↓reduceIte, reduceCtorEq, pappend, plen]; refine hK _ _ ?_; clear hK K
    refine PW.ret ⟨.tup [.agg (stc zSt), .int .i64 1], by simp (maxSteps := 3000000) (disch := omega) only [go_sem, ↓reduceIte, reduceCtorEq, pappend, plen, presults, presult, List.mapM_cons, List.mapM_nil, Option.pure_def, Option.bind_eq_bind, Option.bind_some, Array.toList, stc, zSt], ?_⟩
    exact Fin.base (.id (stE_scoped _ _ _))
set_option maxHeartbeats 4000000 in
set_option maxRecDepth 100000 in
theorem mput2 (H : Heap) (i j : Nat) (M : List Bool) (c : Cx) (m : Mb) (s : St) (hA : H[i]? = some (wA j M)) (hml : m.lv.length = 384) (fm : fmS c m = true) (vs : vstB s = true) (vq : vqB (s.q + m.dl) = false) :
    CallOk Try.prog 58 [.ptr i 0 0, .agg (cxc c), .agg (stc s), .agg (mbc m)] H (.tup [.agg (stc zSt), .int .i64 2]) H := by
  have hi := (List.getElem?_eq_some_iff.1 hA).1
  have hx := fun K => get_ext (K := K) hA
  have fo := fun K => fm_ok c m K hml
  have vo := fun K => vst_ok' s K
  have qo := fun K => vq_ok (s.q + m.dl) K
  have hdl := (fmd_of fm).d
  have hq := (vst_b vs).1
  rw [fm] at fo
  rw [vs] at vo
  rw [vq] at qo
  have c1 := cxc_cell c
  have c2 := stc_cell s
  have c3 := mbc_cell m
  have m408 := mbc_len m hml
  have tk1 : List.take 4 (cxc c) = cxc c := rfl
  have tk2 : List.take 8 (stc s) = stc s := rfl
  have tk3 : List.take 408 (mbc m) = mbc m := List.take_of_length_le (by omega)
  have l1 : (cxc c).length = 4 := rfl
  have l2 : (stc s).length = 8 := rfl
  have k17 : (mbc m)[17]? = some (.int .i64 m.dl) := rfl
  have s0 : (stc s)[0]? = some (.int .i64 s.q) := rfl
  refine CallOk.body (F0 := [(0, .ptr i 0 0), (1, .agg (cxc c)), (2, .agg (stc s)), (3, .agg (mbc m))]) Try.func58 rfl Try.ntmps58 Try.results58 rfl (by kernel_rfl) rfl ?_
  (repeat refine PW.seq ?_); refine PW.rg rfl fun K hK => ?_; simp (maxSteps := 3000000) (disch := omega) only [go_sem, ↓reduceIte, reduceCtorEq, pappend, plen, c1, c2, c3, Nat.reduceAdd]; refine hK _ _ ?_; clear hK K
  (repeat refine PW.seq ?_); refine PW.rg rfl fun K hK => ?_; simp (maxSteps := 3000000) (disch := omega) only [go_sem, ↓reduceIte, reduceCtorEq, pappend, plen, hx, wA_v, tk1, tk2, tk3, l1, l2, m408]
  refine VCx.call (fo _) rfl ?_; simp (maxSteps := 3000000) (disch := omega) only [go_sem, ↓reduceIte, reduceCtorEq, pappend, plen, tk2, l2]
  refine VCx.call (vo _) rfl ?_; simp (maxSteps := 3000000) (disch := omega) only [go_sem, ↓reduceIte, reduceCtorEq, pappend, plen]; refine hK _ _ ?_; clear hK K
  (repeat refine PW.seq ?_); refine PW.cond (t := _) rfl (fun h => ?_) (fun h => ?_)
  · cases h
  refine PW.skip ?_
  (repeat refine PW.seq ?_); refine PW.rg rfl fun K hK => ?_; simp (maxSteps := 3000000) (disch := omega) only [go_sem, ↓reduceIte, reduceCtorEq, pappend, plen, s0, k17, l2, m408]
  refine VCx.call (qo _) rfl ?_; simp (maxSteps := 3000000) (disch := omega) only [go_sem, ↓reduceIte, reduceCtorEq, pappend, plen]; refine hK _ _ ?_; clear hK K
  (repeat refine PW.seq ?_); refine PW.cond (t := _) rfl (fun h => ?_) (fun h => ?_)
  rotate_left
  · cases h
  (repeat refine PW.seq ?_); refine PW.rg rfl fun K hK => ?_; simp (maxSteps := 3000000) (disch := omega) only [go_sem, ↓reduceIte, reduceCtorEq, pappend, plen]; refine hK _ _ ?_; clear hK K
  refine PW.ret ⟨.tup [.agg (stc zSt), .int .i64 2], by simp (maxSteps := 3000000) (disch := omega) only [go_sem, ↓reduceIte, reduceCtorEq, pappend, plen, presults, presult, List.mapM_cons, List.mapM_nil, Option.pure_def, Option.bind_eq_bind, Option.bind_some, Array.toList, stc, zSt], ?_⟩
  exact Fin.base (.id (stE_scoped _ _ _))
theorem mput_ok (H : Heap) (i j : Nat) (M : List Bool) (c : Cx) (m : Mb) (s : St) (hA : H[i]? = some (wA j M)) (hB : H[j]? = some (wB M)) (hne : i ≠ j) (hl : M.length ≤ 600000000) (hml : m.lv.length = 384) :
    CallOk Try.prog 58 [.ptr i 0 0, .agg (cxc c), .agg (stc s), .agg (mbc m)] H (.tup [.agg (stc (mput c s m).2.1), .int .i64 (mput c s m).2.2]) (two H i j (wA j (M ++ (mput c s m).1)) (wB (M ++ (mput c s m).1))) := by
  by_cases h1 : (fmS c m && vstB s) = true
  · have h2 := h1
    rw [Bool.and_eq_true] at h2
    cases h3 : vqB (s.q + m.dl) with
    | true =>
      have e : mput c s m = (mbits c s m, mstate c s m, 0) := by unfold mput; rw [if_pos h1, if_pos h3]
      rw [e]
      exact mput0 H i j M c m s hA hB hne hl hml h2.1 h2.2 h3
    | false =>
      have e : mput c s m = ([], zSt, 2) := by unfold mput; rw [if_pos h1, if_neg (by rw [h3]; decide)]
      rw [e, List.append_nil, two_self hA hB]
      exact mput2 H i j M c m s hA hml h2.1 h2.2 h3
  · have e : mput c s m = ([], zSt, 1) := by unfold mput; rw [if_neg h1]
    rw [e, List.append_nil, two_self hA hB]
    exact mput1 H i j M c m s hA hml (by simpa using h1)

end Go.Proofs.Ytnjnikafhbholaa.Sc

namespace Go.Proofs.Ytnjnikafhbholaa.Sc
set_option linter.all false
set_option linter.unusedVariables false
set_option linter.unusedSimpArgs false
open Pm Ty Go.RowKit

/-! ### more of what 'formed' gives -/
theorem fmd_c0 {c : Cx} {m : Mb} (h : fmS c m = true) (hk : m.k = 0) : cdl m = [false, false, false, false, false, false] := by
  unfold fmS at h
  rw [if_pos hk] at h
  simp only [Bool.and_eq_true, zmb] at h
  obtain ⟨_, _, hz, _⟩ := h
  simp only [zA, Bool.and_eq_true, beq_iff_eq, and_true] at hz
  simp [cdl, hz]
theorem fmd_in {c : Cx} {m : Mb} (h : fmS c m = true) (hk : m.k = 2) : fprd c m = true := by
  unfold fmS at h
  rw [if_neg (by omega), if_neg (by omega), if_pos hk] at h
  simp only [Bool.and_eq_true] at h
  by_cases ht : c.t = 1
  · rw [intS_I c m ht] at h; exact absurd h.2 (by decide)
  · rw [intS_eq c m hk ht] at h
    simp only [Bool.and_eq_true] at h
    exact h.2.1
theorem fmd_sl {c : Cx} {m : Mb} (h : fmS c m = true) (hk : m.k = 2) (d k : Nat) (hu : usd m d = true) : slm m d k = 0 ∨ slm m d k = 1 := by
  have hp := fmd_in h hk
  simp only [fprd, d0S, d1S, Bool.and_eq_true] at hp
  obtain ⟨_, _, h0, h1⟩ := hp
  unfold usd at hu
  unfold slm
  split at hu
  · rename_i hd
    rw [if_pos hd]
    unfold dirS at h0
    rw [if_pos hu] at h0
    simp only [Bool.and_eq_true, Bool.or_eq_true, decide_eq_true_eq] at h0
    split
    · exact h0.2.2.1
    · exact h0.2.2.2.1
  · rename_i hd
    rw [if_neg hd]
    unfold dirS at h1
    rw [if_pos hu] at h1
    simp only [Bool.and_eq_true, Bool.or_eq_true, decide_eq_true_eq] at h1
    split
    · exact h1.2.2.1
    · exact h1.2.2.2.1
theorem fmd_u {c : Cx} {m : Mb} (h : fmS c m = true) (hk : m.k = 2) (ht : c.t = 2) : m.ua = true ∧ m.ub = false := by
  have hp := fmd_in h hk
  simp only [fprd, useB, Bool.and_eq_true, Bool.not_eq_true', Bool.or_eq_false_iff, Bool.and_eq_false_iff, decide_eq_false_iff_not, Bool.not_eq_false'] at hp
  have := hp.1.1
  simp_all

/-! ### the number of part 1 -/
set_option maxHeartbeats 2000000 in
theorem num_ref (c : Cx) (m : Mb) (H : Heap) (hml : m.lv.length = 384) (fm : fmS c m = true) : CallOk Try.prog 111 [.agg (cxc c), .agg (mbc m)] H (.int .i64 (numM c m : Int)) H := by
  have hk := (fmd_of fm).k
  have hu := fmd_u fm
  have co := fun K => cod_ref m K hml
  have fo := fun b K => flg_ref b K
  have hnu : numM c m = if m.k = 1 then (if c.t = 2 then 3 else 7) else if m.k = 2 then (if m.ua && !m.ub then 1 else if !m.ua && m.ub then 3 else 5) + (hlM m).toNat else 0 := rfl
  have k0 : (mbc m)[0]? = some (.int .i64 m.k) := rfl
  have k1 : List.take 2 (List.drop 1 (mbc m)) = [.bool m.ua, .bool m.ub] := rfl
  have t0 : (cxc c)[0]? = some (.int .i64 c.t) := rfl
  have c1 := cxc_cell c
  have c3 := mbc_cell m
  have m408 := mbc_len m hml
  have tk3 : List.take 408 (mbc m) = mbc m := List.take_of_length_le (by omega)
  have l1 : (cxc c).length = 4 := rfl
  refine CallOk.body (F0 := [(0, .agg (cxc c)), (1, .agg (mbc m))]) Try.func111 rfl Try.ntmps111 Try.results111 rfl (by kernel_rfl) rfl ?_
  (repeat refine PW.seq ?_); refine PW.rg rfl fun K hK => ?_; simp (maxSteps := 3000000) (disch := omega) only [go_sem, ↓reduceIte, reduceCtorEq, pappend, plen, c1, c3, Nat.reduceAdd]; refine hK _ _ ?_; clear hK K
  (repeat refine PW.seq ?_); refine PW.rg rfl fun K hK => ?_; simp (maxSteps := 3000000) (disch := omega) only [go_sem, ↓reduceIte, reduceCtorEq, pappend, plen, m408, tk3]
  refine VCx.call (co _) rfl ?_; simp (maxSteps := 3000000) (disch := omega) only [go_sem, ↓reduceIte, reduceCtorEq, pappend, plen]
  refine VCx.call (fo _ _) rfl ?_; simp (maxSteps := 3000000) (disch := omega) only [go_sem, ↓reduceIte, reduceCtorEq, pappend, plen]; refine hK _ _ ?_; clear hK K
  rcases hk with hk | hk | hk
  · have q2 : (m.k == 0) = true := by simp [hk]
    rw [hk, if_neg (by omega), if_neg (by omega)] at hnu
    (repeat' (first | refine PW.seq ?_ | refine PW.skip ?_ | refine PW.block ?_ | (refine PW.rg rfl fun K hK => ?_; simp (maxSteps := 3000000) (disch := omega) only [go_sem, ↓reduceIte, reduceCtorEq, pappend, plen, k0, m408, q2]) | (refine PW.draw mix (by kernel_rfl) fun K hK => ?_; simp (maxSteps := 3000000) (disch := omega) only [go_sem, ↓reduceIte, reduceCtorEq, pappend, plen, k0, m408, q2]) | (refine PW.drawg mix (by kernel_rfl) fun K hK => ?_; simp (maxSteps := 3000000) (disch := omega) only [go_sem, ↓reduceIte, reduceCtorEq, pappend, plen, k0, m408, q2]) | (refine PW.drawt [] [] mix (by kernel_rfl) fun K hK => ?_; simp (maxSteps := 3000000) (disch := omega) only [go_sem, ↓reduceIte, reduceCtorEq, pappend, plen, k0, m408, q2]) | ((first | refine VO_cond (fun h => ?_) (fun h => ?_) | refine VOd_cond (fun h => ?_) (fun h => ?_) | refine VOg_cond (fun h => ?_) (fun h => ?_) | refine VOh_cond (fun h => ?_) (fun h => ?_) | refine VOi_cond (fun h => ?_) (fun h => ?_) | refine And.intro (fun h => ?_) (fun h => ?_)) <;> (try simp only [Bool.not_eq_true', Bool.not_eq_false', decide_eq_true_eq, decide_eq_false_iff_not] at h) <;> simp (maxSteps := 3000000) (disch := omega) only [go_sem, ↓reduceIte, reduceCtorEq, pappend, plen, k0, m408, q2, h]) | (refine hK _ _ ?_; clear hK K) | (refine PW.cond (t := _) rfl (fun h => ?_) (fun h => ?_) <;> (try (cases h; done)) <;> (try simp only [Bool.not_eq_true', Bool.not_eq_false', decide_eq_true_eq, decide_eq_false_iff_not] at h))))
    (refine PW.ret ⟨_, rfl, ?_⟩; first | refine .inl ⟨?_, rfl⟩ | refine Fin.base (.id' ?_ (.bool _)) | refine Fin.base (.id' ?_ (.int _ _)))
    rw [hnu]; rfl
  · have q2 : (m.k == 0) = false := by simp [hk]
    have q3 : (m.k == 1) = true := by simp [hk]
    rw [if_pos hk] at hnu
    by_cases ht2 : c.t = 2
    · have q4 : (c.t == 2) = true := by simp [ht2]
      rw [if_pos ht2] at hnu
      (repeat' (first | refine PW.seq ?_ | refine PW.skip ?_ | refine PW.block ?_ | (refine PW.rg rfl fun K hK => ?_; simp (maxSteps := 3000000) (disch := omega) only [go_sem, ↓reduceIte, reduceCtorEq, pappend, plen, k0, m408, q2, q3, q4, t0, l1]) | (refine PW.draw mix (by kernel_rfl) fun K hK => ?_; simp (maxSteps := 3000000) (disch := omega) only [go_sem, ↓reduceIte, reduceCtorEq, pappend, plen, k0, m408, q2, q3, q4, t0, l1]) | (refine PW.drawg mix (by kernel_rfl) fun K hK => ?_; simp (maxSteps := 3000000) (disch := omega) only [go_sem, ↓reduceIte, reduceCtorEq, pappend, plen, k0, m408, q2, q3, q4, t0, l1]) | (refine PW.drawt [] [] mix (by kernel_rfl) fun K hK => ?_; simp (maxSteps := 3000000) (disch := omega) only [go_sem, ↓reduceIte, reduceCtorEq, pappend, plen, k0, m408, q2, q3, q4, t0, l1]) | ((first | refine VO_cond (fun h => ?_) (fun h => ?_) | refine VOd_cond (fun h => ?_) (fun h => ?_) | refine VOg_cond (fun h => ?_) (fun h => ?_) | refine VOh_cond (fun h => ?_) (fun h => ?_) | refine VOi_cond (fun h => ?_) (fun h => ?_) | refine And.intro (fun h => ?_) (fun h => ?_)) <;> (try simp only [Bool.not_eq_true', Bool.not_eq_false', decide_eq_true_eq, decide_eq_false_iff_not] at h) <;> simp (maxSteps := 3000000) (disch := omega) only [go_sem, ↓reduceIte, reduceCtorEq, pappend, plen, k0, m408, q2, q3, q4, t0, l1, h]) | (refine hK _ _ ?_; clear hK K) | (refine PW.cond (t := _) rfl (fun h => ?_) (fun h => ?_) <;> (try (cases h; done)) <;> (try simp only [Bool.not_eq_true', Bool.not_eq_false', decide_eq_true_eq, decide_eq_false_iff_not] at h))))
      (refine PW.ret ⟨_, rfl, ?_⟩; first | refine .inl ⟨?_, rfl⟩ | refine Fin.base (.id' ?_ (.bool _)) | refine Fin.base (.id' ?_ (.int _ _)))
      rw [hnu]; rfl
    · have q4 : (c.t == 2) = false := by simp [ht2]
      rw [if_neg ht2] at hnu
      (repeat' (first | refine PW.seq ?_ | refine PW.skip ?_ | refine PW.block ?_ | (refine PW.rg rfl fun K hK => ?_; simp (maxSteps := 3000000) (disch := omega) only [go_sem, ↓reduceIte, reduceCtorEq, pappend, plen, k0, m408, q2, q3, q4, t0, l1]) | (refine PW.draw mix (by kernel_rfl) fun K hK => ?_; simp (maxSteps := 3000000) (disch := omega) only [go_sem, ↓reduceIte, reduceCtorEq, pappend, plen, k0, m408, q2, q3, q4, t0, l1]) | (refine PW.drawg mix (by kernel_rfl) fun K hK => ?_; simp (maxSteps := 3000000) (disch := omega) only [go_sem, ↓reduceIte, reduceCtorEq, pappend, plen, k0, m408, q2, q3, q4, t0, l1]) | (refine PW.drawt [] [] mix (by kernel_rfl) fun K hK => ?_; simp (maxSteps := 3000000) (disch := omega) only [go_sem, ↓reduceIte, reduceCtorEq, pappend, plen, k0, m408, q2, q3, q4, t0, l1]) | ((first | refine VO_cond (fun h => ?_) (fun h => ?_) | refine VOd_cond (fun h => ?_) (fun h => ?_) | refine VOg_cond (fun h => ?_) (fun h => ?_) | refine VOh_cond (fun h => ?_) (fun h => ?_) | refine VOi_cond (fun h => ?_) (fun h => ?_) | refine And.intro (fun h => ?_) (fun h => ?_)) <;> (try simp only [Bool.not_eq_true', Bool.not_eq_false', decide_eq_true_eq, decide_eq_false_iff_not] at h) <;> simp (maxSteps := 3000000) (disch := omega) only [go_sem, ↓reduceIte, reduceCtorEq, pappend, plen, k0, m408, q2, q3, q4, t0, l1, h]) | (refine hK _ _ ?_; clear hK K) | (refine PW.cond (t := _) rfl (fun h => ?_) (fun h => ?_) <;> (try (cases h; done)) <;> (try simp only [Bool.not_eq_true', Bool.not_eq_false', decide_eq_true_eq, decide_eq_false_iff_not] at h))))
      (refine PW.ret ⟨_, rfl, ?_⟩; first | refine .inl ⟨?_, rfl⟩ | refine Fin.base (.id' ?_ (.bool _)) | refine Fin.base (.id' ?_ (.int _ _)))
      rw [hnu]; rfl
  · have q2 : (m.k == 0) = false := by simp [hk]
    have q3 : (m.k == 1) = false := by simp [hk]
    rw [if_neg (by omega), if_pos hk] at hnu
    have hu := hu hk
    obtain ⟨a, ha⟩ : ∃ a, m.ua = a := ⟨_, rfl⟩
    obtain ⟨b, hb⟩ : ∃ b, m.ub = b := ⟨_, rfl⟩
    rw [ha, hb] at hnu k1 hu
    clear ha hb
    generalize hlM m = hv at *
    by_cases ht2 : c.t = 2
    · have q4 : (c.t == 2) = true := by simp [ht2]
      obtain ⟨rfl, rfl⟩ := hu ht2
      cases hv
      · (repeat' (first | refine PW.seq ?_ | refine PW.skip ?_ | refine PW.block ?_ | (refine PW.rg rfl fun K hK => ?_; simp (maxSteps := 3000000) (disch := omega) only [go_sem, ↓reduceIte, reduceCtorEq, pappend, plen, k0, k1, m408, q2, q3, q4, t0, l1]) | (refine PW.draw mix (by kernel_rfl) fun K hK => ?_; simp (maxSteps := 3000000) (disch := omega) only [go_sem, ↓reduceIte, reduceCtorEq, pappend, plen, k0, k1, m408, q2, q3, q4, t0, l1]) | (refine PW.drawg mix (by kernel_rfl) fun K hK => ?_; simp (maxSteps := 3000000) (disch := omega) only [go_sem, ↓reduceIte, reduceCtorEq, pappend, plen, k0, k1, m408, q2, q3, q4, t0, l1]) | (refine PW.drawt [] [] mix (by kernel_rfl) fun K hK => ?_; simp (maxSteps := 3000000) (disch := omega) only [go_sem, ↓reduceIte, reduceCtorEq, pappend, plen, k0, k1, m408, q2, q3, q4, t0, l1]) | ((first | refine VO_cond (fun h => ?_) (fun h => ?_) | refine VOd_cond (fun h => ?_) (fun h => ?_) | refine VOg_cond (fun h => ?_) (fun h => ?_) | refine VOh_cond (fun h => ?_) (fun h => ?_) | refine VOi_cond (fun h => ?_) (fun h => ?_) | refine And.intro (fun h => ?_) (fun h => ?_)) <;> (try simp only [Bool.not_eq_true', Bool.not_eq_false', decide_eq_true_eq, decide_eq_false_iff_not] at h) <;> simp (maxSteps := 3000000) (disch := omega) only [go_sem, ↓reduceIte, reduceCtorEq, pappend, plen, k0, k1, m408, q2, q3, q4, t0, l1, h]) | (refine hK _ _ ?_; clear hK K) | (refine PW.cond (t := _) rfl (fun h => ?_) (fun h => ?_) <;> (try (cases h; done)) <;> (try simp only [Bool.not_eq_true', Bool.not_eq_false', decide_eq_true_eq, decide_eq_false_iff_not] at h))))
        (refine PW.ret ⟨_, rfl, ?_⟩; first | refine .inl ⟨?_, rfl⟩ | refine Fin.base (.id' ?_ (.bool _)) | refine Fin.base (.id' ?_ (.int _ _)))
        rw [hnu]; rfl
      · (repeat' (first | refine PW.seq ?_ | refine PW.skip ?_ | refine PW.block ?_ | (refine PW.rg rfl fun K hK => ?_; simp (maxSteps := 3000000) (disch := omega) only [go_sem, ↓reduceIte, reduceCtorEq, pappend, plen, k0, k1, m408, q2, q3, q4, t0, l1]) | (refine PW.draw mix (by kernel_rfl) fun K hK => ?_; simp (maxSteps := 3000000) (disch := omega) only [go_sem, ↓reduceIte, reduceCtorEq, pappend, plen, k0, k1, m408, q2, q3, q4, t0, l1]) | (refine PW.drawg mix (by kernel_rfl) fun K hK => ?_; simp (maxSteps := 3000000) (disch := omega) only [go_sem, ↓reduceIte, reduceCtorEq, pappend, plen, k0, k1, m408, q2, q3, q4, t0, l1]) | (refine PW.drawt [] [] mix (by kernel_rfl) fun K hK => ?_; simp (maxSteps := 3000000) (disch := omega) only [go_sem, ↓reduceIte, reduceCtorEq, pappend, plen, k0, k1, m408, q2, q3, q4, t0, l1]) | ((first | refine VO_cond (fun h => ?_) (fun h => ?_) | refine VOd_cond (fun h => ?_) (fun h => ?_) | refine VOg_cond (fun h => ?_) (fun h => ?_) | refine VOh_cond (fun h => ?_) (fun h => ?_) | refine VOi_cond (fun h => ?_) (fun h => ?_) | refine And.intro (fun h => ?_) (fun h => ?_)) <;> (try simp only [Bool.not_eq_true', Bool.not_eq_false', decide_eq_true_eq, decide_eq_false_iff_not] at h) <;> simp (maxSteps := 3000000) (disch := omega) only [go_sem, ↓reduceIte, reduceCtorEq, pappend, plen, k0, k1, m408, q2, q3, q4, t0, l1, h]) | (refine hK _ _ ?_; clear hK K) | (refine PW.cond (t := _) rfl (fun h => ?_) (fun h => ?_) <;> (try (cases h; done)) <;> (try simp only [Bool.not_eq_true', Bool.not_eq_false', decide_eq_true_eq, decide_eq_false_iff_not] at h))))
        (refine PW.ret ⟨_, rfl, ?_⟩; first | refine .inl ⟨?_, rfl⟩ | refine Fin.base (.id' ?_ (.bool _)) | refine Fin.base (.id' ?_ (.int _ _)))
        rw [hnu]; rfl
    · have q4 : (c.t == 2) = false := by simp [ht2]
      clear hu
      cases a <;> cases b <;> cases hv
      all_goals ((repeat' (first | refine PW.seq ?_ | refine PW.skip ?_ | refine PW.block ?_ | (refine PW.rg rfl fun K hK => ?_; simp (maxSteps := 3000000) (disch := omega) only [go_sem, ↓reduceIte, reduceCtorEq, pappend, plen, k0, k1, m408, q2, q3, q4, t0, l1]) | (refine PW.draw mix (by kernel_rfl) fun K hK => ?_; simp (maxSteps := 3000000) (disch := omega) only [go_sem, ↓reduceIte, reduceCtorEq, pappend, plen, k0, k1, m408, q2, q3, q4, t0, l1]) | (refine PW.drawg mix (by kernel_rfl) fun K hK => ?_; simp (maxSteps := 3000000) (disch := omega) only [go_sem, ↓reduceIte, reduceCtorEq, pappend, plen, k0, k1, m408, q2, q3, q4, t0, l1]) | (refine PW.drawt [] [] mix (by kernel_rfl) fun K hK => ?_; simp (maxSteps := 3000000) (disch := omega) only [go_sem, ↓reduceIte, reduceCtorEq, pappend, plen, k0, k1, m408, q2, q3, q4, t0, l1]) | ((first | refine VO_cond (fun h => ?_) (fun h => ?_) | refine VOd_cond (fun h => ?_) (fun h => ?_) | refine VOg_cond (fun h => ?_) (fun h => ?_) | refine VOh_cond (fun h => ?_) (fun h => ?_) | refine VOi_cond (fun h => ?_) (fun h => ?_) | refine And.intro (fun h => ?_) (fun h => ?_)) <;> (try simp only [Bool.not_eq_true', Bool.not_eq_false', decide_eq_true_eq, decide_eq_false_iff_not] at h) <;> simp (maxSteps := 3000000) (disch := omega) only [go_sem, ↓reduceIte, reduceCtorEq, pappend, plen, k0, k1, m408, q2, q3, q4, t0, l1, h]) | (refine hK _ _ ?_; clear hK K) | (refine PW.cond (t := _) rfl (fun h => ?_) (fun h => ?_) <;> (try (cases h; done)) <;> (try simp only [Bool.not_eq_true', Bool.not_eq_false', decide_eq_true_eq, decide_eq_false_iff_not] at h)))); (refine PW.ret ⟨_, rfl, ?_⟩; first | refine .inl ⟨?_, rfl⟩ | refine Fin.base (.id' ?_ (.bool _)) | refine Fin.base (.id' ?_ (.int _ _))); rw [hnu]; rfl)

end Go.Proofs.Ytnjnikafhbholaa.Sc

namespace Go.Proofs.Ytnjnikafhbholaa.Sc
set_option linter.all false
set_option linter.unusedVariables false
set_option linter.unusedSimpArgs false
open Pm Ty Go.RowKit

theorem apn (H K : Heap) (n : Nat) : (H ++ K)[H.length + n]? = K[n]? := by
  rw [List.getElem?_append_right (by omega), show H.length + n - H.length = n by omega]
theorem aps (H K : Heap) (n : Nat) (X : Blk) : (H ++ K).set (H.length + n) X = H ++ K.set n X := by
  rw [List.set_append_right _ _ (by omega), show H.length + n - H.length = n by omega]
/-- What Code has in memory. -/
def rH (H : Heap) (M : List Bool) (c : Cx) (s : St) (m : Mb) (n : St) : Heap := H ++ [⟨92, 0, cxc c⟩, ⟨116, 0, stc s⟩, mB m, ⟨116, 0, stc zSt⟩, ⟨5, M.length, bs (zb M)⟩, ⟨116, 0, stc n⟩]
theorem stc_dc (s : St) (q : Nat) (h : q < 3) : (stc s)[1 + q]? = some (.int .i64 (dcS s q)) := by
  have : q = 0 ∨ q = 1 ∨ q = 2 := by omega
  rcases this with rfl | rfl | rfl <;> rfl
theorem stc_sdc (s : St) (q : Nat) (x : Int) (h : q < 3) : (stc s).set (1 + q) (.int .i64 x) = stc (setD s q x) := by
  have : q = 0 ∨ q = 1 ∨ q = 2 := by omega
  rcases this with rfl | rfl | rfl <;> rfl
section
variable (H : Heap) (M : List Bool) (c : Cx) (s : St) (m : Mb) (n : St)
theorem rH_0 : (rH H M c s m n)[H.length]? = some ⟨92, 0, cxc c⟩ := apn H _ 0
theorem rH_1 : (rH H M c s m n)[H.length + 1]? = some ⟨116, 0, stc s⟩ := apn H _ 1
theorem rH_2 : (rH H M c s m n)[H.length + 2]? = some (mB m) := apn H _ 2
theorem rH_3 : (rH H M c s m n)[H.length + 3]? = some ⟨116, 0, stc zSt⟩ := apn H _ 3
theorem rH_4 : (rH H M c s m n)[H.length + 4]? = some ⟨5, M.length, bs (zb M)⟩ := apn H _ 4
theorem rH_5 : (rH H M c s m n)[H.length + 5]? = some ⟨116, 0, stc n⟩ := apn H _ 5
theorem rH_s4 (B : List Bool) : (rH H M c s m n).set (H.length + 4) ⟨5, M.length + B.length, bs (zb M) ++ bs (zb B)⟩ = rH H (M ++ B) c s m n := by
  unfold rH; rw [aps, zb_snoc, List.length_append]; rfl
theorem rH_s5 (n' : St) : (rH H M c s m n).set (H.length + 5) ⟨116, 0, stc n'⟩ = rH H M c s m n' := by
  unfold rH; rw [aps]; rfl
theorem rH_len : (rH H M c s m n).length = H.length + 6 := by simp [rH]
end
def rG (H : Heap) (M : List Bool) : Fr := [(4, .ptr (H.length + 1) 0 0), (5, .ptr (H.length + 2) 0 0), (7, .ptr (H.length + 3) 0 0), (9, .msl (H.length + 4) M.length 0 M.length 1 true), (10, .ptr (H.length + 5) 0 0)]
def rF (H : Heap) (M : List Bool) : Fr := [(3, .ptr H.length 0 0), (4, .ptr (H.length + 1) 0 0), (5, .ptr (H.length + 2) 0 0), (7, .ptr (H.length + 3) 0 0), (9, .msl (H.length + 4) M.length 0 M.length 1 true), (10, .ptr (H.length + 5) 0 0)]
theorem bkR_pos (bl : List Int) : ∀ n p a, 0 < (bkR bl n p a).length
  | 0, p, a => by show 0 < (eg 0).length; decide
  | n + 1, p, a => by
    unfold bkR
    split
    · exact bkR_pos bl n _ _
    · have := bkR_pos bl n (p + 1) (p + 1)
      simp only [List.length_append]
      omega
/-- The reference's state on its way. -/
def r0 (m : Mb) (s : St) : St := ⟨s.q + m.dl, 0, 0, 0, 0, 0, 0, 0⟩
def r1 (m : Mb) (s : St) : St := if m.k = 2 then ⟨s.q + m.dl, 0, 0, 0, s.va, s.vb, s.vc, s.vd⟩ else r0 m s
def r2 (c : Cx) (m : Mb) (s : St) : St := if m.k = 2 then (dirsR c m 2 (r1 m s)).2 else r1 m s
def r3 (c : Cx) (m : Mb) (s : St) : St := if m.k = 1 then ⟨(r2 c m s).q, s.da, s.db, s.dc, (r2 c m s).va, (r2 c m s).vb, (r2 c m s).vc, (r2 c m s).vd⟩ else r2 c m s
def rb2 (c : Cx) (m : Mb) (s : St) : List Bool := if m.k = 2 then (if bcx c then [m.fp] else []) ++ (dirsR c m 2 (r1 m s)).1 else []
def rbits (c : Cx) (m : Mb) (s : St) : List Bool := b1M c m ++ (rb2 c m s ++ (b3M c m ++ (b4M m ++ (lvsR m 6 (r3 c m s)).1)))
def rstate (c : Cx) (m : Mb) (s : St) : St := (lvsR m 6 (r3 c m s)).2

set_option maxHeartbeats 8000000 in
set_option maxRecDepth 100000 in
theorem code0 (c : Cx) (s : St) (m : Mb) (H : Heap) (hml : m.lv.length = 384) (fm : fmS c m = true) (vs : vstB s = true) (vq : vqB (s.q + m.dl) = true) :
    CallOk Try.prog 60 [.agg (cxc c), .agg (stc s), .agg (mbc m)] H (.tup [.slice (bs (zb (rbits c m s))) (rbits c m s).length false, .agg (stc (rstate c m s)), .int .i64 0]) H := by
  have hF := fmd_of fm
  obtain ⟨hq, hv, hd⟩ := vst_b vs
  have hdl := hF.d
  have fo := fun K => fm_ref c m K hml
  have vo := fun K => vst_ref s K
  rw [fm] at fo
  rw [vs] at vo
  have hqq : 1 ≤ s.q + m.dl ∧ s.q + m.dl ≤ 31 := by simpa [vqB] using vq
  have c1 := cxc_cell c
  have c2 := stc_cell s
  have c3 := mbc_cell m
  have m408 := mbc_len m hml
  have tk1 : List.take 4 (cxc c) = cxc c := rfl
  have tk2 : List.take 8 (stc s) = stc s := rfl
  have tk3 : List.take 408 (mbc m) = mbc m := List.take_of_length_le (by omega)
  have l1 : (cxc c).length = 4 := rfl
  have l2 : ∀ t, (stc t).length = 8 := fun _ => rfl
  have k17 : (mbc m)[17]? = some (.int .i64 m.dl) := rfl
  have k0 : (mbc m)[0]? = some (.int .i64 m.k) := rfl
  have s0 : (stc s)[0]? = some (.int .i64 s.q) := rfl
  have t0 : (cxc c)[0]? = some (.int .i64 c.t) := rfl
  refine CallOk.body (F0 := [(0, .agg (cxc c)), (1, .agg (stc s)), (2, .agg (mbc m))]) Try.func60 rfl Try.ntmps60 Try.results60 rfl (by kernel_rfl) rfl ?_
  (repeat refine PW.seq ?_); refine PW.rg rfl fun K hK => ?_; simp (maxSteps := 3000000) (disch := omega) only [go_sem, ↓reduceIte, reduceCtorEq, pappend, plen, c1, c2, c3, Nat.reduceAdd]; refine hK _ _ ?_; clear hK K
  (repeat refine PW.seq ?_); refine PW.rg rfl fun K hK => ?_; simp (maxSteps := 3000000) (disch := omega) only [go_sem, ↓reduceIte, reduceCtorEq, pappend, plen, tk1, tk2, tk3, l1, l2, m408]
  refine VCx.call (fo _) rfl ?_; simp (maxSteps := 3000000) (disch := omega) only [go_sem, ↓reduceIte, reduceCtorEq, pappend, plen, tk1, tk2, tk3, l1, l2, m408]
  refine VCx.call (vo _) rfl ?_; simp (maxSteps := 3000000) (disch := omega) only [go_sem, ↓reduceIte, reduceCtorEq, pappend, plen]; refine hK _ _ ?_; clear hK K
  (repeat refine PW.seq ?_); refine PW.cond (t := _) rfl (fun h => ?_) (fun h => ?_)
  · cases h
  refine PW.skip ?_
  have d1 : decide (s.q + m.dl < 1) = false := decide_eq_false (by omega)
  have d2 : decide (31 < s.q + m.dl) = false := decide_eq_false (by omega)
  (repeat refine PW.seq ?_); refine PW.rg rfl fun K hK => ?_; simp (maxSteps := 3000000) (disch := omega) only [go_sem, ↓reduceIte, reduceCtorEq, pappend, plen, s0, k17, l2, m408, d1, d2]; refine hK _ _ ?_; clear hK K
  (repeat refine PW.seq ?_); refine PW.cond (t := _) rfl (fun h => ?_) (fun h => ?_)
  · cases h
  refine PW.skip ?_
  (repeat refine PW.seq ?_); refine PW.rg rfl fun K hK => ?_; simp (maxSteps := 3000000) (disch := omega) only [go_sem, ↓reduceIte, reduceCtorEq, pappend, plen]; refine hK _ _ ?_; clear hK K
  refine PW.view (Vs.ghost 9 5 1 rfl) ?_
  (repeat refine PW.seq ?_); refine PW.rg rfl fun K hK => ?_; simp (maxSteps := 3000000) (disch := omega) only [go_sem, ↓reduceIte, reduceCtorEq, pappend, plen, s0, k17, l2, m408, Nat.reduceAdd]; refine hK _ _ ?_; clear hK K
  refine PW.at [3, 4, 5, 7, 9, 10] (F1 := rF H []) (H1 := rH H [] c s m (r0 m s)) ?_ rfl rfl
  have q0 := fun M n => rH_0 H M c s m n
  have q1 := fun M n => rH_1 H M c s m n
  have q2 := fun M n => rH_2 H M c s m n
  have q4 := fun M n => rH_4 H M c s m n
  have q5 := fun M n => rH_5 H M c s m n
  have qs4 := fun M n B => rH_s4 H M c s m n B
  have qs5 := fun M n n' => rH_s5 H M c s m n n'
  have hlen := mbits_len (c := c) hF hv hd
  have nr := fun K => num_ref c m K hml fm
  have co := fun K => cod_ref m K hml
  have eo := fun v hv K => eg_ref v K hv
  have so := fun v hv K => sg_ref v K hv
  have fl := fun b K => flg_ref b K
  have bo := fun K => bcx_ref c K
  have fo' := fun K => fcx_ref c K
  clear fo vo
  (repeat refine PW.seq ?_); refine PW.rg rfl fun K hK => ?_; simp (maxSteps := 3000000) (disch := omega) only [go_sem, ↓reduceIte, reduceCtorEq, pappend, plen, rF, q0, t0, l1]; refine hK _ _ ?_; clear hK K
  refine PW.meet [3, 4, 5, 7, 9, 10] (rF H (b1M c m)) (rH H (b1M c m) c s m (r0 m s)) ?_ ?_
  · have hb1 : b1M c m = if c.t = 1 then [] else eg (numM c m) := rfl
    by_cases ht : c.t = 1
    · rw [if_pos ht] at hb1
      have b1 : (c.t != 1) = false := by simp [ht]
      rw [b1]
      (repeat refine PW.seq ?_); refine PW.cond (t := _) rfl (fun h => ?_) (fun h => ?_)
      · cases h
      refine PW.skip ?_
      rw [hb1]
      exact ⟨rfl, rfl⟩
    · rw [if_neg ht] at hb1
      have b1 : (c.t != 1) = true := by simp [ht]
      rw [b1]
      (repeat refine PW.seq ?_); refine PW.cond (t := _) rfl (fun h => ?_) (fun h => ?_)
      rotate_left
      · cases h
      have hnb := numM_b c m
      have eo1 := eo (numM c m) (by omega)
      have z0 := zb_len2 []
      have z1 := zb_len2 (eg (numM c m))
      have hpos : 0 < (eg (numM c m)).length := by simp [eg, vbits_len]; omega
      rw [hb1]
      have hql := eg_len (numM c m) (by omega)
      generalize eg (numM c m) = B at *
      (repeat refine PW.seq ?_); refine PW.rg rfl fun K hK => ?_; simp (maxSteps := 3000000) (disch := omega) only [go_sem, ↓reduceIte, reduceCtorEq, pappend, plen, q0, q2, mB, tk1, tk3, l1, m408]
      refine VCx.call (nr _) rfl ?_; simp (maxSteps := 3000000) (disch := omega) only [go_sem, ↓reduceIte, reduceCtorEq, pappend, plen]
      refine VCx.call (eo1 _) rfl ?_; simp (maxSteps := 3000000) (disch := omega) only [go_sem, ↓reduceIte, reduceCtorEq, pappend, plen, q4, z0, z1, List.length_append, qs4]
      refine hK _ _ ?_; clear hK K
      refine ⟨rfl, ?_⟩
      have e := qs4 [] (r0 m s) B
      rw [List.length_nil, Nat.zero_add, List.nil_append] at e
      exact e
  have hb1l := hlen.2.1
  generalize hM1 : b1M c m = M1 at *
  (repeat refine PW.seq ?_); refine PW.rg rfl fun K hK => ?_; simp (maxSteps := 3000000) (disch := omega) only [go_sem, ↓reduceIte, reduceCtorEq, pappend, plen, rF, q2, mB, k0, m408]; refine hK _ _ ?_; clear hK K
  refine PW.meet [3, 4, 5, 7, 9, 10] (rF H (M1 ++ rb2 c m s)) (rH H (M1 ++ rb2 c m s) c s m (r2 c m s)) ?_ ?_
  · by_cases hk : m.k = 2
    rotate_left
    · have b1 : (m.k == 2) = false := by simp [hk]
      rw [b1]
      (repeat refine PW.seq ?_); refine PW.cond (t := _) rfl (fun h => ?_) (fun h => ?_)
      · cases h
      refine PW.skip ?_
      have e1 : rb2 c m s = [] := by unfold rb2; rw [if_neg hk]
      have e2 : r2 c m s = r0 m s := by unfold r2 r1; rw [if_neg hk, if_neg hk]
      rw [e1, e2, List.append_nil]
      exact ⟨rfl, rfl⟩
    have b1 : (m.k == 2) = true := by simp [hk]
    rw [b1]
    (repeat refine PW.seq ?_); refine PW.cond (t := _) rfl (fun h => ?_) (fun h => ?_)
    rotate_left
    · cases h
    have e1 : rb2 c m s = (if bcx c then [m.fp] else []) ++ (dirsR c m 2 (r1 m s)).1 := by unfold rb2; rw [if_pos hk]
    have e2 : r2 c m s = (dirsR c m 2 (r1 m s)).2 := by unfold r2; rw [if_pos hk]
    have e3 : r1 m s = ⟨s.q + m.dl, 0, 0, 0, s.va, s.vb, s.vc, s.vd⟩ := by unfold r1; rw [if_pos hk]
    have hvr : vrS (r1 m s) := by rw [e3]; exact hv
    have hTl := dirsR_len (c := c) hF.v 2 (r1 m s) hvr
    have hsl := fun d k => fmd_sl fm hk d k
    have k3 : (mbc m)[3]? = some (.bool m.fp) := rfl
    have z1 := zb_len2 M1
    rw [e1, e2]
    generalize hS : (dirsR c m 2 (r1 m s)).2 = S
    generalize hT : M1 ++ ((if bcx c then [m.fp] else []) ++ (dirsR c m 2 (r1 m s)).1) = T
    have hTb : T.length ≤ 1000 := by
      rw [← hT]
      simp only [List.length_append]
      split <;> simp <;> omega
    (repeat refine PW.seq ?_); refine PW.rg rfl fun K hK => ?_; simp (maxSteps := 3000000) (disch := omega) only [go_sem, ↓reduceIte, reduceCtorEq, pappend, plen, q0, tk1, l1]
    refine VCx.call (bo _) rfl ?_; simp (maxSteps := 3000000) (disch := omega) only [go_sem, ↓reduceIte, reduceCtorEq, pappend, plen]; refine hK _ _ ?_; clear hK K
    suffices hl1 : ∀ (d : Nat) (Md : List Bool) (n : St), d ≤ 2 → vrS n → Md ++ (dirsR c m (2 - d) n).1 = T → (dirsR c m (2 - d) n).2 = S → PL Try.prog _ _ [(3, .ptr H.length 0 0), (4, .ptr (H.length + 1) 0 0), (5, .ptr (H.length + 2) 0 0), (7, .ptr (H.length + 3) 0 0), (9, .msl (H.length + 4) Md.length 0 Md.length 1 true), (10, .ptr (H.length + 5) 0 0), (11, .int .i64 (d : Int))] (rH H Md c s m n) _ by
      have hV : ∀ M, (rH H M c s m (r0 m s)).set (H.length + 5) ⟨116, 0, [.int .i64 (s.q + m.dl), .int .i64 0, .int .i64 0, .int .i64 0, .int .i64 s.va, .int .i64 s.vb, .int .i64 s.vc, .int .i64 s.vd]⟩ = rH H M c s m (r1 m s) := fun M => by
        rw [e3]; exact qs5 M (r0 m s) ⟨s.q + m.dl, 0, 0, 0, s.va, s.vb, s.vc, s.vd⟩
      cases hbv : bcx c with
      | false =>
        (repeat refine PW.seq ?_); refine PW.cond (t := _) rfl (fun h => ?_) (fun h => ?_)
        · cases h
        refine PW.skip ?_
        rw [hbv, if_neg (by decide), List.nil_append] at hT
        (repeat refine PW.seq ?_); refine PW.rg rfl fun K hK => ?_; simp (maxSteps := 3000000) (disch := omega) only [go_sem, ↓reduceIte, reduceCtorEq, pappend, plen, q1, q5, stc, r0, hV]; refine hK _ _ ?_; clear hK K
        (repeat refine PW.seq ?_); refine PW.rg rfl fun K hK => ?_; simp (maxSteps := 3000000) (disch := omega) only [go_sem, ↓reduceIte, reduceCtorEq, pappend, plen]; refine hK _ _ ?_; clear hK K
        (repeat refine PW.seq ?_); refine PW.block (PW.loop ?_)
        exact PL.at [3, 4, 5, 7, 9, 10, 11] (hl1 0 M1 (r1 m s) (by omega) hvr hT hS) rfl (hV M1)
      | true =>
        (repeat refine PW.seq ?_); refine PW.cond (t := _) rfl (fun h => ?_) (fun h => ?_)
        rotate_left
        · cases h
        rw [hbv, if_pos rfl, ← List.append_assoc] at hT
        have qb : (rH H M1 c s m (r0 m s)).set (H.length + 4) ⟨5, M1.length + 1, bs (zb M1) ++ [.int .u8 (m.fp.toNat : Int)]⟩ = rH H (M1 ++ [m.fp]) c s m (r0 m s) := by
          rw [← qs4 M1 (r0 m s) [m.fp]]
          cases m.fp <;> rfl
        (repeat refine PW.seq ?_); refine PW.rg rfl fun K hK => ?_; simp (maxSteps := 3000000) (disch := omega) only [go_sem, ↓reduceIte, reduceCtorEq, pappend, plen, q2, mB, k3, m408]
        refine VCx.call (fl _ _) rfl ?_; simp (maxSteps := 3000000) (disch := omega) only [go_sem, ↓reduceIte, reduceCtorEq, pappend, plen, q4, z1, List.length_append, qb]
        refine hK _ _ ?_; clear hK K
        (repeat refine PW.seq ?_); refine PW.rg rfl fun K hK => ?_; simp (maxSteps := 3000000) (disch := omega) only [go_sem, ↓reduceIte, reduceCtorEq, pappend, plen, q1, q5, stc, r0, hV]; refine hK _ _ ?_; clear hK K
        (repeat refine PW.seq ?_); refine PW.rg rfl fun K hK => ?_; simp (maxSteps := 3000000) (disch := omega) only [go_sem, ↓reduceIte, reduceCtorEq, pappend, plen]; refine hK _ _ ?_; clear hK K
        (repeat refine PW.seq ?_); refine PW.block (PW.loop ?_)
        exact PL.at [3, 4, 5, 7, 9, 10, 11] (hl1 0 (M1 ++ [m.fp]) (r1 m s) (by omega) hvr hT hS) (by simp [kp, slot, Nat.beq]) (hV (M1 ++ [m.fp]))
    intro d Md n hd hn hMd hSd
    induction hdd : 2 - d using Nat.strongRecOn generalizing d Md n with
    | _ dd ih =>
      refine PL.round ?_; (repeat refine PW.seq ?_); refine PW.rg rfl fun K hK => ?_; simp (maxSteps := 3000000) (disch := omega) only [go_sem, ↓reduceIte, reduceCtorEq, pappend, plen]; refine hK _ _ ?_; clear hK K
      (repeat refine PW.seq ?_); refine PW.cond (t := _) rfl (fun h => ?_) (fun h => ?_)
      rotate_left
      · have h6 : d = 2 := by have := of_decide_eq_false h; omega
        subst h6
        refine PW.exit ?_
        simp only [Nat.sub_self, dirsR, List.append_nil] at hMd hSd
        subst hMd hSd
        exact ⟨rfl, rfl⟩
      have h6 : d < 2 := by have := of_decide_eq_true h; omega
      obtain ⟨n', hn'⟩ : ∃ n', 2 - d = n' + 1 := ⟨1 - d, by omega⟩
      have hd1 : 1 - n' = d := by omega
      rw [hn', dirsR, hd1] at hMd hSd
      have hnx := fun M1 s1 => ih (2 - (d + 1)) (by omega) (d + 1) M1 s1 (by omega)
      rw [show 2 - (d + 1) = n' by omega] at hnx
      clear ih
      have hus : (mbc m)[1 + d]? = some (.bool (usd m d)) := by
        have : d = 0 ∨ d = 1 := by omega
        rcases this with rfl | rfl <;> rfl
      have hdb : dirB c m n d = if usd m d then vecsR c m d (nvM m) n else ([], n) := rfl
      refine PW.skip ?_; (repeat refine PW.seq ?_); refine PW.block ?_
      (repeat refine PW.seq ?_); refine PW.rg rfl fun K hK => ?_; simp (maxSteps := 3000000) (disch := omega) only [go_sem, ↓reduceIte, reduceCtorEq, pappend, plen]; refine hK _ _ ?_; clear hK K
      (repeat refine PW.seq ?_); refine PW.block (PW.loop ?_)
      have hsl' := fun k => hsl d k
      cases hu : usd m d with
      | false =>
        rw [hu, if_neg (by decide)] at hdb
        rw [hdb] at hMd hSd
        rw [hu] at hus
        refine PL.round ?_
        (repeat refine PW.seq ?_); refine PW.rg rfl fun K hK => ?_; simp (maxSteps := 3000000) (disch := omega) only [go_sem, ↓reduceIte, reduceCtorEq, pappend, plen, q2, mB, hus, m408]; refine hK _ _ ?_; clear hK K
        (repeat refine PW.seq ?_); refine PW.cond (t := _) rfl (fun h => ?_) (fun h => ?_)
        · cases h
        refine PW.exit ?_
        (repeat refine PW.seq ?_); refine PW.rg rfl fun K hK => ?_; simp (maxSteps := 3000000) (disch := omega) only [go_sem, ↓reduceIte, reduceCtorEq, pappend, plen]; refine hK _ _ ?_; clear hK K
        exact PL.at [3, 4, 5, 7, 9, 10, 11] (hnx Md n hn hMd hSd rfl) rfl rfl
      | true =>
        rw [hu, if_pos rfl] at hdb
        rw [hdb] at hMd hSd
        rw [hu] at hus
        have hnv : nvM m = if m.fp then 2 else 1 := rfl
        have hnb := nvM_b m
        suffices hl2 : ∀ (k : Nat) (M2 : List Bool) (n2 : St), k ≤ nvM m → vrS n2 → M2 ++ ((vecsR c m d (nvM m - k) n2).1 ++ (dirsR c m n' (vecsR c m d (nvM m - k) n2).2).1) = T → (dirsR c m n' (vecsR c m d (nvM m - k) n2).2).2 = S →
            PL Try.prog _ _ [(3, .ptr H.length 0 0), (4, .ptr (H.length + 1) 0 0), (5, .ptr (H.length + 2) 0 0), (7, .ptr (H.length + 3) 0 0), (9, .msl (H.length + 4) M2.length 0 M2.length 1 true), (10, .ptr (H.length + 5) 0 0), (11, .int .i64 (d : Int)), (12, .int .i64 (k : Int))] (rH H M2 c s m n2) _ by
          exact PL.at [3, 4, 5, 7, 9, 10, 11, 12] (hl2 0 Md n (by omega) hn hMd hSd) rfl rfl
        clear hMd hSd hn hdb
        intro k M2 n2 hk2 hn2 hM2 hS2
        induction hkk : nvM m - k using Nat.strongRecOn generalizing k M2 n2 with
        | _ kk ih2 =>
          refine PL.round ?_
          by_cases h7 : k = nvM m
          · subst h7
            simp only [Nat.sub_self, vecsR, List.nil_append] at hM2 hS2
            have hfin := hnx M2 n2 hn2 hM2 hS2 rfl
            cases hfp : m.fp with
            | true =>
              rw [hfp, if_pos rfl] at hnv
              rw [hnv]
              (repeat refine PW.seq ?_); refine PW.rg rfl fun K hK => ?_; simp (maxSteps := 3000000) (disch := omega) only [go_sem, ↓reduceIte, reduceCtorEq, pappend, plen, q2, mB, hus, m408]; refine hK _ _ ?_; clear hK K
              (repeat refine PW.seq ?_); refine PW.cond (t := _) rfl (fun h => ?_) (fun h => ?_)
              · cases h
              refine PW.exit ?_
              (repeat refine PW.seq ?_); refine PW.rg rfl fun K hK => ?_; simp (maxSteps := 3000000) (disch := omega) only [go_sem, ↓reduceIte, reduceCtorEq, pappend, plen]; refine hK _ _ ?_; clear hK K
              exact PL.at [3, 4, 5, 7, 9, 10, 11] hfin rfl rfl
            | false =>
              rw [hfp, if_neg (by decide)] at hnv
              rw [hfp] at k3
              rw [hnv]
              (repeat refine PW.seq ?_); refine PW.rg rfl fun K hK => ?_; simp (maxSteps := 3000000) (disch := omega) only [go_sem, ↓reduceIte, reduceCtorEq, pappend, plen, q2, mB, hus, m408]; refine hK _ _ ?_; clear hK K
              (repeat refine PW.seq ?_); refine PW.cond (t := _) rfl (fun h => ?_) (fun h => ?_)
              rotate_left
              · cases h
              refine PW.skip ?_; (repeat refine PW.seq ?_); refine PW.block ?_
              (repeat refine PW.seq ?_); refine PW.rg rfl fun K hK => ?_; simp (maxSteps := 3000000) (disch := omega) only [go_sem, ↓reduceIte, reduceCtorEq, pappend, plen, q2, mB, k3, m408]; refine hK _ _ ?_; clear hK K
              (repeat refine PW.seq ?_); refine PW.cond (t := _) rfl (fun h => ?_) (fun h => ?_)
              rotate_left
              · cases h
              refine PW.exit ?_
              (repeat refine PW.seq ?_); refine PW.rg rfl fun K hK => ?_; simp (maxSteps := 3000000) (disch := omega) only [go_sem, ↓reduceIte, reduceCtorEq, pappend, plen]; refine hK _ _ ?_; clear hK K
              exact PL.at [3, 4, 5, 7, 9, 10, 11] hfin rfl rfl
          have h8 : k < nvM m := by omega
          obtain ⟨nn, hn2'⟩ : ∃ nn, nvM m - k = nn + 1 := ⟨nvM m - k - 1, by omega⟩
          have hk1 : nvM m - (nn + 1) = k := by omega
          rw [hn2', vecsR, hk1] at hM2 hS2
          have hnx2 := fun M1 s1 => ih2 (nvM m - (k + 1)) (by omega) (k + 1) M1 s1 (by omega)
          rw [show nvM m - (k + 1) = nn by omega] at hnx2
          clear ih2 hnx
          have hT2 : M2.length ≤ 1000 := by
            have : M2.length ≤ T.length := by rw [← hM2, List.length_append]; omega
            omega
          have hd01 : d = 0 ∨ d = 1 := by omega
          have hk01 : k = 0 ∨ k = 1 := by omega
          have dk : decide ((k : Int) < 2) = true := decide_eq_true (by omega)
          have kS : (mbc m)[13 + d * 2 + k]? = some (.int .i64 (slm m d k)) := by
            rcases hd01 with rfl | rfl <;> rcases hk01 with rfl | rfl <;> rfl
          have kX : (mbc m)[5 + d * 4 + k * 2]? = some (.int .i64 (vXm m d k)) := by
            rcases hd01 with rfl | rfl <;> rcases hk01 with rfl | rfl <;> rfl
          have kY : (mbc m)[5 + d * 4 + k * 2 + 1]? = some (.int .i64 (vYm m d k)) := by
            rcases hd01 with rfl | rfl <;> rcases hk01 with rfl | rfl <;> rfl
          have kV : List.take 2 (List.drop (5 + d * 4 + k * 2) (mbc m)) = [.int .i64 (vXm m d k), .int .i64 (vYm m d k)] := by
            rcases hd01 with rfl | rfl <;> rcases hk01 with rfl | rfl <;> rfl
          have nX : (stc n2)[4 + d * 2]? = some (.int .i64 (sXs n2 d)) := by
            rcases hd01 with rfl | rfl <;> rfl
          have nY : (stc n2)[4 + d * 2 + 1]? = some (.int .i64 (sYs n2 d)) := by
            rcases hd01 with rfl | rfl <;> rfl
          have hve : vec1 c m n2 d k = (if m.fp || fcx c then [decide (slm m d k = 1)] else []) ++ (sg (vXm m d k - sXs n2 d) ++ sg (vYm m d k - sYs n2 d)) := rfl
          have hX := (hF.v d k).1
          have hY := (hF.v d k).2
          have hX' := (hn2 d).1
          have hY' := (hn2 d).2
          have hs3 := vrS_set hF.v hn2 d k
          have hslk := hsl' k hu
          have z2 := zb_len2 M2
          have hb1n : (k : Int) = 1 → m.fp = true := fun e => by
            rw [hnv] at h8
            cases hfp : m.fp with
            | true => rfl
            | false => rw [hfp, if_neg (by decide)] at h8; omega
          suffices hvv : ∀ M3 : List Bool, M3 ++ (sg (vXm m d k - sXs n2 d) ++ (sg (vYm m d k - sYs n2 d) ++ ((vecsR c m d nn (setV n2 d (vXm m d k) (vYm m d k))).1 ++ (dirsR c m n' (vecsR c m d nn (setV n2 d (vXm m d k) (vYm m d k))).2).1))) = T → M3.length ≤ 1001 →
              PW Try.prog _ _ [(3, .ptr H.length 0 0), (4, .ptr (H.length + 1) 0 0), (5, .ptr (H.length + 2) 0 0), (7, .ptr (H.length + 3) 0 0), (9, .msl (H.length + 4) M3.length 0 M3.length 1 true), (10, .ptr (H.length + 5) 0 0), (11, .int .i64 (d : Int)), (12, .int .i64 (k : Int))] (rH H M3 c s m n2) _ by
            have hend : ∀ M3 : List Bool, M2 ++ (vec1 c m n2 d k ++ ((vecsR c m d nn (setV n2 d (vXm m d k) (vYm m d k))).1 ++ (dirsR c m n' (vecsR c m d nn (setV n2 d (vXm m d k) (vYm m d k))).2).1)) = T → M3 = M2 ++ (if m.fp || fcx c then [decide (slm m d k = 1)] else []) →
                M3 ++ (sg (vXm m d k - sXs n2 d) ++ (sg (vYm m d k - sYs n2 d) ++ ((vecsR c m d nn (setV n2 d (vXm m d k) (vYm m d k))).1 ++ (dirsR c m n' (vecsR c m d nn (setV n2 d (vXm m d k) (vYm m d k))).2).1))) = T := fun M3 h1 h2 => by
              rw [h2, ← h1, hve]
              simp only [List.append_assoc]
            have hM2' : M2 ++ (vec1 c m n2 d k ++ ((vecsR c m d nn (setV n2 d (vXm m d k) (vYm m d k))).1 ++ (dirsR c m n' (vecsR c m d nn (setV n2 d (vXm m d k) (vYm m d k))).2).1)) = T := by
              rw [← hM2]; simp only [List.append_assoc]
            have hsb : slm m d k = ((decide (slm m d k = 1)).toNat : Int) := by
              rcases hslk with e | e <;> rw [e] <;> rfl
            have q21 : (rH H M2 c s m n2).set (H.length + 4) ⟨5, M2.length + 1, bs (zb M2) ++ [.int .u8 (slm m d k)]⟩ = rH H (M2 ++ [decide (slm m d k = 1)]) c s m n2 := by
              rw [← qs4 M2 n2 [decide (slm m d k = 1)]]
              rcases hslk with e | e <;> rw [e] <;> rfl
            (repeat refine PW.seq ?_); refine PW.rg rfl fun K hK => ?_; simp (maxSteps := 3000000) (disch := omega) only [go_sem, ↓reduceIte, reduceCtorEq, pappend, plen, q2, mB, dk, hus, m408]; refine hK _ _ ?_; clear hK K
            (repeat refine PW.seq ?_); refine PW.cond (t := _) rfl (fun h => ?_) (fun h => ?_)
            rotate_left
            · cases h
            refine PW.skip ?_; (repeat refine PW.seq ?_); refine PW.block ?_
            (repeat refine PW.seq ?_)
            refine PW.rgv [3, 4, 5, 7, 9, 10, 11, 12] 92 (.bool false) rfl ?_ ?_
            · cases hke : ((k : Int) == 1) with
              | true =>
                have hfp := hb1n (by simpa using hke)
                have k3' := k3
                rw [hfp] at k3'
                simp (maxSteps := 3000000) (disch := omega) only [go_sem, ↓reduceIte, reduceCtorEq, pappend, plen, hke, q2, mB, k3', m408]
              | false =>
                simp (maxSteps := 3000000) (disch := omega) only [go_sem, ↓reduceIte, reduceCtorEq, pappend, plen, hke]
            (repeat refine PW.seq ?_); refine PW.cond (t := _) rfl (fun h => ?_) (fun h => ?_)
            · cases h
            refine PW.skip ?_
            (repeat refine PW.seq ?_)
            refine PW.rgv [3, 4, 5, 7, 9, 10, 11, 12] 98 (.bool (m.fp || fcx c)) rfl ?_ ?_
            · cases hfp : m.fp with
              | true =>
                have k3' := k3
                rw [hfp] at k3'
                simp (maxSteps := 3000000) (disch := omega) only [go_sem, ↓reduceIte, reduceCtorEq, pappend, plen, q2, mB, k3', m408]
              | false =>
                have k3' := k3
                rw [hfp] at k3'
                simp (maxSteps := 3000000) (disch := omega) only [go_sem, ↓reduceIte, reduceCtorEq, pappend, plen, q2, mB, k3', m408, q0, tk1, l1]
                refine VCx.call (fo' _) rfl ?_; simp (maxSteps := 3000000) (disch := omega) only [go_sem, ↓reduceIte, reduceCtorEq, pappend, plen]
            cases hsel : (m.fp || fcx c) with
            | false =>
              (repeat refine PW.seq ?_); refine PW.cond (t := _) rfl (fun h => ?_) (fun h => ?_)
              · cases h
              refine PW.skip ?_
              exact PW.at [3, 4, 5, 7, 9, 10, 11, 12] (hvv M2 (hend M2 hM2' (by rw [hsel, if_neg (by decide), List.append_nil])) (by omega)) rfl rfl
            | true =>
              (repeat refine PW.seq ?_); refine PW.cond (t := _) rfl (fun h => ?_) (fun h => ?_)
              rotate_left
              · cases h
              have hb8 : 0 ≤ slm m d k ∧ slm m d k ≤ 255 := by omega
              (repeat refine PW.seq ?_); refine PW.rg rfl fun K hK => ?_; simp (maxSteps := 3000000) (disch := omega) only [go_sem, ↓reduceIte, reduceCtorEq, pappend, plen, q2, mB, kS, m408, q4, z2, List.length_append, q21]; refine hK _ _ ?_; clear hK K
              exact PW.at [3, 4, 5, 7, 9, 10, 11, 12] (hvv (M2 ++ [decide (slm m d k = 1)]) (hend _ hM2' (by rw [hsel, if_pos rfl])) (by simp; omega)) (by simp [kp, slot, Nat.beq]) rfl
          intro M3 hM3 hT3
          have so1 := so (vXm m d k - sXs n2 d) (by omega)
          have so2 := so (vYm m d k - sYs n2 d) (by omega)
          have b1 := sg_len (vXm m d k - sXs n2 d) (by omega)
          have b2 := sg_len (vYm m d k - sYs n2 d) (by omega)
          have pp1 : 0 < (sg (vXm m d k - sXs n2 d)).length := by simp [sg, eg, vbits_len]; omega
          have pp2 : 0 < (sg (vYm m d k - sYs n2 d)).length := by simp [sg, eg, vbits_len]; omega
          have z3 := zb_len2 M3
          have zx := zb_len2 (sg (vXm m d k - sXs n2 d))
          have zy := zb_len2 (sg (vYm m d k - sYs n2 d))
          rw [← List.append_assoc, ← List.append_assoc] at hM3
          have qs4' := fun M B => qs4 M n2 B
          have hcell : List.take (4 + d * 2) (stc n2) ++ PV.int .i64 (vXm m d k) :: PV.int .i64 (vYm m d k) :: List.drop (4 + d * 2 + (1 + 1)) (stc n2) = stc (setV n2 d (vXm m d k) (vYm m d k)) := by
            rcases hd01 with rfl | rfl <;> rfl
          generalize sg (vXm m d k - sXs n2 d) = X at *
          generalize sg (vYm m d k - sYs n2 d) = Y at *
          (repeat refine PW.seq ?_); refine PW.drawi [H.length + 4] [(9, [0]), (109, [0]), (124, [0])] [] [123] mix (by kernel_rfl) (by simp <;> omega) fun K hK => ?_
          simp (maxSteps := 3000000) (disch := omega) only [go_sem, ↓reduceIte, reduceCtorEq, pappend, plen, q2, mB, kX, nX, m408, q5, l2]
          refine VCj.read (fun _ _ => so1 _) rfl ?_; simp (maxSteps := 3000000) (disch := omega) only [go_sem, ↓reduceIte, reduceCtorEq, pappend, plen, q4, z3, zx, List.length_append, qs4]
          refine hK _ _ ?_; clear hK K
          have z4 := zb_len2 (M3 ++ X)
          rw [List.length_append] at z4
          have q4' := q4 (M3 ++ X) n2
          rw [List.length_append] at q4'
          have qs6 := qs4 (M3 ++ X) n2 Y
          rw [List.length_append] at qs6
          (repeat refine PW.seq ?_); refine PW.drawi [H.length + 4] [(9, [0]), (125, [0]), (140, [0])] [] [139] mix (by kernel_rfl) (by simp <;> omega) fun K hK => ?_
          simp (maxSteps := 3000000) (disch := omega) only [go_sem, ↓reduceIte, reduceCtorEq, pappend, plen, q2, mB, kY, nY, m408, q5, l2]
          refine VCj.read (fun _ _ => so2 _) rfl ?_; simp (maxSteps := 3000000) (disch := omega) only [go_sem, ↓reduceIte, reduceCtorEq, pappend, plen, q4', z4, zy, List.length_append, qs6]
          refine hK _ _ ?_; clear hK K
          (repeat refine PW.seq ?_); refine PW.rg rfl fun K hK => ?_; simp (maxSteps := 3000000) (disch := omega) only [go_sem, ↓reduceIte, reduceCtorEq, pappend, plen, q2, mB, kV, m408, q5, l2]; refine hK _ _ ?_; clear hK K
          (repeat refine PW.seq ?_); refine PW.rg rfl fun K hK => ?_; simp (maxSteps := 3000000) (disch := omega) only [go_sem, ↓reduceIte, reduceCtorEq, pappend, plen]; refine hK _ _ ?_; clear hK K
          refine PL.at [3, 4, 5, 7, 9, 10, 11, 12] (hnx2 (M3 ++ X ++ Y) _ hs3 hM3 hS2 rfl) ?_ ?_
          · simp [kp, slot, Nat.beq, Nat.add_assoc]
          · rw [hcell, qs5]
            first | rfl | simp only [List.append_assoc]
  have hr2l : (rb2 c m s).length ≤ 300 := by
    unfold rb2
    split
    · rename_i hk
      have e3 : r1 m s = ⟨s.q + m.dl, 0, 0, 0, s.va, s.vb, s.vc, s.vd⟩ := by unfold r1; rw [if_pos hk]
      have := dirsR_len (c := c) hF.v 2 (r1 m s) (by rw [e3]; exact hv)
      simp only [List.length_append]
      split <;> simp <;> omega
    · simp
  have hM2l : (M1 ++ rb2 c m s).length ≤ 400 := by rw [List.length_append]; omega
  have hrr : rbits c m s = M1 ++ rb2 c m s ++ (b3M c m ++ (b4M m ++ (lvsR m 6 (r3 c m s)).1)) := by
    unfold rbits; rw [hM1]; simp only [List.append_assoc]
  rw [hrr]
  clear hrr
  obtain ⟨_, _, _, hb3l, hb4l, _⟩ := hlen
  have hr3 : r3 c m s = if m.k = 1 then ⟨(r2 c m s).q, s.da, s.db, s.dc, (r2 c m s).va, (r2 c m s).vb, (r2 c m s).vc, (r2 c m s).vd⟩ else r2 c m s := rfl
  have hrs : rstate c m s = (lvsR m 6 (r3 c m s)).2 := rfl
  rw [hrs]
  clear hrs
  have hdn : dcR (r3 c m s) := by
    unfold r3
    split
    · exact fun e => hd e
    · have hz : ∀ q a b d e, dcR ⟨q, 0, 0, 0, a, b, d, e⟩ := fun q a b d e k => by unfold dcS; dsimp only; split <;> (try split) <;> omega
      unfold r2
      split
      · rename_i hk
        refine dcR_same (dirsR_same c m 2 _) ?_
        unfold r1
        rw [if_pos hk]
        exact hz _ _ _ _ _
      · rename_i hk
        unfold r1
        rw [if_neg hk]
        exact hz _ _ _ _ _
  generalize r3 c m s = n3 at *
  generalize M1 ++ rb2 c m s = M2 at *
  generalize r2 c m s = n2 at *
  have z2 := zb_len2 M2
  (repeat refine PW.seq ?_); refine PW.rg rfl fun K hK => ?_; simp (maxSteps := 3000000) (disch := omega) only [go_sem, ↓reduceIte, reduceCtorEq, pappend, plen, rF, q2, mB, tk3, m408]
  refine VCx.call (co _) rfl ?_; simp (maxSteps := 3000000) (disch := omega) only [go_sem, ↓reduceIte, reduceCtorEq, pappend, plen]; refine hK _ _ ?_; clear hK K
  refine PW.meet [3, 4, 5, 7, 9, 10] (rF H (M2 ++ b3M c m)) (rH H (M2 ++ b3M c m) c s m n2) ?_ ?_
  · have hb3 : b3M c m = if hlM m then (if bcx c then [m.fd] else []) ++ sg m.dl else [] := rfl
    cases hhl : hlM m with
    | false =>
      rw [hhl, if_neg (by decide)] at hb3
      (repeat refine PW.seq ?_); refine PW.cond (t := _) rfl (fun h => ?_) (fun h => ?_)
      · cases h
      refine PW.skip ?_
      rw [hb3, List.append_nil]
      exact ⟨rfl, rfl⟩
    | true =>
      rw [hhl, if_pos rfl] at hb3
      (repeat refine PW.seq ?_); refine PW.cond (t := _) rfl (fun h => ?_) (fun h => ?_)
      rotate_left
      · cases h
      have so1 := so m.dl (by omega)
      have b1 := sg_len m.dl (by omega)
      have pp1 : 0 < (sg m.dl).length := by simp [sg, eg, vbits_len]; omega
      have zx := zb_len2 (sg m.dl)
      have k4 : (mbc m)[4]? = some (.bool m.fd) := rfl
      (repeat refine PW.seq ?_); refine PW.rg rfl fun K hK => ?_; simp (maxSteps := 3000000) (disch := omega) only [go_sem, ↓reduceIte, reduceCtorEq, pappend, plen, q0, tk1, l1]
      refine VCx.call (bo _) rfl ?_; simp (maxSteps := 3000000) (disch := omega) only [go_sem, ↓reduceIte, reduceCtorEq, pappend, plen]; refine hK _ _ ?_; clear hK K
      suffices hrest : ∀ M3, M3 ++ sg m.dl = M2 ++ b3M c m → M3.length ≤ 500 → PW Try.prog _ _ [(3, .ptr H.length 0 0), (4, .ptr (H.length + 1) 0 0), (5, .ptr (H.length + 2) 0 0), (7, .ptr (H.length + 3) 0 0), (9, .msl (H.length + 4) M3.length 0 M3.length 1 true), (10, .ptr (H.length + 5) 0 0)] (rH H M3 c s m n2) _ by
        cases hbv : bcx c with
        | false =>
          rw [hbv, if_neg (by decide), List.nil_append] at hb3
          (repeat refine PW.seq ?_); refine PW.cond (t := _) rfl (fun h => ?_) (fun h => ?_)
          · cases h
          refine PW.skip ?_
          exact PW.at [3, 4, 5, 7, 9, 10] (hrest M2 (by rw [hb3]) (by omega)) rfl rfl
        | true =>
          rw [hbv, if_pos rfl] at hb3
          (repeat refine PW.seq ?_); refine PW.cond (t := _) rfl (fun h => ?_) (fun h => ?_)
          rotate_left
          · cases h
          have qb : (rH H M2 c s m n2).set (H.length + 4) ⟨5, M2.length + 1, bs (zb M2) ++ [.int .u8 (m.fd.toNat : Int)]⟩ = rH H (M2 ++ [m.fd]) c s m n2 := by
            rw [← qs4 M2 n2 [m.fd]]
            cases m.fd <;> rfl
          (repeat refine PW.seq ?_); refine PW.rg rfl fun K hK => ?_; simp (maxSteps := 3000000) (disch := omega) only [go_sem, ↓reduceIte, reduceCtorEq, pappend, plen, q2, mB, k4, m408]
          refine VCx.call (fl _ _) rfl ?_; simp (maxSteps := 3000000) (disch := omega) only [go_sem, ↓reduceIte, reduceCtorEq, pappend, plen, q4, z2, List.length_append, qb]
          refine hK _ _ ?_; clear hK K
          exact PW.at [3, 4, 5, 7, 9, 10] (hrest (M2 ++ [m.fd]) (by rw [hb3, List.append_assoc]) (by simp; omega)) (by simp [kp, slot, Nat.beq]) rfl
      intro M3 hM3 hl3
      have z3 := zb_len2 M3
      rw [← hM3]
      generalize sg m.dl = X at *
      (repeat refine PW.seq ?_); refine PW.rg rfl fun K hK => ?_; simp (maxSteps := 3000000) (disch := omega) only [go_sem, ↓reduceIte, reduceCtorEq, pappend, plen, q2, mB, k17, m408]
      refine VCx.call (so1 _) rfl ?_; simp (maxSteps := 3000000) (disch := omega) only [go_sem, ↓reduceIte, reduceCtorEq, pappend, plen, q4, z3, zx, List.length_append, qs4]
      refine hK _ _ ?_; clear hK K
      exact ⟨by simp [kp, slot, Nat.beq, rF], rfl⟩
  have hM3l : (M2 ++ b3M c m).length ≤ 450 := by rw [List.length_append]; omega
  rw [← List.append_assoc]
  generalize M2 ++ b3M c m = M3 at *
  have z3 := zb_len2 M3
  (repeat refine PW.seq ?_)
  refine PW.rgv [4, 5, 7, 9, 10] 171 (.bool (decide (m.k = 2) && hlM m)) rfl ?_ ?_
  · cases hk2 : decide (m.k = 2) with
    | true =>
      have e : (m.k == 2) = true := hk2
      simp (maxSteps := 3000000) (disch := omega) only [go_sem, ↓reduceIte, reduceCtorEq, pappend, plen, rF, q2, mB, k0, e, m408, tk3]
      refine VCx.call (co _) rfl ?_; simp (maxSteps := 3000000) (disch := omega) only [go_sem, ↓reduceIte, reduceCtorEq, pappend, plen]
    | false =>
      have e : (m.k == 2) = false := hk2
      simp (maxSteps := 3000000) (disch := omega) only [go_sem, ↓reduceIte, reduceCtorEq, pappend, plen, rF, q2, mB, k0, e, m408, tk3]
  refine PW.meet [4, 5, 7, 9, 10] (rG H (M3 ++ b4M m)) (rH H (M3 ++ b4M m) c s m n2) ?_ ?_
  · have hb4 : b4M m = if decide (m.k = 2) && hlM m then cdl m else [] := rfl
    cases hc4 : (decide (m.k = 2) && hlM m) with
    | false =>
      rw [hc4, if_neg (by decide)] at hb4
      (repeat refine PW.seq ?_); refine PW.cond (t := _) rfl (fun h => ?_) (fun h => ?_)
      · cases h
      refine PW.skip ?_
      rw [hb4, List.append_nil]
      exact ⟨rfl, rfl⟩
    | true =>
      rw [hc4, if_pos rfl] at hb4
      rw [hb4]
      (repeat refine PW.seq ?_); refine PW.cond (t := _) rfl (fun h => ?_) (fun h => ?_)
      rotate_left
      · cases h
      have k18 : ∀ r, r < 6 → (mbc m)[18 + r]? = some (.bool (flagAt (cdl m) r)) := fun r hr => by
        have : r = 0 ∨ r = 1 ∨ r = 2 ∨ r = 3 ∨ r = 4 ∨ r = 5 := by omega
        rcases this with rfl | rfl | rfl | rfl | rfl | rfl <;> rfl
      have hcl' : (cdl m).length = 6 := rfl
      (repeat refine PW.seq ?_); refine PW.rg rfl fun K hK => ?_; simp (maxSteps := 3000000) (disch := omega) only [go_sem, ↓reduceIte, reduceCtorEq, pappend, plen]; refine hK _ _ ?_; clear hK K
      (repeat refine PW.seq ?_); refine PW.block (PW.loop ?_)
      suffices hl1 : ∀ (r : Nat) (M4 : List Bool), r ≤ 6 → M4 = M3 ++ (cdl m).take r → PL Try.prog _ _ [(4, .ptr (H.length + 1) 0 0), (5, .ptr (H.length + 2) 0 0), (7, .ptr (H.length + 3) 0 0), (9, .msl (H.length + 4) M4.length 0 M4.length 1 true), (10, .ptr (H.length + 5) 0 0), (13, .int .i64 (r : Int))] (rH H M4 c s m n2) _ by
        exact PL.at [4, 5, 7, 9, 10, 13] (hl1 0 M3 (by omega) (by simp)) rfl rfl
      intro r M4 hr hM4
      have hM4l : M4.length ≤ 460 := by rw [hM4]; simp; omega
      induction hdd : 6 - r using Nat.strongRecOn generalizing r M4 with
      | _ dd ih =>
        refine PL.round ?_; (repeat refine PW.seq ?_); refine PW.rg rfl fun K hK => ?_; simp (maxSteps := 3000000) (disch := omega) only [go_sem, ↓reduceIte, reduceCtorEq, pappend, plen]; refine hK _ _ ?_; clear hK K
        (repeat refine PW.seq ?_); refine PW.cond (t := _) rfl (fun h => ?_) (fun h => ?_)
        · have h6 : r < 6 := by have := of_decide_eq_true h; omega
          have hgn := k18 r h6
          have hsn : M3 ++ (cdl m).take (r + 1) = M4 ++ [flagAt (cdl m) r] := by
            rw [hM4, List.append_assoc]
            congr 1
            unfold flagAt
            rw [List.getD_eq_getElem?_getD, List.getElem?_eq_getElem (by omega), Option.getD_some, List.take_append_getElem]
          generalize flagAt (cdl m) r = b at *
          have z4 := zb_len2 M4
          have qb : (rH H M4 c s m n2).set (H.length + 4) ⟨5, M4.length + 1, bs (zb M4) ++ [.int .u8 (b.toNat : Int)]⟩ = rH H (M4 ++ [b]) c s m n2 := by
            rw [← qs4 M4 n2 [b]]
            cases b <;> rfl
          refine PW.skip ?_; (repeat refine PW.seq ?_); refine PW.block ?_
          (repeat refine PW.seq ?_); refine PW.rg rfl fun K hK => ?_; simp (maxSteps := 3000000) (disch := omega) only [go_sem, ↓reduceIte, reduceCtorEq, pappend, plen, q2, mB, hgn, m408]
          refine VCx.call (fl _ _) rfl ?_; simp (maxSteps := 3000000) (disch := omega) only [go_sem, ↓reduceIte, reduceCtorEq, pappend, plen, q4, z4, List.length_append, qb]
          refine hK _ _ ?_; clear hK K
          (repeat refine PW.seq ?_); refine PW.rg rfl fun K hK => ?_; simp (maxSteps := 3000000) (disch := omega) only [go_sem, ↓reduceIte, reduceCtorEq, pappend, plen]; refine hK _ _ ?_; clear hK K
          exact PL.at [4, 5, 7, 9, 10, 13] (ih (6 - (r + 1)) (by omega) (r + 1) (M4 ++ [b]) (by omega) hsn.symm (by rw [← hsn]; simp; omega) rfl) (by simp [kp, slot, Nat.beq]) rfl
        · have h6 : r = 6 := by have := of_decide_eq_false h; omega
          subst h6
          rw [List.take_of_length_le (by omega)] at hM4
          subst hM4
          refine PW.exit ?_
          exact ⟨rfl, rfl⟩
  have hM4l : (M3 ++ b4M m).length ≤ 460 := by rw [List.length_append]; omega
  rw [← List.append_assoc]
  generalize M3 ++ b4M m = M4 at *
  (repeat refine PW.seq ?_); refine PW.rg rfl fun K hK => ?_; simp (maxSteps := 3000000) (disch := omega) only [go_sem, ↓reduceIte, reduceCtorEq, pappend, plen, rG, q2, mB, k0, m408]; refine hK _ _ ?_; clear hK K
  refine PW.meet [4, 5, 7, 9, 10] (rG H M4) (rH H M4 c s m n3) ?_ ?_
  · by_cases hk : m.k = 1
    · have b1 : (m.k == 1) = true := by simp [hk]
      rw [if_pos hk] at hr3
      rw [b1]
      (repeat refine PW.seq ?_); refine PW.cond (t := _) rfl (fun h => ?_) (fun h => ?_)
      rotate_left
      · cases h
      have hD := qs5 M4 n2 ⟨n2.q, s.da, s.db, s.dc, n2.va, n2.vb, n2.vc, n2.vd⟩
      rw [← hr3] at hD
      rw [hr3] at hD ⊢
      (repeat refine PW.seq ?_); refine PW.rg rfl fun K hK => ?_; simp (maxSteps := 3000000) (disch := omega) only [go_sem, ↓reduceIte, reduceCtorEq, pappend, plen, q1, q5, stc]; refine hK _ _ ?_; clear hK K
      exact ⟨rfl, hD⟩
    · have b1 : (m.k == 1) = false := by simp [hk]
      rw [if_neg hk] at hr3
      rw [b1, hr3]
      (repeat refine PW.seq ?_); refine PW.cond (t := _) rfl (fun h => ?_) (fun h => ?_)
      · cases h
      refine PW.skip ?_
      exact ⟨rfl, rfl⟩
  have hTl := lvsR_len hF.l 6 n3 (by omega) hdn
  generalize hS : (lvsR m 6 n3).2 = S
  generalize hT : M4 ++ (lvsR m 6 n3).1 = T
  have hTb : T.length ≤ 30000 := by rw [← hT, List.length_append]; omega
  have k18 : ∀ r, r < 6 → (mbc m)[18 + r]? = some (.bool (flagAt (cdl m) r)) := fun r hr => by
    have : r = 0 ∨ r = 1 ∨ r = 2 ∨ r = 3 ∨ r = 4 ∨ r = 5 := by omega
    rcases this with rfl | rfl | rfl | rfl | rfl | rfl <;> rfl
  have hl0 := fun r hr => mbc_l0 m r hml hr
  have hbl := mbc_bl m
  have blen := fun r (hr : r < 6) => blk_len m.lv r hml hr
  have hF1 := hF.i
  have hF0 := fmd_c0 fm
  (repeat refine PW.seq ?_); refine PW.rg rfl fun K hK => ?_; simp (maxSteps := 3000000) (disch := omega) only [go_sem, ↓reduceIte, reduceCtorEq, pappend, plen, rG]; refine hK _ _ ?_; clear hK K
  (repeat refine PW.seq ?_); refine PW.block (PW.loop ?_)
  suffices hl1 : ∀ (r : Nat) (M5 : List Bool) (n5 : St), r ≤ 6 → dcR n5 → M5 ++ (lvsR m (6 - r) n5).1 = T → (lvsR m (6 - r) n5).2 = S → PL Try.prog _ _ [(5, .ptr (H.length + 2) 0 0), (7, .ptr (H.length + 3) 0 0), (9, .msl (H.length + 4) M5.length 0 M5.length 1 true), (10, .ptr (H.length + 5) 0 0), (14, .int .i64 (r : Int))] (rH H M5 c s m n5) _ by
    exact PL.at [5, 7, 9, 10, 14] (hl1 0 M4 n3 (by omega) hdn hT hS) rfl rfl
  clear hT hS hdn hr3
  intro r M5 n5 hr hdn hT hS
  induction hdd : 6 - r using Nat.strongRecOn generalizing r M5 n5 with
  | _ dd ih =>
    refine PL.round ?_; (repeat refine PW.seq ?_); refine PW.rg rfl fun K hK => ?_; simp (maxSteps := 3000000) (disch := omega) only [go_sem, ↓reduceIte, reduceCtorEq, pappend, plen]; refine hK _ _ ?_; clear hK K
    (repeat refine PW.seq ?_); refine PW.cond (t := _) rfl (fun h => ?_) (fun h => ?_)
    rotate_left
    · have h6 : r = 6 := by have := of_decide_eq_false h; omega
      subst h6
      refine PW.exit ?_
      simp only [Nat.sub_self, lvsR, List.append_nil] at hT hS
      subst hT hS
      have z5 := zb_len2 M5
      have rs3 : ∀ X, (rH H M5 c s m n5).set (H.length + 3) X = H ++ [⟨92, 0, cxc c⟩, ⟨116, 0, stc s⟩, mB m, X, ⟨5, M5.length, bs (zb M5)⟩, ⟨116, 0, stc n5⟩] := fun X => by unfold rH; rw [aps]; rfl
      have q3 : (rH H M5 c s m n5)[H.length + 3]? = some ⟨116, 0, [.int .i64 0, .int .i64 0, .int .i64 0, .int .i64 0, .int .i64 0, .int .i64 0, .int .i64 0, .int .i64 0]⟩ := rH_3 H M5 c s m n5
      have tk8 : ∀ t, List.take 8 (stc t) = stc t := fun _ => rfl
      have c8 : ∀ t, (stc t).all PV.cell = true := fun _ => rfl
      (repeat refine PW.seq ?_); refine PW.drawt [] [] mix (by kernel_rfl) fun K hK => ?_; simp (maxSteps := 3000000) (disch := omega) only [go_sem, ↓reduceIte, reduceCtorEq, pappend, plen, q5, q3, tk8, l2, c8, rs3]
      refine hK _ _ ?_; clear hK K
      refine PW.ret ⟨.tup [.msl (H.length + 4) M5.length 0 M5.length 1 true, .agg (stc n5), .int .i64 0], by simp (maxSteps := 3000000) (disch := omega) only [go_sem, ↓reduceIte, reduceCtorEq, pappend, plen, presults, presult, List.mapM_cons, List.mapM_nil, Option.pure_def, Option.bind_eq_bind, Option.bind_some, Array.toList, tk8, l2], ?_⟩
      exact Fin.base (Fz.tupC ⟨Fz.mslC (e := 5) (xs := bs (zb M5)) (by omega) (hp4 _ _ _ _ _ _ _) (by simp [z5]) (FzC.refl (bs_scoped _ _)), .id (stc_scoped _ _), .id (.int _ _), trivial⟩)
    have h6 : r < 6 := by have := of_decide_eq_true h; omega
    obtain ⟨d', hd'⟩ : ∃ d', 6 - r = d' + 1 := ⟨5 - r, by omega⟩
    have hn5 : 5 - d' = r := by omega
    have hdn6 : 6 - (r + 1) = d' := by omega
    rw [hd', lvsR, hn5] at hT hS
    have hnx := ih (6 - (r + 1)) (by omega) (r + 1)
    rw [hdn6] at hnx
    clear ih
    have hM5 : M5.length ≤ 30000 := by
      have : M5.length ≤ T.length := by rw [← hT, List.length_append]; omega
      omega
    have k18r := k18 r h6
    have hl0r := hl0 r h6
    have hblr := hbl r
    have hbl64 := blen r h6
    change (blkM m r).length = 64 at hbl64
    have hin := blkM_in hF.l h6
    have wl := win_b (hF.l (r * 64) (by omega))
    have pn := fun K => part_ref r K h6
    have hcel := is_cell (blkM m r)
    have z5 := zb_len2 M5
    refine PW.skip ?_; (repeat refine PW.seq ?_); refine PW.block ?_
    (repeat refine PW.seq ?_); refine PW.rg rfl fun K hK => ?_; simp (maxSteps := 3000000) (disch := omega) only [go_sem, ↓reduceIte, reduceCtorEq, pappend, plen]; refine hK _ _ ?_; clear hK K
    (repeat refine PW.seq ?_); refine PW.rg rfl fun K hK => ?_; simp (maxSteps := 3000000) (disch := omega) only [go_sem, ↓reduceIte, reduceCtorEq, pappend, plen, q2, mB, k0, m408]; refine hK _ _ ?_; clear hK K
    by_cases hk : m.k = 1
    · have b1 : (m.k == 1) = true := by simp [hk]
      have hfg : flagAt (cdl m) r = true := by
        rw [hF1 hk]
        have : r = 0 ∨ r = 1 ∨ r = 2 ∨ r = 3 ∨ r = 4 ∨ r = 5 := by omega
        rcases this with rfl | rfl | rfl | rfl | rfl | rfl <;> rfl
      rw [hfg] at k18r
      rw [if_pos hfg, if_neg (by omega)] at hT hS
      rw [b1]
      (repeat refine PW.seq ?_); refine PW.cond (t := _) rfl (fun h => ?_) (fun h => ?_)
      rotate_left
      · cases h
      (repeat refine PW.seq ?_); refine PW.rg rfl fun K hK => ?_; simp (maxSteps := 3000000) (disch := omega) only [go_sem, ↓reduceIte, reduceCtorEq, pappend, plen]; refine hK _ _ ?_; clear hK K
      have dcb := hdn (r - 3)
      have hq3 : r - 3 < 3 := by omega
      have ndc := stc_dc n5 (r - 3) hq3
      have nsd := fun x => stc_sdc n5 (r - 3) x hq3
      have hdn' := dcR_set hdn (r - 3) wl
      have so1 := so (intAt m.lv (r * 64) - dcS n5 (r - 3)) (by omega)
      have g1 := sg_len (intAt m.lv (r * 64) - dcS n5 (r - 3)) (by omega)
      have pp1 : 0 < (sg (intAt m.lv (r * 64) - dcS n5 (r - 3))).length := by simp [sg, eg, vbits_len]; omega
      have zx := zb_len2 (sg (intAt m.lv (r * 64) - dcS n5 (r - 3)))
      have co1 := fun K => bcode_ref (blkM m r) 1 K (by omega) hbl64 hin
      have zy := zb_len2 (bkc (blkM m r) 1)
      have bl1 := bkc_len (blkM m r) 1 hin (by omega)
      rw [← List.append_assoc, ← List.append_assoc] at hT
      generalize hx : intAt m.lv (r * 64) = x at *
      generalize hX : sg (x - dcS n5 (r - 3)) = X at *
      generalize hY : bkc (blkM m r) 1 = Y at *
      have hYp : 0 < Y.length := by
        rw [← hY]; unfold bkc
        exact bkR_pos _ _ _ _
      (repeat refine PW.seq ?_); refine PW.drawi [H.length + 4] [(9, [0]), (197, [0]), (210, [0])] [] [204, 209] mix (by kernel_rfl) (by simp <;> omega) fun K hK => ?_
      simp (maxSteps := 3000000) (disch := omega) only [go_sem, ↓reduceIte, reduceCtorEq, pappend, plen, q2, mB, hl0r, m408, q5, l2]
      refine VCj.read (fun _ _ => pn _) rfl ?_; simp (maxSteps := 3000000) (disch := omega) only [go_sem, ↓reduceIte, reduceCtorEq, pappend, plen, q5, l2, ndc]
      refine VCj.read (fun _ _ => so1 _) rfl ?_; simp (maxSteps := 3000000) (disch := omega) only [go_sem, ↓reduceIte, reduceCtorEq, pappend, plen, q4, z5, zx, List.length_append, qs4]
      refine hK _ _ ?_; clear hK K
      (repeat refine PW.seq ?_); refine PW.drawi [H.length + 5] [(10, [0]), (218, [0]), (219, [0])] [] [212] mix (by kernel_rfl) (by simp <;> omega) fun K hK => ?_
      simp (maxSteps := 3000000) (disch := omega) only [go_sem, ↓reduceIte, reduceCtorEq, pappend, plen]
      refine VCj.read (fun _ _ => pn _) rfl ?_; simp (maxSteps := 3000000) (disch := omega) only [go_sem, ↓reduceIte, reduceCtorEq, pappend, plen, q2, mB, hl0r, m408, q5, l2, nsd, qs5]
      refine hK _ _ ?_; clear hK K
      (repeat refine PW.seq ?_); refine PW.rg rfl fun K hK => ?_; simp (maxSteps := 3000000) (disch := omega) only [go_sem, ↓reduceIte, reduceCtorEq, pappend, plen, q2, mB, k18r, m408]; refine hK _ _ ?_; clear hK K
      (repeat refine PW.seq ?_); refine PW.cond (t := _) rfl (fun h => ?_) (fun h => ?_)
      rotate_left
      · cases h
      have z6 := zb_len2 (M5 ++ X)
      rw [List.length_append] at z6
      have q4' := q4 (M5 ++ X) (setD n5 (r - 3) x)
      rw [List.length_append] at q4'
      have qs6 := qs4 (M5 ++ X) (setD n5 (r - 3) x) Y
      rw [List.length_append] at qs6
      (repeat refine PW.seq ?_); refine PW.rg rfl fun K hK => ?_; simp (maxSteps := 3000000) (disch := omega) only [go_sem, ↓reduceIte, reduceCtorEq, pappend, plen, q2, mB, hblr, m408]
      refine VCx.call (co1 _) rfl ?_; simp (maxSteps := 3000000) (disch := omega) only [go_sem, ↓reduceIte, reduceCtorEq, pappend, plen]; refine hK _ _ ?_; clear hK K
      (repeat refine PW.seq ?_); refine PW.rg rfl fun K hK => ?_; simp (maxSteps := 3000000) (disch := omega) only [go_sem, ↓reduceIte, reduceCtorEq, pappend, plen, q4', z6, zy, List.length_append, qs6]; refine hK _ _ ?_; clear hK K
      (repeat refine PW.seq ?_); refine PW.rg rfl fun K hK => ?_; simp (maxSteps := 3000000) (disch := omega) only [go_sem, ↓reduceIte, reduceCtorEq, pappend, plen]; refine hK _ _ ?_; clear hK K
      refine PL.at [5, 7, 9, 10, 14] (hnx (M5 ++ X ++ Y) _ (by omega) hdn' hT hS rfl) ?_ ?_
      · simp [kp, slot, Nat.beq, Nat.add_assoc]
      · first | rfl | simp only [List.append_assoc]
    · have b1 : (m.k == 1) = false := by simp [hk]
      rw [b1]
      (repeat refine PW.seq ?_); refine PW.cond (t := _) rfl (fun h => ?_) (fun h => ?_)
      · cases h
      refine PW.skip ?_
      (repeat refine PW.seq ?_); refine PW.rg rfl fun K hK => ?_; simp (maxSteps := 3000000) (disch := omega) only [go_sem, ↓reduceIte, reduceCtorEq, pappend, plen, q2, mB, k18r, m408]; refine hK _ _ ?_; clear hK K
      cases hfg : flagAt (cdl m) r with
      | false =>
        rw [hfg, if_neg (by decide)] at hT hS
        (repeat refine PW.seq ?_); refine PW.cond (t := _) rfl (fun h => ?_) (fun h => ?_)
        · cases h
        refine PW.skip ?_
        (repeat refine PW.seq ?_); refine PW.rg rfl fun K hK => ?_; simp (maxSteps := 3000000) (disch := omega) only [go_sem, ↓reduceIte, reduceCtorEq, pappend, plen]; refine hK _ _ ?_; clear hK K
        exact PL.at [5, 7, 9, 10, 14] (hnx M5 n5 (by omega) hdn hT hS rfl) rfl rfl
      | true =>
        have hk2 : m.k = 2 := by
          rcases hF.k with h0 | h0 | h0
          · rw [hF0 h0] at hfg
            have : r = 0 ∨ r = 1 ∨ r = 2 ∨ r = 3 ∨ r = 4 ∨ r = 5 := by omega
            rcases this with rfl | rfl | rfl | rfl | rfl | rfl <;> cases hfg
          · exact absurd h0 hk
          · exact h0
        rw [if_pos hfg, if_pos hk2, ← List.append_assoc] at hT
        rw [if_pos hfg, if_pos hk2] at hS
        (repeat refine PW.seq ?_); refine PW.cond (t := _) rfl (fun h => ?_) (fun h => ?_)
        rotate_left
        · cases h
        have co1 := fun K => bcode_ref (blkM m r) 0 K (by omega) hbl64 hin
        have zy := zb_len2 (bkc (blkM m r) 0)
        have bl1 := bkc_len (blkM m r) 0 hin (by omega)
        have hYp : 0 < (bkc (blkM m r) 0).length := by
          unfold bkc
          exact bkR_pos _ _ _ _
        generalize bkc (blkM m r) 0 = Y at *
        (repeat refine PW.seq ?_); refine PW.rg rfl fun K hK => ?_; simp (maxSteps := 3000000) (disch := omega) only [go_sem, ↓reduceIte, reduceCtorEq, pappend, plen, q2, mB, hblr, m408]
        refine VCx.call (co1 _) rfl ?_; simp (maxSteps := 3000000) (disch := omega) only [go_sem, ↓reduceIte, reduceCtorEq, pappend, plen]; refine hK _ _ ?_; clear hK K
        (repeat refine PW.seq ?_); refine PW.rg rfl fun K hK => ?_; simp (maxSteps := 3000000) (disch := omega) only [go_sem, ↓reduceIte, reduceCtorEq, pappend, plen, q4, z5, zy, List.length_append, qs4]; refine hK _ _ ?_; clear hK K
        (repeat refine PW.seq ?_); refine PW.rg rfl fun K hK => ?_; simp (maxSteps := 3000000) (disch := omega) only [go_sem, ↓reduceIte, reduceCtorEq, pappend, plen]; refine hK _ _ ?_; clear hK K
        refine PL.at [5, 7, 9, 10, 14] (hnx (M5 ++ Y) n5 (by omega) hdn hT hS rfl) ?_ ?_
        · simp [kp, slot, Nat.beq, Nat.add_assoc]
        · first | rfl | simp only [List.append_assoc]

end Go.Proofs.Ytnjnikafhbholaa.Sc

namespace Go.Proofs.Ytnjnikafhbholaa.Sc
set_option linter.all false
set_option linter.unusedVariables false
set_option linter.unusedSimpArgs false
open Pm Ty Go.RowKit

/-! ### vectors hang on vectors alone, DC values on DC values -/
def VEqS (s t : St) : Prop := ∀ d, sXs s d = sXs t d ∧ sYs s d = sYs t d
theorem VEqS.set {s t : St} (h : VEqS s t) (d : Nat) (x y : Int) : VEqS (setV s d x y) (setV t d x y) := fun e => by
  have a : s.va = t.va ∧ s.vb = t.vb := h 0
  have b : s.vc = t.vc ∧ s.vd = t.vd := h 1
  unfold setV
  split
  · unfold sXs sYs
    dsimp only
    split
    · exact ⟨rfl, rfl⟩
    · exact b
  · unfold sXs sYs
    dsimp only
    split
    · exact a
    · exact ⟨rfl, rfl⟩
theorem vec1_congr {s t : St} (c : Cx) (m : Mb) (d k : Nat) (h : VEqS s t) : vec1 c m s d k = vec1 c m t d k := by
  unfold vec1; rw [(h d).1, (h d).2]
theorem vecsR_congr (c : Cx) (m : Mb) (d : Nat) : ∀ n s t, VEqS s t → (vecsR c m d n s).1 = (vecsR c m d n t).1 ∧ VEqS (vecsR c m d n s).2 (vecsR c m d n t).2
  | 0, s, t, h => ⟨rfl, h⟩
  | n + 1, s, t, h => by
    obtain ⟨i1, i2⟩ := vecsR_congr c m d n _ _ (h.set d (vXm m d (nvM m - (n + 1))) (vYm m d (nvM m - (n + 1))))
    refine ⟨?_, i2⟩
    simp only [vecsR]
    rw [vec1_congr c m d _ h, i1]
theorem dirB_congr (c : Cx) (m : Mb) (d : Nat) {s t : St} (h : VEqS s t) : (dirB c m s d).1 = (dirB c m t d).1 ∧ VEqS (dirB c m s d).2 (dirB c m t d).2 := by
  unfold dirB
  split
  · exact vecsR_congr c m d _ s t h
  · exact ⟨rfl, h⟩
theorem dirsR_congr (c : Cx) (m : Mb) : ∀ n s t, VEqS s t → (dirsR c m n s).1 = (dirsR c m n t).1 ∧ VEqS (dirsR c m n s).2 (dirsR c m n t).2
  | 0, s, t, h => ⟨rfl, h⟩
  | n + 1, s, t, h => by
    obtain ⟨j1, j2⟩ := dirB_congr c m (1 - n) h
    obtain ⟨i1, i2⟩ := dirsR_congr c m n _ _ j2
    refine ⟨?_, i2⟩
    simp only [dirsR]
    rw [j1, i1]
def DEqS (s t : St) : Prop := s.da = t.da ∧ s.db = t.db ∧ s.dc = t.dc
theorem DEqS.at {s t : St} (h : DEqS s t) (k : Nat) : dcS s k = dcS t k := by
  unfold dcS; rw [h.1, h.2.1, h.2.2]
theorem DEqS.set {s t : St} (h : DEqS s t) (k : Nat) (x : Int) : DEqS (setD s k x) (setD t k x) := by
  unfold setD
  split
  · exact ⟨rfl, h.2.1, h.2.2⟩
  · split
    · exact ⟨h.1, rfl, h.2.2⟩
    · exact ⟨h.1, h.2.1, rfl⟩
theorem lvsR_congr (m : Mb) : ∀ n s t, DEqS s t → (lvsR m n s).1 = (lvsR m n t).1 ∧ DEqS (lvsR m n s).2 (lvsR m n t).2
  | 0, s, t, h => ⟨rfl, h⟩
  | n + 1, s, t, h => by
    rw [lvsR, lvsR]
    obtain ⟨i1, i2⟩ := lvsR_congr m n s t h
    obtain ⟨j1, j2⟩ := lvsR_congr m n _ _ (h.set (5 - n - 3) (intAt m.lv ((5 - n) * 64)))
    by_cases hf : flagAt (cdl m) (5 - n) = true
    · rw [if_pos hf, if_pos hf]
      by_cases hk : m.k = 2
      · rw [if_pos hk, if_pos hk]
        exact ⟨by simp only [i1], i2⟩
      · rw [if_neg hk, if_neg hk, h.at]
        exact ⟨by simp only [j1], j2⟩
    · rw [if_neg hf, if_neg hf]
      exact ⟨i1, i2⟩
def SameV (s t : St) : Prop := t.q = s.q ∧ t.va = s.va ∧ t.vb = s.vb ∧ t.vc = s.vc ∧ t.vd = s.vd
theorem setD_same (s : St) (k : Nat) (x : Int) : SameV s (setD s k x) := by
  unfold setD
  split
  · exact ⟨rfl, rfl, rfl, rfl, rfl⟩
  · split <;> exact ⟨rfl, rfl, rfl, rfl, rfl⟩
theorem SameV.trans {a b c : St} (h : SameV a b) (k : SameV b c) : SameV a c := ⟨k.1.trans h.1, k.2.1.trans h.2.1, k.2.2.1.trans h.2.2.1, k.2.2.2.1.trans h.2.2.2.1, k.2.2.2.2.trans h.2.2.2.2⟩
theorem lvsR_same (m : Mb) : ∀ n s, SameV s (lvsR m n s).2
  | 0, s => ⟨rfl, rfl, rfl, rfl, rfl⟩
  | n + 1, s => by
    rw [lvsR]
    by_cases hf : flagAt (cdl m) (5 - n) = true
    · rw [if_pos hf]
      by_cases hk : m.k = 2
      · rw [if_pos hk]; exact lvsR_same m n s
      · rw [if_neg hk]; exact (setD_same s _ _).trans (lvsR_same m n _)
    · rw [if_neg hf]; exact lvsR_same m n s
theorem lvsR_k2 (m : Mb) (hk : m.k = 2) : ∀ n s t, (lvsR m n s).1 = (lvsR m n t).1 ∧ (lvsR m n s).2 = s
  | 0, s, t => ⟨rfl, rfl⟩
  | n + 1, s, t => by
    obtain ⟨i1, i2⟩ := lvsR_k2 m hk n s t
    rw [lvsR, lvsR]
    by_cases hf : flagAt (cdl m) (5 - n) = true
    · rw [if_pos hf, if_pos hf, if_pos hk, if_pos hk]
      exact ⟨by simp only [i1], i2⟩
    · rw [if_neg hf, if_neg hf]; exact ⟨i1, i2⟩
theorem lvsR_k0 (m : Mb) (hc : cdl m = [false, false, false, false, false, false]) : ∀ n s, n ≤ 6 → lvsR m n s = ([], s)
  | 0, s, _ => rfl
  | n + 1, s, h => by
    have : flagAt (cdl m) (5 - n) = false := by
      rw [hc]
      have : n = 0 ∨ n = 1 ∨ n = 2 ∨ n = 3 ∨ n = 4 ∨ n = 5 := by omega
      rcases this with rfl | rfl | rfl | rfl | rfl | rfl <;> rfl
    rw [lvsR, if_neg (by rw [this]; decide)]
    exact lvsR_k0 m hc n s (by omega)
theorem St.eq {s t : St} (hq : s.q = t.q) (hd : DEqS s t) (ha : s.va = t.va) (hb : s.vb = t.vb) (hc : s.vc = t.vc) (he : s.vd = t.vd) : s = t := by
  obtain ⟨q, da, db, dc, va, vb, vc, vd⟩ := s
  obtain ⟨q', da', db', dc', va', vb', vc', vd'⟩ := t
  simp only [DEqS] at *
  obtain ⟨rfl, rfl, rfl⟩ := hd
  subst hq ha hb hc he
  rfl
theorem spec_eq (c : Cx) (m : Mb) (s : St) (fm : fmS c m = true) : rbits c m s = mbits c s m ∧ rstate c m s = mstate c s m := by
  have hF := fmd_of fm
  rcases hF.k with hk | hk | hk
  · have hc := fmd_c0 fm hk
    obtain ⟨z1, z2⟩ := hF.z hk
    have e1 : s23 c m s = s := by unfold s23 s3M s2M; rw [if_neg (by rw [z2]; decide), if_neg (by omega)]
    have e2 : r3 c m s = ⟨s.q, 0, 0, 0, 0, 0, 0, 0⟩ := by
      unfold r3 r2 r1 r0; rw [if_neg (by omega), if_neg (by omega), if_neg (by omega), z1, Int.add_zero]
    have e3 : rb2 c m s = [] := by unfold rb2; rw [if_neg (by omega)]
    have e4 : b2M c m s = [] := by unfold b2M; rw [if_neg (by omega)]
    refine ⟨?_, ?_⟩
    · unfold rbits mbits
      rw [e1, e2, e3, e4, lvsR_k0 m hc 6 _ (by omega), lvsR_k0 m hc 6 _ (by omega)]
    · unfold rstate mstate
      rw [e1, e2, lvsR_k0 m hc 6 _ (by omega), lvsR_k0 m hc 6 _ (by omega), hk]
      rfl
  · have hh : hlM m = true := by unfold hlM; rw [hk]; rfl
    have e1 : s23 c m s = ⟨s.q + m.dl, s.da, s.db, s.dc, s.va, s.vb, s.vc, s.vd⟩ := by unfold s23 s3M s2M; rw [if_pos hh, if_neg (by omega)]
    have e2 : r3 c m s = ⟨s.q + m.dl, s.da, s.db, s.dc, 0, 0, 0, 0⟩ := by
      unfold r3 r2 r1 r0; rw [if_pos hk, if_neg (by omega), if_neg (by omega)]
    have e3 : rb2 c m s = [] := by unfold rb2; rw [if_neg (by omega)]
    have e4 : b2M c m s = [] := by unfold b2M; rw [if_neg (by omega)]
    obtain ⟨l1, l2⟩ := lvsR_congr m 6 ⟨s.q + m.dl, s.da, s.db, s.dc, 0, 0, 0, 0⟩ ⟨s.q + m.dl, s.da, s.db, s.dc, s.va, s.vb, s.vc, s.vd⟩ ⟨rfl, rfl, rfl⟩
    refine ⟨?_, ?_⟩
    · unfold rbits mbits
      rw [e1, e2, e3, e4, l1]
    · unfold rstate mstate
      rw [e1, e2, hk]
      have v1 := lvsR_same m 6 ⟨s.q + m.dl, s.da, s.db, s.dc, 0, 0, 0, 0⟩
      have v2 := lvsR_same m 6 ⟨s.q + m.dl, s.da, s.db, s.dc, s.va, s.vb, s.vc, s.vd⟩
      generalize (lvsR m 6 ⟨s.q + m.dl, s.da, s.db, s.dc, 0, 0, 0, 0⟩).2 = A at *
      generalize (lvsR m 6 ⟨s.q + m.dl, s.da, s.db, s.dc, s.va, s.vb, s.vc, s.vd⟩).2 = B at *
      exact St.eq (v1.1.trans v2.1.symm) l2 v1.2.1 v1.2.2.1 v1.2.2.2.1 v1.2.2.2.2
  · have e3 : r1 m s = ⟨s.q + m.dl, 0, 0, 0, s.va, s.vb, s.vc, s.vd⟩ := by unfold r1; rw [if_pos hk]
    have hv : VEqS (r1 m s) s := fun d => by rw [e3]; exact ⟨rfl, rfl⟩
    obtain ⟨d1, d2⟩ := dirsR_congr c m 2 _ _ hv
    have e4 : rb2 c m s = b2M c m s := by unfold rb2 b2M; rw [if_pos hk, if_pos hk, d1]
    obtain ⟨l1, l2⟩ := lvsR_k2 m hk 6 (r3 c m s) (s23 c m s)
    obtain ⟨_, l3⟩ := lvsR_k2 m hk 6 (s23 c m s) (s23 c m s)
    refine ⟨?_, ?_⟩
    · unfold rbits mbits
      rw [e4, l1]
    · unfold rstate mstate
      rw [l2, l3, hk]
      have e5 : r3 c m s = (dirsR c m 2 (r1 m s)).2 := by unfold r3 r2; rw [if_neg (by omega), if_pos hk]
      have e6 : s2M c m s = (dirsR c m 2 s).2 := by unfold s2M; rw [if_pos hk]
      have w1 := dirsR_same c m 2 (r1 m s)
      have w2 := dirsR_same c m 2 s
      have a : sXs (dirsR c m 2 (r1 m s)).2 0 = sXs (dirsR c m 2 s).2 0 ∧ sYs (dirsR c m 2 (r1 m s)).2 0 = sYs (dirsR c m 2 s).2 0 := d2 0
      have b : sXs (dirsR c m 2 (r1 m s)).2 1 = sXs (dirsR c m 2 s).2 1 ∧ sYs (dirsR c m 2 (r1 m s)).2 1 = sYs (dirsR c m 2 s).2 1 := d2 1
      unfold s23
      rw [e5, e6]
      rw [e3] at w1 a b ⊢
      have hn := hF.n
      generalize (dirsR c m 2 ⟨s.q + m.dl, 0, 0, 0, s.va, s.vb, s.vc, s.vd⟩).2 = A at *
      generalize (dirsR c m 2 s).2 = B at *
      obtain ⟨w11, w12, w13, w14⟩ := w1
      have hq : (s3M m B).q = s.q + m.dl ∧ (s3M m B).va = B.va ∧ (s3M m B).vb = B.vb ∧ (s3M m B).vc = B.vc ∧ (s3M m B).vd = B.vd := by
        unfold s3M
        split
        · exact ⟨by dsimp only; rw [w2.1], rfl, rfl, rfl, rfl⟩
        · rename_i hh
          have := hn (by simpa using hh)
          exact ⟨by rw [w2.1, this, Int.add_zero], rfl, rfl, rfl, rfl⟩
      obtain ⟨h1, h2, h3, h4, h5⟩ := hq
      refine St.eq (w11.trans h1.symm) ⟨w12, w13, w14⟩ (a.1.trans h2.symm) (a.2.trans h3.symm) (b.1.trans h4.symm) (b.2.trans h5.symm)

set_option maxHeartbeats 4000000 in
set_option maxRecDepth 100000 in
theorem code1 (c : Cx) (s : St) (m : Mb) (H : Heap) (hml : m.lv.length = 384) (hbad : (fmS c m && vstB s) = false) :
    CallOk Try.prog 60 [.agg (cxc c), .agg (stc s), .agg (mbc m)] H (.tup [.slice [] 0 false, .agg (stc zSt), .int .i64 1]) H := by
  have fo := fun K => fm_ref c m K hml
  have vo := fun K => vst_ref s K
  generalize fmS c m = f1 at *
  generalize vstB s = v1 at *
  have c1 := cxc_cell c
  have c2 := stc_cell s
  have c3 := mbc_cell m
  have m408 := mbc_len m hml
  have tk1 : List.take 4 (cxc c) = cxc c := rfl
  have tk2 : List.take 8 (stc s) = stc s := rfl
  have tk3 : List.take 408 (mbc m) = mbc m := List.take_of_length_le (by omega)
  have l1 : (cxc c).length = 4 := rfl
  have l2 : (stc s).length = 8 := rfl
  refine CallOk.body (F0 := [(0, .agg (cxc c)), (1, .agg (stc s)), (2, .agg (mbc m))]) Try.func60 rfl Try.ntmps60 Try.results60 rfl (by kernel_rfl) rfl ?_
  (repeat refine PW.seq ?_); refine PW.rg rfl fun K hK => ?_; simp (maxSteps := 3000000) (disch := omega) only [go_sem, ↓reduceIte, reduceCtorEq, pappend, plen, c1, c2, c3, Nat.reduceAdd]; refine hK _ _ ?_; clear hK K
  cases f1 with
  | false =>
    (repeat refine PW.seq ?_); refine PW.rg rfl fun K hK => ?_; simp (maxSteps := 3000000) (disch := omega) only [go_sem, ↓reduceIte, reduceCtorEq, pappend, plen, tk1, tk2, tk3, l1, l2, m408]
    refine VCx.call (fo _) rfl ?_; simp (maxSteps := 3000000) (disch := omega) only [go_sem, ↓reduceIte, reduceCtorEq, pappend, plen]; refine hK _ _ ?_; clear hK K
    (repeat refine PW.seq ?_); refine PW.cond (t := _) rfl (fun h => ?_) (fun h => ?_)
    rotate_left
    · cases h
    (repeat refine PW.seq ?_); refine PW.rg rfl fun K hK => ?_; simp (maxSteps := 3000000) (disch := omega) only [go_sem, ↓reduceIte, reduceCtorEq, pappend, plen]; refine hK _ _ ?_; clear hK K
    refine PW.ret ⟨.tup [.slice [] 0 true, .agg (stc zSt), .int .i64 1], by simp (maxSteps := 3000000) (disch := omega) only [go_sem, ↓reduceIte, reduceCtorEq, pappend, plen, presults, presult, List.mapM_cons, List.mapM_nil, Option.pure_def, Option.bind_eq_bind, Option.bind_some, Array.toList, stc, zSt], ?_⟩
    exact Fin.base (Fz.tupC ⟨Fz.sliceC trivial (fun e => by cases e), .id (stc_scoped _ _), .id (.int _ _), trivial⟩)
  | true =>
    rw [Bool.true_and] at hbad
    subst hbad
    (repeat refine PW.seq ?_); refine PW.rg rfl fun K hK => ?_; simp (maxSteps := 3000000) (disch := omega) only [go_sem, ↓reduceIte, reduceCtorEq, pappend, plen, tk1, tk2, tk3, l1, l2, m408]
    refine VCx.call (fo _) rfl ?_; simp (maxSteps := 3000000) (disch := omega) only [go_sem, ↓reduceIte, reduceCtorEq, pappend, plen, tk2, l2]
    refine VCx.call (vo _) rfl ?_; simp (maxSteps := 3000000) (disch := omega) only [go_sem, ↓reduceIte, reduceCtorEq, pappend, plen]; refine hK _ _ ?_; clear hK K
    (repeat refine PW.seq ?_); refine PW.cond (t := _) rfl (fun h => ?_) (fun h => ?_)
    rotate_left
    · cases h
    (repeat refine PW.seq ?_); refine PW.rg rfl fun K hK => ?_; simp (maxSteps := 3000000) (disch := omega) only [go_sem, ↓reduceIte, reduceCtorEq, pappend, plen]; refine hK _ _ ?_; clear hK K
    refine PW.ret ⟨.tup [.slice [] 0 true, .agg (stc zSt), .int .i64 1], by simp (maxSteps := 3000000) (disch := omega) only [go_sem, ↓reduceIte, reduceCtorEq, pappend, plen, presults, presult, List.mapM_cons, List.mapM_nil, Option.pure_def, Option.bind_eq_bind, Option.bind_some, Array.toList, stc, zSt], ?_⟩
    exact Fin.base (Fz.tupC ⟨Fz.sliceC trivial (fun e => by cases e), .id (stc_scoped _ _), .id (.int _ _), trivial⟩)
set_option maxHeartbeats 4000000 in
set_option maxRecDepth 100000 in
theorem code2 (c : Cx) (s : St) (m : Mb) (H : Heap) (hml : m.lv.length = 384) (fm : fmS c m = true) (vs : vstB s = true) (vq : vqB (s.q + m.dl) = false) :
    CallOk Try.prog 60 [.agg (cxc c), .agg (stc s), .agg (mbc m)] H (.tup [.slice [] 0 false, .agg (stc zSt), .int .i64 2]) H := by
  have fo := fun K => fm_ref c m K hml
  have vo := fun K => vst_ref s K
  have hdl := (fmd_of fm).d
  have hq := (vst_b vs).1
  have hq2 : s.q + m.dl < 1 ∨ 31 < s.q + m.dl := by
    simp only [vqB, Bool.and_eq_false_iff, decide_eq_false_iff_not] at vq
    omega
  rw [fm] at fo
  rw [vs] at vo
  have c1 := cxc_cell c
  have c2 := stc_cell s
  have c3 := mbc_cell m
  have m408 := mbc_len m hml
  have tk1 : List.take 4 (cxc c) = cxc c := rfl
  have tk2 : List.take 8 (stc s) = stc s := rfl
  have tk3 : List.take 408 (mbc m) = mbc m := List.take_of_length_le (by omega)
  have l1 : (cxc c).length = 4 := rfl
  have l2 : (stc s).length = 8 := rfl
  have k17 : (mbc m)[17]? = some (.int .i64 m.dl) := rfl
  have s0 : (stc s)[0]? = some (.int .i64 s.q) := rfl
  refine CallOk.body (F0 := [(0, .agg (cxc c)), (1, .agg (stc s)), (2, .agg (mbc m))]) Try.func60 rfl Try.ntmps60 Try.results60 rfl (by kernel_rfl) rfl ?_
  (repeat refine PW.seq ?_); refine PW.rg rfl fun K hK => ?_; simp (maxSteps := 3000000) (disch := omega) only [go_sem, ↓reduceIte, reduceCtorEq, pappend, plen, c1, c2, c3, Nat.reduceAdd]; refine hK _ _ ?_; clear hK K
  (repeat refine PW.seq ?_); refine PW.rg rfl fun K hK => ?_; simp (maxSteps := 3000000) (disch := omega) only [go_sem, ↓reduceIte, reduceCtorEq, pappend, plen, tk1, tk2, tk3, l1, l2, m408]
  refine VCx.call (fo _) rfl ?_; simp (maxSteps := 3000000) (disch := omega) only [go_sem, ↓reduceIte, reduceCtorEq, pappend, plen, tk2, l2]
  refine VCx.call (vo _) rfl ?_; simp (maxSteps := 3000000) (disch := omega) only [go_sem, ↓reduceIte, reduceCtorEq, pappend, plen]; refine hK _ _ ?_; clear hK K
  (repeat refine PW.seq ?_); refine PW.cond (t := _) rfl (fun h => ?_) (fun h => ?_)
  · cases h
  refine PW.skip ?_
  by_cases h1 : s.q + m.dl < 1
  · have d1 : decide (s.q + m.dl < 1) = true := decide_eq_true h1
    (repeat refine PW.seq ?_); refine PW.rg rfl fun K hK => ?_; simp (maxSteps := 3000000) (disch := omega) only [go_sem, ↓reduceIte, reduceCtorEq, pappend, plen, s0, k17, l2, m408, d1]; refine hK _ _ ?_; clear hK K
    (repeat refine PW.seq ?_); refine PW.cond (t := _) rfl (fun h => ?_) (fun h => ?_)
    rotate_left
    · cases h
    (repeat refine PW.seq ?_); refine PW.rg rfl fun K hK => ?_; simp (maxSteps := 3000000) (disch := omega) only [go_sem, ↓reduceIte, reduceCtorEq, pappend, plen]; refine hK _ _ ?_; clear hK K
    refine PW.ret ⟨.tup [.slice [] 0 true, .agg (stc zSt), .int .i64 2], by simp (maxSteps := 3000000) (disch := omega) only [go_sem, ↓reduceIte, reduceCtorEq, pappend, plen, presults, presult, List.mapM_cons, List.mapM_nil, Option.pure_def, Option.bind_eq_bind, Option.bind_some, Array.toList, stc, zSt], ?_⟩
    exact Fin.base (Fz.tupC ⟨Fz.sliceC trivial (fun e => by cases e), .id (stc_scoped _ _), .id (.int _ _), trivial⟩)
  · have d1 : decide (s.q + m.dl < 1) = false := decide_eq_false h1
    have d2 : decide (31 < s.q + m.dl) = true := decide_eq_true (by omega)
    (repeat refine PW.seq ?_); refine PW.rg rfl fun K hK => ?_; simp (maxSteps := 3000000) (disch := omega) only [go_sem, ↓reduceIte, reduceCtorEq, pappend, plen, s0, k17, l2, m408, d1, d2]; refine hK _ _ ?_; clear hK K
    (repeat refine PW.seq ?_); refine PW.cond (t := _) rfl (fun h => ?_) (fun h => ?_)
    rotate_left
    · cases h
    (repeat refine PW.seq ?_); refine PW.rg rfl fun K hK => ?_; simp (maxSteps := 3000000) (disch := omega) only [go_sem, ↓reduceIte, reduceCtorEq, pappend, plen]; refine hK _ _ ?_; clear hK K
    refine PW.ret ⟨.tup [.slice [] 0 true, .agg (stc zSt), .int .i64 2], by simp (maxSteps := 3000000) (disch := omega) only [go_sem, ↓reduceIte, reduceCtorEq, pappend, plen, presults, presult, List.mapM_cons, List.mapM_nil, Option.pure_def, Option.bind_eq_bind, Option.bind_some, Array.toList, stc, zSt], ?_⟩
    exact Fin.base (Fz.tupC ⟨Fz.sliceC trivial (fun e => by cases e), .id (stc_scoped _ _), .id (.int _ _), trivial⟩)
theorem code_ref (c : Cx) (s : St) (m : Mb) (H : Heap) (hml : m.lv.length = 384) :
    CallOk Try.prog 60 [.agg (cxc c), .agg (stc s), .agg (mbc m)] H (.tup [.slice (bs (zb (mput c s m).1)) (mput c s m).1.length false, .agg (stc (mput c s m).2.1), .int .i64 (mput c s m).2.2]) H := by
  by_cases h1 : (fmS c m && vstB s) = true
  · have h2 := h1
    rw [Bool.and_eq_true] at h2
    cases h3 : vqB (s.q + m.dl) with
    | true =>
      have e : mput c s m = (mbits c s m, mstate c s m, 0) := by unfold mput; rw [if_pos h1, if_pos h3]
      obtain ⟨e1, e2⟩ := spec_eq c m s h2.1
      rw [e, ← e1, ← e2]
      exact code0 c s m H hml h2.1 h2.2 h3
    | false =>
      have e : mput c s m = ([], zSt, 2) := by unfold mput; rw [if_pos h1, if_neg (by rw [h3]; decide)]
      rw [e]
      exact code2 c s m H hml h2.1 h2.2 h3
  · have e : mput c s m = ([], zSt, 1) := by unfold mput; rw [if_neg h1]
    rw [e]
    exact code1 c s m H hml (by simpa using h1)

end Go.Proofs.Ytnjnikafhbholaa.Sc

namespace Go.Proofs.Ytnjnikafhbholaa.Sc
set_option linter.all false
set_option linter.unusedVariables false
set_option linter.unusedSimpArgs false
open Pm Ty Go.RowKit

theorem VCj.wrT {P : Program} {F : Fr} {H : Heap} {dr : Bool} {ids : List Nat} {fp : Fp} {rs : List (Nat × Nat)} {o : Oper} {K : Fr → Heap → Prop} {g : FuncId} {args : List PV} {v : PV} {i j : Nat} {k l A B : Blk} (hi : H[i]? = some k) (hj : H[j]? = some l) (hne : i ≠ j)
    (h : ∀ L : Heap, L[i]? = some k → L[j]? = some l → CallOk P g args L v (two L i j A B)) (hwi : (atP ids fp.w).elem i = true) (hwj : (atP ids fp.w).elem j = true) (hvi : (atP ids fp.v).elem i = true) (hvj : (atP ids fp.v).elem j = true)
    (hc : pcallee o.op (slot F) = some (g, args)) (hk : K (put F o.dst v) (two H i j A B)) : VCj P dr ids fp rs o F H K := by
  unfold VCj
  simp only [hc]
  refine ⟨v, two H i j A B, ?_, hk⟩
  have wi : i ∈ atP ids fp.w := by simpa [List.elem_eq_mem] using hwi
  have wj : j ∈ atP ids fp.w := by simpa [List.elem_eq_mem] using hwj
  have vi : i ∈ atP ids fp.v := by simpa [List.elem_eq_mem] using hvi
  have vj : j ∈ atP ids fp.v := by simpa [List.elem_eq_mem] using hvj
  have upd : ∀ L : Heap, L[i]? = some k → L[j]? = some l → Upd ids fp L (two L i j A B) := fun L hi hj => by
    have u1 : Upd ids fp L (L.set i A) := Upd.set hi wi (.inr vi)
    have u2 : Upd ids fp (L.set i A) ((L.set i A).set j B) := Upd.set (k := l) (by rw [List.getElem?_set_ne hne]; exact hj) wj (.inr vj)
    exact ⟨by rw [two_len], fun x hx => (u2.out x hx).trans (u1.out x hx), fun x hx => Eq.trans (u2.ver x hx) (u1.ver x hx)⟩
  cases dr with
  | false => exact h H hi hj
  | true =>
    refine ⟨upd H hi hj, fun L hL => ?_⟩
    have li := (hL.inn i (.inr wi)).trans hi
    have lj := (hL.inn j (.inr wj)).trans hj
    refine ⟨two L i j A B, by unfold StI; rw [hc]; exact h L li lj, upd L li lj, fun x hx => ?_⟩
    have hlen := hL.len
    have hij : i < H.length ∧ j < H.length := ⟨(List.getElem?_eq_some_iff.1 hi).1, (List.getElem?_eq_some_iff.1 hj).1⟩
    by_cases e : x = i
    · subst e; rw [two_0 _ _ _ _ _ ⟨by omega, hne⟩, two_0 _ _ _ _ _ ⟨by omega, hne⟩]
    · by_cases e' : x = j
      · subst e'; rw [two_1 _ _ _ _ _ (by omega), two_1 _ _ _ _ _ (by omega)]
      · unfold two
        rw [List.getElem?_set_ne (Ne.symm e'), List.getElem?_set_ne (Ne.symm e), List.getElem?_set_ne (Ne.symm e'), List.getElem?_set_ne (Ne.symm e), hL.inn x (.inr hx)]

theorem samest_ok (s : St) (H : Heap) : CallOk Try.prog 59 [.agg (stc s)] H (.agg (stc s)) H := by
  have hsc := stc_scoped s
  obtain ⟨q, da, db, dc, va, vb, vc, vd⟩ := s
  refine CallOk.body (F0 := [(0, .agg [.int .i64 q, .int .i64 da, .int .i64 db, .int .i64 dc, .int .i64 va, .int .i64 vb, .int .i64 vc, .int .i64 vd])]) Try.func59 rfl Try.ntmps59 Try.results59 rfl (by kernel_rfl) rfl ?_
  (repeat refine PW.seq ?_); refine PW.rg rfl fun K hK => ?_; simp (maxSteps := 3000000) (disch := omega) only [go_sem, ↓reduceIte, reduceCtorEq, pappend, plen]; refine hK _ _ ?_; clear hK K
  (repeat refine PW.seq ?_); refine PW.rg rfl fun K hK => ?_; simp (maxSteps := 3000000) (disch := omega) only [go_sem, ↓reduceIte, reduceCtorEq, pappend, plen]; refine hK _ _ ?_; clear hK K
  refine PW.ret ⟨.agg [.int .i64 q, .int .i64 da, .int .i64 db, .int .i64 dc, .int .i64 va, .int .i64 vb, .int .i64 vc, .int .i64 vd], by simp (maxSteps := 3000000) (disch := omega) only [go_sem, ↓reduceIte, reduceCtorEq, pappend, plen, presults, presult, List.mapM_cons, List.mapM_nil, Option.pure_def, Option.bind_eq_bind, Option.bind_some, Array.toList], ?_⟩
  exact Fin.base (.id (hsc _))
theorem neSt (q a b c x y z w : Int) : peqG Try.prog .neq 113 (.agg [.int .i64 q, .int .i64 a, .int .i64 b, .int .i64 c, .int .i64 x, .int .i64 y, .int .i64 z, .int .i64 w]) (.agg [.int .i64 q, .int .i64 a, .int .i64 b, .int .i64 c, .int .i64 x, .int .i64 y, .int .i64 z, .int .i64 w]) = some (.bool !((q == q) && (((a == a) && ((b == b) && ((c == c) && true))) && ((((x == x) && ((y == y) && true)) && (((z == z) && ((w == w) && true)) && true)) && true)))) := by kernel_rfl
theorem neSt' (s : St) : peqG Try.prog .neq 113 (.agg (stc s)) (.agg (stc s)) = some (.bool false) := by
  have := neSt s.q s.da s.db s.dc s.va s.vb s.vc s.vd
  simp only [beq_self_eq_true, Bool.and_self, Bool.not_true] at this
  exact this
theorem same_bytes (p q : List UInt8) (f g : Bool) (H : Heap) : CallOk Try.prog 62 [.slice (bs p) p.length f, .slice (bs q) q.length g] H (.bool (p == q)) H := by
  refine CallOk.body (F0 := [(0, .slice (bs p) p.length f), (1, .slice (bs q) q.length g)]) Try.func62 rfl Try.ntmps62 Try.results62 rfl (by kernel_rfl) rfl ?_
  (repeat refine PW.seq ?_); refine PW.rg rfl fun K hK => ?_; simp (maxSteps := 3000000) (disch := omega) only [go_sem, ↓reduceIte, reduceCtorEq, pappend, plen]; refine hK _ _ ?_; clear hK K
  (repeat refine PW.seq ?_); refine PW.rg rfl fun K hK => ?_; simp (maxSteps := 3000000) (disch := omega) only [go_sem, ↓reduceIte, reduceCtorEq, pappend, plen, length_bs, pbytes_bs]; refine hK _ _ ?_; clear hK K
  exact PW.ret ⟨_, rfl, .inl ⟨rfl, rfl⟩⟩
theorem flat_len {α : Type} (enc : α → List PV) (N : Nat) : ∀ (l : List α), (∀ x ∈ l, (enc x).length = N) → (l.flatMap enc).length = l.length * N
  | [], _ => by simp
  | a :: r, h => by
    rw [List.flatMap_cons, List.length_append, flat_len enc N r (fun x hx => h x (List.mem_cons_of_mem _ hx)), h a (List.mem_cons_self ..), List.length_cons, Nat.add_mul, Nat.one_mul, Nat.add_comm]
theorem flat_at {α : Type} (enc : α → List PV) (N : Nat) : ∀ (l : List α) (k : Nat) (hk : k < l.length), (∀ x ∈ l, (enc x).length = N) → List.take N (List.drop (k * N) (l.flatMap enc)) = enc l[k]
  | [], k, hk, _ => by simp at hk
  | a :: r, 0, _, h => by
    rw [Nat.zero_mul, List.drop_zero, List.flatMap_cons]
    exact List.take_left' (h a (List.mem_cons_self ..))
  | a :: r, k + 1, hk, h => by
    have e : (k + 1) * N = (enc a).length + k * N := by rw [h a (List.mem_cons_self ..), Nat.add_mul, Nat.one_mul, Nat.add_comm]
    rw [List.flatMap_cons, e, ← List.drop_drop, List.drop_left]
    exact flat_at enc N r k (by simpa using hk) (fun x hx => h x (List.mem_cons_of_mem _ hx))
def lH (H : Heap) (c : Cx) (s : St) (M : List Bool) : Heap := H ++ [⟨92, 0, cxc c⟩, ⟨116, 0, stc s⟩, wA (H.length + 3) M, wB M, ⟨5, M.length, bs (zb M)⟩]
theorem mbl_sc (l : List Mb) (n : Nat) : ∀ x ∈ l.flatMap mbc, Scoped n x := fun x hx => by
  obtain ⟨m, _, hx⟩ := List.mem_flatMap.1 hx
  simp only [mbc, List.mem_cons] at hx
  rcases hx with rfl | rfl | rfl | rfl | rfl | rfl | rfl | rfl | rfl | rfl | rfl | rfl | rfl | rfl | rfl | rfl | rfl | rfl | rfl | rfl | rfl | rfl | rfl | rfl | hx
  all_goals first | exact .int _ _ | exact .bool _ | exact is_scoped _ _ _ hx
theorem hscW {H K : Heap} (hK : ∀ b ∈ K, ∀ x ∈ b.cells, Scoped (H.length + K.length) x) (h : HSc H) : HSc (H ++ K) := fun id k hk x hx => by
  rw [List.length_append]
  rw [List.getElem?_append] at hk
  split at hk
  · exact (h id k hk x hx).mono (by omega)
  · exact hK k (List.mem_of_getElem? hk) x hx
theorem hsc_lH (H : Heap) (c : Cx) (s : St) (M : List Bool) (h : HSc H) : HSc (lH H c s M) := hscW (fun b hb x hx => by
  simp only [List.mem_cons, List.not_mem_nil, or_false] at hb
  simp only [List.length_cons, List.length_nil]
  rcases hb with rfl | rfl | rfl | rfl | rfl
  · simp only [cxc, List.mem_cons, List.not_mem_nil, or_false] at hx
    rcases hx with rfl | rfl | rfl | rfl
    · exact .int _ _
    · exact .int _ _
    · exact .bool _
    · exact .bool _
  · simp only [stc, List.mem_cons, List.not_mem_nil, or_false] at hx
    rcases hx with rfl | rfl | rfl | rfl | rfl | rfl | rfl | rfl <;> exact .int _ _
  · simp only [wA, List.mem_cons, List.not_mem_nil, or_false] at hx
    rcases hx with rfl | rfl
    · exact .msl (by omega)
    · exact .int _ _
  · exact bs_scoped _ _ x hx
  · exact bs_scoped _ _ x hx) h
set_option maxHeartbeats 8000000 in
set_option maxRecDepth 100000 in
theorem law_puts (c : Cx) (s : St) (l : List Mb) (g : Bool) (H : Heap) (hml : ∀ m ∈ l, m.lv.length = 384) (hll : l.length ≤ 9223372036854775807) : CallOk Try.prog 14 [.agg (cxc c), .agg (stc s), .slice (l.flatMap mbc) l.length g] H (.bool true) H := by
  have c1 := cxc_cell c
  have c2 := stc_cell s
  refine CallOk.body (F0 := [(0, .agg (cxc c)), (1, .agg (stc s)), (2, .slice (l.flatMap mbc) l.length g)]) Try.func14 rfl Try.ntmps14 Try.results14 rfl (by kernel_rfl) rfl ?_
  (repeat refine PW.seq ?_); refine PW.rg rfl fun K hK => ?_; simp (maxSteps := 3000000) (disch := omega) only [go_sem, ↓reduceIte, reduceCtorEq, pappend, plen, c1, c2, Nat.reduceAdd]; refine hK _ _ ?_; clear hK K
  (repeat refine PW.seq ?_); refine PW.rg rfl fun K hK => ?_; simp (maxSteps := 3000000) (disch := omega) only [go_sem, ↓reduceIte, reduceCtorEq, pappend, plen]; refine hK _ _ ?_; clear hK K
  (repeat refine PW.seq ?_); refine PW.cond (t := _) rfl (fun h => ?_) (fun h => ?_)
  · (repeat refine PW.seq ?_); refine PW.rg rfl fun K hK => ?_; simp (maxSteps := 3000000) (disch := omega) only [go_sem, ↓reduceIte, reduceCtorEq, pappend, plen]; refine hK _ _ ?_; clear hK K
    (refine PW.ret ⟨_, rfl, ?_⟩; first | refine .inl ⟨?_, rfl⟩ | refine Fin.base (.id' ?_ (.bool _)) | refine Fin.base (.id' ?_ (.int _ _)))
    rfl
  have h8 : l.length ≤ 8 := by have := of_decide_eq_false h; omega
  refine PW.skip ?_
  (repeat refine PW.seq ?_); refine PW.rg rfl fun K hK => ?_; simp (maxSteps := 3000000) (disch := omega) only [go_sem, ↓reduceIte, reduceCtorEq, pappend, plen]; refine VCx.call (neww_ok _) rfl ?_; simp (maxSteps := 3000000) (disch := omega) only [go_sem, ↓reduceIte, reduceCtorEq, pappend, plen]; refine hK _ _ ?_; clear hK K
  refine PW.view (Vs.ghostH (id := H.length + 2) (j := 0) 5 1 (hp2 _ _ _ _ _) rfl) ?_
  (repeat refine PW.seq ?_); refine PW.rg rfl fun K hK => ?_; simp (maxSteps := 3000000) (disch := omega) only [go_sem, ↓reduceIte, reduceCtorEq, pappend, plen]; refine hK _ _ ?_; clear hK K
  refine PW.view (Vs.ghost 8 5 1 rfl) ?_
  (repeat refine PW.seq ?_); refine PW.rg rfl fun K hK => ?_; simp (maxSteps := 3000000) (disch := omega) only [go_sem, ↓reduceIte, reduceCtorEq, pappend, plen]; refine hK _ _ ?_; clear hK K
  (repeat refine PW.seq ?_); refine PW.block (PW.loop ?_)
  suffices hl1 : ∀ (k : Nat) (M : List Bool) (n : St), k ≤ l.length → M.length ≤ k * 30000 → PL Try.prog _ _ [(2, .slice (l.flatMap mbc) l.length g), (3, .ptr H.length 0 0), (4, .ptr (H.length + 1) 0 0), (7, .ptr (H.length + 2) 0 0), (8, .msl (H.length + 4) M.length 0 M.length 1 true), (9, .int .i64 (k : Int))] (lH H c n M) _ by
    exact PL.at [2, 3, 4, 7, 8, 9] (hl1 0 [] s (by omega) (by simp)) rfl rfl
  have lm := flat_len mbc 408 l (fun x hx => mbc_len x (hml x hx))
  have tk1 : List.take 4 (cxc c) = cxc c := rfl
  have tk8 : ∀ t, List.take 8 (stc t) = stc t := fun _ => rfl
  have l1 : (cxc c).length = 4 := rfl
  have l8 : ∀ t, (stc t).length = 8 := fun _ => rfl
  have c8 : ∀ t, (stc t).all PV.cell = true := fun _ => rfl
  have sm := fun K => samec_ok c K
  have ss := fun t K => samest_ok t K
  intro k M n hk hM
  induction hd : l.length - k using Nat.strongRecOn generalizing k M n with
  | _ d ih =>
    refine PL.round ?_; (repeat refine PW.seq ?_); refine PW.rg rfl fun K hK => ?_; simp (maxSteps := 3000000) (disch := omega) only [go_sem, ↓reduceIte, reduceCtorEq, pappend, plen]; refine hK _ _ ?_; clear hK K
    (repeat refine PW.seq ?_); refine PW.cond (t := _) rfl (fun h => ?_) (fun h => ?_)
    · have h4 : k < l.length := by have := of_decide_eq_true h; omega
      have hat := flat_at mbc 408 l k h4 (fun x hx => mbc_len x (hml x hx))
      have hmk := hml l[k] (List.getElem_mem h4)
      generalize l[k] = m at *
      have m408 := mbc_len m hmk
      have po := fun (L : Heap) (a1 : L[H.length + 2]? = some (wA (H.length + 3) M)) (a2 : L[H.length + 3]? = some (wB M)) => mput_ok L (H.length + 2) (H.length + 3) M c m n a1 a2 (by omega) (by omega) hmk
      have ro := fun K => code_ref c n m K hmk
      have hBl : (mput c n m).1.length ≤ 30000 := by
        unfold mput
        split
        · rename_i hf
          rw [Bool.and_eq_true] at hf
          obtain ⟨_, hv, hdc⟩ := vst_b hf.2
          split
          · exact (mbits_len (c := c) (fmd_of hf.1) hv hdc).1
          · simp
        · simp
      have hErr : ¬ (mput c n m).2.2 = 0 → (mput c n m).1 = [] := by
        unfold mput
        split
        · split
          · intro e; exact absurd rfl e
          · intro _; rfl
        · intro _; rfl
      generalize hB : (mput c n m).1 = B at *
      generalize (mput c n m).2.1 = u at *
      generalize (mput c n m).2.2 = e at *
      have g0 := fun s M K => apn H ([⟨92, 0, cxc c⟩, ⟨116, 0, stc s⟩, wA (H.length + 3) M, wB M, ⟨5, M.length, bs (zb M)⟩] ++ K) 2
      refine PW.skip ?_; (repeat refine PW.seq ?_); refine PW.block ?_
      (repeat refine PW.seq ?_)
      refine PW.view (Vs.place 113) ?_
      refine PW.eq rfl (show _ = H ++ [⟨92, 0, cxc c⟩, ⟨116, 0, stc n⟩, wA (H.length + 3) M, wB M, ⟨5, M.length, bs (zb M)⟩, ⟨113, 0, []⟩] from List.append_assoc _ _ _) ?_
      (repeat refine PW.seq ?_); refine PW.drawi [H.length + 2, H.length + 3, H.length + 5] [(7, [0, 1]), (28, [0, 1]), (10, [2])] [(10, 2)] [30, 32] mix (by kernel_rfl) (by simp <;> omega) fun K hK => ?_
      simp (maxSteps := 3000000) (disch := omega) only [go_sem, ↓reduceIte, reduceCtorEq, pappend, plen, tk1, l1]
      refine VCj.read (fun _ _ => sm _) rfl ?_; simp (maxSteps := 3000000) (disch := omega) only [go_sem, ↓reduceIte, reduceCtorEq, pappend, plen, tk8, l8]
      refine VCj.read (fun _ _ => ss _ _) rfl ?_; simp (maxSteps := 3000000) (disch := omega) only [go_sem, ↓reduceIte, reduceCtorEq, pappend, plen, hat, m408, lm]
      refine VCj.wrT (i := H.length + 2) (j := H.length + 3) (hp2 _ _ _ _ _) (hp3 _ _ _ _ _ _) (by omega) po (by simp (maxSteps := 3000000) (disch := omega) only [go_sem, ↓reduceIte, reduceCtorEq, pappend, plen]) (by simp (maxSteps := 3000000) (disch := omega) only [go_sem, ↓reduceIte, reduceCtorEq, pappend, plen]) (by simp (maxSteps := 3000000) (disch := omega) only [go_sem, ↓reduceIte, reduceCtorEq, pappend, plen]) (by simp (maxSteps := 3000000) (disch := omega) only [go_sem, ↓reduceIte, reduceCtorEq, pappend, plen]) rfl ?_
      simp (maxSteps := 3000000) (disch := omega) only [go_sem, ↓reduceIte, reduceCtorEq, pappend, plen, two, l8, c8, Nat.reduceAdd]
      refine hK _ _ ?_; clear hK K
      (repeat refine PW.seq ?_)
      refine PW.view (Vs.place 116) ?_
      refine PW.eq rfl (show _ = H ++ [⟨92, 0, cxc c⟩, ⟨116, 0, stc n⟩, wA (H.length + 3) (M ++ B), wB (M ++ B), ⟨5, M.length, bs (zb M)⟩, ⟨113, 1, stc u⟩, ⟨116, 0, []⟩] from List.append_assoc _ _ _) ?_
      (repeat refine PW.seq ?_); refine PW.drawi [H.length + 6] [(13, [0])] [(13, 0)] [47] mix (by kernel_rfl) (by simp <;> omega) fun K hK => ?_
      simp (maxSteps := 3000000) (disch := omega) only [go_sem, ↓reduceIte, reduceCtorEq, pappend, plen, tk1, l1, tk8, l8, hat, m408, lm]
      refine VCj.read (fun _ _ => ro _) rfl ?_; simp (maxSteps := 3000000) (disch := omega) only [go_sem, ↓reduceIte, reduceCtorEq, pappend, plen, l8, c8, apn, aps, Nat.reduceAdd]
      refine hK _ _ ?_; clear hK K
      (repeat refine PW.seq ?_); refine PW.draw mix (by kernel_rfl) fun K hK => ?_; simp (maxSteps := 3000000) (disch := omega) only [go_sem, ↓reduceIte, reduceCtorEq, pappend, plen, bne_self_eq_false, apn, tk8, l8]
      (repeat' (first | ((first | refine VO_cond (fun h => ?_) (fun h => ?_) | refine VOd_cond (fun h => ?_) (fun h => ?_) | refine VOg_cond (fun h => ?_) (fun h => ?_) | refine VOh_cond (fun h => ?_) (fun h => ?_) | refine VOi_cond (fun h => ?_) (fun h => ?_) | refine And.intro (fun h => ?_) (fun h => ?_)) <;> (try simp only [Bool.not_eq_true', Bool.not_eq_false', decide_eq_true_eq, decide_eq_false_iff_not] at h) <;> simp (maxSteps := 3000000) (disch := omega) only [go_sem, ↓reduceIte, reduceCtorEq, pappend, plen, apn, tk8, l8, ↓neSt', h]) | (refine VCx.call (ss _ _) rfl ?_; simp (maxSteps := 3000000) (disch := omega) only [go_sem, ↓reduceIte, reduceCtorEq, pappend, plen, apn, tk8, l8, ↓neSt']) | (refine VCy.call (ss _ _) rfl ?_; simp (maxSteps := 3000000) (disch := omega) only [go_sem, ↓reduceIte, reduceCtorEq, pappend, plen, apn, tk8, l8, ↓neSt']) | (refine VCz.call (fun _ => ss _ _) rfl ?_; simp (maxSteps := 3000000) (disch := omega) only [go_sem, ↓reduceIte, reduceCtorEq, pappend, plen, apn, tk8, l8, ↓neSt']) | (refine VCk.call (fun _ _ => ss _ _) rfl ?_; simp (maxSteps := 3000000) (disch := omega) only [go_sem, ↓reduceIte, reduceCtorEq, pappend, plen, apn, tk8, l8, ↓neSt']) | (refine VCj.now (ss _ _) rfl ?_; simp (maxSteps := 3000000) (disch := omega) only [go_sem, ↓reduceIte, reduceCtorEq, pappend, plen, apn, tk8, l8, ↓neSt'])))
      refine hK _ _ ?_; clear hK K
      (repeat refine PW.seq ?_); refine PW.cond (t := _) rfl (fun h => ?_) (fun h => ?_)
      · cases h
      refine PW.skip ?_
      have zM := zb_len2 M
      have zB := zb_len2 B
      have zMB := zb_snoc M B
      have hsn : bs (zb (M ++ B)) = bs (zb M) ++ bs (zb B) := zb_snoc M B
      have wl := wlen_ok (H.length + 2) (H.length + 3) (M ++ B) (H ++ [⟨92, 0, cxc c⟩, ⟨116, 0, stc n⟩, wA (H.length + 3) (M ++ B), wB (M ++ B), ⟨5, (M ++ B).length, bs (zb (M ++ B))⟩, ⟨113, 1, stc u⟩, ⟨116, 1, stc u⟩]) (hp2 _ _ _ _ _)
      suffices hrest : PW Try.prog _ _ [(2, .slice (l.flatMap mbc) l.length g), (3, .ptr H.length 0 0), (4, .ptr (H.length + 1) 0 0), (7, .ptr (H.length + 2) 0 0), (8, .msl (H.length + 4) (M ++ B).length 0 (M ++ B).length 1 true), (9, .int .i64 (k : Int)), (11, .int .i64 e), (13, .ptr (H.length + 6) 1 0)] (H ++ [⟨92, 0, cxc c⟩, ⟨116, 0, stc n⟩, wA (H.length + 3) (M ++ B), wB (M ++ B), ⟨5, (M ++ B).length, bs (zb (M ++ B))⟩, ⟨113, 1, stc u⟩, ⟨116, 1, stc u⟩]) _ by
        by_cases hB0 : B.length = 0
        · have hBn : B = [] := List.eq_nil_of_length_eq_zero hB0
          have zBn : bs (zb B) = [] := by rw [hBn]; rfl
          (repeat refine PW.seq ?_); refine PW.rg rfl fun K hK => ?_; simp (maxSteps := 3000000) (disch := omega) only [go_sem, ↓reduceIte, reduceCtorEq, pappend, plen, apn, aps, zM, zBn, hB0, List.length_append]; refine hK _ _ ?_; clear hK K
          refine PW.at [2, 3, 4, 7, 8, 9, 11, 13] hrest ?_ ?_
          · rw [hBn]; simp [kp, slot, Nat.beq]
          · rw [hBn]; simp
        · (repeat refine PW.seq ?_); refine PW.rg rfl fun K hK => ?_; simp (maxSteps := 3000000) (disch := omega) only [go_sem, ↓reduceIte, reduceCtorEq, pappend, plen, apn, aps, zM, zB, List.length_append]; refine hK _ _ ?_; clear hK K
          refine PW.at [2, 3, 4, 7, 8, 9, 11, 13] hrest ?_ ?_
          · simp [kp, slot, Nat.beq, List.length_append]
          · rw [hsn, List.length_append]
      (repeat refine PW.seq ?_); refine PW.rg rfl fun K hK => ?_; simp (maxSteps := 3000000) (disch := omega) only [go_sem, ↓reduceIte, reduceCtorEq, pappend, plen]
      refine VCx.call (wl) rfl ?_; simp (maxSteps := 3000000) (disch := omega) only [go_sem, ↓reduceIte, reduceCtorEq, pappend, plen, apn, bne_self_eq_false]; refine hK _ _ ?_; clear hK K
      (repeat refine PW.seq ?_); refine PW.cond (t := _) rfl (fun h => ?_) (fun h => ?_)
      · cases h
      refine PW.skip ?_
      (repeat refine PW.seq ?_); refine PW.rg rfl fun K hK => ?_; simp (maxSteps := 3000000) (disch := omega) only [go_sem, ↓reduceIte, reduceCtorEq, pappend, plen]; refine hK _ _ ?_; clear hK K
      have fin : ∀ n', PL Try.prog _ _ [(2, .slice (l.flatMap mbc) l.length g), (3, .ptr H.length 0 0), (4, .ptr (H.length + 1) 0 0), (7, .ptr (H.length + 2) 0 0), (8, .msl (H.length + 4) (M ++ B).length 0 (M ++ B).length 1 true), (9, .int .i64 ((k + 1 : Nat) : Int))] (lH H c n' (M ++ B)) _ := fun n' => ih (l.length - (k + 1)) (by omega) (k + 1) (M ++ B) n' (by omega) (by rw [List.length_append, Nat.add_mul]; omega) rfl
      have hz : ∀ L : Heap, FzF (H.length + (0 + 1 + 1 + 1 + 1 + 1)) L [(9, .int .i64 ((k : Int) + 1)), (2, .slice (l.flatMap mbc) l.length g), (3, .ptr H.length 0 0), (4, .ptr (H.length + 1) 0 0), (7, .ptr (H.length + 2) 0 0), (8, .msl (H.length + 4) (M ++ B).length 0 (M ++ B).length 1 true)] [(2, .slice (l.flatMap mbc) l.length g), (3, .ptr H.length 0 0), (4, .ptr (H.length + 1) 0 0), (7, .ptr (H.length + 2) 0 0), (8, .msl (H.length + 4) (M ++ B).length 0 (M ++ B).length 1 true), (9, .int .i64 ((k + 1 : Nat) : Int))] := fun L =>
        ⟨.id (sl_scoped (mbl_sc l _)), .id (.ptr (by omega)), .id (.ptr (by omega)), .id (.ptr (by omega)), .id (.msl (by omega)), .id (.int _ _), trivial⟩
      by_cases he : e = 0
      · have be : (e == 0) = true := by simp [he]
        rw [be]
        (repeat refine PW.seq ?_); refine PW.cond (t := _) rfl (fun h => ?_) (fun h => ?_)
        rotate_left
        · cases h
        (repeat refine PW.seq ?_); refine PW.rg rfl fun K hK => ?_; simp (maxSteps := 3000000) (disch := omega) only [go_sem, ↓reduceIte, reduceCtorEq, pappend, plen, apn, aps, tk8, l8, c8]; refine hK _ _ ?_; clear hK K
        (repeat refine PW.seq ?_); refine PW.rg rfl fun K hK => ?_; simp (maxSteps := 3000000) (disch := omega) only [go_sem, ↓reduceIte, reduceCtorEq, pappend, plen]; refine hK _ _ ?_; clear hK K
        refine PL.keep [9, 2, 3, 4, 7, 8] ?_
        exact PL.view (Vs.trim (H1 := lH H c u (M ++ B)) (hsc_lH H c u (M ++ B)) (by simp [lH]) (List.append_assoc _ [_, _, _, _, _] [_, _]).symm (by rw [show (lH H c u (M ++ B)).length = H.length + (0 + 1 + 1 + 1 + 1 + 1) by simp [lH]]; exact hz _)) (fin u)
      · have be : (e == 0) = false := by simp [he]
        rw [be]
        (repeat refine PW.seq ?_); refine PW.cond (t := _) rfl (fun h => ?_) (fun h => ?_)
        · cases h
        refine PW.skip ?_
        (repeat refine PW.seq ?_); refine PW.rg rfl fun K hK => ?_; simp (maxSteps := 3000000) (disch := omega) only [go_sem, ↓reduceIte, reduceCtorEq, pappend, plen]; refine hK _ _ ?_; clear hK K
        refine PL.keep [9, 2, 3, 4, 7, 8] ?_
        exact PL.view (Vs.trim (H1 := lH H c n (M ++ B)) (hsc_lH H c n (M ++ B)) (by simp [lH]) (List.append_assoc _ [_, _, _, _, _] [_, _]).symm (by rw [show (lH H c n (M ++ B)).length = H.length + (0 + 1 + 1 + 1 + 1 + 1) by simp [lH]]; exact hz _)) (fin n)
    · have h5 : k = l.length := by have := of_decide_eq_false h; omega
      refine PW.exit ?_
      have no := fun K => mput_nil c n zMb K (by simp [zMb, zl384])
      change ∀ K, CallOk _ _ [.nilp, .agg (cxc c), .agg (stc n), .agg zmv] K _ K at no
      have zM := zb_len2 M
      have hMb : M.length ≤ 300000 := by rw [h5] at hM; omega
      (repeat refine PW.seq ?_)
      refine PW.view (Vs.place 113) ?_
      refine PW.eq rfl (show _ = H ++ [⟨92, 0, cxc c⟩, ⟨116, 0, stc n⟩, wA (H.length + 3) M, wB M, ⟨5, M.length, bs (zb M)⟩, ⟨113, 0, []⟩] from List.append_assoc _ _ _) ?_
      (repeat refine PW.seq ?_); refine PW.drawi [H.length + 5] [(15, [0])] [(15, 0)] [73, 75, 77] mix (by kernel_rfl) (by simp <;> omega) fun K hK => ?_
      simp (maxSteps := 3000000) (disch := omega) only [go_sem, ↓reduceIte, reduceCtorEq, pappend, plen, tk1, l1]
      refine VCj.read (fun _ _ => sm _) rfl ?_; simp (maxSteps := 3000000) (disch := omega) only [go_sem, ↓reduceIte, reduceCtorEq, pappend, plen, tk8, l8]
      refine VCj.read (fun _ _ => ss _ _) rfl ?_; simp (maxSteps := 3000000) (disch := omega) only [go_sem, ↓reduceIte, reduceCtorEq, pappend, plen, ↓opMb]
      refine VCj.read (fun _ _ => no _) rfl ?_; simp (maxSteps := 3000000) (disch := omega) only [go_sem, ↓reduceIte, reduceCtorEq, pappend, plen, l8, c8, Nat.reduceAdd]
      refine hK _ _ ?_; clear hK K
      refine PW.keep [7, 8, 16] ?_
      refine PW.eq (F1 := [(7, .ptr (H.length + 2) 0 0), (8, .msl (H.length + 4) M.length 0 M.length 1 true), (16, .int .i64 1)]) rfl rfl ?_
      have pw := payload_ok (H.length + 2) (H.length + 3) M (H ++ [⟨92, 0, cxc c⟩, ⟨116, 0, stc n⟩, wA (H.length + 3) M, wB M, ⟨5, M.length, bs (zb M)⟩, ⟨113, 1, stc zSt⟩]) (hp2 _ _ _ _ _) (hp3 _ _ _ _ _ _) (by omega)
      have pr : CallOk Try.prog 64 [.msl (H.length + 4) M.length 0 M.length 1 true] (H ++ [⟨92, 0, cxc c⟩, ⟨116, 0, stc n⟩, wA (H.length + 3) M, wB M, ⟨5, M.length, bs (zb M)⟩, ⟨113, 1, stc zSt⟩])
          (.slice (bs (pk (M ++ [true]))) (pk (M ++ [true])).length false) (H ++ [⟨92, 0, cxc c⟩, ⟨116, 0, stc n⟩, wA (H.length + 3) M, wB M, ⟨5, M.length + 1, []⟩, ⟨113, 1, stc zSt⟩]) := by
        refine CallOk.frz1 (args' := [.slice (bs (zb M)) M.length false]) (id := H.length + 4) (k := ⟨5, M.length, bs (zb M)⟩) (apn _ _ 4) ?_ ⟨.inr ⟨M.length, 1, true, rfl, by simp [zM], rfl⟩, trivial⟩
        rw [aps]
        exact payload_ref M false _ (by omega)
      have sb := fun K => same_bytes (pk (M ++ [true])) (pk (M ++ [true])) false false K
      simp only [beq_self_eq_true] at sb
      generalize bs (pk (M ++ [true])) = Y at *
      (repeat refine PW.seq ?_); refine PW.rg rfl fun K hK => ?_; simp (maxSteps := 3000000) (disch := omega) only [go_sem, ↓reduceIte, reduceCtorEq, pappend, plen]
      refine VCx.call (awake10 _) rfl ?_; simp (maxSteps := 3000000) (disch := omega) only [go_sem, ↓reduceIte, reduceCtorEq, pappend, plen]
      refine VCx.call (pw) rfl ?_; simp (maxSteps := 3000000) (disch := omega) only [go_sem, ↓reduceIte, reduceCtorEq, pappend, plen]
      refine VCx.call (pr) rfl ?_; simp (maxSteps := 3000000) (disch := omega) only [go_sem, ↓reduceIte, reduceCtorEq, pappend, plen]
      refine VCx.call (sb _) rfl ?_; simp (maxSteps := 3000000) (disch := omega) only [go_sem, ↓reduceIte, reduceCtorEq, pappend, plen]
      refine hK _ _ ?_; clear hK K
      (refine PW.ret ⟨_, rfl, ?_⟩; first | refine .inl ⟨?_, rfl⟩ | refine Fin.base (.id' ?_ (.bool _)) | refine Fin.base (.id' ?_ (.int _ _)))
      rfl

end Go.Proofs.Ytnjnikafhbholaa.Sc

namespace Go.Proofs.Ytnjnikafhbholaa.Lmp
set_option linter.all false
set_option linter.unusedVariables false
set_option linter.unusedSimpArgs false
open Go.ChangeShapes Go.WideShapes Go.ChangeAt Go.RowKit Pm Sc Lm

theorem law : ∀ xs, ArgsShp Try.prog Try.f14.params.toList xs → CallOk Try.prog 14 xs [] (.bool true) [] := by
  intro xs h
  rw [Try.params14] at h
  obtain ⟨x, r, rfl, hx, h⟩ := h.cons
  obtain ⟨y, r, rfl, hy, h⟩ := h.cons
  obtain ⟨z, r, rfl, hz, h⟩ := h.cons
  obtain rfl := h.nil
  obtain ⟨ps, hp, rfl⟩ := hx.agg (by simp [aggT, Try.underlying92])
  obtain ⟨c, rfl⟩ := shp_cx hp
  obtain ⟨qs, hqs, rfl⟩ := hy.agg (by simp [aggT, Try.underlying116])
  obtain ⟨s, rfl, _⟩ := shp_st hqs
  obtain ⟨l, hl, hm, hg⟩ := (hz.one (by simp [aggT, Try.underlying117])).of_list (enc := mbc) (good := fun m => mbok m) Try.underlying117 (fun q hq => shp_mb hq)
  cases hl
  exact law_puts c s l false [] (fun m hm => (hg m hm).1) (by simpa [maxLen] using hm)

set_option maxRecDepth 100000 in
theorem macroblockPuts_lifted (os : Os) (started : os.Started) (H : Type) (enc : TypeId × Value → H) :
    ReturnsInHanded {} Try.checked os 14 .any (Rows.macroblockPutsSpec.pre6 enc Try.prog Try.f14 Rows.macroblockPutsRow.domain false) (Rows.macroblockPutsSpec.post enc Try.prog Try.f14 false true false false) := by
  refine returnsInHanded_of_change (C := Try.checked) own started (by kernel_rfl) Try.func14
    (ChangeSpec.witness6 (enc := enc) (C := Try.checked) false ⟨#[], #[.agg #[.int .i64 0, .int .i64 0, .bool false, .bool false], .agg #[.int .i64 0, .int .i64 0, .int .i64 0, .int .i64 0, .int .i64 0, .int .i64 0, .int .i64 0, .int .i64 0], .slice none 0 0], []⟩ 8 (by kernel_rfl) (by kernel_rfl) (by kernel_rfl) (by kernel_rfl)) ?_
  intro W base args ds gs before hval hW _ _
  exact law_call (P := Try.prog) (fn := Try.f14) (n := 12) (tb := 4) (b0 := base) (r := .any) law laidOut (by kernel_rfl) (by kernel_rfl) (by kernel_rfl) Try.underlying4 rfl
    (fun ds hd => match ds, hd with | [d0, d1, d2], _ => rfl) hval hW

theorem macroblockPuts_holds : Rows.MacroblockPutsSaid :=
  OpenClaim.holds_of_wide 14 Try.f14 rfl rfl rfl rfl rfl rfl rfl ⟨rfl, rfl, rfl, rfl, rfl⟩ rfl rfl rfl rfl rfl (by kernel_rfl) Try.func14 (by kernel_rfl)
    (of_decide_eq_true (by kernel_rfl)) (by unfold Func.isWrapper; first | (rw [if_pos (by decide +kernel)]; kernel_rfl) | (rw [if_neg (by decide +kernel)]; exact ⟨rfl, rfl⟩))
    (fun os started H enc _ => macroblockPuts_lifted os started H enc)

end Go.Proofs.Ytnjnikafhbholaa.Lmp
