/-
  Contracts of the codes of blocks: package block and its reference.
-/
import Derived.Test.YthmladiijdlgkaaGreatHa
import Derived.Test.YthmladiijdlgkaaGreatGb
namespace Go.Proofs.YthmladiijdlgkaaGreat.Sc
set_option linter.all false
set_option linter.unusedVariables false
set_option linter.unusedSimpArgs false
open Pm Ty Go.RowKit
def bkR (bl : List Int) : Nat → Nat → Nat → List Bool
  | 0, _, _ => eg 0
  | n + 1, p, at' => if intAt bl p = 0 then bkR bl n (p + 1) at' else eg (p + 1 - at') ++ (sg (intAt bl p) ++ bkR bl n (p + 1) (p + 1))
def bkc (bl : List Int) (fr : Nat) : List Bool := bkR bl (64 - fr) fr fr
def inrB (bl : List Int) : Prop := ∀ p, p < 64 → win (intAt bl p) 4095 = true
theorem win_b {x n : Int} (h : win x n = true) : -n ≤ x ∧ x ≤ n := by simpa [win] using h
theorem bkR_len (bl : List Int) (hr : inrB bl) : ∀ n p at', p + n ≤ 64 → at' ≤ p → (bkR bl n p at').length ≤ n * 62 + 1
  | 0, p, at', _, _ => by show (eg 0).length ≤ _; decide
  | n + 1, p, at', h, ha => by
    unfold bkR
    have i1 := bkR_len bl hr n (p + 1) at' (by omega) (by omega)
    have i2 := bkR_len bl hr n (p + 1) (p + 1) (by omega) (by omega)
    split
    · omega
    · have w := win_b (hr p (by omega))
      have e1 := eg_len (p + 1 - at') (by omega)
      have e2 := sg_len (intAt bl p) (by omega)
      simp only [List.length_append]
      omega
theorem bkc_len (bl : List Int) (fr : Nat) (hr : inrB bl) (h : fr ≤ 1) : (bkc bl fr).length ≤ 4000 := by
  have := bkR_len bl hr (64 - fr) fr fr (by omega) (by omega)
  unfold bkc; omega
theorem two_app (H K : Heap) (i j : Nat) (A B : Blk) (hi : i < H.length) (hj : j < H.length) : two (H ++ K) i j A B = two H i j A B ++ K := by
  unfold two
  rw [List.set_append_left _ _ hi, List.set_append_left _ _ (by simpa using hj)]
theorem two_K (H : Heap) (i j : Nat) (A B X : Blk) (K : Heap) : (two H i j A B ++ X :: K)[H.length]? = some X := by
  rw [List.getElem?_append_right (by rw [two_len]; exact Nat.le_refl _), two_len, Nat.sub_self]; rfl
theorem two_Ki (H : Heap) (i j : Nat) (A B : Blk) (K : Heap) (hi : i < H.length) (hne : i ≠ j) : (two H i j A B ++ K)[i]? = some A := by
  rw [List.getElem?_append_left (by rw [two_len]; exact hi), two_0 _ _ _ _ _ ⟨hi, hne⟩]
theorem two_Kj (H : Heap) (i j : Nat) (A B : Blk) (K : Heap) (hj : j < H.length) : (two H i j A B ++ K)[j]? = some B := by
  rw [List.getElem?_append_left (by rw [two_len]; exact hj), two_1 _ _ _ _ _ hj]
theorem hsc_two (H : Heap) (i j : Nat) (M : List Bool) (hj : j < H.length) (h : HSc H) : HSc (two H i j (wA j M) (wB M)) := by
  unfold two
  refine HSc.set (HSc.set h fun x hx => ?_) fun x hx => ?_
  · simp only [wA, List.mem_cons, List.not_mem_nil, or_false] at hx
    rcases hx with rfl | rfl
    · exact .msl hj
    · exact .int _ _
  · simp only [wB] at hx
    exact bs_scoped _ _ x hx
theorem wA_v (j : Nat) (l : List Bool) : (wA j l).ver = 0 := rfl
theorem puK (i j : Nat) (M : List Bool) (v : Nat) (H K : Heap) (hi : i < H.length) (hj : j < H.length) (hne : i ≠ j) (hv : v ≤ 65534) (hl : M.length ≤ 900000000) :
    CallOk Tryz.prog 70 [.ptr i 0 0, .int .i64 (v : Int)] (two H i j (wA j M) (wB M) ++ K) (.int .i64 0) (two H i j (wA j (M ++ eg v)) (wB (M ++ eg v)) ++ K) := by
  have := pu_ok i j M v _ (two_Ki H i j (wA j M) (wB M) K hi hne) (two_Kj H i j (wA j M) (wB M) K hj) hne hv hl
  rw [two_app _ _ _ _ _ _ (by rw [two_len]; exact hi) (by rw [two_len]; exact hj), two_two _ _ _ _ _ _ _ hne] at this
  exact this
theorem psK (i j : Nat) (M : List Bool) (v : Int) (H K : Heap) (hi : i < H.length) (hj : j < H.length) (hne : i ≠ j) (hv : -32767 ≤ v ∧ v ≤ 32767) (hl : M.length ≤ 900000000) :
    CallOk Tryz.prog 75 [.ptr i 0 0, .int .i64 v] (two H i j (wA j M) (wB M) ++ K) (.int .i64 0) (two H i j (wA j (M ++ sg v)) (wB (M ++ sg v)) ++ K) := by
  have := ps_ok i j M v _ (two_Ki H i j (wA j M) (wB M) K hi hne) (two_Kj H i j (wA j M) (wB M) K hj) hne hv hl
  rw [two_app _ _ _ _ _ _ (by rw [two_len]; exact hi) (by rw [two_len]; exact hj), two_two _ _ _ _ _ _ _ hne] at this
  exact this
theorem alw_ok (x : Int) (H : Heap) : CallOk Tryz.prog 112 [.int .i64 x] H (.bool (win x 4095)) H := by
  refine CallOk.body (F0 := [(0, .int .i64 x)]) Tryz.func112 rfl Tryz.ntmps112 Tryz.results112 rfl (by kernel_rfl) rfl ?_
  (repeat' (first | refine PW.seq ?_ | refine PW.skip ?_ | refine PW.block ?_ | (refine PW.rg rfl fun K hK => ?_; simp (disch:=omega) only [go_sem, ↓reduceIte]) | (refine PW.draw mix (by kernel_rfl) fun K hK => ?_; simp (disch:=omega) only [go_sem, ↓reduceIte, reduceCtorEq, pappend, plen]) | (refine PW.drawg mix (by kernel_rfl) fun K hK => ?_; simp (disch:=omega) only [go_sem, ↓reduceIte, reduceCtorEq, pappend, plen]) | (refine PW.drawt [] [] mix (by kernel_rfl) fun K hK => ?_; simp (disch:=omega) only [go_sem, ↓reduceIte, reduceCtorEq, pappend, plen]) | ((first | refine VO_cond (fun h => ?_) (fun h => ?_) | refine VOd_cond (fun h => ?_) (fun h => ?_) | refine VOg_cond (fun h => ?_) (fun h => ?_) | refine VOh_cond (fun h => ?_) (fun h => ?_) | refine VOi_cond (fun h => ?_) (fun h => ?_) | refine And.intro (fun h => ?_) (fun h => ?_)) <;> (try simp only [decide_eq_true_eq, decide_eq_false_iff_not] at h) <;> simp (disch:=omega) only [go_sem, ↓reduceIte, h]) | (refine hK _ _ ?_; clear hK K) | (refine PW.cond (t := _) rfl (fun h => ?_) (fun h => ?_) <;> (try (cases h; done)) <;> (try simp only [Bool.not_eq_true', Bool.not_eq_false', decide_eq_true_eq, decide_eq_false_iff_not] at h))))
  all_goals ((refine PW.ret ⟨_, rfl, ?_⟩; first | refine .inl ⟨?_, rfl⟩ | refine Fin.base (.id' ?_ (.bool _)) | refine Fin.base (.id' ?_ (.int _ _))); (simp_all [win, slot] <;> first | rfl | omega | (rw [Bool.eq_iff_iff]; simp; done) | (rw [Bool.eq_iff_iff]; simp; omega)))
theorem vst_ok (fr : Nat) (H : Heap) (h : fr ≤ 1) : CallOk Tryz.prog 101 [.int .i64 (fr : Int)] H (.bool true) H := by
  refine CallOk.body (F0 := [(0, .int .i64 (fr : Int))]) Tryz.func101 rfl Tryz.ntmps101 Tryz.results101 rfl (by kernel_rfl) rfl ?_
  have h2 : fr = 0 ∨ fr = 1 := by omega
  rcases h2 with rfl | rfl <;> (repeat' (first | refine PW.seq ?_ | refine PW.skip ?_ | refine PW.block ?_ | (refine PW.rg rfl fun K hK => ?_; simp (disch:=omega) only [go_sem, ↓reduceIte]) | (refine PW.draw mix (by kernel_rfl) fun K hK => ?_; simp (disch:=omega) only [go_sem, ↓reduceIte, reduceCtorEq, pappend, plen]) | (refine PW.drawg mix (by kernel_rfl) fun K hK => ?_; simp (disch:=omega) only [go_sem, ↓reduceIte, reduceCtorEq, pappend, plen]) | (refine PW.drawt [] [] mix (by kernel_rfl) fun K hK => ?_; simp (disch:=omega) only [go_sem, ↓reduceIte, reduceCtorEq, pappend, plen]) | ((first | refine VO_cond (fun h => ?_) (fun h => ?_) | refine VOd_cond (fun h => ?_) (fun h => ?_) | refine VOg_cond (fun h => ?_) (fun h => ?_) | refine VOh_cond (fun h => ?_) (fun h => ?_) | refine VOi_cond (fun h => ?_) (fun h => ?_) | refine And.intro (fun h => ?_) (fun h => ?_)) <;> (try simp only [Bool.not_eq_true', Bool.not_eq_false', decide_eq_true_eq, decide_eq_false_iff_not] at h) <;> simp (disch:=omega) only [go_sem, ↓reduceIte, reduceCtorEq, pappend, plen, h]) | (refine hK _ _ ?_; clear hK K) | (refine PW.cond (t := _) rfl (fun h => ?_) (fun h => ?_) <;> (try (cases h; done)) <;> (try simp only [Bool.not_eq_true', Bool.not_eq_false', decide_eq_true_eq, decide_eq_false_iff_not] at h))))
  all_goals ((refine PW.ret ⟨_, rfl, ?_⟩; first | refine .inl ⟨?_, rfl⟩ | refine Fin.base (.id' ?_ (.bool _)) | refine Fin.base (.id' ?_ (.int _ _))); rfl)
theorem inr_ok (bl : List Int) (fr : Nat) (H : Heap) (hfr : fr ≤ 1) (hl : bl.length = 64) (hr : inrB bl) : CallOk Tryz.prog 102 [.agg (is bl), .int .i64 (fr : Int)] H (.bool true) H := by
  have hall := is_cell bl
  have hg := fun p (hp : p < 64) => is_get bl p (by omega)
  have al := fun x K => alw_ok x K
  have hil : (is bl).length = 64 := by rw [is_len, hl]
  refine CallOk.body (F0 := [(0, .agg (is bl)), (1, .int .i64 (fr : Int))]) Tryz.func102 rfl Tryz.ntmps102 Tryz.results102 rfl (by kernel_rfl) rfl ?_
  (repeat refine PW.seq ?_); refine PW.rg rfl fun K hK => ?_; simp (disch:=omega) only [go_sem, hall]; refine hK _ _ ?_; clear hK K
  have d1 : decide ((fr : Int) ≤ 64) = true := decide_eq_true (by omega)
  (repeat refine PW.seq ?_); refine PW.rg rfl fun K hK => ?_; simp (disch:=omega) only [go_sem, plen]; refine hK _ _ ?_; clear hK K
  (repeat refine PW.seq ?_); refine PW.block (PW.loop ?_)
  suffices hl1 : ∀ k : Nat, k ≤ 64 - fr → PL Tryz.prog _ _ [(8, .msl H.length 0 fr (64 - fr) 1 false), (9, .int .i64 ((64 - fr : Nat) : Int)), (10, .int .i64 (k : Int))] (H ++ [⟨65, 0, is bl⟩]) _ by
    exact PL.at [8, 9, 10] (hl1 0 (by omega)) rfl rfl
  intro k hk
  induction hd : 64 - fr - k using Nat.strongRecOn generalizing k with
  | _ d ih =>
    refine PL.round ?_; (repeat refine PW.seq ?_); refine PW.rg rfl fun K hK => ?_; simp (disch:=omega) only [go_sem, ↓reduceIte]; refine hK _ _ ?_; clear hK K
    (repeat refine PW.seq ?_); refine PW.cond (t := _) rfl (fun h => ?_) (fun h => ?_)
    · have h4 : k < 64 - fr := by have := of_decide_eq_true h; omega
      have hx := hr (fr + k) (by omega)
      have hgx := hg (fr + k) (by omega)
      refine PW.skip ?_; (repeat refine PW.seq ?_); refine PW.block ?_
      (repeat refine PW.seq ?_); refine PW.rg rfl fun K hK => ?_; simp (disch:=omega) only [go_sem, ↓reduceIte, hgx]; refine hK _ _ ?_; clear hK K
      (repeat refine PW.seq ?_); refine PW.rg rfl fun K hK => ?_; simp (disch:=omega) only [go_sem]; refine VCx.call (al _ _) rfl ?_; simp (disch:=omega) only [go_sem]; refine hK _ _ ?_; clear hK K
      rw [hx]
      (repeat refine PW.seq ?_); refine PW.cond (t := _) rfl (fun h => ?_) (fun h => ?_)
      · cases h
      refine PW.skip ?_
      (repeat refine PW.seq ?_); refine PW.rg rfl fun K hK => ?_; simp (disch:=omega) only [go_sem, ↓reduceIte]; refine hK _ _ ?_; clear hK K
      exact PL.at [8, 9, 10] (ih (64 - fr - (k + 1)) (by omega) (k + 1) (by omega) rfl) rfl rfl
    · refine PW.exit ?_
      (repeat refine PW.seq ?_); refine PW.rg rfl fun K hK => ?_; simp (disch:=omega) only [go_sem]; refine hK _ _ ?_; clear hK K
      (refine PW.ret ⟨_, rfl, ?_⟩; first | refine .inl ⟨?_, rfl⟩ | refine Fin.base (.id' ?_ (.bool _)) | refine Fin.base (.id' ?_ (.int _ _)))
      rfl
set_option maxHeartbeats 1000000 in
theorem bput_ok (i j : Nat) (L : List Bool) (bl : List Int) (fr : Nat) (H : Heap) (hA : H[i]? = some (wA j L)) (hB : H[j]? = some (wB L)) (hne : i ≠ j) (hfr : fr ≤ 1) (hl : bl.length = 64) (hr : inrB bl) (hL : L.length ≤ 800000000) :
    CallOk Tryz.prog 76 [.ptr i 0 0, .agg (is bl), .int .i64 (fr : Int)] H (.int .i64 0) (two H i j (wA j (L ++ bkc bl fr)) (wB (L ++ bkc bl fr))) := by
  have hi := (List.getElem?_eq_some_iff.1 hA).1
  have hj := (List.getElem?_eq_some_iff.1 hB).1
  have hself := two_self hA hB
  have hall := is_cell bl
  have hg := fun p (hp : p < 64) => is_get bl p (by omega)
  have hil : (is bl).length = 64 := by rw [is_len, hl]
  have vo := fun K => vst_ok fr K hfr
  have io := fun K => inr_ok bl fr K hfr hl hr
  have hbk := bkc_len bl fr hr hfr
  have hTl : (L ++ bkc bl fr).length ≤ 800004000 := by rw [List.length_append]; omega
  have e0 : (fr : Int) - 1 = ((fr : Nat) : Int) - 1 := rfl
  have gi := fun M => two_Ki H i j (wA j M) (wB M) [⟨65, 0, is bl⟩] hi hne
  have gk := fun M => two_K H i j (wA j M) (wB M) ⟨65, 0, is bl⟩ []
  have htk : List.take 64 (is bl) = is bl := List.take_of_length_le (by omega)
  refine CallOk.body (F0 := [(0, .ptr i 0 0), (1, .agg (is bl)), (2, .int .i64 (fr : Int))]) Tryz.func76 rfl Tryz.ntmps76 Tryz.results76 rfl (by kernel_rfl) rfl ?_
  refine PW.eq rfl hself.symm ?_
  (repeat refine PW.seq ?_); refine PW.rg rfl fun K hK => ?_; simp (disch:=omega) only [go_sem, hall]; refine hK _ _ ?_; clear hK K
  have hlen : (two H i j (wA j L) (wB L)).length = H.length := two_len ..
  have pu := fun M v hv hl => puK i j M v H [⟨65, 0, is bl⟩] hi hj hne hv hl
  have ps := fun M v hv hl => psK i j M v H [⟨65, 0, is bl⟩] hi hj hne hv hl
  rw [hlen]
  (repeat refine PW.seq ?_); refine PW.rg rfl fun K hK => ?_; simp (disch:=omega) only [go_sem, gi, wA_v]
  refine VCx.call (vo _) rfl ?_; simp (disch:=omega) only [go_sem]; refine hK _ _ ?_; clear hK K
  (repeat refine PW.seq ?_); refine PW.cond (t := _) rfl (fun h => ?_) (fun h => ?_)
  · cases h
  refine PW.skip ?_
  (repeat refine PW.seq ?_); refine PW.rg rfl fun K hK => ?_; simp (disch:=omega) only [go_sem, ↓reduceIte, gk, htk]
  refine VCx.call (io _) rfl ?_; simp (disch:=omega) only [go_sem]; refine hK _ _ ?_; clear hK K
  (repeat refine PW.seq ?_); refine PW.cond (t := _) rfl (fun h => ?_) (fun h => ?_)
  · cases h
  refine PW.skip ?_
  (repeat refine PW.seq ?_); refine PW.rg rfl fun K hK => ?_; simp (disch:=omega) only [go_sem, ↓reduceIte]; refine hK _ _ ?_; clear hK K
  (repeat refine PW.seq ?_); refine PW.rg rfl fun K hK => ?_; simp (disch:=omega) only [go_sem]; refine hK _ _ ?_; clear hK K
  (repeat refine PW.seq ?_); refine PW.block (PW.loop ?_)
  generalize hT : L ++ bkc bl fr = T at *
  suffices hl1 : ∀ (p a : Nat) (M : List Bool), fr ≤ p → p ≤ 64 → a ≤ p → M ++ bkR bl (64 - p) p a = T → PL Tryz.prog _ _ [(0, .ptr i 0 0), (4, .ptr H.length 0 0), (7, .int .i64 ((a : Int) - 1)), (8, .int .i64 (p : Int))] (two H i j (wA j M) (wB M) ++ [⟨65, 0, is bl⟩]) _ by
    exact PL.at [0, 4, 7, 8] (hl1 fr fr L (by omega) (by omega) (by omega) hT) rfl rfl
  intro p a M pq1 pq2 ha hM
  induction hd : 64 - p using Nat.strongRecOn generalizing p a M with
  | _ d ih =>
    have hMl : M.length ≤ 800004000 := by
      have : M.length ≤ T.length := by rw [← hM, List.length_append]; omega
      omega
    refine PL.round ?_; (repeat refine PW.seq ?_); refine PW.rg rfl fun K hK => ?_; simp (disch:=omega) only [go_sem, ↓reduceIte]; refine hK _ _ ?_; clear hK K
    (repeat refine PW.seq ?_); refine PW.cond (t := _) rfl (fun h => ?_) (fun h => ?_)
    · have h4 : p < 64 := by have := of_decide_eq_true h; omega
      have hgp := hg p h4
      have hrp := win_b (hr p h4)
      obtain ⟨d', hd'⟩ : ∃ d', 64 - p = d' + 1 := ⟨63 - p, by omega⟩
      have hnx := ih (64 - (p + 1)) (by omega) (p + 1)
      rw [show 64 - (p + 1) = d' by omega] at hnx
      rw [hd', bkR] at hM
      have e1 : (p : Int) - ((a : Int) - 1) = ((p + 1 - a : Nat) : Int) := by omega
      generalize intAt bl p = x at *
      refine PW.skip ?_; (repeat refine PW.seq ?_); refine PW.block ?_
      (repeat refine PW.seq ?_); refine PW.rg rfl fun K hK => ?_; simp (disch:=omega) only [go_sem, ↓reduceIte, gk, hgp]; refine hK _ _ ?_; clear hK K
      (repeat refine PW.seq ?_); refine PW.cond (t := _) rfl (fun h => ?_) (fun h => ?_)
      · have hx : x = 0 := by simpa using h
        rw [if_pos hx] at hM
        refine PW.exit ?_
        (repeat refine PW.seq ?_); refine PW.rg rfl fun K hK => ?_; simp (disch:=omega) only [go_sem, ↓reduceIte]; refine hK _ _ ?_; clear hK K
        exact PL.at [0, 4, 7, 8] (hnx a M (by omega) (by omega) (by omega) hM rfl) rfl rfl
      · have hx : ¬ x = 0 := by simpa using h
        rw [if_neg hx, ← List.append_assoc, ← List.append_assoc] at hM
        have p1 := pu M (p + 1 - a) (by omega) (by omega)
        have hl1 := eg_len (p + 1 - a) (by omega)
        have p2 := ps (M ++ eg (p + 1 - a)) x (by omega) (by rw [List.length_append]; omega)
        refine PW.skip ?_
        (repeat refine PW.seq ?_); refine PW.rg rfl fun K hK => ?_; simp (disch:=omega) only [go_sem, ↓reduceIte, e1]; refine VCx.call (p1) rfl ?_; simp (disch:=omega) only [go_sem]; refine hK _ _ ?_; clear hK K
        (repeat refine PW.seq ?_); refine PW.rg rfl fun K hK => ?_; simp (disch:=omega) only [go_sem, ↓reduceIte]; refine hK _ _ ?_; clear hK K
        (repeat refine PW.seq ?_); refine PW.cond (t := _) rfl (fun h => ?_) (fun h => ?_)
        · cases h
        refine PW.skip ?_
        (repeat refine PW.seq ?_); refine PW.rg rfl fun K hK => ?_; simp (disch:=omega) only [go_sem, ↓reduceIte, gk, hgp]
        refine VCx.call (p2) rfl ?_; simp (disch:=omega) only [go_sem]; refine hK _ _ ?_; clear hK K
        (repeat refine PW.seq ?_); refine PW.rg rfl fun K hK => ?_; simp (disch:=omega) only [go_sem, ↓reduceIte]; refine hK _ _ ?_; clear hK K
        (repeat refine PW.seq ?_); refine PW.cond (t := _) rfl (fun h => ?_) (fun h => ?_)
        · cases h
        refine PW.skip ?_
        (repeat refine PW.seq ?_); refine PW.rg rfl fun K hK => ?_; simp (disch:=omega) only [go_sem]; refine hK _ _ ?_; clear hK K
        (repeat refine PW.seq ?_); refine PW.rg rfl fun K hK => ?_; simp (disch:=omega) only [go_sem, ↓reduceIte]; refine hK _ _ ?_; clear hK K
        refine PL.at [0, 4, 7, 8] (hnx (p + 1) _ (by omega) (by omega) (by omega) hM rfl) ?_ (by rw [List.append_assoc])
        simp [kp, slot]
    · have h4 : p = 64 := by have := of_decide_eq_false h; omega
      subst h4
      refine PW.exit ?_
      simp only [Nat.sub_self, bkR] at hM
      have p1 := pu M 0 (by omega) (by omega)
      rw [hM] at p1
      (repeat refine PW.seq ?_); refine PW.rg rfl fun K hK => ?_; simp (disch:=omega) only [go_sem]; refine VCx.call (p1) rfl ?_; simp (disch:=omega) only [go_sem]; refine hK _ _ ?_; clear hK K
      exact PW.ret ⟨_, rfl, Fin.cut rfl (two_len ..).symm (hsc_two H i j T hj) (.id (.int _ _))⟩
theorem lev_ref (x : Int) (H : Heap) (h : win x 4095 = true) : CallOk Tryz.prog 84 [.int .i64 x] H (.bool true) H := by
  have := win_ref x H
  rwa [h] at this
theorem zb_snoc (M N : List Bool) : bs (zb (M ++ N)) = bs (zb M) ++ bs (zb N) := by rw [zb_append, bs_append]
theorem zb_len2 (M : List Bool) : (bs (zb M)).length = M.length := by rw [length_bs, zb_len]
set_option maxHeartbeats 1000000 in
theorem bcode_ref (bl : List Int) (fr : Nat) (H : Heap) (hfr : fr ≤ 1) (hl : bl.length = 64) (hr : inrB bl) :
    CallOk Tryz.prog 52 [.agg (is bl), .int .i64 (fr : Int)] H (.tup [.slice (bs (zb (bkc bl fr))) (bkc bl fr).length false, .int .i64 0]) H := by
  have hall := is_cell bl
  have hg := fun p (hp : p < 64) => is_get bl p (by omega)
  have hil : (is bl).length = 64 := by rw [is_len, hl]
  have hbk := bkc_len bl fr hr hfr
  have lo := fun x hx K => lev_ref x K hx
  have eo := fun v hv K => eg_ref v K hv
  have so := fun v hv K => sg_ref v K hv
  generalize hT : bkc bl fr = T at *
  have hT' : [] ++ bkR bl (64 - fr) fr fr = T := hT
  refine CallOk.body (F0 := [(0, .agg (is bl)), (1, .int .i64 (fr : Int))]) Tryz.func52 rfl Tryz.ntmps52 Tryz.results52 rfl (by kernel_rfl) rfl ?_
  (repeat refine PW.seq ?_); refine PW.rg rfl fun K hK => ?_; simp (disch:=omega) only [go_sem, hall]; refine hK _ _ ?_; clear hK K
  have h01 : fr = 0 ∨ fr = 1 := by omega
  suffices hl1 : ∀ (p a : Nat) (M : List Bool), fr ≤ p → p ≤ 64 → a ≤ p → M ++ bkR bl (64 - p) p a = T → PL Tryz.prog _ _ [(2, .ptr H.length 0 0), (6, .msl (H.length + 1) M.length 0 M.length 1 true), (7, .int .i64 (a : Int)), (8, .int .i64 (p : Int))] (H ++ [⟨65, 0, is bl⟩, ⟨5, M.length, bs (zb M)⟩]) _ by
    have hst := fun h => hl1 fr fr [] (by omega) (by omega) h hT'
    rcases h01 with rfl | rfl
    · (repeat refine PW.seq ?_); refine PW.rg rfl fun K hK => ?_; simp (disch:=omega) only [go_sem, ↓reduceIte]; refine hK _ _ ?_; clear hK K
      (repeat refine PW.seq ?_); refine PW.cond (t := _) rfl (fun h => ?_) (fun h => ?_)
      · cases h
      refine PW.skip ?_
      (repeat refine PW.seq ?_); refine PW.rg rfl fun K hK => ?_; simp (disch:=omega) only [go_sem]; refine hK _ _ ?_; clear hK K
      refine PW.view (Vs.ghost 6 5 1 rfl) ?_
      (repeat refine PW.seq ?_); refine PW.rg rfl fun K hK => ?_; simp (disch:=omega) only [go_sem]; refine hK _ _ ?_; clear hK K
      (repeat refine PW.seq ?_); refine PW.rg rfl fun K hK => ?_; simp (disch:=omega) only [go_sem]; refine hK _ _ ?_; clear hK K
      (repeat refine PW.seq ?_); refine PW.block (PW.loop ?_)
      exact PL.at [2, 6, 7, 8] (hst (by omega)) (by simp (disch:=omega) only [go_sem]) (by simp [zb, bs])
    · (repeat refine PW.seq ?_); refine PW.rg rfl fun K hK => ?_; simp (disch:=omega) only [go_sem, ↓reduceIte]; refine hK _ _ ?_; clear hK K
      (repeat refine PW.seq ?_); refine PW.cond (t := _) rfl (fun h => ?_) (fun h => ?_)
      · cases h
      refine PW.skip ?_
      (repeat refine PW.seq ?_); refine PW.rg rfl fun K hK => ?_; simp (disch:=omega) only [go_sem]; refine hK _ _ ?_; clear hK K
      refine PW.view (Vs.ghost 6 5 1 rfl) ?_
      (repeat refine PW.seq ?_); refine PW.rg rfl fun K hK => ?_; simp (disch:=omega) only [go_sem]; refine hK _ _ ?_; clear hK K
      (repeat refine PW.seq ?_); refine PW.rg rfl fun K hK => ?_; simp (disch:=omega) only [go_sem]; refine hK _ _ ?_; clear hK K
      (repeat refine PW.seq ?_); refine PW.block (PW.loop ?_)
      exact PL.at [2, 6, 7, 8] (hst (by omega)) (by simp (disch:=omega) only [go_sem]) (by simp [zb, bs])
  intro p a M pq1 pq2 ha hM
  induction hd : 64 - p using Nat.strongRecOn generalizing p a M with
  | _ d ih =>
    have hMl : M.length ≤ 4000 := by
      have : M.length ≤ T.length := by rw [← hM, List.length_append]; omega
      omega
    have hz := zb_len2 M
    refine PL.round ?_; (repeat refine PW.seq ?_); refine PW.rg rfl fun K hK => ?_; simp (disch:=omega) only [go_sem, ↓reduceIte]; refine hK _ _ ?_; clear hK K
    (repeat refine PW.seq ?_); refine PW.cond (t := _) rfl (fun h => ?_) (fun h => ?_)
    · have h4 : p < 64 := by have := of_decide_eq_true h; omega
      have hgp := hg p h4
      have lo' := fun K => lo _ (hr p h4) K
      have hrp := win_b (hr p h4)
      obtain ⟨d', hd'⟩ : ∃ d', 64 - p = d' + 1 := ⟨63 - p, by omega⟩
      have hnx := ih (64 - (p + 1)) (by omega) (p + 1)
      rw [show 64 - (p + 1) = d' by omega] at hnx
      rw [hd', bkR] at hM
      have e1 : (p : Int) - (a : Int) + 1 = ((p + 1 - a : Nat) : Int) := by omega
      generalize intAt bl p = x at *
      refine PW.skip ?_; (repeat refine PW.seq ?_); refine PW.block ?_
      (repeat refine PW.seq ?_); refine PW.rg rfl fun K hK => ?_; simp (disch:=omega) only [go_sem, ↓reduceIte, hgp]
      refine VCx.call (lo' _) rfl ?_; simp (disch:=omega) only [go_sem]; refine hK _ _ ?_; clear hK K
      (repeat refine PW.seq ?_); refine PW.cond (t := _) rfl (fun h => ?_) (fun h => ?_)
      · cases h
      refine PW.skip ?_
      (repeat refine PW.seq ?_); refine PW.rg rfl fun K hK => ?_; simp (disch:=omega) only [go_sem, ↓reduceIte, hgp]; refine hK _ _ ?_; clear hK K
      (repeat refine PW.seq ?_); refine PW.cond (t := _) rfl (fun h => ?_) (fun h => ?_)
      rotate_left
      · have hx : x = 0 := by simpa using h
        rw [if_pos hx] at hM
        refine PW.skip ?_
        (repeat refine PW.seq ?_); refine PW.rg rfl fun K hK => ?_; simp (disch:=omega) only [go_sem, ↓reduceIte]; refine hK _ _ ?_; clear hK K
        exact PL.at [2, 6, 7, 8] (hnx a M (by omega) (by omega) (by omega) hM rfl) rfl rfl
      · have hx : ¬ x = 0 := by simpa using h
        rw [if_neg hx, ← List.append_assoc, ← List.append_assoc] at hM
        have eo' := eo (p + 1 - a) (by omega)
        have so' := so x (by omega)
        have hl1 := eg_len (p + 1 - a) (by omega)
        have hl2 := sg_len x (by omega)
        have hn1 : 0 < (eg (p + 1 - a)).length := by simp [eg, vbits_len]; omega
        have hn2 : 0 < (sg x).length := by simp [sg, eg, vbits_len]; omega
        have hz1 := zb_len2 (eg (p + 1 - a))
        have hz2 := zb_len2 (sg x)
        have hcat : bs (zb (M ++ eg (p + 1 - a) ++ sg x)) = bs (zb M) ++ bs (zb (eg (p + 1 - a))) ++ bs (zb (sg x)) := by rw [zb_snoc, zb_snoc]
        have hcl : (M ++ eg (p + 1 - a) ++ sg x).length = M.length + (eg (p + 1 - a)).length + (sg x).length := by rw [List.length_append, List.length_append]
        generalize eg (p + 1 - a) = E1 at *
        generalize sg x = E2 at *
        (repeat refine PW.seq ?_); refine PW.drawi [H.length + 1] [(6, [0]), (30, [0]), (36, [0]), (41, [0])] [] [35, 40] mix (by kernel_rfl) (by simp <;> omega) fun K hK => ?_
        simp (disch:=omega) only [go_sem, ↓reduceIte, pappend, e1]
        refine VCj.read (fun _ _ => eo' _) rfl ?_; simp (disch:=omega) only [go_sem, ↓reduceIte, pappend, hz, hz1, hgp, hp1, hs1]
        refine VCj.read (fun _ _ => so' _) rfl ?_; simp (disch:=omega) only [go_sem, ↓reduceIte, pappend, hz, hz1, hz2, hp1, hs1, List.length_append]
        refine hK _ _ ?_; clear hK K
        (repeat refine PW.seq ?_); refine PW.rg rfl fun K hK => ?_; simp (disch:=omega) only [go_sem, ↓reduceIte]; refine hK _ _ ?_; clear hK K
        (repeat refine PW.seq ?_); refine PW.rg rfl fun K hK => ?_; simp (disch:=omega) only [go_sem, ↓reduceIte]; refine hK _ _ ?_; clear hK K
        exact PL.at [2, 6, 7, 8] (hnx (p + 1) _ (by omega) (by omega) (by omega) hM rfl) (by simp [kp, slot, Nat.add_assoc]) (by rw [hcat, hcl]; simp [Nat.add_assoc, List.append_assoc])
    · have h4 : p = 64 := by have := of_decide_eq_false h; omega
      subst h4
      refine PW.exit ?_
      simp only [Nat.sub_self, bkR] at hM
      have e0 := fun K => eo 0 (by omega) K
      have hz1 := zb_len2 (eg 0)
      have hn1 : 0 < (eg 0).length := by decide
      have hcat : bs (zb T) = bs (zb M) ++ bs (zb (eg 0)) := by rw [← hM, zb_snoc]
      have hcl : T.length = M.length + (eg 0).length := by rw [← hM, List.length_append]
      generalize eg 0 = E1 at *
      (repeat refine PW.seq ?_); refine PW.rg rfl fun K hK => ?_; simp (disch:=omega) only [go_sem, pappend]
      refine VCx.call (e0 _) rfl ?_; simp (disch:=omega) only [go_sem, ↓reduceIte, pappend, hz, hz1, hp1, hs1, List.length_append]
      refine hK _ _ ?_; clear hK K
      refine PW.ret ⟨.tup [.msl (H.length + 1) (M.length + E1.length) 0 (M.length + E1.length) 1 true, .int .i64 0], by simp (disch:=omega) only [go_sem, presults, presult, List.mapM_cons, List.mapM_nil, Option.pure_def, Option.bind_eq_bind], ?_⟩
      rw [hcat, hcl]
      exact Fin.base (Fz.tupC ⟨Fz.mslC (e := 5) (xs := bs (zb M) ++ bs (zb E1)) (by omega) (hp1 _ _ _ _) (by simp [hz, hz1]) (FzC.refl fun x hx => by rw [← hcat] at hx; exact bs_scoped _ _ x hx), .id (.int _ _), trivial⟩)
end Go.Proofs.YthmladiijdlgkaaGreat.Sc
