/-
  THE STATEMENT PictureSlicesSaid, PROVED (from the contract 'law_slices').
-/
import Derived.Test.YthmladiijdlgkaaGreatV1
import Derived.Test.YthmladiijdlgkaaGreatKa
import Derived.Test.YthmladiijdlgkaaGreatPmK
import Derived.Test.YthmladiijdlgkaaGreatLp
import Derived.Test.YthmladiijdlgkaaGreatLm
namespace Go.Proofs.YthmladiijdlgkaaGreat.Sc
set_option linter.all false
set_option linter.unusedVariables false
set_option linter.unusedSimpArgs false
open Pm Ty Go.RowKit
def mtkA (c : Cx) (s : St) (q : List UInt8) (n a : Nat) : Rr (Mb × St) := if vcx c && vstB s then mtk c s q n a else .er 0 a
def rvM : Rr (Mb × St) → PV
  | .ok y _ => .tup [.agg (mbc y.1), .agg (stc y.2), .int .i64 0]
  | .er e _ => .tup [.agg zmv, .agg (stc zSt), ecd e]
def mtkR (H : Heap) (i : Nat) (p : List UInt8) (n : Nat) (x : Rr (Mb × St)) : PV → Heap → Prop := fun v H' => v = rvM x ∧
  match x with
  | .ok _ a => H' = H.set i (rA p n a)
  | .er _ _ => ∃ a, a ≤ n ∧ H' = H.set i (rA p n a)
theorem mbc_sco (k : Nat) (m : Mb) : ∀ x ∈ mbc m, Scoped k x := fun x hx => mbl_sc0 k m x hx
where
  mbl_sc0 (n : Nat) (m : Mb) : ∀ x ∈ mbc m, Scoped n x := fun x hx => by
    simp only [mbc, List.mem_cons] at hx
    rcases hx with rfl | rfl | rfl | rfl | rfl | rfl | rfl | rfl | rfl | rfl | rfl | rfl | rfl | rfl | rfl | rfl | rfl | rfl | rfl | rfl | rfl | rfl | rfl | rfl | hx
    all_goals first | exact .int _ _ | exact .bool _ | exact is_scoped _ _ _ hx
theorem rvM_sc (k : Nat) (x : Rr (Mb × St)) : Scoped k (rvM x) := by
  cases x with
  | ok y a =>
    refine .tup (all_scoped' fun x hx => ?_)
    simp only [List.mem_cons, List.not_mem_nil, or_false] at hx
    rcases hx with rfl | rfl | rfl
    · exact ag_scoped (mbc_sco _ _)
    · exact stc_scoped _ _
    · exact .int _ _
  | er e a =>
    refine .tup (all_scoped' fun x hx => ?_)
    simp only [List.mem_cons, List.not_mem_nil, or_false] at hx
    rcases hx with rfl | rfl | rfl
    · exact ag_scoped (mbc_sco _ _)
    · exact stc_scoped _ _
    · exact .int _ _
theorem zcMb : zcells Tryz.prog 68 = some zmv := by kernel_rfl
theorem zmv_len : zmv.length = 408 := mbc_len zMb zl384_len
theorem zmv_cell : zmv.all PV.cell = true := mbc_cell zMb
theorem tkCh_b {c : Cx} {p : List UInt8} {n : Nat} {hl : Bool} {m : Mb} {s : St} {a : Nat} {y : Mb × St} {a1 : Nat} (h : tkCh c p n hl m s a = .ok y a1) (ha : a ≤ n) : a1 ≤ n ∧ y.1.lv = m.lv ∧ (s.da = y.2.da ∧ s.db = y.2.db ∧ s.dc = y.2.dc) := by
  unfold tkCh at h
  split at h
  · suffices hr : ∀ (m' : Mb) (a' : Nat), m'.lv = m.lv → a' ≤ n → ((tkS p n a').bind fun d a2 => if vqB (s.q + d) then .ok ({ m' with dl := d }, { s with q := s.q + d }) a2 else .er 2 a2) = .ok y a1 → a1 ≤ n ∧ y.1.lv = m.lv ∧ (s.da = y.2.da ∧ s.db = y.2.db ∧ s.dc = y.2.dc) by
      split at h
      · cases hf : tkF p n a with
        | er e a2 => rw [hf] at h; cases h
        | ok b a2 =>
          have := tkF_b hf
          rw [hf, Rr.bind_ok, Rr.bind_ok] at h
          exact hr { m with fd := b } a2 rfl (by omega) h
      · rw [Rr.bind_ok] at h
        exact hr m a rfl ha h
    intro m' a' hm' ha' h
    cases h1 : tkS p n a' with
    | er e a2 => rw [h1] at h; cases h
    | ok d a2 =>
      have b1 := tkS_b h1 ha'
      rw [h1, Rr.bind_ok] at h
      split at h
      · injection h with e1 e2
        subst e1 e2
        exact ⟨b1.2.2, hm', rfl, rfl, rfl⟩
      · cases h
  · injection h with e1 e2
    subst e1 e2
    exact ⟨ha, rfl, rfl, rfl, rfl⟩
theorem setCd_k (m : Mb) (n : Nat) (b : Bool) : (setCd m n b).k = m.k := by
  unfold setCd
  repeat' split
  all_goals rfl
theorem tkCf_b {p : List UInt8} {n : Nat} : ∀ (r : Nat) (m : Mb) (a : Nat) {m' : Mb} {a1 : Nat}, tkCf p n r m a = .ok m' a1 → a ≤ n → a1 ≤ n ∧ m'.lv = m.lv ∧ m'.k = m.k
  | 0, m, a, m', a1, h, ha => by
    simp only [tkCf] at h
    split at h
    · injection h with e1 e2
      subst e1 e2
      exact ⟨ha, rfl, rfl⟩
    · cases h
  | r + 1, m, a, m', a1, h, ha => by
    simp only [tkCf] at h
    cases hf : tkF p n a with
    | er e a2 => rw [hf] at h; cases h
    | ok b a2 =>
      have hb := tkF_b hf
      rw [hf, Rr.bind_ok] at h
      obtain ⟨c1, c2, c3⟩ := tkCf_b r _ _ h (by omega)
      exact ⟨c1, by rw [c2, setCd_lv], by rw [c3, setCd_k]⟩
theorem tkCo_b {p : List UInt8} {n : Nat} {hl : Bool} {m : Mb} {a : Nat} {m' : Mb} {a1 : Nat} (h : tkCo p n hl m a = .ok m' a1) (ha : a ≤ n) : a1 ≤ n ∧ m'.lv = m.lv ∧ m'.k = m.k := by
  unfold tkCo at h
  split at h
  · exact tkCf_b _ _ _ h ha
  · injection h with e1 e2
    subst e1 e2
    exact ⟨ha, rfl, rfl⟩
theorem tkDs_b {c : Cx} {p : List UInt8} {n : Nat} : ∀ (r d : Nat) (m : Mb) (s : St) (a : Nat) {y : Mb × St} {a1 : Nat}, tkDs c p n r d m s a = .ok y a1 → a ≤ n → vrS s → a1 ≤ n ∧ SameU m y.1 ∧ vrS y.2
  | 0, d, m, s, a, y, a1, h, ha, hs => by
    simp only [tkDs] at h
    injection h with e1 e2
    subst e1 e2
    exact ⟨ha, .refl m, hs⟩
  | r + 1, d, m, s, a, y, a1, h, ha, hs => by
    simp only [tkDs] at h
    cases h1 : tkDr c p n m s d a with
    | er e a2 => rw [h1] at h; cases h
    | ok x a2 =>
      obtain ⟨b1, b2, b3⟩ := tkDr_b h1 ha hs
      rw [h1, Rr.bind_ok] at h
      obtain ⟨c1, c2, c3⟩ := tkDs_b r (d + 1) x.1 x.2 a2 h b1 b3
      exact ⟨c1, b2.trans c2, c3⟩
theorem tkVc_q {c : Cx} {p : List UInt8} {n : Nat} {m : Mb} {s : St} {d k a : Nat} {y : Mb × St} {a1 : Nat} (h : tkVc c p n m s d k a = .ok y a1) : SameQ s y.2 := by
  unfold tkVc at h
  suffices hr : ∀ (m' : Mb) (a' : Nat), ((tkD p n (sXs s d) 63 a').bind fun x a2 => (tkD p n (sYs s d) 63 a2).bind fun y a3 => .ok (setVm m' d k x y, setV s d x y) a3) = .ok y a1 → SameQ s y.2 by
    split at h
    · cases hf : tkF p n a with
      | er e a2 => rw [hf] at h; cases h
      | ok b a2 => rw [hf, Rr.bind_ok, Rr.bind_ok] at h; exact hr _ _ h
    · rw [Rr.bind_ok] at h; exact hr _ _ h
  intro m' a' h
  cases h1 : tkD p n (sXs s d) 63 a' with
  | er e a2 => rw [h1] at h; cases h
  | ok x a2 =>
    rw [h1, Rr.bind_ok] at h
    cases h2 : tkD p n (sYs s d) 63 a2 with
    | er e a3 => rw [h2] at h; cases h
    | ok z a3 =>
      rw [h2, Rr.bind_ok] at h
      injection h with e1 e2
      subst e1
      show SameQ s (setV s d x z)
      unfold setV
      split <;> exact ⟨rfl, rfl, rfl, rfl⟩
theorem tkVs_q {c : Cx} {p : List UInt8} {n d : Nat} : ∀ (r k : Nat) (m : Mb) (s : St) (a : Nat) {y : Mb × St} {a1 : Nat}, tkVs c p n d r k m s a = .ok y a1 → SameQ s y.2
  | 0, k, m, s, a, y, a1, h => by
    simp only [tkVs] at h
    injection h with e1 e2
    subst e1
    exact ⟨rfl, rfl, rfl, rfl⟩
  | r + 1, k, m, s, a, y, a1, h => by
    simp only [tkVs] at h
    cases h1 : tkVc c p n m s d k a with
    | er e a2 => rw [h1] at h; cases h
    | ok x a2 =>
      rw [h1, Rr.bind_ok] at h
      exact (tkVc_q h1).trans (tkVs_q r (k + 1) x.1 x.2 a2 h)
theorem tkDs_q {c : Cx} {p : List UInt8} {n : Nat} : ∀ (r d : Nat) (m : Mb) (s : St) (a : Nat) {y : Mb × St} {a1 : Nat}, tkDs c p n r d m s a = .ok y a1 → SameQ s y.2
  | 0, d, m, s, a, y, a1, h => by
    simp only [tkDs] at h
    injection h with e1 e2
    subst e1
    exact ⟨rfl, rfl, rfl, rfl⟩
  | r + 1, d, m, s, a, y, a1, h => by
    simp only [tkDs] at h
    cases h1 : tkDr c p n m s d a with
    | er e a2 => rw [h1] at h; cases h
    | ok x a2 =>
      rw [h1, Rr.bind_ok] at h
      refine SameQ.trans ?_ (tkDs_q r (d + 1) x.1 x.2 a2 h)
      unfold tkDr at h1
      split at h1
      · exact tkVs_q _ _ _ _ _ h1
      · injection h1 with e1 e2
        subst e1
        exact ⟨rfl, rfl, rfl, rfl⟩
theorem tkPr_b {c : Cx} {p : List UInt8} {n : Nat} {m : Mb} {s : St} {a : Nat} {y : Mb × St} {a1 : Nat} (h : tkPr c p n m s a = .ok y a1) (ha : a ≤ n) (hs : vrS s) : a1 ≤ n ∧ y.1.lv = m.lv ∧ y.1.k = m.k ∧ SameQ s y.2 := by
  unfold tkPr at h
  split at h
  · split at h
    · cases hf : tkF p n a with
      | er e a2 => rw [hf] at h; cases h
      | ok b a2 =>
        have := tkF_b hf
        rw [hf, Rr.bind_ok, Rr.bind_ok] at h
        obtain ⟨c1, c2, c3⟩ := tkDs_b _ _ _ _ _ h (by omega) hs
        exact ⟨c1, c2.1, c2.2.2.2.2, tkDs_q _ _ _ _ _ h⟩
    · rw [Rr.bind_ok] at h
      obtain ⟨c1, c2, c3⟩ := tkDs_b _ _ _ _ _ h ha hs
      exact ⟨c1, c2.1, c2.2.2.2.2, tkDs_q _ _ _ _ _ h⟩
  · injection h with e1 e2
    subst e1 e2
    exact ⟨ha, rfl, rfl, rfl, rfl, rfl, rfl⟩
theorem tkKd_b {c : Cx} {p : List UInt8} {n a : Nat} {x : Mb × Bool} {a1 : Nat} (h : tkKd c p n a = .ok x a1) (ha : a ≤ n) : a1 ≤ n ∧ x.1.lv = zl384 := by
  unfold tkKd at h
  split at h
  · injection h with e1 e2
    subst e1 e2
    exact ⟨ha, rfl⟩
  · cases hu : tkU p n a with
    | er e a2 => rw [hu] at h; cases h
    | ok v a2 =>
      have hb := tkU_b hu ha
      rw [hu, Rr.bind_ok] at h
      generalize (if c.t = 2 then 3 else 7 : Nat) = last at h
      split at h
      · cases h
      · split at h
        · injection h with e1 e2; subst e1 e2; exact ⟨hb.2.2, rfl⟩
        · split at h
          · injection h with e1 e2; subst e1 e2; exact ⟨hb.2.2, rfl⟩
          · injection h with e1 e2; subst e1 e2; exact ⟨hb.2.2, rfl⟩
theorem tkLv_b {p : List UInt8} {n : Nat} : ∀ (r : Nat) (m : Mb) (s : St) (a : Nat) {y : Mb × St} {a1 : Nat}, tkLv p n r m s a = .ok y a1 → a ≤ n → r ≤ 6 → m.lv.length = 384 → a1 ≤ n ∧ y.1.lv.length = 384 ∧ y.1.k = m.k
  | 0, m, s, a, y, a1, h, ha, hr, hm => by
    simp only [tkLv] at h
    injection h with e1 e2
    subst e1 e2
    exact ⟨ha, hm, rfl⟩
  | r + 1, m, s, a, y, a1, h, ha, hr, hm => by
    have hzl : z64.length = 64 := by simp [z64]
    simp only [tkLv] at h
    split at h
    · split at h
      · cases h1 : tkBl p n 0 a with
        | er e a2 => rw [h1] at h; cases h
        | ok l a2 =>
          have hb := tkB_b _ _ _ _ h1 ha
          rw [h1, Rr.bind_ok] at h
          split at h
          · cases h
          · exact tkLv_b r (setLv m (5 - r) l) s a2 h hb.2.1 (by omega) (setLv_len _ _ _ (by omega) (by rw [hb.2.2, hzl]) hm)
      · cases h1 : tkD p n (dcS s (5 - r - 3)) 4095 a with
        | er e a2 => rw [h1] at h; cases h
        | ok d a2 =>
          have hb := tkD_b h1 ha
          rw [h1, Rr.bind_ok] at h
          cases h2 : tkBl p n 1 a2 with
          | er e a3 => rw [h2] at h; cases h
          | ok l a3 =>
            have hb2 := tkB_b _ _ _ _ h2 hb.2.2
            rw [h2, Rr.bind_ok] at h
            exact tkLv_b r (setLv m (5 - r) (l.set 0 d)) _ a3 h hb2.2.1 (by omega) (setLv_len _ _ _ (by omega) (by rw [List.length_set, hb2.2.2, hzl]) hm)
    · exact tkLv_b r m s a h ha (by omega) hm
theorem tk_out (H : Heap) (i : Nat) (p : List UInt8) (n a : Nat) (K : Heap) (x : Rr (Mb × St)) (hx : match x with | .ok _ a' => a = a' | .er _ _ => a ≤ n) : Outs H (mtkR H i p n x) (rvM x) (H.set i (rA p n a) ++ K) :=
  .inr (.inr fun hs => ⟨rvM x, H.set i (rA p n a), by
    cases x with
    | ok y a' => exact ⟨rfl, by rw [show a = a' from hx]⟩
    | er e a' => exact ⟨rfl, a, hx, rfl⟩, by simp, CutH.base (hsc_rA _ _ _ _ _ hs), .id (rvM_sc _ _)⟩)
theorem tkKd_e {c : Cx} {p : List UInt8} {n a e a1 : Nat} (h : tkKd c p n a = .er e a1) (ha : a ≤ n) : a1 ≤ n := by
  unfold tkKd at h
  split at h
  · cases h
  · cases hu : tkU p n a with
    | er e2 a2 => rw [hu] at h; have := tkU_e hu; injection h with h1 h2; omega
    | ok v a2 =>
      have hb := tkU_b hu ha
      rw [hu, Rr.bind_ok] at h
      generalize (if c.t = 2 then 3 else 7 : Nat) = last at h
      split at h
      · injection h with h1 h2; omega
      · split at h
        · cases h
        · split at h <;> cases h
theorem tG_gX (H : Heap) (i : Nat) (p : List UInt8) (n a : Nat) (X : Heap) (B4 B5 : Blk) (j : Nat) (hX : X.length = 4) (hj : j < 4) : (tG H i p n a X B4 B5)[H.length + j]? = X[j]? := by
  unfold tG
  rw [List.getElem?_append_right (by simp), List.length_set, show H.length + j - H.length = j by omega, List.getElem?_append_left (by omega)]
theorem tG_sX (H : Heap) (i : Nat) (p : List UInt8) (n a : Nat) (X : Heap) (B4 B5 B : Blk) (j : Nat) (hX : X.length = 4) (hj : j < 4) : (tG H i p n a X B4 B5).set (H.length + j) B = tG H i p n a (X.set j B) B4 B5 := by
  unfold tG
  rw [List.set_append_right _ _ (by simp), List.length_set, show H.length + j - H.length = j by omega, List.set_append_left _ _ (by omega)]
def Rk (c : Cx) (q : List UInt8) (n : Nat) : Nat → Mb → St → Bool → Nat → Rr (Mb × St)
  | 0, _, s, _, a => mtk c s q n a
  | 1, m, s, hl, a => tkRs c q n hl m s a
  | 2, m, s, hl, a => (tkCh c q n hl m s a).bind fun z a3 => (tkCo q n hl z.1 a3).bind fun m a4 => (tkLv q n 6 m z.2 a4).bind fun w a5 => .ok (w.1, aft w.2 w.1.k) a5
  | 3, m, s, hl, a => (tkCo q n hl m a).bind fun m a4 => (tkLv q n 6 m s a4).bind fun w a5 => .ok (w.1, aft w.2 w.1.k) a5
  | 4, m, s, _, a => (tkLv q n 6 m s a).bind fun w a5 => .ok (w.1, aft w.2 w.1.k) a5
  | _, m, s, _, a => .ok (m, aft s m.k) a
structure Sd (n k : Nat) (m : Mb) (s : St) (hl : Bool) (a : Nat) : Prop where
  l : m.lv.length = 384
  a : a ≤ n
  z : k = 0 → m = zMb ∧ hl = false
  v : k ≤ 1 → vrS s
  q : k ≤ 2 → 1 ≤ s.q ∧ s.q ≤ 31
  d : k ≤ 4 → dcR s
def prts : List PV := [.func 56 [] [], .func 57 [] [], .func 58 [] [], .func 59 [] [], .func 60 [] []]
def prtQ (H : Heap) (i : Nat) (p : List UInt8) (n : Nat) (X : Heap) (c : Cx) (k : Nat) (res : Rr (Mb × St)) : PV → Heap → Prop := fun v H' =>
  (∃ m s hl a, v = .int .i64 0 ∧ Sd n (k + 1) m s hl a ∧ Rk c p n (k + 1) m s hl a = res ∧ H' = tG H i p n a X (mB m) (tB s i c (H.length + 4) hl)) ∨
  (∃ e a0, res = .er e a0 ∧ v = ecd e ∧ ∃ a m s hl, a ≤ n ∧ m.lv.length = 384 ∧ H' = tG H i p n a X (mB m) (tB s i c (H.length + 4) hl))
theorem prt_of {H : Heap} {i : Nat} {p : List UInt8} {n : Nat} {X : Heap} {c : Cx} {k : Nat} {res : Rr (Mb × St)} {hl : Bool} {x : Rr (Mb × St)} (hok : ∀ y a, x = .ok y a → Sd n (k + 1) y.1 y.2 hl a ∧ Rk c p n (k + 1) y.1 y.2 hl a = res) (her : ∀ e a, x = .er e a → ∃ a0, res = .er e a0) (v : PV) (H' : Heap) (h : prtR H i p n X c hl x v H') : prtQ H i p n X c k res v H' := by
  cases x with
  | ok y a =>
    obtain ⟨h1, h2⟩ := hok y a rfl
    exact .inl ⟨y.1, y.2, hl, a, h.1, h1, h2, h.2⟩
  | er e a =>
    obtain ⟨a0, h0⟩ := her e a rfl
    obtain ⟨h1, a1, m, s, h2, h3, h4⟩ := h
    exact .inr ⟨e, a0, h0, h1, a1, m, s, hl, h2, h3, h4⟩
theorem disp (H : Heap) (i : Nat) (p : List UInt8) (n : Nat) (X : Heap) (c : Cx) (hi : i < H.length) (hX : X.length = 4) (hn : n ≤ 8 * p.length) (hp : p.length ≤ 100000000) (k : Nat) (hk : k < 5) (m : Mb) (s : St) (hl : Bool) (a : Nat) (res : Rr (Mb × St)) (hS : Sd n k m s hl a) (hR : Rk c p n k m s hl a = res) :
    ∃ f, prts[k]? = some (.func f [] []) ∧ CallEx Tryz.prog f [.ptr (H.length + 5) 0 0] (tG H i p n a X (mB m) (tB s i c (H.length + 4) hl)) (prtQ H i p n X c k res) := by
  obtain ⟨hl384, ha, hz, hv, hq, hd⟩ := hS
  have h5 : k = 0 ∨ k = 1 ∨ k = 2 ∨ k = 3 ∨ k = 4 := by omega
  rcases h5 with rfl | rfl | rfl | rfl | rfl
  · obtain ⟨rfl, rfl⟩ := hz rfl
    refine ⟨_, rfl, (tkind_ok H i p n a X c s hi hX ha hn hp).toEx.mono fun v H' h => ?_⟩
    obtain ⟨rfl, rfl⟩ := h
    simp only [Rk, mtk] at hR
    cases hk : tkKd c p n a with
    | ok x a1 =>
      rw [hk, Rr.bind_ok] at hR
      obtain ⟨b1, b2⟩ := tkKd_b hk ha
      exact .inl ⟨x.1, s, x.2, a1, rfl, ⟨by rw [b2]; exact zl384_len, b1, fun e => by omega, fun _ => hv (by omega), fun _ => hq (by omega), fun _ => hd (by omega)⟩, hR, rfl⟩
    | er e a1 =>
      rw [hk, Rr.bind_er] at hR
      refine .inr ⟨e, a1, hR.symm, rfl, a1, zMb, s, false, ?_, hl384, rfl⟩
      exact tkKd_e hk ha
  · refine ⟨_, rfl, (tpred_ok H i p n X c hl hi hX hn hp m s a hl384 (hv (by omega)) ha).mono (prt_of ?_ ?_)⟩
    · intro y a1 h
      obtain ⟨b1, b2, b3, b4⟩ := tkPr_b h ha (hv (by omega))
      simp only [Rk, tkRs, h, Rr.bind_ok] at hR
      exact ⟨⟨by rw [b2]; exact hl384, b1, fun e => by omega, fun e => by omega, fun _ => by rw [b4.1]; exact hq (by omega), fun _ => dcR_same b4 (hd (by omega))⟩, hR⟩
    · intro e a1 h
      simp only [Rk, tkRs, h, Rr.bind_er] at hR
      exact ⟨a1, hR.symm⟩
  · refine ⟨_, rfl, (tchg_ok H i p n X c hl hi hX hn hp m s a hl384 (hq (by omega)) ha).mono (prt_of ?_ ?_)⟩
    · intro y a1 h
      obtain ⟨b1, b2, b3⟩ := tkCh_b h ha
      simp only [Rk, h, Rr.bind_ok] at hR
      refine ⟨⟨by rw [b2]; exact hl384, b1, fun e => by omega, fun e => by omega, fun e => by omega, fun _ j => ?_⟩, hR⟩
      have := hd (by omega) j
      unfold dcS at this ⊢
      rw [← b3.1, ← b3.2.1, ← b3.2.2]
      exact this
    · intro e a1 h
      simp only [Rk, h, Rr.bind_er] at hR
      exact ⟨a1, hR.symm⟩
  · refine ⟨_, rfl, (tcod_ok H i p n X c hl hi hX hn hp m s a hl384 ha).mono (prt_of ?_ ?_)⟩
    · intro y a1 h
      cases hc : tkCo p n hl m a with
      | er e a2 => rw [hc] at h; cases h
      | ok m' a2 =>
        obtain ⟨b1, b2, b3⟩ := tkCo_b hc ha
        rw [hc, Rr.bind_ok] at h
        injection h with e1 e2
        subst e1 e2
        simp only [Rk, hc, Rr.bind_ok] at hR
        exact ⟨⟨by rw [b2]; exact hl384, b1, fun e => by omega, fun e => by omega, fun e => by omega, fun _ => hd (by omega)⟩, hR⟩
    · intro e a1 h
      cases hc : tkCo p n hl m a with
      | ok m' a2 => rw [hc] at h; cases h
      | er e2 a2 =>
        rw [hc] at h
        simp only [Rk, hc, Rr.bind_er] at hR
        injection h with e1 e2
        subst e1
        exact ⟨a2, hR.symm⟩
  · refine ⟨_, rfl, (tlev_ok H i p n X c hl hi hX hn hp m s a hl384 (hd (by omega)) ha).mono (prt_of ?_ ?_)⟩
    · intro y a1 h
      obtain ⟨b1, b2, b3⟩ := tkLv_b 6 m s a h ha (by omega) hl384
      simp only [Rk, h, Rr.bind_ok] at hR
      exact ⟨⟨b2, b1, fun e => by omega, fun e => by omega, fun e => by omega, fun e => by omega⟩, hR⟩
    · intro e a1 h
      simp only [Rk, h, Rr.bind_er] at hR
      exact ⟨a1, hR.symm⟩
set_option maxHeartbeats 8000000 in
set_option maxRecDepth 100000 in
theorem mtake_ok (i : Nat) (p : List UInt8) (n a : Nat) (c : Cx) (s : St) (H : Heap) (hA : H[i]? = some (rA p n a)) (ha : a ≤ n) (hn : n ≤ 8 * p.length) (hp : p.length ≤ 100000000) :
    CallEx Tryz.prog 28 [.ptr i 0 0, .agg (cxc c), .agg (stc s)] H (mtkR H i p n (mtkA c s p n a)) := by
  have hi := (List.getElem?_eq_some_iff.1 hA).1
  have hself := set_self hA
  have c1 := cxc_cell c
  have c2 := stc_cell s
  have vo := fun K => vcx_ok c K
  have so := fun K => vst_ok' s K
  have tk1 : List.take 4 (cxc c) = cxc c := rfl
  have tk2 : List.take 8 (stc s) = stc s := rfl
  have l1 : (cxc c).length = 4 := rfl
  have l2 : (stc s).length = 8 := rfl
  have hx := fun K => get_ext (K := K) hA
  have hzl := zmv_len
  have hzc := zmv_cell
  have tz : List.take 408 zmv = zmv := List.take_of_length_le (by omega)
  have dz : List.drop 408 zmv = [] := List.drop_of_length_le (by omega)
  have hrv : rA p n a = rA p n a := rfl
  have rv0 : ∀ a, (rA p n a).ver = 0 := fun _ => rfl
  generalize hres : mtkA c s p n a = res
  refine CallEx.body (F0 := [(0, .ptr i 0 0), (1, .agg (cxc c)), (2, .agg (stc s))]) Tryz.func28 rfl Tryz.ntmps28 Tryz.results28 rfl (by kernel_rfl) rfl ?_
  (repeat refine PW.seq ?_); refine PW.rg rfl fun K hK => ?_; simp (disch:=omega) only [go_sem, c1, c2, ↓zcMb]; refine hK _ _ ?_; clear hK K
  unfold mtkA at hres
  suffices hrest : PW Tryz.prog _ _ [(0, .ptr i 0 0), (4, .ptr H.length 0 0), (5, .ptr (H.length + 1) 0 0), (6, .ptr (H.length + 2) 0 0), (7, .ptr (H.length + 3) 0 0), (25, .bool (!(vcx c && vstB s)))] (H ++ [⟨51, 0, cxc c⟩, ⟨58, 0, stc s⟩, ⟨68, 0, zmv⟩, ⟨58, 0, stc zSt⟩]) _ by
    cases hv : vcx c with
    | false =>
      rw [hv] at vo hrest
      (repeat refine PW.seq ?_); refine PW.rg rfl fun K hK => ?_; simp (disch:=omega) only [go_sem, ↓reduceIte, hx, rv0, tk1, l1]
      refine VCx.call (vo _) rfl ?_; simp (disch:=omega) only [go_sem, ↓reduceIte]; refine hK _ _ ?_; clear hK K
      exact PW.at [0, 4, 5, 6, 7, 25] hrest rfl rfl
    | true =>
      rw [hv] at vo hrest
      (repeat refine PW.seq ?_); refine PW.rg rfl fun K hK => ?_; simp (disch:=omega) only [go_sem, ↓reduceIte, hx, rv0, tk1, l1]
      refine VCx.call (vo _) rfl ?_; simp (disch:=omega) only [go_sem, ↓reduceIte, tk2, l2]
      refine VCx.call (so _) rfl ?_; simp (disch:=omega) only [go_sem]; refine hK _ _ ?_; clear hK K
      exact PW.at [0, 4, 5, 6, 7, 25] hrest rfl rfl
  cases hval : (vcx c && vstB s) with
  | false =>
    rw [hval, if_neg (by decide)] at hres
    (repeat refine PW.seq ?_); refine PW.cond (t := _) rfl (fun h => ?_) (fun h => ?_)
    rotate_left
    · cases h
    (repeat refine PW.seq ?_); refine PW.rg rfl fun K hK => ?_; simp (disch:=omega) only [go_sem, ↓reduceIte, ↓zcMb, hzl, dz, stc]; refine hK _ _ ?_; clear hK K
    refine PW.ret ⟨.tup [.agg zmv, .agg (stc zSt), .int .i64 1], by simp (disch:=omega) only [go_sem, ↓reduceIte, presults, presult, List.mapM_cons, List.mapM_nil, Option.pure_def, Option.bind_eq_bind, hzl, tz, stc, zSt], ?_⟩
    rw [← hres]
    have := tk_out H i p n a [⟨51, 0, cxc c⟩, ⟨58, 0, stc s⟩, ⟨68, 0, zmv⟩, ⟨58, 0, stc zSt⟩] (.er 0 a) ha
    rw [hself] at this
    exact this
  | true =>
    rw [hval, if_pos rfl] at hres
    rw [Bool.and_eq_true] at hval
    obtain ⟨hq, hv, hd⟩ := vst_b hval.2
    (repeat refine PW.seq ?_); refine PW.cond (t := _) rfl (fun h => ?_) (fun h => ?_)
    · cases h
    refine PW.skip ?_
    (repeat refine PW.seq ?_); refine PW.rg rfl fun K hK => ?_; simp (disch:=omega) only [go_sem, ↓zcMb]; refine hK _ _ ?_; clear hK K
    (repeat refine PW.seq ?_); refine PW.rg rfl fun K hK => ?_; simp (disch:=omega) only [go_sem, ↓reduceIte, cxc, stc]; refine hK _ _ ?_; clear hK K
    obtain ⟨X, hXe⟩ : ∃ X : Heap, X = [⟨51, 0, cxc c⟩, ⟨58, 0, stc s⟩, ⟨68, 0, zmv⟩, ⟨58, 0, stc zSt⟩] := ⟨_, rfl⟩
    have hX : X.length = 4 := by rw [hXe]; rfl
    refine PW.at [0, 4, 5, 6, 7, 9, 10] (F1 := [(0, .ptr i 0 0), (4, .ptr H.length 0 0), (5, .ptr (H.length + 1) 0 0), (6, .ptr (H.length + 2) 0 0), (7, .ptr (H.length + 3) 0 0), (9, .ptr (H.length + 4) 0 0), (10, .ptr (H.length + 5) 0 0)]) (H1 := tG H i p n a X (mB zMb) (tB s i c (H.length + 4) false)) ?_ rfl (by unfold tG; rw [hself, hXe]; rfl)
    have nf : (pvc Value.nilFunc).cells = [.nl 0] := rfl
    have hS : Sd n 0 zMb s false a := ⟨zl384_len, ha, fun _ => ⟨rfl, rfl⟩, fun _ => hv, fun _ => hq, fun _ => hd⟩
    (repeat refine PW.seq ?_); refine PW.rg rfl fun K hK => ?_; simp (disch:=omega) only [go_sem, ↓reduceIte, reduceCtorEq]; refine hK _ _ ?_; clear hK K
    (repeat refine PW.seq ?_); refine PW.block (PW.loop ?_)
    suffices hl1 : ∀ (k : Nat) (m : Mb) (s : St) (hl : Bool) (a : Nat), k ≤ 5 → Sd n k m s hl a → Rk c p n k m s hl a = res → PL Tryz.prog _ _ [(6, .ptr (H.length + 2) 0 0), (7, .ptr (H.length + 3) 0 0), (9, .ptr (H.length + 4) 0 0), (10, .ptr (H.length + 5) 0 0), (32, .slice prts 5 true), (33, .int .i64 5), (34, .int .i64 (k : Int))] (tG H i p n a X (mB m) (tB s i c (H.length + 4) hl)) _ by
      exact PL.at [6, 7, 9, 10, 32, 33, 34] (hl1 0 zMb s false a (by omega) hS hres) rfl rfl
    clear hres hS hv hq hd
    have hpl : prts.length = 5 := rfl
    have gE : ∀ m s hl a, (tG H i p n a X (mB m) (tB s i c (H.length + 4) hl))[H.length + 2]? = some ⟨68, 0, zmv⟩ ∧ (tG H i p n a X (mB m) (tB s i c (H.length + 4) hl))[H.length + 3]? = some ⟨58, 0, stc zSt⟩ := fun m s hl a => by
      unfold tG
      rw [hXe]
      exact ⟨by rw [List.getElem?_append_right (by simp), List.length_set, show H.length + 2 - H.length = 2 by omega]; rfl, by rw [List.getElem?_append_right (by simp), List.length_set, show H.length + 3 - H.length = 3 by omega]; rfl⟩
    have ao := fun s k K => aft_ok s k K
    intro k m s hl a hk hS hR
    induction hd : 5 - k using Nat.strongRecOn generalizing k m s hl a with
    | _ d ih =>
      refine PL.round ?_; (repeat refine PW.seq ?_); refine PW.rg rfl fun K hK => ?_; simp (disch:=omega) only [go_sem, ↓reduceIte]; refine hK _ _ ?_; clear hK K
      (repeat refine PW.seq ?_); refine PW.cond (t := _) rfl (fun h => ?_) (fun h => ?_)
      · have h5 : k < 5 := by have := of_decide_eq_true h; omega
        obtain ⟨f, hf, hc⟩ := disp H i p n X c hi hX hn hp k h5 m s hl a res hS hR
        refine PW.skip ?_; (repeat refine PW.seq ?_); refine PW.block ?_
        (repeat refine PW.seq ?_); refine PW.rg rfl fun K hK => ?_; simp (disch:=omega) only [go_sem, hf, hpl]; refine hK _ _ ?_; clear hK K
        (repeat refine PW.seq ?_); refine PW.rg rfl fun K hK => ?_; simp (disch:=omega) only [go_sem]
        refine VCx.callR hc rfl fun v H' hQ => ?_
        rcases hQ with ⟨m', s', hl', a', rfl, hS', hR', rfl⟩ | ⟨e, a0, hre, rfl, a', m', s', hl', ha', hml', rfl⟩
        · simp (disch:=omega) only [go_sem]; refine hK _ _ ?_; clear hK K
          (repeat refine PW.seq ?_); refine PW.rg rfl fun K hK => ?_; simp (disch:=omega) only [go_sem, ↓reduceIte]; refine hK _ _ ?_; clear hK K
          (repeat refine PW.seq ?_); refine PW.cond (t := _) rfl (fun h => ?_) (fun h => ?_)
          · cases h
          refine PW.skip ?_
          (repeat refine PW.seq ?_); refine PW.rg rfl fun K hK => ?_; simp (disch:=omega) only [go_sem, ↓reduceIte]; refine hK _ _ ?_; clear hK K
          exact PL.at [6, 7, 9, 10, 32, 33, 34] (ih (5 - (k + 1)) (by omega) (k + 1) m' s' hl' a' (by omega) hS' hR' rfl) rfl rfl
        · have d0 : ((e : Int) + 1 != 0) = true := by simp; omega
          obtain ⟨ge1, ge2⟩ := gE m' s' hl' a'
          have se1 := set_self ge1
          have se2 := set_self ge2
          have lst : (stc zSt).length = 8 := rfl
          simp (disch:=omega) only [go_sem, ecd]; refine hK _ _ ?_; clear hK K
          (repeat refine PW.seq ?_); refine PW.rg rfl fun K hK => ?_; simp (disch:=omega) only [go_sem, ↓reduceIte, d0]; refine hK _ _ ?_; clear hK K
          (repeat refine PW.seq ?_); refine PW.cond (t := _) rfl (fun h => ?_) (fun h => ?_)
          rotate_left
          · cases h
          (repeat refine PW.seq ?_); refine PW.rg rfl fun K hK => ?_; simp (disch:=omega) only [go_sem, ↓reduceIte, ↓zcMb, ge1, ge2, hzl, dz, lst, se1]; refine hK _ _ ?_; clear hK K
          refine PW.at [6, 7, 8] (F1 := [(6, .ptr (H.length + 2) 0 0), (7, .ptr (H.length + 3) 0 0), (8, .int .i64 ((e : Int) + 1))]) (H1 := tG H i p n a' X (mB m') (tB s' i c (H.length + 4) hl')) ?_ rfl se2
          have tst : List.take 8 (stc zSt) = stc zSt := rfl
          refine PW.ret ⟨.tup [.agg zmv, .agg (stc zSt), .int .i64 ((e : Int) + 1)], by simp (disch:=omega) only [go_sem, ↓reduceIte, presults, presult, List.mapM_cons, List.mapM_nil, Option.pure_def, Option.bind_eq_bind, ge1, ge2, hzl, tz, lst, tst], ?_⟩
          rw [hre]
          exact tk_out H i p n a' (X ++ [mB m', tB s' i c (H.length + 4) hl']) (.er e a0) ha'
      · have h5 : k = 5 := by have := of_decide_eq_false h; omega
        subst h5
        refine PW.exit ?_
        simp only [Rk] at hR
        have ml := hS.l
        have hlm := mbc_len m ml
        have htm : List.take 408 (mbc m) = mbc m := List.take_of_length_le (by omega)
        have hcm := mbc_cell m
        have g5 := fun B4 B5 => tG_5 H i p n a X B4 B5 hX
        have g4 := fun B4 B5 => tG_4 H i p n a X B4 B5 hX
        obtain ⟨ge1, ge2⟩ := gE m s hl a
        have gX2 := fun Y B4 B5 B hY => tG_sX H i p n a Y B4 B5 B 2 hY (by omega)
        have gX3 := fun Y B4 B5 B hY => tG_sX H i p n a Y B4 B5 B 3 hY (by omega)
        have tcs : List.take 8 (tC s i c (H.length + 4) hl) = stc s := rfl
        have lst : ∀ t, (stc t).length = 8 := fun _ => rfl
        have cst : ∀ t, (stc t).all PV.cell = true := fun _ => rfl
        have ao1 := fun K => ao s m.k K
        have e3 : (tG H i p n a (X.set 2 (mB m)) (mB m) (tB s i c (H.length + 4) hl))[H.length + 3]? = some ⟨58, 0, stc zSt⟩ := by
          rw [tG_gX _ _ _ _ _ _ _ _ _ (by rw [List.length_set]; exact hX) (by omega), hXe]; rfl
        have hw2 := gX2 X (mB m) (tB s i c (H.length + 4) hl) (mB m) hX
        have hw3 := gX3 (X.set 2 (mB m)) (mB m) (tB s i c (H.length + 4) hl) ⟨58, 0, stc (aft s m.k)⟩ (by rw [List.length_set]; exact hX)
        have dst : List.drop 8 (stc zSt) = [] := rfl
        (repeat refine PW.seq ?_); refine PW.draw mix (by kernel_rfl) fun K hK => ?_; simp (disch:=omega) only [go_sem, ↓reduceIte, g5, g4, tB_v, tB_c, mB_v, mB_c, mbc_k, hlm, htm, tcs, tC_len]
        refine VCy.call (ao1 _) rfl ?_; simp (disch:=omega) only [go_sem, ↓reduceIte, ge1, hzl, dz, hlm, mB_of, hw2, e3, lst, dst, hw3]
        refine hK _ _ ?_; clear hK K
        have hX2 : ((X.set 2 (mB m)).set 3 ⟨58, 0, stc (aft s m.k)⟩).length = 4 := by rw [List.length_set, List.length_set]; exact hX
        have f2 : (tG H i p n a ((X.set 2 (mB m)).set 3 ⟨58, 0, stc (aft s m.k)⟩) (mB m) (tB s i c (H.length + 4) hl))[H.length + 2]? = some (mB m) := by
          rw [tG_gX _ _ _ _ _ _ _ _ _ hX2 (by omega), hXe]; rfl
        have f3 : (tG H i p n a ((X.set 2 (mB m)).set 3 ⟨58, 0, stc (aft s m.k)⟩) (mB m) (tB s i c (H.length + 4) hl))[H.length + 3]? = some ⟨58, 0, stc (aft s m.k)⟩ := by
          rw [tG_gX _ _ _ _ _ _ _ _ _ hX2 (by omega), hXe]; rfl
        have tst : ∀ t, List.take 8 (stc t) = stc t := fun _ => rfl
        refine PW.ret ⟨.tup [.agg (mbc m), .agg (stc (aft s m.k)), .int .i64 0], by simp (disch:=omega) only [go_sem, ↓reduceIte, presults, presult, List.mapM_cons, List.mapM_nil, Option.pure_def, Option.bind_eq_bind, f2, f3, mB_v, mB_c, hlm, htm, lst, tst], ?_⟩
        rw [← hR]
        exact tk_out H i p n a (((X.set 2 (mB m)).set 3 ⟨58, 0, stc (aft s m.k)⟩) ++ [mB m, tB s i c (H.length + 4) hl]) (.ok (m, aft s m.k) a) rfl
end Go.Proofs.YthmladiijdlgkaaGreat.Sc

namespace Go.Proofs.YthmladiijdlgkaaGreat.Sc
set_option linter.all false
set_option linter.unusedVariables false
set_option linter.unusedSimpArgs false
open Pm Ty Go.RowKit
def putL (c : Cx) : St → List Mb → List Bool × Int
  | _, [] => ([], 0)
  | s, m :: r => if (mput c s m).2.2 = 0 then ((mput c s m).1 ++ (putL c (mput c s m).2.1 r).1, (putL c (mput c s m).2.1 r).2) else ([], (mput c s m).2.2)
def okP (s : Sq) (p : Pi) (b : Bool) (row q : Int) (l : List Mb) : Bool := fitB s p b && (decide (0 ≤ row) && (decide (row < prows s p) && (decide (1 ≤ q) && (decide (q ≤ 31) && decide ((l.length : Int) = s.w.tdiv 16)))))
def slB (s : Sq) (p : Pi) (b : Bool) (q : Int) (l : List Mb) : List Bool := vbits q.toNat 5 ++ (putL (cxP s p b) (st0 q) l).1
def zUn : PV := .agg [.int .i64 0, .slice [] 0 true]
def rvP (s : Sq) (p : Pi) (b : Bool) (row q : Int) (l : List Mb) : PV :=
  if okP s p b row q l then (if (putL (cxP s p b) (st0 q) l).2 = 0 then .tup [.agg [.int .i64 (1 + row), .slice (bs (pk (slB s p b q l ++ [true]))) (pk (slB s p b q l ++ [true])).length false], .int .i64 0] else .tup [zUn, .int .i64 (putL (cxP s p b) (st0 q) l).2]) else .tup [zUn, .int .i64 1]
theorem un_sc (n : Nat) (t e : Int) (P : List UInt8) (k : Nat) (f : Bool) : Scoped n (.tup [.agg [.int .i64 t, .slice (bs P) k f], .int .i64 e]) := .tup (all_scoped' fun x hx => by
  simp only [List.mem_cons, List.not_mem_nil, or_false] at hx
  rcases hx with rfl | rfl
  · refine ag_scoped fun y hy => ?_
    simp only [List.mem_cons, List.not_mem_nil, or_false] at hy
    rcases hy with rfl | rfl
    · exact .int _ _
    · exact sl_scoped (bs_scoped _ _)
  · exact .int _ _)
theorem mput_e (c : Cx) (s : St) (m : Mb) : ((mput c s m).2.2 = 0 ∨ (mput c s m).2.2 = 1 ∨ (mput c s m).2.2 = 2) ∧ (mput c s m).1.length ≤ 30000 := by
  unfold mput
  split
  · rename_i hf
    rw [Bool.and_eq_true] at hf
    obtain ⟨_, hv, hdc⟩ := vst_b hf.2
    split
    · exact ⟨.inl rfl, (mbits_len (c := c) (fmd_of hf.1) hv hdc).1⟩
    · exact ⟨.inr (.inr rfl), by simp⟩
  · exact ⟨.inr (.inl rfl), by simp⟩
theorem prows_b {s : Sq} {p : Pi} : 0 ≤ prows s p ∧ prows s p ≤ 4 := by
  unfold prows
  split
  · rename_i hv
    have := pvalid_h hv
    split
    · have := Int.tdiv_eq_ediv_of_nonneg (a := s.h) (b := 16) (by omega)
      omega
    · have := Int.tdiv_eq_ediv_of_nonneg (a := s.h) (b := 32) (by omega)
      omega
  · omega
theorem okP_b {s : Sq} {p : Pi} {b : Bool} {row q : Int} {l : List Mb} (h : okP s p b row q l = true) : 0 ≤ row ∧ row < 4 ∧ 1 ≤ q ∧ q ≤ 31 ∧ l.length ≤ 4 ∧ l.length = (s.w.tdiv 16).toNat ∧ fitB s p b = true := by
  unfold okP at h
  simp only [Bool.and_eq_true, decide_eq_true_eq] at h
  obtain ⟨h1, h2, h3, h4, h5, h6⟩ := h
  have hv : pvalid s p = true := by
    have := h1
    unfold fitB at this
    rw [Bool.and_eq_true] at this
    exact this.1
  have hw := pvalid_h hv
  have e := Int.tdiv_eq_ediv_of_nonneg (a := s.w) (b := 16) (by omega)
  have hr := prows_b (s := s) (p := p)
  exact ⟨h2, by omega, h4, h5, by omega, by omega, h1⟩
def uH (H : Heap) (s : Sq) (p : Pi) (M : List Bool) (c : Cx) (st : St) : Heap := H ++ [⟨26, 0, sqc s⟩, ⟨28, 0, pic p⟩, ⟨34, 0, [.int .i64 0, .slice [] 0 true]⟩, wA (H.length + 4) M, wB M, ⟨51, 0, cxc c⟩, ⟨58, 0, stc st⟩]
theorem pic_sc (p : Pi) (n : Nat) : ∀ x ∈ pic p, Scoped n x := fun x hx => by
  simp only [pic, List.mem_cons, List.not_mem_nil, or_false] at hx
  rcases hx with rfl | rfl | rfl | rfl | rfl | rfl
  · exact .int _ _
  · exact .int _ _
  · exact .int _ _
  · exact .bool _
  · exact .bool _
  · exact .bool _
theorem cxc_sc (c : Cx) (n : Nat) : ∀ x ∈ cxc c, Scoped n x := fun x hx => by
  simp only [cxc, List.mem_cons, List.not_mem_nil, or_false] at hx
  rcases hx with rfl | rfl | rfl | rfl
  · exact .int _ _
  · exact .int _ _
  · exact .bool _
  · exact .bool _
theorem stc_sc (s : St) (n : Nat) : ∀ x ∈ stc s, Scoped n x := fun x hx => by
  simp only [stc, List.mem_cons, List.not_mem_nil, or_false] at hx
  rcases hx with rfl | rfl | rfl | rfl | rfl | rfl | rfl | rfl <;> exact .int _ _
theorem un0_sc (n : Nat) : ∀ x ∈ [PV.int .i64 0, .slice [] 0 true], Scoped n x := fun x hx => by
  simp only [List.mem_cons, List.not_mem_nil, or_false] at hx
  rcases hx with rfl | rfl
  · exact .int _ _
  · exact sl_scoped (fun y hy => by cases hy)
theorem hsc_uH (H : Heap) (s : Sq) (p : Pi) (M : List Bool) (c : Cx) (st : St) (h : HSc H) : HSc (uH H s p M c st) := hscW (fun b hb x hx => by
  simp only [List.mem_cons, List.not_mem_nil, or_false] at hb
  simp only [List.length_cons, List.length_nil]
  rcases hb with rfl | rfl | rfl | rfl | rfl | rfl | rfl
  · exact sqc_scoped _ _ x hx
  · exact pic_sc _ _ x hx
  · exact un0_sc _ x hx
  · simp only [wA, List.mem_cons, List.not_mem_nil, or_false] at hx
    rcases hx with rfl | rfl
    · exact .msl (by omega)
    · exact .int _ _
  · exact bs_scoped _ _ x hx
  · exact cxc_sc _ _ x hx
  · exact stc_sc _ _ x hx) h
set_option maxHeartbeats 8000000 in
set_option maxRecDepth 100000 in
theorem puts_ok (s : Sq) (p : Pi) (b : Bool) (row q : Int) (l : List Mb) (g : Bool) (H : Heap) (hs : SqOk s) (hrow : i64r row) (hqr : i64r q) (hml : ∀ m ∈ l, m.lv.length = 384) (hll : l.length ≤ 9223372036854775807) :
    CallOk Tryz.prog 4 [.agg (sqc s), .agg (pic p), .bool b, .int .i64 row, .int .i64 q, .slice (l.flatMap mbc) l.length g] H (rvP s p b row q l) H := by
  have fo := fun K => fits_ok s p b K hs
  have ro := fun K => prows_ok s p K hs
  have co := fun K => ctx_ok s p b K hs
  have so := fun v K => start_ok v K
  have h1 := sqc_cell s
  have h2 := sqc_len s hs
  have h3 := sqc_tk s hs
  have h4 := sqc_w s
  have p6 : (pic p).length = 6 := rfl
  have t6 : List.take 6 (pic p) = pic p := rfl
  have l8 : ∀ t, (stc t).length = 8 := fun _ => rfl
  have c8 : ∀ t, (stc t).all PV.cell = true := fun _ => rfl
  have tk8 : ∀ t, List.take 8 (stc t) = stc t := fun _ => rfl
  have dk8 : ∀ t, List.drop 8 (stc t) = [] := fun _ => rfl
  have c4 : ∀ c, (cxc c).all PV.cell = true := fun _ => rfl
  have l4 : ∀ c, (cxc c).length = 4 := fun _ => rfl
  have tk4 : ∀ c, List.take 4 (cxc c) = cxc c := fun _ => rfl
  have dk4 : ∀ c, List.drop 4 (cxc c) = [] := fun _ => rfl
  have hpr := prows_b (s := s) (p := p)
  generalize hres : rvP s p b row q l = res
  unfold rvP at hres
  refine CallOk.body (F0 := [(0, .agg (sqc s)), (1, .agg (pic p)), (2, .bool b), (3, .int .i64 row), (4, .int .i64 q), (5, .slice (l.flatMap mbc) l.length g)]) Tryz.func4 rfl Tryz.ntmps4 Tryz.results4 rfl (by kernel_rfl) rfl ?_
  (repeat refine PW.seq ?_); refine PW.rg rfl fun K hK => ?_; simp (disch:=omega) only [go_sem, h1, pic]; refine hK _ _ ?_; clear hK K
  suffices hrest : PW Tryz.prog _ _ [(2, .bool b), (3, .int .i64 row), (4, .int .i64 q), (5, .slice (l.flatMap mbc) l.length g), (6, .ptr H.length 0 0), (7, .ptr (H.length + 1) 0 0), (12, .ptr (H.length + 2) 0 0), (52, .bool (!okP s p b row q l))] (H ++ [⟨26, 0, sqc s⟩, ⟨28, 0, pic p⟩, ⟨34, 0, [.int .i64 0, .slice [] 0 true]⟩]) _ by
    unfold okP at hrest
    cases hf : fitB s p b with
    | false =>
      rw [hf] at fo hrest
      (repeat refine PW.seq ?_); refine PW.rg rfl fun K hK => ?_; simp (disch:=omega) only [go_sem, ↓reduceIte, h2, h3]
      refine VCx.call (fo _) rfl ?_; simp (disch:=omega) only [go_sem, ↓reduceIte, plen]; refine hK _ _ ?_; clear hK K
      exact PW.at [2, 3, 4, 5, 6, 7, 12, 52] hrest rfl rfl
    | true =>
      rw [hf] at fo hrest
      by_cases g1 : row < 0
      · have d1 : decide (row < 0) = true := decide_eq_true g1
        rw [decide_eq_false (show ¬0 ≤ row by omega)] at hrest
        (repeat refine PW.seq ?_); refine PW.rg rfl fun K hK => ?_; simp (disch:=omega) only [go_sem, ↓reduceIte, h2, h3]
        refine VCx.call (fo _) rfl ?_; simp (disch:=omega) only [go_sem, ↓reduceIte, plen, d1]; refine hK _ _ ?_; clear hK K
        exact PW.at [2, 3, 4, 5, 6, 7, 12, 52] hrest rfl rfl
      have d1 : decide (row < 0) = false := decide_eq_false g1
      rw [decide_eq_true (show 0 ≤ row by omega)] at hrest
      by_cases g2 : row < prows s p
      rotate_left
      · have d2 : decide (prows s p ≤ row) = true := decide_eq_true (by omega)
        rw [decide_eq_false g2] at hrest
        (repeat refine PW.seq ?_); refine PW.rg rfl fun K hK => ?_; simp (disch:=omega) only [go_sem, ↓reduceIte, h2, h3]
        refine VCx.call (fo _) rfl ?_; simp (disch:=omega) only [go_sem, ↓reduceIte, d1, h2, h3]
        refine VCx.call (ro _) rfl ?_; simp (disch:=omega) only [go_sem, ↓reduceIte, plen, d2]; refine hK _ _ ?_; clear hK K
        exact PW.at [2, 3, 4, 5, 6, 7, 12, 52] hrest rfl rfl
      have d2 : decide (prows s p ≤ row) = false := decide_eq_false (by omega)
      rw [decide_eq_true g2] at hrest
      by_cases g3 : q < 1
      · have d3 : decide (q < 1) = true := decide_eq_true g3
        rw [decide_eq_false (show ¬1 ≤ q by omega)] at hrest
        (repeat refine PW.seq ?_); refine PW.rg rfl fun K hK => ?_; simp (disch:=omega) only [go_sem, ↓reduceIte, h2, h3]
        refine VCx.call (fo _) rfl ?_; simp (disch:=omega) only [go_sem, ↓reduceIte, d1, h2, h3]
        refine VCx.call (ro _) rfl ?_; simp (disch:=omega) only [go_sem, ↓reduceIte, plen, d2, d3]; refine hK _ _ ?_; clear hK K
        exact PW.at [2, 3, 4, 5, 6, 7, 12, 52] hrest rfl rfl
      have d3 : decide (q < 1) = false := decide_eq_false g3
      rw [decide_eq_true (show 1 ≤ q by omega)] at hrest
      by_cases g4 : 31 < q
      · have d4 : decide (31 < q) = true := decide_eq_true g4
        rw [decide_eq_false (show ¬q ≤ 31 by omega)] at hrest
        (repeat refine PW.seq ?_); refine PW.rg rfl fun K hK => ?_; simp (disch:=omega) only [go_sem, ↓reduceIte, h2, h3]
        refine VCx.call (fo _) rfl ?_; simp (disch:=omega) only [go_sem, ↓reduceIte, d1, h2, h3]
        refine VCx.call (ro _) rfl ?_; simp (disch:=omega) only [go_sem, ↓reduceIte, plen, d2, d3, d4]; refine hK _ _ ?_; clear hK K
        exact PW.at [2, 3, 4, 5, 6, 7, 12, 52] hrest rfl rfl
      have d4 : decide (31 < q) = false := decide_eq_false g4
      rw [decide_eq_true (show q ≤ 31 by omega)] at hrest
      have hw : IntKind.i64.wrap (s.w.tdiv 16) = s.w.tdiv 16 := wq64 _ _ (by
        have hv : pvalid s p = true := by
          unfold fitB at hf
          rw [Bool.and_eq_true] at hf
          exact hf.1
        have := pvalid_h hv
        omega)
      have d5 : ((l.length : Int) != s.w.tdiv 16) = !decide ((l.length : Int) = s.w.tdiv 16) := rfl
      (repeat refine PW.seq ?_); refine PW.rg rfl fun K hK => ?_; simp (disch:=omega) only [go_sem, ↓reduceIte, h2, h3]
      refine VCx.call (fo _) rfl ?_; simp (disch:=omega) only [go_sem, ↓reduceIte, d1, h2, h3]
      refine VCx.call (ro _) rfl ?_; simp (disch:=omega) only [go_sem, ↓reduceIte, plen, d2, d3, d4, h4, hw]; refine hK _ _ ?_; clear hK K
      exact PW.at [2, 3, 4, 5, 6, 7, 12, 52] hrest rfl rfl
  cases hok : okP s p b row q l with
  | false =>
    rw [hok, if_neg (by decide)] at hres
    (repeat refine PW.seq ?_); refine PW.cond (t := _) rfl (fun h => ?_) (fun h => ?_)
    rotate_left
    · cases h
    (repeat refine PW.seq ?_); refine PW.rg rfl fun K hK => ?_; simp (disch:=omega) only [go_sem, ↓reduceIte]; refine hK _ _ ?_; clear hK K
    refine PW.ret ⟨.tup [.agg [.int .i64 0, .slice [] 0 true], .int .i64 1], by simp (disch:=omega) only [go_sem, ↓reduceIte, presults, presult, List.mapM_cons, List.mapM_nil, Option.pure_def, Option.bind_eq_bind], ?_⟩
    rw [← hres]
    exact Fin.base (.id (un_sc _ _ _ [] _ _))
  | true =>
    rw [hok, if_pos rfl] at hres
    obtain ⟨o1, o2, o3, o4, o5, o6, _⟩ := okP_b hok
    obtain ⟨Q, rfl⟩ : ∃ Q : Nat, q = Q := ⟨q.toNat, by omega⟩
    unfold slB at hres
    rw [Int.toNat_natCast] at hres
    clear fo ro hok hpr
    generalize cxP s p b = c at *
    (repeat refine PW.seq ?_); refine PW.cond (t := _) rfl (fun h => ?_) (fun h => ?_)
    · cases h
    refine PW.skip ?_
    (repeat refine PW.seq ?_); refine PW.rg rfl fun K hK => ?_; simp (disch:=omega) only [go_sem]; refine VCx.call (neww_ok _) rfl ?_; simp (disch:=omega) only [go_sem]; refine hK _ _ ?_; clear hK K
    refine PW.view (Vs.ghostH (id := H.length + 3) (j := 0) 5 1 (hp3 _ _ _ _ _ _) rfl) ?_
    refine PW.at [2, 3, 4, 5, 6, 7, 12, 14] (F1 := [(2, .bool b), (3, .int .i64 row), (4, .int .i64 (Q : Int)), (5, .slice (l.flatMap mbc) l.length g), (6, .ptr H.length 0 0), (7, .ptr (H.length + 1) 0 0), (12, .ptr (H.length + 2) 0 0), (14, .ptr (H.length + 3) 0 0)])
      (H1 := H ++ [⟨26, 0, sqc s⟩, ⟨28, 0, pic p⟩, ⟨34, 0, [.int .i64 0, .slice [] 0 true]⟩, wA (H.length + 4) [], wB []]) ?_ rfl (by simp [wA, wB, pk, bs])
    have pq := put_ok (H.length + 3) (H.length + 4) [] Q 5 (H ++ [⟨26, 0, sqc s⟩, ⟨28, 0, pic p⟩, ⟨34, 0, [.int .i64 0, .slice [] 0 true]⟩, wA (H.length + 4) [], wB []]) (hp3 _ _ _ _ _ _) (apn _ _ 4) (by omega) (by omega) (Nat.div_eq_of_lt (by show Q < 32; omega)) (by simp)
    simp only [two, aps, List.set_cons_succ, List.set_cons_zero, List.nil_append] at pq
    have hv5 : (vbits Q 5).length = 5 := vbits_len _ _
    have co1 := fun K => co K
    have so1 := fun K => so (Q : Int) K
    (repeat refine PW.seq ?_); refine PW.rg rfl fun K hK => ?_; simp (disch:=omega) only [go_sem]; refine VCx.call (pq) rfl ?_; simp (disch:=omega) only [go_sem]; refine hK _ _ ?_; clear hK K
    (repeat refine PW.seq ?_); refine PW.rg rfl fun K hK => ?_; simp (disch:=omega) only [go_sem, ↓reduceIte]; refine hK _ _ ?_; clear hK K
    (repeat refine PW.seq ?_); refine PW.cond (t := _) rfl (fun h => ?_) (fun h => ?_)
    · cases h
    refine PW.skip ?_
    (repeat refine PW.seq ?_); refine PW.rg rfl fun K hK => ?_; simp (disch:=omega) only [go_sem, ↓reduceIte, h2, h3, p6, t6]
    refine VCx.call (co1 _) rfl ?_; simp (disch:=omega) only [go_sem, ↓reduceIte]
    refine VCx.call (so1 _) rfl ?_; simp (disch:=omega) only [go_sem, ↓reduceIte, l8, l4, Nat.reduceAdd]; refine hK _ _ ?_; clear hK K
    (repeat refine PW.seq ?_); refine PW.rg rfl fun K hK => ?_; simp (disch:=omega) only [go_sem, plen]; refine hK _ _ ?_; clear hK K
    (repeat refine PW.seq ?_); refine PW.block (PW.loop ?_)
    suffices hl1 : ∀ (k : Nat) (M : List Bool) (st : St), k ≤ l.length → M.length ≤ 5 + k * 30000 → (putL c (st0 (Q : Int)) l).2 = (putL c st (l.drop k)).2 → ((putL c (st0 (Q : Int)) l).2 = 0 → vbits Q 5 ++ (putL c (st0 (Q : Int)) l).1 = M ++ (putL c st (l.drop k)).1) →
        PL Tryz.prog _ _ [(3, .int .i64 row), (12, .ptr (H.length + 2) 0 0), (14, .ptr (H.length + 3) 0 0), (16, .ptr (H.length + 5) 0 0), (17, .ptr (H.length + 6) 0 0), (69, .slice (l.flatMap mbc) l.length g), (70, .int .i64 (l.length : Int)), (71, .int .i64 (k : Int))] (uH H s p M c st) _ by
      exact PL.at [3, 12, 14, 16, 17, 69, 70, 71] (hl1 0 (vbits Q 5) (st0 (Q : Int)) (by omega) (by omega) rfl (fun _ => rfl)) rfl rfl
    clear pq co so co1 so1
    have lm := flat_len mbc 408 l (fun x hx => mbc_len x (hml x hx))
    intro k M st hk hM he1 he2
    induction hd : l.length - k using Nat.strongRecOn generalizing k M st with
    | _ d ih =>
      refine PL.round ?_; (repeat refine PW.seq ?_); refine PW.rg rfl fun K hK => ?_; simp (disch:=omega) only [go_sem, ↓reduceIte]; refine hK _ _ ?_; clear hK K
      (repeat refine PW.seq ?_); refine PW.cond (t := _) rfl (fun h => ?_) (fun h => ?_)
      · have h4k : k < l.length := by have := of_decide_eq_true h; omega
        have hat := flat_at mbc 408 l k h4k (fun x hx => mbc_len x (hml x hx))
        have hmk := hml l[k] (List.getElem_mem h4k)
        rw [List.drop_eq_getElem_cons h4k] at he1 he2
        generalize l[k] = m at *
        have m408 := mbc_len m hmk
        have mcl := mbc_cell m
        have tkm : List.take 408 (mbc m) = mbc m := List.take_of_length_le (by omega)
        have hzl := zmv_len
        have dz : List.drop 408 zmv = [] := List.drop_of_length_le (by omega)
        have po := mput_ok (H ++ [⟨26, 0, sqc s⟩, ⟨28, 0, pic p⟩, ⟨34, 0, [.int .i64 0, .slice [] 0 true]⟩, wA (H.length + 4) M, wB M, ⟨51, 0, cxc c⟩, ⟨58, 0, stc st⟩, ⟨68, 0, mbc m⟩]) (H.length + 3) (H.length + 4) M c m st (hp3 _ _ _ _ _ _) (apn _ _ 4) (by omega) (by omega) hmk
        obtain ⟨hme, hmb⟩ := mput_e c st m
        rw [putL] at he1 he2
        generalize (mput c st m).1 = B at *
        generalize (mput c st m).2.1 = u at *
        generalize (mput c st m).2.2 = e at *
        simp only [two, aps, List.set_cons_succ, List.set_cons_zero] at po
        refine PW.skip ?_; (repeat refine PW.seq ?_); refine PW.block ?_
        (repeat refine PW.seq ?_); refine PW.rg rfl fun K hK => ?_; simp (disch:=omega) only [go_sem, ↓reduceIte, uH, hat, lm, ↓zcMb, m408, hzl, dz, List.length_append, Nat.reduceAdd, apn, aps]; refine hK _ _ ?_; clear hK K
        (repeat refine PW.seq ?_); refine PW.rg rfl fun K hK => ?_; simp (disch:=omega) only [go_sem]; refine hK _ _ ?_; clear hK K
        (repeat refine PW.seq ?_); refine PW.rg rfl fun K hK => ?_; simp (disch:=omega) only [go_sem, ↓reduceIte, apn, tk4, l4, tk8, l8, m408, tkm]
        refine VCx.call (po) rfl ?_; simp (disch:=omega) only [go_sem, ↓reduceIte, apn, aps, l8, dk8]; refine hK _ _ ?_; clear hK K
        by_cases he : e = 0
        · have be : (e != 0) = false := by simp [he]
          rw [if_pos he] at he1 he2
          (repeat refine PW.seq ?_); refine PW.rg rfl fun K hK => ?_; simp (disch:=omega) only [go_sem, ↓reduceIte, be]; refine hK _ _ ?_; clear hK K
          (repeat refine PW.seq ?_); refine PW.cond (t := _) rfl (fun h => ?_) (fun h => ?_)
          · cases h
          refine PW.skip ?_
          (repeat refine PW.seq ?_); refine PW.rg rfl fun K hK => ?_; simp (disch:=omega) only [go_sem, ↓reduceIte]; refine hK _ _ ?_; clear hK K
          have hu : ∀ K : Heap, (uH H s p (M ++ B) c u).length = H.length + 7 := fun _ => by simp [uH]
          refine PL.keep [71, 3, 12, 14, 16, 17, 69, 70] ?_
          refine PL.view (Vs.trim (F1 := [(3, .int .i64 row), (12, .ptr (H.length + 2) 0 0), (14, .ptr (H.length + 3) 0 0), (16, .ptr (H.length + 5) 0 0), (17, .ptr (H.length + 6) 0 0), (69, .slice (l.flatMap mbc) l.length g), (70, .int .i64 (l.length : Int)), (71, .int .i64 ((k + 1 : Nat) : Int))]) (H1 := uH H s p (M ++ B) c u) (hsc_uH H s p (M ++ B) c u) (by simp [uH]) (List.append_assoc _ [_, _, _, _, _, _, _] [_]).symm ?_) (ih (l.length - (k + 1)) (by omega) (k + 1) (M ++ B) u (by omega) (by rw [List.length_append, Nat.add_mul]; omega) he1 (fun h0 => by rw [he2 h0, List.append_assoc]) rfl)
          rw [hu []]
          exact ⟨.id (.int _ _), .id (.ptr (by omega)), .id (.ptr (by omega)), .id (.ptr (by omega)), .id (.ptr (by omega)), .id (sl_scoped (mbl_sc l _)), .id (.int _ _), .id (.int _ _), trivial⟩
        · have be : (e != 0) = true := by simp [he]
          rw [if_neg he] at he1 he2
          (repeat refine PW.seq ?_); refine PW.rg rfl fun K hK => ?_; simp (disch:=omega) only [go_sem, ↓reduceIte, be]; refine hK _ _ ?_; clear hK K
          (repeat refine PW.seq ?_); refine PW.cond (t := _) rfl (fun h => ?_) (fun h => ?_)
          rotate_left
          · cases h
          (repeat refine PW.seq ?_); refine PW.rg rfl fun K hK => ?_; simp (disch:=omega) only [go_sem, ↓reduceIte]; refine hK _ _ ?_; clear hK K
          refine PW.ret ⟨.tup [zUn, .int .i64 e], by simp (disch:=omega) only [go_sem, ↓reduceIte, presults, presult, List.mapM_cons, List.mapM_nil, Option.pure_def, Option.bind_eq_bind, zUn], ?_⟩
          rw [← hres, he1, if_neg he]
          exact Fin.base (.id (un_sc _ _ _ [] _ _))
      · have h5 : k = l.length := by have := of_decide_eq_false h; omega
        refine PW.exit ?_
        rw [h5, List.drop_length, putL] at he1 he2
        rw [List.append_nil] at he2
        have he2 := he2 he1
        rw [he1, if_pos rfl, he2] at hres
        have hMb : M.length ≤ 300000 := by rw [h5] at hM; omega
        have pw := payload_ok (H.length + 3) (H.length + 4) M (H ++ [⟨26, 0, sqc s⟩, ⟨28, 0, pic p⟩, ⟨34, 0, [.int .i64 0, .slice [] 0 true]⟩, wA (H.length + 4) M, wB M, ⟨51, 0, cxc c⟩, ⟨58, 0, stc st⟩]) (hp3 _ _ _ _ _ _) (apn _ _ 4) (by omega)
        refine PW.eq rfl (show uH H s p M c st = H ++ [⟨26, 0, sqc s⟩, ⟨28, 0, pic p⟩, ⟨34, 0, [.int .i64 0, .slice [] 0 true]⟩, wA (H.length + 4) M, wB M, ⟨51, 0, cxc c⟩, ⟨58, 0, stc st⟩] from rfl) ?_
        have hps := un_sc H.length (1 + row) 0 (pk (M ++ [true])) (pk (M ++ [true])).length false
        generalize bs (pk (M ++ [true])) = Y at *
        generalize (pk (M ++ [true])).length = N at *
        (repeat refine PW.seq ?_); refine PW.rg rfl fun K hK => ?_; simp (disch:=omega) only [go_sem, ↓reduceIte]
        refine VCx.call (pw) rfl ?_; simp (disch:=omega) only [go_sem, ↓reduceIte]; refine hK _ _ ?_; clear hK K
        refine PW.ret ⟨.tup [.agg [.int .i64 (1 + row), .slice Y N false], .int .i64 0], by simp (disch:=omega) only [go_sem, ↓reduceIte, presults, presult, List.mapM_cons, List.mapM_nil, Option.pure_def, Option.bind_eq_bind], ?_⟩
        rw [← hres]
        exact Fin.base (.id hps)
end Go.Proofs.YthmladiijdlgkaaGreat.Sc

namespace Go.Proofs.YthmladiijdlgkaaGreat.Sc
set_option linter.all false
set_option linter.unusedVariables false
set_option linter.unusedSimpArgs false
open Pm Ty Go.RowKit
theorem fmd_c0 {c : Cx} {m : Mb} (h : fmS c m = true) (hk : m.k = 0) : cdl m = [false, false, false, false, false, false] := by
  unfold fmS at h
  rw [if_pos hk] at h
  simp only [Bool.and_eq_true, zmb] at h
  obtain ⟨_, _, hz, _⟩ := h
  simp only [zA, Bool.and_eq_true, beq_iff_eq, and_true] at hz
  simp [cdl, hz]
theorem fmd_in {c : Cx} {m : Mb} (h : fmS c m = true) (hk : m.k = 2) : fprd c m = true := by
  unfold fmS at h
  rw [if_neg (by omega), if_neg (by omega), if_pos hk] at h
  simp only [Bool.and_eq_true] at h
  by_cases ht : c.t = 1
  · rw [intS_I c m ht] at h; exact absurd h.2 (by decide)
  · rw [intS_eq c m hk ht] at h
    simp only [Bool.and_eq_true] at h
    exact h.2.1
theorem fmd_sl {c : Cx} {m : Mb} (h : fmS c m = true) (hk : m.k = 2) (d k : Nat) (hu : usd m d = true) : slm m d k = 0 ∨ slm m d k = 1 := by
  have hp := fmd_in h hk
  simp only [fprd, d0S, d1S, Bool.and_eq_true] at hp
  obtain ⟨_, _, h0, h1⟩ := hp
  unfold usd at hu
  unfold slm
  split at hu
  · rename_i hd
    rw [if_pos hd]
    unfold dirS at h0
    rw [if_pos hu] at h0
    simp only [Bool.and_eq_true, Bool.or_eq_true, decide_eq_true_eq] at h0
    split
    · exact h0.2.2.1
    · exact h0.2.2.2.1
  · rename_i hd
    rw [if_neg hd]
    unfold dirS at h1
    rw [if_pos hu] at h1
    simp only [Bool.and_eq_true, Bool.or_eq_true, decide_eq_true_eq] at h1
    split
    · exact h1.2.2.1
    · exact h1.2.2.2.1
theorem fmd_u {c : Cx} {m : Mb} (h : fmS c m = true) (hk : m.k = 2) (ht : c.t = 2) : m.ua = true ∧ m.ub = false := by
  have hp := fmd_in h hk
  simp only [fprd, useB, Bool.and_eq_true, Bool.not_eq_true', Bool.or_eq_false_iff, Bool.and_eq_false_iff, decide_eq_false_iff_not, Bool.not_eq_false'] at hp
  have := hp.1.1
  simp_all
set_option maxHeartbeats 2000000 in
theorem num_ref (c : Cx) (m : Mb) (H : Heap) (hml : m.lv.length = 384) (fm : fmS c m = true) : CallOk Tryz.prog 45 [.agg (cxc c), .agg (mbc m)] H (.int .i64 (numM c m : Int)) H := by
  have hk := (fmd_of fm).k
  have hu := fmd_u fm
  have co := fun K => cod_ref m K hml
  have fo := fun b K => flg_ref b K
  have hnu : numM c m = if m.k = 1 then (if c.t = 2 then 3 else 7) else if m.k = 2 then (if m.ua && !m.ub then 1 else if !m.ua && m.ub then 3 else 5) + (hlM m).toNat else 0 := rfl
  have k0 : (mbc m)[0]? = some (.int .i64 m.k) := rfl
  have k1 : List.take 2 (List.drop 1 (mbc m)) = [.bool m.ua, .bool m.ub] := rfl
  have t0 : (cxc c)[0]? = some (.int .i64 c.t) := rfl
  have c1 := cxc_cell c
  have c3 := mbc_cell m
  have m408 := mbc_len m hml
  have tk3 : List.take 408 (mbc m) = mbc m := List.take_of_length_le (by omega)
  have l1 : (cxc c).length = 4 := rfl
  refine CallOk.body (F0 := [(0, .agg (cxc c)), (1, .agg (mbc m))]) Tryz.func45 rfl Tryz.ntmps45 Tryz.results45 rfl (by kernel_rfl) rfl ?_
  (repeat refine PW.seq ?_); refine PW.rg rfl fun K hK => ?_; simp (disch:=omega) only [go_sem, c1, c3]; refine hK _ _ ?_; clear hK K
  (repeat refine PW.seq ?_); refine PW.rg rfl fun K hK => ?_; simp (disch:=omega) only [go_sem, ↓reduceIte, m408, tk3]
  refine VCx.call (co _) rfl ?_; simp (disch:=omega) only [go_sem]
  refine VCx.call (fo _ _) rfl ?_; simp (disch:=omega) only [go_sem]; refine hK _ _ ?_; clear hK K
  rcases hk with hk | hk | hk
  · have q2 : (m.k == 0) = true := by simp [hk]
    rw [hk, if_neg (by omega), if_neg (by omega)] at hnu
    (repeat' (first | refine PW.seq ?_ | refine PW.skip ?_ | refine PW.block ?_ | (refine PW.rg rfl fun K hK => ?_; simp (disch:=omega) only [go_sem, ↓reduceIte, k0, q2]) | (refine PW.draw mix (by kernel_rfl) fun K hK => ?_; simp (disch:=omega) only [go_sem, ↓reduceIte, reduceCtorEq, pappend, plen, k0, m408, q2]) | (refine PW.drawg mix (by kernel_rfl) fun K hK => ?_; simp (disch:=omega) only [go_sem, ↓reduceIte, reduceCtorEq, pappend, plen, k0, m408, q2]) | (refine PW.drawt [] [] mix (by kernel_rfl) fun K hK => ?_; simp (disch:=omega) only [go_sem, ↓reduceIte, reduceCtorEq, pappend, plen, k0, m408, q2]) | ((first | refine VO_cond (fun h => ?_) (fun h => ?_) | refine VOd_cond (fun h => ?_) (fun h => ?_) | refine VOg_cond (fun h => ?_) (fun h => ?_) | refine VOh_cond (fun h => ?_) (fun h => ?_) | refine VOi_cond (fun h => ?_) (fun h => ?_) | refine And.intro (fun h => ?_) (fun h => ?_)) <;> (try simp only [Bool.not_eq_true', Bool.not_eq_false', decide_eq_true_eq, decide_eq_false_iff_not] at h) <;> simp (disch:=omega) only [go_sem, ↓reduceIte, reduceCtorEq, pappend, plen, k0, m408, q2, h]) | (refine hK _ _ ?_; clear hK K) | (refine PW.cond (t := _) rfl (fun h => ?_) (fun h => ?_) <;> (try (cases h; done)) <;> (try simp only [] at h))))
    (refine PW.ret ⟨_, rfl, ?_⟩; first | refine .inl ⟨?_, rfl⟩ | refine Fin.base (.id' ?_ (.bool _)) | refine Fin.base (.id' ?_ (.int _ _)))
    rw [hnu]; rfl
  · have q2 : (m.k == 0) = false := by simp [hk]
    have q3 : (m.k == 1) = true := by simp [hk]
    rw [if_pos hk] at hnu
    by_cases ht2 : c.t = 2
    · have q4 : (c.t == 2) = true := by simp [ht2]
      rw [if_pos ht2] at hnu
      (repeat' (first | refine PW.seq ?_ | refine PW.skip ?_ | refine PW.block ?_ | (refine PW.rg rfl fun K hK => ?_; simp (disch:=omega) only [go_sem, ↓reduceIte, k0, q2, q3, q4, t0]) | (refine PW.draw mix (by kernel_rfl) fun K hK => ?_; simp (disch:=omega) only [go_sem, ↓reduceIte, reduceCtorEq, pappend, plen, k0, m408, q2, q3, q4, t0, l1]) | (refine PW.drawg mix (by kernel_rfl) fun K hK => ?_; simp (disch:=omega) only [go_sem, ↓reduceIte, reduceCtorEq, pappend, plen, k0, m408, q2, q3, q4, t0, l1]) | (refine PW.drawt [] [] mix (by kernel_rfl) fun K hK => ?_; simp (disch:=omega) only [go_sem, ↓reduceIte, reduceCtorEq, pappend, plen, k0, m408, q2, q3, q4, t0, l1]) | ((first | refine VO_cond (fun h => ?_) (fun h => ?_) | refine VOd_cond (fun h => ?_) (fun h => ?_) | refine VOg_cond (fun h => ?_) (fun h => ?_) | refine VOh_cond (fun h => ?_) (fun h => ?_) | refine VOi_cond (fun h => ?_) (fun h => ?_) | refine And.intro (fun h => ?_) (fun h => ?_)) <;> (try simp only [Bool.not_eq_true', Bool.not_eq_false', decide_eq_true_eq, decide_eq_false_iff_not] at h) <;> simp (disch:=omega) only [go_sem, ↓reduceIte, reduceCtorEq, pappend, plen, k0, m408, q2, q3, q4, t0, l1, h]) | (refine hK _ _ ?_; clear hK K) | (refine PW.cond (t := _) rfl (fun h => ?_) (fun h => ?_) <;> (try (cases h; done)) <;> (try simp only [] at h))))
      (refine PW.ret ⟨_, rfl, ?_⟩; first | refine .inl ⟨?_, rfl⟩ | refine Fin.base (.id' ?_ (.bool _)) | refine Fin.base (.id' ?_ (.int _ _)))
      rw [hnu]; rfl
    · have q4 : (c.t == 2) = false := by simp [ht2]
      rw [if_neg ht2] at hnu
      (repeat' (first | refine PW.seq ?_ | refine PW.skip ?_ | refine PW.block ?_ | (refine PW.rg rfl fun K hK => ?_; simp (disch:=omega) only [go_sem, ↓reduceIte, k0, q2, q3, q4, t0]) | (refine PW.draw mix (by kernel_rfl) fun K hK => ?_; simp (disch:=omega) only [go_sem, ↓reduceIte, reduceCtorEq, pappend, plen, k0, m408, q2, q3, q4, t0, l1]) | (refine PW.drawg mix (by kernel_rfl) fun K hK => ?_; simp (disch:=omega) only [go_sem, ↓reduceIte, reduceCtorEq, pappend, plen, k0, m408, q2, q3, q4, t0, l1]) | (refine PW.drawt [] [] mix (by kernel_rfl) fun K hK => ?_; simp (disch:=omega) only [go_sem, ↓reduceIte, reduceCtorEq, pappend, plen, k0, m408, q2, q3, q4, t0, l1]) | ((first | refine VO_cond (fun h => ?_) (fun h => ?_) | refine VOd_cond (fun h => ?_) (fun h => ?_) | refine VOg_cond (fun h => ?_) (fun h => ?_) | refine VOh_cond (fun h => ?_) (fun h => ?_) | refine VOi_cond (fun h => ?_) (fun h => ?_) | refine And.intro (fun h => ?_) (fun h => ?_)) <;> (try simp only [Bool.not_eq_true', Bool.not_eq_false', decide_eq_true_eq, decide_eq_false_iff_not] at h) <;> simp (disch:=omega) only [go_sem, ↓reduceIte, reduceCtorEq, pappend, plen, k0, m408, q2, q3, q4, t0, l1, h]) | (refine hK _ _ ?_; clear hK K) | (refine PW.cond (t := _) rfl (fun h => ?_) (fun h => ?_) <;> (try (cases h; done)) <;> (try simp only [] at h))))
      (refine PW.ret ⟨_, rfl, ?_⟩; first | refine .inl ⟨?_, rfl⟩ | refine Fin.base (.id' ?_ (.bool _)) | refine Fin.base (.id' ?_ (.int _ _)))
      rw [hnu]; rfl
  · have q2 : (m.k == 0) = false := by simp [hk]
    have q3 : (m.k == 1) = false := by simp [hk]
    rw [if_neg (by omega), if_pos hk] at hnu
    have hu := hu hk
    obtain ⟨a, ha⟩ : ∃ a, m.ua = a := ⟨_, rfl⟩
    obtain ⟨b, hb⟩ : ∃ b, m.ub = b := ⟨_, rfl⟩
    rw [ha, hb] at hnu k1 hu
    clear ha hb
    generalize hlM m = hv at *
    by_cases ht2 : c.t = 2
    · have q4 : (c.t == 2) = true := by simp [ht2]
      obtain ⟨rfl, rfl⟩ := hu ht2
      cases hv
      · (repeat' (first | refine PW.seq ?_ | refine PW.skip ?_ | refine PW.block ?_ | (refine PW.rg rfl fun K hK => ?_; simp (disch:=omega) only [go_sem, ↓reduceIte, k0, q2, q3, q4, t0]) | (refine PW.draw mix (by kernel_rfl) fun K hK => ?_; simp (disch:=omega) only [go_sem, ↓reduceIte, reduceCtorEq, pappend, plen, k0, k1, m408, q2, q3, q4, t0, l1]) | (refine PW.drawg mix (by kernel_rfl) fun K hK => ?_; simp (disch:=omega) only [go_sem, ↓reduceIte, reduceCtorEq, pappend, plen, k0, k1, m408, q2, q3, q4, t0, l1]) | (refine PW.drawt [] [] mix (by kernel_rfl) fun K hK => ?_; simp (disch:=omega) only [go_sem, ↓reduceIte, reduceCtorEq, pappend, plen, k0, k1, m408, q2, q3, q4, t0, l1]) | ((first | refine VO_cond (fun h => ?_) (fun h => ?_) | refine VOd_cond (fun h => ?_) (fun h => ?_) | refine VOg_cond (fun h => ?_) (fun h => ?_) | refine VOh_cond (fun h => ?_) (fun h => ?_) | refine VOi_cond (fun h => ?_) (fun h => ?_) | refine And.intro (fun h => ?_) (fun h => ?_)) <;> (try simp only [Bool.not_eq_true', Bool.not_eq_false', decide_eq_true_eq, decide_eq_false_iff_not] at h) <;> simp (disch:=omega) only [go_sem, ↓reduceIte, reduceCtorEq, pappend, plen, k0, k1, m408, q2, q3, q4, t0, l1, h]) | (refine hK _ _ ?_; clear hK K) | (refine PW.cond (t := _) rfl (fun h => ?_) (fun h => ?_) <;> (try (cases h; done)) <;> (try simp only [] at h))))
        (refine PW.ret ⟨_, rfl, ?_⟩; first | refine .inl ⟨?_, rfl⟩ | refine Fin.base (.id' ?_ (.bool _)) | refine Fin.base (.id' ?_ (.int _ _)))
        rw [hnu]; rfl
      · (repeat' (first | refine PW.seq ?_ | refine PW.skip ?_ | refine PW.block ?_ | (refine PW.rg rfl fun K hK => ?_; simp (disch:=omega) only [go_sem, ↓reduceIte, k0, q2, q3, q4, t0]) | (refine PW.draw mix (by kernel_rfl) fun K hK => ?_; simp (disch:=omega) only [go_sem, ↓reduceIte, reduceCtorEq, pappend, plen, k0, k1, m408, q2, q3, q4, t0, l1]) | (refine PW.drawg mix (by kernel_rfl) fun K hK => ?_; simp (disch:=omega) only [go_sem, ↓reduceIte, reduceCtorEq, pappend, plen, k0, k1, m408, q2, q3, q4, t0, l1]) | (refine PW.drawt [] [] mix (by kernel_rfl) fun K hK => ?_; simp (disch:=omega) only [go_sem, ↓reduceIte, reduceCtorEq, pappend, plen, k0, k1, m408, q2, q3, q4, t0, l1]) | ((first | refine VO_cond (fun h => ?_) (fun h => ?_) | refine VOd_cond (fun h => ?_) (fun h => ?_) | refine VOg_cond (fun h => ?_) (fun h => ?_) | refine VOh_cond (fun h => ?_) (fun h => ?_) | refine VOi_cond (fun h => ?_) (fun h => ?_) | refine And.intro (fun h => ?_) (fun h => ?_)) <;> (try simp only [Bool.not_eq_true', Bool.not_eq_false', decide_eq_true_eq, decide_eq_false_iff_not] at h) <;> simp (disch:=omega) only [go_sem, ↓reduceIte, reduceCtorEq, pappend, plen, k0, k1, m408, q2, q3, q4, t0, l1, h]) | (refine hK _ _ ?_; clear hK K) | (refine PW.cond (t := _) rfl (fun h => ?_) (fun h => ?_) <;> (try (cases h; done)) <;> (try simp only [] at h))))
        (refine PW.ret ⟨_, rfl, ?_⟩; first | refine .inl ⟨?_, rfl⟩ | refine Fin.base (.id' ?_ (.bool _)) | refine Fin.base (.id' ?_ (.int _ _)))
        rw [hnu]; rfl
    · have q4 : (c.t == 2) = false := by simp [ht2]
      clear hu
      cases a <;> cases b <;> cases hv
      all_goals ((repeat' (first | refine PW.seq ?_ | refine PW.skip ?_ | refine PW.block ?_ | (refine PW.rg rfl fun K hK => ?_; simp (disch:=omega) only [go_sem, ↓reduceIte, k0, k1, m408, q2, q3, q4, t0]) | (refine PW.draw mix (by kernel_rfl) fun K hK => ?_; simp (disch:=omega) only [go_sem, ↓reduceIte, reduceCtorEq, pappend, plen, k0, k1, m408, q2, q3, q4, t0, l1]) | (refine PW.drawg mix (by kernel_rfl) fun K hK => ?_; simp (disch:=omega) only [go_sem, ↓reduceIte, reduceCtorEq, pappend, plen, k0, k1, m408, q2, q3, q4, t0, l1]) | (refine PW.drawt [] [] mix (by kernel_rfl) fun K hK => ?_; simp (disch:=omega) only [go_sem, ↓reduceIte, reduceCtorEq, pappend, plen, k0, k1, m408, q2, q3, q4, t0, l1]) | ((first | refine VO_cond (fun h => ?_) (fun h => ?_) | refine VOd_cond (fun h => ?_) (fun h => ?_) | refine VOg_cond (fun h => ?_) (fun h => ?_) | refine VOh_cond (fun h => ?_) (fun h => ?_) | refine VOi_cond (fun h => ?_) (fun h => ?_) | refine And.intro (fun h => ?_) (fun h => ?_)) <;> (try simp only [Bool.not_eq_true', Bool.not_eq_false', decide_eq_true_eq, decide_eq_false_iff_not] at h) <;> simp (disch:=omega) only [go_sem, ↓reduceIte, reduceCtorEq, pappend, plen, k0, k1, m408, q2, q3, q4, t0, l1, h]) | (refine hK _ _ ?_; clear hK K) | (refine PW.cond (t := _) rfl (fun h => ?_) (fun h => ?_) <;> (try (cases h; done)) <;> (try simp only [] at h)))); (refine PW.ret ⟨_, rfl, ?_⟩; first | refine .inl ⟨?_, rfl⟩ | refine Fin.base (.id' ?_ (.bool _)) | refine Fin.base (.id' ?_ (.int _ _))); rw [hnu]; rfl)
end Go.Proofs.YthmladiijdlgkaaGreat.Sc

namespace Go.Proofs.YthmladiijdlgkaaGreat.Pm
set_option linter.all false
set_option linter.unusedVariables false
set_option linter.unusedSimpArgs false
open Go.RowKit
theorem PW.meet {P : Program} {E : Env} {Q : Exit → Fr → Heap → Prop} {F : Fr} {H : Heap} {x y : Code} (ks : List Nat) (F1 : Fr) (H1 : Heap) (h : PW P E x F H (thenQ (fun F' H' => kp ks F' = F1 ∧ H' = H1) Q)) (hj : PW P E y F1 H1 Q) : PW P E x F H (thenQ (fun F' H' => PW P E y F' H' Q) Q) :=
  h.mono fun e F' H' hq => by
    cases e with
    | normal => exact PW.keep ks (by rw [hq.1, hq.2]; exact hj)
    | _ => exact hq
end Go.Proofs.YthmladiijdlgkaaGreat.Pm

namespace Go.Proofs.YthmladiijdlgkaaGreat.Sc
set_option linter.all false
set_option linter.unusedVariables false
set_option linter.unusedSimpArgs false
open Pm Ty Go.RowKit


/-- What Code has in memory. -/
def rH (H : Heap) (M : List Bool) (c : Cx) (s : St) (m : Mb) (n : St) : Heap := H ++ [⟨76, 0, cxc c⟩, ⟨73, 0, stc s⟩, mB m, ⟨73, 0, stc zSt⟩, ⟨5, M.length, bs (zb M)⟩, ⟨73, 0, stc n⟩]
theorem stc_dc (s : St) (q : Nat) (h : q < 3) : (stc s)[1 + q]? = some (.int .i64 (dcS s q)) := by
  have : q = 0 ∨ q = 1 ∨ q = 2 := by omega
  rcases this with rfl | rfl | rfl <;> rfl
theorem stc_sdc (s : St) (q : Nat) (x : Int) (h : q < 3) : (stc s).set (1 + q) (.int .i64 x) = stc (setD s q x) := by
  have : q = 0 ∨ q = 1 ∨ q = 2 := by omega
  rcases this with rfl | rfl | rfl <;> rfl
section
variable (H : Heap) (M : List Bool) (c : Cx) (s : St) (m : Mb) (n : St)
theorem rH_0 : (rH H M c s m n)[H.length]? = some ⟨76, 0, cxc c⟩ := apn H _ 0
theorem rH_1 : (rH H M c s m n)[H.length + 1]? = some ⟨73, 0, stc s⟩ := apn H _ 1
theorem rH_2 : (rH H M c s m n)[H.length + 2]? = some (mB m) := apn H _ 2
theorem rH_3 : (rH H M c s m n)[H.length + 3]? = some ⟨73, 0, stc zSt⟩ := apn H _ 3
theorem rH_4 : (rH H M c s m n)[H.length + 4]? = some ⟨5, M.length, bs (zb M)⟩ := apn H _ 4
theorem rH_5 : (rH H M c s m n)[H.length + 5]? = some ⟨73, 0, stc n⟩ := apn H _ 5
theorem rH_s4 (B : List Bool) : (rH H M c s m n).set (H.length + 4) ⟨5, M.length + B.length, bs (zb M) ++ bs (zb B)⟩ = rH H (M ++ B) c s m n := by
  unfold rH; rw [aps, zb_snoc, List.length_append]; rfl
theorem rH_s5 (n' : St) : (rH H M c s m n).set (H.length + 5) ⟨73, 0, stc n'⟩ = rH H M c s m n' := by
  unfold rH; rw [aps]; rfl
theorem rH_len : (rH H M c s m n).length = H.length + 6 := by simp [rH]
end
def rG (H : Heap) (M : List Bool) : Fr := [(4, .ptr (H.length + 1) 0 0), (5, .ptr (H.length + 2) 0 0), (7, .ptr (H.length + 3) 0 0), (9, .msl (H.length + 4) M.length 0 M.length 1 true), (10, .ptr (H.length + 5) 0 0)]
def rF (H : Heap) (M : List Bool) : Fr := [(3, .ptr H.length 0 0), (4, .ptr (H.length + 1) 0 0), (5, .ptr (H.length + 2) 0 0), (7, .ptr (H.length + 3) 0 0), (9, .msl (H.length + 4) M.length 0 M.length 1 true), (10, .ptr (H.length + 5) 0 0)]
theorem bkR_pos (bl : List Int) : ∀ n p a, 0 < (bkR bl n p a).length
  | 0, p, a => by show 0 < (eg 0).length; decide
  | n + 1, p, a => by
    unfold bkR
    split
    · exact bkR_pos bl n _ _
    · have := bkR_pos bl n (p + 1) (p + 1)
      simp only [List.length_append]
      omega
/-- The reference's state on its way. -/
def r0 (m : Mb) (s : St) : St := ⟨s.q + m.dl, 0, 0, 0, 0, 0, 0, 0⟩
def r1 (m : Mb) (s : St) : St := if m.k = 2 then ⟨s.q + m.dl, 0, 0, 0, s.va, s.vb, s.vc, s.vd⟩ else r0 m s
def r2 (c : Cx) (m : Mb) (s : St) : St := if m.k = 2 then (dirsR c m 2 (r1 m s)).2 else r1 m s
def r3 (c : Cx) (m : Mb) (s : St) : St := if m.k = 1 then ⟨(r2 c m s).q, s.da, s.db, s.dc, (r2 c m s).va, (r2 c m s).vb, (r2 c m s).vc, (r2 c m s).vd⟩ else r2 c m s
def rb2 (c : Cx) (m : Mb) (s : St) : List Bool := if m.k = 2 then (if bcx c then [m.fp] else []) ++ (dirsR c m 2 (r1 m s)).1 else []
def rbits (c : Cx) (m : Mb) (s : St) : List Bool := b1M c m ++ (rb2 c m s ++ (b3M c m ++ (b4M m ++ (lvsR m 6 (r3 c m s)).1)))
def rstate (c : Cx) (m : Mb) (s : St) : St := (lvsR m 6 (r3 c m s)).2

set_option maxHeartbeats 8000000 in
set_option maxRecDepth 100000 in
theorem code0 (c : Cx) (s : St) (m : Mb) (H : Heap) (hml : m.lv.length = 384) (fm : fmS c m = true) (vs : vstB s = true) (vq : vqB (s.q + m.dl) = true) :
    CallOk Tryz.prog 21 [.agg (cxc c), .agg (stc s), .agg (mbc m)] H (.tup [.slice (bs (zb (rbits c m s))) (rbits c m s).length false, .agg (stc (rstate c m s)), .int .i64 0]) H := by
  have hF := fmd_of fm
  obtain ⟨hq, hv, hd⟩ := vst_b vs
  have hdl := hF.d
  have fo := fun K => fm_ref c m K hml
  have vo := fun K => vst_ref s K
  rw [fm] at fo
  rw [vs] at vo
  have hqq : 1 ≤ s.q + m.dl ∧ s.q + m.dl ≤ 31 := by simpa [vqB] using vq
  have c1 := cxc_cell c
  have c2 := stc_cell s
  have c3 := mbc_cell m
  have m408 := mbc_len m hml
  have tk1 : List.take 4 (cxc c) = cxc c := rfl
  have tk2 : List.take 8 (stc s) = stc s := rfl
  have tk3 : List.take 408 (mbc m) = mbc m := List.take_of_length_le (by omega)
  have l1 : (cxc c).length = 4 := rfl
  have l2 : ∀ t, (stc t).length = 8 := fun _ => rfl
  have k17 : (mbc m)[17]? = some (.int .i64 m.dl) := rfl
  have k0 : (mbc m)[0]? = some (.int .i64 m.k) := rfl
  have s0 : (stc s)[0]? = some (.int .i64 s.q) := rfl
  have t0 : (cxc c)[0]? = some (.int .i64 c.t) := rfl
  refine CallOk.body (F0 := [(0, .agg (cxc c)), (1, .agg (stc s)), (2, .agg (mbc m))]) Tryz.func21 rfl Tryz.ntmps21 Tryz.results21 rfl (by kernel_rfl) rfl ?_
  (repeat refine PW.seq ?_); refine PW.rg rfl fun K hK => ?_; simp (maxSteps := 3000000) (disch := omega) only [go_sem, c1, c2, c3]; refine hK _ _ ?_; clear hK K
  (repeat refine PW.seq ?_); refine PW.rg rfl fun K hK => ?_; simp (maxSteps := 3000000) (disch := omega) only [go_sem, ↓reduceIte, tk1, tk3, l1, m408]
  refine VCx.call (fo _) rfl ?_; simp (maxSteps := 3000000) (disch := omega) only [go_sem, ↓reduceIte, tk2, l2]
  refine VCx.call (vo _) rfl ?_; simp (maxSteps := 3000000) (disch := omega) only [go_sem]; refine hK _ _ ?_; clear hK K
  (repeat refine PW.seq ?_); refine PW.cond (t := _) rfl (fun h => ?_) (fun h => ?_)
  · cases h
  refine PW.skip ?_
  have d1 : decide (s.q + m.dl < 1) = false := decide_eq_false (by omega)
  have d2 : decide (31 < s.q + m.dl) = false := decide_eq_false (by omega)
  (repeat refine PW.seq ?_); refine PW.rg rfl fun K hK => ?_; simp (maxSteps := 3000000) (disch := omega) only [go_sem, ↓reduceIte, s0, k17, d1, d2]; refine hK _ _ ?_; clear hK K
  (repeat refine PW.seq ?_); refine PW.cond (t := _) rfl (fun h => ?_) (fun h => ?_)
  · cases h
  refine PW.skip ?_
  (repeat refine PW.seq ?_); refine PW.rg rfl fun K hK => ?_; simp (maxSteps := 3000000) (disch := omega) only [go_sem]; refine hK _ _ ?_; clear hK K
  refine PW.view (Vs.ghost 9 5 1 rfl) ?_
  (repeat refine PW.seq ?_); refine PW.rg rfl fun K hK => ?_; simp (maxSteps := 3000000) (disch := omega) only [go_sem, ↓reduceIte, s0, k17, Nat.reduceAdd]; refine hK _ _ ?_; clear hK K
  refine PW.at [3, 4, 5, 7, 9, 10] (F1 := rF H []) (H1 := rH H [] c s m (r0 m s)) ?_ rfl rfl
  have q0 := fun M n => rH_0 H M c s m n
  have q1 := fun M n => rH_1 H M c s m n
  have q2 := fun M n => rH_2 H M c s m n
  have q4 := fun M n => rH_4 H M c s m n
  have q5 := fun M n => rH_5 H M c s m n
  have qs4 := fun M n B => rH_s4 H M c s m n B
  have qs5 := fun M n n' => rH_s5 H M c s m n n'
  have hlen := mbits_len (c := c) hF hv hd
  have nr := fun K => num_ref c m K hml fm
  have co := fun K => cod_ref m K hml
  have eo := fun v hv K => eg_ref v K hv
  have so := fun v hv K => sg_ref v K hv
  have fl := fun b K => flg_ref b K
  have bo := fun K => bcx_ref c K
  have fo' := fun K => fcx_ref c K
  clear fo vo
  (repeat refine PW.seq ?_); refine PW.rg rfl fun K hK => ?_; simp (maxSteps := 3000000) (disch := omega) only [go_sem, ↓reduceIte, rF, q0, t0]; refine hK _ _ ?_; clear hK K
  refine PW.meet [3, 4, 5, 7, 9, 10] (rF H (b1M c m)) (rH H (b1M c m) c s m (r0 m s)) ?_ ?_
  · have hb1 : b1M c m = if c.t = 1 then [] else eg (numM c m) := rfl
    by_cases ht : c.t = 1
    · rw [if_pos ht] at hb1
      have b1 : (c.t != 1) = false := by simp [ht]
      rw [b1]
      (repeat refine PW.seq ?_); refine PW.cond (t := _) rfl (fun h => ?_) (fun h => ?_)
      · cases h
      refine PW.skip ?_
      rw [hb1]
      exact ⟨rfl, rfl⟩
    · rw [if_neg ht] at hb1
      have b1 : (c.t != 1) = true := by simp [ht]
      rw [b1]
      (repeat refine PW.seq ?_); refine PW.cond (t := _) rfl (fun h => ?_) (fun h => ?_)
      rotate_left
      · cases h
      have hnb := numM_b c m
      have eo1 := eo (numM c m) (by omega)
      have z0 := zb_len2 []
      have z1 := zb_len2 (eg (numM c m))
      have hpos : 0 < (eg (numM c m)).length := by simp [eg, vbits_len]; omega
      rw [hb1]
      have hql := eg_len (numM c m) (by omega)
      generalize eg (numM c m) = B at *
      (repeat refine PW.seq ?_); refine PW.rg rfl fun K hK => ?_; simp (maxSteps := 3000000) (disch := omega) only [go_sem, ↓reduceIte, pappend, q0, q2, mB, tk1, tk3, l1, m408]
      refine VCx.call (nr _) rfl ?_; simp (maxSteps := 3000000) (disch := omega) only [go_sem, pappend]
      refine VCx.call (eo1 _) rfl ?_; simp (maxSteps := 3000000) (disch := omega) only [go_sem, ↓reduceIte, pappend, q4, z0, z1, List.length_append]
      refine hK _ _ ?_; clear hK K
      refine ⟨rfl, ?_⟩
      have e := qs4 [] (r0 m s) B
      rw [List.length_nil, Nat.zero_add, List.nil_append] at e
      exact e
  have hb1l := hlen.2.1
  generalize hM1 : b1M c m = M1 at *
  (repeat refine PW.seq ?_); refine PW.rg rfl fun K hK => ?_; simp (maxSteps := 3000000) (disch := omega) only [go_sem, ↓reduceIte, rF, q2, mB, k0]; refine hK _ _ ?_; clear hK K
  refine PW.meet [3, 4, 5, 7, 9, 10] (rF H (M1 ++ rb2 c m s)) (rH H (M1 ++ rb2 c m s) c s m (r2 c m s)) ?_ ?_
  · by_cases hk : m.k = 2
    rotate_left
    · have b1 : (m.k == 2) = false := by simp [hk]
      rw [b1]
      (repeat refine PW.seq ?_); refine PW.cond (t := _) rfl (fun h => ?_) (fun h => ?_)
      · cases h
      refine PW.skip ?_
      have e1 : rb2 c m s = [] := by unfold rb2; rw [if_neg hk]
      have e2 : r2 c m s = r0 m s := by unfold r2 r1; rw [if_neg hk, if_neg hk]
      rw [e1, e2, List.append_nil]
      exact ⟨rfl, rfl⟩
    have b1 : (m.k == 2) = true := by simp [hk]
    rw [b1]
    (repeat refine PW.seq ?_); refine PW.cond (t := _) rfl (fun h => ?_) (fun h => ?_)
    rotate_left
    · cases h
    have e1 : rb2 c m s = (if bcx c then [m.fp] else []) ++ (dirsR c m 2 (r1 m s)).1 := by unfold rb2; rw [if_pos hk]
    have e2 : r2 c m s = (dirsR c m 2 (r1 m s)).2 := by unfold r2; rw [if_pos hk]
    have e3 : r1 m s = ⟨s.q + m.dl, 0, 0, 0, s.va, s.vb, s.vc, s.vd⟩ := by unfold r1; rw [if_pos hk]
    have hvr : vrS (r1 m s) := by rw [e3]; exact hv
    have hTl := dirsR_len (c := c) hF.v 2 (r1 m s) hvr
    have hsl := fun d k => fmd_sl fm hk d k
    have k3 : (mbc m)[3]? = some (.bool m.fp) := rfl
    have z1 := zb_len2 M1
    rw [e1, e2]
    generalize hS : (dirsR c m 2 (r1 m s)).2 = S
    generalize hT : M1 ++ ((if bcx c then [m.fp] else []) ++ (dirsR c m 2 (r1 m s)).1) = T
    have hTb : T.length ≤ 1000 := by
      rw [← hT]
      simp only [List.length_append]
      split <;> simp <;> omega
    (repeat refine PW.seq ?_); refine PW.rg rfl fun K hK => ?_; simp (maxSteps := 3000000) (disch := omega) only [go_sem, ↓reduceIte, q0, tk1, l1]
    refine VCx.call (bo _) rfl ?_; simp (maxSteps := 3000000) (disch := omega) only [go_sem]; refine hK _ _ ?_; clear hK K
    suffices hl1 : ∀ (d : Nat) (Md : List Bool) (n : St), d ≤ 2 → vrS n → Md ++ (dirsR c m (2 - d) n).1 = T → (dirsR c m (2 - d) n).2 = S → PL Tryz.prog _ _ [(3, .ptr H.length 0 0), (4, .ptr (H.length + 1) 0 0), (5, .ptr (H.length + 2) 0 0), (7, .ptr (H.length + 3) 0 0), (9, .msl (H.length + 4) Md.length 0 Md.length 1 true), (10, .ptr (H.length + 5) 0 0), (11, .int .i64 (d : Int))] (rH H Md c s m n) _ by
      have hV : ∀ M, (rH H M c s m (r0 m s)).set (H.length + 5) ⟨73, 0, [.int .i64 (s.q + m.dl), .int .i64 0, .int .i64 0, .int .i64 0, .int .i64 s.va, .int .i64 s.vb, .int .i64 s.vc, .int .i64 s.vd]⟩ = rH H M c s m (r1 m s) := fun M => by
        rw [e3]; exact qs5 M (r0 m s) ⟨s.q + m.dl, 0, 0, 0, s.va, s.vb, s.vc, s.vd⟩
      cases hbv : bcx c with
      | false =>
        (repeat refine PW.seq ?_); refine PW.cond (t := _) rfl (fun h => ?_) (fun h => ?_)
        · cases h
        refine PW.skip ?_
        rw [hbv, if_neg (by decide), List.nil_append] at hT
        (repeat refine PW.seq ?_); refine PW.rg rfl fun K hK => ?_; simp (maxSteps := 3000000) (disch := omega) only [go_sem, ↓reduceIte, q1, q5, stc, r0]; refine hK _ _ ?_; clear hK K
        (repeat refine PW.seq ?_); refine PW.rg rfl fun K hK => ?_; simp (maxSteps := 3000000) (disch := omega) only [go_sem]; refine hK _ _ ?_; clear hK K
        (repeat refine PW.seq ?_); refine PW.block (PW.loop ?_)
        exact PL.at [3, 4, 5, 7, 9, 10, 11] (hl1 0 M1 (r1 m s) (by omega) hvr hT hS) rfl (hV M1)
      | true =>
        (repeat refine PW.seq ?_); refine PW.cond (t := _) rfl (fun h => ?_) (fun h => ?_)
        rotate_left
        · cases h
        rw [hbv, if_pos rfl, ← List.append_assoc] at hT
        have qb : (rH H M1 c s m (r0 m s)).set (H.length + 4) ⟨5, M1.length + 1, bs (zb M1) ++ [.int .u8 (m.fp.toNat : Int)]⟩ = rH H (M1 ++ [m.fp]) c s m (r0 m s) := by
          rw [← qs4 M1 (r0 m s) [m.fp]]
          cases m.fp <;> rfl
        (repeat refine PW.seq ?_); refine PW.rg rfl fun K hK => ?_; simp (maxSteps := 3000000) (disch := omega) only [go_sem, ↓reduceIte, reduceCtorEq, q2, mB, k3]
        refine VCx.call (fl _ _) rfl ?_; simp (maxSteps := 3000000) (disch := omega) only [go_sem, ↓reduceIte, reduceCtorEq, pappend, q4, z1, List.length_append, qb]
        refine hK _ _ ?_; clear hK K
        (repeat refine PW.seq ?_); refine PW.rg rfl fun K hK => ?_; simp (maxSteps := 3000000) (disch := omega) only [go_sem, ↓reduceIte, q1, q5, stc, r0]; refine hK _ _ ?_; clear hK K
        (repeat refine PW.seq ?_); refine PW.rg rfl fun K hK => ?_; simp (maxSteps := 3000000) (disch := omega) only [go_sem]; refine hK _ _ ?_; clear hK K
        (repeat refine PW.seq ?_); refine PW.block (PW.loop ?_)
        exact PL.at [3, 4, 5, 7, 9, 10, 11] (hl1 0 (M1 ++ [m.fp]) (r1 m s) (by omega) hvr hT hS) (by simp [kp, slot]) (hV (M1 ++ [m.fp]))
    intro d Md n hd hn hMd hSd
    induction hdd : 2 - d using Nat.strongRecOn generalizing d Md n with
    | _ dd ih =>
      refine PL.round ?_; (repeat refine PW.seq ?_); refine PW.rg rfl fun K hK => ?_; simp (maxSteps := 3000000) (disch := omega) only [go_sem, ↓reduceIte]; refine hK _ _ ?_; clear hK K
      (repeat refine PW.seq ?_); refine PW.cond (t := _) rfl (fun h => ?_) (fun h => ?_)
      rotate_left
      · have h6 : d = 2 := by have := of_decide_eq_false h; omega
        subst h6
        refine PW.exit ?_
        simp only [Nat.sub_self, dirsR, List.append_nil] at hMd hSd
        subst hMd hSd
        exact ⟨rfl, rfl⟩
      have h6 : d < 2 := by have := of_decide_eq_true h; omega
      obtain ⟨n', hn'⟩ : ∃ n', 2 - d = n' + 1 := ⟨1 - d, by omega⟩
      have hd1 : 1 - n' = d := by omega
      rw [hn', dirsR, hd1] at hMd hSd
      have hnx := fun M1 s1 => ih (2 - (d + 1)) (by omega) (d + 1) M1 s1 (by omega)
      rw [show 2 - (d + 1) = n' by omega] at hnx
      clear ih
      have hus : (mbc m)[1 + d]? = some (.bool (usd m d)) := by
        have : d = 0 ∨ d = 1 := by omega
        rcases this with rfl | rfl <;> rfl
      have hdb : dirB c m n d = if usd m d then vecsR c m d (nvM m) n else ([], n) := rfl
      refine PW.skip ?_; (repeat refine PW.seq ?_); refine PW.block ?_
      (repeat refine PW.seq ?_); refine PW.rg rfl fun K hK => ?_; simp (maxSteps := 3000000) (disch := omega) only [go_sem]; refine hK _ _ ?_; clear hK K
      (repeat refine PW.seq ?_); refine PW.block (PW.loop ?_)
      have hsl' := fun k => hsl d k
      cases hu : usd m d with
      | false =>
        rw [hu, if_neg (by decide)] at hdb
        rw [hdb] at hMd hSd
        rw [hu] at hus
        refine PL.round ?_
        (repeat refine PW.seq ?_); refine PW.rg rfl fun K hK => ?_; simp (maxSteps := 3000000) (disch := omega) only [go_sem, ↓reduceIte, q2, mB, hus]; refine hK _ _ ?_; clear hK K
        (repeat refine PW.seq ?_); refine PW.cond (t := _) rfl (fun h => ?_) (fun h => ?_)
        · cases h
        refine PW.exit ?_
        (repeat refine PW.seq ?_); refine PW.rg rfl fun K hK => ?_; simp (maxSteps := 3000000) (disch := omega) only [go_sem, ↓reduceIte]; refine hK _ _ ?_; clear hK K
        exact PL.at [3, 4, 5, 7, 9, 10, 11] (hnx Md n hn hMd hSd rfl) rfl rfl
      | true =>
        rw [hu, if_pos rfl] at hdb
        rw [hdb] at hMd hSd
        rw [hu] at hus
        have hnv : nvM m = if m.fp then 2 else 1 := rfl
        have hnb := nvM_b m
        suffices hl2 : ∀ (k : Nat) (M2 : List Bool) (n2 : St), k ≤ nvM m → vrS n2 → M2 ++ ((vecsR c m d (nvM m - k) n2).1 ++ (dirsR c m n' (vecsR c m d (nvM m - k) n2).2).1) = T → (dirsR c m n' (vecsR c m d (nvM m - k) n2).2).2 = S →
            PL Tryz.prog _ _ [(3, .ptr H.length 0 0), (4, .ptr (H.length + 1) 0 0), (5, .ptr (H.length + 2) 0 0), (7, .ptr (H.length + 3) 0 0), (9, .msl (H.length + 4) M2.length 0 M2.length 1 true), (10, .ptr (H.length + 5) 0 0), (11, .int .i64 (d : Int)), (12, .int .i64 (k : Int))] (rH H M2 c s m n2) _ by
          exact PL.at [3, 4, 5, 7, 9, 10, 11, 12] (hl2 0 Md n (by omega) hn hMd hSd) rfl rfl
        clear hMd hSd hn hdb
        intro k M2 n2 hk2 hn2 hM2 hS2
        induction hkk : nvM m - k using Nat.strongRecOn generalizing k M2 n2 with
        | _ kk ih2 =>
          refine PL.round ?_
          by_cases h7 : k = nvM m
          · subst h7
            simp only [Nat.sub_self, vecsR, List.nil_append] at hM2 hS2
            have hfin := hnx M2 n2 hn2 hM2 hS2 rfl
            cases hfp : m.fp with
            | true =>
              rw [hfp, if_pos rfl] at hnv
              rw [hnv]
              (repeat refine PW.seq ?_); refine PW.rg rfl fun K hK => ?_; simp (maxSteps := 3000000) (disch := omega) only [go_sem, ↓reduceIte, q2, mB]; refine hK _ _ ?_; clear hK K
              (repeat refine PW.seq ?_); refine PW.cond (t := _) rfl (fun h => ?_) (fun h => ?_)
              · cases h
              refine PW.exit ?_
              (repeat refine PW.seq ?_); refine PW.rg rfl fun K hK => ?_; simp (maxSteps := 3000000) (disch := omega) only [go_sem, ↓reduceIte]; refine hK _ _ ?_; clear hK K
              exact PL.at [3, 4, 5, 7, 9, 10, 11] hfin rfl rfl
            | false =>
              rw [hfp, if_neg (by decide)] at hnv
              rw [hfp] at k3
              rw [hnv]
              (repeat refine PW.seq ?_); refine PW.rg rfl fun K hK => ?_; simp (maxSteps := 3000000) (disch := omega) only [go_sem, ↓reduceIte, q2, mB, hus]; refine hK _ _ ?_; clear hK K
              (repeat refine PW.seq ?_); refine PW.cond (t := _) rfl (fun h => ?_) (fun h => ?_)
              rotate_left
              · cases h
              refine PW.skip ?_; (repeat refine PW.seq ?_); refine PW.block ?_
              (repeat refine PW.seq ?_); refine PW.rg rfl fun K hK => ?_; simp (maxSteps := 3000000) (disch := omega) only [go_sem, ↓reduceIte, q2, mB, k3]; refine hK _ _ ?_; clear hK K
              (repeat refine PW.seq ?_); refine PW.cond (t := _) rfl (fun h => ?_) (fun h => ?_)
              rotate_left
              · cases h
              refine PW.exit ?_
              (repeat refine PW.seq ?_); refine PW.rg rfl fun K hK => ?_; simp (maxSteps := 3000000) (disch := omega) only [go_sem, ↓reduceIte]; refine hK _ _ ?_; clear hK K
              exact PL.at [3, 4, 5, 7, 9, 10, 11] hfin rfl rfl
          have h8 : k < nvM m := by omega
          obtain ⟨nn, hn2'⟩ : ∃ nn, nvM m - k = nn + 1 := ⟨nvM m - k - 1, by omega⟩
          have hk1 : nvM m - (nn + 1) = k := by omega
          rw [hn2', vecsR, hk1] at hM2 hS2
          have hnx2 := fun M1 s1 => ih2 (nvM m - (k + 1)) (by omega) (k + 1) M1 s1 (by omega)
          rw [show nvM m - (k + 1) = nn by omega] at hnx2
          clear ih2 hnx
          have hT2 : M2.length ≤ 1000 := by
            have : M2.length ≤ T.length := by rw [← hM2, List.length_append]; omega
            omega
          have hd01 : d = 0 ∨ d = 1 := by omega
          have hk01 : k = 0 ∨ k = 1 := by omega
          have dk : decide ((k : Int) < 2) = true := decide_eq_true (by omega)
          have kS : (mbc m)[13 + d * 2 + k]? = some (.int .i64 (slm m d k)) := by
            rcases hd01 with rfl | rfl <;> rcases hk01 with rfl | rfl <;> rfl
          have kX : (mbc m)[5 + d * 4 + k * 2]? = some (.int .i64 (vXm m d k)) := by
            rcases hd01 with rfl | rfl <;> rcases hk01 with rfl | rfl <;> rfl
          have kY : (mbc m)[5 + d * 4 + k * 2 + 1]? = some (.int .i64 (vYm m d k)) := by
            rcases hd01 with rfl | rfl <;> rcases hk01 with rfl | rfl <;> rfl
          have kV : List.take 2 (List.drop (5 + d * 4 + k * 2) (mbc m)) = [.int .i64 (vXm m d k), .int .i64 (vYm m d k)] := by
            rcases hd01 with rfl | rfl <;> rcases hk01 with rfl | rfl <;> rfl
          have nX : (stc n2)[4 + d * 2]? = some (.int .i64 (sXs n2 d)) := by
            rcases hd01 with rfl | rfl <;> rfl
          have nY : (stc n2)[4 + d * 2 + 1]? = some (.int .i64 (sYs n2 d)) := by
            rcases hd01 with rfl | rfl <;> rfl
          have hve : vec1 c m n2 d k = (if m.fp || fcx c then [decide (slm m d k = 1)] else []) ++ (sg (vXm m d k - sXs n2 d) ++ sg (vYm m d k - sYs n2 d)) := rfl
          have hX := (hF.v d k).1
          have hY := (hF.v d k).2
          have hX' := (hn2 d).1
          have hY' := (hn2 d).2
          have hs3 := vrS_set hF.v hn2 d k
          have hslk := hsl' k hu
          have z2 := zb_len2 M2
          have hb1n : (k : Int) = 1 → m.fp = true := fun e => by
            rw [hnv] at h8
            cases hfp : m.fp with
            | true => rfl
            | false => rw [hfp, if_neg (by decide)] at h8; omega
          suffices hvv : ∀ M3 : List Bool, M3 ++ (sg (vXm m d k - sXs n2 d) ++ (sg (vYm m d k - sYs n2 d) ++ ((vecsR c m d nn (setV n2 d (vXm m d k) (vYm m d k))).1 ++ (dirsR c m n' (vecsR c m d nn (setV n2 d (vXm m d k) (vYm m d k))).2).1))) = T → M3.length ≤ 1001 →
              PW Tryz.prog _ _ [(3, .ptr H.length 0 0), (4, .ptr (H.length + 1) 0 0), (5, .ptr (H.length + 2) 0 0), (7, .ptr (H.length + 3) 0 0), (9, .msl (H.length + 4) M3.length 0 M3.length 1 true), (10, .ptr (H.length + 5) 0 0), (11, .int .i64 (d : Int)), (12, .int .i64 (k : Int))] (rH H M3 c s m n2) _ by
            have hend : ∀ M3 : List Bool, M2 ++ (vec1 c m n2 d k ++ ((vecsR c m d nn (setV n2 d (vXm m d k) (vYm m d k))).1 ++ (dirsR c m n' (vecsR c m d nn (setV n2 d (vXm m d k) (vYm m d k))).2).1)) = T → M3 = M2 ++ (if m.fp || fcx c then [decide (slm m d k = 1)] else []) →
                M3 ++ (sg (vXm m d k - sXs n2 d) ++ (sg (vYm m d k - sYs n2 d) ++ ((vecsR c m d nn (setV n2 d (vXm m d k) (vYm m d k))).1 ++ (dirsR c m n' (vecsR c m d nn (setV n2 d (vXm m d k) (vYm m d k))).2).1))) = T := fun M3 h1 h2 => by
              rw [h2, ← h1, hve]
              simp only [List.append_assoc]
            have hM2' : M2 ++ (vec1 c m n2 d k ++ ((vecsR c m d nn (setV n2 d (vXm m d k) (vYm m d k))).1 ++ (dirsR c m n' (vecsR c m d nn (setV n2 d (vXm m d k) (vYm m d k))).2).1)) = T := by
              rw [← hM2]; simp only [List.append_assoc]
            have hsb : slm m d k = ((decide (slm m d k = 1)).toNat : Int) := by
              rcases hslk with e | e <;> rw [e] <;> rfl
            have q21 : (rH H M2 c s m n2).set (H.length + 4) ⟨5, M2.length + 1, bs (zb M2) ++ [.int .u8 (slm m d k)]⟩ = rH H (M2 ++ [decide (slm m d k = 1)]) c s m n2 := by
              rw [← qs4 M2 n2 [decide (slm m d k = 1)]]
              rcases hslk with e | e <;> rw [e] <;> rfl
            (repeat refine PW.seq ?_); refine PW.rg rfl fun K hK => ?_; simp (maxSteps := 3000000) (disch := omega) only [go_sem, ↓reduceIte, q2, mB, dk, hus]; refine hK _ _ ?_; clear hK K
            (repeat refine PW.seq ?_); refine PW.cond (t := _) rfl (fun h => ?_) (fun h => ?_)
            rotate_left
            · cases h
            refine PW.skip ?_; (repeat refine PW.seq ?_); refine PW.block ?_
            (repeat refine PW.seq ?_)
            refine PW.rgv [3, 4, 5, 7, 9, 10, 11, 12] 92 (.bool false) rfl ?_ ?_
            · cases hke : ((k : Int) == 1) with
              | true =>
                have hfp := hb1n (by simpa using hke)
                have k3' := k3
                rw [hfp] at k3'
                simp (maxSteps := 3000000) (disch := omega) only [go_sem, ↓reduceIte, hke, q2, mB, k3']
              | false =>
                simp (maxSteps := 3000000) (disch := omega) only [go_sem, ↓reduceIte, hke]
            (repeat refine PW.seq ?_); refine PW.cond (t := _) rfl (fun h => ?_) (fun h => ?_)
            · cases h
            refine PW.skip ?_
            (repeat refine PW.seq ?_)
            refine PW.rgv [3, 4, 5, 7, 9, 10, 11, 12] 98 (.bool (m.fp || fcx c)) rfl ?_ ?_
            · cases hfp : m.fp with
              | true =>
                have k3' := k3
                rw [hfp] at k3'
                simp (maxSteps := 3000000) (disch := omega) only [go_sem, ↓reduceIte, q2, mB, k3']
              | false =>
                have k3' := k3
                rw [hfp] at k3'
                simp (maxSteps := 3000000) (disch := omega) only [go_sem, ↓reduceIte, q2, mB, k3', q0, tk1, l1]
                refine VCx.call (fo' _) rfl ?_; simp (maxSteps := 3000000) (disch := omega) only [go_sem]
            cases hsel : (m.fp || fcx c) with
            | false =>
              (repeat refine PW.seq ?_); refine PW.cond (t := _) rfl (fun h => ?_) (fun h => ?_)
              · cases h
              refine PW.skip ?_
              exact PW.at [3, 4, 5, 7, 9, 10, 11, 12] (hvv M2 (hend M2 hM2' (by rw [hsel, if_neg (by decide), List.append_nil])) (by omega)) rfl rfl
            | true =>
              (repeat refine PW.seq ?_); refine PW.cond (t := _) rfl (fun h => ?_) (fun h => ?_)
              rotate_left
              · cases h
              have hb8 : 0 ≤ slm m d k ∧ slm m d k ≤ 255 := by omega
              (repeat refine PW.seq ?_); refine PW.rg rfl fun K hK => ?_; simp (maxSteps := 3000000) (disch := omega) only [go_sem, ↓reduceIte, reduceCtorEq, pappend, q2, mB, kS, q4, z2, List.length_append, q21]; refine hK _ _ ?_; clear hK K
              exact PW.at [3, 4, 5, 7, 9, 10, 11, 12] (hvv (M2 ++ [decide (slm m d k = 1)]) (hend _ hM2' (by rw [hsel, if_pos rfl])) (by simp; omega)) (by simp [kp, slot]) rfl
          intro M3 hM3 hT3
          have so1 := so (vXm m d k - sXs n2 d) (by omega)
          have so2 := so (vYm m d k - sYs n2 d) (by omega)
          have b1 := sg_len (vXm m d k - sXs n2 d) (by omega)
          have b2 := sg_len (vYm m d k - sYs n2 d) (by omega)
          have pp1 : 0 < (sg (vXm m d k - sXs n2 d)).length := by simp [sg, eg, vbits_len]; omega
          have pp2 : 0 < (sg (vYm m d k - sYs n2 d)).length := by simp [sg, eg, vbits_len]; omega
          have z3 := zb_len2 M3
          have zx := zb_len2 (sg (vXm m d k - sXs n2 d))
          have zy := zb_len2 (sg (vYm m d k - sYs n2 d))
          rw [← List.append_assoc, ← List.append_assoc] at hM3
          have qs4' := fun M B => qs4 M n2 B
          have hcell : List.take (4 + d * 2) (stc n2) ++ PV.int .i64 (vXm m d k) :: PV.int .i64 (vYm m d k) :: List.drop (4 + d * 2 + (1 + 1)) (stc n2) = stc (setV n2 d (vXm m d k) (vYm m d k)) := by
            rcases hd01 with rfl | rfl <;> rfl
          generalize sg (vXm m d k - sXs n2 d) = X at *
          generalize sg (vYm m d k - sYs n2 d) = Y at *
          (repeat refine PW.seq ?_); refine PW.drawi [H.length + 4] [(9, [0]), (109, [0]), (124, [0])] [] [123] mix (by kernel_rfl) (by simp <;> omega) fun K hK => ?_
          simp (maxSteps := 3000000) (disch := omega) only [go_sem, ↓reduceIte, pappend, q2, mB, kX, nX, q5]
          refine VCj.read (fun _ _ => so1 _) rfl ?_; simp (maxSteps := 3000000) (disch := omega) only [go_sem, ↓reduceIte, pappend, q4, z3, zx, List.length_append, qs4]
          refine hK _ _ ?_; clear hK K
          have z4 := zb_len2 (M3 ++ X)
          rw [List.length_append] at z4
          have q4' := q4 (M3 ++ X) n2
          rw [List.length_append] at q4'
          have qs6 := qs4 (M3 ++ X) n2 Y
          rw [List.length_append] at qs6
          (repeat refine PW.seq ?_); refine PW.drawi [H.length + 4] [(9, [0]), (125, [0]), (140, [0])] [] [139] mix (by kernel_rfl) (by simp <;> omega) fun K hK => ?_
          simp (maxSteps := 3000000) (disch := omega) only [go_sem, ↓reduceIte, pappend, q2, mB, kY, nY, q5]
          refine VCj.read (fun _ _ => so2 _) rfl ?_; simp (maxSteps := 3000000) (disch := omega) only [go_sem, ↓reduceIte, pappend, q4', z4, zy, List.length_append, qs6]
          refine hK _ _ ?_; clear hK K
          (repeat refine PW.seq ?_); refine PW.rg rfl fun K hK => ?_; simp (maxSteps := 3000000) (disch := omega) only [go_sem, ↓reduceIte, q2, mB, kV, m408, q5, l2]; refine hK _ _ ?_; clear hK K
          (repeat refine PW.seq ?_); refine PW.rg rfl fun K hK => ?_; simp (maxSteps := 3000000) (disch := omega) only [go_sem, ↓reduceIte]; refine hK _ _ ?_; clear hK K
          refine PL.at [3, 4, 5, 7, 9, 10, 11, 12] (hnx2 (M3 ++ X ++ Y) _ hs3 hM3 hS2 rfl) ?_ ?_
          · simp [kp, slot, Nat.add_assoc]
          · rw [hcell, qs5]
            first | rfl | simp only [List.append_assoc]
  have hr2l : (rb2 c m s).length ≤ 300 := by
    unfold rb2
    split
    · rename_i hk
      have e3 : r1 m s = ⟨s.q + m.dl, 0, 0, 0, s.va, s.vb, s.vc, s.vd⟩ := by unfold r1; rw [if_pos hk]
      have := dirsR_len (c := c) hF.v 2 (r1 m s) (by rw [e3]; exact hv)
      simp only [List.length_append]
      split <;> simp <;> omega
    · simp
  have hM2l : (M1 ++ rb2 c m s).length ≤ 400 := by rw [List.length_append]; omega
  have hrr : rbits c m s = M1 ++ rb2 c m s ++ (b3M c m ++ (b4M m ++ (lvsR m 6 (r3 c m s)).1)) := by
    unfold rbits; rw [hM1]; simp only [List.append_assoc]
  rw [hrr]
  clear hrr
  obtain ⟨_, _, _, hb3l, hb4l, _⟩ := hlen
  have hr3 : r3 c m s = if m.k = 1 then ⟨(r2 c m s).q, s.da, s.db, s.dc, (r2 c m s).va, (r2 c m s).vb, (r2 c m s).vc, (r2 c m s).vd⟩ else r2 c m s := rfl
  have hrs : rstate c m s = (lvsR m 6 (r3 c m s)).2 := rfl
  rw [hrs]
  clear hrs
  have hdn : dcR (r3 c m s) := by
    unfold r3
    split
    · exact fun e => hd e
    · have hz : ∀ q a b d e, dcR ⟨q, 0, 0, 0, a, b, d, e⟩ := fun q a b d e k => by unfold dcS; dsimp only; split <;> (try split) <;> omega
      unfold r2
      split
      · rename_i hk
        refine dcR_same (dirsR_same c m 2 _) ?_
        unfold r1
        rw [if_pos hk]
        exact hz _ _ _ _ _
      · rename_i hk
        unfold r1
        rw [if_neg hk]
        exact hz _ _ _ _ _
  generalize r3 c m s = n3 at *
  generalize M1 ++ rb2 c m s = M2 at *
  generalize r2 c m s = n2 at *
  have z2 := zb_len2 M2
  (repeat refine PW.seq ?_); refine PW.rg rfl fun K hK => ?_; simp (maxSteps := 3000000) (disch := omega) only [go_sem, ↓reduceIte, rF, q2, mB, tk3, m408]
  refine VCx.call (co _) rfl ?_; simp (maxSteps := 3000000) (disch := omega) only [go_sem]; refine hK _ _ ?_; clear hK K
  refine PW.meet [3, 4, 5, 7, 9, 10] (rF H (M2 ++ b3M c m)) (rH H (M2 ++ b3M c m) c s m n2) ?_ ?_
  · have hb3 : b3M c m = if hlM m then (if bcx c then [m.fd] else []) ++ sg m.dl else [] := rfl
    cases hhl : hlM m with
    | false =>
      rw [hhl, if_neg (by decide)] at hb3
      (repeat refine PW.seq ?_); refine PW.cond (t := _) rfl (fun h => ?_) (fun h => ?_)
      · cases h
      refine PW.skip ?_
      rw [hb3, List.append_nil]
      exact ⟨rfl, rfl⟩
    | true =>
      rw [hhl, if_pos rfl] at hb3
      (repeat refine PW.seq ?_); refine PW.cond (t := _) rfl (fun h => ?_) (fun h => ?_)
      rotate_left
      · cases h
      have so1 := so m.dl (by omega)
      have b1 := sg_len m.dl (by omega)
      have pp1 : 0 < (sg m.dl).length := by simp [sg, eg, vbits_len]; omega
      have zx := zb_len2 (sg m.dl)
      have k4 : (mbc m)[4]? = some (.bool m.fd) := rfl
      (repeat refine PW.seq ?_); refine PW.rg rfl fun K hK => ?_; simp (maxSteps := 3000000) (disch := omega) only [go_sem, ↓reduceIte, q0, tk1, l1]
      refine VCx.call (bo _) rfl ?_; simp (maxSteps := 3000000) (disch := omega) only [go_sem]; refine hK _ _ ?_; clear hK K
      suffices hrest : ∀ M3, M3 ++ sg m.dl = M2 ++ b3M c m → M3.length ≤ 500 → PW Tryz.prog _ _ [(3, .ptr H.length 0 0), (4, .ptr (H.length + 1) 0 0), (5, .ptr (H.length + 2) 0 0), (7, .ptr (H.length + 3) 0 0), (9, .msl (H.length + 4) M3.length 0 M3.length 1 true), (10, .ptr (H.length + 5) 0 0)] (rH H M3 c s m n2) _ by
        cases hbv : bcx c with
        | false =>
          rw [hbv, if_neg (by decide), List.nil_append] at hb3
          (repeat refine PW.seq ?_); refine PW.cond (t := _) rfl (fun h => ?_) (fun h => ?_)
          · cases h
          refine PW.skip ?_
          exact PW.at [3, 4, 5, 7, 9, 10] (hrest M2 (by rw [hb3]) (by omega)) rfl rfl
        | true =>
          rw [hbv, if_pos rfl] at hb3
          (repeat refine PW.seq ?_); refine PW.cond (t := _) rfl (fun h => ?_) (fun h => ?_)
          rotate_left
          · cases h
          have qb : (rH H M2 c s m n2).set (H.length + 4) ⟨5, M2.length + 1, bs (zb M2) ++ [.int .u8 (m.fd.toNat : Int)]⟩ = rH H (M2 ++ [m.fd]) c s m n2 := by
            rw [← qs4 M2 n2 [m.fd]]
            cases m.fd <;> rfl
          (repeat refine PW.seq ?_); refine PW.rg rfl fun K hK => ?_; simp (maxSteps := 3000000) (disch := omega) only [go_sem, ↓reduceIte, reduceCtorEq, q2, mB, k4]
          refine VCx.call (fl _ _) rfl ?_; simp (maxSteps := 3000000) (disch := omega) only [go_sem, ↓reduceIte, reduceCtorEq, pappend, q4, z2, List.length_append, qb]
          refine hK _ _ ?_; clear hK K
          exact PW.at [3, 4, 5, 7, 9, 10] (hrest (M2 ++ [m.fd]) (by rw [hb3, List.append_assoc]) (by simp; omega)) (by simp [kp, slot]) rfl
      intro M3 hM3 hl3
      have z3 := zb_len2 M3
      rw [← hM3]
      generalize sg m.dl = X at *
      (repeat refine PW.seq ?_); refine PW.rg rfl fun K hK => ?_; simp (maxSteps := 3000000) (disch := omega) only [go_sem, ↓reduceIte, pappend, q2, mB, k17]
      refine VCx.call (so1 _) rfl ?_; simp (maxSteps := 3000000) (disch := omega) only [go_sem, ↓reduceIte, pappend, q4, z3, zx, List.length_append, qs4]
      refine hK _ _ ?_; clear hK K
      exact ⟨by simp [kp, slot, rF], rfl⟩
  have hM3l : (M2 ++ b3M c m).length ≤ 450 := by rw [List.length_append]; omega
  rw [← List.append_assoc]
  generalize M2 ++ b3M c m = M3 at *
  have z3 := zb_len2 M3
  (repeat refine PW.seq ?_)
  refine PW.rgv [4, 5, 7, 9, 10] 171 (.bool (decide (m.k = 2) && hlM m)) rfl ?_ ?_
  · cases hk2 : decide (m.k = 2) with
    | true =>
      have e : (m.k == 2) = true := hk2
      simp (maxSteps := 3000000) (disch := omega) only [go_sem, ↓reduceIte, rF, q2, mB, k0, e, m408, tk3]
      refine VCx.call (co _) rfl ?_; simp (maxSteps := 3000000) (disch := omega) only [go_sem]
    | false =>
      have e : (m.k == 2) = false := hk2
      simp (maxSteps := 3000000) (disch := omega) only [go_sem, ↓reduceIte, rF, q2, mB, k0, e, m408, tk3]
  refine PW.meet [4, 5, 7, 9, 10] (rG H (M3 ++ b4M m)) (rH H (M3 ++ b4M m) c s m n2) ?_ ?_
  · have hb4 : b4M m = if decide (m.k = 2) && hlM m then cdl m else [] := rfl
    cases hc4 : (decide (m.k = 2) && hlM m) with
    | false =>
      rw [hc4, if_neg (by decide)] at hb4
      (repeat refine PW.seq ?_); refine PW.cond (t := _) rfl (fun h => ?_) (fun h => ?_)
      · cases h
      refine PW.skip ?_
      rw [hb4, List.append_nil]
      exact ⟨rfl, rfl⟩
    | true =>
      rw [hc4, if_pos rfl] at hb4
      rw [hb4]
      (repeat refine PW.seq ?_); refine PW.cond (t := _) rfl (fun h => ?_) (fun h => ?_)
      rotate_left
      · cases h
      have k18 : ∀ r, r < 6 → (mbc m)[18 + r]? = some (.bool (flagAt (cdl m) r)) := fun r hr => by
        have : r = 0 ∨ r = 1 ∨ r = 2 ∨ r = 3 ∨ r = 4 ∨ r = 5 := by omega
        rcases this with rfl | rfl | rfl | rfl | rfl | rfl <;> rfl
      have hcl' : (cdl m).length = 6 := rfl
      (repeat refine PW.seq ?_); refine PW.rg rfl fun K hK => ?_; simp (maxSteps := 3000000) (disch := omega) only [go_sem]; refine hK _ _ ?_; clear hK K
      (repeat refine PW.seq ?_); refine PW.block (PW.loop ?_)
      suffices hl1 : ∀ (r : Nat) (M4 : List Bool), r ≤ 6 → M4 = M3 ++ (cdl m).take r → PL Tryz.prog _ _ [(4, .ptr (H.length + 1) 0 0), (5, .ptr (H.length + 2) 0 0), (7, .ptr (H.length + 3) 0 0), (9, .msl (H.length + 4) M4.length 0 M4.length 1 true), (10, .ptr (H.length + 5) 0 0), (13, .int .i64 (r : Int))] (rH H M4 c s m n2) _ by
        exact PL.at [4, 5, 7, 9, 10, 13] (hl1 0 M3 (by omega) (by simp)) rfl rfl
      intro r M4 hr hM4
      have hM4l : M4.length ≤ 460 := by rw [hM4]; simp; omega
      induction hdd : 6 - r using Nat.strongRecOn generalizing r M4 with
      | _ dd ih =>
        refine PL.round ?_; (repeat refine PW.seq ?_); refine PW.rg rfl fun K hK => ?_; simp (maxSteps := 3000000) (disch := omega) only [go_sem, ↓reduceIte]; refine hK _ _ ?_; clear hK K
        (repeat refine PW.seq ?_); refine PW.cond (t := _) rfl (fun h => ?_) (fun h => ?_)
        · have h6 : r < 6 := by have := of_decide_eq_true h; omega
          have hgn := k18 r h6
          have hsn : M3 ++ (cdl m).take (r + 1) = M4 ++ [flagAt (cdl m) r] := by
            rw [hM4, List.append_assoc]
            congr 1
            unfold flagAt
            rw [List.getD_eq_getElem?_getD, List.getElem?_eq_getElem (by omega), Option.getD_some, List.take_append_getElem]
          generalize flagAt (cdl m) r = b at *
          have z4 := zb_len2 M4
          have qb : (rH H M4 c s m n2).set (H.length + 4) ⟨5, M4.length + 1, bs (zb M4) ++ [.int .u8 (b.toNat : Int)]⟩ = rH H (M4 ++ [b]) c s m n2 := by
            rw [← qs4 M4 n2 [b]]
            cases b <;> rfl
          refine PW.skip ?_; (repeat refine PW.seq ?_); refine PW.block ?_
          (repeat refine PW.seq ?_); refine PW.rg rfl fun K hK => ?_; simp (maxSteps := 3000000) (disch := omega) only [go_sem, ↓reduceIte, reduceCtorEq, q2, mB, hgn]
          refine VCx.call (fl _ _) rfl ?_; simp (maxSteps := 3000000) (disch := omega) only [go_sem, ↓reduceIte, reduceCtorEq, pappend, q4, z4, List.length_append, qb]
          refine hK _ _ ?_; clear hK K
          (repeat refine PW.seq ?_); refine PW.rg rfl fun K hK => ?_; simp (maxSteps := 3000000) (disch := omega) only [go_sem, ↓reduceIte]; refine hK _ _ ?_; clear hK K
          exact PL.at [4, 5, 7, 9, 10, 13] (ih (6 - (r + 1)) (by omega) (r + 1) (M4 ++ [b]) (by omega) hsn.symm (by rw [← hsn]; simp; omega) rfl) (by simp [kp, slot]) rfl
        · have h6 : r = 6 := by have := of_decide_eq_false h; omega
          subst h6
          rw [List.take_of_length_le (by omega)] at hM4
          subst hM4
          refine PW.exit ?_
          exact ⟨rfl, rfl⟩
  have hM4l : (M3 ++ b4M m).length ≤ 460 := by rw [List.length_append]; omega
  rw [← List.append_assoc]
  generalize M3 ++ b4M m = M4 at *
  (repeat refine PW.seq ?_); refine PW.rg rfl fun K hK => ?_; simp (maxSteps := 3000000) (disch := omega) only [go_sem, ↓reduceIte, rG, q2, mB, k0]; refine hK _ _ ?_; clear hK K
  refine PW.meet [4, 5, 7, 9, 10] (rG H M4) (rH H M4 c s m n3) ?_ ?_
  · by_cases hk : m.k = 1
    · have b1 : (m.k == 1) = true := by simp [hk]
      rw [if_pos hk] at hr3
      rw [b1]
      (repeat refine PW.seq ?_); refine PW.cond (t := _) rfl (fun h => ?_) (fun h => ?_)
      rotate_left
      · cases h
      have hD := qs5 M4 n2 ⟨n2.q, s.da, s.db, s.dc, n2.va, n2.vb, n2.vc, n2.vd⟩
      rw [← hr3] at hD
      rw [hr3] at hD ⊢
      (repeat refine PW.seq ?_); refine PW.rg rfl fun K hK => ?_; simp (maxSteps := 3000000) (disch := omega) only [go_sem, ↓reduceIte, q1, q5, stc]; refine hK _ _ ?_; clear hK K
      exact ⟨rfl, hD⟩
    · have b1 : (m.k == 1) = false := by simp [hk]
      rw [if_neg hk] at hr3
      rw [b1, hr3]
      (repeat refine PW.seq ?_); refine PW.cond (t := _) rfl (fun h => ?_) (fun h => ?_)
      · cases h
      refine PW.skip ?_
      exact ⟨rfl, rfl⟩
  have hTl := lvsR_len hF.l 6 n3 (by omega) hdn
  generalize hS : (lvsR m 6 n3).2 = S
  generalize hT : M4 ++ (lvsR m 6 n3).1 = T
  have hTb : T.length ≤ 30000 := by rw [← hT, List.length_append]; omega
  have k18 : ∀ r, r < 6 → (mbc m)[18 + r]? = some (.bool (flagAt (cdl m) r)) := fun r hr => by
    have : r = 0 ∨ r = 1 ∨ r = 2 ∨ r = 3 ∨ r = 4 ∨ r = 5 := by omega
    rcases this with rfl | rfl | rfl | rfl | rfl | rfl <;> rfl
  have hl0 := fun r hr => mbc_l0 m r hml hr
  have hbl := mbc_bl m
  have blen := fun r (hr : r < 6) => blk_len m.lv r hml hr
  have hF1 := hF.i
  have hF0 := fmd_c0 fm
  (repeat refine PW.seq ?_); refine PW.rg rfl fun K hK => ?_; simp (maxSteps := 3000000) (disch := omega) only [go_sem, rG]; refine hK _ _ ?_; clear hK K
  (repeat refine PW.seq ?_); refine PW.block (PW.loop ?_)
  suffices hl1 : ∀ (r : Nat) (M5 : List Bool) (n5 : St), r ≤ 6 → dcR n5 → M5 ++ (lvsR m (6 - r) n5).1 = T → (lvsR m (6 - r) n5).2 = S → PL Tryz.prog _ _ [(5, .ptr (H.length + 2) 0 0), (7, .ptr (H.length + 3) 0 0), (9, .msl (H.length + 4) M5.length 0 M5.length 1 true), (10, .ptr (H.length + 5) 0 0), (14, .int .i64 (r : Int))] (rH H M5 c s m n5) _ by
    exact PL.at [5, 7, 9, 10, 14] (hl1 0 M4 n3 (by omega) hdn hT hS) rfl rfl
  clear hT hS hdn hr3
  intro r M5 n5 hr hdn hT hS
  induction hdd : 6 - r using Nat.strongRecOn generalizing r M5 n5 with
  | _ dd ih =>
    refine PL.round ?_; (repeat refine PW.seq ?_); refine PW.rg rfl fun K hK => ?_; simp (maxSteps := 3000000) (disch := omega) only [go_sem, ↓reduceIte]; refine hK _ _ ?_; clear hK K
    (repeat refine PW.seq ?_); refine PW.cond (t := _) rfl (fun h => ?_) (fun h => ?_)
    rotate_left
    · have h6 : r = 6 := by have := of_decide_eq_false h; omega
      subst h6
      refine PW.exit ?_
      simp only [Nat.sub_self, lvsR, List.append_nil] at hT hS
      subst hT hS
      have z5 := zb_len2 M5
      have rs3 : ∀ X, (rH H M5 c s m n5).set (H.length + 3) X = H ++ [⟨76, 0, cxc c⟩, ⟨73, 0, stc s⟩, mB m, X, ⟨5, M5.length, bs (zb M5)⟩, ⟨73, 0, stc n5⟩] := fun X => by unfold rH; rw [aps]; rfl
      have q3 : (rH H M5 c s m n5)[H.length + 3]? = some ⟨73, 0, [.int .i64 0, .int .i64 0, .int .i64 0, .int .i64 0, .int .i64 0, .int .i64 0, .int .i64 0, .int .i64 0]⟩ := rH_3 H M5 c s m n5
      have tk8 : ∀ t, List.take 8 (stc t) = stc t := fun _ => rfl
      have c8 : ∀ t, (stc t).all PV.cell = true := fun _ => rfl
      (repeat refine PW.seq ?_); refine PW.drawt [] [] mix (by kernel_rfl) fun K hK => ?_; simp (maxSteps := 3000000) (disch := omega) only [go_sem, ↓reduceIte, q5, q3, tk8, l2, rs3]
      refine hK _ _ ?_; clear hK K
      refine PW.ret ⟨.tup [.msl (H.length + 4) M5.length 0 M5.length 1 true, .agg (stc n5), .int .i64 0], by simp (maxSteps := 3000000) (disch := omega) only [go_sem, ↓reduceIte, presults, presult, List.mapM_cons, List.mapM_nil, Option.pure_def, Option.bind_eq_bind, tk8, l2], ?_⟩
      exact Fin.base (Fz.tupC ⟨Fz.mslC (e := 5) (xs := bs (zb M5)) (by omega) (hp4 _ _ _ _ _ _ _) (by simp [z5]) (FzC.refl (bs_scoped _ _)), .id (stc_scoped _ _), .id (.int _ _), trivial⟩)
    have h6 : r < 6 := by have := of_decide_eq_true h; omega
    obtain ⟨d', hd'⟩ : ∃ d', 6 - r = d' + 1 := ⟨5 - r, by omega⟩
    have hn5 : 5 - d' = r := by omega
    have hdn6 : 6 - (r + 1) = d' := by omega
    rw [hd', lvsR, hn5] at hT hS
    have hnx := ih (6 - (r + 1)) (by omega) (r + 1)
    rw [hdn6] at hnx
    clear ih
    have hM5 : M5.length ≤ 30000 := by
      have : M5.length ≤ T.length := by rw [← hT, List.length_append]; omega
      omega
    have k18r := k18 r h6
    have hl0r := hl0 r h6
    have hblr := hbl r
    have hbl64 := blen r h6
    change (blkM m r).length = 64 at hbl64
    have hin := blkM_in hF.l h6
    have wl := win_b (hF.l (r * 64) (by omega))
    have pn := fun K => part_ref r K h6
    have hcel := is_cell (blkM m r)
    have z5 := zb_len2 M5
    refine PW.skip ?_; (repeat refine PW.seq ?_); refine PW.block ?_
    (repeat refine PW.seq ?_); refine PW.rg rfl fun K hK => ?_; simp (maxSteps := 3000000) (disch := omega) only [go_sem]; refine hK _ _ ?_; clear hK K
    (repeat refine PW.seq ?_); refine PW.rg rfl fun K hK => ?_; simp (maxSteps := 3000000) (disch := omega) only [go_sem, ↓reduceIte, q2, mB, k0]; refine hK _ _ ?_; clear hK K
    by_cases hk : m.k = 1
    · have b1 : (m.k == 1) = true := by simp [hk]
      have hfg : flagAt (cdl m) r = true := by
        rw [hF1 hk]
        have : r = 0 ∨ r = 1 ∨ r = 2 ∨ r = 3 ∨ r = 4 ∨ r = 5 := by omega
        rcases this with rfl | rfl | rfl | rfl | rfl | rfl <;> rfl
      rw [hfg] at k18r
      rw [if_pos hfg, if_neg (by omega)] at hT hS
      rw [b1]
      (repeat refine PW.seq ?_); refine PW.cond (t := _) rfl (fun h => ?_) (fun h => ?_)
      rotate_left
      · cases h
      (repeat refine PW.seq ?_); refine PW.rg rfl fun K hK => ?_; simp (maxSteps := 3000000) (disch := omega) only [go_sem]; refine hK _ _ ?_; clear hK K
      have dcb := hdn (r - 3)
      have hq3 : r - 3 < 3 := by omega
      have ndc := stc_dc n5 (r - 3) hq3
      have nsd := fun x => stc_sdc n5 (r - 3) x hq3
      have hdn' := dcR_set hdn (r - 3) wl
      have so1 := so (intAt m.lv (r * 64) - dcS n5 (r - 3)) (by omega)
      have g1 := sg_len (intAt m.lv (r * 64) - dcS n5 (r - 3)) (by omega)
      have pp1 : 0 < (sg (intAt m.lv (r * 64) - dcS n5 (r - 3))).length := by simp [sg, eg, vbits_len]; omega
      have zx := zb_len2 (sg (intAt m.lv (r * 64) - dcS n5 (r - 3)))
      have co1 := fun K => bcode_ref (blkM m r) 1 K (by omega) hbl64 hin
      have zy := zb_len2 (bkc (blkM m r) 1)
      have bl1 := bkc_len (blkM m r) 1 hin (by omega)
      rw [← List.append_assoc, ← List.append_assoc] at hT
      generalize hx : intAt m.lv (r * 64) = x at *
      generalize hX : sg (x - dcS n5 (r - 3)) = X at *
      generalize hY : bkc (blkM m r) 1 = Y at *
      have hYp : 0 < Y.length := by
        rw [← hY]; unfold bkc
        exact bkR_pos _ _ _ _
      (repeat refine PW.seq ?_); refine PW.drawi [H.length + 4] [(9, [0]), (197, [0]), (210, [0])] [] [204, 209] mix (by kernel_rfl) (by simp <;> omega) fun K hK => ?_
      simp (maxSteps := 3000000) (disch := omega) only [go_sem, ↓reduceIte, q2, mB, hl0r, q5]
      refine VCj.read (fun _ _ => pn _) rfl ?_; simp (maxSteps := 3000000) (disch := omega) only [go_sem, ↓reduceIte, pappend, q5, ndc]
      refine VCj.read (fun _ _ => so1 _) rfl ?_; simp (maxSteps := 3000000) (disch := omega) only [go_sem, ↓reduceIte, pappend, q4, z5, zx, List.length_append, qs4]
      refine hK _ _ ?_; clear hK K
      (repeat refine PW.seq ?_); refine PW.drawi [H.length + 5] [(10, [0]), (218, [0]), (219, [0])] [] [212] mix (by kernel_rfl) (by simp <;> omega) fun K hK => ?_
      simp (maxSteps := 3000000) (disch := omega) only [go_sem, ↓reduceIte]
      refine VCj.read (fun _ _ => pn _) rfl ?_; simp (maxSteps := 3000000) (disch := omega) only [go_sem, ↓reduceIte, q2, mB, hl0r, q5, l2, nsd, qs5]
      refine hK _ _ ?_; clear hK K
      (repeat refine PW.seq ?_); refine PW.rg rfl fun K hK => ?_; simp (maxSteps := 3000000) (disch := omega) only [go_sem, ↓reduceIte, q2, mB, k18r]; refine hK _ _ ?_; clear hK K
      (repeat refine PW.seq ?_); refine PW.cond (t := _) rfl (fun h => ?_) (fun h => ?_)
      rotate_left
      · cases h
      have z6 := zb_len2 (M5 ++ X)
      rw [List.length_append] at z6
      have q4' := q4 (M5 ++ X) (setD n5 (r - 3) x)
      rw [List.length_append] at q4'
      have qs6 := qs4 (M5 ++ X) (setD n5 (r - 3) x) Y
      rw [List.length_append] at qs6
      (repeat refine PW.seq ?_); refine PW.rg rfl fun K hK => ?_; simp (maxSteps := 3000000) (disch := omega) only [go_sem, ↓reduceIte, q2, mB, hblr, m408]
      refine VCx.call (co1 _) rfl ?_; simp (maxSteps := 3000000) (disch := omega) only [go_sem]; refine hK _ _ ?_; clear hK K
      (repeat refine PW.seq ?_); refine PW.rg rfl fun K hK => ?_; simp (maxSteps := 3000000) (disch := omega) only [go_sem, ↓reduceIte, pappend, q4', z6, zy, List.length_append, qs6]; refine hK _ _ ?_; clear hK K
      (repeat refine PW.seq ?_); refine PW.rg rfl fun K hK => ?_; simp (maxSteps := 3000000) (disch := omega) only [go_sem, ↓reduceIte]; refine hK _ _ ?_; clear hK K
      refine PL.at [5, 7, 9, 10, 14] (hnx (M5 ++ X ++ Y) _ (by omega) hdn' hT hS rfl) ?_ ?_
      · simp [kp, slot, Nat.add_assoc]
      · first | rfl | simp only [List.append_assoc]
    · have b1 : (m.k == 1) = false := by simp [hk]
      rw [b1]
      (repeat refine PW.seq ?_); refine PW.cond (t := _) rfl (fun h => ?_) (fun h => ?_)
      · cases h
      refine PW.skip ?_
      (repeat refine PW.seq ?_); refine PW.rg rfl fun K hK => ?_; simp (maxSteps := 3000000) (disch := omega) only [go_sem, ↓reduceIte, q2, mB, k18r]; refine hK _ _ ?_; clear hK K
      cases hfg : flagAt (cdl m) r with
      | false =>
        rw [hfg, if_neg (by decide)] at hT hS
        (repeat refine PW.seq ?_); refine PW.cond (t := _) rfl (fun h => ?_) (fun h => ?_)
        · cases h
        refine PW.skip ?_
        (repeat refine PW.seq ?_); refine PW.rg rfl fun K hK => ?_; simp (maxSteps := 3000000) (disch := omega) only [go_sem, ↓reduceIte]; refine hK _ _ ?_; clear hK K
        exact PL.at [5, 7, 9, 10, 14] (hnx M5 n5 (by omega) hdn hT hS rfl) rfl rfl
      | true =>
        have hk2 : m.k = 2 := by
          rcases hF.k with h0 | h0 | h0
          · rw [hF0 h0] at hfg
            have : r = 0 ∨ r = 1 ∨ r = 2 ∨ r = 3 ∨ r = 4 ∨ r = 5 := by omega
            rcases this with rfl | rfl | rfl | rfl | rfl | rfl <;> cases hfg
          · exact absurd h0 hk
          · exact h0
        rw [if_pos hfg, if_pos hk2, ← List.append_assoc] at hT
        rw [if_pos hfg, if_pos hk2] at hS
        (repeat refine PW.seq ?_); refine PW.cond (t := _) rfl (fun h => ?_) (fun h => ?_)
        rotate_left
        · cases h
        have co1 := fun K => bcode_ref (blkM m r) 0 K (by omega) hbl64 hin
        have zy := zb_len2 (bkc (blkM m r) 0)
        have bl1 := bkc_len (blkM m r) 0 hin (by omega)
        have hYp : 0 < (bkc (blkM m r) 0).length := by
          unfold bkc
          exact bkR_pos _ _ _ _
        generalize bkc (blkM m r) 0 = Y at *
        (repeat refine PW.seq ?_); refine PW.rg rfl fun K hK => ?_; simp (maxSteps := 3000000) (disch := omega) only [go_sem, ↓reduceIte, q2, mB, hblr, m408]
        refine VCx.call (co1 _) rfl ?_; simp (maxSteps := 3000000) (disch := omega) only [go_sem]; refine hK _ _ ?_; clear hK K
        (repeat refine PW.seq ?_); refine PW.rg rfl fun K hK => ?_; simp (maxSteps := 3000000) (disch := omega) only [go_sem, ↓reduceIte, pappend, q4, z5, zy, List.length_append, qs4]; refine hK _ _ ?_; clear hK K
        (repeat refine PW.seq ?_); refine PW.rg rfl fun K hK => ?_; simp (maxSteps := 3000000) (disch := omega) only [go_sem, ↓reduceIte]; refine hK _ _ ?_; clear hK K
        refine PL.at [5, 7, 9, 10, 14] (hnx (M5 ++ Y) n5 (by omega) hdn hT hS rfl) ?_ ?_
        · simp [kp, slot]
        · first | rfl | simp only [List.append_assoc]

end Go.Proofs.YthmladiijdlgkaaGreat.Sc

namespace Go.Proofs.YthmladiijdlgkaaGreat.Sc
set_option linter.all false
set_option linter.unusedVariables false
set_option linter.unusedSimpArgs false
open Pm Ty Go.RowKit
def VEqS (s t : St) : Prop := ∀ d, sXs s d = sXs t d ∧ sYs s d = sYs t d
theorem VEqS.set {s t : St} (h : VEqS s t) (d : Nat) (x y : Int) : VEqS (setV s d x y) (setV t d x y) := fun e => by
  have a : s.va = t.va ∧ s.vb = t.vb := h 0
  have b : s.vc = t.vc ∧ s.vd = t.vd := h 1
  unfold setV
  split
  · unfold sXs sYs
    dsimp only
    split
    · exact ⟨rfl, rfl⟩
    · exact b
  · unfold sXs sYs
    dsimp only
    split
    · exact a
    · exact ⟨rfl, rfl⟩
theorem vec1_congr {s t : St} (c : Cx) (m : Mb) (d k : Nat) (h : VEqS s t) : vec1 c m s d k = vec1 c m t d k := by
  unfold vec1; rw [(h d).1, (h d).2]
theorem vecsR_congr (c : Cx) (m : Mb) (d : Nat) : ∀ n s t, VEqS s t → (vecsR c m d n s).1 = (vecsR c m d n t).1 ∧ VEqS (vecsR c m d n s).2 (vecsR c m d n t).2
  | 0, s, t, h => ⟨rfl, h⟩
  | n + 1, s, t, h => by
    obtain ⟨i1, i2⟩ := vecsR_congr c m d n _ _ (h.set d (vXm m d (nvM m - (n + 1))) (vYm m d (nvM m - (n + 1))))
    refine ⟨?_, i2⟩
    simp only [vecsR]
    rw [vec1_congr c m d _ h, i1]
theorem dirB_congr (c : Cx) (m : Mb) (d : Nat) {s t : St} (h : VEqS s t) : (dirB c m s d).1 = (dirB c m t d).1 ∧ VEqS (dirB c m s d).2 (dirB c m t d).2 := by
  unfold dirB
  split
  · exact vecsR_congr c m d _ s t h
  · exact ⟨rfl, h⟩
theorem dirsR_congr (c : Cx) (m : Mb) : ∀ n s t, VEqS s t → (dirsR c m n s).1 = (dirsR c m n t).1 ∧ VEqS (dirsR c m n s).2 (dirsR c m n t).2
  | 0, s, t, h => ⟨rfl, h⟩
  | n + 1, s, t, h => by
    obtain ⟨j1, j2⟩ := dirB_congr c m (1 - n) h
    obtain ⟨i1, i2⟩ := dirsR_congr c m n _ _ j2
    refine ⟨?_, i2⟩
    simp only [dirsR]
    rw [j1, i1]
def DEqS (s t : St) : Prop := s.da = t.da ∧ s.db = t.db ∧ s.dc = t.dc
theorem DEqS.at {s t : St} (h : DEqS s t) (k : Nat) : dcS s k = dcS t k := by
  unfold dcS; rw [h.1, h.2.1, h.2.2]
theorem DEqS.set {s t : St} (h : DEqS s t) (k : Nat) (x : Int) : DEqS (setD s k x) (setD t k x) := by
  unfold setD
  split
  · exact ⟨rfl, h.2.1, h.2.2⟩
  · split
    · exact ⟨h.1, rfl, h.2.2⟩
    · exact ⟨h.1, h.2.1, rfl⟩
theorem lvsR_congr (m : Mb) : ∀ n s t, DEqS s t → (lvsR m n s).1 = (lvsR m n t).1 ∧ DEqS (lvsR m n s).2 (lvsR m n t).2
  | 0, s, t, h => ⟨rfl, h⟩
  | n + 1, s, t, h => by
    rw [lvsR, lvsR]
    obtain ⟨i1, i2⟩ := lvsR_congr m n s t h
    obtain ⟨j1, j2⟩ := lvsR_congr m n _ _ (h.set (5 - n - 3) (intAt m.lv ((5 - n) * 64)))
    by_cases hf : flagAt (cdl m) (5 - n) = true
    · rw [if_pos hf, if_pos hf]
      by_cases hk : m.k = 2
      · rw [if_pos hk, if_pos hk]
        exact ⟨by simp only [i1], i2⟩
      · rw [if_neg hk, if_neg hk, h.at]
        exact ⟨by simp only [j1], j2⟩
    · rw [if_neg hf, if_neg hf]
      exact ⟨i1, i2⟩
def SameV (s t : St) : Prop := t.q = s.q ∧ t.va = s.va ∧ t.vb = s.vb ∧ t.vc = s.vc ∧ t.vd = s.vd
theorem setD_same (s : St) (k : Nat) (x : Int) : SameV s (setD s k x) := by
  unfold setD
  split
  · exact ⟨rfl, rfl, rfl, rfl, rfl⟩
  · split <;> exact ⟨rfl, rfl, rfl, rfl, rfl⟩
theorem SameV.trans {a b c : St} (h : SameV a b) (k : SameV b c) : SameV a c := ⟨k.1.trans h.1, k.2.1.trans h.2.1, k.2.2.1.trans h.2.2.1, k.2.2.2.1.trans h.2.2.2.1, k.2.2.2.2.trans h.2.2.2.2⟩
theorem lvsR_same (m : Mb) : ∀ n s, SameV s (lvsR m n s).2
  | 0, s => ⟨rfl, rfl, rfl, rfl, rfl⟩
  | n + 1, s => by
    rw [lvsR]
    by_cases hf : flagAt (cdl m) (5 - n) = true
    · rw [if_pos hf]
      by_cases hk : m.k = 2
      · rw [if_pos hk]; exact lvsR_same m n s
      · rw [if_neg hk]; exact (setD_same s _ _).trans (lvsR_same m n _)
    · rw [if_neg hf]; exact lvsR_same m n s
theorem lvsR_k2 (m : Mb) (hk : m.k = 2) : ∀ n s t, (lvsR m n s).1 = (lvsR m n t).1 ∧ (lvsR m n s).2 = s
  | 0, s, t => ⟨rfl, rfl⟩
  | n + 1, s, t => by
    obtain ⟨i1, i2⟩ := lvsR_k2 m hk n s t
    rw [lvsR, lvsR]
    by_cases hf : flagAt (cdl m) (5 - n) = true
    · rw [if_pos hf, if_pos hf, if_pos hk, if_pos hk]
      exact ⟨by simp only [i1], i2⟩
    · rw [if_neg hf, if_neg hf]; exact ⟨i1, i2⟩
theorem lvsR_k0 (m : Mb) (hc : cdl m = [false, false, false, false, false, false]) : ∀ n s, n ≤ 6 → lvsR m n s = ([], s)
  | 0, s, _ => rfl
  | n + 1, s, h => by
    have : flagAt (cdl m) (5 - n) = false := by
      rw [hc]
      have : n = 0 ∨ n = 1 ∨ n = 2 ∨ n = 3 ∨ n = 4 ∨ n = 5 := by omega
      rcases this with rfl | rfl | rfl | rfl | rfl | rfl <;> rfl
    rw [lvsR, if_neg (by rw [this]; decide)]
    exact lvsR_k0 m hc n s (by omega)
theorem St.eq {s t : St} (hq : s.q = t.q) (hd : DEqS s t) (ha : s.va = t.va) (hb : s.vb = t.vb) (hc : s.vc = t.vc) (he : s.vd = t.vd) : s = t := by
  obtain ⟨q, da, db, dc, va, vb, vc, vd⟩ := s
  obtain ⟨q', da', db', dc', va', vb', vc', vd'⟩ := t
  simp only [DEqS] at *
  obtain ⟨rfl, rfl, rfl⟩ := hd
  subst hq ha hb hc he
  rfl
theorem spec_eq (c : Cx) (m : Mb) (s : St) (fm : fmS c m = true) : rbits c m s = mbits c s m ∧ rstate c m s = mstate c s m := by
  have hF := fmd_of fm
  rcases hF.k with hk | hk | hk
  · have hc := fmd_c0 fm hk
    obtain ⟨z1, z2⟩ := hF.z hk
    have e1 : s23 c m s = s := by unfold s23 s3M s2M; rw [if_neg (by rw [z2]; decide), if_neg (by omega)]
    have e2 : r3 c m s = ⟨s.q, 0, 0, 0, 0, 0, 0, 0⟩ := by
      unfold r3 r2 r1 r0; rw [if_neg (by omega), if_neg (by omega), if_neg (by omega), z1, Int.add_zero]
    have e3 : rb2 c m s = [] := by unfold rb2; rw [if_neg (by omega)]
    have e4 : b2M c m s = [] := by unfold b2M; rw [if_neg (by omega)]
    refine ⟨?_, ?_⟩
    · unfold rbits mbits
      rw [e1, e2, e3, e4, lvsR_k0 m hc 6 _ (by omega), lvsR_k0 m hc 6 _ (by omega)]
    · unfold rstate mstate
      rw [e1, e2, lvsR_k0 m hc 6 _ (by omega), lvsR_k0 m hc 6 _ (by omega), hk]
      rfl
  · have hh : hlM m = true := by unfold hlM; rw [hk]; rfl
    have e1 : s23 c m s = ⟨s.q + m.dl, s.da, s.db, s.dc, s.va, s.vb, s.vc, s.vd⟩ := by unfold s23 s3M s2M; rw [if_pos hh, if_neg (by omega)]
    have e2 : r3 c m s = ⟨s.q + m.dl, s.da, s.db, s.dc, 0, 0, 0, 0⟩ := by
      unfold r3 r2 r1 r0; rw [if_pos hk, if_neg (by omega), if_neg (by omega)]
    have e3 : rb2 c m s = [] := by unfold rb2; rw [if_neg (by omega)]
    have e4 : b2M c m s = [] := by unfold b2M; rw [if_neg (by omega)]
    obtain ⟨l1, l2⟩ := lvsR_congr m 6 ⟨s.q + m.dl, s.da, s.db, s.dc, 0, 0, 0, 0⟩ ⟨s.q + m.dl, s.da, s.db, s.dc, s.va, s.vb, s.vc, s.vd⟩ ⟨rfl, rfl, rfl⟩
    refine ⟨?_, ?_⟩
    · unfold rbits mbits
      rw [e1, e2, e3, e4, l1]
    · unfold rstate mstate
      rw [e1, e2, hk]
      have v1 := lvsR_same m 6 ⟨s.q + m.dl, s.da, s.db, s.dc, 0, 0, 0, 0⟩
      have v2 := lvsR_same m 6 ⟨s.q + m.dl, s.da, s.db, s.dc, s.va, s.vb, s.vc, s.vd⟩
      generalize (lvsR m 6 ⟨s.q + m.dl, s.da, s.db, s.dc, 0, 0, 0, 0⟩).2 = A at *
      generalize (lvsR m 6 ⟨s.q + m.dl, s.da, s.db, s.dc, s.va, s.vb, s.vc, s.vd⟩).2 = B at *
      exact St.eq (v1.1.trans v2.1.symm) l2 v1.2.1 v1.2.2.1 v1.2.2.2.1 v1.2.2.2.2
  · have e3 : r1 m s = ⟨s.q + m.dl, 0, 0, 0, s.va, s.vb, s.vc, s.vd⟩ := by unfold r1; rw [if_pos hk]
    have hv : VEqS (r1 m s) s := fun d => by rw [e3]; exact ⟨rfl, rfl⟩
    obtain ⟨d1, d2⟩ := dirsR_congr c m 2 _ _ hv
    have e4 : rb2 c m s = b2M c m s := by unfold rb2 b2M; rw [if_pos hk, if_pos hk, d1]
    obtain ⟨l1, l2⟩ := lvsR_k2 m hk 6 (r3 c m s) (s23 c m s)
    obtain ⟨_, l3⟩ := lvsR_k2 m hk 6 (s23 c m s) (s23 c m s)
    refine ⟨?_, ?_⟩
    · unfold rbits mbits
      rw [e4, l1]
    · unfold rstate mstate
      rw [l2, l3, hk]
      have e5 : r3 c m s = (dirsR c m 2 (r1 m s)).2 := by unfold r3 r2; rw [if_neg (by omega), if_pos hk]
      have e6 : s2M c m s = (dirsR c m 2 s).2 := by unfold s2M; rw [if_pos hk]
      have w1 := dirsR_same c m 2 (r1 m s)
      have w2 := dirsR_same c m 2 s
      have a : sXs (dirsR c m 2 (r1 m s)).2 0 = sXs (dirsR c m 2 s).2 0 ∧ sYs (dirsR c m 2 (r1 m s)).2 0 = sYs (dirsR c m 2 s).2 0 := d2 0
      have b : sXs (dirsR c m 2 (r1 m s)).2 1 = sXs (dirsR c m 2 s).2 1 ∧ sYs (dirsR c m 2 (r1 m s)).2 1 = sYs (dirsR c m 2 s).2 1 := d2 1
      unfold s23
      rw [e5, e6]
      rw [e3] at w1 a b ⊢
      have hn := hF.n
      generalize (dirsR c m 2 ⟨s.q + m.dl, 0, 0, 0, s.va, s.vb, s.vc, s.vd⟩).2 = A at *
      generalize (dirsR c m 2 s).2 = B at *
      obtain ⟨w11, w12, w13, w14⟩ := w1
      have hq : (s3M m B).q = s.q + m.dl ∧ (s3M m B).va = B.va ∧ (s3M m B).vb = B.vb ∧ (s3M m B).vc = B.vc ∧ (s3M m B).vd = B.vd := by
        unfold s3M
        split
        · exact ⟨by dsimp only; rw [w2.1], rfl, rfl, rfl, rfl⟩
        · rename_i hh
          have := hn (by simpa using hh)
          exact ⟨by rw [w2.1, this, Int.add_zero], rfl, rfl, rfl, rfl⟩
      obtain ⟨h1, h2, h3, h4, h5⟩ := hq
      refine St.eq (w11.trans h1.symm) ⟨w12, w13, w14⟩ (a.1.trans h2.symm) (a.2.trans h3.symm) (b.1.trans h4.symm) (b.2.trans h5.symm)
set_option maxHeartbeats 4000000 in
set_option maxRecDepth 100000 in
theorem code1 (c : Cx) (s : St) (m : Mb) (H : Heap) (hml : m.lv.length = 384) (hbad : (fmS c m && vstB s) = false) :
    CallOk Tryz.prog 21 [.agg (cxc c), .agg (stc s), .agg (mbc m)] H (.tup [.slice [] 0 false, .agg (stc zSt), .int .i64 1]) H := by
  have fo := fun K => fm_ref c m K hml
  have vo := fun K => vst_ref s K
  generalize fmS c m = f1 at *
  generalize vstB s = v1 at *
  have c1 := cxc_cell c
  have c2 := stc_cell s
  have c3 := mbc_cell m
  have m408 := mbc_len m hml
  have tk1 : List.take 4 (cxc c) = cxc c := rfl
  have tk2 : List.take 8 (stc s) = stc s := rfl
  have tk3 : List.take 408 (mbc m) = mbc m := List.take_of_length_le (by omega)
  have l1 : (cxc c).length = 4 := rfl
  have l2 : (stc s).length = 8 := rfl
  refine CallOk.body (F0 := [(0, .agg (cxc c)), (1, .agg (stc s)), (2, .agg (mbc m))]) Tryz.func21 rfl Tryz.ntmps21 Tryz.results21 rfl (by kernel_rfl) rfl ?_
  (repeat refine PW.seq ?_); refine PW.rg rfl fun K hK => ?_; simp (disch:=omega) only [go_sem, c1, c2, c3]; refine hK _ _ ?_; clear hK K
  cases f1 with
  | false =>
    (repeat refine PW.seq ?_); refine PW.rg rfl fun K hK => ?_; simp (disch:=omega) only [go_sem, ↓reduceIte, tk1, tk3, l1, m408]
    refine VCx.call (fo _) rfl ?_; simp (disch:=omega) only [go_sem, ↓reduceIte]; refine hK _ _ ?_; clear hK K
    (repeat refine PW.seq ?_); refine PW.cond (t := _) rfl (fun h => ?_) (fun h => ?_)
    rotate_left
    · cases h
    (repeat refine PW.seq ?_); refine PW.rg rfl fun K hK => ?_; simp (disch:=omega) only [go_sem, ↓reduceIte]; refine hK _ _ ?_; clear hK K
    refine PW.ret ⟨.tup [.slice [] 0 true, .agg (stc zSt), .int .i64 1], by simp (disch:=omega) only [go_sem, ↓reduceIte, presults, presult, List.mapM_cons, List.mapM_nil, Option.pure_def, Option.bind_eq_bind, stc, zSt], ?_⟩
    exact Fin.base (Fz.tupC ⟨Fz.sliceC trivial (fun e => by cases e), .id (stc_scoped _ _), .id (.int _ _), trivial⟩)
  | true =>
    rw [Bool.true_and] at hbad
    subst hbad
    (repeat refine PW.seq ?_); refine PW.rg rfl fun K hK => ?_; simp (disch:=omega) only [go_sem, ↓reduceIte, tk1, tk3, l1, m408]
    refine VCx.call (fo _) rfl ?_; simp (disch:=omega) only [go_sem, ↓reduceIte, tk2, l2]
    refine VCx.call (vo _) rfl ?_; simp (disch:=omega) only [go_sem]; refine hK _ _ ?_; clear hK K
    (repeat refine PW.seq ?_); refine PW.cond (t := _) rfl (fun h => ?_) (fun h => ?_)
    rotate_left
    · cases h
    (repeat refine PW.seq ?_); refine PW.rg rfl fun K hK => ?_; simp (disch:=omega) only [go_sem, ↓reduceIte]; refine hK _ _ ?_; clear hK K
    refine PW.ret ⟨.tup [.slice [] 0 true, .agg (stc zSt), .int .i64 1], by simp (disch:=omega) only [go_sem, ↓reduceIte, presults, presult, List.mapM_cons, List.mapM_nil, Option.pure_def, Option.bind_eq_bind, stc, zSt], ?_⟩
    exact Fin.base (Fz.tupC ⟨Fz.sliceC trivial (fun e => by cases e), .id (stc_scoped _ _), .id (.int _ _), trivial⟩)
set_option maxHeartbeats 4000000 in
set_option maxRecDepth 100000 in
theorem code2 (c : Cx) (s : St) (m : Mb) (H : Heap) (hml : m.lv.length = 384) (fm : fmS c m = true) (vs : vstB s = true) (vq : vqB (s.q + m.dl) = false) :
    CallOk Tryz.prog 21 [.agg (cxc c), .agg (stc s), .agg (mbc m)] H (.tup [.slice [] 0 false, .agg (stc zSt), .int .i64 2]) H := by
  have fo := fun K => fm_ref c m K hml
  have vo := fun K => vst_ref s K
  have hdl := (fmd_of fm).d
  have hq := (vst_b vs).1
  have hq2 : s.q + m.dl < 1 ∨ 31 < s.q + m.dl := by
    simp only [vqB, Bool.and_eq_false_iff, decide_eq_false_iff_not] at vq
    omega
  rw [fm] at fo
  rw [vs] at vo
  have c1 := cxc_cell c
  have c2 := stc_cell s
  have c3 := mbc_cell m
  have m408 := mbc_len m hml
  have tk1 : List.take 4 (cxc c) = cxc c := rfl
  have tk2 : List.take 8 (stc s) = stc s := rfl
  have tk3 : List.take 408 (mbc m) = mbc m := List.take_of_length_le (by omega)
  have l1 : (cxc c).length = 4 := rfl
  have l2 : (stc s).length = 8 := rfl
  have k17 : (mbc m)[17]? = some (.int .i64 m.dl) := rfl
  have s0 : (stc s)[0]? = some (.int .i64 s.q) := rfl
  refine CallOk.body (F0 := [(0, .agg (cxc c)), (1, .agg (stc s)), (2, .agg (mbc m))]) Tryz.func21 rfl Tryz.ntmps21 Tryz.results21 rfl (by kernel_rfl) rfl ?_
  (repeat refine PW.seq ?_); refine PW.rg rfl fun K hK => ?_; simp (disch:=omega) only [go_sem, c1, c2, c3]; refine hK _ _ ?_; clear hK K
  (repeat refine PW.seq ?_); refine PW.rg rfl fun K hK => ?_; simp (disch:=omega) only [go_sem, ↓reduceIte, tk1, tk3, l1, m408]
  refine VCx.call (fo _) rfl ?_; simp (disch:=omega) only [go_sem, ↓reduceIte, tk2, l2]
  refine VCx.call (vo _) rfl ?_; simp (disch:=omega) only [go_sem]; refine hK _ _ ?_; clear hK K
  (repeat refine PW.seq ?_); refine PW.cond (t := _) rfl (fun h => ?_) (fun h => ?_)
  · cases h
  refine PW.skip ?_
  by_cases h1 : s.q + m.dl < 1
  · have d1 : decide (s.q + m.dl < 1) = true := decide_eq_true h1
    (repeat refine PW.seq ?_); refine PW.rg rfl fun K hK => ?_; simp (disch:=omega) only [go_sem, ↓reduceIte, s0, k17, d1]; refine hK _ _ ?_; clear hK K
    (repeat refine PW.seq ?_); refine PW.cond (t := _) rfl (fun h => ?_) (fun h => ?_)
    rotate_left
    · cases h
    (repeat refine PW.seq ?_); refine PW.rg rfl fun K hK => ?_; simp (disch:=omega) only [go_sem, ↓reduceIte]; refine hK _ _ ?_; clear hK K
    refine PW.ret ⟨.tup [.slice [] 0 true, .agg (stc zSt), .int .i64 2], by simp (disch:=omega) only [go_sem, ↓reduceIte, presults, presult, List.mapM_cons, List.mapM_nil, Option.pure_def, Option.bind_eq_bind, stc, zSt], ?_⟩
    exact Fin.base (Fz.tupC ⟨Fz.sliceC trivial (fun e => by cases e), .id (stc_scoped _ _), .id (.int _ _), trivial⟩)
  · have d1 : decide (s.q + m.dl < 1) = false := decide_eq_false h1
    have d2 : decide (31 < s.q + m.dl) = true := decide_eq_true (by omega)
    (repeat refine PW.seq ?_); refine PW.rg rfl fun K hK => ?_; simp (disch:=omega) only [go_sem, ↓reduceIte, s0, k17, d1, d2]; refine hK _ _ ?_; clear hK K
    (repeat refine PW.seq ?_); refine PW.cond (t := _) rfl (fun h => ?_) (fun h => ?_)
    rotate_left
    · cases h
    (repeat refine PW.seq ?_); refine PW.rg rfl fun K hK => ?_; simp (disch:=omega) only [go_sem, ↓reduceIte]; refine hK _ _ ?_; clear hK K
    refine PW.ret ⟨.tup [.slice [] 0 true, .agg (stc zSt), .int .i64 2], by simp (disch:=omega) only [go_sem, ↓reduceIte, presults, presult, List.mapM_cons, List.mapM_nil, Option.pure_def, Option.bind_eq_bind, stc, zSt], ?_⟩
    exact Fin.base (Fz.tupC ⟨Fz.sliceC trivial (fun e => by cases e), .id (stc_scoped _ _), .id (.int _ _), trivial⟩)
theorem code_ref (c : Cx) (s : St) (m : Mb) (H : Heap) (hml : m.lv.length = 384) :
    CallOk Tryz.prog 21 [.agg (cxc c), .agg (stc s), .agg (mbc m)] H (.tup [.slice (bs (zb (mput c s m).1)) (mput c s m).1.length false, .agg (stc (mput c s m).2.1), .int .i64 (mput c s m).2.2]) H := by
  by_cases h1 : (fmS c m && vstB s) = true
  · have h2 := h1
    rw [Bool.and_eq_true] at h2
    cases h3 : vqB (s.q + m.dl) with
    | true =>
      have e : mput c s m = (mbits c s m, mstate c s m, 0) := by unfold mput; rw [if_pos h1, if_pos h3]
      obtain ⟨e1, e2⟩ := spec_eq c m s h2.1
      rw [e, ← e1, ← e2]
      exact code0 c s m H hml h2.1 h2.2 h3
    | false =>
      have e : mput c s m = ([], zSt, 2) := by unfold mput; rw [if_pos h1, if_neg (by rw [h3]; decide)]
      rw [e]
      exact code2 c s m H hml h2.1 h2.2 h3
  · have e : mput c s m = ([], zSt, 1) := by unfold mput; rw [if_neg h1]
    rw [e]
    exact code1 c s m H hml (by simpa using h1)
end Go.Proofs.YthmladiijdlgkaaGreat.Sc

namespace Go.Proofs.YthmladiijdlgkaaGreat.Sc
set_option linter.all false
set_option linter.unusedVariables false
set_option linter.unusedSimpArgs false
open Pm Ty Go.RowKit
def vH (H : Heap) (s : Sq) (p : Pi) (M : List Bool) (st : St) : Heap := H ++ [⟨26, 0, sqc s⟩, ⟨28, 0, pic p⟩, ⟨34, 0, [.int .i64 0, .slice [] 0 true]⟩, ⟨5, M.length, bs (zb M)⟩, ⟨73, 0, stc st⟩]
theorem hsc_vH (H : Heap) (s : Sq) (p : Pi) (M : List Bool) (st : St) (h : HSc H) : HSc (vH H s p M st) := hscW (fun b hb x hx => by
  simp only [List.mem_cons, List.not_mem_nil, or_false] at hb
  simp only [List.length_cons, List.length_nil]
  rcases hb with rfl | rfl | rfl | rfl | rfl
  · exact sqc_scoped _ _ x hx
  · exact pic_sc _ _ x hx
  · exact un0_sc _ x hx
  · exact bs_scoped _ _ x hx
  · exact stc_sc _ _ x hx) h
set_option maxHeartbeats 8000000 in
set_option maxRecDepth 100000 in
theorem puts_ref (s : Sq) (p : Pi) (b : Bool) (row q : Int) (l : List Mb) (g : Bool) (H : Heap) (hs : SqOk s) (hrow : i64r row) (hqr : i64r q) (hml : ∀ m ∈ l, m.lv.length = 384) (hll : l.length ≤ 9223372036854775807) :
    CallOk Tryz.prog 5 [.agg (sqc s), .agg (pic p), .bool b, .int .i64 row, .int .i64 q, .slice (l.flatMap mbc) l.length g] H (rvP s p b row q l) H := by
  have fo := fun K => may_ref s p b K hs
  have ro := fun K => prows_ref s p K hs
  have co := fun K => ctx_ref s p b K hs
  have h1 := sqc_cell s
  have h2 := sqc_len s hs
  have h3 := sqc_tk s hs
  have h4 := sqc_w s
  have p6 : (pic p).length = 6 := rfl
  have t6 : List.take 6 (pic p) = pic p := rfl
  have l8 : ∀ t, (stc t).length = 8 := fun _ => rfl
  have c8 : ∀ t, (stc t).all PV.cell = true := fun _ => rfl
  have tk8 : ∀ t, List.take 8 (stc t) = stc t := fun _ => rfl
  have dk8 : ∀ t, List.drop 8 (stc t) = [] := fun _ => rfl
  have hpr := prows_b (s := s) (p := p)
  generalize hres : rvP s p b row q l = res
  unfold rvP at hres
  refine CallOk.body (F0 := [(0, .agg (sqc s)), (1, .agg (pic p)), (2, .bool b), (3, .int .i64 row), (4, .int .i64 q), (5, .slice (l.flatMap mbc) l.length g)]) Tryz.func5 rfl Tryz.ntmps5 Tryz.results5 rfl (by kernel_rfl) rfl ?_
  (repeat refine PW.seq ?_); refine PW.rg rfl fun K hK => ?_; simp (disch:=omega) only [go_sem, h1, pic]; refine hK _ _ ?_; clear hK K
  suffices hrest : PW Tryz.prog _ _ [(2, .bool b), (3, .int .i64 row), (4, .int .i64 q), (5, .slice (l.flatMap mbc) l.length g), (6, .ptr H.length 0 0), (7, .ptr (H.length + 1) 0 0), (12, .ptr (H.length + 2) 0 0), (51, .bool (!okP s p b row q l))] (H ++ [⟨26, 0, sqc s⟩, ⟨28, 0, pic p⟩, ⟨34, 0, [.int .i64 0, .slice [] 0 true]⟩]) _ by
    unfold okP at hrest
    cases hf : fitB s p b with
    | false =>
      rw [hf] at fo hrest
      (repeat refine PW.seq ?_); refine PW.rg rfl fun K hK => ?_; simp (disch:=omega) only [go_sem, ↓reduceIte, h2, h3]
      refine VCx.call (fo _) rfl ?_; simp (disch:=omega) only [go_sem, ↓reduceIte, plen]; refine hK _ _ ?_; clear hK K
      exact PW.at [2, 3, 4, 5, 6, 7, 12, 51] hrest rfl rfl
    | true =>
      rw [hf] at fo hrest
      by_cases g1 : row < 0
      · have d1 : decide (row < 0) = true := decide_eq_true g1
        rw [decide_eq_false (show ¬0 ≤ row by omega)] at hrest
        (repeat refine PW.seq ?_); refine PW.rg rfl fun K hK => ?_; simp (disch:=omega) only [go_sem, ↓reduceIte, h2, h3]
        refine VCx.call (fo _) rfl ?_; simp (disch:=omega) only [go_sem, ↓reduceIte, plen, d1]; refine hK _ _ ?_; clear hK K
        exact PW.at [2, 3, 4, 5, 6, 7, 12, 51] hrest rfl rfl
      have d1 : decide (row < 0) = false := decide_eq_false g1
      rw [decide_eq_true (show 0 ≤ row by omega)] at hrest
      by_cases g2 : row < prows s p
      rotate_left
      · have d2 : decide (prows s p ≤ row) = true := decide_eq_true (by omega)
        rw [decide_eq_false g2] at hrest
        (repeat refine PW.seq ?_); refine PW.rg rfl fun K hK => ?_; simp (disch:=omega) only [go_sem, ↓reduceIte, h2, h3]
        refine VCx.call (fo _) rfl ?_; simp (disch:=omega) only [go_sem, ↓reduceIte, d1, h2, h3]
        refine VCx.call (ro _) rfl ?_; simp (disch:=omega) only [go_sem, ↓reduceIte, plen, d2]; refine hK _ _ ?_; clear hK K
        exact PW.at [2, 3, 4, 5, 6, 7, 12, 51] hrest rfl rfl
      have d2 : decide (prows s p ≤ row) = false := decide_eq_false (by omega)
      rw [decide_eq_true g2] at hrest
      by_cases g3 : q < 1
      · have d3 : decide (q < 1) = true := decide_eq_true g3
        rw [decide_eq_false (show ¬1 ≤ q by omega)] at hrest
        (repeat refine PW.seq ?_); refine PW.rg rfl fun K hK => ?_; simp (disch:=omega) only [go_sem, ↓reduceIte, h2, h3]
        refine VCx.call (fo _) rfl ?_; simp (disch:=omega) only [go_sem, ↓reduceIte, d1, h2, h3]
        refine VCx.call (ro _) rfl ?_; simp (disch:=omega) only [go_sem, ↓reduceIte, plen, d2, d3]; refine hK _ _ ?_; clear hK K
        exact PW.at [2, 3, 4, 5, 6, 7, 12, 51] hrest rfl rfl
      have d3 : decide (q < 1) = false := decide_eq_false g3
      rw [decide_eq_true (show 1 ≤ q by omega)] at hrest
      by_cases g4 : 31 < q
      · have d4 : decide (31 < q) = true := decide_eq_true g4
        rw [decide_eq_false (show ¬q ≤ 31 by omega)] at hrest
        (repeat refine PW.seq ?_); refine PW.rg rfl fun K hK => ?_; simp (disch:=omega) only [go_sem, ↓reduceIte, h2, h3]
        refine VCx.call (fo _) rfl ?_; simp (disch:=omega) only [go_sem, ↓reduceIte, d1, h2, h3]
        refine VCx.call (ro _) rfl ?_; simp (disch:=omega) only [go_sem, ↓reduceIte, plen, d2, d3, d4]; refine hK _ _ ?_; clear hK K
        exact PW.at [2, 3, 4, 5, 6, 7, 12, 51] hrest rfl rfl
      have d4 : decide (31 < q) = false := decide_eq_false g4
      rw [decide_eq_true (show q ≤ 31 by omega)] at hrest
      have hw : IntKind.i64.wrap (s.w.tdiv 16) = s.w.tdiv 16 := wq64 _ _ (by
        have hv : pvalid s p = true := by
          unfold fitB at hf
          rw [Bool.and_eq_true] at hf
          exact hf.1
        have := pvalid_h hv
        omega)
      have d5 : ((l.length : Int) != s.w.tdiv 16) = !decide ((l.length : Int) = s.w.tdiv 16) := rfl
      (repeat refine PW.seq ?_); refine PW.rg rfl fun K hK => ?_; simp (disch:=omega) only [go_sem, ↓reduceIte, h2, h3]
      refine VCx.call (fo _) rfl ?_; simp (disch:=omega) only [go_sem, ↓reduceIte, d1, h2, h3]
      refine VCx.call (ro _) rfl ?_; simp (disch:=omega) only [go_sem, ↓reduceIte, plen, d2, d3, d4, h4, hw]; refine hK _ _ ?_; clear hK K
      exact PW.at [2, 3, 4, 5, 6, 7, 12, 51] hrest rfl rfl
  cases hok : okP s p b row q l with
  | false =>
    rw [hok, if_neg (by decide)] at hres
    (repeat refine PW.seq ?_); refine PW.cond (t := _) rfl (fun h => ?_) (fun h => ?_)
    rotate_left
    · cases h
    (repeat refine PW.seq ?_); refine PW.rg rfl fun K hK => ?_; simp (disch:=omega) only [go_sem, ↓reduceIte]; refine hK _ _ ?_; clear hK K
    refine PW.ret ⟨.tup [.agg [.int .i64 0, .slice [] 0 true], .int .i64 1], by simp (disch:=omega) only [go_sem, ↓reduceIte, presults, presult, List.mapM_cons, List.mapM_nil, Option.pure_def, Option.bind_eq_bind], ?_⟩
    rw [← hres]
    exact Fin.base (.id (un_sc _ _ _ [] _ _))
  | true =>
    rw [hok, if_pos rfl] at hres
    obtain ⟨o1, o2, o3, o4, o5, o6, _⟩ := okP_b hok
    obtain ⟨Q, rfl⟩ : ∃ Q : Nat, q = Q := ⟨q.toNat, by omega⟩
    unfold slB at hres
    rw [Int.toNat_natCast] at hres
    clear fo ro hok hpr
    generalize cxP s p b = c at *
    have bo := fun K => bits_ref Q 5 K (by omega)
    have hbl : (bs (zb (vbits Q 5))).length = (vbits Q 5).length := by rw [length_bs, zb_len]
    have hv5 : (vbits Q 5).length = 5 := vbits_len _ _
    (repeat refine PW.seq ?_); refine PW.cond (t := _) rfl (fun h => ?_) (fun h => ?_)
    · cases h
    refine PW.skip ?_
    (repeat refine PW.seq ?_); refine PW.rg rfl fun K hK => ?_; simp (disch:=omega) only [go_sem]; refine VCx.call (bo _) rfl ?_; simp (disch:=omega) only [go_sem]; refine hK _ _ ?_; clear hK K
    (repeat refine PW.seq ?_); refine PW.rg rfl fun K hK => ?_; simp (disch:=omega) only [go_sem, ↓reduceIte]; refine hK _ _ ?_; clear hK K
    (repeat refine PW.seq ?_); refine PW.rg rfl fun K hK => ?_; simp (disch:=omega) only [go_sem]; refine hK _ _ ?_; clear hK K
    (repeat refine PW.seq ?_); refine PW.block (PW.loop ?_)
    suffices hl1 : ∀ (k : Nat) (M : List Bool) (st : St), k ≤ l.length → M.length ≤ 5 + k * 30000 → (putL c (st0 (Q : Int)) l).2 = (putL c st (l.drop k)).2 → ((putL c (st0 (Q : Int)) l).2 = 0 → vbits Q 5 ++ (putL c (st0 (Q : Int)) l).1 = M ++ (putL c st (l.drop k)).1) →
        PL Tryz.prog _ _ [(2, .bool b), (3, .int .i64 row), (5, .slice (l.flatMap mbc) l.length g), (6, .ptr H.length 0 0), (7, .ptr (H.length + 1) 0 0), (12, .ptr (H.length + 2) 0 0), (14, .msl (H.length + 3) M.length 0 M.length 1 true), (15, .ptr (H.length + 4) 0 0), (16, .int .i64 (k : Int))] (vH H s p M st) _ by
      refine PL.at [2, 3, 5, 6, 7, 12, 14, 15, 16] (hl1 0 (vbits Q 5) (st0 (Q : Int)) (by omega) (by omega) rfl (fun _ => rfl)) ?_ ?_
      · rw [hbl, hv5]; rfl
      · rw [hbl]; rfl
    clear bo hbl
    have lm := flat_len mbc 408 l (fun x hx => mbc_len x (hml x hx))
    intro k M st hk hM he1 he2
    induction hd : l.length - k using Nat.strongRecOn generalizing k M st with
    | _ d ih =>
      refine PL.round ?_; (repeat refine PW.seq ?_); refine PW.rg rfl fun K hK => ?_; simp (disch:=omega) only [go_sem, ↓reduceIte, plen]; refine hK _ _ ?_; clear hK K
      (repeat refine PW.seq ?_); refine PW.cond (t := _) rfl (fun h => ?_) (fun h => ?_)
      · have h4k : k < l.length := by have := of_decide_eq_true h; omega
        have hat := flat_at mbc 408 l k h4k (fun x hx => mbc_len x (hml x hx))
        have hmk := hml l[k] (List.getElem_mem h4k)
        rw [List.drop_eq_getElem_cons h4k] at he1 he2
        generalize l[k] = m at *
        have m408 := mbc_len m hmk
        have po := fun K => code_ref c st m K hmk
        obtain ⟨hme, hmb⟩ := mput_e c st m
        rw [putL] at he1 he2
        generalize (mput c st m).1 = B at *
        generalize (mput c st m).2.1 = u at *
        generalize (mput c st m).2.2 = e at *
        have l4 : (cxc c).length = 4 := rfl
        have tk4 : List.take 4 (cxc c) = cxc c := rfl
        refine PW.skip ?_; (repeat refine PW.seq ?_); refine PW.block ?_
        (repeat refine PW.seq ?_)
        refine PW.view (Vs.place 73) ?_
        refine PW.eq rfl (show _ = H ++ [⟨26, 0, sqc s⟩, ⟨28, 0, pic p⟩, ⟨34, 0, [.int .i64 0, .slice [] 0 true]⟩, ⟨5, M.length, bs (zb M)⟩, ⟨73, 0, stc st⟩, ⟨73, 0, []⟩] from List.append_assoc _ _ _) ?_
        (repeat refine PW.seq ?_); refine PW.drawi [H.length + 5] [(18, [0])] [(18, 0)] [68, 74] mix (by kernel_rfl) (by simp <;> omega) fun K hK => ?_
        simp (disch:=omega) only [go_sem, ↓reduceIte, h2, h3, p6, t6]
        refine VCj.read (fun _ _ => co _) rfl ?_; simp (disch:=omega) only [go_sem, ↓reduceIte, tk8, l8, hat, lm, apn]
        refine VCj.read (fun _ _ => po _) rfl ?_; simp (disch:=omega) only [go_sem, ↓reduceIte, l8, apn, aps, Nat.reduceAdd]
        refine hK _ _ ?_; clear hK K
        by_cases he : e = 0
        · have be : (e != 0) = false := by simp [he]
          rw [if_pos he] at he1 he2
          (repeat refine PW.seq ?_); refine PW.rg rfl fun K hK => ?_; simp (disch:=omega) only [go_sem, ↓reduceIte, be]; refine hK _ _ ?_; clear hK K
          (repeat refine PW.seq ?_); refine PW.cond (t := _) rfl (fun h => ?_) (fun h => ?_)
          · cases h
          refine PW.skip ?_
          have zM := zb_len2 M
          have zB := zb_len2 B
          have hsn : bs (zb (M ++ B)) = bs (zb M) ++ bs (zb B) := zb_snoc M B
          suffices hrest : PW Tryz.prog _ _ [(2, .bool b), (3, .int .i64 row), (5, .slice (l.flatMap mbc) l.length g), (6, .ptr H.length 0 0), (7, .ptr (H.length + 1) 0 0), (12, .ptr (H.length + 2) 0 0), (14, .msl (H.length + 3) (M ++ B).length 0 (M ++ B).length 1 true), (15, .ptr (H.length + 4) 0 0), (16, .int .i64 (k : Int)), (18, .ptr (H.length + 5) 1 0)] (H ++ [⟨26, 0, sqc s⟩, ⟨28, 0, pic p⟩, ⟨34, 0, [.int .i64 0, .slice [] 0 true]⟩, ⟨5, (M ++ B).length, bs (zb (M ++ B))⟩, ⟨73, 0, stc u⟩, ⟨73, 1, stc u⟩]) _ by
            by_cases hB0 : B.length = 0
            · have hBn : B = [] := List.eq_nil_of_length_eq_zero hB0
              have zBn : bs (zb B) = [] := by rw [hBn]; rfl
              (repeat refine PW.seq ?_)
              (repeat refine PW.seq ?_); refine PW.drawi [H.length + 3, H.length + 4] [(14, [0]), (82, [0]), (84, [0]), (15, [1])] [] [] mix (by kernel_rfl) (by simp <;> omega) fun K hK => ?_
              simp (disch:=omega) only [go_sem, ↓reduceIte, pappend, apn, aps, zM, zBn, hB0, l8, dk8, tk8]
              refine hK _ _ ?_; clear hK K
              refine PW.at [2, 3, 5, 6, 7, 12, 14, 15, 16, 18] hrest ?_ ?_
              · rw [hBn]; simp [kp, slot]
              · rw [hBn]; simp
            · (repeat refine PW.seq ?_)
              (repeat refine PW.seq ?_); refine PW.drawi [H.length + 3, H.length + 4] [(14, [0]), (82, [0]), (84, [0]), (15, [1])] [] [] mix (by kernel_rfl) (by simp <;> omega) fun K hK => ?_
              simp (disch:=omega) only [go_sem, ↓reduceIte, pappend, apn, aps, zM, zB, List.length_append, l8, dk8, tk8]
              refine hK _ _ ?_; clear hK K
              refine PW.at [2, 3, 5, 6, 7, 12, 14, 15, 16, 18] hrest ?_ ?_
              · simp [kp, slot, List.length_append]
              · rw [hsn, List.length_append]
          (repeat refine PW.seq ?_); refine PW.rg rfl fun K hK => ?_; simp (disch:=omega) only [go_sem, ↓reduceIte]; refine hK _ _ ?_; clear hK K
          refine PL.keep [16, 2, 3, 5, 6, 7, 12, 14, 15] ?_
          refine PL.view (Vs.trim (F1 := [(2, .bool b), (3, .int .i64 row), (5, .slice (l.flatMap mbc) l.length g), (6, .ptr H.length 0 0), (7, .ptr (H.length + 1) 0 0), (12, .ptr (H.length + 2) 0 0), (14, .msl (H.length + 3) (M ++ B).length 0 (M ++ B).length 1 true), (15, .ptr (H.length + 4) 0 0), (16, .int .i64 ((k + 1 : Nat) : Int))]) (H1 := vH H s p (M ++ B) u) (hsc_vH H s p (M ++ B) u) (by simp [vH]) (List.append_assoc _ [_, _, _, _, _] [_]).symm ?_) (ih (l.length - (k + 1)) (by omega) (k + 1) (M ++ B) u (by omega) (by rw [List.length_append, Nat.add_mul]; omega) he1 (fun h0 => by rw [he2 h0, List.append_assoc]) rfl)
          rw [show (vH H s p (M ++ B) u).length = H.length + 5 by simp [vH]]
          exact ⟨.id (.bool _), .id (.int _ _), .id (sl_scoped (mbl_sc l _)), .id (.ptr (by omega)), .id (.ptr (by omega)), .id (.ptr (by omega)), .id (.msl (by omega)), .id (.ptr (by omega)), .id (.int _ _), trivial⟩
        · have be : (e != 0) = true := by simp [he]
          rw [if_neg he] at he1 he2
          (repeat refine PW.seq ?_); refine PW.rg rfl fun K hK => ?_; simp (disch:=omega) only [go_sem, ↓reduceIte, be]; refine hK _ _ ?_; clear hK K
          (repeat refine PW.seq ?_); refine PW.cond (t := _) rfl (fun h => ?_) (fun h => ?_)
          rotate_left
          · cases h
          (repeat refine PW.seq ?_); refine PW.rg rfl fun K hK => ?_; simp (disch:=omega) only [go_sem, ↓reduceIte]; refine hK _ _ ?_; clear hK K
          refine PW.ret ⟨.tup [zUn, .int .i64 e], by simp (disch:=omega) only [go_sem, ↓reduceIte, presults, presult, List.mapM_cons, List.mapM_nil, Option.pure_def, Option.bind_eq_bind, zUn], ?_⟩
          rw [← hres, he1, if_neg he]
          exact Fin.base (.id (un_sc _ _ _ [] _ _))
      · have h5 : k = l.length := by have := of_decide_eq_false h; omega
        refine PW.exit ?_
        rw [h5, List.drop_length, putL] at he1 he2
        rw [List.append_nil] at he2
        have he2 := he2 he1
        rw [he1, if_pos rfl, he2] at hres
        have hMb : M.length ≤ 300000 := by rw [h5] at hM; omega
        have zM := zb_len2 M
        refine PW.eq rfl (show vH H s p M st = H ++ [⟨26, 0, sqc s⟩, ⟨28, 0, pic p⟩, ⟨34, 0, [.int .i64 0, .slice [] 0 true]⟩, ⟨5, M.length, bs (zb M)⟩, ⟨73, 0, stc st⟩] from rfl) ?_
        have pr : CallOk Tryz.prog 23 [.msl (H.length + 3) M.length 0 M.length 1 true] (H ++ [⟨26, 0, sqc s⟩, ⟨28, 0, pic p⟩, ⟨34, 0, [.int .i64 0, .slice [] 0 true]⟩, ⟨5, M.length, bs (zb M)⟩, ⟨73, 0, stc st⟩])
            (.slice (bs (pk (M ++ [true]))) (pk (M ++ [true])).length false) (H ++ [⟨26, 0, sqc s⟩, ⟨28, 0, pic p⟩, ⟨34, 0, [.int .i64 0, .slice [] 0 true]⟩, ⟨5, M.length + 1, []⟩, ⟨73, 0, stc st⟩]) := by
          refine CallOk.frz1 (args' := [.slice (bs (zb M)) M.length false]) (id := H.length + 3) (k := ⟨5, M.length, bs (zb M)⟩) (apn _ _ 3) ?_ ⟨.inr ⟨M.length, 1, true, rfl, by simp [zM], rfl⟩, trivial⟩
          rw [aps]
          exact payload_ref M false _ (by omega)
        have hps := un_sc H.length (1 + row) 0 (pk (M ++ [true])) (pk (M ++ [true])).length false
        generalize bs (pk (M ++ [true])) = Y at *
        generalize (pk (M ++ [true])).length = N at *
        (repeat refine PW.seq ?_); refine PW.rg rfl fun K hK => ?_; simp (disch:=omega) only [go_sem, ↓reduceIte]
        refine VCx.call (pr) rfl ?_; simp (disch:=omega) only [go_sem, ↓reduceIte]; refine hK _ _ ?_; clear hK K
        refine PW.ret ⟨.tup [.agg [.int .i64 (1 + row), .slice Y N false], .int .i64 0], by simp (disch:=omega) only [go_sem, ↓reduceIte, presults, presult, List.mapM_cons, List.mapM_nil, Option.pure_def, Option.bind_eq_bind], ?_⟩
        rw [← hres]
        exact Fin.base (.id hps)
end Go.Proofs.YthmladiijdlgkaaGreat.Sc

namespace Go.Proofs.YthmladiijdlgkaaGreat.Sc
set_option linter.all false
set_option linter.unusedVariables false
set_option linter.unusedSimpArgs false
open Pm Ty Go.RowKit
def tz8 (b : Nat) : Nat := if b % 2 ≠ 0 then 0 else if b % 4 ≠ 0 then 1 else if b % 8 ≠ 0 then 2 else if b % 16 ≠ 0 then 3 else if b % 32 ≠ 0 then 4 else if b % 64 ≠ 0 then 5 else if b % 128 ≠ 0 then 6 else if b % 256 ≠ 0 then 7 else 8
theorem tz8_fact : ∀ b < 256, b = 0 ∨ (tz8 b < 8 ∧ b / 2 ^ tz8 b % 2 = 1 ∧ ∀ j < 8, tz8 b ≤ j ∨ b / 2 ^ j % 2 = 0) := by decide +kernel
def isInt (r : Option Res) (v : Nat) : Bool := match r with
  | some (.val (.int .i64 n) []) => n == (v : Int)
  | _ => false
theorem tz_all : ∀ b : Nat, b < 256 → isInt (evalN Tryz.prog 100 (.call 54 [.int .u8 (b : Int)] [])) (tz8 b) = true := by decide +kernel
theorem tz_ok (b : Nat) (hb : b < 256) (H : Heap) : CallOk Tryz.prog 54 [.int .u8 (b : Int)] H (.int .i64 (tz8 b : Int)) H := by
  refine CallOk.eval 100 ?_ ?_
  · have h := tz_all b hb
    unfold isInt at h
    split at h
    · rename_i he; rw [he, eq_of_beq h]
    · cases h
  · intro x hx
    simp only [List.mem_cons, List.not_mem_nil, or_false] at hx
    rw [hx]; exact .int _ _
def lastB (q : List UInt8) : Nat := (q.getD (q.length - 1) 0).toNat
def nb (q : List UInt8) : Nat := 8 * q.length - 1 - tz8 (lastB q)
theorem newr_bad (q : List UInt8) (f : Bool) (H : Heap) (hl : q.length ≤ 100000000) (hb : q.length = 0 ∨ lastB q = 0) :
    CallOk Tryz.prog 26 [.slice (bs q) q.length f] H (.tup [.nilp, .int .i64 3]) H := by
  refine CallOk.body (F0 := [(0, .slice (bs q) q.length f)]) Tryz.func26 rfl Tryz.ntmps26 Tryz.results26 rfl (by kernel_rfl) rfl ?_
  by_cases h0 : q.length = 0
  · (repeat refine PW.seq ?_); refine PW.rg rfl fun K hK => ?_; simp (disch:=omega) only [go_sem]; refine hK _ _ ?_; clear hK K
    (repeat refine PW.seq ?_); refine PW.rg rfl fun K hK => ?_; simp (disch:=omega) only [go_sem, ↓reduceIte, plen, h0]
    refine hK _ _ ?_; clear hK K
    (repeat refine PW.seq ?_); refine PW.cond (t := _) rfl (fun h => ?_) (fun h => ?_)
    · (repeat refine PW.seq ?_); refine PW.rg rfl fun K hK => ?_; simp (disch:=omega) only [go_sem]; refine hK _ _ ?_; clear hK K
      exact PW.ret ⟨_, rfl, Fin.now⟩
    · cases h
  · have e1 : (q.length : Int) - 1 = ((q.length - 1 : Nat) : Int) := by omega
    have hby : byt q (q.length - 1) = 0 := by
      have : byt q (q.length - 1) = (lastB q : Int) := rfl
      omega
    (repeat refine PW.seq ?_); refine PW.rg rfl fun K hK => ?_; simp (disch:=omega) only [go_sem]; refine hK _ _ ?_; clear hK K
    (repeat refine PW.seq ?_); refine PW.rg rfl fun K hK => ?_; simp (disch:=omega) only [go_sem, ↓reduceIte, plen, e1, bs_get, length_bs, hby]
    refine hK _ _ ?_; clear hK K
    (repeat refine PW.seq ?_); refine PW.cond (t := _) rfl (fun h => ?_) (fun h => ?_)
    · (repeat refine PW.seq ?_); refine PW.rg rfl fun K hK => ?_; simp (disch:=omega) only [go_sem]; refine hK _ _ ?_; clear hK K
      exact PW.ret ⟨_, rfl, Fin.now⟩
    · cases h
theorem newr_ok (q : List UInt8) (f : Bool) (H : Heap) (hl : q.length ≤ 100000000) (hq : q.length ≠ 0) (hb : lastB q ≠ 0) :
    CallOk Tryz.prog 26 [.slice (bs q) q.length f] H (.tup [.ptr (H.length + 1) 0 0, .int .i64 0]) (H ++ [⟨5, 1, []⟩, rA q (nb q) 0]) := by
  have e1 : (q.length : Int) - 1 = ((q.length - 1 : Nat) : Int) := by omega
  have hby : byt q (q.length - 1) = (lastB q : Int) := rfl
  have hlt : lastB q < 256 := UInt8.toNat_lt _
  have htz : tz8 (lastB q) < 8 := ((tz8_fact _ hlt).resolve_left hb).1
  refine CallOk.body (F0 := [(0, .slice (bs q) q.length f)]) Tryz.func26 rfl Tryz.ntmps26 Tryz.results26 rfl (by kernel_rfl) rfl ?_
  (repeat refine PW.seq ?_); refine PW.rg rfl fun K hK => ?_; simp (disch:=omega) only [go_sem]; refine hK _ _ ?_; clear hK K
  (repeat refine PW.seq ?_); refine PW.rg rfl fun K hK => ?_; simp (disch:=omega) only [go_sem, ↓reduceIte, plen, e1, bs_get, length_bs, hby]; refine hK _ _ ?_; clear hK K
  (repeat refine PW.seq ?_); refine PW.cond (t := _) rfl (fun h => ?_) (fun h => ?_)
  · cases h
  refine PW.skip ?_
  (repeat refine PW.seq ?_); refine PW.rg rfl fun K hK => ?_; simp (disch:=omega) only [go_sem, plen]; refine hK _ _ ?_; clear hK K
  have hcl : (List.replicate q.length [PV.int .u8 0]).flatten.length = q.length := by simp
  refine PW.to [0, 4] [(0, .slice (bs q) q.length f), (4, .ptr (H.length + 1) 0 0)] (H ++ [⟨5, 0, bs q⟩, ⟨114, 0, [.msl H.length 0 0 q.length 1 true, .int .i64 0, .int .i64 0]⟩]) ?_ ?_
  · (repeat refine PW.seq ?_); refine PW.rg rfl fun K hK => ?_; simp (disch:=omega) only [go_sem, ↓reduceIte, length_bs, hcl]; refine hK _ _ ?_; clear hK K
    refine ⟨rfl, ?_⟩
    have htk : List.take q.length (bs q) = bs q := List.take_of_length_le (by rw [length_bs]; exact Nat.le_refl _)
    simp [length_bs, htk]
  refine PW.view (Vs.frzCell (id := H.length) (id' := H.length + 1) (j := 0) (hp0 _ _ _) (hp1 _ _ _ _) (by omega) rfl (by simp [length_bs])) ?_
  simp only [hs0, hs1, List.set_cons_zero]
  (repeat refine PW.seq ?_); refine PW.rg rfl fun K hK => ?_; simp (disch:=omega) only [go_sem, ↓reduceIte, plen, length_bs, e1, bs_get, hby]; refine VCx.call (tz_ok _ hlt _) rfl ?_; simp (disch:=omega) only [go_sem, ↓reduceIte]; refine hK _ _ ?_; clear hK K
  (repeat refine PW.seq ?_); refine PW.rg rfl fun K hK => ?_; simp (disch:=omega) only [go_sem]; refine hK _ _ ?_; clear hK K
  have e2 : 8 * (q.length : Int) - 1 - (tz8 (lastB q) : Int) = (nb q : Int) := by unfold nb; omega
  refine PW.ret ⟨_, rfl, ?_⟩
  refine .inl ⟨?_, ?_⟩
  · simp [slot]
  · rw [e2]; rfl
end Go.Proofs.YthmladiijdlgkaaGreat.Sc

namespace Go.Proofs.YthmladiijdlgkaaGreat.Sc
set_option linter.all false
set_option linter.unusedVariables false
set_option linter.unusedSimpArgs false
open Pm Ty Go.RowKit
def bl (q : List UInt8) : List Bool := (List.range (8 * q.length)).map fun k => decide (ubit q k = 1)
theorem ubit_last (q : List UInt8) (r : Nat) (hq : q.length ≠ 0) (hr : r < 8) : ubit q (8 * q.length - 1 - r) = lastB q / 2 ^ r % 2 := by
  unfold ubit lastB
  rw [show (8 * q.length - 1 - r) / 8 = q.length - 1 by omega, show 7 - (8 * q.length - 1 - r) % 8 = r by omega]
theorem nb_one (q : List UInt8) (hq : q.length ≠ 0) (hb : lastB q ≠ 0) : ubit q (nb q) = 1 ∧ nb q < 8 * q.length ∧ ∀ j, nb q < j → j < 8 * q.length → ubit q j = 0 := by
  have hlt : lastB q < 256 := UInt8.toNat_lt _
  obtain ⟨h1, h2, h3⟩ := (tz8_fact _ hlt).resolve_left hb
  refine ⟨?_, by unfold nb; omega, fun j hj hj2 => ?_⟩
  · rw [nb, ubit_last q _ hq h1, h2]
  · unfold nb at hj
    have := ubit_last q (8 * q.length - 1 - j) hq (by omega)
    rw [show 8 * q.length - 1 - (8 * q.length - 1 - j) = j by omega] at this
    rw [this]
    exact (h3 _ (by omega)).resolve_left (by omega)
end Go.Proofs.YthmladiijdlgkaaGreat.Sc

namespace Go.Proofs.YthmladiijdlgkaaGreat.Sc
set_option linter.all false
set_option linter.unusedVariables false
set_option linter.unusedSimpArgs false
open Pm Ty Go.RowKit
theorem ubit_pk (l : List Bool) (k : Nat) (h : k / 8 < (l.length + 7) / 8) : ubit (pk l) k = bn l k := by
  have h1 : ((pk l).getD (k / 8) 0).toNat = pkN l (k / 8) := by
    have := pk_byt l (k / 8) h
    simp only [byt] at this
    omega
  unfold ubit
  rw [h1]
  obtain ⟨i, r, rfl, hr⟩ : ∃ i r, k = 8 * i + r ∧ r < 8 := ⟨k / 8, k % 8, by omega, by omega⟩
  rw [show (8 * i + r) / 8 = i by omega, show (8 * i + r) % 8 = r by omega]
  unfold pkN
  have b0 := bn_lt l (8 * i)
  have b1 := bn_lt l (8 * i + 1)
  have b2 := bn_lt l (8 * i + 2)
  have b3 := bn_lt l (8 * i + 3)
  have b4 := bn_lt l (8 * i + 4)
  have b5 := bn_lt l (8 * i + 5)
  have b6 := bn_lt l (8 * i + 6)
  have b7 := bn_lt l (8 * i + 7)
  have h3 : r = 0 ∨ r = 1 ∨ r = 2 ∨ r = 3 ∨ r = 4 ∨ r = 5 ∨ r = 6 ∨ r = 7 := by omega
  rcases h3 with rfl | rfl | rfl | rfl | rfl | rfl | rfl | rfl
  all_goals (simp only [Nat.reduceSub, Nat.reducePow, Nat.add_zero]; omega)
theorem vl_bits (q : List UInt8) (a n V : Nat) (h : ∀ i < n, ubit q (a + i) = V / 2 ^ (n - 1 - i) % 2) : ∀ k ≤ n, vl q a k = V / 2 ^ (n - k) % 2 ^ k
  | 0, _ => by simp [vl, Nat.mod_one]
  | k + 1, hk => by
    rw [vl, vl_bits q a n V h k (by omega), h k (by omega), show n - k = (n - 1 - k) + 1 by omega, show n - (k + 1) = n - 1 - k by omega, Nat.pow_succ 2 (n - 1 - k), ← Nat.div_div_eq_div_mul, Nat.pow_succ 2 k, Nat.mul_comm (2 ^ k) 2, Nat.mod_mul]
    omega
theorem vl_all (q : List UInt8) (a n V : Nat) (hV : V < 2 ^ n) (h : ∀ i < n, ubit q (a + i) = V / 2 ^ (n - 1 - i) % 2) : vl q a n = V := by
  rw [vl_bits q a n V h n (Nat.le_refl _), Nat.sub_self, Nat.pow_zero, Nat.div_one, Nat.mod_eq_of_lt hV]
theorem bn_left (l m : List Bool) (k : Nat) (h : k < l.length) : bn (l ++ m) k = bn l k := by unfold bn; rw [List.getElem?_append_left h]
theorem bn_right (l m : List Bool) (k : Nat) (h : l.length ≤ k) : bn (l ++ m) k = bn m (k - l.length) := by unfold bn; rw [List.getElem?_append_right h]
theorem bn_vbits (V n i : Nat) (h : i < n) : bn (vbits V n) i = V / 2 ^ (n - 1 - i) % 2 := by
  unfold bn vbits
  rw [List.getElem?_map, List.getElem?_range h, Option.map_some, Option.getD_some, bit_toNat]
theorem pk_payload (L : List Bool) : (pk (L ++ [true])).length ≠ 0 ∧ lastB (pk (L ++ [true])) ≠ 0 ∧ nb (pk (L ++ [true])) = L.length ∧ L.length ≤ 8 * (pk (L ++ [true])).length ∧ ∀ k, k < L.length → ubit (pk (L ++ [true])) k = bn L k := by
  have hl : (L ++ [true]).length = L.length + 1 := by simp
  have hlen : (pk (L ++ [true])).length = (L.length + 8) / 8 := by rw [pk_len, hl]
  have hu : ∀ k, k < 8 * ((L.length + 8) / 8) → ubit (pk (L ++ [true])) k = bn (L ++ [true]) k := fun k hk => ubit_pk _ k (by rw [hl]; omega)
  have h1 : ubit (pk (L ++ [true])) L.length = 1 := by
    rw [hu _ (by omega), bn_right _ _ _ (Nat.le_refl _), Nat.sub_self]; rfl
  have hq : (pk (L ++ [true])).length ≠ 0 := by omega
  have hb : lastB (pk (L ++ [true])) ≠ 0 := fun e => by
    have := ubit_last (pk (L ++ [true])) (8 * (pk (L ++ [true])).length - 1 - L.length) hq (by omega)
    rw [e, Nat.zero_div, show 8 * (pk (L ++ [true])).length - 1 - (8 * (pk (L ++ [true])).length - 1 - L.length) = L.length by omega, h1] at this
    omega
  obtain ⟨n1, n2, n3⟩ := nb_one _ hq hb
  refine ⟨hq, hb, ?_, by omega, fun k hk => by rw [hu k (by omega), bn_left _ _ _ hk]⟩
  rcases Nat.lt_trichotomy (nb (pk (L ++ [true]))) L.length with h | h | h
  · have := n3 _ h (by omega)
    omega
  · exact h
  · have h2 := hu _ (by omega : nb (pk (L ++ [true])) < _)
    rw [n1, bn_out _ _ (by rw [hl]; omega)] at h2
    omega
end Go.Proofs.YthmladiijdlgkaaGreat.Sc

namespace Go.Proofs.YthmladiijdlgkaaGreat.Sc
set_option linter.all false
set_option linter.unusedVariables false
set_option linter.unusedSimpArgs false
open Pm Ty Go.RowKit
theorem mtk_b {c : Cx} {q : List UInt8} {n a : Nat} {s : St} {y : Mb × St} {a1 : Nat} (h : mtk c s q n a = .ok y a1) (ha : a ≤ n) (hs : vrS s) : a1 ≤ n ∧ y.1.lv.length = 384 := by
  unfold mtk at h
  cases h1 : tkKd c q n a with
  | er e a2 => rw [h1] at h; cases h
  | ok x a2 =>
    obtain ⟨b1, b2⟩ := tkKd_b h1 ha
    rw [h1, Rr.bind_ok] at h
    unfold tkRs at h
    cases h2 : tkPr c q n x.1 s a2 with
    | er e a3 => rw [h2] at h; cases h
    | ok y2 a3 =>
      obtain ⟨c1, c2, _⟩ := tkPr_b h2 b1 hs
      rw [h2, Rr.bind_ok] at h
      cases h3 : tkCh c q n x.2 y2.1 y2.2 a3 with
      | er e a4 => rw [h3] at h; cases h
      | ok y3 a4 =>
        obtain ⟨d1, d2, _⟩ := tkCh_b h3 c1
        rw [h3, Rr.bind_ok] at h
        cases h4 : tkCo q n x.2 y3.1 a4 with
        | er e a5 => rw [h4] at h; cases h
        | ok y4 a5 =>
          obtain ⟨e1, e2, _⟩ := tkCo_b h4 d1
          rw [h4, Rr.bind_ok] at h
          cases h5 : tkLv q n 6 y4 y3.2 a5 with
          | er e a6 => rw [h5] at h; cases h
          | ok y5 a6 =>
            obtain ⟨f1, f2, _⟩ := tkLv_b 6 y4 y3.2 a5 h5 e1 (by omega) (by rw [e2, d2, c2, b2]; exact zl384_len)
            rw [h5, Rr.bind_ok] at h
            injection h with g1 g2
            subst g1 g2
            exact ⟨f1, f2⟩
theorem mtkA_b {c : Cx} {q : List UInt8} {n a : Nat} {s : St} {y : Mb × St} {a1 : Nat} (h : mtkA c s q n a = .ok y a1) (ha : a ≤ n) : a1 ≤ n ∧ y.1.lv.length = 384 := by
  unfold mtkA at h
  split at h
  · rename_i hv
    rw [Bool.and_eq_true] at hv
    exact mtk_b h ha (vst_b hv.2).2.1
  · cases h
def slL (c : Cx) (q : List UInt8) (n : Nat) : Nat → St → Nat → Rr (List Mb × St)
  | 0, s, a => .ok ([], s) a
  | r + 1, s, a => (mtkA c s q n a).bind fun y a1 => (slL c q n r y.2 a1).bind fun z a2 => .ok (y.1 :: z.1, z.2) a2
def wmb (s : Sq) : Nat := (s.w.tdiv 16).toNat
def slT (s : Sq) (p : Pi) (b : Bool) (t : Int) (q : List UInt8) : Rr (Nat × List Mb) :=
  if fitB s p b && (decide (1 ≤ t) && decide (t < 1 + prows s p)) then
    (if q.length = 0 ∨ lastB q = 0 then .er 2 0 else if nb q < 5 then .er 3 0 else if vl q 0 5 = 0 then .er 2 0 else
      (slL (cxP s p b) q (nb q) (wmb s) (st0 (vl q 0 5 : Int)) 5).bind fun z a => if a = nb q then .ok (vl q 0 5, z.1) a else .er 2 a) else .er 0 0
def rvT : Rr (Nat × List Mb) → PV
  | .ok x _ => .tup [.int .i64 (x.1 : Int), .slice (x.2.flatMap mbc) x.2.length false, .int .i64 0]
  | .er e _ => .tup [.int .i64 0, .slice [] 0 true, ecd e]
def zrp (r : Nat) : List PV := (List.replicate r zmv).flatten
theorem zrp_succ (r : Nat) : zrp (r + 1) = zmv ++ zrp r := by simp [zrp, List.replicate_succ]
theorem zrp_len : ∀ r, (zrp r).length = r * 408
  | 0 => by simp [zrp]
  | r + 1 => by rw [zrp_succ, List.length_append, zrp_len r, zmv_len]; omega
theorem tk_cons {D : List Mb} {m : Mb} (hD : ∀ x ∈ D, x.lv.length = 384) (k r : Nat) (hk : D.length = k) : List.take (k * 408) (D.flatMap mbc ++ zrp (r + 1)) ++ (mbc m ++ List.drop (k * 408 + 408) (D.flatMap mbc ++ zrp (r + 1))) = (D ++ [m]).flatMap mbc ++ zrp r := by
  have hl := flat_len mbc 408 D (fun x hx => mbc_len x (hD x hx))
  rw [hk] at hl
  rw [List.take_left' hl, List.drop_append, List.drop_of_length_le (by omega), hl, show k * 408 + 408 - k * 408 = 408 by omega, zrp_succ, List.nil_append, List.drop_left' zmv_len, List.flatMap_append]
  simp
theorem cl_len {D : List Mb} (hD : ∀ x ∈ D, x.lv.length = 384) (k r : Nat) (hk : D.length = k) : (D.flatMap mbc ++ zrp r).length = (k + r) * 408 := by
  rw [List.length_append, flat_len mbc 408 D (fun x hx => mbc_len x (hD x hx)), hk, zrp_len, Nat.add_mul]
def sH (H : Heap) (s : Sq) (p : Pi) (t : Int) (q : List UInt8) (f : Bool) (n a : Nat) (c : Cx) (st : St) (B : List PV) : Heap := H ++ [⟨26, 0, sqc s⟩, ⟨28, 0, pic p⟩, ⟨34, 0, [.int .i64 t, .slice (bs q) q.length f]⟩, ⟨5, 1, []⟩, rA q n a, ⟨51, 0, cxc c⟩, ⟨58, 0, stc st⟩, ⟨68, 0, B⟩]
theorem T_sc (n : Nat) (v e : Int) : Scoped n (.tup [.int .i64 v, .slice [] 0 true, .int .i64 e]) := .tup (all_scoped' fun x hx => by
  simp only [List.mem_cons, List.not_mem_nil, or_false] at hx
  rcases hx with rfl | rfl | rfl
  · exact .int _ _
  · exact sl_scoped (fun x hx => by cases hx)
  · exact .int _ _)
set_option maxHeartbeats 8000000 in
set_option maxRecDepth 100000 in
theorem slice_ok (s : Sq) (p : Pi) (b : Bool) (t : Int) (q : List UInt8) (f : Bool) (H : Heap) (hs : SqOk s) (ht : i64r t) (hq : q.length ≤ 100000000) :
    CallOk Tryz.prog 8 [.agg (sqc s), .agg (pic p), .bool b, .agg [.int .i64 t, .slice (bs q) q.length f]] H (rvT (slT s p b t q)) H := by
  have fo := fun K => fits_ok s p b K hs
  have ro := fun K => prows_ok s p K hs
  have co := fun K => ctx_ok s p b K hs
  have so := fun v K => start_ok v K
  have h1 := sqc_cell s
  have h2 := sqc_len s hs
  have h3 := sqc_tk s hs
  have h4 := sqc_w s
  have p6 : (pic p).length = 6 := rfl
  have t6 : List.take 6 (pic p) = pic p := rfl
  have l8 : ∀ t, (stc t).length = 8 := fun _ => rfl
  have c8 : ∀ t, (stc t).all PV.cell = true := fun _ => rfl
  have tk8 : ∀ t, List.take 8 (stc t) = stc t := fun _ => rfl
  have dk8 : ∀ t, List.drop 8 (stc t) = [] := fun _ => rfl
  have c4 : ∀ c, (cxc c).all PV.cell = true := fun _ => rfl
  have l4 : ∀ c, (cxc c).length = 4 := fun _ => rfl
  have tk4 : ∀ c, List.take 4 (cxc c) = cxc c := fun _ => rfl
  have dk4 : ∀ c, List.drop 4 (cxc c) = [] := fun _ => rfl
  generalize hres : slT s p b t q = res
  unfold slT at hres
  refine CallOk.body (F0 := [(0, .agg (sqc s)), (1, .agg (pic p)), (2, .bool b), (3, .agg [.int .i64 t, .slice (bs q) q.length f])]) Tryz.func8 rfl Tryz.ntmps8 Tryz.results8 rfl (by kernel_rfl) rfl ?_
  (repeat refine PW.seq ?_); refine PW.rg rfl fun K hK => ?_; simp (disch:=omega) only [go_sem, h1, pic]; refine hK _ _ ?_; clear hK K
  suffices hrest : PW Tryz.prog _ _ [(0, .agg (sqc s)), (1, .agg (pic p)), (2, .bool b), (4, .ptr H.length 0 0), (5, .ptr (H.length + 1) 0 0), (7, .ptr (H.length + 2) 0 0), (36, .bool (!(fitB s p b && (decide (1 ≤ t) && decide (t < 1 + prows s p)))))] (H ++ [⟨26, 0, sqc s⟩, ⟨28, 0, pic p⟩, ⟨34, 0, [.int .i64 t, .slice (bs q) q.length f]⟩]) _ by
    cases hf : fitB s p b with
    | false =>
      rw [hf] at fo hrest
      (repeat refine PW.seq ?_); refine PW.draw mix (by kernel_rfl) fun K hK => ?_; simp (disch:=omega) only [go_sem, ↓reduceIte, h2, h3]
      refine VCy.call (fo _) rfl ?_; simp (disch:=omega) only [go_sem, ↓reduceIte]; refine hK _ _ ?_; clear hK K
      exact PW.at [0, 1, 2, 4, 5, 7, 36] hrest rfl rfl
    | true =>
      rw [hf] at fo hrest
      rw [Bool.true_and] at hrest
      by_cases ht1 : 1 ≤ t
      · have d1 : decide (t < 1) = false := decide_eq_false (by omega)
        have hpr : 0 ≤ prows s p ∧ prows s p ≤ 4 := by
          unfold prows
          split
          · rename_i hv
            have := pvalid_h hv
            split
            · have := Int.tdiv_eq_ediv_of_nonneg (a := s.h) (b := 16) (by omega)
              omega
            · have := Int.tdiv_eq_ediv_of_nonneg (a := s.h) (b := 32) (by omega)
              omega
          · omega
        have d2 : decide (1 + prows s p ≤ t) = !decide (t < 1 + prows s p) := by
          by_cases h : t < 1 + prows s p
          · rw [decide_eq_true h, decide_eq_false (by omega)]; rfl
          · rw [decide_eq_false h, decide_eq_true (by omega)]; rfl
        rw [decide_eq_true ht1, Bool.true_and, ← d2] at hrest
        (repeat refine PW.seq ?_); refine PW.draw mix (by kernel_rfl) fun K hK => ?_; simp (disch:=omega) only [go_sem, ↓reduceIte, h2, h3]
        refine VCy.call (fo _) rfl ?_; simp (disch:=omega) only [go_sem, ↓reduceIte, d1, h2, h3]
        refine VCy.call (ro _) rfl ?_; simp (disch:=omega) only [go_sem, ↓reduceIte]; refine hK _ _ ?_; clear hK K
        exact PW.at [0, 1, 2, 4, 5, 7, 36] hrest rfl rfl
      · have d1 : decide (t < 1) = true := decide_eq_true (by omega)
        rw [decide_eq_false ht1, Bool.false_and] at hrest
        (repeat refine PW.seq ?_); refine PW.draw mix (by kernel_rfl) fun K hK => ?_; simp (disch:=omega) only [go_sem, ↓reduceIte, h2, h3]
        refine VCy.call (fo _) rfl ?_; simp (disch:=omega) only [go_sem, ↓reduceIte, d1]; refine hK _ _ ?_; clear hK K
        exact PW.at [0, 1, 2, 4, 5, 7, 36] hrest rfl rfl
  cases hc : (fitB s p b && (decide (1 ≤ t) && decide (t < 1 + prows s p))) with
  | false =>
    rw [hc, if_neg (by decide)] at hres
    (repeat refine PW.seq ?_); refine PW.cond (t := _) rfl (fun h => ?_) (fun h => ?_)
    rotate_left
    · cases h
    (repeat refine PW.seq ?_); refine PW.rg rfl fun K hK => ?_; simp (disch:=omega) only [go_sem]; refine hK _ _ ?_; clear hK K
    refine PW.ret ⟨.tup [.int .i64 0, .slice [] 0 true, .int .i64 1], by simp (disch:=omega) only [go_sem, presults, presult, List.mapM_cons, List.mapM_nil, Option.pure_def, Option.bind_eq_bind], ?_⟩
    rw [← hres]
    exact Fin.base (.id (T_sc _ _ _))
  | true =>
    rw [hc, if_pos rfl] at hres
    rw [Bool.and_eq_true] at hc
    have hw : 1 ≤ wmb s ∧ wmb s ≤ 4 ∧ s.w.tdiv 16 = ((wmb s : Nat) : Int) := by
      have hv : pvalid s p = true := by
        have := hc.1
        unfold fitB at this
        rw [Bool.and_eq_true] at this
        exact this.1
      have := pvalid_h hv
      have e := Int.tdiv_eq_ediv_of_nonneg (a := s.w) (b := 16) (by omega)
      unfold wmb
      omega
    clear fo ro hc
    (repeat refine PW.seq ?_); refine PW.cond (t := _) rfl (fun h => ?_) (fun h => ?_)
    · cases h
    refine PW.skip ?_
    by_cases hb : q.length = 0 ∨ lastB q = 0
    · rw [if_pos hb] at hres
      have nr := fun K => newr_bad q f K hq hb
      (repeat refine PW.seq ?_); refine PW.rg rfl fun K hK => ?_; simp (disch:=omega) only [go_sem, ↓reduceIte]; refine VCx.call (nr _) rfl ?_; simp (disch:=omega) only [go_sem]; refine hK _ _ ?_; clear hK K
      (repeat refine PW.seq ?_); refine PW.rg rfl fun K hK => ?_; simp (disch:=omega) only [go_sem, ↓reduceIte]; refine hK _ _ ?_; clear hK K
      (repeat refine PW.seq ?_); refine PW.cond (t := _) rfl (fun h => ?_) (fun h => ?_)
      rotate_left
      · cases h
      (repeat refine PW.seq ?_); refine PW.rg rfl fun K hK => ?_; simp (disch:=omega) only [go_sem]; refine hK _ _ ?_; clear hK K
      refine PW.ret ⟨.tup [.int .i64 0, .slice [] 0 true, .int .i64 3], by simp (disch:=omega) only [go_sem, presults, presult, List.mapM_cons, List.mapM_nil, Option.pure_def, Option.bind_eq_bind], ?_⟩
      rw [← hres]
      exact Fin.base (.id (T_sc _ _ _))
    rw [if_neg hb] at hres
    obtain ⟨hb1, hb2⟩ := not_or.1 hb
    have nr := fun K => newr_ok q f K hq hb1 hb2
    obtain ⟨_, n2, _⟩ := nb_one q hb1 hb2
    generalize nb q = n at *
    (repeat refine PW.seq ?_); refine PW.rg rfl fun K hK => ?_; simp (disch:=omega) only [go_sem, ↓reduceIte]; refine VCx.call (nr _) rfl ?_; simp (disch:=omega) only [go_sem]; refine hK _ _ ?_; clear hK K
    (repeat refine PW.seq ?_); refine PW.rg rfl fun K hK => ?_; simp (disch:=omega) only [go_sem, ↓reduceIte]; refine hK _ _ ?_; clear hK K
    (repeat refine PW.seq ?_); refine PW.cond (t := _) rfl (fun h => ?_) (fun h => ?_)
    · cases h
    refine PW.skip ?_
    have gr := fun a X => (apn H ([⟨26, 0, sqc s⟩, ⟨28, 0, pic p⟩, ⟨34, 0, [.int .i64 t, .slice (bs q) q.length f]⟩, ⟨5, 1, []⟩, rA q n a] ++ X) 4)
    by_cases h5 : n < 5
    · rw [if_pos h5] at hres
      have tk := rtake_short (H.length + 4) q n 0 5 _ (gr 0 []) (by omega) (by omega) (by omega) (by omega)
      (repeat refine PW.seq ?_); refine PW.rg rfl fun K hK => ?_; simp (disch:=omega) only [go_sem]; refine VCx.call (tk) rfl ?_; simp (disch:=omega) only [go_sem]; refine hK _ _ ?_; clear hK K
      (repeat refine PW.seq ?_); refine PW.rg rfl fun K hK => ?_; simp (disch:=omega) only [go_sem, ↓reduceIte]; refine hK _ _ ?_; clear hK K
      (repeat refine PW.seq ?_); refine PW.cond (t := _) rfl (fun h => ?_) (fun h => ?_)
      rotate_left
      · cases h
      (repeat refine PW.seq ?_); refine PW.rg rfl fun K hK => ?_; simp (disch:=omega) only [go_sem]; refine hK _ _ ?_; clear hK K
      refine PW.ret ⟨.tup [.int .i64 0, .slice [] 0 true, .int .i64 4], by simp (disch:=omega) only [go_sem, presults, presult, List.mapM_cons, List.mapM_nil, Option.pure_def, Option.bind_eq_bind], ?_⟩
      rw [← hres]
      exact Fin.base (.id (T_sc _ _ _))
    rw [if_neg h5] at hres
    have tk := rtake_ok (H.length + 4) q n 0 5 _ (gr 0 []) (by omega) (by omega) (by omega) (by omega)
    rw [aps] at tk
    simp only [List.append_nil, List.set_cons_succ, List.set_cons_zero, Nat.zero_add] at tk
    have hvl := vl_lt q 0 5
    generalize vl q 0 5 = v at *
    (repeat refine PW.seq ?_); refine PW.rg rfl fun K hK => ?_; simp (disch:=omega) only [go_sem]; refine VCx.call (tk) rfl ?_; simp (disch:=omega) only [go_sem]; refine hK _ _ ?_; clear hK K
    (repeat refine PW.seq ?_); refine PW.rg rfl fun K hK => ?_; simp (disch:=omega) only [go_sem, ↓reduceIte]; refine hK _ _ ?_; clear hK K
    (repeat refine PW.seq ?_); refine PW.cond (t := _) rfl (fun h => ?_) (fun h => ?_)
    · cases h
    refine PW.skip ?_
    by_cases hv0 : v = 0
    · rw [if_pos hv0] at hres
      have d1 : ((v : Int) == 0) = true := by simp [hv0]
      (repeat refine PW.seq ?_); refine PW.rg rfl fun K hK => ?_; simp (disch:=omega) only [go_sem, ↓reduceIte, d1]; refine hK _ _ ?_; clear hK K
      (repeat refine PW.seq ?_); refine PW.cond (t := _) rfl (fun h => ?_) (fun h => ?_)
      rotate_left
      · cases h
      (repeat refine PW.seq ?_); refine PW.rg rfl fun K hK => ?_; simp (disch:=omega) only [go_sem]; refine hK _ _ ?_; clear hK K
      refine PW.ret ⟨.tup [.int .i64 0, .slice [] 0 true, .int .i64 3], by simp (disch:=omega) only [go_sem, presults, presult, List.mapM_cons, List.mapM_nil, Option.pure_def, Option.bind_eq_bind], ?_⟩
      rw [← hres]
      exact Fin.base (.id (T_sc _ _ _))
    rw [if_neg hv0] at hres
    have d1 : ((v : Int) == 0) = false := by rw [beq_eq_false_iff_ne]; omega
    (repeat refine PW.seq ?_); refine PW.rg rfl fun K hK => ?_; simp (disch:=omega) only [go_sem, ↓reduceIte, d1]; refine hK _ _ ?_; clear hK K
    (repeat refine PW.seq ?_); refine PW.cond (t := _) rfl (fun h => ?_) (fun h => ?_)
    · cases h
    refine PW.skip ?_
    have co1 := fun K => co K
    have so1 := fun K => so (v : Int) K
    generalize cxP s p b = c at *
    (repeat refine PW.seq ?_); refine PW.rg rfl fun K hK => ?_; simp (disch:=omega) only [go_sem, ↓reduceIte, h2, h3, p6, t6]
    refine VCx.call (co1 _) rfl ?_; simp (disch:=omega) only [go_sem, ↓reduceIte]
    refine VCx.call (so1 _) rfl ?_; simp (disch:=omega) only [go_sem, ↓reduceIte, l8, l4, Nat.reduceAdd]; refine hK _ _ ?_; clear hK K
    obtain ⟨w1, w2, w3⟩ := hw
    generalize wmb s = w at *
    (repeat refine PW.seq ?_); refine PW.rg rfl fun K hK => ?_; simp (disch:=omega) only [go_sem, ↓reduceIte, h4, w3, ↓zcMb, zmv_len]; refine hK _ _ ?_; clear hK K
    refine PW.at [11, 13, 14, 15, 16] (F1 := [(11, .ptr (H.length + 4) 0 0), (13, .int .u32 (v : Int)), (14, .ptr (H.length + 5) 0 0), (15, .ptr (H.length + 6) 0 0), (16, .msl (H.length + 7) 0 0 w 408 true)]) (H1 := sH H s p t q f n 5 c (st0 v) (zrp w)) ?_ (by simp [kp, slot]) rfl
    have gq := apn H [⟨26, 0, sqc s⟩, ⟨28, 0, pic p⟩, ⟨34, 0, [.int .i64 t, .slice (bs q) q.length f]⟩, ⟨5, 1, []⟩, rA q n 5, ⟨51, 0, cxc c⟩, ⟨58, 0, stc (st0 v)⟩, ⟨68, 0, zrp w⟩] 7
    (repeat refine PW.seq ?_); refine PW.rg rfl fun K hK => ?_; simp (disch:=omega) only [go_sem, plen, sH, apn]; refine hK _ _ ?_; clear hK K
    (repeat refine PW.seq ?_); refine PW.block (PW.loop ?_)
    suffices hl1 : ∀ (k : Nat) (D : List Mb) (st : St) (a : Nat), k ≤ w → D.length = k → (∀ x ∈ D, x.lv.length = 384) → a ≤ n → ((slL c q n (w - k) st a).bind fun z a => if a = n then Rr.ok (v, D ++ z.1) a else .er 2 a) = res →
        PL Tryz.prog _ _ [(11, .ptr (H.length + 4) 0 0), (13, .int .u32 (v : Int)), (14, .ptr (H.length + 5) 0 0), (15, .ptr (H.length + 6) 0 0), (16, .msl (H.length + 7) 0 0 w 408 true), (68, .int .i64 (w : Int)), (69, .int .i64 (k : Int))] (sH H s p t q f n a c st (D.flatMap mbc ++ zrp (w - k))) _ by
      exact PL.at [11, 13, 14, 15, 16, 68, 69] (hl1 0 [] (st0 v) 5 (by omega) rfl (fun x hx => by cases hx) (by omega) hres) (by simp [kp, slot]) rfl
    clear hres gr tk nr co1 so1 co so
    intro k D st a hk hD hDl ha hres
    induction hd : w - k using Nat.strongRecOn generalizing k D st a with
    | _ d ih =>
      refine PL.round ?_; (repeat refine PW.seq ?_); refine PW.rg rfl fun K hK => ?_; simp (disch:=omega) only [go_sem, ↓reduceIte]; refine hK _ _ ?_; clear hK K
      (repeat refine PW.seq ?_); refine PW.cond (t := _) rfl (fun h => ?_) (fun h => ?_)
      · have h5k : k < w := by have := of_decide_eq_true h; omega
        obtain ⟨r, hr⟩ : ∃ r, d = r + 1 := ⟨d - 1, by omega⟩
        subst hr
        have hr2 : w - (k + 1) = r := by omega
        have hcl := cl_len hDl k (r + 1) hD
        have tkc := fun m => tk_cons (m := m) hDl k r hD
        rw [hd, slL, Rr.bind_bind] at hres
        have mt := mtake_ok (H.length + 4) q n a c st (sH H s p t q f n a c st (D.flatMap mbc ++ zrp (r + 1))) (apn _ _ 4) ha (by omega) hq
        refine PW.skip ?_; (repeat refine PW.seq ?_); refine PW.block ?_
        (repeat refine PW.seq ?_); refine PW.rg rfl fun K hK => ?_; simp (disch:=omega) only [go_sem]; refine hK _ _ ?_; clear hK K
        (repeat refine PW.seq ?_); refine PW.rg rfl fun K hK => ?_; simp (disch:=omega) only [go_sem, ↓reduceIte, sH, apn, tk4, l4, tk8, l8]
        unfold sH at mt
        refine VCx.callR mt rfl fun v' H' hR => ?_
        obtain ⟨rfl, hH⟩ := hR
        cases hm : mtkA c st q n a with
        | er e a1 =>
          rw [hm] at hH hres
          obtain ⟨a2, _, rfl⟩ := hH
          rw [Rr.bind_er] at hres
          have d0 : ((e : Int) + 1 != 0) = true := by simp; omega
          have hzl := zmv_len
          have hzc := zmv_cell
          simp (disch:=omega) only [go_sem, ↓reduceIte, rvM, ecd, apn, aps, hcl, hzl, l8, dk8]
          refine hK _ _ ?_; clear hK K
          (repeat refine PW.seq ?_); refine PW.rg rfl fun K hK => ?_; simp (disch:=omega) only [go_sem, ↓reduceIte, d0]; refine hK _ _ ?_; clear hK K
          (repeat refine PW.seq ?_); refine PW.cond (t := _) rfl (fun h => ?_) (fun h => ?_)
          rotate_left
          · cases h
          (repeat refine PW.seq ?_); refine PW.rg rfl fun K hK => ?_; simp (disch:=omega) only [go_sem]; refine hK _ _ ?_; clear hK K
          refine PW.ret ⟨.tup [.int .i64 0, .slice [] 0 true, .int .i64 ((e : Int) + 1)], by simp (disch:=omega) only [go_sem, presults, presult, List.mapM_cons, List.mapM_nil, Option.pure_def, Option.bind_eq_bind], ?_⟩
          rw [← hres]
          exact Fin.base (.id (T_sc _ _ _))
        | ok y a1 =>
          rw [hm] at hH hres
          subst hH
          obtain ⟨b1, b2⟩ := mtkA_b hm ha
          rw [Rr.bind_ok, Rr.bind_bind] at hres
          have m408 := mbc_len y.1 b2
          have mcl := mbc_cell y.1
          have htk1 := tkc y.1
          simp (disch:=omega) only [go_sem, ↓reduceIte, rvM, apn, aps, hcl, m408, htk1, l8, dk8]
          refine hK _ _ ?_; clear hK K
          (repeat refine PW.seq ?_); refine PW.rg rfl fun K hK => ?_; simp (disch:=omega) only [go_sem, ↓reduceIte]; refine hK _ _ ?_; clear hK K
          (repeat refine PW.seq ?_); refine PW.cond (t := _) rfl (fun h => ?_) (fun h => ?_)
          · cases h
          refine PW.skip ?_
          (repeat refine PW.seq ?_); refine PW.rg rfl fun K hK => ?_; simp (disch:=omega) only [go_sem, ↓reduceIte]; refine hK _ _ ?_; clear hK K
          refine PL.at [11, 13, 14, 15, 16, 68, 69] (ih r (by omega) (k + 1) (D ++ [y.1]) y.2 a1 (by omega) (by simp [hD]) (fun x hx => ?_) b1 ?_ hr2) rfl ?_
          · rcases List.mem_append.1 hx with hx | hx
            · exact hDl x hx
            · rw [List.mem_singleton] at hx
              rw [hx]; exact b2
          · rw [hr2, ← hres]
            congr 1
            funext z a'
            simp only [Rr.bind, List.append_assoc, List.cons_append, List.nil_append]
          · rfl
      · have h6 : k = w := by have := of_decide_eq_false h; omega
        subst h6
        refine PW.exit ?_
        rw [Nat.sub_self] at hd
        subst hd
        rw [Nat.sub_self, slL, Rr.bind_ok] at hres
        have hcl := cl_len hDl k 0 hD
        have lf := rleft_ok (H.length + 4) q n a (sH H s p t q f n a c st (D.flatMap mbc ++ zrp 0)) (apn _ _ 4) ha (by omega)
        unfold sH at lf
        by_cases han : a = n
        · rw [if_pos han] at hres
          rw [han, Nat.sub_self] at lf
          subst han
          (repeat refine PW.seq ?_); refine PW.rg rfl fun K hK => ?_; simp (disch:=omega) only [go_sem, sH]
          refine VCx.call (lf) rfl ?_; simp (disch:=omega) only [go_sem, ↓reduceIte]; refine hK _ _ ?_; clear hK K
          (repeat refine PW.seq ?_); refine PW.cond (t := _) rfl (fun h => ?_) (fun h => ?_)
          · cases h
          refine PW.skip ?_
          (repeat refine PW.seq ?_); refine PW.rg rfl fun K hK => ?_; simp (disch:=omega) only [go_sem]; refine hK _ _ ?_; clear hK K
          refine PW.ret ⟨.tup [.int .i64 (v : Int), .msl (H.length + 7) 0 0 k 408 true, .int .i64 0], by simp (disch:=omega) only [go_sem, presults, presult, List.mapM_cons, List.mapM_nil, Option.pure_def, Option.bind_eq_bind], ?_⟩
          rw [← hres]
          have hz0 : zrp 0 = [] := by simp [zrp]
          refine Fin.base (Fz.tupC ⟨.id (.int _ _), ?_, .id (.int _ _), trivial⟩)
          rw [List.append_nil, hD, hz0, List.append_nil]
          exact Fz.mslC (e := 68) (xs := D.flatMap mbc) (by omega) (apn _ _ 7) (by rw [flat_len mbc 408 D (fun x hx => mbc_len x (hDl x hx)), hD]) (FzC.refl (mbl_sc D _))
        · rw [if_neg han] at hres
          have d0 : (((n - a : Nat) : Int) != 0) = true := by simp; omega
          (repeat refine PW.seq ?_); refine PW.rg rfl fun K hK => ?_; simp (disch:=omega) only [go_sem, sH]
          refine VCx.call (lf) rfl ?_; simp (disch:=omega) only [go_sem, ↓reduceIte, d0]; refine hK _ _ ?_; clear hK K
          (repeat refine PW.seq ?_); refine PW.cond (t := _) rfl (fun h => ?_) (fun h => ?_)
          rotate_left
          · cases h
          (repeat refine PW.seq ?_); refine PW.rg rfl fun K hK => ?_; simp (disch:=omega) only [go_sem]; refine hK _ _ ?_; clear hK K
          refine PW.ret ⟨.tup [.int .i64 0, .slice [] 0 true, .int .i64 3], by simp (disch:=omega) only [go_sem, presults, presult, List.mapM_cons, List.mapM_nil, Option.pure_def, Option.bind_eq_bind], ?_⟩
          rw [← hres]
          exact Fin.base (.id (T_sc _ _ _))
end Go.Proofs.YthmladiijdlgkaaGreat.Sc

namespace Go.Proofs.YthmladiijdlgkaaGreat.Sc
set_option linter.all false
set_option linter.unusedVariables false
set_option linter.unusedSimpArgs false
open Pm Ty Go.RowKit
def Rd (q : List UInt8) (n a : Nat) (L : List Bool) : Prop := a + L.length ≤ n ∧ ∀ k, k < L.length → ubit q (a + k) = bn L k
section
variable {q : List UInt8} {n a : Nat}
theorem Rd.l {L M : List Bool} (h : Rd q n a (L ++ M)) : Rd q n a L := by
  have := h.1
  rw [List.length_append] at this
  exact ⟨by omega, fun k hk => by rw [h.2 k (by rw [List.length_append]; omega), bn_left _ _ _ hk]⟩
theorem Rd.r {L M : List Bool} (h : Rd q n a (L ++ M)) : Rd q n (a + L.length) M := by
  have := h.1
  rw [List.length_append] at this
  exact ⟨by omega, fun k hk => by
    have h2 := h.2 (L.length + k) (by rw [List.length_append]; omega)
    rw [bn_right _ _ _ (by omega), show L.length + k - L.length = k by omega] at h2
    rw [Nat.add_assoc]; exact h2⟩
theorem tkF_rd {b : Bool} (h : Rd q n a [b]) : tkF q n a = .ok b (a + 1) := by
  have h1 := h.1
  have h2 := h.2 0 (by simp)
  rw [Nat.add_zero] at h2
  unfold tkF
  rw [if_pos (by simp at h1; omega), h2]
  cases b <;> rfl
theorem zrs_rd : ∀ (c k a : Nat), (∀ j, j < k → a + j < n ∧ ubit q (a + j) = 0) → ubit q (a + k) = 1 → k < c → zrs q n c a = k
  | 0, k, a, _, _, hc => by omega
  | c + 1, 0, a, _, h1, _ => zrs_one (by simpa using h1)
  | c + 1, k + 1, a, h0, h1, hc => by
    have := h0 0 (by omega)
    rw [Nat.add_zero] at this
    rw [zrs_step this.1 this.2, zrs_rd c k (a + 1) (fun j hj => by
      have := h0 (j + 1) (by omega)
      rw [show a + 1 + j = a + (j + 1) by omega]; exact this) (by rw [show a + 1 + k = a + (k + 1) by omega]; exact h1) (by omega)]
theorem tkU_rd {v : Nat} (hv : v ≤ 65534) (h : Rd q n a (eg v)) : tkU q n a = .ok v (a + (eg v).length) := by
  have hk := log2_b v hv
  have hl1 := Nat.log2_self_le (n := v + 1) (by omega)
  have hl2 := @Nat.lt_log2_self (v + 1)
  have hlen : (eg v).length = 2 * Nat.log2 (v + 1) + 1 := by simp [eg, vbits_len]; omega
  have e0 := h.l
  have e1 := h.r
  rw [hlen]
  rw [vbits_len] at e1
  have hn := h.1
  rw [hlen] at hn
  generalize Nat.log2 (v + 1) = k at *
  have hz : zrs q n 16 a = k := by
    refine zrs_rd 16 k a (fun j hj => ⟨by omega, ?_⟩) ?_ (by omega)
    · rw [e0.2 j (by rw [vbits_len]; exact hj), bn_vbits _ _ _ hj, Nat.zero_div]
    · have := e1.2 0 (by rw [vbits_len]; omega)
      rw [Nat.add_zero, bn_vbits _ _ _ (by omega), show k + 1 - 1 - 0 = k by omega] at this
      rw [this]
      have h3 : (v + 1) / 2 ^ k < 2 := by rw [Nat.div_lt_iff_lt_mul (Nat.pow_pos (by omega))]; rw [Nat.pow_succ] at hl2; omega
      have h4 : 1 ≤ (v + 1) / 2 ^ k := by rw [Nat.le_div_iff_mul_le (Nat.pow_pos (by omega))]; omega
      omega
  have hv1 : vl q (a + k) (k + 1) = v + 1 := vl_all q (a + k) (k + 1) (v + 1) hl2 fun i hi => by rw [e1.2 i (by rw [vbits_len]; exact hi), bn_vbits _ _ _ hi]
  have hv2 : vl q (a + k) (1 + k) = ubit q (a + k) * 2 ^ k + vl q (a + k + 1) k := by rw [vl_add]; simp [vl]
  have hu1 : ubit q (a + k) = 1 := by
    have := zrs_at (q := q) (n := n) 16 a (by omega) (by omega)
    rwa [hz] at this
  rw [Nat.add_comm 1 k, hv1, hu1, Nat.one_mul] at hv2
  unfold tkU
  rw [hz, if_neg (by omega), if_neg (by omega), ← hv2]
  congr 1
theorem usg_fld (v : Int) : usg (fld v) = v := by
  unfold usg fld
  split
  · rw [if_pos (by omega)]; omega
  · rw [if_neg (by omega)]; omega
theorem tkS_rd {v : Int} (hv : -32767 ≤ v ∧ v ≤ 32767) (h : Rd q n a (sg v)) : tkS q n a = .ok v (a + (sg v).length) := by
  unfold tkS
  rw [tkU_rd (fld_b v hv) h, Rr.bind_ok, usg_fld]; rfl
theorem tkD_rd {pr v : Int} {most : Nat} (hv : win v most = true) (hr : -32767 ≤ v - pr ∧ v - pr ≤ 32767) (h : Rd q n a (sg (v - pr))) : tkD q n pr most a = .ok v (a + (sg (v - pr)).length) := by
  unfold tkD
  rw [tkS_rd hr h, Rr.bind_ok, show pr + (v - pr) = v by omega, if_pos hv]
def fillL (bl : List Int) : Nat → Nat → List Int → List Int
  | 0, _, l => l
  | r + 1, p, l => if intAt bl p = 0 then fillL bl r (p + 1) l else fillL bl r (p + 1) (l.set p (intAt bl p))
theorem tkB_rd {bl : List Int} (hbl : inrB bl) : ∀ (r p at' f a : Nat) (l : List Int), p + r = 64 → at' ≤ p → 64 < at' + f → Rd q n a (bkR bl r p at') → tkB q n f at' a l = .ok (fillL bl r p l) (a + (bkR bl r p at').length)
  | 0, p, at', f, a, l, hp, ha, hf, h => by
    obtain ⟨f', rfl⟩ : ∃ f', f = f' + 1 := ⟨f - 1, by omega⟩
    simp only [tkB, bkR, fillL] at h ⊢
    rw [tkU_rd (by omega) h, Rr.bind_ok, if_pos rfl]
  | r + 1, p, at', f, a, l, hp, ha, hf, h => by
    by_cases h0 : intAt bl p = 0
    · simp only [bkR, fillL, if_pos h0] at h ⊢
      exact tkB_rd hbl r (p + 1) at' f a l (by omega) (by omega) hf h
    · obtain ⟨f', rfl⟩ : ∃ f', f = f' + 1 := ⟨f - 1, by omega⟩
      simp only [bkR, fillL, if_neg h0] at h ⊢
      have w := win_b (hbl p (by omega))
      rw [tkB, tkU_rd (by omega) h.l, Rr.bind_ok, if_neg (by omega), if_neg (by omega), tkS_rd (by omega) h.r.l, Rr.bind_ok, if_neg h0, hbl p (by omega), if_neg (by decide)]
      rw [show at' + (p + 1 - at') = p + 1 by omega, show p + 1 - 1 = p by omega]
      rw [tkB_rd hbl r (p + 1) (p + 1) f' _ _ (by omega) (by omega) (by omega) h.r.r]
      congr 1
      simp only [List.length_append]; omega
theorem fillL_len (bl : List Int) : ∀ (r p : Nat) (l : List Int), (fillL bl r p l).length = l.length
  | 0, p, l => rfl
  | r + 1, p, l => by
    simp only [fillL]; split
    · exact fillL_len bl r _ l
    · rw [fillL_len bl r _ _, List.length_set]
theorem fillL_at (bl : List Int) : ∀ (r p : Nat) (l : List Int) (x : Nat), x < l.length → intAt (fillL bl r p l) x = if p ≤ x ∧ x < p + r ∧ intAt bl x ≠ 0 then intAt bl x else intAt l x
  | 0, p, l, x, hx => by simp only [fillL]; rw [if_neg (by omega)]
  | r + 1, p, l, x, hx => by
    simp only [fillL]
    split
    · rename_i h0
      rw [fillL_at bl r (p + 1) l x hx]
      by_cases e : x = p
      · subst e; rw [if_neg (by omega), if_neg (by simp [h0])]
      · by_cases h : p + 1 ≤ x ∧ x < p + 1 + r ∧ intAt bl x ≠ 0
        · rw [if_pos h, if_pos ⟨by omega, by omega, h.2.2⟩]
        · rw [if_neg h, if_neg fun h2 => h ⟨by omega, by omega, h2.2.2⟩]
    · rename_i h0
      rw [fillL_at bl r (p + 1) _ x (by rw [List.length_set]; exact hx)]
      by_cases e : x = p
      · subst e
        rw [if_neg (by omega), if_pos ⟨by omega, by omega, h0⟩]
        simp [intAt, hx]
      · have hne : intAt (l.set p (intAt bl p)) x = intAt l x := by simp [intAt, List.getElem?_set_ne (Ne.symm e)]
        rw [hne]
        by_cases h : p + 1 ≤ x ∧ x < p + 1 + r ∧ intAt bl x ≠ 0
        · rw [if_pos h, if_pos ⟨by omega, by omega, h.2.2⟩]
        · rw [if_neg h, if_neg fun h2 => h ⟨by omega, by omega, h2.2.2⟩]
theorem ext_int {l m : List Int} (hl : l.length = m.length) (h : ∀ x, x < l.length → intAt l x = intAt m x) : l = m := by
  apply List.ext_getElem hl
  intro x h1 h2
  have := h x h1
  simpa [intAt, h1, h2] using this
theorem tkBl_rd {bl : List Int} {fr : Nat} (hbl : inrB bl) (hl : bl.length = 64) (hfr : fr ≤ 1) (h : Rd q n a (bkc bl fr)) : tkBl q n fr a = .ok (if fr = 0 then bl else bl.set 0 0) (a + (bkc bl fr).length) := by
  unfold tkBl
  rw [tkB_rd hbl (64 - fr) fr fr 65 a z64 (by omega) (Nat.le_refl _) (by omega) h]
  congr 1
  have hz : z64.length = 64 := by simp [z64]
  have hz0 : ∀ x, intAt z64 x = 0 := fun x => by
    unfold intAt z64
    rw [List.getD_eq_getElem?_getD, List.getElem?_replicate]
    split <;> rfl
  have h1 : fr = 0 ∨ fr = 1 := by omega
  rcases h1 with rfl | rfl
  · rw [if_pos rfl]
    refine ext_int (by rw [fillL_len, hz, hl]) fun x hx => ?_
    rw [fillL_len, hz] at hx
    rw [fillL_at _ _ _ _ _ (by omega), hz0]
    by_cases e : intAt bl x = 0
    · rw [if_neg (by simp [e]), e]
    · rw [if_pos ⟨by omega, by omega, e⟩]
  · rw [if_neg (by omega)]
    refine ext_int (by rw [fillL_len, List.length_set, hz, hl]) fun x hx => ?_
    rw [fillL_len, hz] at hx
    rw [fillL_at _ _ _ _ _ (by omega), hz0]
    by_cases e0 : x = 0
    · subst e0
      rw [if_neg (by omega)]
      simp [intAt, hl]
    · have hne : intAt (bl.set 0 0) x = intAt bl x := by simp [intAt, List.getElem?_set_ne (Ne.symm e0)]
      rw [hne]
      by_cases e : intAt bl x = 0
      · rw [if_neg (by simp [e]), e]
      · rw [if_pos ⟨by omega, by omega, e⟩]
end
end Go.Proofs.YthmladiijdlgkaaGreat.Sc

namespace Go.Proofs.YthmladiijdlgkaaGreat.Sc
set_option linter.all false
set_option linter.unusedVariables false
set_option linter.unusedSimpArgs false
open Pm Ty Go.RowKit
theorem win63 {x : Int} (h : -63 ≤ x ∧ x ≤ 63) : win x 63 = true := by simp [win]; omega
def stV (m : Mb) (d k : Nat) (m0 : Mb) : Mb := setVm (setSl m0 d k (slm m d k)) d k (vXm m d k) (vYm m d k)
def dirM (m : Mb) (d : Nat) (m0 : Mb) : Mb := if usd m d then (if m.fp then stV m d 1 (stV m d 0 m0) else stV m d 0 m0) else m0
theorem stV_same (m : Mb) (d k : Nat) (m0 : Mb) : SameU m0 (stV m d k m0) := (setSl_same _ _ _ _).trans (setVm_same _ _ _ _ _)
section
variable {q : List UInt8} {n a : Nat} {c : Cx} {m : Mb} {s : St}
theorem tkVc_rd {m0 : Mb} {d k : Nat} (hm : vrM m) (hs : vrS s) (hf : m0.fp = m.fp) (h1 : (m.fp || fcx c) = true → slm m d k = 0 ∨ slm m d k = 1) (h0 : (m.fp || fcx c) = false → setSl m0 d k (slm m d k) = m0) (h : Rd q n a (vec1 c m s d k)) :
    tkVc c q n m0 s d k a = .ok (stV m d k m0, setV s d (vXm m d k) (vYm m d k)) (a + (vec1 c m s d k).length) := by
  have x1 := (hm d k).1
  have x2 := (hm d k).2
  have y1 := (hs d).1
  have y2 := (hs d).2
  unfold tkVc
  unfold vec1 at h ⊢
  rw [hf]
  cases hb : (m.fp || fcx c) with
  | true =>
    rw [hb, if_pos rfl] at h
    rw [if_pos rfl, if_pos rfl, tkF_rd h.l, Rr.bind_ok, Rr.bind_ok]
    have h3 := h.r
    rw [List.length_singleton] at h3
    rw [tkD_rd (win63 x1) (by omega) h3.l, Rr.bind_ok, tkD_rd (win63 x2) (by omega) h3.r, Rr.bind_ok]
    have hsl : ((decide (slm m d k = 1)).toNat : Int) = slm m d k := by
      rcases h1 hb with e | e <;> rw [e] <;> rfl
    rw [hsl]
    unfold stV
    congr 1
    simp only [List.length_append, List.length_singleton]; omega
  | false =>
    rw [hb, if_neg (by decide), List.nil_append] at h
    rw [if_neg (by decide), if_neg (by decide), Rr.bind_ok, tkD_rd (win63 x1) (by omega) h.l, Rr.bind_ok, tkD_rd (win63 x2) (by omega) h.r, Rr.bind_ok]
    unfold stV
    rw [h0 hb]
    congr 1
    simp only [List.length_append, List.nil_append]; omega
theorem tkDr_rd {m0 : Mb} {d : Nat} (hm : vrM m) (hs : vrS s) (hU : m0.ua = m.ua ∧ m0.ub = m.ub ∧ m0.fp = m.fp) (h1 : usd m d = true → (m.fp || fcx c) = true → ∀ k, k < 2 → slm m d k = 0 ∨ slm m d k = 1) (h0 : usd m d = true → (m.fp || fcx c) = false → setSl m0 d 0 (slm m d 0) = m0) (h : Rd q n a (dirB c m s d).1) :
    tkDr c q n m0 s d a = .ok (dirM m d m0, (dirB c m s d).2) (a + (dirB c m s d).1.length) := by
  have hus : usd m0 d = usd m d := by unfold usd; rw [hU.1, hU.2.1]
  have hnv : nvM m0 = nvM m := by unfold nvM; rw [hU.2.2]
  unfold tkDr
  unfold dirB at h ⊢
  unfold dirM
  rw [hus, hnv]
  cases hu : usd m d with
  | false => rfl
  | true =>
    rw [hu, if_pos rfl] at h
    simp only [if_true] at h ⊢
    cases hf : m.fp with
    | false =>
      have e1 : nvM m = 1 := by unfold nvM; rw [hf]; rfl
      rw [e1] at h ⊢
      simp only [vecsR, e1, Nat.sub_self, Nat.zero_add] at h ⊢
      simp only [tkVs]
      rw [tkVc_rd hm hs hU.2.2 (fun e => h1 hu e 0 (by omega)) (h0 hu) h.l, Rr.bind_ok, List.append_nil, if_neg (by decide)]
    | true =>
      have e1 : nvM m = 2 := by unfold nvM; rw [hf]; rfl
      rw [e1] at h ⊢
      simp only [vecsR, e1, Nat.sub_self, Nat.zero_add, List.append_nil, Nat.reduceAdd, Nat.reduceSub] at h ⊢
      simp only [tkVs]
      have hno : ∀ m0' : Mb, (m.fp || fcx c) = false → setSl m0' d 1 (slm m d 1) = m0' := fun m0' e => by rw [hf] at e; cases e
      rw [tkVc_rd hm hs hU.2.2 (fun e => h1 hu e 0 (by omega)) (h0 hu) h.l, Rr.bind_ok]
      dsimp only
      rw [tkVc_rd hm (vrS_set hm hs d 0) ((stV_same m d 0 m0).2.2.2.1.trans hU.2.2) (fun e => h1 hu e 1 (by omega)) (hno _) h.r, Rr.bind_ok, if_pos trivial]
      congr 1
      simp only [List.length_append]; omega
end
def mP (m : Mb) : Mb := ⟨2, m.ua, m.ub, m.fp, false, m.va, m.vb, m.vc, m.vd, m.ve, m.vf, m.vg, m.vh, m.sa, m.sb, m.sc, m.sd, 0, false, false, false, false, false, false, zl384⟩
structure Itr (c : Cx) (m : Mb) : Prop where
  t : ¬c.t = 1
  u : (m.ua || m.ub) = true
  p : c.t = 2 → m.ua = true ∧ m.ub = false
  f : m.fp = true → bcx c = true
  a : dirS c m.fp m.ua m.va m.vb m.vc m.vd m.sa m.sb = true
  b : dirS c m.fp m.ub m.ve m.vf m.vg m.vh m.sc m.sd = true
  h : fch c m = true
  k : fbl (cdl m) m.lv = true
theorem itr_of {c : Cx} {m : Mb} (hk : m.k = 2) (h : fmS c m = true) : Itr c m := by
  unfold fmS at h
  rw [if_neg (by omega), if_neg (by omega), if_pos hk, Bool.and_eq_true] at h
  by_cases ht : c.t = 1
  · rw [intS_I c m ht] at h; cases h.2
  · have h2 := h.2
    rw [intS_eq c m hk ht] at h2
    simp only [Bool.and_eq_true, fprd, d0S, d1S, Bool.not_eq_true'] at h2
    obtain ⟨⟨h3, h4, h5, h6⟩, hf, hb, hl⟩ := h2
    unfold useB at h3
    simp only [Bool.or_eq_false_iff, Bool.and_eq_false_iff, decide_eq_false_iff_not, Bool.not_eq_false'] at h3
    obtain ⟨g1, g2⟩ := h3
    refine ⟨ht, ?_, fun e => ?_, fun e => ?_, h5, h6, hf, hb⟩
    · cases hua : m.ua <;> cases hub : m.ub <;> simp_all
    · rcases g1 with g1 | g1
      · exact absurd e g1
      · simpa using g1
    · cases hb2 : bcx c with
      | true => rfl
      | false => rw [e, hb2] at h4; cases h4
theorem fl_of {m : Mb} (h : fbl (cdl m) m.lv = true) (j : Nat) (hj : j < 6) : flagAt (cdl m) j = !zbk m.lv j := by
  have := List.all_eq_true.1 h j (List.mem_range.2 hj)
  cases h1 : flagAt (cdl m) j <;> cases h2 : zbk m.lv j <;> rw [h1, h2] at this <;> simp_all
set_option maxHeartbeats 1000000 in
theorem dirs_eq (c : Cx) (m : Mb) (v : Nat) (h : Itr c m) (hv : v = numM c m) (hk : m.k = 2) : dirM m 1 (dirM m 0 { peMb v with fp := m.fp }) = mP m ∧ (peMb v).ua = m.ua ∧ (peMb v).ub = m.ub ∧ decide (v % 2 = 0) = hlM m ∧ 0 < v ∧ v < 7 ∧ (c.t = 2 → v < 3) := by
  obtain ⟨h1, h2, h3, h4, h5, h6, _⟩ := h
  have hn : numM c m = (if m.ua && !m.ub then 1 else if !m.ua && m.ub then 3 else 5) + (hlM m).toNat := by unfold numM; rw [if_neg (by omega), if_pos hk]
  rw [hn] at hv
  generalize hlM m = hl at *
  obtain ⟨k, ua, ub, fp, fd, va, vb, vc, vd, ve, vf, vg, vh, sa, sb, sc, sd, dl, ca, cb, cc, cd, ce, cf, lv⟩ := m
  simp only at *
  subst hk
  cases ua <;> cases ub <;> cases fp <;> cases hl <;>
    simp only [dirS, Bool.false_eq_true, if_false, if_true, Bool.and_eq_true, decide_eq_true_eq, Bool.or_eq_true, Bool.not_true, Bool.not_false, Bool.and_true, Bool.and_false, Bool.true_or, Bool.false_or, and_true, true_and, Bool.toNat_true, Bool.toNat_false, reduceCtorEq] at * <;>
    subst hv <;>
    simp_all [dirM, stV, usd, setVm, setSl, slm, vXm, vYm, mP, peMb]
theorem sel_of {c : Cx} {m : Mb} (h : Itr c m) (d : Nat) (hd : d < 2) : usd m d = true → ((∀ k, k < 2 → slm m d k = 0 ∨ slm m d k = 1) ∧ ((m.fp || fcx c) = false → slm m d 0 = 0)) := fun hu => by
  obtain ⟨_, _, _, _, h5, h6, _⟩ := h
  have h2 : d = 0 ∨ d = 1 := by omega
  have h3 : ∀ k, k < 2 → k = 0 ∨ k = 1 := fun k hk => by omega
  rcases h2 with rfl | rfl
  · simp only [usd, if_true] at hu
    rw [hu] at h5
    simp only [dirS, if_true, Bool.and_eq_true, Bool.or_eq_true, decide_eq_true_eq] at h5
    refine ⟨fun k hk => ?_, fun e => ?_⟩
    · rcases h3 k hk with rfl | rfl
      · exact h5.2.2.1
      · exact h5.2.2.2.1
    · rw [Bool.or_eq_false_iff] at e
      have := h5.2.2.2.2.2
      rw [e.1, e.2] at this
      simpa [slm] using this
  · simp only [usd, if_neg (show ¬(1 : Nat) = 0 by omega)] at hu
    rw [hu] at h6
    simp only [dirS, if_true, Bool.and_eq_true, Bool.or_eq_true, decide_eq_true_eq] at h6
    refine ⟨fun k hk => ?_, fun e => ?_⟩
    · rcases h3 k hk with rfl | rfl
      · exact h6.2.2.1
      · exact h6.2.2.2.1
    · rw [Bool.or_eq_false_iff] at e
      have := h6.2.2.2.2.2
      rw [e.1, e.2] at this
      simpa [slm] using this
end Go.Proofs.YthmladiijdlgkaaGreat.Sc

namespace Go.Proofs.YthmladiijdlgkaaGreat.Sc
set_option linter.all false
set_option linter.unusedVariables false
set_option linter.unusedSimpArgs false
open Pm Ty Go.RowKit
theorem setSl_a (x : Mb) (h : x.sa = 0) : setSl x 0 0 0 = x := by
  cases x; simp only at h; subst h; rfl
theorem setSl_c (x : Mb) (h : x.sc = 0) : setSl x 1 0 0 = x := by
  cases x; simp only at h; subst h; rfl
theorem dirM_sc (m m0 : Mb) : (dirM m 0 m0).sc = m0.sc := by
  unfold dirM
  split
  · split <;> rfl
  · rfl
theorem dirM_same (m : Mb) (d : Nat) (m0 : Mb) : SameU m0 (dirM m d m0) := by
  unfold dirM
  split
  · split
    · exact (stV_same _ _ _ _).trans (stV_same _ _ _ _)
    · exact stV_same _ _ _ _
  · exact .refl _
section
variable {q : List UInt8} {n a : Nat} {c : Cx} {m : Mb} {s : St}
theorem tkPr_rd (hk : m.k = 2) (hI : Itr c m) (hm : vrM m) (hs : vrS s) (h : Rd q n a (b2M c m s)) : tkPr c q n (peMb (numM c m)) s a = .ok (mP m, s2M c m s) (a + (b2M c m s).length) := by
  obtain ⟨e1, e2, e3, _⟩ := dirs_eq c m (numM c m) hI rfl hk
  unfold tkPr
  rw [if_pos (show (peMb (numM c m)).k = 2 from rfl)]
  suffices hr : ∀ a', Rd q n a' (dirsR c m 2 s).1 → tkDs c q n 2 0 { peMb (numM c m) with fp := m.fp } s a' = .ok (mP m, s2M c m s) (a' + (dirsR c m 2 s).1.length) by
    unfold b2M at h ⊢
    rw [if_pos hk] at h ⊢
    cases hb : bcx c with
    | true =>
      rw [hb, if_pos rfl] at h
      have h3 := h.r
      rw [List.length_singleton] at h3
      rw [if_pos rfl, if_pos rfl, tkF_rd h.l, Rr.bind_ok, Rr.bind_ok, hr _ h3]
      congr 1
      simp only [List.length_append, List.length_singleton]; omega
    | false =>
      rw [hb, if_neg (by decide), List.nil_append] at h
      have hf : m.fp = false := by
        cases hfp : m.fp with
        | false => rfl
        | true => have := hI.f hfp; rw [hb] at this; cases this
      rw [if_neg (by decide), if_neg (by decide), Rr.bind_ok, List.nil_append]
      have := hr a h
      rw [hf] at this
      exact this
  intro a' h'
  simp only [dirsR, Nat.sub_self, Nat.sub_zero, List.append_nil] at h' ⊢
  simp only [tkDs]
  have s0 := fun hu => sel_of hI 0 (by omega) hu
  have s1 := fun hu => sel_of hI 1 (by omega) hu
  rw [tkDr_rd (m0 := { peMb (numM c m) with fp := m.fp }) (d := 0) hm hs ⟨e2, e3, rfl⟩ (fun hu _ => (s0 hu).1) (fun hu e => by rw [(s0 hu).2 e]; exact setSl_a _ rfl) h'.l, Rr.bind_ok]
  have hd1 := (dirB_len (c := c) hm hs 0).2
  have sd := dirM_same m 0 { peMb (numM c m) with fp := m.fp }
  dsimp only
  rw [tkDr_rd (d := 1) hm hd1 ⟨sd.2.1.trans e2, sd.2.2.1.trans e3, sd.2.2.2.1⟩ (fun hu _ => (s1 hu).1) (fun hu e => by rw [(s1 hu).2 e]; exact setSl_c _ (dirM_sc _ _)) h'.r, Rr.bind_ok]
  dsimp only
  rw [e1]
  unfold s2M
  rw [if_pos hk]
  simp only [dirsR, Nat.sub_self, Nat.sub_zero]
  congr 1
  simp only [List.length_append]; omega
theorem tkCh_rd {m0 : Mb} (hfc : fch c m = true) (hq : vqB (s.q + m.dl) = true) (h1 : m0.fd = false) (h2 : m0.dl = 0) (h : Rd q n a (b3M c m)) : tkCh c q n (hlM m) m0 s a = .ok ({ m0 with fd := m.fd, dl := m.dl }, s3M m s) (a + (b3M c m).length) := by
  unfold tkCh
  unfold b3M at h ⊢
  unfold s3M
  unfold fch at hfc
  cases hh : hlM m with
  | false =>
    rw [hh, if_neg (by decide)] at hfc
    simp only [Bool.and_eq_true, Bool.not_eq_true', decide_eq_true_eq] at hfc
    rw [if_neg (by decide), if_neg (by decide), if_neg (by decide), hfc.1, hfc.2]
    cases m0
    simp only at h1 h2
    subst h1 h2
    rfl
  | true =>
    rw [hh, if_pos rfl] at hfc h
    simp only [Bool.and_eq_true] at hfc
    have hw := win_b hfc.2
    rw [if_pos rfl, if_pos rfl, if_pos rfl]
    suffices hr : ∀ a', Rd q n a' (sg m.dl) → ((tkS q n a').bind fun d a2 => if vqB (s.q + d) then Rr.ok ({ ({ m0 with fd := m.fd } : Mb) with dl := d }, { s with q := s.q + d }) a2 else .er 2 a2) = .ok ({ m0 with fd := m.fd, dl := m.dl }, ⟨s.q + m.dl, s.da, s.db, s.dc, s.va, s.vb, s.vc, s.vd⟩) (a' + (sg m.dl).length) by
      cases hb : bcx c with
      | true =>
        rw [hb, if_pos rfl] at h
        have h3 := h.r
        rw [List.length_singleton] at h3
        rw [if_pos rfl, if_pos rfl, tkF_rd h.l, Rr.bind_ok, Rr.bind_ok]
        have := hr _ h3
        dsimp only at this ⊢
        rw [this]
        congr 1
        simp only [List.length_append, List.length_singleton]; omega
      | false =>
        rw [hb, if_neg (by decide), List.nil_append] at h
        rw [hb] at hfc
        have hfd : m.fd = false := by simpa using hfc.1
        rw [if_neg (by decide), if_neg (by decide), Rr.bind_ok, List.nil_append]
        have := hr a h
        have em : ({ m0 with fd := m.fd } : Mb) = m0 := by
          cases m0; simp only at h1; subst h1; rw [hfd]
        rw [em] at this
        rw [this]
    intro a' h'
    rw [tkS_rd (by omega) h', Rr.bind_ok, hq, if_pos rfl]
theorem tkCf_rd {m0 : Mb} (hc : anyC m = true) (h : Rd q n a (cdl m)) : tkCf q n 6 m0 a = .ok { m0 with ca := m.ca, cb := m.cb, cc := m.cc, cd := m.cd, ce := m.ce, cf := m.cf } (a + 6) := by
  have h0 : Rd q n a ([m.ca] ++ ([m.cb] ++ ([m.cc] ++ ([m.cd] ++ ([m.ce] ++ [m.cf]))))) := h
  have h1 := h0.r
  have h2 := h1.r
  have h3 := h2.r
  have h4 := h3.r
  have h5 := h4.r
  simp only [List.length_singleton] at h1 h2 h3 h4 h5
  have e1 : ∀ r (m : Mb) a, tkCf q n (r + 1) m a = (tkF q n a).bind fun b a1 => tkCf q n r (setCd m (5 - r) b) a1 := fun r m a => rfl
  have e0 : ∀ (m : Mb) a, tkCf q n 0 m a = if anyC m then .ok m a else .er 2 a := fun m a => rfl
  have hs : setCd (setCd (setCd (setCd (setCd (setCd m0 0 m.ca) 1 m.cb) 2 m.cc) 3 m.cd) 4 m.ce) 5 m.cf = { m0 with ca := m.ca, cb := m.cb, cc := m.cc, cd := m.cd, ce := m.ce, cf := m.cf } := by
    cases m0; rfl
  rw [e1 5, tkF_rd h0.l, Rr.bind_ok, e1 4, tkF_rd h1.l, Rr.bind_ok, e1 3, tkF_rd h2.l, Rr.bind_ok, e1 2, tkF_rd h3.l, Rr.bind_ok, e1 1, tkF_rd h4.l, Rr.bind_ok, e1 0, tkF_rd h5, Rr.bind_ok, e0]
  simp only [Nat.reduceSub]
  rw [hs]
  have ha : anyC { m0 with ca := m.ca, cb := m.cb, cc := m.cc, cd := m.cd, ce := m.ce, cf := m.cf } = anyC m := rfl
  rw [ha, hc, if_pos rfl]
theorem blk_zero {lv : List Int} {j : Nat} (h : zbk lv j = true) : (lv.drop (j * 64)).take 64 = List.replicate 64 0 := by simpa [zbk] using h
theorem lv_step (lv : List Int) (j : Nat) (hl : lv.length = 384) (hj : j < 6) : lv.take ((j + 1) * 64) = lv.take (j * 64) ++ (lv.drop (j * 64)).take 64 := by
  rw [show (j + 1) * 64 = j * 64 + 64 by omega, List.take_add]
theorem tkLv_rd (hml : m.lv.length = 384) (hlr : lrM m) (hkk : m.k = 1 ∨ m.k = 2) (h1 : m.k = 1 → ∀ j, j < 6 → flagAt (cdl m) j = true) (h2 : m.k = 2 → ∀ j, j < 6 → flagAt (cdl m) j = !zbk m.lv j) : ∀ (r : Nat) (m1 : Mb) (s : St) (a : Nat), r ≤ 6 → cdl m1 = cdl m → m1.k = m.k → m1.lv = m.lv.take ((6 - r) * 64) ++ List.replicate (r * 64) 0 → dcR s → Rd q n a (lvsR m r s).1 →
    tkLv q n r m1 s a = .ok ({ m1 with lv := m.lv }, (lvsR m r s).2) (a + (lvsR m r s).1.length)
  | 0, m1, s, a, hr, hc, hk, hlv, hs, h => by
    simp only [tkLv, lvsR, List.length_nil, Nat.add_zero]
    congr 1
    have : m1.lv = m.lv := by rw [hlv]; simp [List.take_of_length_le, hml]
    rw [← this]
  | r + 1, m1, s, a, hr, hc, hk, hlv, hs, h => by
    have hj : 5 - r < 6 := by omega
    have hj6 : (6 - (r + 1)) = 5 - r := by omega
    have hjr : 5 - r + 1 = 6 - r := by omega
    rw [hj6] at hlv
    have htl : (m.lv.take ((5 - r) * 64)).length = (5 - r) * 64 := by rw [List.length_take]; omega
    have hb64 : (blkM m (5 - r)).length = 64 := blk_len m.lv (5 - r) hml hj
    have hbin := blkM_in hlr hj
    have hst := lv_step m.lv (5 - r) hml hj
    rw [hjr] at hst
    have hset : setLv m1 (5 - r) (blkM m (5 - r)) = { m1 with lv := m.lv.take ((6 - r) * 64) ++ List.replicate (r * 64) 0 } := by
      unfold setLv
      congr 1
      rw [hlv, List.take_left' htl, List.drop_append, List.drop_of_length_le (by omega), htl, List.nil_append, hst, List.drop_replicate, show (r + 1) * 64 - ((5 - r) * 64 + 64 - (5 - r) * 64) = r * 64 by omega]
      rfl
    simp only [tkLv, hc]
    rw [lvsR] at h ⊢
    cases hf : flagAt (cdl m) (5 - r) with
    | false =>
      rw [hf, if_neg (by decide)] at h
      rw [if_neg (by decide), if_neg (by decide)]
      have hk2 : m.k = 2 := by
        rcases hkk with e | e
        · have := h1 e _ hj; rw [hf] at this; cases this
        · exact e
      have hz : zbk m.lv (5 - r) = true := by
        have := h2 hk2 _ hj
        rw [hf] at this
        simpa using this.symm
      refine tkLv_rd hml hlr hkk h1 h2 r m1 s a (by omega) hc hk ?_ hs h
      rw [hlv, hst, blk_zero hz, List.append_assoc, List.replicate_append_replicate, show 64 + r * 64 = (r + 1) * 64 by omega]
    | true =>
      rw [hf, if_pos rfl] at h
      rw [if_pos rfl, if_pos rfl]
      rcases hkk with e | e
      · have ne : ¬m.k = 2 := by omega
        have ne1 : ¬m1.k = 2 := by rw [hk]; exact ne
        rw [if_neg ne] at h ⊢
        rw [if_neg ne1]
        have hw := hlr ((5 - r) * 64) (by omega)
        have hwb := win_b hw
        have hd := hs (5 - r - 3)
        have hdr := tkD_rd (most := 4095) hw (by omega) h.l
        rw [hdr, Rr.bind_ok, tkBl_rd hbin hb64 (by omega) h.r.l, Rr.bind_ok, if_neg (by omega)]
        have hb0 : intAt (blkM m (5 - r)) 0 = intAt m.lv ((5 - r) * 64) := blk_at m.lv (5 - r) 0 (by omega)
        have hse : ((blkM m (5 - r)).set 0 0).set 0 (intAt m.lv ((5 - r) * 64)) = blkM m (5 - r) := by
          rw [List.set_set, ← hb0]
          apply List.ext_getElem (by simp)
          intro x x1 x2
          rw [List.getElem_set]
          split
          · rename_i e0; subst e0; simp [intAt, hb64]
          · rfl
        rw [hse, hset]
        rw [tkLv_rd hml hlr (.inl e) h1 h2 r { m1 with lv := m.lv.take ((6 - r) * 64) ++ List.replicate (r * 64) 0 } (setD s (5 - r - 3) (intAt m.lv ((5 - r) * 64))) _ (by omega) hc hk rfl (dcR_set hs _ hwb) h.r.r]
        congr 1
        simp only [List.length_append]; omega
      · have e1 : m1.k = 2 := by rw [hk]; exact e
        rw [if_pos e] at h ⊢
        rw [if_pos e1]
        rw [tkBl_rd hbin hb64 (by omega) h.l, Rr.bind_ok, if_pos rfl]
        have hnz : ¬blkM m (5 - r) = z64 := fun e0 => by
          have := h2 e _ hj
          rw [hf] at this
          have hz : zbk m.lv (5 - r) = true := by
            unfold zbk
            have e1 : (m.lv.drop ((5 - r) * 64)).take 64 = List.replicate 64 0 := e0
            rw [e1]; simp
          rw [hz] at this
          cases this
        rw [if_neg hnz, hset]
        rw [tkLv_rd hml hlr (.inr e) h1 h2 r { m1 with lv := m.lv.take ((6 - r) * 64) ++ List.replicate (r * 64) 0 } s _ (by omega) hc hk rfl hs h.r]
        congr 1
        simp only [List.length_append]; omega
end
end Go.Proofs.YthmladiijdlgkaaGreat.Sc

namespace Go.Proofs.YthmladiijdlgkaaGreat.Sc
set_option linter.all false
set_option linter.unusedVariables false
set_option linter.unusedSimpArgs false
open Pm Ty Go.RowKit
theorem zm_of {m : Mb} (h : zmb m = true) (hml : m.lv.length = 384) : m = zMb := by
  simp only [zmb, Bool.and_eq_true] at h
  have hlv : m.lv = zl384 := by
    have hz := h.2.1
    simp only [zlv, Bool.and_eq_true] at hz
    obtain ⟨h0, h1, h2, h3, h4, h5, _⟩ := hz
    refine ext_int (by rw [hml, zl384_len]) fun x hx => ?_
    rw [hml] at hx
    have hz0 : intAt zl384 x = 0 := by
      unfold intAt zl384
      rw [List.getD_eq_getElem?_getD, List.getElem?_replicate]
      split <;> rfl
    rw [hz0]
    have e : x = x / 64 * 64 + x % 64 := by omega
    have hj : x % 64 < 64 := by omega
    have hn : x / 64 = 0 ∨ x / 64 = 1 ∨ x / 64 = 2 ∨ x / 64 = 3 ∨ x / 64 = 4 ∨ x / 64 = 5 := by omega
    rw [e]
    rcases hn with hn | hn | hn | hn | hn | hn <;> rw [hn]
    · exact zbk_zero h0 hj
    · exact zbk_zero h1 hj
    · exact zbk_zero h2 hj
    · exact zbk_zero h3 hj
    · exact zbk_zero h4 hj
    · exact zbk_zero h5 hj
  have h1 := h.1
  simp only [zA, Bool.and_eq_true, beq_iff_eq, and_true] at h1
  obtain ⟨k, ua, ub, fp, fd, va, vb, vc, vd, ve, vf, vg, vh, sa, sb, sc, sd, dl, ca, cb, cc, cd, ce, cf, lv⟩ := m
  simp only at h1 hlv
  subst hlv
  simp_all [zMb]
section
variable {q : List UInt8} {n a : Nat} {c : Cx} {m : Mb} {s : St}
theorem tkLv_z (s : St) : ∀ (r : Nat) (a : Nat), tkLv q n r zMb s a = .ok (zMb, s) a
  | 0, a => rfl
  | r + 1, a => by
    have : flagAt (cdl zMb) (5 - r) = false := by
      have h : 5 - r = 0 ∨ 5 - r = 1 ∨ 5 - r = 2 ∨ 5 - r = 3 ∨ 5 - r = 4 ∨ 5 - r = 5 := by omega
      rcases h with h | h | h | h | h | h <;> rw [h] <;> rfl
    simp only [tkLv]
    rw [this, if_neg (by decide)]
    exact tkLv_z s r a
theorem lvsR_z (s : St) : ∀ r, lvsR zMb r s = ([], s)
  | 0 => rfl
  | r + 1 => by
    have : flagAt (cdl zMb) (5 - r) = false := by
      have h : 5 - r = 0 ∨ 5 - r = 1 ∨ 5 - r = 2 ∨ 5 - r = 3 ∨ 5 - r = 4 ∨ 5 - r = 5 := by omega
      rcases h with h | h | h | h | h | h <;> rw [h] <;> rfl
    rw [lvsR, this, if_neg (by decide)]
    exact lvsR_z s r
theorem zl_rep : zl384 = m.lv.take ((6 - 6) * 64) ++ List.replicate (6 * 64) 0 := by
  show zl384 = List.take 0 m.lv ++ List.replicate 384 0
  rw [List.take_zero, List.nil_append]; rfl
theorem mtk_rd (hf : fmS c m = true) (vs : vstB s = true) (vq : vqB (s.q + m.dl) = true) (hml : m.lv.length = 384) (h : Rd q n a (mbits c s m)) : mtk c s q n a = .ok (m, mstate c s m) (a + (mbits c s m).length) := by
  have hF := fmd_of hf
  obtain ⟨hq, hv, hd⟩ := vst_b vs
  have hd5 : dcR (s23 c m s) := s3M_dc (dcR_same (s2M_same c m s) hd)
  have hn7 := numM_b c m
  unfold mtk mstate
  unfold mbits at h ⊢
  have hT : (b1M c m ++ (b2M c m s ++ (b3M c m ++ (b4M m ++ (lvsR m 6 (s23 c m s)).1)))).length = (b1M c m).length + (b2M c m s).length + (b3M c m).length + (b4M m).length + (lvsR m 6 (s23 c m s)).1.length := by
    simp only [List.length_append]; omega
  rw [hT]
  have r1 := h.l
  have r2 := h.r.l
  have r3 := h.r.r.l
  have r4 := h.r.r.r.l
  have r5 := h.r.r.r.r
  clear h hT
  rcases hF.k with hk | hk | hk
  · have hz : m = zMb := by
      unfold fmS at hf
      rw [if_pos hk, Bool.and_eq_true, Bool.and_eq_true] at hf
      exact zm_of hf.2.2 hml
    have ht : ¬c.t = 1 := by
      unfold fmS at hf
      rw [if_pos hk, Bool.and_eq_true, Bool.and_eq_true] at hf
      simpa using hf.2.1
    have hn : numM c m = 0 := by unfold numM; rw [if_neg (by omega), if_neg (by omega)]
    have e1 : b1M c m = eg 0 := by unfold b1M; rw [if_neg ht, hn]
    have e2 : b2M c m s = [] := by unfold b2M; rw [if_neg (by omega)]
    have e2' : s2M c m s = s := by unfold s2M; rw [if_neg (by omega)]
    have hh : hlM m = false := (hF.z hk).2
    have e3 : b3M c m = [] := by unfold b3M; rw [hh]; rfl
    have e3' : s3M m s = s := by unfold s3M; rw [hh]; rfl
    have e4 : b4M m = [] := by unfold b4M; rw [hh, Bool.and_false]; rfl
    have e5 : s23 c m s = s := by unfold s23; rw [e2', e3']
    rw [e1] at r1
    rw [e1, e2, e3, e4, e5]
    unfold tkKd
    rw [if_neg ht, tkU_rd (by omega) r1, Rr.bind_ok, if_neg (by split <;> omega), if_neg (by split <;> omega), if_pos rfl, Rr.bind_ok]
    dsimp only
    unfold tkRs
    rw [show tkPr c q n zMb s (a + (eg 0).length) = .ok (zMb, s) (a + (eg 0).length) from rfl, Rr.bind_ok]
    dsimp only
    rw [show tkCh c q n false zMb s (a + (eg 0).length) = .ok (zMb, s) (a + (eg 0).length) from rfl, Rr.bind_ok]
    dsimp only
    rw [show tkCo q n false zMb (a + (eg 0).length) = .ok zMb (a + (eg 0).length) from rfl, Rr.bind_ok, tkLv_z, Rr.bind_ok, hz, lvsR_z]
    rfl
  · have hn : ¬c.t = 1 → numM c m = if c.t = 2 then 3 else 7 := fun ht => by unfold numM; rw [if_pos hk]
    have hh : hlM m = true := by simp [hlM, hk]
    have hfc : zI m = true ∧ aC m = true ∧ fch c m = true := by
      unfold fmS at hf
      rw [if_neg (by omega), if_pos hk] at hf
      simp only [Bool.and_eq_true] at hf
      exact ⟨hf.2.1, hf.2.2.1, hf.2.2.2.1⟩
    have e2 : b2M c m s = [] := by unfold b2M; rw [if_neg (by omega)]
    have e2' : s2M c m s = s := by unfold s2M; rw [if_neg (by omega)]
    have e4 : b4M m = [] := by unfold b4M; rw [decide_eq_false (by omega), Bool.false_and]; rfl
    have e5 : s23 c m s = s3M m s := by unfold s23; rw [e2']
    have hkd : tkKd c q n a = .ok (inMb, true) (a + (b1M c m).length) := by
      unfold tkKd
      by_cases ht : c.t = 1
      · rw [if_pos ht]
        have : b1M c m = [] := by unfold b1M; rw [if_pos ht]
        rw [this]; rfl
      · have e1 : b1M c m = eg (numM c m) := by unfold b1M; rw [if_neg ht]
        rw [e1] at r1
        rw [if_neg ht, tkU_rd (by omega) r1, Rr.bind_ok, hn ht, if_neg (by split <;> omega), if_pos rfl, e1, hn ht]
    rw [hkd, Rr.bind_ok]
    dsimp only
    unfold tkRs
    rw [e2] at r3 r4 r5
    rw [e2, e4, e5]
    rw [e4, e5] at r5
    simp only [List.length_nil, Nat.add_zero] at r3 r5 ⊢
    rw [show tkPr c q n inMb s (a + (b1M c m).length) = .ok (inMb, s) (a + (b1M c m).length) from rfl, Rr.bind_ok]
    dsimp only
    rw [← hh, tkCh_rd (m0 := inMb) hfc.2.2 vq rfl rfl r3, Rr.bind_ok]
    dsimp only
    have hco : ∀ a', tkCo q n (hlM m) { inMb with fd := m.fd, dl := m.dl } a' = .ok { inMb with fd := m.fd, dl := m.dl } a' := fun a' => rfl
    rw [hco, Rr.bind_ok]
    have hcd : cdl ({ inMb with fd := m.fd, dl := m.dl } : Mb) = cdl m := by rw [hF.i hk]; rfl
    have hall : m.k = 1 → ∀ j, j < 6 → flagAt (cdl m) j = true := fun _ j hj => by
      rw [hF.i hk]
      have h6 : j = 0 ∨ j = 1 ∨ j = 2 ∨ j = 3 ∨ j = 4 ∨ j = 5 := by omega
      rcases h6 with rfl | rfl | rfl | rfl | rfl | rfl <;> rfl
    rw [tkLv_rd hml hF.l (.inl hk) hall (fun e => by omega) 6 { inMb with fd := m.fd, dl := m.dl } (s3M m s) _ (Nat.le_refl _) hcd hk.symm zl_rep (s3M_dc hd) r5, Rr.bind_ok]
    have hm : ({ ({ inMb with fd := m.fd, dl := m.dl } : Mb) with lv := m.lv } : Mb) = m := by
      have h1 := hfc.1
      have h2 := hfc.2.1
      simp only [zI, aC, Bool.and_eq_true, beq_iff_eq, and_true, Bool.not_eq_true'] at h1 h2
      obtain ⟨k, ua, ub, fp, fd, va, vb, vc, vd, ve, vf, vg, vh, sa, sb, sc, sd, dl, ca, cb, cc, cd, ce, cf, lv⟩ := m
      simp only at h1 h2 hk
      subst hk
      simp_all [inMb]
    dsimp only
    rw [hm, show inMb.k = m.k from hk.symm]
    congr 1
    omega
  · have hI := itr_of hk hf
    have ht := hI.t
    obtain ⟨_, _, _, q4, q5, q6, q7⟩ := dirs_eq c m (numM c m) hI rfl hk
    have e1 : b1M c m = eg (numM c m) := by unfold b1M; rw [if_neg ht]
    have hkd : tkKd c q n a = .ok (peMb (numM c m), hlM m) (a + (b1M c m).length) := by
      unfold tkKd
      rw [e1] at r1
      have hlt : numM c m < (if c.t = 2 then 3 else 7) := by
        split
        · rename_i e; exact q7 e
        · exact q6
      rw [if_neg ht, tkU_rd (by omega) r1, Rr.bind_ok, if_neg (by omega), if_neg (by omega), if_neg (by omega), q4, e1]
    rw [hkd, Rr.bind_ok]
    dsimp only
    unfold tkRs
    rw [tkPr_rd hk hI hF.v hv r2, Rr.bind_ok]
    dsimp only
    have vq2 : vqB ((s2M c m s).q + m.dl) = true := by rw [(s2M_same c m s).1]; exact vq
    rw [tkCh_rd (m0 := mP m) hI.h vq2 rfl rfl r3, Rr.bind_ok]
    dsimp only
    have hlA : hlM m = anyC m := by simp [hlM, hk]
    have hco : tkCo q n (hlM m) { mP m with fd := m.fd, dl := m.dl } (a + (b1M c m).length + (b2M c m s).length + (b3M c m).length) = .ok { ({ mP m with fd := m.fd, dl := m.dl } : Mb) with ca := m.ca, cb := m.cb, cc := m.cc, cd := m.cd, ce := m.ce, cf := m.cf } (a + (b1M c m).length + (b2M c m s).length + (b3M c m).length + (b4M m).length) := by
      unfold tkCo
      unfold b4M at r4 ⊢
      rw [decide_eq_true hk, Bool.true_and] at r4 ⊢
      rw [show decide (({ mP m with fd := m.fd, dl := m.dl } : Mb).k = 2) = true from rfl, Bool.true_and]
      cases hh : hlM m with
      | true =>
        rw [hh, if_pos rfl] at r4
        rw [if_pos rfl, if_pos rfl, tkCf_rd (by rw [← hlA, hh]) r4]
        rfl
      | false =>
        rw [if_neg (by decide), if_neg (by decide)]
        have hac : anyC m = false := by rw [← hlA, hh]
        simp only [anyC, Bool.or_eq_false_iff] at hac
        obtain ⟨c1, c2, c3, c4, c5, c6⟩ := hac
        rw [c1, c2, c3, c4, c5, c6]; rfl
    rw [hco, Rr.bind_ok]
    have e5 : s3M m (s2M c m s) = s23 c m s := rfl
    rw [e5, tkLv_rd hml hF.l (.inr hk) (fun e => by omega) (fun _ j hj => fl_of hI.k j hj) 6 { ({ mP m with fd := m.fd, dl := m.dl } : Mb) with ca := m.ca, cb := m.cb, cc := m.cc, cd := m.cd, ce := m.ce, cf := m.cf } (s23 c m s) _ (Nat.le_refl _) rfl hk.symm zl_rep hd5 r5, Rr.bind_ok]
    have hm : ({ ({ ({ mP m with fd := m.fd, dl := m.dl } : Mb) with ca := m.ca, cb := m.cb, cc := m.cc, cd := m.cd, ce := m.ce, cf := m.cf } : Mb) with lv := m.lv } : Mb) = m := by
      cases m
      simp only at hk
      subst hk
      rfl
    dsimp only
    rw [hm, show (mP m).k = m.k from hk.symm]
    congr 1
    omega
end
end Go.Proofs.YthmladiijdlgkaaGreat.Sc

namespace Go.Proofs.YthmladiijdlgkaaGreat.Sc
set_option linter.all false
set_option linter.unusedVariables false
set_option linter.unusedSimpArgs false
open Pm Ty Go.RowKit
theorem eqBs (bl : List Int) (h : bl.length = 64) : peqT Tryz.prog 10 65 (.agg (is bl)) (.agg (is bl)) = some true := by
  rw [eqB_def, if_pos ⟨sz_int, by rw [is_len]; exact h, by rw [is_len]; exact h⟩, peqI_is .i64 bl bl rfl]
  simp
theorem peqA_self (lv : List Int) (n : Nat) (r : List Nat) (hl : lv.length = 384) (hn : n < 6) (hr : peqA (peqT Tryz.prog 10) Tryz.prog 65 64 (is lv) (is lv) r = some true) : peqA (peqT Tryz.prog 10) Tryz.prog 65 64 (is lv) (is lv) (n :: r) = some true := by
  have h1 := rdBl lv n hl hn
  have h3 := eqBs _ (blk_len lv n hl hn)
  unfold peqA
  rw [h1]
  simp only [h3, hr]
  rfl
theorem eqLs (lv : List Int) (hl : lv.length = 384) : peqT Tryz.prog 11 66 (.agg (is lv)) (.agg (is lv)) = some true := by
  rw [eqLv_def]
  exact peqA_self lv 0 _ hl (by omega) (peqA_self lv 1 _ hl (by omega) (peqA_self lv 2 _ hl (by omega) (peqA_self lv 3 _ hl (by omega) (peqA_self lv 4 _ hl (by omega) (peqA_self lv 5 _ hl (by omega) rfl)))))
theorem peqF8s (k : Int) (ua ub fp fd : Bool) (va vb vc vd ve vf vg vh sa sb sc sd dl : Int) (ca cb cc cd ce cf : Bool) (lv : List Int) : peqF (peqT Tryz.prog 11) Tryz.prog (mbc ⟨k, ua, ub, fp, fd, va, vb, vc, vd, ve, vf, vg, vh, sa, sb, sc, sd, dl, ca, cb, cc, cd, ce, cf, lv⟩) (mbc ⟨k, ua, ub, fp, fd, va, vb, vc, vd, ve, vf, vg, vh, sa, sb, sc, sd, dl, ca, cb, cc, cd, ce, cf, lv⟩) (mbF8 Tryz.prog) =
    some ((k == k) && (((ua == ua) && ((ub == ub) && true)) && ((fp == fp) && ((fd == fd) && ((((((va == va) && ((vb == vb) && true)) && (((vc == vc) && ((vd == vd) && true)) && true))) && (((((ve == ve) && ((vf == vf) && true)) && (((vg == vg) && ((vh == vh) && true)) && true))) && true)) && ((((sa == sa) && ((sb == sb) && true)) && ((((sc == sc) && ((sd == sd) && true))) && true)) && ((dl == dl) && (((ca == ca) && ((cb == cb) && ((cc == cc) && ((cd == cd) && ((ce == ce) && ((cf == cf) && true)))))) && true)))))))) := by kernel_rfl
theorem neMb (m : Mb) (hl : m.lv.length = 384) : peqG Tryz.prog .neq 68 (.agg (mbc m)) (.agg (mbc m)) = some (.bool false) := by
  have e : ∀ x y, peqG Tryz.prog .neq 68 x y = match peqT Tryz.prog 12 68 x y with | some b => peq .neq b | none => none := fun x y => by kernel_rfl
  have h8 := peqF8s m.k m.ua m.ub m.fp m.fd m.va m.vb m.vc m.vd m.ve m.vf m.vg m.vh m.sa m.sb m.sc m.sd m.dl m.ca m.cb m.cc m.cd m.ce m.cf m.lv
  simp only [beq_self_eq_true, Bool.and_true] at h8
  rw [e, peqT_mb, peqF_app _ _ _ _ _ _ (peqF1_def _ _ _ _ _ (rdLm m hl) (rdLm m hl) (eqLs m.lv hl)) (mbF8 Tryz.prog) true h8]
  rfl
theorem mtkA_rd {q : List UInt8} {n a : Nat} {c : Cx} {m : Mb} {s : St} (hf : fmS c m = true) (vs : vstB s = true) (vq : vqB (s.q + m.dl) = true) (hml : m.lv.length = 384) (h : Rd q n a (mbits c s m)) : mtkA c s q n a = .ok (m, mstate c s m) (a + (mbits c s m).length) := by
  unfold mtkA
  have hv : vcx c = true := by
    unfold fmS at hf
    rw [Bool.and_eq_true] at hf
    exact hf.1
  rw [hv, vs, Bool.and_self, if_pos rfl]
  exact mtk_rd hf vs vq hml h
end Go.Proofs.YthmladiijdlgkaaGreat.Sc

namespace Go.Proofs.YthmladiijdlgkaaGreat.Sc
set_option linter.all false
set_option linter.unusedVariables false
set_option linter.unusedSimpArgs false
open Pm Ty Go.RowKit
theorem slL_rd {q : List UInt8} {n : Nat} {c : Cx} : ∀ (l : List Mb) (s : St) (a : Nat), (∀ m ∈ l, m.lv.length = 384) → (putL c s l).2 = 0 → Rd q n a (putL c s l).1 → ∃ s', slL c q n l.length s a = .ok (l, s') (a + (putL c s l).1.length)
  | [], s, a, _, _, _ => ⟨s, rfl⟩
  | m :: l, s, a, hml, he, hr => by
    have hm0 : (mput c s m).2.2 = 0 := by
      rw [putL] at he
      split at he
      · assumption
      · rename_i hn; exact absurd he hn
    rw [putL, if_pos hm0] at he hr ⊢
    have hg : fmS c m = true ∧ vstB s = true ∧ vqB (s.q + m.dl) = true ∧ mput c s m = (mbits c s m, mstate c s m, 0) := by
      unfold mput at hm0 ⊢
      split at hm0
      · rename_i h1
        rw [Bool.and_eq_true] at h1
        split at hm0
        · rename_i h2
          exact ⟨h1.1, h1.2, h2, by rw [if_pos (by rw [h1.1, h1.2]; rfl), if_pos h2]⟩
        · cases hm0
      · cases hm0
    obtain ⟨g1, g2, g3, ge⟩ := hg
    rw [ge] at he hr ⊢
    obtain ⟨s', hs'⟩ := slL_rd l (mstate c s m) _ (fun x hx => hml x (List.mem_cons_of_mem _ hx)) he hr.r
    refine ⟨s', ?_⟩
    rw [List.length_cons, slL, mtkA_rd g1 g2 g3 (hml m (List.mem_cons_self ..)) hr.l, Rr.bind_ok]
    dsimp only
    rw [hs', Rr.bind_ok]
    dsimp only
    congr 1
    rw [List.length_append]; omega
theorem slT_rd {s : Sq} {p : Pi} {b : Bool} {row q : Int} {l : List Mb} (hok : okP s p b row q l = true) (hml : ∀ m ∈ l, m.lv.length = 384) (he : (putL (cxP s p b) (st0 q) l).2 = 0) : ∃ a, slT s p b (1 + row) (pk (slB s p b q l ++ [true])) = .ok (q.toNat, l) a := by
  obtain ⟨o1, o2, o3, o4, o5, o6, o7⟩ := okP_b hok
  have o8 : row < prows s p := by
    unfold okP at hok
    simp only [Bool.and_eq_true, decide_eq_true_eq] at hok
    exact hok.2.2.1
  obtain ⟨Q, rfl⟩ : ∃ Q : Nat, q = Q := ⟨q.toNat, by omega⟩
  obtain ⟨p1, p2, p3, p4, p5⟩ := pk_payload (slB s p b (Q : Int) l)
  have hlen : (slB s p b (Q : Int) l).length = 5 + (putL (cxP s p b) (st0 (Q : Int)) l).1.length := by unfold slB; rw [List.length_append, vbits_len]
  have hR : Rd (pk (slB s p b (Q : Int) l ++ [true])) (slB s p b (Q : Int) l).length 0 (vbits Q 5 ++ (putL (cxP s p b) (st0 (Q : Int)) l).1) := ⟨by rw [List.length_append, vbits_len]; omega, fun k hk => by
    rw [Nat.zero_add, p5 k (by rw [List.length_append, vbits_len] at hk; omega)]
    unfold slB
    rw [Int.toNat_natCast]⟩
  have r1 := hR.l
  have r2 := hR.r
  rw [vbits_len, Nat.zero_add] at r2
  have hv : vl (pk (slB s p b (Q : Int) l ++ [true])) 0 5 = Q := vl_all _ 0 5 Q (by show Q < 32; omega) fun i hi => by
    rw [r1.2 i (by rw [vbits_len]; exact hi), bn_vbits _ _ _ hi]
  unfold slT
  rw [o7, decide_eq_true (show 1 ≤ 1 + row by omega), decide_eq_true (show 1 + row < 1 + prows s p by omega), if_pos (show (true && (true && true)) = true from rfl), if_neg (by rintro (h | h) <;> contradiction), p3, if_neg (by omega), hv, if_neg (by omega)]
  obtain ⟨s', hs⟩ := slL_rd (n := (slB s p b (Q : Int) l).length) l (st0 (Q : Int)) 5 hml he r2
  have hwl : wmb s = l.length := by unfold wmb; omega
  refine ⟨5 + (putL (cxP s p b) (st0 (Q : Int)) l).1.length, ?_⟩
  rw [hwl, hs, Rr.bind_ok]
  dsimp only
  rw [if_pos (by omega), Int.toNat_natCast]
theorem samembs_ok (l : List Mb) (f g : Bool) (H : Heap) (hml : ∀ m ∈ l, m.lv.length = 384) (hll : l.length ≤ 9223372036854775807) : CallOk Tryz.prog 9 [.slice (l.flatMap mbc) l.length f, .slice (l.flatMap mbc) l.length g] H (.bool true) H := by
  have lm := flat_len mbc 408 l (fun x hx => mbc_len x (hml x hx))
  refine CallOk.body (F0 := [(0, .slice (l.flatMap mbc) l.length f), (1, .slice (l.flatMap mbc) l.length g)]) Tryz.func9 rfl Tryz.ntmps9 Tryz.results9 rfl (by kernel_rfl) rfl ?_
  (repeat refine PW.seq ?_); refine PW.rg rfl fun K hK => ?_; simp (disch:=omega) only [go_sem]; refine hK _ _ ?_; clear hK K
  have d1 : ((l.length : Int) != (l.length : Int)) = false := by simp
  (repeat refine PW.seq ?_); refine PW.rg rfl fun K hK => ?_; simp (disch:=omega) only [go_sem, ↓reduceIte, plen, d1]; refine hK _ _ ?_; clear hK K
  (repeat refine PW.seq ?_); refine PW.cond (t := _) rfl (fun h => ?_) (fun h => ?_)
  · cases h
  refine PW.skip ?_
  (repeat refine PW.seq ?_); refine PW.rg rfl fun K hK => ?_; simp (disch:=omega) only [go_sem]; refine hK _ _ ?_; clear hK K
  (repeat refine PW.seq ?_); refine PW.block (PW.loop ?_)
  suffices hl1 : ∀ k : Nat, k ≤ l.length → PL Tryz.prog _ _ [(0, .slice (l.flatMap mbc) l.length f), (1, .slice (l.flatMap mbc) l.length g), (5, .int .i64 (k : Int))] H _ by
    exact PL.at [0, 1, 5] (hl1 0 (by omega)) rfl rfl
  intro k hk
  induction hd : l.length - k using Nat.strongRecOn generalizing k with
  | _ d ih =>
    refine PL.round ?_; (repeat refine PW.seq ?_); refine PW.rg rfl fun K hK => ?_; simp (disch:=omega) only [go_sem, ↓reduceIte, plen]; refine hK _ _ ?_; clear hK K
    (repeat refine PW.seq ?_); refine PW.cond (t := _) rfl (fun h => ?_) (fun h => ?_)
    · have h4 : k < l.length := by have := of_decide_eq_true h; omega
      have hat := flat_at mbc 408 l k h4 (fun x hx => mbc_len x (hml x hx))
      have hmk := hml l[k] (List.getElem_mem h4)
      generalize l[k] = m at *
      have ne := neMb m hmk
      refine PW.skip ?_; (repeat refine PW.seq ?_); refine PW.block ?_
      (repeat refine PW.seq ?_); refine PW.draw mix (by kernel_rfl) fun K hK => ?_; simp (disch:=omega) only [go_sem, hat, lm, ↓ne]; refine hK _ _ ?_; clear hK K
      (repeat refine PW.seq ?_); refine PW.cond (t := _) rfl (fun h => ?_) (fun h => ?_)
      · cases h
      refine PW.skip ?_
      (repeat refine PW.seq ?_); refine PW.rg rfl fun K hK => ?_; simp (disch:=omega) only [go_sem, ↓reduceIte]; refine hK _ _ ?_; clear hK K
      exact PL.at [0, 1, 5] (ih (l.length - (k + 1)) (by omega) (k + 1) (by omega) rfl) rfl rfl
    · refine PW.exit ?_
      (repeat refine PW.seq ?_); refine PW.rg rfl fun K hK => ?_; simp (disch:=omega) only [go_sem]; refine hK _ _ ?_; clear hK K
      (refine PW.ret ⟨_, rfl, ?_⟩; first | refine .inl ⟨?_, rfl⟩ | refine Fin.base (.id' ?_ (.bool _)) | refine Fin.base (.id' ?_ (.int _ _)))
      rfl
theorem sameun_ok (t : Int) (P : List UInt8) (f g : Bool) (H : Heap) : CallOk Tryz.prog 6 [.agg [.int .i64 t, .slice (bs P) P.length f], .agg [.int .i64 t, .slice (bs P) P.length g]] H (.bool true) H := by
  have sb := fun K => same_bytes P P f g K
  simp only [beq_self_eq_true] at sb
  refine CallOk.body (F0 := [(0, .agg [.int .i64 t, .slice (bs P) P.length f]), (1, .agg [.int .i64 t, .slice (bs P) P.length g])]) Tryz.func6 rfl Tryz.ntmps6 Tryz.results6 rfl (by kernel_rfl) rfl ?_
  (repeat refine PW.seq ?_); refine PW.rg rfl fun K hK => ?_; simp (disch:=omega) only [go_sem]; refine hK _ _ ?_; clear hK K
  have d1 : (t == t) = true := by simp
  (repeat refine PW.seq ?_); refine PW.rg rfl fun K hK => ?_; simp (disch:=omega) only [go_sem, ↓reduceIte, d1]; refine VCx.call (sb _) rfl ?_; simp (disch:=omega) only [go_sem]; refine hK _ _ ?_; clear hK K
  (refine PW.ret ⟨_, rfl, ?_⟩; first | refine .inl ⟨?_, rfl⟩ | refine Fin.base (.id' ?_ (.bool _)) | refine Fin.base (.id' ?_ (.int _ _)))
  rfl
theorem awake11' (H : Heap) : CallOk Tryz.prog 7 [] H (.bool true) H := CallOk.evalT 100000 (by kernel_rfl)
set_option maxHeartbeats 8000000 in
set_option maxRecDepth 100000 in
theorem law_slices (s : Sq) (p : Pi) (b : Bool) (row q : Int) (l : List Mb) (g : Bool) (H : Heap) (hs : SqOk s) (hrow : i64r row) (hqr : i64r q) (hml : ∀ m ∈ l, m.lv.length = 384) (hll : l.length ≤ 9223372036854775807) :
    CallOk Tryz.prog 3 [.agg (sqc s), .agg (pic p), .agg [.bool b, .int .i64 row, .int .i64 q, .slice (l.flatMap mbc) l.length g]] H (.bool true) H := by
  have pu := fun K => puts_ok s p b row q l g K hs hrow hqr hml hll
  have pr := fun K => puts_ref s p b row q l g K hs hrow hqr hml hll
  have h1 := sqc_cell s
  have h2 := sqc_len s hs
  have h3 := sqc_tk s hs
  have p6 : (pic p).length = 6 := rfl
  have t6 : List.take 6 (pic p) = pic p := rfl
  have c6 : (pic p).all PV.cell = true := rfl
  refine CallOk.body (F0 := [(0, .agg (sqc s)), (1, .agg (pic p)), (2, .agg [.bool b, .int .i64 row, .int .i64 q, .slice (l.flatMap mbc) l.length g])]) Tryz.func3 rfl Tryz.ntmps3 Tryz.results3 rfl (by kernel_rfl) rfl ?_
  (repeat refine PW.seq ?_); refine PW.rg rfl fun K hK => ?_; simp (disch:=omega) only [go_sem, h1, c6]; refine hK _ _ ?_; clear hK K
  (repeat refine PW.seq ?_); refine PW.rg rfl fun K hK => ?_; simp (disch:=omega) only [go_sem, ↓reduceIte, plen]; refine hK _ _ ?_; clear hK K
  (repeat refine PW.seq ?_); refine PW.cond (t := _) rfl (fun h => ?_) (fun h => ?_)
  · (repeat refine PW.seq ?_); refine PW.rg rfl fun K hK => ?_; simp (disch:=omega) only [go_sem]; refine hK _ _ ?_; clear hK K
    (refine PW.ret ⟨_, rfl, ?_⟩; first | refine .inl ⟨?_, rfl⟩ | refine Fin.base (.id' ?_ (.bool _)) | refine Fin.base (.id' ?_ (.int _ _)))
    rfl
  have h8 : l.length ≤ 8 := by have := of_decide_eq_false h; omega
  refine PW.skip ?_
  have hE : ∃ (t : Int) (P : List UInt8) (f : Bool) (e : Int), rvP s p b row q l = .tup [.agg [.int .i64 t, .slice (bs P) P.length f], .int .i64 e] ∧ (e = 0 → t = 1 + row ∧ f = false ∧ P.length ≤ 100000000 ∧ i64r t ∧ 1 ≤ q ∧ ∃ a, slT s p b t P = .ok (q.toNat, l) a) := by
    unfold rvP
    cases hok : okP s p b row q l with
    | false => exact ⟨0, [], true, 1, by rw [if_neg (by decide)]; rfl, fun e => by cases e⟩
    | true =>
      rw [if_pos rfl]
      by_cases he : (putL (cxP s p b) (st0 q) l).2 = 0
      · rw [if_pos he]
        obtain ⟨o1, o2, o3, o4, o5, o6, o7⟩ := okP_b hok
        refine ⟨_, _, _, _, rfl, fun _ => ⟨rfl, rfl, ?_, by unfold i64r; omega, o3, slT_rd hok hml he⟩⟩
        have hpl : ∀ (l : List Mb) (st : St), (putL (cxP s p b) st l).1.length ≤ l.length * 30000 := fun l => by
          induction l with
          | nil => intro st; simp [putL]
          | cons m l ih =>
            intro st
            rw [putL]
            have := (mput_e (cxP s p b) st m).2
            have := ih (mput (cxP s p b) st m).2.1
            split
            · rw [List.length_append, List.length_cons, Nat.add_mul]; omega
            · simp
        have := hpl l (st0 q)
        rw [pk_len, List.length_append]
        unfold slB
        rw [List.length_append, vbits_len, List.length_singleton]
        omega
      · rw [if_neg he]
        exact ⟨0, [], true, _, rfl, fun e => absurd e he⟩
  obtain ⟨t, P, f, e, hrv, hgood⟩ := hE
  rw [hrv] at pu pr
  have su := fun K => sameun_ok t P f f K
  (repeat refine PW.seq ?_); refine PW.rg rfl fun K hK => ?_; simp (disch:=omega) only [go_sem, ↓reduceIte, h2, h3, p6, t6]
  refine VCx.call (pu _) rfl ?_; simp (disch:=omega) only [go_sem, ↓reduceIte]; refine hK _ _ ?_; clear hK K
  (repeat refine PW.seq ?_); refine PW.rg rfl fun K hK => ?_; simp (disch:=omega) only [go_sem, ↓reduceIte, h2, h3, p6, t6]
  refine VCx.call (pr _) rfl ?_; simp (disch:=omega) only [go_sem, ↓reduceIte]; refine hK _ _ ?_; clear hK K
  have dne : (e != e) = false := by simp
  (repeat refine PW.seq ?_); refine PW.rg rfl fun K hK => ?_; simp (disch:=omega) only [go_sem, ↓reduceIte, dne]
  refine VCx.call (su _) rfl ?_; simp (disch:=omega) only [go_sem]; refine hK _ _ ?_; clear hK K
  (repeat refine PW.seq ?_); refine PW.cond (t := _) rfl (fun h => ?_) (fun h => ?_)
  · cases h
  refine PW.skip ?_
  by_cases he : e = 0
  · obtain ⟨rfl, rfl, hPl, ht, hq1, a, hsl⟩ := hgood he
    subst he
    have ts := fun K => slice_ok s p b (1 + row) P false K hs ht hPl
    rw [hsl] at ts
    have sm := fun K => samembs_ok l false g K hml hll
    obtain ⟨Q, rfl⟩ : ∃ Q : Nat, q = Q := ⟨q.toNat, by omega⟩
    simp only [rvT, Int.toNat_natCast] at ts
    have dq : ((Q : Int) == (Q : Int)) = true := by simp
    (repeat refine PW.seq ?_); refine PW.rg rfl fun K hK => ?_; simp (disch:=omega) only [go_sem, ↓reduceIte]; refine hK _ _ ?_; clear hK K
    (repeat refine PW.seq ?_); refine PW.cond (t := _) rfl (fun h => ?_) (fun h => ?_)
    · cases h
    refine PW.skip ?_
    (repeat refine PW.seq ?_); refine PW.rg rfl fun K hK => ?_; simp (disch:=omega) only [go_sem, ↓reduceIte, h2, h3, p6, t6]
    refine VCx.call (ts _) rfl ?_; simp (disch:=omega) only [go_sem]; refine hK _ _ ?_; clear hK K
    (repeat refine PW.seq ?_); refine PW.rg rfl fun K hK => ?_; simp (disch:=omega) only [go_sem]
    refine VCx.call (awake11' _) rfl ?_; simp (disch:=omega) only [go_sem, ↓reduceIte, dq]
    refine VCx.call (sm _) rfl ?_; simp (disch:=omega) only [go_sem]; refine hK _ _ ?_; clear hK K
    (refine PW.ret ⟨_, rfl, ?_⟩; first | refine .inl ⟨?_, rfl⟩ | refine Fin.base (.id' ?_ (.bool _)) | refine Fin.base (.id' ?_ (.int _ _)))
    rfl
  · have de : (e != 0) = true := by simp [he]
    (repeat refine PW.seq ?_); refine PW.rg rfl fun K hK => ?_; simp (disch:=omega) only [go_sem, ↓reduceIte, de]; refine hK _ _ ?_; clear hK K
    (repeat refine PW.seq ?_); refine PW.cond (t := _) rfl (fun h => ?_) (fun h => ?_)
    rotate_left
    · cases h
    (repeat refine PW.seq ?_); refine PW.rg rfl fun K hK => ?_; simp (disch:=omega) only [go_sem]; refine VCx.call (awake11' _) rfl ?_; simp (disch:=omega) only [go_sem]; refine hK _ _ ?_; clear hK K
    (refine PW.ret ⟨_, rfl, ?_⟩; first | refine .inl ⟨?_, rfl⟩ | refine Fin.base (.id' ?_ (.bool _)) | refine Fin.base (.id' ?_ (.int _ _)))
    rfl
end Go.Proofs.YthmladiijdlgkaaGreat.Sc

namespace Go.Proofs.YthmladiijdlgkaaGreat.Lsl
set_option linter.all false
set_option linter.unusedVariables false
set_option linter.unusedSimpArgs false
open Go.ChangeShapes Go.WideShapes Go.ChangeAt Go.RowKit Pm Sc Lp
theorem law : ∀ xs, ArgsShp Tryz.prog Tryz.f3.params.toList xs → CallOk Tryz.prog 3 xs [] (.bool true) [] := by
  intro xs h
  rw [Tryz.params3] at h
  obtain ⟨x, r, rfl, hx, h⟩ := h.cons
  obtain ⟨y, r, rfl, hy, h⟩ := h.cons
  obtain ⟨z, r, rfl, hz, h⟩ := h.cons
  obtain rfl := h.nil
  obtain ⟨ps, hp, rfl⟩ := hx.agg (by simp [aggT, Tryz.underlying26])
  obtain ⟨s, rfl, hs⟩ := shp_seq hp
  obtain ⟨qs, hq, rfl⟩ := hy.agg (by simp [aggT, Tryz.underlying28])
  obtain ⟨p, rfl, _⟩ := shp_pic hq
  obtain ⟨zs, hk, rfl⟩ := hz.agg (by simp [aggT, Tryz.underlying31])
  obtain ⟨pss, rfl, hf⟩ := hk.fields Tryz.underlying31
  match pss, hf with
  | [a, b, c, d], ⟨ha, hb, hc, hd, _⟩ =>
    obtain ⟨a, rfl⟩ := shp_bool ha
    obtain ⟨b, rfl, h1⟩ := shp_int hb
    obtain ⟨c, rfl, h2⟩ := shp_int hc
    obtain ⟨l, rfl, hm, hg⟩ := hd.of_list (enc := mbc) (good := fun m => Lm.mbok m) Tryz.underlying29 (fun q hq => Lm.shp_mb hq)
    exact law_slices s p a b c l false [] hs h1 h2 (fun m hm => (hg m hm).1) (by simpa [maxLen] using hm)
set_option maxRecDepth 100000 in
theorem pictureSlices_lifted (os : Os) (started : os.Started) (H : Type) (enc : TypeId × Value → H) :
    ReturnsInHanded {} Tryz.checked os 3 .any (Rows.pictureSlicesSpec.pre6 enc Tryz.prog Tryz.f3 Rows.pictureSlicesRow.domain false) (Rows.pictureSlicesSpec.post enc Tryz.prog Tryz.f3 false true false false) := by
  refine returnsInHanded_of_change (C := Tryz.checked) own started (by kernel_rfl) Tryz.func3
    (ChangeSpec.witness6 (enc := enc) (C := Tryz.checked) false ⟨#[], #[.agg (#[.int .i64 0, .int .i64 0, .int .i64 0, .int .i64 0, .bool false, .int .i64 0, .int .i64 0] ++ Array.replicate 128 (.int .u8 0)), .agg #[.int .i64 0, .int .i64 0, .int .i64 0, .bool false, .bool false, .bool false], .agg #[.bool false, .int .i64 0, .int .i64 0, .slice none 0 0]], []⟩ 8 (by kernel_rfl) (by kernel_rfl) (by kernel_rfl) (by kernel_rfl)) ?_
  intro W base args ds gs before hval hW _ _
  exact law_call (P := Tryz.prog) (fn := Tryz.f3) (n := 12) (tb := 4) (b0 := base) (r := .any) law laidOut (by kernel_rfl) (by kernel_rfl) (by kernel_rfl) Tryz.underlying4 rfl
    (fun ds hd => match ds, hd with | [d0, d1, d2], _ => rfl) hval hW
theorem pictureSlices_holds : Rows.PictureSlicesSaid :=
  OpenClaim.holds_of_wide 3 Tryz.f3 rfl rfl rfl rfl rfl rfl rfl ⟨rfl, rfl, rfl, rfl, rfl⟩ rfl rfl rfl rfl rfl (by kernel_rfl) Tryz.func3 (by kernel_rfl)
    (of_decide_eq_true (by kernel_rfl)) (by unfold Func.isWrapper; first | (rw [if_pos (by decide +kernel)]; kernel_rfl) | (rw [if_neg (by decide +kernel)]; exact ⟨rfl, rfl⟩))
    (fun os started H enc _ => pictureSlices_lifted os started H enc)
end Go.Proofs.YthmladiijdlgkaaGreat.Lsl
