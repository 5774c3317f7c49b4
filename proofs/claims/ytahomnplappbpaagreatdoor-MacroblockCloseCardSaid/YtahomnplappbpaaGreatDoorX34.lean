/-
  Parts of the proof, put together in one text. No condition.
-/
import Derived.Test.YtahomnplappbpaaGreatDoorX29
namespace Go.Proofs.YtahomnplappbpaaGreatDoor.Sc
set_option linter.all false
set_option linter.unusedVariables false
set_option linter.unusedSimpArgs false
open Pm Ty Go.RowKit

/-! ### skipped macroblocks -/
/-- A macroblock of a frame. -/
def mcF (f : Fm) (mx my : Int) : Fm := ⟨16, 16, ctl f.y (16 * my * f.w + 16 * mx).toNat f.w.toNat 16 16, ctl f.u (8 * my * (f.w / 2) + 8 * mx).toNat (f.w / 2).toNat 8 8, ctl f.v (8 * my * (f.w / 2) + 8 * mx).toNat (f.w / 2).toNat 8 8⟩
theorem rows_in {W R X Y w h L : Nat} (hp : L = W * R) (hx : X + w ≤ W) (hy : Y + h ≤ R) : ∀ k, k < h → Y * W + X + k * W + w ≤ L := fun k hk => by
  have h1 : (Y + k + 1) * W ≤ R * W := Nat.mul_le_mul_right _ (by omega)
  rw [Nat.add_mul, Nat.add_mul, Nat.one_mul] at h1
  rw [hp, Nat.mul_comm W R]
  omega
theorem prd_ctl {p : List UInt8} {W R X Y w h : Nat} (hp : p.length = W * R) (hx : X + w ≤ W) (hy : Y + h ≤ R) (hw : 0 < w) : prd p W R X Y w h 0 0 = ctl p (Y * W + X) W w h := by
  have hf := rows_in hp hx hy
  have hcl := ctl_len p (Y * W + X) W w h hf
  apply byt_ext
  · rw [prd_len, hcl, Nat.mul_comm]
  intro i hi
  rw [prd_len] at hi
  obtain ⟨j, c, hc, rfl⟩ : ∃ j c, c < w ∧ i = j * w + c := ⟨i / w, i % w, Nat.mod_lt _ hw, by rw [Nat.mul_comm]; exact (Nat.div_add_mod _ _).symm⟩
  have hj : j < h := by
    rcases Nat.lt_or_ge j h with h' | h'
    · exact h'
    · have := Nat.mul_le_mul_right w h'
      rw [Nat.mul_comm w h] at hi
      omega
  rw [prd_at _ _ _ _ _ _ _ _ _ hi, ctl_at p _ _ _ h hf j c hj hc]
  have e1 : (j * w + c) % w = c := by rw [Nat.add_comm, Nat.add_mul_mod_self_right]; exact Nat.mod_eq_of_lt hc
  have e2 : (j * w + c) / w = j := by rw [Nat.add_comm, Nat.add_mul_div_right _ _ hw, Nat.div_eq_of_lt hc, Nat.zero_add]
  rw [e1, e2]
  have c1 : clm ((Y : Int) + (j : Int)) (R : Int) = ((Y + j : Nat) : Int) := by unfold clm; omega
  have c2 : clm ((X : Int) + (c : Int)) (W : Int) = ((X + c : Nat) : Int) := by unfold clm; omega
  have e3 : (((Y + j : Nat) : Int) * (W : Int) + ((X + c : Nat) : Int)).toNat = Y * W + X + j * W + c := by
    have : ((Y + j : Nat) : Int) * (W : Int) = (((Y + j) * W : Nat) : Int) := by simp
    rw [this, Nat.add_mul]
    omega
  have hs : smp p W R ((X : Int) + (c : Int)) ((Y : Int) + (j : Int)) = byt p (Y * W + X + j * W + c) := by rw [smp, c1, c2, e3]
  have hb := byt_range p (Y * W + X + j * W + c)
  simp only [pxl, show (0 : Int) / 2 = 0 from rfl, show (0 : Int) % 2 = 0 from rfl, Int.add_zero, hs]
  omega
/-- The frame's sizes as numbers. -/
theorem fvd_nat {f : Fm} (h : fvd f = true) : ∃ A B : Nat, 1 ≤ A ∧ A ≤ 4 ∧ 1 ≤ B ∧ B ≤ 4 ∧ f.w = ((16 * A : Nat) : Int) ∧ f.h = ((16 * B : Nat) : Int) ∧ f.y.length = 16 * A * (16 * B) ∧ f.u.length = 8 * A * (8 * B) ∧ f.v.length = 8 * A * (8 * B) := by
  obtain ⟨w, ht, y, u, v⟩ := f
  simp only [fvd, fmd, Bool.and_eq_true, decide_eq_true_eq] at h
  obtain ⟨⟨hs, hy, hu, hv⟩, hw, hh⟩ := h
  obtain ⟨g1, g2, g3, g4, g5, g6⟩ := fsz_of hs
  obtain ⟨A, hA⟩ : ∃ A : Nat, (w / 16).toNat = A := ⟨_, rfl⟩
  obtain ⟨B, hB⟩ : ∃ B : Nat, (ht / 16).toNat = B := ⟨_, rfl⟩
  have e1 : w = ((16 * A : Nat) : Int) := by omega
  have e2 : ht = ((16 * B : Nat) : Int) := by omega
  have e3 : w / 2 = ((8 * A : Nat) : Int) := by omega
  have e4 : ht / 2 = ((8 * B : Nat) : Int) := by omega
  rw [e3, e4] at hu hv
  rw [e1, e2] at hy
  refine ⟨A, B, by omega, by omega, by omega, by omega, e1, e2, ?_, ?_, ?_⟩
  · exact Int.ofNat_inj.1 (hy.trans (Int.natCast_mul _ _).symm)
  · exact Int.ofNat_inj.1 (hu.trans (Int.natCast_mul _ _).symm)
  · exact Int.ofNat_inj.1 (hv.trans (Int.natCast_mul _ _).symm)
theorem prdF_mb {f : Fm} {mx my : Int} (h : hasM f mx my = true) : prdF f (16 * mx) (16 * my) 16 0 0 = mcF f mx my := by
  simp only [hasM, Bool.and_eq_true, decide_eq_true_eq] at h
  obtain ⟨hv, m1, m2, m3, m4⟩ := h
  obtain ⟨A, B, a1, a2, b1, b2, ew, eh, ly, lu, lv⟩ := fvd_nat hv
  obtain ⟨X, hX⟩ : ∃ X : Nat, mx = (X : Int) := ⟨mx.toNat, by omega⟩
  obtain ⟨Y, hY⟩ : ∃ Y : Nat, my = (Y : Int) := ⟨my.toNat, by omega⟩
  obtain ⟨w, ht, y, u, v⟩ := f
  simp only at ew eh ly lu lv m2 m4
  subst hX hY ew eh
  have hx : X < A := by omega
  have hy : Y < B := by omega
  have p1 := prd_ctl (X := 16 * X) (Y := 16 * Y) (w := 16) (h := 16) ly (by omega) (by omega) (by omega)
  have p2 := prd_ctl (X := 8 * X) (Y := 8 * Y) (w := 8) (h := 8) lu (by omega) (by omega) (by omega)
  have p3 := prd_ctl (X := 8 * X) (Y := 8 * Y) (w := 8) (h := 8) lv (by omega) (by omega) (by omega)
  have d1 : ((16 * A : Nat) : Int) / 2 = ((8 * A : Nat) : Int) := by omega
  have d2 : ((16 * B : Nat) : Int) / 2 = ((8 * B : Nat) : Int) := by omega
  have d3 : ((16 * X : Nat) : Int) / 2 = ((8 * X : Nat) : Int) := by omega
  have d4 : ((16 * Y : Nat) : Int) / 2 = ((8 * Y : Nat) : Int) := by omega
  have d5 : (16 : Int) * (X : Int) = ((16 * X : Nat) : Int) := by omega
  have d6 : (16 : Int) * (Y : Int) = ((16 * Y : Nat) : Int) := by omega
  have d7 : (8 : Int) * (X : Int) = ((8 * X : Nat) : Int) := by omega
  have d8 : (8 : Int) * (Y : Int) = ((8 * Y : Nat) : Int) := by omega
  have t1 : (((16 * Y : Nat) : Int) * ((16 * A : Nat) : Int) + ((16 * X : Nat) : Int)).toNat = 16 * Y * (16 * A) + 16 * X := by
    have : ((16 * Y : Nat) : Int) * ((16 * A : Nat) : Int) = ((16 * Y * (16 * A) : Nat) : Int) := (Int.natCast_mul _ _).symm
    rw [this]; omega
  have t2 : (((8 * Y : Nat) : Int) * ((8 * A : Nat) : Int) + ((8 * X : Nat) : Int)).toNat = 8 * Y * (8 * A) + 8 * X := by
    have : ((8 * Y : Nat) : Int) * ((8 * A : Nat) : Int) = ((8 * Y * (8 * A) : Nat) : Int) := (Int.natCast_mul _ _).symm
    rw [this]; omega
  unfold prdF mcF
  simp only [d1, d2, d3, d4, d5, d6, d7, d8, t1, t2, Int.toNat_natCast, show (0 : Int).tdiv 2 = 0 from rfl, show (16 : Nat) / 2 = 8 from rfl]
  rw [p1, p2, p3]
  rfl
def zm0 : Mb := ⟨0, false, false, false, false, 0, 0, 0, 0, 0, 0, 0, 0, 0, 0, 0, 0, 0, false, false, false, false, false, false, zl384⟩
theorem addN_none {m : Mb} {al : Bool} {mat : List UInt8} {q : Int} {f : Fm} (h : ∀ n, flagAt (cdl m) n = false) : ∀ n, addN m al mat q f n = f
  | 0 => rfl
  | n + 1 => by rw [addN, h n, if_neg (by simp), addN_none h n]
theorem stl_flags (c : Cx) : ∀ n, flagAt (cdl (stl c)) n = false := fun n => by
  have : n = 0 ∨ n = 1 ∨ n = 2 ∨ n = 3 ∨ n = 4 ∨ n = 5 ∨ 6 ≤ n := by omega
  rcases this with rfl | rfl | rfl | rfl | rfl | rfl | h
  all_goals first | rfl | (simp [flagAt, cdl, stl, List.getD_eq_getElem?_getD, List.getElem?_eq_none]; done) | skip
  simp only [flagAt, cdl, stl, List.getD_eq_getElem?_getD]
  rw [List.getElem?_eq_none (by simp; omega)]; rfl
/-- The reference picture of a whole frame's direction. -/
theorem ref_whole {c : Cx} (hv : vcx c = true) (hs : c.s = 3) {pa fu fi : Fm} {d : Int} (hd : d = 0 ∨ d = 1) (hn : c.n = false) : refS c pa fu fi d 0 = lastF (if d = 1 then fu else pa) true 0 := by
  have hf : fcx c = false := by unfold fcx; simp [hs]
  have hb : badA c d 0 = false := by
    unfold badA
    rw [hv, hf]
    rcases hd with rfl | rfl <;> rfl
  unfold refS
  rw [if_neg (by rw [hb]; simp)]
  unfold pickF
  rw [hn, hf]
  rcases hd with rfl | rfl <;> simp
theorem vcx_whole {c : Cx} (hv : vcx c = true) (hs : c.s = 3) : c.n = false := by
  cases hn : c.n with
  | false => rfl
  | true =>
    have := vcx_n hv hn
    unfold fcx at this
    simp [hs] at this
/-- A whole frame's Skipped macroblock. -/
theorem dir_skip {c : Cx} (hv : vcx c = true) (hs : c.s = 3) {pa fu fi g : Fm} {d mx my : Int} (hd : d = 0 ∨ d = 1) (h : (dirP c false 0 0 0 0 0 0 pa fu fi d mx my).2 = 0) :
    hasM (if d = 1 then fu else pa) mx my = true ∧ (dirP c false 0 0 0 0 0 0 pa fu fi d mx my).1 = mcF (if d = 1 then fu else pa) mx my := by
  have hr := ref_whole (pa := pa) (fu := fu) (fi := fi) hv hs hd (vcx_whole hv hs)
  unfold dirP at h ⊢
  rw [hr] at h ⊢
  generalize (if d = 1 then fu else pa) = f at h ⊢
  unfold lastF at h ⊢
  by_cases hw : f.w = 0
  · simp only [if_pos hw] at h; simp at h
  simp only [if_neg hw, Bool.not_true, Bool.false_and, Bool.or_false] at h ⊢
  by_cases hq : fvd f = true
  · simp only [hq, Bool.not_true, Bool.false_eq_true, if_false, if_true, ne_eq, not_true_eq_false] at h ⊢
    unfold prdS at h ⊢
    split at h
    · rename_i h1
      rw [if_pos h1]
      have hm : hasM f mx my = true := by
        simp only [Bool.and_eq_true, decide_eq_true_eq] at h1
        obtain ⟨A, B, _, _, _, _, ew, eh, _⟩ := fvd_nat hq
        simp only [hasM, hq, Bool.true_and, Bool.and_eq_true, decide_eq_true_eq]
        omega
      refine ⟨hm, ?_⟩
      rw [if_pos (by decide)]
      exact prdF_mb hm
    · simp at h
  · have hq' : fvd f = false := by simpa using hq
    simp only [hq', Bool.not_false, if_true] at h
    simp at h
/-- 10.8: Skipped macroblocks of whole frames. -/
theorem rec_skip {c : Cx} (hs : c.s = 3) (ht : c.t ≠ 1) {si sq : List UInt8} {al : Bool} {q : Int} {pa fu fi : Fm} {mx my : Int} (h : (recS c si sq al q zm0 pa fu fi mx my).2 = 0) :
    hasM pa mx my = true ∧ if c.t = 3 then hasM fu mx my = true ∧ (recS c si sq al q zm0 pa fu fi mx my).1 = mnF (mcF pa mx my) (mcF fu mx my) else (recS c si sq al q zm0 pa fu fi mx my).1 = mcF pa mx my := by
  unfold recS at h ⊢
  split at h
  · rename_i hok
    rw [if_pos hok]
    have hv : vcx c = true := by
      rw [Bool.and_eq_true] at hok
      have := hok.1
      unfold fmS at this
      rw [Bool.and_eq_true] at this
      exact this.1
    rw [if_neg (show ¬ zm0.k = 1 by decide)] at h ⊢
    rw [if_pos (show zm0.k = 0 from rfl)] at h ⊢
    have hp : pcx c = 0 := by unfold pcx; rw [if_neg (by omega)]
    have e0 : dir0 c (stl c) pa fu fi mx my = dirP c false 0 0 0 0 0 0 pa fu fi 0 mx my := by unfold dir0 stl; rw [hp]
    have e1 : dir1 c (stl c) pa fu fi mx my = dirP c false 0 0 0 0 0 0 pa fu fi 1 mx my := by unfold dir1 stl; rw [hp]; simp only [ite_self]
    have s0 := dir_skip (g := f0) (fi := fi) hv hs (pa := pa) (fu := fu) (d := 0) (mx := mx) (my := my) (.inl rfl)
    have s1 := dir_skip (g := f0) (fi := fi) hv hs (pa := pa) (fu := fu) (d := 1) (mx := mx) (my := my) (.inr rfl)
    rw [if_neg (by decide)] at s0
    rw [if_pos rfl] at s1
    unfold prS at h ⊢
    rw [e0, e1] at h ⊢
    rw [if_pos (show (stl c).ua = true from rfl)] at h ⊢
    have hub : (stl c).ub = decide (c.t = 3) := rfl
    rw [hub] at h ⊢
    generalize dirP c false 0 0 0 0 0 0 pa fu fi 0 mx my = r0 at h s0 ⊢
    generalize dirP c false 0 0 0 0 0 0 pa fu fi 1 mx my = r1 at h s1 ⊢
    by_cases z0 : r0.2 = 0
    · obtain ⟨a1, a2⟩ := s0 z0
      refine ⟨a1, ?_⟩
      by_cases h3 : c.t = 3
      · simp only [z0, h3, ne_eq, not_true_eq_false, if_false, decide_true, if_true] at h ⊢
        by_cases z1 : r1.2 = 0
        · obtain ⟨b1, b2⟩ := s1 z1
          simp only [z1, not_true_eq_false, if_false] at h ⊢
          refine ⟨b1, ?_⟩
          rw [addN_none (stl_flags c), a2, b2]
        · simp only [z1, not_false_eq_true, if_true] at h
      · simp only [z0, h3, ne_eq, not_true_eq_false, if_false, decide_false, Bool.false_eq_true] at h ⊢
        rw [addN_none (stl_flags c), a2]
    · simp only [z0, ne_eq, not_false_eq_true, if_true] at h
  · simp at h
theorem rec_bad {c : Cx} {si sq : List UInt8} {al : Bool} {q : Int} {m : Mb} {pa fu fi : Fm} {mx my : Int} (h : (recS c si sq al q m pa fu fi mx my).2 ≠ 0) : (recS c si sq al q m pa fu fi mx my).1 = f0 := by
  unfold recS at h ⊢
  split at h
  · rename_i hok
    rw [if_pos hok]
    by_cases h1 : m.k = 1
    · rw [if_pos h1] at h; exact absurd rfl h
    · rw [if_neg h1] at h ⊢
      generalize (if m.k = 0 then stl c else m) = m' at h ⊢
      split at h
      · rename_i h2; rw [if_pos h2]
      · exact absurd rfl h
  · rename_i hok
    rw [if_neg hok]

/-! ### the distance of frames -/
def apt (a b : List UInt8) : Nat → Int
  | 0 => 0
  | n + 1 => max (max (apt a b n) (byt a n - byt b n)) (byt b n - byt a n)
theorem apt_nn (a b : List UInt8) : ∀ n, 0 ≤ apt a b n
  | 0 => by simp [apt]
  | n + 1 => by have := apt_nn a b n; rw [apt]; omega
theorem apt_hi (a b : List UInt8) : ∀ n, apt a b n ≤ 255
  | 0 => by simp [apt]
  | n + 1 => by
    have := apt_hi a b n
    have h1 := byt_range a n
    have h2 := byt_range b n
    rw [apt]; omega
theorem apt_le {a b : List UInt8} {D : Int} : ∀ n, apt a b n ≤ D → ∀ i, i < n → -D ≤ byt a i - byt b i ∧ byt a i - byt b i ≤ D
  | 0, _, i, hi => by omega
  | n + 1, h, i, hi => by
    rw [apt] at h
    by_cases hin : i = n
    · subst hin; omega
    · exact apt_le n (by omega) i (by omega)
theorem le_apt {a b : List UInt8} {D : Int} (hD : 0 ≤ D) (h : ∀ i, -D ≤ byt a i - byt b i ∧ byt a i - byt b i ≤ D) : ∀ n, apt a b n ≤ D
  | 0 => hD
  | n + 1 => by have := le_apt hD h n; have := h n; rw [apt]; omega
def dstF (f g : Fm) : Int := if (fmd f && (fmd g && (decide (f.w = g.w) && decide (f.h = g.h)))) = true then max (max (apt f.y g.y f.y.length) (apt f.u g.u f.u.length)) (apt f.v g.v f.v.length) else -1
theorem dstF_hi (f g : Fm) : -1 ≤ dstF f g ∧ dstF f g ≤ 255 := by
  have h1 := apt_hi f.y g.y f.y.length
  have h2 := apt_hi f.u g.u f.u.length
  have h3 := apt_hi f.v g.v f.v.length
  have h4 := apt_nn f.y g.y f.y.length
  unfold dstF
  split <;> omega
theorem dst_near {f g : Fm} {D : Int} (h0 : 0 ≤ dstF f g) (h : dstF f g ≤ D) : nrF D f g := by
  unfold dstF at h0 h
  split at h0
  · rename_i hc
    rw [if_pos hc] at h
    simp only [Bool.and_eq_true, decide_eq_true_eq, fmd] at hc
    obtain ⟨⟨_, fy, fu, fv⟩, ⟨_, gy, gu, gv⟩, hw, hh⟩ := hc
    rw [hw, hh] at fy fu fv
    have ly : f.y.length = g.y.length := by omega
    have lu : f.u.length = g.u.length := by omega
    have lv : f.v.length = g.v.length := by omega
    exact ⟨hw, hh, .mk' (by omega) ly (apt_le _ (by omega)), .mk' (by omega) lu (apt_le _ (by omega)), .mk' (by omega) lv (apt_le _ (by omega))⟩
  · omega
theorem F16.fmd {f : Fm} (h : F16 f) : fmd f = true := by
  have := h.fvd
  unfold Sc.fvd at this
  rw [Bool.and_eq_true] at this
  exact this.1
theorem near_dst {f g : Fm} {D : Int} (h : nrF D f g) (hf : F16 f) : 0 ≤ dstF f g ∧ dstF f g ≤ D := by
  have hc : (Sc.fmd f && (Sc.fmd g && (decide (f.w = g.w) && decide (f.h = g.h)))) = true := by
    rw [← h.fmd, hf.fmd, h.w, h.h]; simp
  have h1 := apt_nn f.y g.y f.y.length
  have h4 := le_apt h.D0 h.y.2 f.y.length
  have h5 := le_apt h.D0 h.u.2 f.u.length
  have h6 := le_apt h.D0 h.v.2 f.v.length
  unfold dstF
  rw [if_pos hc]
  omega
theorem recS_16 {c : Cx} {si sq : List UInt8} {al : Bool} {q : Int} {m : Mb} {pa fu fi : Fm} {mx my : Int} (h : (recS c si sq al q m pa fu fi mx my).2 = 0) : F16 (recS c si sq al q m pa fu fi mx my).1 := by
  unfold recS at h ⊢
  split at h
  · rename_i hok
    rw [if_pos hok]
    by_cases h1 : m.k = 1
    · rw [if_pos h1]; exact F16.gry.addN _ _ _ _ 6 (by omega)
    · rw [if_neg h1] at h ⊢
      generalize (if m.k = 0 then stl c else m) = m' at h ⊢
      split at h
      · rename_i h2; exact absurd h h2
      · rename_i h2; rw [if_neg h2]; exact (prS_16 (Decidable.not_not.1 h2)).addN _ _ _ _ 6 (by omega)
  · simp at h

end Go.Proofs.YtahomnplappbpaaGreatDoor.Sc
