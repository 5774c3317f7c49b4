/-
  Parts of the proof, put together in one text. No condition.
-/
import Derived.Test.YtahomnplappbpaaGreatDoorW23
import Derived.Test.YtahomnplappbpaaGreatDoorW27
import Derived.Test.YtahomnplappbpaaGreatDoorW28
import Derived.Test.YtahomnplappbpaaGreatDoorW20
import Derived.Test.YtahomnplappbpaaGreatDoorW16
import Derived.Test.YtahomnplappbpaaGreatDoorW25
namespace Go.Proofs.YtahomnplappbpaaGreatDoor.Sc
set_option linter.all false
set_option linter.unusedVariables false
set_option linter.unusedSimpArgs false
open Pm Ty Go.RowKit

/-! ### frames of one macroblock -/
structure F16 (f : Fm) : Prop where
  w : f.w = 16
  h : f.h = 16
  ly : f.y.length = 256
  lu : f.u.length = 64
  lv : f.v.length = 64
def gry : Fm := ⟨16, 16, List.replicate 256 128, List.replicate 64 128, List.replicate 64 128⟩
theorem F16.gry : F16 gry := ⟨rfl, rfl, List.length_replicate, List.length_replicate, List.length_replicate⟩
theorem F16.fvd {f : Fm} (h : F16 f) : fvd f = true := by
  obtain ⟨w, h, y, u, v⟩ := f
  obtain ⟨rfl, rfl, ly, lu, lv⟩ := h
  simp only at ly lu lv
  simp [Sc.fvd, fmd, fsz, ly, lu, lv]
def cmp (f : Fm) (n : Nat) : List UInt8 := if n = 4 then f.u else if n = 5 then f.v else f.y
def stc' (f : Fm) (n : Nat) (p : List UInt8) : Fm := if n = 4 then ⟨f.w, f.h, f.y, p, f.v⟩ else if n = 5 then ⟨f.w, f.h, f.y, f.u, p⟩ else ⟨f.w, f.h, p, f.u, f.v⟩
theorem F16.cmp {f : Fm} (h : F16 f) {n : Nat} (hn : n < 6) : (cmp f n).length = bln n := by
  unfold Sc.cmp bln
  split
  · rw [if_pos (by omega)]; exact h.lu
  · split
    · rw [if_pos (by omega)]; exact h.lv
    · rw [if_neg (by omega)]; exact h.ly
theorem F16.stc {f : Fm} (h : F16 f) {n : Nat} (hn : n < 6) {p : List UInt8} (hp : p.length = bln n) : F16 (stc' f n p) := by
  unfold stc'
  split
  · exact ⟨h.w, h.h, h.ly, by rw [hp]; subst n; rfl, h.lv⟩
  · split
    · exact ⟨h.w, h.h, h.ly, h.lu, by rw [hp]; subst n; rfl⟩
    · exact ⟨h.w, h.h, by rw [hp, bln, if_neg (by omega)], h.lu, h.lv⟩
/-- A block is added to a frame. -/
def addB (f : Fm) (n : Nat) (fd : Bool) (x : List Int) : Fm := stc' f n (cad (cmp f n) n fd x)
theorem cad_len {p : List UInt8} {n : Nat} {fd : Bool} {x : List Int} (hn : n < 6) (hp : p.length = bln n) : (cad p n fd x).length = bln n := by
  rw [cad, setb_len hn hp, hp]
theorem F16.addB {f : Fm} (h : F16 f) {n : Nat} (hn : n < 6) (fd : Bool) (x : List Int) : F16 (addB f n fd x) := h.stc hn (cad_len hn (h.cmp hn))
def lvl (lv : List Int) (n : Nat) : List Int := (lv.drop (n * 64)).take 64
def rsd (lv : List Int) (al : Bool) (mat : List UInt8) (q : Int) (n : Nat) : List Int := inv (dqz (frs (lvl lv n) al) mat q)
/-- The first blocks that have levels are added. -/
def addN (m : Mb) (al : Bool) (mat : List UInt8) (q : Int) (f : Fm) : Nat → Fm
  | 0 => f
  | n + 1 => if flagAt (cdl m) n then addB (addN m al mat q f n) n m.fd (rsd m.lv al mat q n) else addN m al mat q f n
theorem F16.addN {f : Fm} (h : F16 f) (m : Mb) (al : Bool) (mat : List UInt8) (q : Int) : ∀ n, n ≤ 6 → F16 (addN m al mat q f n)
  | 0, _ => h
  | n + 1, hn => by
    have ih := h.addN m al mat q n (by omega)
    rw [Sc.addN]
    split
    · exact ih.addB (by omega) _ _
    · exact ih

/-! ### predictions of a macroblock -/
def prdF (f : Fm) (x y : Int) (h : Nat) (vx vy : Int) : Fm :=
  ⟨16, h, prd f.y f.w f.h x y 16 h vx vy, prd f.u (f.w / 2) (f.h / 2) (x / 2) (y / 2) 8 (h / 2) (vx.tdiv 2) (vy.tdiv 2), prd f.v (f.w / 2) (f.h / 2) (x / 2) (y / 2) 8 (h / 2) (vx.tdiv 2) (vy.tdiv 2)⟩
theorem prdF_16 (f : Fm) (x y vx vy : Int) : F16 (prdF f x y 16 vx vy) := ⟨rfl, rfl, prd_len _ _ _ _ _ _ _ _ _, prd_len _ _ _ _ _ _ _ _ _, prd_len _ _ _ _ _ _ _ _ _⟩
def prdS (f : Fm) (mx my vx vy : Int) : Fm × Int :=
  if (fmd f && (decide (0 ≤ mx) && (decide (16 * mx + 16 ≤ f.w) && (decide (0 ≤ my) && decide (16 * my + 16 ≤ f.h))))) = true then (if vrg vx vy = true then (prdF f (16 * mx) (16 * my) 16 vx vy, 0) else (f0, 2)) else (f0, 1)
def hasM (f : Fm) (mx my : Int) : Bool := fvd f && (decide (0 ≤ mx) && (decide (mx < f.w / 16) && (decide (0 ≤ my) && decide (my < f.h / 16))))
def wovF (a b : Fm) : Fm := ⟨16, 16, wov a.y b.y 16 8, wov a.u b.u 8 4, wov a.v b.v 8 4⟩
def fldS (f : Fm) (mx my va vb vc vd sa sb : Int) : Fm × Int :=
  if (hasM f mx my && decide (f.h % 32 = 0)) = true then (wovF (prdF (fieldOf f sa) (16 * mx) (8 * my) 8 va vb) (prdF (fieldOf f sb) (16 * mx) (8 * my) 8 vc vd), 0) else (f0, 1)
theorem wovF_16 (f g : Fm) (x y x' y' a b c d : Int) : F16 (wovF (prdF f x y 8 a b) (prdF g x' y' 8 c d)) := by
  have l1 : ∀ p W R x y vx vy, (prd p W R x y 16 8 vx vy).length = 8 * 16 := fun _ _ _ _ _ _ _ => prd_len _ _ _ _ _ _ _ _ _
  have l2 : ∀ p W R x y vx vy, (prd p W R x y 8 (8 / 2) vx vy).length = 4 * 8 := fun _ _ _ _ _ _ _ => prd_len _ _ _ _ _ _ _ _ _
  exact ⟨rfl, rfl, wov_len (l1 ..) (l1 ..) 8 (Nat.le_refl _), wov_len (l2 ..) (l2 ..) 4 (Nat.le_refl _), wov_len (l2 ..) (l2 ..) 4 (Nat.le_refl _)⟩
def mnF (a b : Fm) : Fm := ⟨a.w, a.h, mnb a.y b.y, mnb a.u b.u, mnb a.v b.v⟩
theorem mnF_16 {a : Fm} (h : F16 a) (b : Fm) : F16 (mnF a b) := ⟨h.w, h.h, (mnb_len _ _).trans h.ly, (mnb_len _ _).trans h.lu, (mnb_len _ _).trans h.lv⟩
/-- The prediction of one direction. -/
def dirP (c : Cx) (fp : Bool) (va vb vc vd sa sb : Int) (pa fu fi : Fm) (d mx my : Int) : Fm × Int :=
  if (refS c pa fu fi d sa).2 ≠ 0 then (f0, (refS c pa fu fi d sa).2) else if fp = true then fldS (refS c pa fu fi d sa).1 mx my va vb vc vd sa sb else prdS (refS c pa fu fi d sa).1 mx my va vb
def dir0 (c : Cx) (m : Mb) (pa fu fi : Fm) (mx my : Int) : Fm × Int := dirP c m.fp m.va m.vb m.vc m.vd m.sa m.sb pa fu fi 0 mx my
def dir1 (c : Cx) (m : Mb) (pa fu fi : Fm) (mx my : Int) : Fm × Int := dirP c m.fp m.ve m.vf m.vg m.vh m.sc m.sd pa fu fi 1 mx my
/-- The prediction of a macroblock. -/
def prS (c : Cx) (m : Mb) (pa fu fi : Fm) (mx my : Int) : Fm × Int :=
  if m.ua = true then
    if (dir0 c m pa fu fi mx my).2 ≠ 0 then (f0, (dir0 c m pa fu fi mx my).2)
    else if m.ub = true then
      if (dir1 c m pa fu fi mx my).2 ≠ 0 then (f0, (dir1 c m pa fu fi mx my).2)
      else (mnF (dir0 c m pa fu fi mx my).1 (dir1 c m pa fu fi mx my).1, 0)
    else dir0 c m pa fu fi mx my
  else dir1 c m pa fu fi mx my
theorem prdS_16 {f : Fm} {mx my vx vy : Int} (h : (prdS f mx my vx vy).2 = 0) : F16 (prdS f mx my vx vy).1 := by
  unfold prdS at h ⊢
  split at h
  · rename_i h1
    split at h
    · rename_i h2
      rw [if_pos h1, if_pos h2]; exact prdF_16 _ _ _ _ _
    · cases h
  · cases h
theorem fldS_16 {f : Fm} {mx my va vb vc vd sa sb : Int} (h : (fldS f mx my va vb vc vd sa sb).2 = 0) : F16 (fldS f mx my va vb vc vd sa sb).1 := by
  unfold fldS at h ⊢
  split at h
  · rename_i h1
    rw [if_pos h1]; exact wovF_16 _ _ _ _ _ _ _ _ _ _
  · cases h
theorem dirP_16 {c : Cx} {fp : Bool} {va vb vc vd sa sb : Int} {pa fu fi : Fm} {d mx my : Int} (h : (dirP c fp va vb vc vd sa sb pa fu fi d mx my).2 = 0) : F16 (dirP c fp va vb vc vd sa sb pa fu fi d mx my).1 := by
  unfold dirP at h ⊢
  split at h
  · rename_i h1; exact absurd h h1
  · rename_i h1
    rw [if_neg h1]
    split at h
    · rename_i h2; rw [if_pos h2]; exact fldS_16 h
    · rename_i h2; rw [if_neg h2]; exact prdS_16 h
theorem prS_16 {c : Cx} {m : Mb} {pa fu fi : Fm} {mx my : Int} (h : (prS c m pa fu fi mx my).2 = 0) : F16 (prS c m pa fu fi mx my).1 := by
  unfold prS at h ⊢
  split at h
  · rename_i h1
    rw [if_pos h1]
    split at h
    · rename_i h2; exact absurd h h2
    · rename_i h2
      rw [if_neg h2]
      have h3 : F16 (dir0 c m pa fu fi mx my).1 := dirP_16 (Decidable.not_not.1 h2)
      split at h
      · rename_i h4
        rw [if_pos h4]
        split at h
        · rename_i h5; exact absurd h h5
        · rename_i h5
          rw [if_neg h5]; exact mnF_16 h3 _
      · rename_i h4
        rw [if_neg h4]; exact h3
  · rename_i h1
    rw [if_neg h1]; exact dirP_16 h
/-- The macroblock that is predicted as a skipped one is. -/
def stl (c : Cx) : Mb := ⟨2, true, decide (c.t = 3), false, false, 0, 0, 0, 0, 0, 0, 0, 0, pcx c, 0, if c.t = 3 then pcx c else 0, 0, 0, false, false, false, false, false, false, zl384⟩
/-- What Reconstruct answers. -/
def recS (c : Cx) (si sq : List UInt8) (al : Bool) (q : Int) (m : Mb) (pa fu fi : Fm) (mx my : Int) : Fm × Int :=
  if (fmS c m && (mxOk si && (mxOk sq && qnB q))) = true then
    if m.k = 1 then (addN m al si q gry 6, 0)
    else if (prS c (if m.k = 0 then stl c else m) pa fu fi mx my).2 ≠ 0 then (f0, (prS c (if m.k = 0 then stl c else m) pa fu fi mx my).2)
    else (addN (if m.k = 0 then stl c else m) al sq q (prS c (if m.k = 0 then stl c else m) pa fu fi mx my).1 6, 0)
  else (f0, 1)

/-! ### frames that are close -/
structure nrF (D : Int) (f g : Fm) : Prop where
  w : f.w = g.w
  h : f.h = g.h
  y : nr D f.y g.y
  u : nr D f.u g.u
  v : nr D f.v g.v
theorem nrF.refl {D : Int} (h : 0 ≤ D) (f : Fm) : nrF D f f := ⟨rfl, rfl, .refl h _, .refl h _, .refl h _⟩
theorem nrF.D0 {D : Int} {f g : Fm} (h : nrF D f g) : 0 ≤ D := h.y.D0
theorem nrF.fmd {D : Int} {f g : Fm} (h : nrF D f g) : fmd f = fmd g := by
  unfold Sc.fmd; rw [h.w, h.h, h.y.1, h.u.1, h.v.1]
theorem nrF.fvd {D : Int} {f g : Fm} (h : nrF D f g) : fvd f = fvd g := by
  unfold Sc.fvd; rw [h.fmd, h.w, h.h]
theorem nrF.prdF {D : Int} {f g : Fm} (h : nrF D f g) (x y : Int) (k : Nat) (vx vy : Int) : nrF D (prdF f x y k vx vy) (prdF g x y k vx vy) := by
  unfold Sc.prdF
  rw [h.w, h.h]
  exact ⟨rfl, rfl, h.y.prd _ _ _ _ _ _ _ _, h.u.prd _ _ _ _ _ _ _ _, h.v.prd _ _ _ _ _ _ _ _⟩
theorem nrF.fieldOf {D : Int} {f g : Fm} (h : nrF D f g) {s : Int} (hs : s = 0 ∨ s = 1) (hv : Sc.fvd f = true) (h32 : f.h % 32 = 0) : nrF D (fieldOf f s) (fieldOf g s) := by
  obtain ⟨w, ht, y, u, v⟩ := f
  obtain ⟨w', ht', y', u', v'⟩ := g
  obtain ⟨e1, e2, h3, h4, h5⟩ := h
  simp only at e1 e2 h3 h4 h5 h32
  subst e1 e2
  obtain ⟨V, K, rfl, rfl, ok⟩ := fvd_fr4 hv h32
  obtain ⟨P, hP, rfl⟩ : ∃ P : Nat, P ≤ 1 ∧ s = (P : Int) := by
    rcases hs with e | e
    · exact ⟨0, by omega, by omega⟩
    · exact ⟨1, by omega, by omega⟩
  have f1 := fieldOf_fr4 V K P y u v
  have f2 := fieldOf_fr4 V K P y' u' v'
  unfold fr4 at f1 f2
  rw [f1, f2]
  exact ⟨rfl, rfl, h3.ctl (rows_fit _ _ _ hP _ ok.ly), h4.ctl (rows_fit _ _ _ hP _ ok.lu), h5.ctl (rows_fit _ _ _ hP _ ok.lv)⟩
/-- Answers that are close. -/
def nrA (D : Int) (a b : Fm × Int) : Prop := a.2 = b.2 ∧ nrF D a.1 b.1
theorem nrF.lastF {D : Int} {f g : Fm} (h : nrF D f g) (wh : Bool) (s : Int) (hs : wh = true ∨ s = 0 ∨ s = 1) : nrA D (lastF f wh s) (lastF g wh s) := by
  have h0 := nrF.refl h.D0 f0
  unfold Sc.lastF
  rw [← h.w, ← h.fvd, ← h.h]
  split
  · exact ⟨rfl, h0⟩
  split
  · exact ⟨rfl, h0⟩
  rename_i hb
  split
  · exact ⟨rfl, h⟩
  rename_i hw
  have hb' : Sc.fvd f = true ∧ f.h % 32 = 0 := by
    cases hv : Sc.fvd f <;> cases wh <;> simp_all
  exact ⟨rfl, h.fieldOf (by rcases hs with e | e; exact absurd e hw; exact e) hb'.1 hb'.2⟩
theorem nrF.refS {D : Int} {pa fu fi pa' fu' : Fm} (hp : nrF D pa pa') (hf : nrF D fu fu') {c : Cx} (hc : c.n = false) (d s : Int) : nrA D (refS c pa fu fi d s) (refS c pa' fu' fi d s) := by
  have h0 := nrF.refl hp.D0 f0
  unfold Sc.refS
  split
  · exact ⟨rfl, h0⟩
  rename_i hb
  have hs : ((!(fcx c)) = true ∨ s = 0 ∨ s = 1) := by
    rw [badA] at hb
    cases hfc : fcx c
    · exact .inl rfl
    · right
      rw [hfc] at hb
      simp at hb
      omega
  unfold pickF
  rw [hc]
  split
  · exact hf.lastF _ _ hs
  · exact hp.lastF _ _ hs
theorem nrF.prdS {D : Int} {f g : Fm} (h : nrF D f g) (mx my vx vy : Int) : nrA D (prdS f mx my vx vy) (prdS g mx my vx vy) := by
  have h0 := nrF.refl h.D0 f0
  unfold Sc.prdS
  rw [h.fmd, h.w, h.h]
  split
  · split
    · exact ⟨rfl, h.prdF _ _ _ _ _⟩
    · exact ⟨rfl, h0⟩
  · exact ⟨rfl, h0⟩
theorem nrF.wovF {D : Int} {f g f' g' : Fm} (h : nrF D f g) (h' : nrF D f' g') (x y x' y' a b c d : Int) : nrF D (wovF (Sc.prdF f x y 8 a b) (Sc.prdF f' x' y' 8 c d)) (wovF (Sc.prdF g x y 8 a b) (Sc.prdF g' x' y' 8 c d)) := by
  have h1 := h.prdF x y 8 a b
  have h2 := h'.prdF x' y' 8 c d
  have l1 : ∀ p W R x y vx vy, (prd p W R x y 16 8 vx vy).length = 8 * 16 := fun _ _ _ _ _ _ _ => prd_len _ _ _ _ _ _ _ _ _
  have l2 : ∀ p W R x y vx vy, (prd p W R x y 8 (8 / 2) vx vy).length = 4 * 8 := fun _ _ _ _ _ _ _ => prd_len _ _ _ _ _ _ _ _ _
  exact ⟨rfl, rfl, h1.y.wov h2.y (l1 ..) (l1 ..), h1.u.wov h2.u (l2 ..) (l2 ..), h1.v.wov h2.v (l2 ..) (l2 ..)⟩
theorem nrF.fldS {D : Int} {f g : Fm} (h : nrF D f g) (mx my va vb vc vd : Int) {sa sb : Int} (ha : sa = 0 ∨ sa = 1) (hb : sb = 0 ∨ sb = 1) : nrA D (fldS f mx my va vb vc vd sa sb) (fldS g mx my va vb vc vd sa sb) := by
  have h0 := nrF.refl h.D0 f0
  have e : hasM f mx my = hasM g mx my := by unfold hasM; rw [h.fvd, h.w, h.h]
  unfold Sc.fldS
  rw [← e, ← h.h]
  split
  · rename_i hc
    rw [Bool.and_eq_true, decide_eq_true_eq, hasM, Bool.and_eq_true] at hc
    exact ⟨rfl, (h.fieldOf ha hc.1.1 hc.2).wovF (h.fieldOf hb hc.1.1 hc.2) _ _ _ _ _ _ _ _⟩
  · exact ⟨rfl, h0⟩
theorem nrF.dirP {D : Int} {pa fu fi pa' fu' : Fm} (hp : nrF D pa pa') (hf : nrF D fu fu') {c : Cx} (hc : c.n = false) (fp : Bool) (va vb vc vd : Int) {sa sb : Int} (ha : sa = 0 ∨ sa = 1) (hb : sb = 0 ∨ sb = 1) (d mx my : Int) :
    nrA D (dirP c fp va vb vc vd sa sb pa fu fi d mx my) (dirP c fp va vb vc vd sa sb pa' fu' fi d mx my) := by
  have h0 := nrF.refl hp.D0 f0
  obtain ⟨h1, h2⟩ := hp.refS (fi := fi) hf hc d sa
  unfold Sc.dirP
  rw [h1]
  split
  · exact ⟨rfl, h0⟩
  split
  · exact h2.fldS _ _ _ _ _ _ ha hb
  · exact h2.prdS _ _ _ _
structure selB (m : Mb) : Prop where
  a : m.sa = 0 ∨ m.sa = 1
  b : m.sb = 0 ∨ m.sb = 1
  c : m.sc = 0 ∨ m.sc = 1
  d : m.sd = 0 ∨ m.sd = 1
theorem nrF.mnF {D : Int} {f g f' g' : Fm} (h : nrF D f g) (h' : nrF D f' g') : nrF D (mnF f f') (mnF g g') := ⟨h.w, h.h, h.y.mnb h'.y, h.u.mnb h'.u, h.v.mnb h'.v⟩
theorem nrF.prS {D : Int} {pa fu fi pa' fu' : Fm} (hp : nrF D pa pa') (hf : nrF D fu fu') {c : Cx} (hc : c.n = false) {m : Mb} (hs : selB m) (mx my : Int) : nrA D (prS c m pa fu fi mx my) (prS c m pa' fu' fi mx my) := by
  have h0 := nrF.refl hp.D0 f0
  obtain ⟨a1, a2⟩ := hp.dirP (fi := fi) hf hc m.fp m.va m.vb m.vc m.vd hs.a hs.b 0 mx my
  obtain ⟨b1, b2⟩ := hp.dirP (fi := fi) hf hc m.fp m.ve m.vf m.vg m.vh hs.c hs.d 1 mx my
  unfold Sc.prS dir0 dir1
  rw [← a1, ← b1]
  split
  · split
    · exact ⟨rfl, h0⟩
    · split
      · split
        · exact ⟨rfl, h0⟩
        · exact ⟨rfl, a2.mnF b2⟩
      · exact ⟨a1, a2⟩
  · exact ⟨b1, b2⟩
theorem nrF.addB {D : Int} {f g : Fm} (h : nrF D f g) (hf : F16 f) {n : Nat} (hn : n < 6) (fd : Bool) (x : List Int) : nrF D (addB f n fd x) (addB g n fd x) := by
  have hl := hf.cmp hn
  unfold Sc.addB Sc.cmp at *
  unfold stc'
  by_cases h4 : n = 4
  · simp only [if_pos h4] at hl ⊢
    exact ⟨h.w, h.h, h.y, h.u.cad hn hl, h.v⟩
  · by_cases h5 : n = 5
    · simp only [if_neg h4, if_pos h5] at hl ⊢
      exact ⟨h.w, h.h, h.y, h.u, h.v.cad hn hl⟩
    · simp only [if_neg h4, if_neg h5] at hl ⊢
      exact ⟨h.w, h.h, h.y.cad hn hl, h.u, h.v⟩
theorem nrF.addN {D : Int} {f g : Fm} (h : nrF D f g) (hf : F16 f) (m : Mb) (al : Bool) (mat : List UInt8) (q : Int) : ∀ n, n ≤ 6 → nrF D (addN m al mat q f n) (addN m al mat q g n)
  | 0, _ => h
  | n + 1, hn => by
    have ih := h.addN hf m al mat q n (by omega)
    rw [Sc.addN, Sc.addN]
    split
    · exact ih.addB (hf.addN m al mat q n (by omega)) (by omega) _ _
    · exact ih
end Go.Proofs.YtahomnplappbpaaGreatDoor.Sc

namespace Go.Proofs.YtahomnplappbpaaGreatDoor.Sc
set_option linter.all false
set_option linter.unusedVariables false
set_option linter.unusedSimpArgs false
open Pm Ty Go.RowKit

theorem has_ok (f : Fm) (mx my : Int) (H : Heap) : CallOk Tryz.prog 126 [.agg (fmc f), .int .i64 mx, .int .i64 my] H (.bool (hasM f mx my)) H := by
  have va := fun K => valid_ok f K
  have hr : hasM f mx my = (fvd f && (decide (0 ≤ mx) && (decide (mx < f.w / 16) && (decide (0 ≤ my) && decide (my < f.h / 16))))) := rfl
  generalize hasM f mx my = r at hr ⊢
  cases hv : fvd f
  · rw [hv] at va hr
    obtain ⟨w, ht, y, u, v⟩ := f
    simp only [fmc] at va ⊢
    refine CallOk.body (F0 := [(0, .agg [.int .i64 w, .int .i64 ht, .slice (bs y) y.length false, .slice (bs u) u.length false, .slice (bs v) v.length false]), (1, .int .i64 mx), (2, .int .i64 my)]) Tryz.func126 rfl Tryz.ntmps126 Tryz.results126 rfl (by kernel_rfl) rfl ?_
    (repeat refine PW.seq ?_); refine PW.rg rfl fun K hK => ?_; simp (disch := omega) only [go_sem, ↓reduceIte, reduceCtorEq, pappend, plen]; refine hK _ _ ?_; clear hK K
    (repeat refine PW.seq ?_); refine PW.rg rfl fun K hK => ?_; simp (disch := omega) only [go_sem, ↓reduceIte, reduceCtorEq, pappend, plen]; (repeat' (first | ((first | refine VO_cond ?_ ?_ | refine VOd_cond ?_ ?_ | refine VOg_cond ?_ ?_ | refine VOh_cond ?_ ?_ | refine VOi_cond ?_ ?_ | refine And.intro ?_ ?_) <;> intro h <;> (try simp only [Bool.not_eq_true', Bool.not_eq_false', decide_eq_true_eq, decide_eq_false_iff_not] at h) <;> simp (disch := omega) only [go_sem, ↓reduceIte, reduceCtorEq, pappend, plen, h]) | ((first | refine VCx.call (va _) rfl ?_ | refine VCy.call (va _) rfl ?_ | refine VCz.call (fun _ => va _) rfl ?_ | refine VCk.call (fun _ _ => va _) rfl ?_ | refine VCj.now (va _) rfl ?_); simp (disch := omega) only [go_sem, ↓reduceIte, reduceCtorEq, pappend, plen])))
    all_goals (refine hK _ _ ?_; clear hK; (refine PW.ret ⟨_, rfl, ?_⟩; first | refine .inl ⟨?_, rfl⟩ | refine Fin.base (.id' ?_ (.bool _)) | refine Fin.base (.id' ?_ (.int _ _))); (simp_all [slot, Nat.beq] <;> first | rfl | omega | (rw [Bool.eq_iff_iff]; simp; done) | (rw [Bool.eq_iff_iff]; simp; omega)))
  · rw [hv] at va hr
    have hp : (0 ≤ f.w ∧ f.w ≤ 64) ∧ 0 ≤ f.h ∧ f.h ≤ 64 := by
      unfold fvd fmd at hv
      simp only [Bool.and_eq_true] at hv
      have := fsz_of hv.1.1
      omega
    obtain ⟨w, ht, y, u, v⟩ := f
    simp only [fmc] at va hp hr ⊢
    clear hv
    refine CallOk.body (F0 := [(0, .agg [.int .i64 w, .int .i64 ht, .slice (bs y) y.length false, .slice (bs u) u.length false, .slice (bs v) v.length false]), (1, .int .i64 mx), (2, .int .i64 my)]) Tryz.func126 rfl Tryz.ntmps126 Tryz.results126 rfl (by kernel_rfl) rfl ?_
    (repeat refine PW.seq ?_); refine PW.rg rfl fun K hK => ?_; simp (disch := omega) only [go_sem, ↓reduceIte, reduceCtorEq, pappend, plen]; refine hK _ _ ?_; clear hK K
    (repeat refine PW.seq ?_); refine PW.rg rfl fun K hK => ?_; simp (disch := omega) only [go_sem, ↓reduceIte, reduceCtorEq, pappend, plen]; (repeat' (first | ((first | refine VO_cond ?_ ?_ | refine VOd_cond ?_ ?_ | refine VOg_cond ?_ ?_ | refine VOh_cond ?_ ?_ | refine VOi_cond ?_ ?_ | refine And.intro ?_ ?_) <;> intro h <;> (try simp only [Bool.not_eq_true', Bool.not_eq_false', decide_eq_true_eq, decide_eq_false_iff_not] at h) <;> simp (disch := omega) only [go_sem, ↓reduceIte, reduceCtorEq, pappend, plen, tdiv_pos, h]) | ((first | refine VCx.call (va _) rfl ?_ | refine VCy.call (va _) rfl ?_ | refine VCz.call (fun _ => va _) rfl ?_ | refine VCk.call (fun _ _ => va _) rfl ?_ | refine VCj.now (va _) rfl ?_); simp (disch := omega) only [go_sem, ↓reduceIte, reduceCtorEq, pappend, plen, tdiv_pos])))
    all_goals (refine hK _ _ ?_; clear hK va; (refine PW.ret ⟨_, rfl, ?_⟩; first | refine .inl ⟨?_, rfl⟩ | refine Fin.base (.id' ?_ (.bool _)) | refine Fin.base (.id' ?_ (.int _ _))); rw [hr]; simp_all [slot, Nat.beq] <;> grind)
theorem F16.has {f : Fm} (h : F16 f) : hasM f 0 0 = true := by
  unfold hasM; rw [h.fvd, h.w, h.h]; rfl

theorem or6 {i : Nat} (h : i < 6) : i = 0 ∨ i = 1 ∨ i = 2 ∨ i = 3 ∨ i = 4 ∨ i = 5 := by omega
def areaC (n : Nat) (fd : Bool) : List PV := [.int .i64 (bfr n fd : Int), .int .i64 (bst n fd : Int), .int .i64 8, .int .i64 8]
theorem four_scoped (n : Nat) (a b c d : Int) : ∀ x ∈ [PV.int .i64 a, PV.int .i64 b, PV.int .i64 c, PV.int .i64 d], Scoped n x := fun x hx => by
  simp only [List.mem_cons, List.not_mem_nil, or_false] at hx
  rcases hx with rfl | rfl | rfl | rfl <;> exact .int _ _
theorem macro_ok (H : Heap) : CallOk Tryz.prog 129 [.int .i64 16, .int .i64 0, .int .i64 0] H (.tup [.agg [.int .i64 0, .int .i64 16, .int .i64 16, .int .i64 16], .agg [.int .i64 0, .int .i64 8, .int .i64 8, .int .i64 8]]) H := by
  have d1 : (16 : Int).tdiv 2 = 8 := rfl
  refine CallOk.body (F0 := [(0, .int .i64 16), (1, .int .i64 0), (2, .int .i64 0)]) Tryz.func129 rfl Tryz.ntmps129 Tryz.results129 rfl (by kernel_rfl) rfl ?_
  (repeat refine PW.seq ?_); refine PW.rg rfl fun K hK => ?_; simp (disch := omega) only [go_sem, ↓reduceIte, reduceCtorEq, pappend, plen]; refine hK _ _ ?_; clear hK K
  (repeat refine PW.seq ?_); refine PW.rg rfl fun K hK => ?_; simp (disch := omega) only [go_sem, ↓reduceIte, reduceCtorEq, pappend, plen]; refine hK _ _ ?_; clear hK K
  (repeat refine PW.seq ?_); refine PW.rg rfl fun K hK => ?_; simp (disch := omega) only [go_sem, ↓reduceIte, reduceCtorEq, pappend, plen, d1]; refine hK _ _ ?_; clear hK K
  (repeat refine PW.seq ?_); refine PW.drawi [H.length, H.length + 1] [(6, [0]), (7, [1])] [] [] mix (by kernel_rfl) (by simp <;> omega) fun K hK => ?_
  simp (disch := omega) only [go_sem, ↓reduceIte, reduceCtorEq, pappend, plen]
  refine hK _ _ ?_; clear hK K
  refine PW.ret ⟨.tup [.agg [.int .i64 0, .int .i64 16, .int .i64 16, .int .i64 16], .agg [.int .i64 0, .int .i64 8, .int .i64 8, .int .i64 8]], by simp (disch := omega) only [go_sem, ↓reduceIte, reduceCtorEq, pappend, plen, presults, presult, List.mapM_cons, List.mapM_nil, Option.pure_def, Option.bind_eq_bind, Option.bind_some, Array.toList, Int.reduceMul, Int.reduceAdd], ?_⟩
  refine Fin.base (.id (.tup (asc fun x hx => ?_)))
  simp only [List.mem_cons, List.not_mem_nil, or_false] at hx
  rcases hx with rfl | rfl <;> exact ag_scoped (four_scoped _ _ _ _ _)
set_option maxHeartbeats 1600000 in
theorem place_ok (n : Nat) (fd : Bool) (hn : n < 6) (H : Heap) : CallOk Tryz.prog 228 [.int .i64 16, .int .i64 0, .int .i64 0, .int .i64 (n : Int), .bool fd] H (.agg (areaC n fd)) H := by
  have mo := fun K => macro_ok K
  have m1 : (n : Int).tmod 2 = ((n % 2 : Nat) : Int) := by rw [tmod_pos _ _ (by omega)]; omega
  have m2 : (n : Int).tdiv 2 = ((n / 2 : Nat) : Int) := by rw [tdiv_pos _ _ (by omega)]; omega
  refine CallOk.body (F0 := [(0, .int .i64 16), (1, .int .i64 0), (2, .int .i64 0), (3, .int .i64 (n : Int)), (4, .bool fd)]) Tryz.func228 rfl Tryz.ntmps228 Tryz.results228 rfl (by kernel_rfl) rfl ?_
  (repeat refine PW.seq ?_); refine PW.rg rfl fun K hK => ?_; simp (disch := omega) only [go_sem, ↓reduceIte, reduceCtorEq, pappend, plen]; refine hK _ _ ?_; clear hK K
  (repeat refine PW.seq ?_); refine PW.rg rfl fun K hK => ?_; simp (disch := omega) only [go_sem, ↓reduceIte, reduceCtorEq, pappend, plen]; refine VCx.call (mo _) rfl ?_; simp (disch := omega) only [go_sem, ↓reduceIte, reduceCtorEq, pappend, plen]; refine hK _ _ ?_; clear hK K
  (repeat refine PW.seq ?_); refine PW.rg rfl fun K hK => ?_; simp (disch := omega) only [go_sem, ↓reduceIte, reduceCtorEq, pappend, plen]; refine hK _ _ ?_; clear hK K
  (repeat refine PW.seq ?_); refine PW.cond (t := _) rfl (fun h => ?_) (fun h => ?_)
  · have h4 : 4 ≤ n := by have := of_decide_eq_true h; omega
    (repeat refine PW.seq ?_); refine PW.rg rfl fun K hK => ?_; simp (disch := omega) only [go_sem, ↓reduceIte, reduceCtorEq, pappend, plen]; refine hK _ _ ?_; clear hK K
    refine PW.ret ⟨.agg [.int .i64 0, .int .i64 8, .int .i64 8, .int .i64 8], by simp (disch := omega) only [go_sem, ↓reduceIte, reduceCtorEq, pappend, plen, presults, presult, List.mapM_cons, List.mapM_nil, Option.pure_def, Option.bind_eq_bind, Option.bind_some, Array.toList], ?_⟩
    have e : areaC n fd = [.int .i64 0, .int .i64 8, .int .i64 8, .int .i64 8] := by unfold areaC bfr bst; rw [if_pos h4, if_pos h4]; rfl
    rw [e]
    exact Fin.base (.id (ag_scoped (four_scoped _ _ _ _ _)))
  have h4 : ¬ 4 ≤ n := by have := of_decide_eq_false h; omega
  refine PW.skip ?_
  (repeat refine PW.seq ?_); refine PW.rg rfl fun K hK => ?_; simp (disch := omega) only [go_sem, ↓reduceIte, reduceCtorEq, pappend, plen, m1, m2]; refine hK _ _ ?_; clear hK K
  cases fd
  · have e : areaC n false = [.int .i64 (0 + ((n % 2 : Nat) : Int) * 8 + ((n / 2 : Nat) : Int) * 8 * 16), .int .i64 16, .int .i64 8, .int .i64 8] := by
      unfold areaC bfr bst; rw [if_neg h4, if_neg h4]
      simp only [Bool.false_eq_true, if_false, List.cons.injEq, PV.int.injEq, true_and, and_true]
      omega
    (repeat refine PW.seq ?_); refine PW.rg rfl fun K hK => ?_; simp (disch := omega) only [go_sem, ↓reduceIte, reduceCtorEq, pappend, plen]; refine hK _ _ ?_; clear hK K
    (repeat refine PW.seq ?_); refine PW.cond (t := _) rfl (fun h => ?_) (fun h => ?_)
    · cases h
    refine PW.skip ?_
    (repeat refine PW.seq ?_); refine PW.rg rfl fun K hK => ?_; simp (disch := omega) only [go_sem, ↓reduceIte, reduceCtorEq, pappend, plen]; refine hK _ _ ?_; clear hK K
    refine PW.ret ⟨.agg [.int .i64 (0 + ((n % 2 : Nat) : Int) * 8 + ((n / 2 : Nat) : Int) * 8 * 16), .int .i64 16, .int .i64 8, .int .i64 8], by simp (disch := omega) only [go_sem, ↓reduceIte, reduceCtorEq, pappend, plen, presults, presult, List.mapM_cons, List.mapM_nil, Option.pure_def, Option.bind_eq_bind, Option.bind_some, Array.toList], ?_⟩
    rw [e]
    exact Fin.base (.id (ag_scoped (four_scoped _ _ _ _ _)))
  · have e : areaC n true = [.int .i64 (0 + ((n % 2 : Nat) : Int) * 8 + ((n / 2 : Nat) : Int) * 16), .int .i64 32, .int .i64 8, .int .i64 8] := by
      unfold areaC bfr bst; rw [if_neg h4, if_neg h4]
      simp only [if_true, List.cons.injEq, PV.int.injEq, true_and, and_true]
      omega
    (repeat refine PW.seq ?_); refine PW.rg rfl fun K hK => ?_; simp (disch := omega) only [go_sem, ↓reduceIte, reduceCtorEq, pappend, plen]; refine hK _ _ ?_; clear hK K
    (repeat refine PW.seq ?_); refine PW.cond (t := _) rfl (fun h => ?_) (fun h => ?_)
    rotate_left
    · cases h
    (repeat refine PW.seq ?_); refine PW.rg rfl fun K hK => ?_; simp (disch := omega) only [go_sem, ↓reduceIte, reduceCtorEq, pappend, plen]; refine hK _ _ ?_; clear hK K
    refine PW.ret ⟨.agg [.int .i64 (0 + ((n % 2 : Nat) : Int) * 8 + ((n / 2 : Nat) : Int) * 16), .int .i64 32, .int .i64 8, .int .i64 8], by simp (disch := omega) only [go_sem, ↓reduceIte, reduceCtorEq, pappend, plen, presults, presult, List.mapM_cons, List.mapM_nil, Option.pure_def, Option.bind_eq_bind, Option.bind_some, Array.toList, Int.reduceMul], ?_⟩
    rw [e]
    exact Fin.base (.id (ag_scoped (four_scoped _ _ _ _ _)))
/-- The slices of a frame of one macroblock, as a component is chosen. -/
theorem component_ok (w ht : Int) (y u v : List UInt8) (n : Nat) (H : Heap) (hn : n < 6) : CallOk Tryz.prog 227 [.agg (fmc ⟨w, ht, y, u, v⟩), .int .i64 (n : Int)] H (.slice (bs (cmp ⟨w, ht, y, u, v⟩ n)) (cmp ⟨w, ht, y, u, v⟩ n).length false) H := by
  refine CallOk.body (F0 := [(0, .agg [.int .i64 w, .int .i64 ht, .slice (bs y) y.length false, .slice (bs u) u.length false, .slice (bs v) v.length false]), (1, .int .i64 (n : Int))]) Tryz.func227 rfl Tryz.ntmps227 Tryz.results227 rfl (by kernel_rfl) rfl ?_
  (repeat refine PW.seq ?_); refine PW.rg rfl fun K hK => ?_; simp (disch := omega) only [go_sem, ↓reduceIte, reduceCtorEq, pappend, plen]; refine hK _ _ ?_; clear hK K
  (repeat refine PW.seq ?_); refine PW.rg rfl fun K hK => ?_; simp (disch := omega) only [go_sem, ↓reduceIte, reduceCtorEq, pappend, plen]; refine hK _ _ ?_; clear hK K
  (repeat refine PW.seq ?_); refine PW.block ?_
  (repeat refine PW.seq ?_); refine PW.rg rfl fun K hK => ?_; simp (disch := omega) only [go_sem, ↓reduceIte, reduceCtorEq, pappend, plen]; refine hK _ _ ?_; clear hK K
  (repeat refine PW.seq ?_); refine PW.cond (t := _) rfl (fun h => ?_) (fun h => ?_)
  · have e : n = 4 := by have := of_decide_eq_true h; omega
    subst e
    (repeat refine PW.seq ?_); refine PW.rg rfl fun K hK => ?_; simp (disch := omega) only [go_sem, ↓reduceIte, reduceCtorEq, pappend, plen]; refine hK _ _ ?_; clear hK K
    exact PW.ret ⟨_, rfl, Fin.base (.id (sl_scoped (bs_scoped _ _)))⟩
  have e4 : n ≠ 4 := by have := of_decide_eq_false h; omega
  (repeat refine PW.seq ?_); refine PW.rg rfl fun K hK => ?_; simp (disch := omega) only [go_sem, ↓reduceIte, reduceCtorEq, pappend, plen]; refine hK _ _ ?_; clear hK K
  (repeat refine PW.seq ?_); refine PW.cond (t := _) rfl (fun h => ?_) (fun h => ?_)
  · have e : n = 5 := by have := of_decide_eq_true h; omega
    subst e
    (repeat refine PW.seq ?_); refine PW.rg rfl fun K hK => ?_; simp (disch := omega) only [go_sem, ↓reduceIte, reduceCtorEq, pappend, plen]; refine hK _ _ ?_; clear hK K
    exact PW.ret ⟨_, rfl, Fin.base (.id (sl_scoped (bs_scoped _ _)))⟩
  have e5 : n ≠ 5 := by have := of_decide_eq_false h; omega
  have ec : cmp ⟨w, ht, y, u, v⟩ n = y := by unfold cmp; rw [if_neg e4, if_neg e5]
  rw [ec]
  refine PW.skip ?_
  (repeat refine PW.seq ?_); refine PW.rg rfl fun K hK => ?_; simp (disch := omega) only [go_sem, ↓reduceIte, reduceCtorEq, pappend, plen]; refine hK _ _ ?_; clear hK K
  exact PW.ret ⟨_, rfl, Fin.base (.id (sl_scoped (bs_scoped _ _)))⟩

theorem blk_fil (p : List UInt8) (n : Nat) (fd : Bool) : fil (fun k => byt p (bps n fd k)) 64 = blk p n fd := fil_64 _
theorem e0_scoped (n : Nat) (l : List Int) (e : Int) : Scoped n (.tup [.agg (is l), .int .i64 e]) := .tup (asc fun x hx => by
  simp only [List.mem_cons, List.not_mem_nil, or_false] at hx
  rcases hx with rfl | rfl
  · exact ag_scoped (is_scoped _ _)
  · exact .int _ _)

set_option maxHeartbeats 1600000 in
set_option maxRecDepth 100000 in
theorem block_ok (f : Fm) (hf : F16 f) (n : Nat) (hn : n < 6) (fd : Bool) (H : Heap) :
    CallOk Tryz.prog 158 [.agg (fmc f), .int .i64 0, .int .i64 0, .int .i64 (n : Int), .bool fd] H (.tup [.agg (is (blk (cmp f n) n fd)), .int .i64 0]) H := by
  have hm := fun K => has_ok f 0 0 K
  rw [hf.has] at hm
  have co := fun K => component_ok f.w f.h f.y f.u f.v n K hn
  have po := fun K => place_ok n fd hn K
  have cl := hf.cmp hn
  have bb : bln n ≤ 256 := by unfold bln; split <;> omega
  have bfb : bfr n fd ≤ 150 ∧ bst n fd ≤ 150 := by
    rcases or6 hn with rfl | rfl | rfl | rfl | rfl | rfl <;> cases fd <;> decide
  have hfit : ∀ k, k < 8 → bfr n fd + k * bst n fd + 8 ≤ (cmp f n).length := fun k hk => by rw [cl]; exact bfit hn k hk
  have cu := fun K => cut_ok (cmp f n) (bfr n fd) (bst n fd) 8 8 false K (by omega) (by omega) (by omega) hfit (by omega)
  have ll := ctl_len (cmp f n) (bfr n fd) (bst n fd) 8 8 hfit
  have lb := fun k hk => ctl_blk (p := cmp f n) (fd := fd) hn cl (k := k) hk
  have hz := fil_0 (fun k => byt (cmp f n) (bps n fd k))
  obtain ⟨w, ht, y, u, v⟩ := f
  have hw : w = 16 := hf.w
  have hh : ht = 16 := hf.h
  subst hw hh
  simp only at co
  obtain ⟨P, hP⟩ : ∃ P, cmp ⟨16, 16, y, u, v⟩ n = P := ⟨_, rfl⟩
  rw [hP] at co cl hfit cu ll lb hz ⊢
  obtain ⟨Z, hZ⟩ : ∃ Z, ctl P (bfr n fd) (bst n fd) 8 8 = Z := ⟨_, rfl⟩
  rw [hZ] at cu ll lb
  simp only [fmc] at hm co ⊢
  unfold areaC at po
  refine CallOk.body (F0 := [(0, .agg [.int .i64 16, .int .i64 16, .slice (bs y) y.length false, .slice (bs u) u.length false, .slice (bs v) v.length false]), (1, .int .i64 0), (2, .int .i64 0), (3, .int .i64 (n : Int)), (4, .bool fd)]) Tryz.func158 rfl Tryz.ntmps158 Tryz.results158 rfl (by kernel_rfl) rfl ?_
  (repeat refine PW.seq ?_); refine PW.rg rfl fun K hK => ?_; simp (disch := omega) only [go_sem, ↓reduceIte, reduceCtorEq, pappend, plen]; refine hK _ _ ?_; clear hK K
  (repeat refine PW.seq ?_)
  refine PW.rgv (P := Tryz.prog) [1, 2, 3, 4, 5, 10, 11] 27 (.bool false) ?_ ?_ ?_
  · rfl
  · simp (disch := omega) only [go_sem, ↓reduceIte, reduceCtorEq, pappend, plen]; (repeat' (first | ((first | refine VO_cond ?_ ?_ | refine VOd_cond ?_ ?_ | refine VOg_cond ?_ ?_ | refine VOh_cond ?_ ?_ | refine VOi_cond ?_ ?_ | refine And.intro ?_ ?_) <;> intro h <;> (try simp only [Bool.not_eq_true', Bool.not_eq_false', decide_eq_true_eq, decide_eq_false_iff_not] at h) <;> simp (disch := omega) only [go_sem, ↓reduceIte, reduceCtorEq, pappend, plen, h]) | ((first | refine VCx.call (hm _) rfl ?_ | refine VCy.call (hm _) rfl ?_ | refine VCz.call (fun _ => hm _) rfl ?_ | refine VCk.call (fun _ _ => hm _) rfl ?_ | refine VCj.now (hm _) rfl ?_); simp (disch := omega) only [go_sem, ↓reduceIte, reduceCtorEq, pappend, plen])))
    all_goals (simp_all [slot, Nat.beq] <;> first | rfl | omega | (rw [Bool.eq_iff_iff]; simp; done) | (rw [Bool.eq_iff_iff]; simp; omega))
  (repeat refine PW.seq ?_); refine PW.cond (t := _) rfl (fun h => ?_) (fun h => ?_)
  · cases h
  refine PW.skip ?_
  (repeat refine PW.seq ?_); refine PW.rg rfl fun K hK => ?_; simp (disch := omega) only [go_sem, ↓reduceIte, reduceCtorEq, pappend, plen]; refine hK _ _ ?_; clear hK K
  (repeat refine PW.seq ?_); refine PW.draw mix (by kernel_rfl) fun K hK => ?_; simp (disch := omega) only [go_sem, ↓reduceIte, reduceCtorEq, pappend, plen]
  (repeat' (first | ((first | refine VO_cond ?_ ?_ | refine VOd_cond ?_ ?_ | refine VOg_cond ?_ ?_ | refine VOh_cond ?_ ?_ | refine VOi_cond ?_ ?_ | refine And.intro ?_ ?_) <;> intro h <;> (try simp only [Bool.not_eq_true', Bool.not_eq_false', decide_eq_true_eq, decide_eq_false_iff_not] at h) <;> simp (disch := omega) only [go_sem, ↓reduceIte, reduceCtorEq, pappend, plen, h]) | ((first | refine VCx.call (co _) rfl ?_ | refine VCx.call (po _) rfl ?_ | refine VCx.call (cu _) rfl ?_ | refine VCy.call (co _) rfl ?_ | refine VCy.call (po _) rfl ?_ | refine VCy.call (cu _) rfl ?_ | refine VCz.call (fun _ => co _) rfl ?_ | refine VCz.call (fun _ => po _) rfl ?_ | refine VCz.call (fun _ => cu _) rfl ?_ | refine VCk.call (fun _ _ => co _) rfl ?_ | refine VCk.call (fun _ _ => po _) rfl ?_ | refine VCk.call (fun _ _ => cu _) rfl ?_ | refine VCj.now (co _) rfl ?_ | refine VCj.now (po _) rfl ?_ | refine VCj.now (cu _) rfl ?_); simp (disch := omega) only [go_sem, ↓reduceIte, reduceCtorEq, pappend, plen])))
  refine hK _ _ ?_; clear hK K
  (repeat refine PW.seq ?_); refine PW.block (PW.loop ?_)
  suffices h1 : ∀ k : Nat, k ≤ 64 → PL Tryz.prog _ _ [(10, .ptr (H.length + 1) 0 0), (12, .ptr (H.length + 2) 0 0), (39, .slice (bs Z) 64 false), (40, .int .i64 64), (41, .int .i64 (k : Int))] (H ++ [⟨53, 0, [.int .i64 16, .int .i64 16, .slice (bs y) y.length false, .slice (bs u) u.length false, .slice (bs v) v.length false]⟩, ⟨47, 0, is zi⟩, ⟨47, 0, is (fil (fun k => byt P (bps n fd k)) k)⟩]) _ by
    exact PL.at [10, 12, 39, 40, 41] (h1 0 (by omega)) rfl (by rw [hz]; rfl)
  refine cnt 64 (fun k hk ih => ?_) ?_
  · refine PL.round ?_; (repeat refine PW.seq ?_); refine PW.rg rfl fun K hK => ?_; simp (disch := omega) only [go_sem, ↓reduceIte, reduceCtorEq, pappend, plen]; refine hK _ _ ?_; clear hK K; (repeat refine PW.seq ?_); refine PW.cond (t := _) rfl (fun h => ?_) (fun h => ?_)
    rotate_left
    · cases h
    have g1 := lb k hk
    rw [blk, rgI_at _ hk] at g1
    have f1 := fil_set (fun k => byt P (bps n fd k)) k
    have f2 := fil_len (fun k => byt P (bps n fd k)) k
    have br := byt_range P (bps n fd k)
    refine PW.skip ?_; (repeat refine PW.seq ?_); refine PW.block ?_
    (repeat refine PW.seq ?_); refine PW.rg rfl fun K hK => ?_; simp (disch := omega) only [go_sem, ↓reduceIte, reduceCtorEq, pappend, plen, bs_get, length_bs, ll, g1]; refine hK _ _ ?_; clear hK K
    (repeat refine PW.seq ?_); refine PW.rg rfl fun K hK => ?_; simp (disch := omega) only [go_sem, ↓reduceIte, reduceCtorEq, pappend, plen, is_len, f2, is_set, f1]; refine hK _ _ ?_; clear hK K
    (repeat refine PW.seq ?_); refine PW.rg rfl fun K hK => ?_; simp (disch := omega) only [go_sem, ↓reduceIte, reduceCtorEq, pappend, plen]; refine hK _ _ ?_; clear hK K
    exact PL.at [10, 12, 39, 40, 41] ih rfl rfl
  refine PL.round ?_; (repeat refine PW.seq ?_); refine PW.rg rfl fun K hK => ?_; simp (disch := omega) only [go_sem, ↓reduceIte, reduceCtorEq, pappend, plen]; refine hK _ _ ?_; clear hK K; (repeat refine PW.seq ?_); refine PW.cond (t := _) rfl (fun h => ?_) (fun h => ?_)
  · cases h
  refine PW.exit ?_
  rw [blk_fil]
  have c3 : (blk P n fd).length = 64 := rgI_len _ _
  have c4 : (is (blk P n fd)).length = 64 := by rw [is_len, c3]
  have c5 := is_cell (blk P n fd)
  have c6 : List.take 64 (is (blk P n fd)) = is (blk P n fd) := List.take_of_length_le (by omega)
  have z3 : (is zi).length = 64 := by rw [is_len, zi_len]
  have z4 : List.drop 64 (is zi) = [] := List.drop_of_length_le (by omega)
  (repeat refine PW.seq ?_); refine PW.rg rfl fun K hK => ?_; simp (disch := omega) only [go_sem, ↓reduceIte, reduceCtorEq, pappend, plen, c4, c5, c6, z3, z4]; refine hK _ _ ?_; clear hK K
  refine PW.ret ⟨.tup [.agg (is (blk P n fd)), .int .i64 0], by simp (disch := omega) only [go_sem, ↓reduceIte, reduceCtorEq, pappend, plen, presults, presult, List.mapM_cons, List.mapM_nil, Option.pure_def, Option.bind_eq_bind, Option.bind_some, Array.toList, c4, c6], ?_⟩
  exact Fin.base (.id (e0_scoped _ _ _))

end Go.Proofs.YtahomnplappbpaaGreatDoor.Sc

namespace Go.Proofs.YtahomnplappbpaaGreatDoor.Sc
set_option linter.all false
set_option linter.unusedVariables false
set_option linter.unusedSimpArgs false
open Pm Ty Go.RowKit

end Go.Proofs.YtahomnplappbpaaGreatDoor.Sc

namespace Go.Proofs.YtahomnplappbpaaGreatDoor.Sc
set_option linter.all false
set_option linter.unusedVariables false
set_option linter.unusedSimpArgs false
open Pm Ty Go.RowKit

end Go.Proofs.YtahomnplappbpaaGreatDoor.Sc

namespace Go.Proofs.YtahomnplappbpaaGreatDoor.Sc
set_option linter.all false
set_option linter.unusedVariables false
set_option linter.unusedSimpArgs false
open Pm Ty Go.RowKit

theorem _root_.Go.Proofs.YtahomnplappbpaaGreatDoor.Pm.CallOk.fin {P : Program} {f : FuncId} {args : List PV} {v v' : PV} {H H1 Hout : Heap} (h : CallOk P f args H v' H1) (hf : HSc H → H.length ≤ Hout.length ∧ CutH H1 Hout ∧ Fz Hout.length H1 v' v) : CallOk P f args H v Hout :=
  ⟨h.1, fun C us w hw hargs => (h.2 C us w hw hargs).mono fun e w' ⟨C', u, q1, q2, q3, q4, q5⟩ => by
    obtain ⟨hlen, hcut, hfz⟩ := hf hw.hsc
    obtain ⟨g1, g2⟩ := q2.cutN hcut
    exact ⟨_, u, ((q1.toN _).trans (g1.less hlen)).full hw.lenv, g2, q3, q4, hfz.sound q2 q5⟩⟩
theorem _root_.Go.Proofs.YtahomnplappbpaaGreatDoor.Pm.CallOk.base {P : Program} {f : FuncId} {args : List PV} {v v' : PV} {H K : Heap} (h : CallOk P f args H v' (H ++ K)) (hf : Fz H.length (H ++ K) v' v) : CallOk P f args H v H :=
  h.fin fun hs => ⟨Nat.le_refl _, CutH.base hs, hf⟩
theorem apn (H K : Heap) (n : Nat) : (H ++ K)[H.length + n]? = K[n]? := by
  rw [List.getElem?_append_right (by omega), show H.length + n - H.length = n by omega]
theorem flat_len {α : Type} (enc : α → List PV) (N : Nat) : ∀ (l : List α), (∀ x ∈ l, (enc x).length = N) → (l.flatMap enc).length = l.length * N
  | [], _ => by simp
  | a :: r, h => by
    rw [List.flatMap_cons, List.length_append, flat_len enc N r (fun x hx => h x (List.mem_cons_of_mem _ hx)), h a (List.mem_cons_self ..), List.length_cons, Nat.add_mul, Nat.one_mul, Nat.add_comm]
theorem hscW {H K : Heap} (hK : ∀ b ∈ K, ∀ x ∈ b.cells, Scoped (H.length + K.length) x) (h : HSc H) : HSc (H ++ K) := fun id k hk x hx => by
  rw [List.length_append]
  rw [List.getElem?_append] at hk
  split at hk
  · exact (h id k hk x hx).mono (by omega)
  · exact hK k (List.mem_of_getElem? hk) x hx


end Go.Proofs.YtahomnplappbpaaGreatDoor.Sc
