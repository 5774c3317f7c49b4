/-
  Plain laws of chapter 31: plans of films. No program in sight.
-/
import Derived.Test.YtnjnikafhbholaaPl
namespace Go.Proofs.Ytnjnikafhbholaa.Pl
set_option linter.all false
set_option linter.unusedVariables false
set_option linter.unusedSimpArgs false

/-- A frame of a film that is a candidate: its medium, number and type. -/
structure Sh where
  m : List UInt8
  n : Int
  k : Int
/-- A part of a plan. -/
structure Pa where
  cp : Bool
  film : Int
  len : Int
  m : List UInt8
  fr : Int

def sh (l : List (Option Sh)) (i : Nat) : Option Sh := (l[i]?).join
def adjS : Option Sh → Option Sh → Bool
  | some x, some y => (y.m == x.m) && (y.n == x.n + 1)
  | _, _ => false
/-- Does frame i + 1 go on frame i's run? -/
def adj (l : List (Option Sh)) (i : Nat) : Bool := adjS (sh l i) (sh l (i + 1))
/-- Where a frame's run begins. -/
def st (l : List (Option Sh)) : Nat → Nat
  | 0 => 0
  | i + 1 => if adj l i then st l i else i + 1
def enF (l : List (Option Sh)) : Nat → Nat → Nat
  | 0, i => i + 1
  | f + 1, i => if adj l i then enF l f (i + 1) else i + 1
/-- One behind the end of a frame's run. -/
def en (l : List (Option Sh)) (i : Nat) : Nat := enF l l.length i
def kd : Option Sh → Int
  | some x => x.k
  | none => 0
def tys (l : List (Option Sh)) (s e : Nat) : List Int := (List.range (e - s)).map fun j => kd (sh l (s + j))
/-- Is a frame copied? -/
def cpd (l : List (Option Sh)) (i : Nat) : Bool := (sh l i).isSome && arr (tys l (st l i) (en l i)) (en l i - st l i) (i - st l i)
/-- Is it copied together with the frame before it? -/
def jn (l : List (Option Sh)) (i : Nat) : Bool := decide (st l i < i) && (cpd l (i - 1) && cpd l i)

theorem sh_some {l : List (Option Sh)} {i : Nat} {x : Sh} (h : sh l i = some x) : i < l.length := by
  unfold sh at h
  cases hi : l[i]? with
  | none => rw [hi] at h; cases h
  | some y => exact (List.getElem?_eq_some_iff.1 hi).1
theorem adj_ex {l : List (Option Sh)} {i : Nat} (h : adj l i = true) : ∃ x y, sh l i = some x ∧ sh l (i + 1) = some y ∧ y.m = x.m ∧ y.n = x.n + 1 := by
  unfold adj at h
  cases h1 : sh l i with
  | none => rw [h1] at h; cases h
  | some x =>
    cases h2 : sh l (i + 1) with
    | none => rw [h1, h2] at h; cases h
    | some y =>
      rw [h1, h2] at h
      simp only [adjS, Bool.and_eq_true, beq_iff_eq] at h
      exact ⟨x, y, rfl, rfl, h.1, h.2⟩
theorem adj_lt {l : List (Option Sh)} {i : Nat} (h : adj l i = true) : i + 1 < l.length := by
  obtain ⟨x, y, _, h2, _⟩ := adj_ex h
  exact sh_some h2

theorem st_le (l : List (Option Sh)) : ∀ i, st l i ≤ i
  | 0 => Nat.le_refl _
  | i + 1 => by
    simp only [st]
    split
    · have := st_le l i; omega
    · exact Nat.le_refl _
theorem st_adj (l : List (Option Sh)) : ∀ i j, st l i ≤ j → j < i → adj l j = true
  | 0, j, _, h => by omega
  | i + 1, j, h1, h2 => by
    simp only [st] at h1
    split at h1
    · rename_i ha
      by_cases hj : j = i
      · rw [hj]; exact ha
      · exact st_adj l i j h1 (by omega)
    · omega
theorem st_max (l : List (Option Sh)) : ∀ i, st l i = 0 ∨ adj l (st l i - 1) = false
  | 0 => .inl rfl
  | i + 1 => by
    simp only [st]
    split
    · exact st_max l i
    · rename_i ha; exact .inr (by simpa using ha)
theorem st_uniq {l : List (Option Sh)} {s i : Nat} (h1 : s ≤ i) (h2 : ∀ j, s ≤ j → j < i → adj l j = true) (h3 : s = 0 ∨ adj l (s - 1) = false) : st l i = s := by
  have a1 := st_le l i
  have a2 := st_adj l i
  have a3 := st_max l i
  rcases Nat.lt_trichotomy (st l i) s with h | h | h
  · rcases h3 with h3 | h3
    · omega
    · rw [a2 (s - 1) (by omega) (by omega)] at h3; cases h3
  · exact h
  · rcases a3 with a3 | a3
    · omega
    · rw [h2 (st l i - 1) (by omega) (by omega)] at a3; cases a3
theorem enF_spec (l : List (Option Sh)) : ∀ f i, l.length ≤ i + f → i < enF l f i ∧ (∀ j, i ≤ j → j + 1 < enF l f i → adj l j = true) ∧ adj l (enF l f i - 1) = false
  | 0, i, h => by
    refine ⟨Nat.lt_succ_self _, fun j h1 h2 => ?_, ?_⟩
    · simp only [enF] at h2; omega
    · cases ha : adj l (enF l 0 i - 1) with
      | false => rfl
      | true => have := adj_lt ha; simp only [enF] at this; omega
  | f + 1, i, h => by
    simp only [enF]
    split
    · rename_i ha
      obtain ⟨q1, q2, q3⟩ := enF_spec l f (i + 1) (by omega)
      refine ⟨by omega, fun j h1 h2 => ?_, q3⟩
      by_cases hj : j = i
      · rw [hj]; exact ha
      · exact q2 j (by omega) h2
    · rename_i ha
      exact ⟨by omega, fun j h1 h2 => by omega, by simpa using ha⟩
theorem en_spec (l : List (Option Sh)) (i : Nat) : i < en l i ∧ (∀ j, i ≤ j → j + 1 < en l i → adj l j = true) ∧ adj l (en l i - 1) = false := enF_spec l l.length i (by omega)
theorem en_uniq {l : List (Option Sh)} {e i : Nat} (h1 : i < e) (h2 : ∀ j, i ≤ j → j + 1 < e → adj l j = true) (h3 : adj l (e - 1) = false) : en l i = e := by
  obtain ⟨a1, a2, a3⟩ := en_spec l i
  rcases Nat.lt_trichotomy (en l i) e with h | h | h
  · rw [h2 (en l i - 1) (by omega) (by omega)] at a3; cases a3
  · exact h
  · rw [a2 (e - 1) (by omega) (by omega)] at h3; cases h3
/-- All frames of a run have the same run. -/
theorem run_same {l : List (Option Sh)} {s e : Nat} (hs : s = 0 ∨ adj l (s - 1) = false) (ha : ∀ j, s ≤ j → j + 1 < e → adj l j = true) (he : adj l (e - 1) = false) {i : Nat} (h1 : s ≤ i) (h2 : i < e) : st l i = s ∧ en l i = e :=
  ⟨st_uniq h1 (fun j a b => ha j a (by omega)) hs, en_uniq h2 (fun j a b => ha j (by omega) b) he⟩
theorem run_of (l : List (Option Sh)) (i : Nat) : (st l i = 0 ∨ adj l (st l i - 1) = false) ∧ (∀ j, st l i ≤ j → j + 1 < en l i → adj l j = true) ∧ adj l (en l i - 1) = false ∧ st l i ≤ i ∧ i < en l i := by
  obtain ⟨a1, a2, a3⟩ := en_spec l i
  refine ⟨st_max l i, fun j h1 h2 => ?_, a3, st_le l i, a1⟩
  by_cases hj : j < i
  · exact st_adj l i j h1 hj
  · exact a2 j (by omega) h2
theorem en_le {l : List (Option Sh)} {i : Nat} (h : i < l.length) : en l i ≤ l.length := by
  obtain ⟨a1, a2, a3⟩ := en_spec l i
  by_cases hl : en l i ≤ l.length
  · exact hl
  · have := adj_lt (a2 (en l i - 2) (by omega) (by omega))
    omega
/-- Within a run: the same medium, numbers that go on. -/
theorem run_val {l : List (Option Sh)} {s : Nat} {x : Sh} (hx : sh l s = some x) : ∀ d, (∀ j, s ≤ j → j < s + d → adj l j = true) → ∃ k, sh l (s + d) = some ⟨x.m, x.n + d, k⟩
  | 0, _ => ⟨x.k, by rw [Nat.add_zero, hx]; obtain ⟨m, n, k⟩ := x; simp⟩
  | d + 1, h => by
    obtain ⟨k, hk⟩ := run_val hx d (fun j h1 h2 => h j h1 (by omega))
    obtain ⟨y, z, e1, e2, e3, e4⟩ := adj_ex (h (s + d) (by omega) (by omega))
    rw [hk] at e1
    cases e1
    dsimp only at e3 e4
    refine ⟨z.k, ?_⟩
    rw [show s + (d + 1) = s + d + 1 by omega, e2]
    obtain ⟨m, n, k'⟩ := z
    dsimp only at e3 e4 ⊢
    rw [e3, e4]
    congr 2
    omega
theorem st_some {l : List (Option Sh)} {i : Nat} {x : Sh} (h : sh l i = some x) : ∃ y, sh l (st l i) = some y ∧ ∀ d, st l i + d < en l i → ∃ k, sh l (st l i + d) = some ⟨y.m, y.n + d, k⟩ := by
  obtain ⟨_, a2, _, a4, a5⟩ := run_of l i
  have h0 : ∃ y, sh l (st l i) = some y := by
    by_cases he : st l i = i
    · exact ⟨x, by rw [he]; exact h⟩
    · obtain ⟨y, _, e, _⟩ := adj_ex (a2 (st l i) (Nat.le_refl _) (by omega))
      exact ⟨y, e⟩
  obtain ⟨y, hy⟩ := h0
  exact ⟨y, hy, fun d hd => run_val hy d (fun j h1 h2 => a2 j h1 (by omega))⟩
theorem ty_tys (l : List (Option Sh)) (s e j : Nat) (h : j < e - s) : ty (tys l s e) j = kd (sh l (s + j)) := by
  simp [ty, tys, h]
theorem tys_len (l : List (Option Sh)) (s e : Nat) : (tys l s e).length = e - s := by simp [tys]
theorem cpd_some {l : List (Option Sh)} {i : Nat} (h : cpd l i = true) : ∃ x, sh l i = some x := by
  unfold cpd at h
  cases hs : sh l i with
  | none => rw [hs] at h; cases h
  | some x => exact ⟨x, rfl⟩
/-- Whether it is copied, seen from its run. -/
theorem cpd_run {l : List (Option Sh)} {s e : Nat} (hs : s = 0 ∨ adj l (s - 1) = false) (ha : ∀ j, s ≤ j → j + 1 < e → adj l j = true) (he : adj l (e - 1) = false) {x : Sh} (hx : sh l s = some x) {i : Nat} (h1 : s ≤ i) (h2 : i < e) : cpd l i = arr (tys l s e) (e - s) (i - s) := by
  obtain ⟨q1, q2⟩ := run_same hs ha he h1 h2
  obtain ⟨k, hk⟩ := run_val hx (i - s) (fun j a b => ha j a (by omega))
  rw [show s + (i - s) = i by omega] at hk
  unfold cpd
  rw [q1, q2, hk]
  rfl
theorem cpd_none {l : List (Option Sh)} {i : Nat} (h : sh l i = none) : cpd l i = false := by unfold cpd; rw [h]; rfl

/-! ### the parts -/
def bump (ps : List Pa) : List Pa := match ps.getLast? with
  | some p => ps.dropLast ++ [{ p with len := p.len + 1 }]
  | none => []
def lastC (ps : List Pa) : Bool := match ps.getLast? with
  | some p => !p.cp
  | none => false
def shm (o : Option Sh) : List UInt8 := match o with | some x => x.m | none => []
def shn (o : Option Sh) : Int := match o with | some x => x.n | none => 0
/-- One frame more. -/
def ext (l : List (Option Sh)) (i : Nat) (ps : List Pa) : List Pa :=
  if cpd l i then (if jn l i then bump ps else ps ++ [⟨true, i, 1, shm (sh l i), shn (sh l i)⟩])
  else if lastC ps then bump ps else ps ++ [⟨false, i, 1, [], 0⟩]
def pts (l : List (Option Sh)) : Nat → List Pa
  | 0 => []
  | i + 1 => ext l i (pts l i)

theorem bump_snoc (ps : List Pa) (p : Pa) : bump (ps ++ [p]) = ps ++ [{ p with len := p.len + 1 }] := by simp [bump]
theorem lastC_snoc (ps : List Pa) (p : Pa) : lastC (ps ++ [p]) = !p.cp := by simp [lastC]

/-- What a part says of the frames from a to b. -/
structure PaOk (l : List (Option Sh)) (a b : Nat) (p : Pa) : Prop where
  film : p.film = a
  len : p.len = (b : Int) - a
  lt : a < b
  cd : p.cp = false → p.m = [] ∧ p.fr = 0 ∧ ∀ j, a ≤ j → j < b → cpd l j = false
  cc : p.cp = true → ∀ j, a ≤ j → j < b → cpd l j = true ∧ (jn l j = decide (a < j)) ∧ ∃ k, sh l j = some ⟨p.m, p.fr + ((j : Int) - a), k⟩
/-- The parts of the first i frames. -/
inductive PaL (l : List (Option Sh)) : Nat → List Pa → Prop where
  | nil : PaL l 0 []
  | snoc {a b : Nat} {ps : List Pa} {p : Pa} (h : PaL l a ps) (hp : PaOk l a b p) (hc : p.cp = false → lastC ps = false) (hj : jn l a = false) : PaL l b (ps ++ [p])
theorem jn_ex {l : List (Option Sh)} {i : Nat} (h : jn l i = true) : ∃ j, i = j + 1 ∧ adj l j = true ∧ cpd l j = true ∧ cpd l (j + 1) = true := by
  simp only [jn, Bool.and_eq_true, decide_eq_true_eq] at h
  obtain ⟨h1, h2, h3⟩ := h
  refine ⟨i - 1, by omega, st_adj l i (i - 1) (by omega) (by omega), h2, ?_⟩
  rw [show i - 1 + 1 = i by omega]
  exact h3
theorem jn_of {l : List (Option Sh)} {j : Nat} (h : adj l j = true) (h1 : cpd l j = true) (h2 : cpd l (j + 1) = true) : jn l (j + 1) = true := by
  have : st l (j + 1) = st l j := by simp [st, h]
  have h3 := st_le l j
  simp only [jn, Bool.and_eq_true, decide_eq_true_eq, Nat.add_sub_cancel]
  exact ⟨by omega, h1, h2⟩
theorem jn_c {l : List (Option Sh)} {i : Nat} (h : cpd l i = false) : jn l i = false := by simp [jn, h]
theorem pts_ok (l : List (Option Sh)) : ∀ i, PaL l i (pts l i)
  | 0 => .nil
  | i + 1 => by
    have ih := pts_ok l i
    simp only [pts, ext]
    generalize pts l i = ps at ih
    split
    · rename_i hc
      obtain ⟨x, hx⟩ := cpd_some hc
      split
      · rename_i hj
        obtain ⟨j, rfl, ha, c1, c2⟩ := jn_ex hj
        cases ih with
        | @snoc a b ps p h hp hcc hja =>
          rw [bump_snoc]
          have hlt := hp.lt
          have hpc : p.cp = true := by
            cases hp' : p.cp with
            | true => rfl
            | false => have := (hp.cd hp').2.2 j (by omega) (by omega); rw [this] at c1; cases c1
          obtain ⟨y, z, e1, e2, e3, e4⟩ := adj_ex ha
          refine .snoc h ⟨hp.film, by dsimp only; rw [hp.len]; omega, by omega, fun h' => (by dsimp only at h'; rw [hpc] at h'; exact absurd h' (by decide)), fun _ k k1 k2 => ?_⟩ hcc hja
          by_cases hk : k = j + 1
          · subst hk
            obtain ⟨_, _, kk, hkk⟩ := hp.cc hpc j (by omega) (by omega)
            rw [e1] at hkk
            cases hkk
            dsimp only at e3 e4
            refine ⟨c2, by rw [hj]; simp; omega, z.k, ?_⟩
            rw [e2]
            obtain ⟨zm, zn, zk⟩ := z
            dsimp only at e3 e4 ⊢
            rw [e3, e4]
            congr 2
            omega
          · exact hp.cc hpc k k1 (by omega)
      · rename_i hj
        have hj : jn l i = false := by simpa using hj
        refine .snoc ih ⟨rfl, by dsimp only; omega, by omega, fun h => (by cases h), fun _ k k1 k2 => ?_⟩ (fun h => by cases h) hj
        obtain rfl : k = i := by omega
        refine ⟨hc, by rw [hj]; simp, x.k, ?_⟩
        rw [hx]
        obtain ⟨m, n, kk⟩ := x
        simp [shm, shn]
    · rename_i hc
      have hc : cpd l i = false := by simpa using hc
      split
      · rename_i hl
        cases ih with
        | nil => cases hl
        | @snoc a b ps p h hp hcc hja =>
          rw [bump_snoc]
          rw [lastC_snoc] at hl
          have hpc : p.cp = false := by simpa using hl
          have hlt := hp.lt
          refine .snoc h ⟨hp.film, by dsimp only; rw [hp.len]; omega, by omega, fun _ => ?_, fun h' => by dsimp only at h'; (rw [hpc] at h'; cases h')⟩ hcc hja
          obtain ⟨q1, q2, q3⟩ := hp.cd hpc
          refine ⟨q1, q2, fun k k1 k2 => ?_⟩
          by_cases hk : k = i
          · rw [hk]; exact hc
          · exact q3 k k1 (by omega)
      · rename_i hl
        have hl : lastC ps = false := by simpa using hl
        refine .snoc ih ⟨rfl, by dsimp only; omega, by omega, fun _ => ⟨rfl, rfl, fun k k1 k2 => ?_⟩, fun h => by cases h⟩ (fun _ => hl) (jn_c hc)
        obtain rfl : k = i := by omega
        exact hc

end Go.Proofs.Ytnjnikafhbholaa.Pl
