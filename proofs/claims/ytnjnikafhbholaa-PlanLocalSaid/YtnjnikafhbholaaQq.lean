/-
  Plain laws of chapter 31: what the parts of a plan say of its film. No program in sight.
-/
import Derived.Test.YtnjnikafhbholaaQp
namespace Go.Proofs.Ytnjnikafhbholaa.Pl
set_option linter.all false
set_option linter.unusedVariables false
set_option linter.unusedSimpArgs false

/-- The parts from frame a to frame b; pc: the part before was coded. -/
inductive PF (l : List (Option Sh)) : Bool → Nat → List Pa → Nat → Prop where
  | nil {pc : Bool} {b : Nat} : PF l pc b [] b
  | cons {pc : Bool} {a c b : Nat} {p : Pa} {r : List Pa} (hp : PaOk l a c p) (hc : p.cp = false → pc = false) (hj : jn l a = false) (h : PF l (!p.cp) c r b) : PF l pc a (p :: r) b
def lastD (pc : Bool) (ps : List Pa) : Bool := match ps.getLast? with
  | some p => !p.cp
  | none => pc
theorem lastD_cons (pc : Bool) (p : Pa) (r : List Pa) : lastD pc (p :: r) = lastD (!p.cp) r := by
  cases r with
  | nil => rfl
  | cons q r => simp [lastD, List.getLast?_cons]
theorem PF.snoc {l : List (Option Sh)} {b c : Nat} {p : Pa} (hp : PaOk l b c p) (hj : jn l b = false) : ∀ {ps : List Pa} {pc : Bool} {a : Nat}, PF l pc a ps b → (p.cp = false → lastD pc ps = false) → PF l pc a (ps ++ [p]) c
  | [], pc, a, h, hc => by
    cases h
    exact .cons hp hc hj .nil
  | q :: r, pc, a, h, hc => by
    cases h with
    | cons hq hqc hqj h =>
      refine .cons hq hqc hqj (PF.snoc hp hj h fun e => ?_)
      rw [← lastD_cons pc]
      exact hc e
theorem PaL.front {l : List (Option Sh)} {b : Nat} {ps : List Pa} (h : PaL l b ps) : PF l false 0 ps b := by
  induction h with
  | nil => exact .nil
  | snoc h hp hc hj ih => exact ih.snoc hp hj hc
theorem PF.le {l : List (Option Sh)} {pc : Bool} {a b : Nat} {ps : List Pa} (h : PF l pc a ps b) : a ≤ b := by
  induction h with
  | nil => exact Nat.le_refl _
  | cons hp _ _ _ ih => have := hp.lt; omega
/-- Where the next part begins, nothing is joined. -/
theorem PF.jn {l : List (Option Sh)} {pc : Bool} {a b : Nat} {ps : List Pa} (h : PF l pc a ps b) (hb : jn l b = false) : jn l a = false := by
  cases h with
  | nil => exact hb
  | cons _ _ hj _ => exact hj
theorem jn_end (l : List (Option Sh)) : jn l l.length = false := by
  apply jn_c
  apply cpd_none
  unfold sh
  rw [List.getElem?_eq_none (Nat.le_refl _)]
  rfl

def T3 (l : List (Option Sh)) : Prop := ∀ i x, sh l i = some x → x.k = 1 ∨ x.k = 2 ∨ x.k = 3
theorem tys_3 {l : List (Option Sh)} (h3 : T3 l) {i : Nat} {x : Sh} (hx : sh l i = some x) : ∀ k, k < en l i - st l i → ty (tys l (st l i) (en l i)) k = 1 ∨ ty (tys l (st l i) (en l i)) k = 2 ∨ ty (tys l (st l i) (en l i)) k = 3 := fun k hk => by
  obtain ⟨y, hy, hr⟩ := st_some hx
  obtain ⟨q, hq⟩ := hr k (by omega)
  rw [ty_tys _ _ _ _ hk, hq]
  exact h3 _ _ hq
theorem cpd_cf {l : List (Option Sh)} (h3 : T3 l) {i : Nat} {x : Sh} (hx : sh l i = some x) {j : Nat} (h1 : st l i ≤ j) (h2 : j < en l i) : cpd l j = decide (0 ≤ fi (tys l (st l i) (en l i)) (en l i - st l i) ∧ fi (tys l (st l i) (en l i)) (en l i - st l i) ≤ ((j - st l i : Nat) : Int) ∧ ((j - st l i : Nat) : Int) ≤ la (tys l (st l i) (en l i)) (en l i - st l i)) := by
  obtain ⟨a1, a2, a3, a4, a5⟩ := run_of l i
  obtain ⟨y, hy, hr⟩ := st_some hx
  rw [cpd_run a1 a2 a3 hy h1 h2]
  exact closed_form _ _ (tys_3 h3 hx) _ (by omega)
/-- A copied part begins with an I frame. -/
theorem first_I {l : List (Option Sh)} (h3 : T3 l) {i : Nat} {x : Sh} (hx : sh l i = some x) (hc : cpd l i = true) (hj : jn l i = false) : x.k = 1 := by
  obtain ⟨a1, a2, a3, a4, a5⟩ := run_of l i
  have hi := cpd_cf h3 hx a4 a5
  rw [hc] at hi
  obtain ⟨q1, q2, q3⟩ := of_decide_eq_true hi.symm
  have hf := fi_ty (tys l (st l i) (en l i)) (en l i - st l i) q1
  have hlt := fi_lt (tys l (st l i) (en l i)) (en l i - st l i)
  have heq : (fi (tys l (st l i) (en l i)) (en l i - st l i)).toNat = i - st l i := by
    by_cases hs : st l i = i
    · omega
    · have hp : cpd l (i - 1) = false := by
        cases hp : cpd l (i - 1) with
        | false => rfl
        | true => simp [jn, hp, hc] at hj; omega
      have hi' := cpd_cf h3 hx (j := i - 1) (by omega) (by omega)
      rw [hp] at hi'
      have := of_decide_eq_false hi'.symm
      omega
  rw [heq, ty_tys _ _ _ _ (by omega), show st l i + (i - st l i) = i by omega, hx] at hf
  exact hf
/-- A copied part ends with no B frame. -/
theorem last_nb {l : List (Option Sh)} (h3 : T3 l) {i : Nat} {x : Sh} (hx : sh l i = some x) (hc : cpd l i = true) (hj : jn l (i + 1) = false) : x.k ≠ 3 := by
  obtain ⟨a1, a2, a3, a4, a5⟩ := run_of l i
  have hi := cpd_cf h3 hx a4 a5
  rw [hc] at hi
  obtain ⟨q1, q2, q3⟩ := of_decide_eq_true hi.symm
  have hl := la_nb (tys l (st l i) (en l i)) (en l i - st l i) (by omega)
  have hlt := la_lt (tys l (st l i) (en l i)) (en l i - st l i)
  have heq : (la (tys l (st l i) (en l i)) (en l i - st l i)).toNat = i - st l i := by
    by_cases he : i + 1 = en l i
    · omega
    · have ha := a2 i a4 (by omega)
      have hn : cpd l (i + 1) = false := by
        cases hn : cpd l (i + 1) with
        | false => rfl
        | true => rw [jn_of ha hc hn] at hj; cases hj
      have hi' := cpd_cf h3 hx (j := i + 1) (by omega) (by omega)
      rw [hn] at hi'
      have := of_decide_eq_false hi'.symm
      omega
  rw [heq, ty_tys _ _ _ _ (by omega), show st l i + (i - st l i) = i by omega, hx] at hl
  exact hl

/-! ### nothing more could be copied -/
/-- The next I or P frame of the run before i, plus one; 0 if there is none. -/
def rfB (l : List (Option Sh)) : Nat → Nat
  | 0 => 0
  | i + 1 => if adj l i then (if kd (sh l i) = 3 then rfB l i else i + 1) else 0
theorem rfB_lst {l : List (Option Sh)} {s e : Nat} (hs : s = 0 ∨ adj l (s - 1) = false) (ha : ∀ j, s ≤ j → j + 1 < e → adj l j = true) : ∀ d, s + d < e → rfB l (s + d) = if lst (tys l s e) d = 0 then 0 else s + lst (tys l s e) d
  | 0, h => by
    rw [Nat.add_zero]
    simp only [lst, if_true]
    cases s with
    | zero => rfl
    | succ s =>
      rcases hs with hs | hs
      · omega
      · rw [Nat.add_sub_cancel] at hs
        simp [rfB, hs]
  | d + 1, h => by
    have ih := rfB_lst hs ha d (by omega)
    rw [show s + (d + 1) = s + d + 1 by omega]
    have e1 : rfB l (s + d + 1) = if kd (sh l (s + d)) = 3 then rfB l (s + d) else s + d + 1 := by
      simp only [rfB]
      rw [if_pos (ha (s + d) (by omega) (by omega))]
    have e2 : lst (tys l s e) (d + 1) = if kd (sh l (s + d)) = 3 then lst (tys l s e) d else d + 1 := by
      simp only [lst]
      rw [ty_tys _ _ _ _ (by omega)]
    rw [e1, e2]
    split
    · exact ih
    · simp; omega
def rfFF (l : List (Option Sh)) : Nat → Nat → Nat
  | 0, i => i
  | f + 1, i => if adj l i then (if kd (sh l (i + 1)) = 3 then rfFF l f (i + 1) else i + 1) else 0
theorem rfFF_nb {l : List (Option Sh)} {s e : Nat} (ha : ∀ j, s ≤ j → j + 1 < e → adj l j = true) (he : adj l (e - 1) = false) : ∀ f i, s ≤ i → i < e → e ≤ i + f → rfFF l f i = if nb (tys l s e) (e - s) (i + 1 - s) = e - s then 0 else s + nb (tys l s e) (e - s) (i + 1 - s)
  | 0, i, h1, h2, h3 => by omega
  | f + 1, i, h1, h2, h3 => by
    have hb := nb_spec (tys l s e) (e - s) (i + 1 - s) (by omega)
    simp only [rfFF]
    by_cases hi : i + 1 = e
    · rw [show i = e - 1 by omega, he]
      rw [show i = e - 1 by omega] at hb
      have : nb (tys l s e) (e - s) (e - 1 + 1 - s) = e - s := by omega
      simp [this]
    · rw [if_pos (ha i h1 (by omega))]
      have hty := ty_tys l s e (i + 1 - s) (by omega)
      rw [show s + (i + 1 - s) = i + 1 by omega] at hty
      have hstep : nb (tys l s e) (e - s) (i + 1 - s) = if ty (tys l s e) (i + 1 - s) = 3 then nb (tys l s e) (e - s) (i + 1 + 1 - s) else i + 1 - s := by
        have hb2 := nb_spec (tys l s e) (e - s) (i + 1 + 1 - s) (by omega)
        split
        · rename_i h3'
          rcases Nat.lt_trichotomy (nb (tys l s e) (e - s) (i + 1 - s)) (nb (tys l s e) (e - s) (i + 1 + 1 - s)) with h | h | h
          · have h4 := hb.2.2.2 (by omega)
            by_cases h5 : nb (tys l s e) (e - s) (i + 1 - s) = i + 1 - s
            · rw [h5] at h4; exact absurd h3' h4
            · exact absurd (hb2.2.2.1 _ (by omega) h) h4
          · exact h
          · have h4 := hb2.2.2.2 (by omega)
            exact absurd (hb.2.2.1 _ (by omega) h) h4
        · rename_i h3'
          by_cases h5 : nb (tys l s e) (e - s) (i + 1 - s) = i + 1 - s
          · exact h5
          · exact absurd (hb.2.2.1 (i + 1 - s) (Nat.le_refl _) (by omega)) h3'
      rw [hstep, hty]
      split
      · rename_i h3'
        rw [rfFF_nb ha he f (i + 1) (by omega) (by omega) (by omega)]
      · rw [if_neg (by omega)]; omega
/-- The next I or P frame of the run behind i; 0 if there is none. -/
def rfF (l : List (Option Sh)) (i : Nat) : Nat := rfFF l l.length i
/-- No frame is coded whose references are copied. -/
theorem nothing_more {l : List (Option Sh)} (h3 : T3 l) {i : Nat} {x : Sh} (hx : sh l i = some x) (hc : cpd l i = false) :
    x.k ≠ 1 ∧ (x.k = 2 → rfB l i ≠ 0 → cpd l (rfB l i - 1) = false) ∧ (x.k = 3 → rfB l i ≠ 0 → rfF l i ≠ 0 → ¬ (cpd l (rfB l i - 1) = true ∧ cpd l (rfF l i) = true)) := by
  obtain ⟨a1, a2, a3, a4, a5⟩ := run_of l i
  obtain ⟨y, hy, hr⟩ := st_some hx
  have hlen := en_le (sh_some hx)
  have hB := rfB_lst a1 a2 (i - st l i) (by omega)
  have hF := rfFF_nb a2 a3 l.length i a4 a5 (by omega)
  rw [show st l i + (i - st l i) = i by omega] at hB
  change rfF l i = _ at hF
  rw [show i + 1 - st l i = i - st l i + 1 by omega] at hF
  have hk := arr_kept (tys l (st l i) (en l i)) (en l i - st l i) (i - st l i) (by omega)
  rw [← cpd_run a1 a2 a3 hy a4 a5, hc] at hk
  have hty := ty_tys l (st l i) (en l i) (i - st l i) (by omega)
  rw [show st l i + (i - st l i) = i by omega, hx] at hty
  change _ = x.k at hty
  have hll := lst_le (tys l (st l i) (en l i)) (i - st l i)
  have hnb := nb_spec (tys l (st l i) (en l i)) (en l i - st l i) (i - st l i + 1) (by omega)
  have cB : rfB l i ≠ 0 → cpd l (rfB l i - 1) = arr (tys l (st l i) (en l i)) (en l i - st l i) (lst (tys l (st l i) (en l i)) (i - st l i) - 1) ∧ 0 < lst (tys l (st l i) (en l i)) (i - st l i) := fun h => by
    split at hB
    · exact absurd hB h
    · rename_i h0
      refine ⟨?_, by omega⟩
      rw [hB, cpd_run a1 a2 a3 hy (by omega) (by omega)]
      congr 1
      omega
  have cF : rfF l i ≠ 0 → cpd l (rfF l i) = arr (tys l (st l i) (en l i)) (en l i - st l i) (nb (tys l (st l i) (en l i)) (en l i - st l i) (i - st l i + 1)) ∧ nb (tys l (st l i) (en l i)) (en l i - st l i) (i - st l i + 1) < en l i - st l i := fun h => by
    split at hF
    · exact absurd hF h
    · rename_i h0
      refine ⟨?_, by omega⟩
      rw [hF, cpd_run a1 a2 a3 hy (by omega) (by omega)]
      congr 1
      omega
  unfold kept at hk
  rw [hty] at hk
  refine ⟨fun e => ?_, fun e hb => ?_, fun e hb hf => ?_⟩
  · simp [e] at hk
  · obtain ⟨c1, c2⟩ := cB hb
    rw [c1]
    simp [e] at hk
    first | exact hk c2 | (have := hk; simp_all)
  · obtain ⟨c1, c2⟩ := cB hb
    obtain ⟨c3, c4⟩ := cF hf
    rw [c1, c3]
    rintro ⟨d1, d2⟩
    simp [e, d1, d2] at hk
    omega

/-! ### two films with a frame between them -/
theorem cpd_sub {l l' : List (Option Sh)} {n d : Nat} (hs : ∀ i, i < n → sh l' (i + d) = sh l i) (hl : n = l.length) (h0 : d = 0 ∨ sh l' (d - 1) = none) (h1 : sh l' (n + d) = none) {i : Nat} (hi : i < n) : cpd l' (i + d) = cpd l i ∧ jn l' (i + d) = jn l i := by
  have hadj : ∀ j, j + 1 < n → adj l' (j + d) = adj l j := fun j hj => by
    unfold adj
    rw [hs j (by omega), show j + d + 1 = j + 1 + d by omega, hs (j + 1) hj]
  have hadjE : ∀ j, j + 1 = n → adj l' (j + d) = false ∧ adj l j = false := fun j hj => by
    constructor
    · cases ha : adj l' (j + d) with
      | false => rfl
      | true =>
        obtain ⟨x, y, _, e, _⟩ := adj_ex ha
        rw [show j + d + 1 = n + d by omega, h1] at e
        cases e
    · cases ha : adj l j with
      | false => rfl
      | true => have := adj_lt ha; omega
  have key : ∀ i, i < n → cpd l' (i + d) = cpd l i ∧ st l' (i + d) = st l i + d := fun i hi => by
    obtain ⟨a1, a2, a3, a4, a5⟩ := run_of l i
    have hle := en_le (l := l) (i := i) (by omega)
    have b1 : st l i + d = 0 ∨ adj l' (st l i + d - 1) = false := by
      by_cases hz : st l i = 0
      · rcases h0 with h0 | h0
        · exact .inl (by omega)
        · by_cases hd : d = 0
          · exact .inl (by omega)
          · refine .inr ?_
            cases ha : adj l' (st l i + d - 1) with
            | false => rfl
            | true =>
              obtain ⟨x, y, e, _⟩ := adj_ex ha
              rw [show st l i + d - 1 = d - 1 by omega, h0] at e
              cases e
      · refine .inr ?_
        rw [show st l i + d - 1 = st l i - 1 + d by omega, hadj _ (by omega)]
        rcases a1 with a1 | a1
        · exact absurd a1 hz
        · exact a1
    have b2 : ∀ j, st l i + d ≤ j → j + 1 < en l i + d → adj l' j = true := fun j j1 j2 => by
      have := hadj (j - d) (by omega)
      rw [show j - d + d = j by omega] at this
      rw [this]
      exact a2 _ (by omega) (by omega)
    have b3 : adj l' (en l i + d - 1) = false := by
      rw [show en l i + d - 1 = en l i - 1 + d by omega]
      by_cases he : en l i = n
      · exact (hadjE _ (by omega)).1
      · rw [hadj _ (by omega)]; exact a3
    obtain ⟨q1, q2⟩ := run_same b1 b2 b3 (i := i + d) (by omega) (by omega)
    refine ⟨?_, q1⟩
    unfold cpd
    rw [q1, q2, hs i hi, show en l i + d - (st l i + d) = en l i - st l i by omega, show i + d - (st l i + d) = i - st l i by omega]
    have : tys l' (st l i + d) (en l i + d) = tys l (st l i) (en l i) := by
      unfold tys
      rw [show en l i + d - (st l i + d) = en l i - st l i by omega]
      apply List.map_congr_left
      intro j hj
      rw [List.mem_range] at hj
      rw [show st l i + d + j = st l i + j + d by omega, hs _ (by omega)]
    rw [this]
  obtain ⟨k1, k2⟩ := key i hi
  refine ⟨k1, ?_⟩
  unfold jn
  rw [k1, k2]
  by_cases hz : st l i < i
  · rw [show i + d - 1 = i - 1 + d by omega, (key (i - 1) (by omega)).1, decide_eq_true (by omega : st l i + d < i + d), decide_eq_true hz]
  · rw [decide_eq_false (by omega : ¬ st l i + d < i + d), decide_eq_false hz]
    rfl

end Go.Proofs.Ytnjnikafhbholaa.Pl
