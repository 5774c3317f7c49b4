/-
  Parts of the proof. No condition.
-/
import Derived.Test.YtbhdollgohgkgaaDoorB19
import Derived.Test.YtbhdollgohgkgaaDoorB20
import Derived.Test.YtbhdollgohgkgaaDoorB21
import Derived.Test.YtbhdollgohgkgaaDoorB18
namespace Go.Proofs.YtbhdollgohgkgaaDoor.Sc
set_option linter.all false
set_option linter.unusedVariables false
set_option linter.unusedSimpArgs false
open Pm Ty S3 Go.RowKit

/-- An item as it is read back. -/
def nrm (x : It) : It :=
  if x.k = 1 then { itN 1 with s := x.s, pad := x.pad } else if x.k = 2 then { itN 2 with gc := x.gc, gb := x.gb, gt := x.gt, pad := x.pad }
  else if x.k = 3 then { itN 3 with p := x.p, U := x.U, us := x.us, pad := x.pad } else { itN 4 with pad := x.pad }
def usU (u : List UInt8) : Int × List UInt8 := (178, u ++ [128])
/-- The units of an item; with the zeros behind each. -/
def unWs (x : It) : List (Int × List UInt8) := ((hdU x).1, (hdU x).2.1) :: (if x.k = 3 then x.U.map usU ++ x.us else [])
def zPad (z : Nat) : List (Int × List UInt8) → List ((Int × List UInt8) × Nat)
  | [] => []
  | [u] => [(u, z)]
  | u :: v :: r => (u, 0) :: zPad z (v :: r)
def unZ (x : It) : List ((Int × List UInt8) × Nat) := zPad x.pad.toNat (unWs x)

/-! ### the bytes -/
def cdL1 (l : List (Int × List UInt8)) : List UInt8 := l.flatMap cdB
theorem unW_zPad (z : Nat) : ∀ (l : List (Int × List UInt8)), l ≠ [] → unW (zPad z l) = cdL1 l ++ zrs z
  | [], h => absurd rfl h
  | [u], _ => by simp [zPad, unW, cdL1]
  | u :: v :: r, _ => by
    have := unW_zPad z (v :: r) (by simp)
    rw [zPad, unW, this]
    simp [cdL1, zrs]
theorem zPad_oks {z : Nat} : ∀ {l : List (Int × List UInt8)}, (∀ u ∈ l, (fmtR u.1 u.2).2 = 0) → OksU (zPad z l)
  | [], _ => fun x hx => by simp [zPad] at hx
  | [u], h => fun x hx => by
    simp only [zPad, List.mem_singleton] at hx
    subst hx
    exact h u (by simp)
  | u :: v :: r, h => fun x hx => by
    rw [zPad] at hx
    rcases List.mem_cons.1 hx with rfl | hx
    · exact h u (by simp)
    · exact zPad_oks (fun w hw => h w (List.mem_cons_of_mem _ hw)) x hx
theorem apU_eq : ∀ (U : List (List UInt8)) (y : BV), (apU y U).2 = 0 → (apU y U).1.1 = y.1 ++ cdL1 (U.map usU) ∧ ∀ u ∈ U, u.length ≤ 256
  | [], y, _ => by simp [apU, cdL1]
  | u :: r, y, h => by
    rw [apU] at h ⊢
    split at h
    · cases h
    · rename_i hu
      rw [if_neg hu]
      obtain ⟨e, g⟩ := apU_eq r _ h
      refine ⟨?_, fun w hw => ?_⟩
      · rw [e]
        simp [more, cdL1, fU, usU, cdB]
      · rcases List.mem_cons.1 hw with rfl | hw
        · omega
        · exact g w hw
theorem apS_eq : ∀ (us : List (Int × List UInt8)) (y : BV), (apS y us).2 = 0 → (apS y us).1.1 = y.1 ++ cdL1 us ∧ ∀ u ∈ us, (1 ≤ u.1 ∧ u.1 < 5) ∧ (fmtR u.1 u.2).2 = 0
  | [], y, _ => by simp [apS, cdL1]
  | u :: r, y, h => by
    rw [apS] at h ⊢
    split at h
    · rename_i hu
      rw [if_pos hu]
      split at h
      · rename_i hf
        rw [if_pos hf]
        obtain ⟨e, g⟩ := apS_eq r _ h
        refine ⟨?_, fun w hw => ?_⟩
        · rw [e]
          simp [more, cdL1, cdB]
        · rcases List.mem_cons.1 hw with rfl | hw
          · exact ⟨hu, hf⟩
          · exact g w hw
      · rename_i hf
        exact absurd h hf
    · cases h
/-- What a good item says. -/
structure GoodI (x : It) : Prop where
  k : 1 ≤ x.k ∧ x.k ≤ 4
  pad : 0 ≤ x.pad ∧ x.pad ≤ 1048576
  hd : (hdU x).2.2 = 0
  by_ : (itB x).1 = cdL1 (unWs x)
  U : x.k = 3 → ∀ u ∈ x.U, u.length ≤ 256
  us : x.k = 3 → ∀ u ∈ x.us, (1 ≤ u.1 ∧ u.1 < 5) ∧ (fmtR u.1 u.2).2 = 0
theorem goodI_of {x : It} (h : (itB x).2 = 0) : GoodI x := by
  unfold itB at h
  cases hok : okI x with
  | false => rw [hok, if_neg (by decide)] at h; cases h
  | true =>
    have hok' := hok
    rw [hok, if_pos rfl] at h
    unfold okI at hok
    simp only [Bool.and_eq_true, decide_eq_true_eq] at hok
    by_cases he : (hdU x).2.2 = 0
    rotate_left
    · rw [if_neg he] at h
      exact absurd h he
    rw [if_pos he] at h
    have e1 : hdB x = cdB ((hdU x).1, (hdU x).2.1) := rfl
    by_cases hk : x.k = 3
    rotate_left
    · refine ⟨⟨hok.1, hok.2.1⟩, hok.2.2, he, ?_, fun h => absurd h hk, fun h => absurd h hk⟩
      unfold itB unWs
      rw [hok', if_pos rfl, if_pos he, if_neg hk, if_neg hk, e1]
      simp [cdL1]
    rw [if_pos hk] at h
    by_cases h0 : (apP (hdV x) x.U x.us).2 = 0
    rotate_left
    · rw [if_neg h0] at h
      exact absurd h h0
    have hA := h0
    unfold apP at h0
    split at h0
    · rename_i hu
      obtain ⟨a1, a2⟩ := apU_eq x.U (hdV x) hu
      obtain ⟨b1, b2⟩ := apS_eq x.us _ h0
      refine ⟨⟨hok.1, hok.2.1⟩, hok.2.2, he, ?_, fun _ => a2, fun _ => b2⟩
      unfold itB unWs
      rw [hok', if_pos rfl, if_pos he, if_pos hk, if_pos hA, if_pos hk]
      show (apP (hdV x) x.U x.us).1.1 = _
      unfold apP
      rw [if_pos hu, b1, a1]
      have e2 : (hdV x).1 = cdB ((hdU x).1, (hdU x).2.1) := rfl
      rw [e2]
      simp [cdL1]
    · rename_i hu
      exact absurd h0 hu
theorem unWs_ok {x : It} (h : GoodI x) : ∀ u ∈ unWs x, (fmtR u.1 u.2).2 = 0 := fun u hu => by
  unfold unWs at hu
  rcases List.mem_cons.1 hu with rfl | hu
  · exact (hdU_fmt h.hd).1
  · split at hu
    · rename_i hk
      rcases List.mem_append.1 hu with hu | hu
      · obtain ⟨v, _, rfl⟩ := List.mem_map.1 hu
        exact fU_ok v
      · exact (h.us hk u hu).2
    · cases hu
theorem unZ_by {x : It} (h : GoodI x) : unW (unZ x) = pce x ∧ OksU (unZ x) := by
  refine ⟨?_, zPad_oks (unWs_ok h)⟩
  unfold unZ
  rw [unW_zPad _ _ (by unfold unWs; simp), ← h.by_]
  rfl
theorem unZ_all : ∀ {l : List It}, (∀ x ∈ l, GoodI x) → unW (l.flatMap unZ) = byS l ∧ OksU (l.flatMap unZ)
  | [], _ => ⟨rfl, fun x hx => by simp at hx⟩
  | x :: r, h => by
    obtain ⟨a, b⟩ := unZ_by (h x (by simp))
    obtain ⟨c, d⟩ := unZ_all (l := r) fun y hy => h y (by simp [hy])
    rw [List.flatMap_cons]
    refine ⟨?_, fun y hy => ?_⟩
    · rw [unW_append, a, c]; simp [byS]
    · rcases List.mem_append.1 hy with hy | hy
      · exact b y hy
      · exact d y hy
theorem erL_good : ∀ {l : List It}, erL l = 0 → ∀ x ∈ l, GoodI x
  | [], _, x, hx => by cases hx
  | y :: r, h, x, hx => by
    rw [erL] at h
    split at h
    · rename_i hy
      rcases List.mem_cons.1 hx with rfl | hx
      · exact goodI_of hy
      · exact erL_good h x hx
    · rename_i hy
      exact absurd h hy

/-! ### reading -/
/-- All units are accepted. -/
def runZ : PSt → List ((Int × List UInt8) × Nat) → Option PSt
  | s, [] => some s
  | s, (u, z) :: r => if (accP s u.1 u.2).2 then runZ (padP (z : Int) (accP s u.1 u.2).1) r else none
theorem runZ_append : ∀ (l r : List ((Int × List UInt8) × Nat)) (s : PSt), runZ s (l ++ r) = (runZ s l).bind fun s' => runZ s' r
  | [], r, s => rfl
  | (u, z) :: l, r, s => by
    rw [List.cons_append, runZ, runZ]
    split
    · exact runZ_append l r _
    · rfl
theorem runZ_fold : ∀ (l : List ((Int × List UInt8) × Nat)) (a : Nat) (s s' : PSt) (ds : List (Nat × Nat)), runZ s l = some s' → (fndW a l).foldl stpP (s, ds) = (s', ds)
  | [], a, s, s', ds, h => by
    rw [runZ] at h
    injection h with h
    rw [h]; rfl
  | (u, z) :: r, a, s, s', ds, h => by
    rw [runZ] at h
    split at h
    · rename_i hu
      rw [fndW, List.foldl_cons, stpP, if_pos hu]
      have e : (((a + (cdB u).length + z : Nat) : Int) - ((a + (cdB u).length : Nat) : Int)) = (z : Int) := by omega
      dsimp only
      rw [e]
      exact runZ_fold r _ _ _ ds h
    · cases h
def addU (y : It) (u : Int × List UInt8) : It := if u.1 = 178 then { y with U := y.U ++ [u.2.take (u.2.length - 1)] } else { y with us := y.us ++ [u] }
def AccU (u : Int × List UInt8) : Prop := (u.1 = 178 ∧ usB u.2 = true) ∨ (1 ≤ u.1 ∧ u.1 < 5)
theorem acc_U {pre : List It} {y : It} {np : Nat} {u : Int × List UInt8} (h : AccU u) : accP ⟨pre, some y, np⟩ u.1 u.2 = (⟨pre, some (addU y u), np⟩, true) := by
  unfold accP addU
  rcases h with ⟨h1, h2⟩ | h
  · rw [if_pos h1, if_pos h1]
    dsimp only
    rw [if_pos h2]
  · have h1 : ¬ u.1 = 178 := by omega
    rw [if_neg h1, if_neg h1, if_pos h]
def padI (y : It) (d : Int) : It := { y with pad := y.pad + d }
theorem padI_0 (y : It) : padI y 0 = y := by unfold padI; rw [Int.add_zero]
theorem runZ_tail (pre : List It) (np z : Nat) : ∀ (l : List (Int × List UInt8)) (y : It), l ≠ [] → (∀ u ∈ l, AccU u) → runZ ⟨pre, some y, np⟩ (zPad z l) = some ⟨pre, some (padI (l.foldl addU y) z), np⟩
  | [], y, h, _ => absurd rfl h
  | [u], y, _, h => by
    rw [zPad, runZ, acc_U (h u (by simp)), if_pos rfl]; rfl
  | u :: v :: r, y, _, h => by
    rw [zPad, runZ, acc_U (h u (by simp)), if_pos rfl]
    have := runZ_tail pre np z (v :: r) (padI (addU y u) 0) (by simp) fun w hw => h w (List.mem_cons_of_mem _ hw)
    rw [padI_0] at this
    have e : padP ((0 : Nat) : Int) ⟨pre, some (addU y u), np⟩ = ⟨pre, some (addU y u), np⟩ := by
      show PSt.mk pre (some (padI (addU y u) 0)) np = _
      rw [padI_0]
    rw [e, this]; rfl
theorem fold_U : ∀ (U : List (List UInt8)) (y : It), (U.map usU).foldl addU y = { y with U := y.U ++ U }
  | [], y => by simp
  | u :: r, y => by
    rw [List.map_cons, List.foldl_cons, fold_U r]
    have e : addU y (usU u) = { y with U := y.U ++ [u] } := by simp [addU, usU]
    rw [e]; simp
theorem fold_S : ∀ (us : List (Int × List UInt8)) (y : It), (∀ u ∈ us, 1 ≤ u.1 ∧ u.1 < 5) → us.foldl addU y = { y with us := y.us ++ us }
  | [], y, _ => by simp
  | u :: r, y, h => by
    rw [List.foldl_cons, fold_S r _ fun w hw => h w (List.mem_cons_of_mem _ hw)]
    have h1 : ¬ u.1 = 178 := by have := h u (by simp); omega
    have e : addU y u = { y with us := y.us ++ [u] } := by unfold addU; rw [if_neg h1]
    rw [e]; simp
/-- The item is added. -/
def addI (s : PSt) (x : It) : PSt := if x.k = 3 then ⟨s.its, some (nrm x), s.np + 1⟩ else ⟨s.its ++ [nrm x], none, s.np⟩
/-- An item without what follows its head. -/
def bare (x : It) : It := { nrm x with U := [], us := [], pad := 0 }
theorem bgn_hd {x : It} (h : GoodI x) (hs : SqOk x.s) : bgn (hdU x).1 (hdU x).2.1 = (bare x, 0) ∧ (bare x).k = x.k ∧ ¬ (hdU x).1 = 178 ∧ ¬ (1 ≤ (hdU x).1 ∧ (hdU x).1 < 5) := by
  have h0 := h.hd
  obtain ⟨hk1, hk2⟩ := h.k
  unfold hdU bare nrm at *
  by_cases k1 : x.k = 1
  · simp only [if_pos k1] at h0 ⊢
    unfold putS at h0 ⊢
    cases hv : vseq x.s with
    | false => rw [hv] at h0; simp at h0
    | true =>
      have := takeS_put (st := true) hs hv
      simp only [if_true]
      refine ⟨?_, k1.symm, by omega, by omega⟩
      unfold bgn
      rw [if_pos rfl, this]; rfl
  by_cases k2 : x.k = 2
  · simp only [if_neg k1, if_pos k2] at h0 ⊢
    unfold putG at h0 ⊢
    split at h0
    · rename_i hg
      have := takeG_put (c := x.gc) (b := x.gb) hg
      rw [if_pos hg]
      refine ⟨?_, k2.symm, by simp, by simp⟩
      unfold bgn
      simp only
      rw [if_neg (by omega), if_pos trivial, this]; rfl
    · simp at h0
  by_cases k3 : x.k = 3
  · simp only [if_neg k1, if_neg k2, if_pos k3] at h0 ⊢
    unfold putH at h0 ⊢
    cases hv : codd x.p with
    | false => rw [hv] at h0; simp at h0
    | true =>
      have := take_put x.p hv
      simp only [if_true]
      refine ⟨?_, k3.symm, by omega, by omega⟩
      unfold bgn
      simp only
      rw [if_neg (by omega), if_neg (by omega), if_pos trivial, this]; rfl
  · have k4 : x.k = 4 := by omega
    simp only [if_neg k1, if_neg k2, if_neg k3]
    refine ⟨?_, k4.symm, by omega, by omega⟩
    unfold bgn
    simp only
    rw [if_neg (by omega), if_neg (by omega), if_neg (by omega), if_pos trivial]; rfl
theorem acc_hd {x : It} (h : GoodI x) (hs : SqOk x.s) (s : PSt) : accP s (hdU x).1 (hdU x).2.1 = (if x.k = 3 then ⟨s.its, some (bare x), s.np + 1⟩ else ⟨s.its ++ [bare x], none, s.np⟩, true) := by
  obtain ⟨e1, e2, e3, e4⟩ := bgn_hd h hs
  obtain ⟨hk1, hk2⟩ := h.k
  unfold accP
  rw [if_neg e3, if_neg e4, e1]
  dsimp only
  rw [if_neg (by omega), if_pos rfl, e2]
  split <;> rfl
theorem runZ_item {x : It} (h : GoodI x) (hs : SqOk x.s) (s : PSt) : runZ s (unZ x) = some (addI s x) := by
  have ha := acc_hd h hs s
  have hz : ((x.pad.toNat : Nat) : Int) = x.pad := by have := h.pad; omega
  unfold unZ unWs addI
  by_cases hk : x.k = 3
  · rw [if_pos hk] at ha
    rw [if_pos hk, if_pos hk]
    have hb : bare x = { itN 3 with p := x.p } := by
      unfold bare nrm
      rw [if_neg (by omega), if_neg (by omega), if_pos hk]; rfl
    have hn : nrm x = { itN 3 with p := x.p, U := x.U, us := x.us, pad := x.pad } := by
      unfold nrm
      rw [if_neg (by omega), if_neg (by omega), if_pos hk]
    cases ht : x.U.map usU ++ x.us with
    | nil =>
      obtain ⟨t1, t2⟩ := List.append_eq_nil_iff.1 ht
      have t1 := List.map_eq_nil_iff.1 t1
      rw [zPad, runZ, ha, if_pos rfl, runZ]
      show some (PSt.mk s.its (some (padI (bare x) _)) _) = _
      rw [hz, hb, hn, t1, t2]
      simp [padI, itN]
    | cons v r =>
      rw [zPad, runZ, ha, if_pos rfl]
      have e : padP ((0 : Nat) : Int) ⟨s.its, some (bare x), s.np + 1⟩ = ⟨s.its, some (bare x), s.np + 1⟩ := by
        show PSt.mk s.its (some (padI (bare x) 0)) (s.np + 1) = _
        rw [padI_0]
      rw [e, ← ht, runZ_tail _ _ _ _ _ (by rw [ht]; simp) fun u hu => ?_, List.foldl_append, fold_U, fold_S _ _ fun u hu => (h.us hk u hu).1, hz, hb, hn]
      · simp [padI, itN]
      · rcases List.mem_append.1 hu with hu | hu
        · obtain ⟨w, hw, rfl⟩ := List.mem_map.1 hu
          have := h.U hk w hw
          refine .inl ⟨rfl, ?_⟩
          unfold usB usU
          simp [byt]; omega
        · exact .inr (h.us hk u hu).1
  · rw [if_neg hk] at ha
    rw [if_neg hk, if_neg hk, zPad, runZ, ha, if_pos rfl, runZ]
    unfold padP
    dsimp only
    rw [mod_last, hz]
    congr 4
    unfold bare nrm
    split
    · simp [itN]
    · split
      · simp [itN]
      · simp [itN]
theorem runZ_all : ∀ {l : List It}, (∀ x ∈ l, GoodI x) → (∀ x ∈ l, SqOk x.s) → ∀ s, runZ s (l.flatMap unZ) = some (l.foldl addI s)
  | [], _, _, s => rfl
  | x :: r, h, hs, s => by
    rw [List.flatMap_cons, runZ_append, runZ_item (h x (by simp)) (hs x (by simp))]
    exact runZ_all (fun y hy => h y (by simp [hy])) (fun y hy => hs y (by simp [hy])) _
theorem addI_all : ∀ (l : List It) (s : PSt), (l.foldl addI s).its = s.its ++ l.map nrm ∧ (l.foldl addI s).np = s.np + piL l
  | [], s => by simp [piL]
  | x :: r, s => by
    obtain ⟨a, b⟩ := addI_all r (addI s x)
    have e1 : (addI s x).its = s.its ++ [nrm x] := by unfold addI; split <;> simp [PSt.its]
    have e2 : (addI s x).np = s.np + (if x.k = 3 then 1 else 0) := by unfold addI; split <;> rfl
    rw [List.foldl_cons, a, b, e1, e2, piL, List.map_cons]
    refine ⟨by simp, by omega⟩
/-- ████ What Format writes Parse reads back. ████ -/
theorem par_fmt {l : List It} (hs : ∀ x ∈ l, SqOk x.s) (h : (fmtS l).2 = 0) : parP (fmtS l).1 = (l.map nrm, [], 0) ∧ spl (fmtS l).1 = (fndW 0 (l.flatMap unZ), []) ∧ (fmtS l).1.length ≤ 1048576 := by
  unfold fmtS at h ⊢
  split at h
  · rename_i he
    rw [if_pos he]
    split at h
    · simp at h
    · rename_i hb
      rw [if_neg hb]
      have hg := erL_good he
      obtain ⟨a, b⟩ := unZ_all hg
      have hsp : spl (byS l) = (fndW 0 (l.flatMap unZ), []) := by rw [← a]; exact spl_unW b
      have hr : prsP (fndW 0 (l.flatMap unZ)) = (l.foldl addI ps0, []) := runZ_fold _ 0 _ _ [] (runZ_all hg hs ps0)
      obtain ⟨c, d⟩ := addI_all l ps0
      refine ⟨?_, hsp, by dsimp only; omega⟩
      unfold parP badP
      dsimp only
      rw [if_neg (by omega), hsp]
      dsimp only
      rw [hr, if_neg (by dsimp only; rw [d]; show ¬ 256 < 0 + piL l; omega)]
      dsimp only
      rw [c]
      simp [ps0, PSt.its]
  · rename_i he
    exact absurd h he

end Go.Proofs.YtbhdollgohgkgaaDoor.Sc
