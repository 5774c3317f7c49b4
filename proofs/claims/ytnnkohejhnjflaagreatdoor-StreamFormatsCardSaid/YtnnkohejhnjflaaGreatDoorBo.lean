/-
  Contracts of package bitio: opening a reader.
-/
import Derived.Test.YtnnkohejhnjflaaGreatDoorBr
namespace Go.Proofs.YtnnkohejhnjflaaGreatDoor.Sc
set_option linter.all false
set_option linter.unusedVariables false
set_option linter.unusedSimpArgs false
open Pm Ty Go.RowKit

/-- Trailing zeros of a byte. -/
def tz8 (b : Nat) : Nat := if b % 2 ≠ 0 then 0 else if b % 4 ≠ 0 then 1 else if b % 8 ≠ 0 then 2 else if b % 16 ≠ 0 then 3 else if b % 32 ≠ 0 then 4 else if b % 64 ≠ 0 then 5 else if b % 128 ≠ 0 then 6 else if b % 256 ≠ 0 then 7 else 8
theorem tz8_le (b : Nat) : tz8 b ≤ 8 := by
  unfold tz8; repeat' split
  all_goals omega
theorem tz8_fact : ∀ b < 256, b = 0 ∨ (tz8 b < 8 ∧ b / 2 ^ tz8 b % 2 = 1 ∧ ∀ j < 8, tz8 b ≤ j ∨ b / 2 ^ j % 2 = 0) := by decide +kernel

def isInt (r : Option Res) (v : Nat) : Bool := match r with
  | some (.val (.int .i64 n) []) => n == (v : Int)
  | _ => false
theorem tz_all : ∀ b : Nat, b < 256 → isInt (evalN Tryz.prog 100 (.call 77 [.int .u8 (b : Int)] [])) (tz8 b) = true := by decide +kernel
theorem tz_ok (b : Nat) (hb : b < 256) (H : Heap) : CallOk Tryz.prog 77 [.int .u8 (b : Int)] H (.int .i64 (tz8 b : Int)) H := by
  refine CallOk.eval 100 ?_ ?_
  · have h := tz_all b hb
    unfold isInt at h
    split at h
    · rename_i he; rw [he, eq_of_beq h]
    · cases h
  · intro x hx
    simp only [List.mem_cons, List.not_mem_nil, or_false] at hx
    rw [hx]; exact .int _ _

/-- The last byte; the number of bits ahead of the last set one. -/
def lastB (q : List UInt8) : Nat := (q.getD (q.length - 1) 0).toNat
def nb (q : List UInt8) : Nat := 8 * q.length - 1 - tz8 (lastB q)

theorem newr_bad (q : List UInt8) (f : Bool) (H : Heap) (hl : q.length ≤ 100000000) (hb : q.length = 0 ∨ lastB q = 0) :
    CallOk Tryz.prog 45 [.slice (bs q) q.length f] H (.tup [.nilp, .int .i64 3]) H := by
  refine CallOk.body (F0 := [(0, .slice (bs q) q.length f)]) Tryz.func45 rfl Tryz.ntmps45 Tryz.results45 rfl (by kernel_rfl) rfl ?_
  by_cases h0 : q.length = 0
  · (repeat refine PW.seq ?_); refine PW.rg rfl fun K hK => ?_; simp (maxSteps := 3000000) (disch := omega) only [go_sem, ↓reduceIte, reduceCtorEq, pappend, plen]; refine hK _ _ ?_; clear hK K
    (repeat refine PW.seq ?_); refine PW.rg rfl fun K hK => ?_; simp (maxSteps := 3000000) (disch := omega) only [go_sem, ↓reduceIte, reduceCtorEq, pappend, plen, h0]
    refine hK _ _ ?_; clear hK K
    (repeat refine PW.seq ?_); refine PW.cond (t := _) rfl (fun h => ?_) (fun h => ?_)
    · (repeat refine PW.seq ?_); refine PW.rg rfl fun K hK => ?_; simp (maxSteps := 3000000) (disch := omega) only [go_sem, ↓reduceIte, reduceCtorEq, pappend, plen]; refine hK _ _ ?_; clear hK K
      exact PW.ret ⟨_, rfl, Fin.now⟩
    · cases h
  · have e1 : (q.length : Int) - 1 = ((q.length - 1 : Nat) : Int) := by omega
    have hby : byt q (q.length - 1) = 0 := by
      have : byt q (q.length - 1) = (lastB q : Int) := rfl
      omega
    (repeat refine PW.seq ?_); refine PW.rg rfl fun K hK => ?_; simp (maxSteps := 3000000) (disch := omega) only [go_sem, ↓reduceIte, reduceCtorEq, pappend, plen]; refine hK _ _ ?_; clear hK K
    (repeat refine PW.seq ?_); refine PW.rg rfl fun K hK => ?_; simp (maxSteps := 3000000) (disch := omega) only [go_sem, ↓reduceIte, reduceCtorEq, pappend, plen, e1, bs_get, length_bs, hby]
    refine hK _ _ ?_; clear hK K
    (repeat refine PW.seq ?_); refine PW.cond (t := _) rfl (fun h => ?_) (fun h => ?_)
    · (repeat refine PW.seq ?_); refine PW.rg rfl fun K hK => ?_; simp (maxSteps := 3000000) (disch := omega) only [go_sem, ↓reduceIte, reduceCtorEq, pappend, plen]; refine hK _ _ ?_; clear hK K
      exact PW.ret ⟨_, rfl, Fin.now⟩
    · cases h
theorem newr_ok (q : List UInt8) (f : Bool) (H : Heap) (hl : q.length ≤ 100000000) (hq : q.length ≠ 0) (hb : lastB q ≠ 0) :
    CallOk Tryz.prog 45 [.slice (bs q) q.length f] H (.tup [.ptr (H.length + 1) 0 0, .int .i64 0]) (H ++ [⟨5, 1, []⟩, rA q (nb q) 0]) := by
  have e1 : (q.length : Int) - 1 = ((q.length - 1 : Nat) : Int) := by omega
  have hby : byt q (q.length - 1) = (lastB q : Int) := rfl
  have hlt : lastB q < 256 := UInt8.toNat_lt _
  have htz : tz8 (lastB q) < 8 := ((tz8_fact _ hlt).resolve_left hb).1
  refine CallOk.body (F0 := [(0, .slice (bs q) q.length f)]) Tryz.func45 rfl Tryz.ntmps45 Tryz.results45 rfl (by kernel_rfl) rfl ?_
  (repeat refine PW.seq ?_); refine PW.rg rfl fun K hK => ?_; simp (maxSteps := 3000000) (disch := omega) only [go_sem, ↓reduceIte, reduceCtorEq, pappend, plen]; refine hK _ _ ?_; clear hK K
  (repeat refine PW.seq ?_); refine PW.rg rfl fun K hK => ?_; simp (maxSteps := 3000000) (disch := omega) only [go_sem, ↓reduceIte, reduceCtorEq, pappend, plen, e1, bs_get, length_bs, hby]; refine hK _ _ ?_; clear hK K
  (repeat refine PW.seq ?_); refine PW.cond (t := _) rfl (fun h => ?_) (fun h => ?_)
  · cases h
  refine PW.skip ?_
  (repeat refine PW.seq ?_); refine PW.rg rfl fun K hK => ?_; simp (maxSteps := 3000000) (disch := omega) only [go_sem, ↓reduceIte, reduceCtorEq, pappend, plen]; refine hK _ _ ?_; clear hK K
  have hcl : (List.replicate q.length [PV.int .u8 0]).flatten.length = q.length := by simp
  refine PW.to [0, 4] [(0, .slice (bs q) q.length f), (4, .ptr (H.length + 1) 0 0)] (H ++ [⟨5, 0, bs q⟩, ⟨141, 0, [.msl H.length 0 0 q.length 1 true, .int .i64 0, .int .i64 0]⟩]) ?_ ?_
  · (repeat refine PW.seq ?_); refine PW.rg rfl fun K hK => ?_; simp (maxSteps := 3000000) (disch := omega) only [go_sem, ↓reduceIte, reduceCtorEq, pappend, plen, length_bs, hcl]; refine hK _ _ ?_; clear hK K
    refine ⟨rfl, ?_⟩
    have htk : List.take q.length (bs q) = bs q := List.take_of_length_le (by rw [length_bs]; exact Nat.le_refl _)
    simp [splice, reps, length_bs, htk]
  refine PW.view (Vs.frzCell (id := H.length) (id' := H.length + 1) (j := 0) (hp0 _ _ _) (hp1 _ _ _ _) (by omega) rfl (by simp [length_bs])) ?_
  simp only [hs0, hs1, List.set_cons_zero]
  (repeat refine PW.seq ?_); refine PW.rg rfl fun K hK => ?_; simp (maxSteps := 3000000) (disch := omega) only [go_sem, ↓reduceIte, reduceCtorEq, pappend, plen, length_bs, e1, bs_get, hby]; refine VCx.call (tz_ok _ hlt _) rfl ?_; simp (maxSteps := 3000000) (disch := omega) only [go_sem, ↓reduceIte, reduceCtorEq, pappend, plen, length_bs, e1, bs_get, hby]; refine hK _ _ ?_; clear hK K
  (repeat refine PW.seq ?_); refine PW.rg rfl fun K hK => ?_; simp (maxSteps := 3000000) (disch := omega) only [go_sem, ↓reduceIte, reduceCtorEq, pappend, plen]; refine hK _ _ ?_; clear hK K
  have e2 : 8 * (q.length : Int) - 1 - (tz8 (lastB q) : Int) = (nb q : Int) := by unfold nb; omega
  refine PW.ret ⟨_, rfl, ?_⟩
  refine .inl ⟨?_, ?_⟩
  · simp [slot, Nat.beq]
  · rw [e2]; rfl

end Go.Proofs.YtnnkohejhnjflaaGreatDoor.Sc
