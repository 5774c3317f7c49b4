/-
  Parts of the proof, put together in one text. No condition.
-/
import Derived.Test.YtahomnplappbpaaGreatDoorV12
import Derived.Test.YtahomnplappbpaaGreatDoorV20
import Derived.Test.YtahomnplappbpaaGreatDoorV16
import Derived.Test.YtahomnplappbpaaGreatDoorV18
import Derived.Test.YtahomnplappbpaaGreatDoorV15
import Derived.Test.YtahomnplappbpaaGreatDoorV19
namespace Go.Proofs.YtahomnplappbpaaGreatDoor.Sc
set_option linter.all false
set_option linter.unusedVariables false
set_option linter.unusedSimpArgs false
open Pm Go.RowKit

def isVal (r : Option Res) (v : PV) : Bool := match r with
  | some (.val w []) => eqb 20 w v
  | _ => false
theorem _root_.Go.Proofs.YtahomnplappbpaaGreatDoor.Pm.CallOk.evalV {P : Program} {H : Heap} (n : Nat) {f : FuncId} {args : List PV} {v : PV} (h : isVal (evalN P n (.call f args [])) v = true) (hs : ∀ x ∈ args, Scoped 0 x) : CallOk P f args H v H := by
  refine CallOk.eval n ?_ hs
  unfold isVal at h
  split at h
  · rename_i he; rw [he, eqb_sound 20 _ _ h]
  · cases h
theorem hl7 (H : Heap) (b0 b1 b2 b3 b4 b5 b6 : Blk) : (H ++ [b0, b1, b2, b3, b4, b5, b6]).length = H.length + 7 := by simp
theorem hl8 (H : Heap) (b0 b1 b2 b3 b4 b5 b6 b7 : Blk) : (H ++ [b0, b1, b2, b3, b4, b5, b6, b7]).length = H.length + 8 := by simp
theorem hl9 (H : Heap) (b0 b1 b2 b3 b4 b5 b6 b7 b8 : Blk) : (H ++ [b0, b1, b2, b3, b4, b5, b6, b7, b8]).length = H.length + 9 := by simp
theorem hl10 (H : Heap) (b0 b1 b2 b3 b4 b5 b6 b7 b8 b9 : Blk) : (H ++ [b0, b1, b2, b3, b4, b5, b6, b7, b8, b9]).length = H.length + 10 := by simp
theorem hl11 (H : Heap) (b0 b1 b2 b3 b4 b5 b6 b7 b8 b9 b10 : Blk) : (H ++ [b0, b1, b2, b3, b4, b5, b6, b7, b8, b9, b10]).length = H.length + 11 := by simp
theorem hl12 (H : Heap) (b0 b1 b2 b3 b4 b5 b6 b7 b8 b9 b10 b11 : Blk) : (H ++ [b0, b1, b2, b3, b4, b5, b6, b7, b8, b9, b10, b11]).length = H.length + 12 := by simp
theorem hp7 (H K : Heap) (b0 b1 b2 b3 b4 b5 b6 b7 : Blk) : (H ++ b0 :: b1 :: b2 :: b3 :: b4 :: b5 :: b6 :: b7 :: K)[H.length + 7]? = some b7 := by rw [List.getElem?_append_right (by omega)]; simp
theorem hs7 (H K : Heap) (b0 b1 b2 b3 b4 b5 b6 b7 x : Blk) : (H ++ b0 :: b1 :: b2 :: b3 :: b4 :: b5 :: b6 :: b7 :: K).set (H.length + 7) x = H ++ b0 :: b1 :: b2 :: b3 :: b4 :: b5 :: b6 :: x :: K := by rw [List.set_append_right _ _ (by omega)]; simp
theorem hp8 (H K : Heap) (b0 b1 b2 b3 b4 b5 b6 b7 b8 : Blk) : (H ++ b0 :: b1 :: b2 :: b3 :: b4 :: b5 :: b6 :: b7 :: b8 :: K)[H.length + 8]? = some b8 := by rw [List.getElem?_append_right (by omega)]; simp
theorem hs8 (H K : Heap) (b0 b1 b2 b3 b4 b5 b6 b7 b8 x : Blk) : (H ++ b0 :: b1 :: b2 :: b3 :: b4 :: b5 :: b6 :: b7 :: b8 :: K).set (H.length + 8) x = H ++ b0 :: b1 :: b2 :: b3 :: b4 :: b5 :: b6 :: b7 :: x :: K := by rw [List.set_append_right _ _ (by omega)]; simp
theorem hp9 (H K : Heap) (b0 b1 b2 b3 b4 b5 b6 b7 b8 b9 : Blk) : (H ++ b0 :: b1 :: b2 :: b3 :: b4 :: b5 :: b6 :: b7 :: b8 :: b9 :: K)[H.length + 9]? = some b9 := by rw [List.getElem?_append_right (by omega)]; simp
theorem hs9 (H K : Heap) (b0 b1 b2 b3 b4 b5 b6 b7 b8 b9 x : Blk) : (H ++ b0 :: b1 :: b2 :: b3 :: b4 :: b5 :: b6 :: b7 :: b8 :: b9 :: K).set (H.length + 9) x = H ++ b0 :: b1 :: b2 :: b3 :: b4 :: b5 :: b6 :: b7 :: b8 :: x :: K := by rw [List.set_append_right _ _ (by omega)]; simp
theorem hp10 (H K : Heap) (b0 b1 b2 b3 b4 b5 b6 b7 b8 b9 b10 : Blk) : (H ++ b0 :: b1 :: b2 :: b3 :: b4 :: b5 :: b6 :: b7 :: b8 :: b9 :: b10 :: K)[H.length + 10]? = some b10 := by rw [List.getElem?_append_right (by omega)]; simp
theorem hs10 (H K : Heap) (b0 b1 b2 b3 b4 b5 b6 b7 b8 b9 b10 x : Blk) : (H ++ b0 :: b1 :: b2 :: b3 :: b4 :: b5 :: b6 :: b7 :: b8 :: b9 :: b10 :: K).set (H.length + 10) x = H ++ b0 :: b1 :: b2 :: b3 :: b4 :: b5 :: b6 :: b7 :: b8 :: b9 :: x :: K := by rw [List.set_append_right _ _ (by omega)]; simp
theorem hp11 (H K : Heap) (b0 b1 b2 b3 b4 b5 b6 b7 b8 b9 b10 b11 : Blk) : (H ++ b0 :: b1 :: b2 :: b3 :: b4 :: b5 :: b6 :: b7 :: b8 :: b9 :: b10 :: b11 :: K)[H.length + 11]? = some b11 := by rw [List.getElem?_append_right (by omega)]; simp
theorem hs11 (H K : Heap) (b0 b1 b2 b3 b4 b5 b6 b7 b8 b9 b10 b11 x : Blk) : (H ++ b0 :: b1 :: b2 :: b3 :: b4 :: b5 :: b6 :: b7 :: b8 :: b9 :: b10 :: b11 :: K).set (H.length + 11) x = H ++ b0 :: b1 :: b2 :: b3 :: b4 :: b5 :: b6 :: b7 :: b8 :: b9 :: b10 :: x :: K := by rw [List.set_append_right _ _ (by omega)]; simp
attribute [go_sem] hl7 hl8 hl9 hl10 hl11 hl12 hp7 hs7 hp8 hs8 hp9 hs9 hp10 hs10 hp11 hs11
theorem asc {n : Nat} {xs : List PV} (h : ∀ x ∈ xs, Scoped n x) : ∀ (j : Nat) (x : PV), xs[j]? = some x → Scoped n x := fun j x hx => h x (List.mem_of_getElem? hx)

end Go.Proofs.YtahomnplappbpaaGreatDoor.Sc

namespace Go.Proofs.YtahomnplappbpaaGreatDoor.Sc
set_option linter.all false
set_option linter.unusedVariables false
set_option linter.unusedSimpArgs false
open Pm Ty Go.RowKit

end Go.Proofs.YtahomnplappbpaaGreatDoor.Sc

namespace Go.Proofs.YtahomnplappbpaaGreatDoor.Sc
set_option linter.all false
set_option linter.unusedVariables false
set_option linter.unusedSimpArgs false
open Pm Ty Go.RowKit

def f0 : Fm := ⟨0, 0, [], [], []⟩
def fieldOf (f : Fm) (sel : Int) : Fm := fld (f.w / 2).toNat (f.h / 4).toNat sel.toNat f.y f.u f.v
theorem fvd_fr4 {w ht : Int} {y u v : List UInt8} (h : fvd ⟨w, ht, y, u, v⟩ = true) (h32 : ht % 32 = 0) : ∃ V K : Nat, w = ((2 * V : Nat) : Int) ∧ ht = ((4 * K : Nat) : Int) ∧ Fok V K y u v := by
  simp only [fvd, fmd, Bool.and_eq_true, decide_eq_true_eq] at h
  obtain ⟨⟨hs, hy, hu, hv⟩, hw, hh⟩ := h
  obtain ⟨g1, g2, g3, g4, g5, g6⟩ := fsz_of hs
  refine ⟨(w / 2).toNat, (ht / 4).toNat, by omega, by omega, ?_⟩
  obtain ⟨V, hV⟩ : ∃ V : Nat, (w / 2).toNat = V := ⟨_, rfl⟩
  obtain ⟨K, hK⟩ : ∃ K : Nat, (ht / 4).toNat = K := ⟨_, rfl⟩
  rw [hV, hK]
  have e1 : w = ((2 * V : Nat) : Int) := by omega
  have e2 : ht = ((4 * K : Nat) : Int) := by omega
  have e3 : 2 * K * (2 * (2 * V)) = 2 * V * (4 * K) := by rw [show 2 * (2 * V) = 4 * V by omega, Nat.mul_mul_mul_comm, Nat.mul_mul_mul_comm 2 V 4 K, Nat.mul_comm K V]
  have e4 : K * (2 * V) = V * (2 * K) := by rw [Nat.mul_comm K, Nat.mul_comm 2 V, Nat.mul_assoc]
  have d1 : w / 2 = (V : Int) := by omega
  have d2 : ht / 2 = ((2 * K : Nat) : Int) := by omega
  rw [d1, d2] at hu hv
  rw [e1, e2] at hy
  refine ⟨by omega, by omega, ?_, ?_, ?_⟩
  · rw [e3]; exact Int.ofNat_inj.1 (hy.trans (Int.natCast_mul _ _).symm)
  · rw [e4]; exact Int.ofNat_inj.1 (hu.trans (Int.natCast_mul _ _).symm)
  · rw [e4]; exact Int.ofNat_inj.1 (hv.trans (Int.natCast_mul _ _).symm)
theorem fieldOf_fr4 (V K P : Nat) (y u v : List UInt8) : fieldOf (fr4 V K y u v) (P : Int) = fld V K P y u v := by
  have e1 : (((2 * V : Nat) : Int) / 2).toNat = V := by omega
  have e2 : (((4 * K : Nat) : Int) / 4).toNat = K := by omega
  simp only [fieldOf, fr4, e1, e2, Int.toNat_natCast]

end Go.Proofs.YtahomnplappbpaaGreatDoor.Sc

namespace Go.Proofs.YtahomnplappbpaaGreatDoor.Pm
set_option linter.all false
set_option linter.unusedVariables false
set_option linter.unusedSimpArgs false
open Go.RowKit

variable {P : Program} {C : Ctx} {H : Heap} {w : World} {F : Fr} {a : Act} {N : Nat}

noncomputable def opE (P : Program) (n : Nat) (ds : List (Option Nat)) (o : Oper) (F : Fr) (H : Heap) : Option (Fr × Heap) :=
  match isCall o.op with
  | false => stp P ds o F H
  | true => match asked ds F o with
    | some true => match pcallee o.op (slot F) with
      | some (g, args) => match evalN P n (.call g args H) with
        | some (.val v H1) => some (put F o.dst v, H1)
        | _ => none
      | none => none
    | some false => some (put F o.dst (.tup []), H)
    | none => none
theorem opE_sound {n : Nat} {all : List Oper} {o : Oper} {F1 : Fr} {H1 : Heap} (h : opE P n (all.map (·.dst)) o F H = some (F1, H1)) :
    (want all (slot F) o = some false ∧ F1 = put F o.dst (.tup []) ∧ H1 = H) ∨ (want all (slot F) o = some true ∧ ∃ v, Exec P o (slot F) H v H1 ∧ F1 = put F o.dst v) := by
  have hcl : isCall o.op = false → pcallee o.op (slot F) = none := fun hc => by
    unfold pcallee
    split
    · rename_i f args ts ho; rw [ho] at hc; simp [isCall] at hc
    · rfl
  unfold opE at h
  split at h
  · rename_i hc
    unfold stp at h
    split at h
    · rename_i hb
      split at h
      · rename_i v H' hp
        simp only [Option.some.injEq, Prod.mk.injEq] at h
        obtain ⟨rfl, rfl⟩ := h
        exact .inr ⟨asked_want all F o hb, v, by unfold Exec; rw [hcl hc]; exact hp, rfl⟩
      · cases h
    · rename_i hb
      simp only [Option.some.injEq, Prod.mk.injEq] at h
      obtain ⟨rfl, rfl⟩ := h
      exact .inl ⟨asked_want all F o hb, rfl, rfl⟩
    · cases h
  · split at h
    · rename_i hb
      split at h
      · rename_i g args hp
        split at h
        · rename_i v H' he
          simp only [Option.some.injEq, Prod.mk.injEq] at h
          obtain ⟨rfl, rfl⟩ := h
          exact .inr ⟨asked_want all F o hb, v, by unfold Exec; rw [hp]; exact evalN_good n _ _ he, rfl⟩
        · cases h
      · cases h
    · rename_i hb
      simp only [Option.some.injEq, Prod.mk.injEq] at h
      obtain ⟨rfl, rfl⟩ := h
      exact .inl ⟨asked_want all F o hb, rfl, rfl⟩
    · cases h

def collect {α : Type} (g : Nat → Option (List α)) : List Nat → Option (List α)
  | [] => some []
  | i :: r => match g i with
    | some x => match collect g r with
      | some y => some (x ++ y)
      | none => none
    | none => none
theorem collect_mem {α : Type} {g : Nat → Option (List α)} : ∀ {l : List Nat} {L : List α}, collect g l = some L → ∀ i ∈ l, ∃ x, g i = some x ∧ ∀ y ∈ x, y ∈ L
  | [], L, _, i, hi => by cases hi
  | j :: r, L, h, i, hi => by
    simp only [collect] at h
    split at h
    · rename_i x hx
      split at h
      · rename_i y hy
        injection h with h
        subst h
        rcases List.mem_cons.1 hi with rfl | hi
        · exact ⟨x, hx, fun z hz => List.mem_append.2 (.inl hz)⟩
        · obtain ⟨x', h1, h2⟩ := collect_mem hy i hi
          exact ⟨x', h1, fun z hz => List.mem_append.2 (.inr (h2 z hz))⟩
      · cases h
    · cases h

noncomputable def anyE (P : Program) (n N : Nat) (ops : Array Oper) : Nat → Array Bool → Fr → Heap → Option (List (Fr × Heap))
  | 0, listed, F, H => match Region.ready .any ops listed with | [] => some [(F, H)] | _ => none
  | k + 1, listed, F, H => match Region.ready .any ops listed with
    | [] => some [(F, H)]
    | r => collect (fun i => match ops[i]? with
      | some o => match dstOk N o with
        | true => match opE P n (ops.toList.map (·.dst)) o F H with
          | some (F1, H1) => anyE P n N ops k (listed.setIfInBounds i true) F1 H1
          | none => none
        | false => none
      | none => none) r

theorem anyE_sound {n : Nat} {ops : Array Oper} {Q : Exit → Act → World → Prop} : ∀ (k : Nat) (listed : Array Bool) (F : Fr) (H : Heap) (L : List (Fr × Heap)), anyE P n N ops k listed F H = some L → ∀ (C : Ctx) (a : Act) (w : World), a.defers = [] → WRel C H w → FRel C N (slot F) a →
    (∀ C' F' H' a' w', CLe C C' → a'.defers = [] → WRel C' H' w' → Below C.B w w' → FRel C' N (slot F') a' → (F', H') ∈ L → Q .normal a' w') → wpAny P .any ops Q k listed a w
  | 0, listed, F, H, L, h, C, a, w, hd, hw, hf, hQ => by
    simp only [anyE] at h
    split at h
    · rename_i hr
      injection h with h
      subst h
      exact ⟨hr, hQ C F H a w (.refl _) hd hw (.refl _ _) hf (by simp)⟩
    · cases h
  | k + 1, listed, F, H, L, h, C, a, w, hd, hw, hf, hQ => by
    simp only [anyE] at h
    split at h
    · rename_i hr
      injection h with h
      subst h
      exact ⟨fun _ => hQ C F H a w (.refl _) hd hw (.refl _ _) hf (by simp), fun i hi => by rw [hr] at hi; cases hi⟩
    · rename_i hne
      refine ⟨fun e => absurd e hne, fun i hi => ?_⟩
      obtain ⟨x, hx, hsub⟩ := collect_mem h i hi
      split at hx
      · rename_i o ho
        split at hx
        · rename_i hdst
          split at hx
          · rename_i F1 H1 hop
            unfold wpOp
            rw [ho]
            simp only
            have next : ∀ C' u w' v, F1 = put F o.dst v → CLe C C' → WRel C' H1 w' → Below C.B w w' → FRel C' N (upd (slot F) o.dst v) (a.put o.dst u) → wpAny P .any ops Q k (listed.setIfInBounds i true) (a.put o.dst u) w' := by
              intro C' u w' v hF1 q1 q2 q3 q4
              refine anyE_sound k _ F1 H1 x hx C' _ w' (by cases hod : o.dst <;> simp [Act.put, hd]) q2 (by rw [hF1, get_put]; exact q4) ?_
              intro C'' F'' H'' a'' w'' p1 p2 p3 p4 p5 p6
              exact hQ C'' F'' H'' a'' w'' (q1.trans p1) p2 p3 (q3.trans (by rw [← q1.B]; exact p4)) p5 (hsub _ p6)
            rcases opE_sound hop with ⟨h1, h2, h3⟩ | ⟨h1, v, h2, h3⟩
            · have hwant := want_sound hf h1
              rw [Array.toArray_toList] at hwant
              rw [if_neg (by rw [hwant]; simp)]
              exact next C _ w (.tup []) h2 (.refl _) (h3 ▸ hw) (.refl _ _) (hf.put o.dst (dstOk_of hdst) VRel.undefV)
            · have hwant := want_sound hf h1
              rw [Array.toArray_toList] at hwant
              rw [if_pos hwant]
              left
              exact exec_sound hdst hw hf h2 _ _ (fun C' u w' q1 q2 q3 q4 => next C' u w' v h3 q1 q2 q3 q4)
          · cases hx
        · cases hx
      · cases hx

theorem PW.any {E : Env} {Q : Exit → Fr → Heap → Prop} {id n : Nat} {ops : Array Oper} {L : List (Fr × Heap)} (hm : P.follows .mixedOrders = true) (h : anyE P n E.N ops ops.size (Array.replicate ops.size false) F H = some L) (hQ : ∀ F' H', (F', H') ∈ L → Q .normal F' H') :
    PW P E (.region id ops true) F H Q := fun hs C a w hdf hw hf => by
  refine wp_region_any hm ?_
  refine anyE_sound ops.size _ F H L h C a w.drew hdf hw.drew hf ?_
  rintro C' F' H' a' w' p1 p2 p3 p4 p5 p6
  exact ⟨C', F', H', p1.toN _, p2, p3, ((Below.refl C.B w).drew).trans p4, p5, hQ F' H' p6⟩

/-! ### a function with such regions -/
end Go.Proofs.YtahomnplappbpaaGreatDoor.Pm

namespace Go.Proofs.YtahomnplappbpaaGreatDoor.Sc
set_option linter.all false
set_option linter.unusedVariables false
set_option linter.unusedSimpArgs false
open Pm Ty Go.RowKit

end Go.Proofs.YtahomnplappbpaaGreatDoor.Sc

namespace Go.Proofs.YtahomnplappbpaaGreatDoor.Sc
set_option linter.all false
set_option linter.unusedVariables false
set_option linter.unusedSimpArgs false
open Pm Ty Go.RowKit

end Go.Proofs.YtahomnplappbpaaGreatDoor.Sc

namespace Go.Proofs.YtahomnplappbpaaGreatDoor.Sc
set_option linter.all false
set_option linter.unusedVariables false
set_option linter.unusedSimpArgs false
open Pm Ty Go.RowKit

def mx3 (a b c : Int) : Int := if c > (if b > a then b else a) then c else (if b > a then b else a)
theorem pmax3 (k : IntKind) (a b c : Int) : pfold pmax (.int k a) [.int k b, .int k c] = some (.int k (mx3 a b c)) := rfl
def mx6 (a b c d e f : Int) : Int := (fun x => if f > x then f else x) ((fun x => if e > x then e else x) ((fun x => if d > x then d else x) (mx3 a b c)))
theorem pmax6 (k : IntKind) (a b c d e f : Int) : pfold pmax (.int k a) [.int k b, .int k c, .int k d, .int k e, .int k f] = some (.int k (mx6 a b c d e f)) := rfl
attribute [go_sem high] pmax3 pmax6
end Go.Proofs.YtahomnplappbpaaGreatDoor.Sc

namespace Go.Proofs.YtahomnplappbpaaGreatDoor.Sc
set_option linter.all false
set_option linter.unusedVariables false
set_option linter.unusedSimpArgs false
open Pm Ty Go.RowKit

end Go.Proofs.YtahomnplappbpaaGreatDoor.Sc

namespace Go.Proofs.YtahomnplappbpaaGreatDoor.Sc
set_option linter.all false
set_option linter.unusedVariables false
set_option linter.unusedSimpArgs false
open Pm Ty Go.RowKit

end Go.Proofs.YtahomnplappbpaaGreatDoor.Sc

namespace Go.Proofs.YtahomnplappbpaaGreatDoor.Sc
set_option linter.all false
set_option linter.unusedVariables false
set_option linter.unusedSimpArgs false
open Pm Ty Go.RowKit

end Go.Proofs.YtahomnplappbpaaGreatDoor.Sc

namespace Go.Proofs.YtahomnplappbpaaGreatDoor.Sc
set_option linter.all false
set_option linter.unusedVariables false
set_option linter.unusedSimpArgs false
open Pm Ty Go.RowKit

end Go.Proofs.YtahomnplappbpaaGreatDoor.Sc

namespace Go.Proofs.YtahomnplappbpaaGreatDoor.Sc
set_option linter.all false
set_option linter.unusedVariables false
set_option linter.unusedSimpArgs false
open Pm Ty Go.RowKit

end Go.Proofs.YtahomnplappbpaaGreatDoor.Sc

namespace Go.Proofs.YtahomnplappbpaaGreatDoor.Sc
set_option linter.all false
set_option linter.unusedVariables false
set_option linter.unusedSimpArgs false
open Pm Ty Go.RowKit

def zl384 : List Int := List.replicate 384 0
end Go.Proofs.YtahomnplappbpaaGreatDoor.Sc

namespace Go.Proofs.YtahomnplappbpaaGreatDoor.Sc
set_option linter.all false
set_option linter.unusedVariables false
set_option linter.unusedSimpArgs false
open Pm Ty Go.RowKit

end Go.Proofs.YtahomnplappbpaaGreatDoor.Sc

namespace Go.Proofs.YtahomnplappbpaaGreatDoor.Sc
set_option linter.all false
set_option linter.unusedVariables false
set_option linter.unusedSimpArgs false
open Pm Ty Go.RowKit

end Go.Proofs.YtahomnplappbpaaGreatDoor.Sc

namespace Go.Proofs.YtahomnplappbpaaGreatDoor.Sc
set_option linter.all false
set_option linter.unusedVariables false
set_option linter.unusedSimpArgs false
open Pm Ty Go.RowKit

/-! ### frames of one macroblock -/
structure F16 (f : Fm) : Prop where
  w : f.w = 16
  h : f.h = 16
  ly : f.y.length = 256
  lu : f.u.length = 64
  lv : f.v.length = 64
theorem F16.fvd {f : Fm} (h : F16 f) : fvd f = true := by
  obtain ⟨w, h, y, u, v⟩ := f
  obtain ⟨rfl, rfl, ly, lu, lv⟩ := h
  simp only at ly lu lv
  simp [Sc.fvd, fmd, fsz, ly, lu, lv]
def cmp (f : Fm) (n : Nat) : List UInt8 := if n = 4 then f.u else if n = 5 then f.v else f.y
theorem F16.cmp {f : Fm} (h : F16 f) {n : Nat} (hn : n < 6) : (cmp f n).length = bln n := by
  unfold Sc.cmp bln
  split
  · rw [if_pos (by omega)]; exact h.lu
  · split
    · rw [if_pos (by omega)]; exact h.lv
    · rw [if_neg (by omega)]; exact h.ly
/-! ### predictions of a macroblock -/
/-! ### frames that are close -/
structure nrF (D : Int) (f g : Fm) : Prop where
  w : f.w = g.w
  h : f.h = g.h
  y : nr D f.y g.y
  u : nr D f.u g.u
  v : nr D f.v g.v
theorem nrF.refl {D : Int} (h : 0 ≤ D) (f : Fm) : nrF D f f := ⟨rfl, rfl, .refl h _, .refl h _, .refl h _⟩
theorem nrF.D0 {D : Int} {f g : Fm} (h : nrF D f g) : 0 ≤ D := h.y.D0
theorem nrF.fmd {D : Int} {f g : Fm} (h : nrF D f g) : fmd f = fmd g := by
  unfold Sc.fmd; rw [h.w, h.h, h.y.1, h.u.1, h.v.1]
theorem nrF.fvd {D : Int} {f g : Fm} (h : nrF D f g) : fvd f = fvd g := by
  unfold Sc.fvd; rw [h.fmd, h.w, h.h]
theorem nrF.fieldOf {D : Int} {f g : Fm} (h : nrF D f g) {s : Int} (hs : s = 0 ∨ s = 1) (hv : Sc.fvd f = true) (h32 : f.h % 32 = 0) : nrF D (fieldOf f s) (fieldOf g s) := by
  obtain ⟨w, ht, y, u, v⟩ := f
  obtain ⟨w', ht', y', u', v'⟩ := g
  obtain ⟨e1, e2, h3, h4, h5⟩ := h
  simp only at e1 e2 h3 h4 h5 h32
  subst e1 e2
  obtain ⟨V, K, rfl, rfl, ok⟩ := fvd_fr4 hv h32
  obtain ⟨P, hP, rfl⟩ : ∃ P : Nat, P ≤ 1 ∧ s = (P : Int) := by
    rcases hs with e | e
    · exact ⟨0, by omega, by omega⟩
    · exact ⟨1, by omega, by omega⟩
  have f1 := fieldOf_fr4 V K P y u v
  have f2 := fieldOf_fr4 V K P y' u' v'
  unfold fr4 at f1 f2
  rw [f1, f2]
  exact ⟨rfl, rfl, h3.ctl (rows_fit _ _ _ hP _ ok.ly), h4.ctl (rows_fit _ _ _ hP _ ok.lu), h5.ctl (rows_fit _ _ _ hP _ ok.lv)⟩
structure selB (m : Mb) : Prop where
  a : m.sa = 0 ∨ m.sa = 1
  b : m.sb = 0 ∨ m.sb = 1
  c : m.sc = 0 ∨ m.sc = 1
  d : m.sd = 0 ∨ m.sd = 1
end Go.Proofs.YtahomnplappbpaaGreatDoor.Sc

namespace Go.Proofs.YtahomnplappbpaaGreatDoor.Sc
set_option linter.all false
set_option linter.unusedVariables false
set_option linter.unusedSimpArgs false
open Pm Ty Go.RowKit

end Go.Proofs.YtahomnplappbpaaGreatDoor.Sc

namespace Go.Proofs.YtahomnplappbpaaGreatDoor.Sc
set_option linter.all false
set_option linter.unusedVariables false
set_option linter.unusedSimpArgs false
open Pm Ty Go.RowKit

end Go.Proofs.YtahomnplappbpaaGreatDoor.Sc

namespace Go.Proofs.YtahomnplappbpaaGreatDoor.Sc
set_option linter.all false
set_option linter.unusedVariables false
set_option linter.unusedSimpArgs false
open Pm Ty Go.RowKit

end Go.Proofs.YtahomnplappbpaaGreatDoor.Sc

namespace Go.Proofs.YtahomnplappbpaaGreatDoor.Sc
set_option linter.all false
set_option linter.unusedVariables false
set_option linter.unusedSimpArgs false
open Pm Ty Go.RowKit

theorem _root_.Go.Proofs.YtahomnplappbpaaGreatDoor.Pm.CallOk.fin {P : Program} {f : FuncId} {args : List PV} {v v' : PV} {H H1 Hout : Heap} (h : CallOk P f args H v' H1) (hf : HSc H → H.length ≤ Hout.length ∧ CutH H1 Hout ∧ Fz Hout.length H1 v' v) : CallOk P f args H v Hout :=
  ⟨h.1, fun C us w hw hargs => (h.2 C us w hw hargs).mono fun e w' ⟨C', u, q1, q2, q3, q4, q5⟩ => by
    obtain ⟨hlen, hcut, hfz⟩ := hf hw.hsc
    obtain ⟨g1, g2⟩ := q2.cutN hcut
    exact ⟨_, u, ((q1.toN _).trans (g1.less hlen)).full hw.lenv, g2, q3, q4, hfz.sound q2 q5⟩⟩
theorem _root_.Go.Proofs.YtahomnplappbpaaGreatDoor.Pm.CallOk.base {P : Program} {f : FuncId} {args : List PV} {v v' : PV} {H K : Heap} (h : CallOk P f args H v' (H ++ K)) (hf : Fz H.length (H ++ K) v' v) : CallOk P f args H v H :=
  h.fin fun hs => ⟨Nat.le_refl _, CutH.base hs, hf⟩
theorem apn (H K : Heap) (n : Nat) : (H ++ K)[H.length + n]? = K[n]? := by
  rw [List.getElem?_append_right (by omega), show H.length + n - H.length = n by omega]
theorem hscW {H K : Heap} (hK : ∀ b ∈ K, ∀ x ∈ b.cells, Scoped (H.length + K.length) x) (h : HSc H) : HSc (H ++ K) := fun id k hk x hx => by
  rw [List.length_append]
  rw [List.getElem?_append] at hk
  split at hk
  · exact (h id k hk x hx).mono (by omega)
  · exact hK k (List.mem_of_getElem? hk) x hx


end Go.Proofs.YtahomnplappbpaaGreatDoor.Sc

namespace Go.Proofs.YtahomnplappbpaaGreatDoor.Sc
set_option linter.all false
set_option linter.unusedVariables false
set_option linter.unusedSimpArgs false
open Pm Ty Go.RowKit

/-- A heap with one block replaced. -/
def one (H : Heap) (r : Nat) (B : Blk) : Heap := H.set r B
theorem hscP {K0 L L' : Heap} (hl : L'.length = L.length) (hL : ∀ b ∈ L', ∀ x ∈ b.cells, Scoped (K0.length + L.length) x) (h : HSc (K0 ++ L)) : HSc (K0 ++ L') := fun id k hk x hx => by
  rw [List.length_append, hl]
  rw [List.getElem?_append] at hk
  split at hk
  · rename_i hlt
    have := h id k (by rw [List.getElem?_append_left hlt]; exact hk) x hx
    rwa [List.length_append] at this
  · exact hL k (List.mem_of_getElem? hk) x hx
/-- The clone of a frame: its three components stand in reserved places. -/
def plc : Blk := ⟨5, 0, []⟩
end Go.Proofs.YtahomnplappbpaaGreatDoor.Sc

namespace Go.Proofs.YtahomnplappbpaaGreatDoor.Sc
set_option linter.all false
set_option linter.unusedVariables false
set_option linter.unusedSimpArgs false
open Pm Ty Go.RowKit

/-- The blocks that the interpolation looks at. -/
structure Itp (i2 i3 i4 i5 i6 : Nat) (p : List UInt8) (W R : Nat) (dx dy : Int) (H : Heap) : Prop where
  a : H[i2]? = some ⟨3, 0, [.int .i64 (W : Int)]⟩
  b : H[i3]? = some ⟨3, 1, [.int .i64 dx]⟩
  c : H[i4]? = some ⟨3, 0, [.int .i64 (R : Int)]⟩
  d : H[i5]? = some ⟨3, 1, [.int .i64 dy]⟩
  e : H[i6]? = some ⟨51, 0, [.slice (bs p) p.length false]⟩

/-- What is filled, up to n. -/
def flB (N : Nat) (f : Nat → Int) (n : Nat) : List UInt8 := rgB N fun j => if j < n then f j else 0
theorem flB_len (N : Nat) (f : Nat → Int) (n : Nat) : (flB N f n).length = N := rgB_len _ _
theorem flB_0 (N : Nat) (f : Nat → Int) : bs (flB N f 0) = reps N [PV.int .u8 0] := by
  rw [bs_zero]
  congr 1
  apply List.ext_getElem
  · simp [flB, rgB]
  intro i h1 h2
  simp [flB, rgB, u8]
theorem flB_set {N : Nat} {f : Nat → Int} {n : Nat} (hf : 0 ≤ f n ∧ f n ≤ 255) : (bs (flB N f n)).set n (.int .u8 (f n)) = bs (flB N f (n + 1)) := by
  conv => lhs; rw [← u8_val hf]
  rw [bs_set]
  congr 1
  apply List.ext_getElem
  · simp [flB, rgB]
  intro i h1 h2
  simp only [flB, rgB, List.getElem_set, List.getElem_map, List.getElem_range]
  by_cases hi : n = i
  · subst hi; rw [if_pos rfl, if_pos (by omega)]
  · rw [if_neg hi]
    by_cases h3 : i < n
    · rw [if_pos h3, if_pos (by omega)]
    · rw [if_neg h3, if_neg (by omega)]
theorem flB_end (N : Nat) (f : Nat → Int) : flB N f N = rgB N f := rgB_ext fun i hi => if_pos hi

end Go.Proofs.YtahomnplappbpaaGreatDoor.Sc

namespace Go.Proofs.YtahomnplappbpaaGreatDoor.Sc
set_option linter.all false
set_option linter.unusedVariables false
set_option linter.unusedSimpArgs false
open Pm Ty Go.RowKit

theorem fr_sc (n : Nat) (a b : Int) (p q r : List UInt8) (i j k : Nat) (e f g : Bool) : ∀ x ∈ [PV.int .i64 a, PV.int .i64 b, PV.slice (bs p) i e, PV.slice (bs q) j f, PV.slice (bs r) k g], Scoped n x := fun x hx => by
  simp only [List.mem_cons, List.not_mem_nil, or_false] at hx
  rcases hx with rfl | rfl | rfl | rfl | rfl
  · exact .int _ _
  · exact .int _ _
  · exact sl_scoped (bs_scoped _ _)
  · exact sl_scoped (bs_scoped _ _)
  · exact sl_scoped (bs_scoped _ _)
end Go.Proofs.YtahomnplappbpaaGreatDoor.Sc
