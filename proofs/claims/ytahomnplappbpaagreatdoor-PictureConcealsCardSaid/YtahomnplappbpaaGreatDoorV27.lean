/-
  Parts of the proof, put together in one text. No condition.
-/
import Derived.Test.YtahomnplappbpaaGreatDoorV26
import Derived.Test.YtahomnplappbpaaGreatDoorV21
import Derived.Test.YtahomnplappbpaaGreatDoorV22
import Derived.Test.YtahomnplappbpaaGreatDoorV23
import Derived.Test.YtahomnplappbpaaGreatDoorV25
namespace Go.Proofs.YtahomnplappbpaaGreatDoor.Sc
set_option linter.all false
set_option linter.unusedVariables false
set_option linter.unusedSimpArgs false
open Pm Ty Go.RowKit

def cd0 (p : Pi) : List PV := pic p ++ [.slice [] 0 true, .slice [] 0 true]
theorem pic_scD (p : Pi) (n : Nat) : ∀ x ∈ pic p, Scoped n x := fun x hx => by
  simp only [pic, List.mem_cons, List.not_mem_nil, or_false] at hx
  rcases hx with rfl | rfl | rfl | rfl | rfl | rfl <;> first | exact .int _ _ | exact .bool _
theorem rowm_scD (n : Nat) : ∀ r, ∀ x ∈ rowm r, Scoped n x
  | 0 => fun x hx => by cases hx
  | r + 1 => fun x hx => by
    rcases List.mem_append.1 hx with hx | hx
    · exact rowm_scD n r x hx
    · rw [List.mem_singleton] at hx
      rw [hx]
      exact .tup (asc fun x hx => by
        simp only [List.mem_cons, List.not_mem_nil, or_false] at hx
        rcases hx with rfl | rfl
        · exact .int _ _
        · exact .int _ _)
theorem unit0_sc (n : Nat) : ∀ x ∈ [PV.int .i64 0, PV.slice [] 0 true], Scoped n x := fun x hx => by
  simp only [List.mem_cons, List.not_mem_nil, or_false] at hx
  rcases hx with rfl | rfl
  · exact .int _ _
  · exact sl_scoped (fun x hx => by cases hx)

set_option maxHeartbeats 1600000 in
theorem count_0 (p : Pi) (i : Nat) (k : Int) (H : Heap) (hi : i < H.length) : CallOk Tryz.prog 59 [.agg (cd0 p), .mp i 0, .int .i64 k] H (.tup [.agg [.int .i64 0, .slice [] 0 true], .bool false]) H := by
  have h1 : (cd0 p).all PV.cell = true := rfl
  have h7 : (cd0 p)[7]? = some (.slice [] 0 true) := rfl
  have h8 : (cd0 p).length = 8 := rfl
  refine CallOk.body (F0 := [(0, .agg (cd0 p)), (1, .mp i 0), (2, .int .i64 k)]) Tryz.func59 rfl Tryz.ntmps59 Tryz.results59 rfl (by kernel_rfl) rfl ?_
  (repeat refine PW.seq ?_); refine PW.rg rfl fun K hK => ?_; simp (maxSteps := 3000000) (disch := omega) only [go_sem, ↓reduceIte, reduceCtorEq, pappend, plen, h1]; refine hK _ _ ?_; clear hK K
  (repeat refine PW.seq ?_); refine PW.rg rfl fun K hK => ?_; simp (maxSteps := 3000000) (disch := omega) only [go_sem, ↓reduceIte, reduceCtorEq, pappend, plen, h7, h8]; refine hK _ _ ?_; clear hK K
  (repeat refine PW.seq ?_); refine PW.block (PW.loop ?_)
  refine PL.round ?_; (repeat refine PW.seq ?_); refine PW.rg rfl fun K hK => ?_; simp (maxSteps := 3000000) (disch := omega) only [go_sem, ↓reduceIte, reduceCtorEq, pappend, plen]; refine hK _ _ ?_; clear hK K
  (repeat refine PW.seq ?_); refine PW.cond (t := _) rfl (fun h => ?_) (fun h => ?_)
  · cases h
  refine PW.exit ?_
  (repeat refine PW.seq ?_); refine PW.rg rfl fun K hK => ?_; simp (maxSteps := 3000000) (disch := omega) only [go_sem, ↓reduceIte, reduceCtorEq, pappend, plen]; refine hK _ _ ?_; clear hK K
  refine PW.ret ⟨.tup [.agg [.int .i64 0, .slice [] 0 true], .bool false], by simp (maxSteps := 3000000) (disch := omega) only [go_sem, ↓reduceIte, reduceCtorEq, pappend, plen, presults, presult, List.mapM_cons, List.mapM_nil, Option.pure_def, Option.bind_eq_bind, Option.bind_some, Array.toList], ?_⟩
  exact Fin.base (.id (.tup (asc fun x hx => by
    simp only [List.mem_cons, List.not_mem_nil, or_false] at hx
    rcases hx with rfl | rfl
    · exact .agg (asc (unit0_sc _))
    · exact .bool _)))

def dcH (H : Heap) (s : Sq) (p : Pi) (pa fu fi g : Fm) (r : Nat) : Heap := H ++ [⟨38, 0, sqc s⟩, ⟨75, 0, cd0 p⟩, ⟨55, 0, fmc pa ++ (fmc fu ++ fmc fi)⟩, ⟨53, 0, [.int .i64 0, .int .i64 0, .slice [] 0 true, .slice [] 0 true, .slice [] 0 true]⟩, ⟨53, 0, fmc g⟩, ⟨4, 0, List.replicate r (.bool false)⟩, mpB r]
theorem hsc_dcH (H : Heap) (s : Sq) (p : Pi) (pa fu fi g : Fm) (r : Nat) (h : HSc H) : HSc (dcH H s p pa fu fi g r) := hscW (fun b hb x hx => by
  simp only [List.mem_cons, List.not_mem_nil, or_false] at hb
  rcases hb with rfl | rfl | rfl | rfl | rfl | rfl | rfl
  · exact sqc_scoped _ _ x hx
  · rcases List.mem_append.1 hx with hx | hx
    · exact pic_scD _ _ x hx
    · simp only [List.mem_cons, List.not_mem_nil, or_false] at hx
      rcases hx with rfl | rfl <;> exact sl_scoped (fun x hx => by cases hx)
  · rcases List.mem_append.1 hx with hx | hx
    · exact fr_sc _ _ _ _ _ _ _ _ _ _ _ _ x hx
    · rcases List.mem_append.1 hx with hx | hx
      · exact fr_sc _ _ _ _ _ _ _ _ _ _ _ _ x hx
      · exact fr_sc _ _ _ _ _ _ _ _ _ _ _ _ x hx
  · exact fr_sc _ 0 0 [] [] [] _ _ _ _ _ _ x hx
  · exact fr_sc _ _ _ _ _ _ _ _ _ _ _ _ x hx
  · rw [List.eq_of_mem_replicate hx]; exact .bool _
  · exact rowm_scD _ _ x hx) h
/-- What Decode answers for a picture without slices. -/
def dc0 (s : Sq) (p : Pi) (pa fu fi : Fm) (b : Bool) : PV := if decE s p pa fu fi b = 0 then .tup [.agg (fmc (conF s p pa)), .slice (List.replicate (prows s p).toNat (.bool false)) (prows s p).toNat false, .int .i64 0] else .tup [.agg [.int .i64 0, .int .i64 0, .slice [] 0 true, .slice [] 0 true, .slice [] 0 true], .slice [] 0 true, .int .i64 (decE s p pa fu fi b)]
theorem decE_0 {s : Sq} {p : Pi} {pa fu fi : Fm} {b : Bool} (h : decE s p pa fu fi b = 0) : pvalid s p = true ∧ mOr pa s.w s.h = true := by
  unfold decE at h
  split at h
  · rename_i hc
    simp only [Bool.and_eq_true] at hc
    have := hc.1
    unfold fitB at this
    rw [Bool.and_eq_true] at this
    exact ⟨this.1, hc.2.1⟩
  · cases h

set_option maxHeartbeats 3200000 in
set_option maxRecDepth 10000 in
theorem decode_0 (s : Sq) (p : Pi) (pa fu fi : Fm) (b : Bool) (hs : SqOk s) (H : Heap) : CallOk Tryz.prog 24 [.agg (sqc s), .agg (cd0 p), .agg (fmc pa ++ (fmc fu ++ fmc fi)), .bool b] H (dc0 s p pa fu fi b) H := by
  have h1 := sqk_cell s
  have h2 := sqk_len s hs
  have h3 := sqc_tk s hs
  have c1 : (cd0 p).all PV.cell = true := rfl
  have c2 : (cd0 p).length = 8 := rfl
  have c3 : List.take 6 (cd0 p) = pic p := rfl
  have c4 : List.take 8 (cd0 p) = cd0 p := rfl
  have rl : (fmc pa ++ (fmc fu ++ fmc fi)).length = 15 := rfl
  have rc : (fmc pa ++ (fmc fu ++ fmc fi)).all PV.cell = true := rfl
  have rt : List.take 15 (fmc pa ++ (fmc fu ++ fmc fi)) = fmc pa ++ (fmc fu ++ fmc fi) := rfl
  have r0 : List.take 5 (fmc pa ++ (fmc fu ++ fmc fi)) = fmc pa := rfl
  have F5 : ∀ g : Fm, (fmc g).all PV.cell = true := fun _ => rfl
  have F7 : ∀ g : Fm, (fmc g).length = 5 := fun _ => rfl
  have F8 : ∀ g : Fm, List.take 5 (fmc g) = fmc g := fun _ => rfl
  have z9 : List.drop 5 [PV.int .i64 0, PV.int .i64 0, PV.slice [] 0 true, PV.slice [] 0 true, PV.slice [] 0 true] = [] := rfl
  have de := fun K => dec_ok s p pa fu fi b hs K
  unfold dc0
  have h0 : decE s p pa fu fi b = 0 → pvalid s p = true ∧ mOr pa s.w s.h = true := decE_0
  generalize decE s p pa fu fi b = e at de h0 ⊢
  refine CallOk.body (F0 := [(0, .agg (sqc s)), (1, .agg (cd0 p)), (2, .agg (fmc pa ++ (fmc fu ++ fmc fi))), (3, .bool b)]) Tryz.func24 rfl Tryz.ntmps24 Tryz.results24 rfl (by kernel_rfl) rfl ?_
  (repeat refine PW.seq ?_); refine PW.rg rfl fun K hK => ?_; simp (maxSteps := 3000000) (disch := omega) only [go_sem, ↓reduceIte, reduceCtorEq, pappend, plen, h1, c1, rc]; refine hK _ _ ?_; clear hK K
  (repeat refine PW.seq ?_)
  refine PW.scope ?_
  (repeat refine PW.seq ?_); refine PW.rg rfl fun K hK => ?_; simp (maxSteps := 3000000) (disch := omega) only [go_sem, ↓reduceIte, reduceCtorEq, pappend, plen, h2, h3, c2, c3, rl, rt]; refine VCx.call (de _) rfl ?_; simp (maxSteps := 3000000) (disch := omega) only [go_sem, ↓reduceIte, reduceCtorEq, pappend, plen, h2, h3, c2, c3, rl, rt]; refine hK _ _ ?_; clear hK K
  (repeat refine PW.seq ?_); refine PW.rg rfl fun K hK => ?_; simp (maxSteps := 3000000) (disch := omega) only [go_sem, ↓reduceIte, reduceCtorEq, pappend, plen]; refine hK _ _ ?_; clear hK K
  (repeat refine PW.seq ?_); refine PW.cond (t := _) rfl (fun h => ?_) (fun h => ?_)
  · have he : e ≠ 0 := by simpa using h
    rw [if_neg he]
    (repeat refine PW.seq ?_); refine PW.rg rfl fun K hK => ?_; simp (maxSteps := 3000000) (disch := omega) only [go_sem, ↓reduceIte, reduceCtorEq, pappend, plen]; refine hK _ _ ?_; clear hK K
    refine PW.ret ⟨.tup [.agg [.int .i64 0, .int .i64 0, .slice [] 0 true, .slice [] 0 true, .slice [] 0 true], .slice [] 0 true, .int .i64 e], by simp (maxSteps := 3000000) (disch := omega) only [go_sem, ↓reduceIte, reduceCtorEq, pappend, plen, presults, presult, List.mapM_cons, List.mapM_nil, Option.pure_def, Option.bind_eq_bind, Option.bind_some, Array.toList], ?_⟩
    exact Fin.base (.id (.tup (asc fun x hx => by
      simp only [List.mem_cons, List.not_mem_nil, or_false] at hx
      rcases hx with rfl | rfl | rfl
      · exact ag_scoped (fr_sc _ 0 0 [] [] [] _ _ _ _ _ _)
      · exact sl_scoped (fun x hx => by cases hx)
      · exact .int _ _)))
  have he : e = 0 := by simpa using h
  subst he
  rw [if_pos rfl]
  obtain ⟨hv, hm⟩ := h0 rfl
  refine PW.skip ?_
  have co := fun K => con_ok s p pa hs hv hm K
  obtain ⟨A, B, a1, b1, ew, eh, er, _⟩ := pv_sz hv
  have ro := fun K => prows_ok s p K hs
  rw [er] at ro ⊢
  rw [Int.toNat_natCast]
  generalize conF s p pa = g at co ⊢
  have rb := fun K => rbt_ok B K (by omega)
  have zb : (List.replicate B [PV.bool false]).flatten = List.replicate B (PV.bool false) := by
    induction B with
    | zero => rfl
    | succ n ih => simp [List.replicate_succ]
  (repeat refine PW.seq ?_); refine PW.rg rfl fun K hK => ?_; simp (maxSteps := 3000000) (disch := omega) only [go_sem, ↓reduceIte, reduceCtorEq, pappend, plen, h2, h3, c2, c3, rl, r0, F5, F7]; refine VCx.call (co _) rfl ?_; simp (maxSteps := 3000000) (disch := omega) only [go_sem, ↓reduceIte, reduceCtorEq, pappend, plen, h2, h3, c2, c3, rl, r0, F5, F7]; refine hK _ _ ?_; clear hK K
  (repeat refine PW.seq ?_); refine PW.rg rfl fun K hK => ?_; simp (maxSteps := 3000000) (disch := omega) only [go_sem, ↓reduceIte, reduceCtorEq, pappend, plen]; refine hK _ _ ?_; clear hK K
  (repeat refine PW.seq ?_); refine PW.cond (t := _) rfl (fun h => ?_) (fun h => ?_)
  · cases h
  refine PW.skip ?_
  (repeat refine PW.seq ?_); refine PW.rg rfl fun K hK => ?_; simp (maxSteps := 3000000) (disch := omega) only [go_sem, ↓reduceIte, reduceCtorEq, pappend, plen, h2, h3, c2, c3]; refine VCx.call (ro _) rfl ?_; simp (maxSteps := 3000000) (disch := omega) only [go_sem, ↓reduceIte, reduceCtorEq, pappend, plen, h2, h3, c2, c3]; refine hK _ _ ?_; clear hK K
  (repeat refine PW.seq ?_); refine PW.rg rfl fun K hK => ?_; simp (maxSteps := 3000000) (disch := omega) only [go_sem, ↓reduceIte, reduceCtorEq, pappend, plen]; refine VCx.call (rb _) rfl ?_; simp (maxSteps := 3000000) (disch := omega) only [go_sem, ↓reduceIte, reduceCtorEq, pappend, plen]; refine hK _ _ ?_; clear hK K
  rw [zb]
  refine PW.seq ?_
  refine PW.label ?_
  (repeat refine PW.seq ?_); refine PW.rg rfl fun K hK => ?_; simp (maxSteps := 3000000) (disch := omega) only [go_sem, ↓reduceIte, reduceCtorEq, pappend, plen]; refine hK _ _ ?_; clear hK K
  (repeat refine PW.seq ?_); refine PW.block (PW.loop ?_)
  suffices hl1 : ∀ k : Nat, k ≤ B → PL Tryz.prog _ _ [(3, .bool b), (4, .ptr H.length 0 0), (5, .ptr (H.length + 1) 0 0), (6, .ptr (H.length + 2) 0 0), (8, .ptr (H.length + 3) 0 0), (12, .ptr (H.length + 4) 0 0), (14, .msl (H.length + 5) 0 0 B 1 true), (15, .mp (H.length + 6) 0), (59, .int .i64 (B : Int)), (60, .int .i64 (k : Int))] (dcH H s p pa fu fi g B) _ by
    exact PL.at [3, 4, 5, 6, 8, 12, 14, 15, 59, 60] (hl1 0 (by omega)) rfl rfl
  clear ro rb co de
  refine cnt B (fun k hk ih => ?_) ?_
  · have ct := lt_t hk
    have cu := fun (K : Heap) (hK : H.length + 6 < K.length) => count_0 p (H.length + 6) (k : Int) K hK
    refine PL.round ?_; (repeat refine PW.seq ?_); refine PW.rg rfl fun K hK => ?_; simp (maxSteps := 3000000) (disch := omega) only [go_sem, ↓reduceIte, reduceCtorEq, pappend, plen, ct]; refine hK _ _ ?_; clear hK K; (repeat refine PW.seq ?_); refine PW.cond (t := _) rfl (fun h => ?_) (fun h => ?_)
    rotate_left
    · cases h
    refine PW.skip ?_; (repeat refine PW.seq ?_); refine PW.block ?_
    (repeat refine PW.seq ?_); refine PW.rg rfl fun K hK => ?_; simp (maxSteps := 3000000) (disch := omega) only [go_sem, ↓reduceIte, reduceCtorEq, pappend, plen]; refine hK _ _ ?_; clear hK K
    (repeat refine PW.seq ?_); refine PW.rg rfl fun K hK => ?_; simp (maxSteps := 3000000) (disch := omega) only [go_sem, ↓reduceIte, reduceCtorEq, pappend, plen, dcH, c2, c4]
    refine VCx.call (cu _ (by simp)) rfl ?_; simp (maxSteps := 3000000) (disch := omega) only [go_sem, ↓reduceIte, reduceCtorEq, pappend, plen, dcH, c2, c4]
    refine hK _ _ ?_; clear hK K
    (repeat refine PW.seq ?_); refine PW.rg rfl fun K hK => ?_; simp (maxSteps := 3000000) (disch := omega) only [go_sem, ↓reduceIte, reduceCtorEq, pappend, plen]; refine hK _ _ ?_; clear hK K
    (repeat refine PW.seq ?_); refine PW.cond (t := _) rfl (fun h => ?_) (fun h => ?_)
    rotate_left
    · cases h
    refine PW.exit ?_
    (repeat refine PW.seq ?_); refine PW.rg rfl fun K hK => ?_; simp (maxSteps := 3000000) (disch := omega) only [go_sem, ↓reduceIte, reduceCtorEq, pappend, plen]; refine hK _ _ ?_; clear hK K
    refine PL.view (Vs.trim (F1 := [(3, .bool b), (4, .ptr H.length 0 0), (5, .ptr (H.length + 1) 0 0), (6, .ptr (H.length + 2) 0 0), (8, .ptr (H.length + 3) 0 0), (12, .ptr (H.length + 4) 0 0), (14, .msl (H.length + 5) 0 0 B 1 true), (15, .mp (H.length + 6) 0), (59, .int .i64 (B : Int)), (60, .int .i64 ((k + 1 : Nat) : Int))]) (H1 := dcH H s p pa fu fi g B) (hsc_dcH H s p pa fu fi g B) (by simp [dcH]) (List.append_assoc _ [_, _, _, _, _, _, _] [_]).symm ?_) ih
    have hl : (dcH H s p pa fu fi g B).length = H.length + 7 := by simp [dcH]
    rw [hl]
    exact ⟨.id (.bool _), .id (.ptr (by omega)), .id (.ptr (by omega)), .id (.ptr (by omega)), .id (.ptr (by omega)), .id (.ptr (by omega)), .id (.msl (by omega)), .id (.mp (by omega)), .id (.int _ _), .id (.int _ _), trivial⟩
  refine PL.round ?_; (repeat refine PW.seq ?_); refine PW.rg rfl fun K hK => ?_; simp (maxSteps := 3000000) (disch := omega) only [go_sem, ↓reduceIte, reduceCtorEq, pappend, plen, lt_f B]; refine hK _ _ ?_; clear hK K; (repeat refine PW.seq ?_); refine PW.cond (t := _) rfl (fun h => ?_) (fun h => ?_)
  · cases h
  refine PW.exit ?_
  (repeat refine PW.seq ?_); refine PW.rg rfl fun K hK => ?_; simp (maxSteps := 3000000) (disch := omega) only [go_sem, ↓reduceIte, reduceCtorEq, pappend, plen, dcH, F5, F7, F8, z9]; refine hK _ _ ?_; clear hK K
  refine PW.ret ⟨.tup [.agg (fmc g), .msl (H.length + 5) 0 0 B 1 true, .int .i64 0], by simp (maxSteps := 3000000) (disch := omega) only [go_sem, ↓reduceIte, reduceCtorEq, pappend, plen, presults, presult, List.mapM_cons, List.mapM_nil, Option.pure_def, Option.bind_eq_bind, Option.bind_some, Array.toList, F7, F8], ?_⟩
  refine Fin.base (Fz.tupC ⟨.id (ag_scoped (fr_sc _ _ _ _ _ _ _ _ _ _ _ _)), Fz.mslC (e := 4) (xs := List.replicate B (.bool false)) (by omega) (apn _ _ 5) (by simp) (FzC.refl (fun x hx => by rw [List.eq_of_mem_replicate hx]; exact .bool _)), .id (.int _ _), trivial⟩)

end Go.Proofs.YtahomnplappbpaaGreatDoor.Sc

namespace Go.Proofs.YtahomnplappbpaaGreatDoor.Sc
set_option linter.all false
set_option linter.unusedVariables false
set_option linter.unusedSimpArgs false
open Pm Ty Go.RowKit

end Go.Proofs.YtahomnplappbpaaGreatDoor.Sc

namespace Go.Proofs.YtahomnplappbpaaGreatDoor.Sc
set_option linter.all false
set_option linter.unusedVariables false
set_option linter.unusedSimpArgs false
open Pm Ty Go.RowKit

end Go.Proofs.YtahomnplappbpaaGreatDoor.Sc

namespace Go.Proofs.YtahomnplappbpaaGreatDoor.Sc
set_option linter.all false
set_option linter.unusedVariables false
set_option linter.unusedSimpArgs false
open Pm Ty Go.RowKit

end Go.Proofs.YtahomnplappbpaaGreatDoor.Sc

namespace Go.Proofs.YtahomnplappbpaaGreatDoor.Sc
set_option linter.all false
set_option linter.unusedVariables false
set_option linter.unusedSimpArgs false
open Pm Ty Go.RowKit

end Go.Proofs.YtahomnplappbpaaGreatDoor.Sc
