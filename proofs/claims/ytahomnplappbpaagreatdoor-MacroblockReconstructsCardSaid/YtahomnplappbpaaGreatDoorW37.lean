/-
  Parts of the proof, put together in one text. No condition.
-/
import Derived.Test.YtahomnplappbpaaGreatDoorW36
import Derived.Test.YtahomnplappbpaaGreatDoorW28
import Derived.Test.YtahomnplappbpaaGreatDoorW16
import Derived.Test.YtahomnplappbpaaGreatDoorW21
import Derived.Test.YtahomnplappbpaaGreatDoorW22
import Derived.Test.YtahomnplappbpaaGreatDoorW27
namespace Go.Proofs.YtahomnplappbpaaGreatDoor.Sc
set_option linter.all false
set_option linter.unusedVariables false
set_option linter.unusedSimpArgs false
open Pm Ty Go.RowKit

/-! ### a case -/
def rfs (pa fu fi : Fm) : List PV := fmc pa ++ (fmc fu ++ fmc fi)
def csc (c : Cx) (s : Sq) (al : Bool) (q : Int) (m : Mb) (pa fu fi : Fm) (X Y : Int) : List PV := cxc c ++ (sqc s ++ ([.bool al, .int .i64 q] ++ (mbc m ++ (rfs pa fu fi ++ [.int .i64 X, .int .i64 Y]))))
structure Cok (s : Sq) (m : Mb) : Prop where
  a : s.ia.length = 64
  b : s.ie.length = 64
  l : m.lv.length = 384
section
variable {c : Cx} {s : Sq} {al : Bool} {q : Int} {m : Mb} {pa fu fi : Fm} {X Y : Int}
theorem csc_1 : csc c s al q m pa fu fi X Y = (cxc c ++ sqc s) ++ ([.bool al, .int .i64 q] ++ (mbc m ++ (rfs pa fu fi ++ [.int .i64 X, .int .i64 Y]))) := by simp [csc]
theorem csc_2 : csc c s al q m pa fu fi X Y = (cxc c ++ (sqc s ++ [.bool al, .int .i64 q])) ++ (mbc m ++ (rfs pa fu fi ++ [.int .i64 X, .int .i64 Y])) := by simp [csc]
theorem csc_3 : csc c s al q m pa fu fi X Y = (cxc c ++ (sqc s ++ ([.bool al, .int .i64 q] ++ mbc m))) ++ (rfs pa fu fi ++ [.int .i64 X, .int .i64 Y]) := by simp [csc]
theorem csc_4 : csc c s al q m pa fu fi X Y = (cxc c ++ (sqc s ++ ([.bool al, .int .i64 q] ++ (mbc m ++ rfs pa fu fi)))) ++ [.int .i64 X, .int .i64 Y] := by simp [csc]
theorem len_1 (h : Cok s m) : (cxc c ++ sqc s).length = 139 := by rw [List.length_append, sqj_len s h.a h.b]; rfl
set_option maxRecDepth 100000 in
theorem len_2 (h : Cok s m) : (cxc c ++ (sqc s ++ [PV.bool al, .int .i64 q])).length = 141 := by rw [List.length_append, List.length_append, sqj_len s h.a h.b]; rfl
set_option maxRecDepth 100000 in
theorem len_3 (h : Cok s m) : (cxc c ++ (sqc s ++ ([PV.bool al, .int .i64 q] ++ mbc m))).length = 549 := by rw [List.length_append, List.length_append, List.length_append, sqj_len s h.a h.b, mbc_lenA m h.l]; rfl
set_option maxRecDepth 100000 in
theorem len_4 (h : Cok s m) : (cxc c ++ (sqc s ++ ([PV.bool al, .int .i64 q] ++ (mbc m ++ rfs pa fu fi)))).length = 564 := by rw [List.length_append, List.length_append, List.length_append, List.length_append, sqj_len s h.a h.b, mbc_lenA m h.l]; rfl
theorem csc_len (h : Cok s m) : (csc c s al q m pa fu fi X Y).length = 566 := by rw [csc_4, List.length_append, len_4 h]; rfl
theorem csc_cell : (csc c s al q m pa fu fi X Y).all PV.cell = true := by
  have h1 := sqj_cell s
  have h2 := mbc_cellA m
  have h3 : (rfs pa fu fi).all PV.cell = true := rfl
  have h4 : (cxc c).all PV.cell = true := rfl
  simp [csc, h1, h2, h3, h4, PV.cell]
theorem csc_c : List.take 4 (csc c s al q m pa fu fi X Y) = cxc c := rfl
theorem csc_s (h : Cok s m) : List.take 135 (List.drop 4 (csc c s al q m pa fu fi X Y)) = sqc s := List.take_left' (sqj_len s h.a h.b)
set_option maxRecDepth 100000 in
theorem csc_al (h : Cok s m) : (csc c s al q m pa fu fi X Y)[139]? = some (.bool al) := by
  rw [csc_1, List.getElem?_append_right (by rw [len_1 h]; omega), len_1 h]; rfl
set_option maxRecDepth 100000 in
theorem csc_q (h : Cok s m) : (csc c s al q m pa fu fi X Y)[140]? = some (.int .i64 q) := by
  rw [csc_1, List.getElem?_append_right (by rw [len_1 h]; omega), len_1 h]; rfl
theorem csc_m (h : Cok s m) : List.take 408 (List.drop 141 (csc c s al q m pa fu fi X Y)) = mbc m := by
  rw [csc_2, List.drop_left' (len_2 h), List.take_left' (mbc_lenA m h.l)]
theorem csc_r (h : Cok s m) : List.take 15 (List.drop 549 (csc c s al q m pa fu fi X Y)) = rfs pa fu fi := by
  rw [csc_3, List.drop_left' (len_3 h)]; rfl
set_option maxRecDepth 100000 in
theorem csc_X (h : Cok s m) : (csc c s al q m pa fu fi X Y)[564]? = some (.int .i64 X) := by
  rw [csc_4, List.getElem?_append_right (by rw [len_4 h]; omega), len_4 h]; rfl
set_option maxRecDepth 100000 in
theorem csc_Y (h : Cok s m) : (csc c s al q m pa fu fi X Y)[565]? = some (.int .i64 Y) := by
  rw [csc_4, List.getElem?_append_right (by rw [len_4 h]; omega), len_4 h]; rfl
end

set_option maxHeartbeats 1600000 in
set_option maxRecDepth 100000 in
theorem built_ok (c : Cx) (s : Sq) (al : Bool) (q : Int) (m : Mb) (pa fu fi : Fm) (X Y : Int) (h : Cok s m) (H : Heap) :
    CallOk Tryz.prog 14 [.agg (csc c s al q m pa fu fi X Y)] H (.tup [.agg (fmc (recS c s.ia s.ie al q m pa fu fi X Y).1), .int .i64 (recS c s.ia s.ie al q m pa fu fi X Y).2]) H := by
  have sa := fun L => samec_ok c L
  have re := fun L => recon_ok c s al q m pa fu fi X Y L h.l h.a h.b
  have e1 := csc_c (c := c) (s := s) (al := al) (q := q) (m := m) (pa := pa) (fu := fu) (fi := fi) (X := X) (Y := Y)
  have e2 := csc_s (c := c) (al := al) (q := q) (pa := pa) (fu := fu) (fi := fi) (X := X) (Y := Y) h
  have e3 := csc_al (c := c) (al := al) (q := q) (pa := pa) (fu := fu) (fi := fi) (X := X) (Y := Y) h
  have e4 := csc_q (c := c) (al := al) (q := q) (pa := pa) (fu := fu) (fi := fi) (X := X) (Y := Y) h
  have e5 := csc_m (c := c) (al := al) (q := q) (pa := pa) (fu := fu) (fi := fi) (X := X) (Y := Y) h
  have e6 := csc_r (c := c) (al := al) (q := q) (pa := pa) (fu := fu) (fi := fi) (X := X) (Y := Y) h
  have e7 := csc_X (c := c) (al := al) (q := q) (pa := pa) (fu := fu) (fi := fi) (X := X) (Y := Y) h
  have e8 := csc_Y (c := c) (al := al) (q := q) (pa := pa) (fu := fu) (fi := fi) (X := X) (Y := Y) h
  have e9 := csc_len (c := c) (al := al) (q := q) (pa := pa) (fu := fu) (fi := fi) (X := X) (Y := Y) h
  have e0 := csc_cell (c := c) (s := s) (al := al) (q := q) (m := m) (pa := pa) (fu := fu) (fi := fi) (X := X) (Y := Y)
  change ∀ L, CallOk _ _ [_, _, _, _, _, .agg (rfs pa fu fi), _, _] L _ L at re
  generalize csc c s al q m pa fu fi X Y = C at *
  generalize recS c s.ia s.ie al q m pa fu fi X Y = T at re ⊢
  obtain ⟨g, e⟩ := T
  simp only at re ⊢
  have g5 : (fmc g).all PV.cell = true := rfl
  have g7 : (fmc g).length = 5 := rfl
  have g8 : List.take 5 (fmc g) = fmc g := rfl
  have z9 : List.drop 5 [PV.int .i64 0, PV.int .i64 0, PV.slice [] 0 true, PV.slice [] 0 true, PV.slice [] 0 true] = [] := rfl
  refine CallOk.body (F0 := [(0, .agg C)]) Tryz.func14 rfl Tryz.ntmps14 Tryz.results14 rfl (by kernel_rfl) rfl ?_
  (repeat refine PW.seq ?_); refine PW.rg rfl fun K hK => ?_; simp (disch := omega) only [go_sem, ↓reduceIte, reduceCtorEq, pappend, plen, e0]; refine hK _ _ ?_; clear hK K
  (repeat refine PW.seq ?_); refine PW.drawi [H.length + 1] [(2, [0])] [] [6, 21] mix (by kernel_rfl) (by simp <;> omega) fun K hK => ?_
  simp (disch := omega) only [go_sem, ↓reduceIte, reduceCtorEq, pappend, plen, arith, e1, e2, e3, e4, e5, e6, e7, e8, e9]
  refine VCj.read (fun _ _ => sa _) rfl ?_
  simp (disch := omega) only [go_sem, ↓reduceIte, reduceCtorEq, pappend, plen, arith, e1, e2, e3, e4, e5, e6, e7, e8, e9]
  refine VCj.read (fun _ _ => re _) rfl ?_
  simp (disch := omega) only [go_sem, ↓reduceIte, reduceCtorEq, pappend, plen, g5, g7, z9]
  refine hK _ _ ?_; clear hK K
  refine PW.ret ⟨.tup [.agg (fmc g), .int .i64 e], by simp (disch := omega) only [go_sem, ↓reduceIte, reduceCtorEq, pappend, plen, presults, presult, List.mapM_cons, List.mapM_nil, Option.pure_def, Option.bind_eq_bind, Option.bind_some, Array.toList, g7, g8], ?_⟩
  exact Fin.base (.id (fe_scoped _ _ _ _ _ _ _ _ _ _))

end Go.Proofs.YtahomnplappbpaaGreatDoor.Sc

namespace Go.Proofs.YtahomnplappbpaaGreatDoor.Lcs
set_option linter.all false
set_option linter.unusedVariables false
set_option linter.unusedSimpArgs false
open Go.ChangeShapes Go.WideShapes Go.ChangeAt Go.RowKit Pm Sc

theorem own : ownKnob Tryz.prog.godebug = none := by kernel_rfl
theorem laidOut : laidOutB Tryz.prog = true := by kernel_rfl
theorem shp_case {ps : List PV} (h : Shp Tryz.prog 57 ps) : ∃ (c : Cx) (s : Sq) (al : Bool) (q : Int) (m : Mb) (pa fu fi : Fm) (X Y : Int), ps = csc c s al q m pa fu fi X Y ∧ Cok s m := by
  obtain ⟨pss, rfl, hf⟩ := h.fields Tryz.underlying57
  match pss, hf with
  | [a, b, c, d, e, f, g, i], ⟨ha, hb, hc, hd, he, hf, hg, hi, _⟩ =>
    obtain ⟨c0, rfl⟩ := Ln.shp_cx ha
    obtain ⟨s, rfl, hs⟩ := Lp.shp_seq hb
    obtain ⟨al, rfl⟩ := Ln.shp_bool hc
    obtain ⟨q, rfl, _⟩ := Ln.shp_int hd
    obtain ⟨m, rfl, hm⟩ := Lm.shp_mb he
    obtain ⟨pa, fu, fi, rfl⟩ := Ln.shp_refs hf
    obtain ⟨X, rfl, _⟩ := Ln.shp_int hg
    obtain ⟨Y, rfl, _⟩ := Ln.shp_int hi
    exact ⟨c0, s, al, q, m, pa, fu, fi, X, Y, by simp [csc, rfs], ⟨hs.ia, hs.ie, hm.1⟩⟩

end Go.Proofs.YtahomnplappbpaaGreatDoor.Lcs

namespace Go.Proofs.YtahomnplappbpaaGreatDoor.Sc
set_option linter.all false
set_option linter.unusedVariables false
set_option linter.unusedSimpArgs false
open Pm Ty Go.RowKit

theorem basis_ref (i k : Nat) (H : Heap) (hi : i < 8) (hk : k < 8) : CallOk Tryz.prog 96 [.int .i64 (i : Int), .int .i64 (k : Int)] H (.int .i64 (bas i k)) H := by
  rcases or8 hi with rfl | rfl | rfl | rfl | rfl | rfl | rfl | rfl <;> rcases or8 hk with rfl | rfl | rfl | rfl | rfl | rfl | rfl | rfl
  all_goals exact CallOk.eval 1000 (by kernel_rfl) (sc2 _ _)
theorem norm_ref (i : Nat) (H : Heap) (hi : i < 8) : CallOk Tryz.prog 97 [.int .i64 (i : Int)] H (.int .i64 (intAt nrL i)) H := by
  rcases or8 hi with rfl | rfl | rfl | rfl | rfl | rfl | rfl | rfl
  all_goals exact CallOk.eval 10000 (by kernel_rfl) (sc1 _)
theorem clamp_ref (v : Int) (H : Heap) : CallOk Tryz.prog 98 [.int .i64 v] H (.int .i64 (cl21 v)) H := by
  have cl : (if (if 2097152 < v then 2097152 else v) > -2097152 then (if 2097152 < v then 2097152 else v) else -2097152) = cl21 v := by unfold cl21; omega
  refine CallOk.body (F0 := [(0, .int .i64 v)]) Tryz.func98 rfl Tryz.ntmps98 Tryz.results98 rfl (by kernel_rfl) rfl ?_
  (repeat refine PW.seq ?_); refine PW.rg rfl fun K hK => ?_; simp (disch := omega) only [go_sem, ↓reduceIte, reduceCtorEq, pappend, plen]; refine hK _ _ ?_; clear hK K
  (repeat refine PW.seq ?_); refine PW.rg rfl fun K hK => ?_; simp (disch := omega) only [go_sem, ↓reduceIte, reduceCtorEq, pappend, plen]; refine hK _ _ ?_; clear hK K
  (refine PW.ret ⟨_, rfl, ?_⟩; first | refine .inl ⟨?_, rfl⟩ | refine Fin.base (.id' ?_ (.bool _)) | refine Fin.base (.id' ?_ (.int _ _)))
  first | exact congrArg _ cl | (simp [slot, Nat.beq]; unfold cl21; omega)

/-- An array that is filled, and is filling at n. -/
def fim (f : Nat → Int) (n : Nat) (v : Int) : List Int := rgI 64 fun j => if j < n then f j else if j = n then v else 0
theorem fim_len (f : Nat → Int) (n : Nat) (v : Int) : (fim f n v).length = 64 := rgI_len _ _
theorem fim_0 (f : Nat → Int) (n : Nat) : fim f n 0 = fil f n := rgI_ext fun j hj => by
  by_cases h : j < n
  · rw [if_pos h, if_pos h]
  · rw [if_neg h, if_neg h]; split <;> rfl
theorem fim_1 (f : Nat → Int) (n : Nat) : fim f n (f n) = fil f (n + 1) := rgI_ext fun j hj => by
  by_cases h : j < n
  · rw [if_pos h, if_pos (by omega)]
  · by_cases h2 : j = n
    · rw [if_neg h, if_pos h2, if_pos (by omega), h2]
    · rw [if_neg h, if_neg h2, if_neg (by omega)]
theorem fim_at (f : Nat → Int) {n : Nat} (v : Int) (h : n < 64) : intAt (fim f n v) n = v := by rw [fim, rgI_at _ h, if_neg (by omega), if_pos rfl]
theorem fim_set (f : Nat → Int) (n : Nat) (v w : Int) : (fim f n v).set n w = fim f n w := by
  rw [fim, rgI_set]
  refine rgI_ext fun j hj => ?_
  by_cases h1 : j = n
  · rw [if_pos h1, if_neg (by omega), if_pos h1]
  · rw [if_neg h1, if_neg h1, if_neg h1]

end Go.Proofs.YtahomnplappbpaaGreatDoor.Sc

namespace Go.Proofs.YtahomnplappbpaaGreatDoor.Sc
set_option linter.all false
set_option linter.unusedVariables false
set_option linter.unusedSimpArgs false
open Pm Ty Go.RowKit

theorem fil_setv (f : Nat → Int) (n : Nat) (v : Int) : (fil f n).set n v = fim f n v := by rw [← fim_0, fim_set]
theorem nst_eq (c : Int) : nst c = (273681612800 + c) / 547363225600 := by unfold nst; omega

set_option maxHeartbeats 4000000 in
set_option maxRecDepth 100000 in
theorem inverse_ref (y : List Int) (hl : y.length = 64) (H : Heap) : CallOk Tryz.prog 40 [.agg (is y)] H (.agg (is (inv y))) H := by
  have hinv : inv y = fil (colF y) 64 := (fil_64 _).symm
  have hall := is_cell y
  have hz := fil_0 (rowF y)
  have hz2 := fil_0 (colF y)
  refine CallOk.body (F0 := [(0, .agg (is y))]) Tryz.func40 rfl Tryz.ntmps40 Tryz.results40 rfl (by kernel_rfl) rfl ?_
  (repeat refine PW.seq ?_); refine PW.rg rfl fun K hK => ?_; simp (disch := omega) only [go_sem, ↓reduceIte, reduceCtorEq, pappend, plen, hall]; refine hK _ _ ?_; clear hK K
  (repeat refine PW.seq ?_); refine PW.rg rfl fun K hK => ?_; simp (disch := omega) only [go_sem, ↓reduceIte, reduceCtorEq, pappend, plen]; refine hK _ _ ?_; clear hK K
  (repeat refine PW.seq ?_); refine PW.rg rfl fun K hK => ?_; simp (disch := omega) only [go_sem, ↓reduceIte, reduceCtorEq, pappend, plen]; refine hK _ _ ?_; clear hK K
  (repeat refine PW.seq ?_); refine PW.block (PW.loop ?_)
  suffices h1 : ∀ i : Nat, i ≤ 8 → PL Tryz.prog _ _ [(1, .ptr H.length 0 0), (2, .ptr (H.length + 1) 0 0), (3, .ptr (H.length + 2) 0 0), (4, .ptr (H.length + 3) 0 0), (5, .int .i64 (i : Int))] (H ++ [⟨47, 0, is y⟩, ⟨47, 0, is zi⟩, ⟨47, 0, is (fil (rowF y) (8 * i))⟩, ⟨47, 0, is zi⟩]) _ by
    exact PL.at [1, 2, 3, 4, 5] (h1 0 (by omega)) rfl (by rw [Nat.mul_zero, hz]; rfl)
  refine cnt 8 (fun i hi ih => ?_) ?_
  · refine PL.round ?_; (repeat refine PW.seq ?_); refine PW.rg rfl fun K hK => ?_; simp (disch := omega) only [go_sem, ↓reduceIte, reduceCtorEq, pappend, plen]; refine hK _ _ ?_; clear hK K; (repeat refine PW.seq ?_); refine PW.cond (t := _) rfl (fun h => ?_) (fun h => ?_)
    rotate_left
    · cases h
    refine PW.skip ?_; (repeat refine PW.seq ?_); refine PW.block ?_
    (repeat refine PW.seq ?_); refine PW.rg rfl fun K hK => ?_; simp (disch := omega) only [go_sem, ↓reduceIte, reduceCtorEq, pappend, plen]; refine hK _ _ ?_; clear hK K
    (repeat refine PW.seq ?_); refine PW.block (PW.loop ?_)
    suffices h2 : ∀ l : Nat, l ≤ 8 → PL Tryz.prog _ _ [(1, .ptr H.length 0 0), (2, .ptr (H.length + 1) 0 0), (3, .ptr (H.length + 2) 0 0), (4, .ptr (H.length + 3) 0 0), (5, .int .i64 (i : Int)), (6, .int .i64 (l : Int))] (H ++ [⟨47, 0, is y⟩, ⟨47, 0, is zi⟩, ⟨47, 0, is (fil (rowF y) (8 * i + l))⟩, ⟨47, 0, is zi⟩]) _ by
      exact PL.at [1, 2, 3, 4, 5, 6] (h2 0 (by omega)) rfl rfl
    refine cnt 8 (fun l hlt ih => ?_) ?_
    · refine PL.round ?_; (repeat refine PW.seq ?_); refine PW.rg rfl fun K hK => ?_; simp (disch := omega) only [go_sem, ↓reduceIte, reduceCtorEq, pappend, plen]; refine hK _ _ ?_; clear hK K; (repeat refine PW.seq ?_); refine PW.cond (t := _) rfl (fun h => ?_) (fun h => ?_)
      rotate_left
      · cases h
      refine PW.skip ?_; (repeat refine PW.seq ?_); refine PW.block ?_
      (repeat refine PW.seq ?_); refine PW.rg rfl fun K hK => ?_; simp (disch := omega) only [go_sem, ↓reduceIte, reduceCtorEq, pappend, plen]; refine hK _ _ ?_; clear hK K
      (repeat refine PW.seq ?_); refine PW.block (PW.loop ?_)
      suffices h3 : ∀ j : Nat, j ≤ 8 → PL Tryz.prog _ _ [(1, .ptr H.length 0 0), (2, .ptr (H.length + 1) 0 0), (3, .ptr (H.length + 2) 0 0), (4, .ptr (H.length + 3) 0 0), (5, .int .i64 (i : Int)), (6, .int .i64 (l : Int)), (7, .int .i64 (j : Int))] (H ++ [⟨47, 0, is y⟩, ⟨47, 0, is zi⟩, ⟨47, 0, is (fim (rowF y) (8 * i + l) (sumN (rtm y i l) j))⟩, ⟨47, 0, is zi⟩]) _ by
        exact PL.at [1, 2, 3, 4, 5, 6, 7] (h3 0 (by omega)) rfl (by rw [show sumN (rtm y i l) 0 = 0 from rfl, fim_0])
      refine cnt 8 (fun j hj ih => ?_) ?_
      · refine PL.round ?_; (repeat refine PW.seq ?_); refine PW.rg rfl fun K hK => ?_; simp (disch := omega) only [go_sem, ↓reduceIte, reduceCtorEq, pappend, plen]; refine hK _ _ ?_; clear hK K; (repeat refine PW.seq ?_); refine PW.cond (t := _) rfl (fun h => ?_) (fun h => ?_)
        rotate_left
        · cases h
        have b1 := rtm_bd y i l j
        rw [rtm, tS] at b1
        have b0 := tS_bd j l
        rw [tS] at b0
        obtain ⟨m1, m2, m3, m4⟩ := ms_of hj
        have bm := ms_bd j
        have b2 := sumN_le (rtm_bd y i l) (show j ≤ 8 by omega)
        have e1 : (8 : Int) * (i : Int) + (j : Int) = ((8 * i + j : Nat) : Int) := by omega
        have e2 : (8 : Int) * (i : Int) + (l : Int) = ((8 * i + l : Nat) : Int) := by omega
        have f1 := fun v => fim_len (rowF y) (8 * i + l) v
        have f2 := fun v => fim_at (rowF y) v (show 8 * i + l < 64 by omega)
        have f3 := fun v w => fim_set (rowF y) (8 * i + l) v w
        have f7 := f1 (sumN (rtm y i l) j)
        have ba := fun K => basis_ref j l K hj hlt
        have no := fun K => norm_ref j K hj
        have cl := fun K => clamp_ref (intAt y (8 * i + j)) K
        refine PW.skip ?_; (repeat refine PW.seq ?_); refine PW.block ?_
        (repeat refine PW.seq ?_); refine PW.drawi [H.length + 2] [(3, [0]), (28, [0]), (46, [0])] [] [32, 34, 43] mix (by kernel_rfl) (by simp <;> omega) fun K hK => ?_
        simp (disch := omega) only [go_sem, ↓reduceIte, reduceCtorEq, pappend, plen, arith, is_get, is_len, hl, f1, f2, e1, e2]
        refine VCj.read (fun _ _ => ba _) rfl ?_
        simp (disch := omega) only [go_sem, ↓reduceIte, reduceCtorEq, pappend, plen, arith, is_get, is_len, hl, f1, f2, e1, e2, m1, m2]
        refine VCj.read (fun _ _ => no _) rfl ?_
        simp (disch := omega) only [go_sem, ↓reduceIte, reduceCtorEq, pappend, plen, arith, is_get, is_len, hl, f1, f2, e1, e2, m1, m2]
        refine VCj.read (fun _ _ => cl _) rfl ?_
        simp (disch := omega) only [go_sem, ↓reduceIte, reduceCtorEq, pappend, plen, arith, is_get, is_len, hl, f1, f2, e1, e2, m1, m2, is_set, f3]
        refine hK _ _ ?_; clear hK K
        (repeat refine PW.seq ?_); refine PW.rg rfl fun K hK => ?_; simp (disch := omega) only [go_sem, ↓reduceIte, reduceCtorEq, pappend, plen]; refine hK _ _ ?_; clear hK K
        exact PL.at [1, 2, 3, 4, 5, 6, 7] ih rfl rfl
      · refine PL.round ?_; (repeat refine PW.seq ?_); refine PW.rg rfl fun K hK => ?_; simp (disch := omega) only [go_sem, ↓reduceIte, reduceCtorEq, pappend, plen]; refine hK _ _ ?_; clear hK K; (repeat refine PW.seq ?_); refine PW.cond (t := _) rfl (fun h => ?_) (fun h => ?_)
        · cases h
        refine PW.exit ?_
        have f2 := fim_1 (rowF y) (8 * i + l)
        rw [rowF_at y hlt, rowI] at f2
        rw [f2]
        (repeat refine PW.seq ?_); refine PW.rg rfl fun K hK => ?_; simp (disch := omega) only [go_sem, ↓reduceIte, reduceCtorEq, pappend, plen]; refine hK _ _ ?_; clear hK K
        exact PL.at [1, 2, 3, 4, 5, 6] ih rfl rfl
    · refine PL.round ?_; (repeat refine PW.seq ?_); refine PW.rg rfl fun K hK => ?_; simp (disch := omega) only [go_sem, ↓reduceIte, reduceCtorEq, pappend, plen]; refine hK _ _ ?_; clear hK K; (repeat refine PW.seq ?_); refine PW.cond (t := _) rfl (fun h => ?_) (fun h => ?_)
      · cases h
      refine PW.exit ?_
      (repeat refine PW.seq ?_); refine PW.rg rfl fun K hK => ?_; simp (disch := omega) only [go_sem, ↓reduceIte, reduceCtorEq, pappend, plen]; refine hK _ _ ?_; clear hK K
      exact PL.at [1, 2, 3, 4, 5] ih rfl rfl
  refine PL.round ?_; (repeat refine PW.seq ?_); refine PW.rg rfl fun K hK => ?_; simp (disch := omega) only [go_sem, ↓reduceIte, reduceCtorEq, pappend, plen]; refine hK _ _ ?_; clear hK K; (repeat refine PW.seq ?_); refine PW.cond (t := _) rfl (fun h => ?_) (fun h => ?_)
  · cases h
  refine PW.exit ?_
  (repeat refine PW.seq ?_); refine PW.rg rfl fun K hK => ?_; simp (disch := omega) only [go_sem, ↓reduceIte, reduceCtorEq, pappend, plen]; refine hK _ _ ?_; clear hK K
  (repeat refine PW.seq ?_); refine PW.block (PW.loop ?_)
  have r3 := fil_len (rowF y) 64
  suffices h1 : ∀ k : Nat, k ≤ 8 → PL Tryz.prog _ _ [(2, .ptr (H.length + 1) 0 0), (3, .ptr (H.length + 2) 0 0), (4, .ptr (H.length + 3) 0 0), (8, .int .i64 (k : Int))] (H ++ [⟨47, 0, is y⟩, ⟨47, 0, is zi⟩, ⟨47, 0, is (fil (rowF y) 64)⟩, ⟨47, 0, is (fil (colF y) (8 * k))⟩]) _ by
    exact PL.at [2, 3, 4, 8] (h1 0 (by omega)) rfl (by rw [Nat.mul_zero, hz2])
  refine cnt 8 (fun k hk ih => ?_) ?_
  · refine PL.round ?_; (repeat refine PW.seq ?_); refine PW.rg rfl fun K hK => ?_; simp (disch := omega) only [go_sem, ↓reduceIte, reduceCtorEq, pappend, plen]; refine hK _ _ ?_; clear hK K; (repeat refine PW.seq ?_); refine PW.cond (t := _) rfl (fun h => ?_) (fun h => ?_)
    rotate_left
    · cases h
    refine PW.skip ?_; (repeat refine PW.seq ?_); refine PW.block ?_
    (repeat refine PW.seq ?_); refine PW.rg rfl fun K hK => ?_; simp (disch := omega) only [go_sem, ↓reduceIte, reduceCtorEq, pappend, plen]; refine hK _ _ ?_; clear hK K
    (repeat refine PW.seq ?_); refine PW.block (PW.loop ?_)
    suffices h2 : ∀ l : Nat, l ≤ 8 → PL Tryz.prog _ _ [(2, .ptr (H.length + 1) 0 0), (3, .ptr (H.length + 2) 0 0), (4, .ptr (H.length + 3) 0 0), (8, .int .i64 (k : Int)), (9, .int .i64 (l : Int))] (H ++ [⟨47, 0, is y⟩, ⟨47, 0, is zi⟩, ⟨47, 0, is (fil (rowF y) 64)⟩, ⟨47, 0, is (fil (colF y) (8 * k + l))⟩]) _ by
      exact PL.at [2, 3, 4, 8, 9] (h2 0 (by omega)) rfl rfl
    refine cnt 8 (fun l hlt ih => ?_) ?_
    · refine PL.round ?_; (repeat refine PW.seq ?_); refine PW.rg rfl fun K hK => ?_; simp (disch := omega) only [go_sem, ↓reduceIte, reduceCtorEq, pappend, plen]; refine hK _ _ ?_; clear hK K; (repeat refine PW.seq ?_); refine PW.cond (t := _) rfl (fun h => ?_) (fun h => ?_)
      rotate_left
      · cases h
      refine PW.skip ?_; (repeat refine PW.seq ?_); refine PW.block ?_
      (repeat refine PW.seq ?_); refine PW.rg rfl fun K hK => ?_; simp (disch := omega) only [go_sem, ↓reduceIte, reduceCtorEq, pappend, plen]; refine hK _ _ ?_; clear hK K
      (repeat refine PW.seq ?_); refine PW.rg rfl fun K hK => ?_; simp (disch := omega) only [go_sem, ↓reduceIte, reduceCtorEq, pappend, plen]; refine hK _ _ ?_; clear hK K
      (repeat refine PW.seq ?_); refine PW.block (PW.loop ?_)
      suffices h3 : ∀ i : Nat, i ≤ 8 → PL Tryz.prog _ _ [(2, .ptr (H.length + 1) 0 0), (3, .ptr (H.length + 2) 0 0), (4, .ptr (H.length + 3) 0 0), (8, .int .i64 (k : Int)), (9, .int .i64 (l : Int)), (10, .int .i64 (273681612800 + sumN (ctm y k l) i)), (11, .int .i64 (i : Int))] (H ++ [⟨47, 0, is y⟩, ⟨47, 0, is zi⟩, ⟨47, 0, is (fil (rowF y) 64)⟩, ⟨47, 0, is (fil (colF y) (8 * k + l))⟩]) _ by
        exact PL.at [2, 3, 4, 8, 9, 10, 11] (h3 0 (by omega)) rfl rfl
      refine cnt 8 (fun i hi ih => ?_) ?_
      · refine PL.round ?_; (repeat refine PW.seq ?_); refine PW.rg rfl fun K hK => ?_; simp (disch := omega) only [go_sem, ↓reduceIte, reduceCtorEq, pappend, plen]; refine hK _ _ ?_; clear hK K; (repeat refine PW.seq ?_); refine PW.cond (t := _) rfl (fun h => ?_) (fun h => ?_)
        rotate_left
        · cases h
        have g2 := fil_at (rowF y) (n := 64) (j := 8 * i + l) (by omega) (by omega)
        rw [rowF_at y hlt] at g2
        have b1 := ctm_bd y k l i
        rw [ctm, tS] at b1
        have b0 := tS_bd i k
        rw [tS] at b0
        obtain ⟨m1, m2, m3, m4⟩ := ms_of hi
        have bm := ms_bd i
        have b2 := sumN_le (ctm_bd y k l) (show i ≤ 8 by omega)
        have e1 : (8 : Int) * (i : Int) + (l : Int) = ((8 * i + l : Nat) : Int) := by omega
        have ba := fun K => basis_ref i k K hi hk
        have no := fun K => norm_ref i K hi
        refine PW.skip ?_; (repeat refine PW.seq ?_); refine PW.block ?_
        (repeat refine PW.seq ?_); refine PW.drawi [] [] [] [62, 64] mix (by kernel_rfl) (by simp <;> omega) fun K hK => ?_
        simp (disch := omega) only [go_sem, ↓reduceIte, reduceCtorEq, pappend, plen, arith, is_get, is_len, r3, e1]
        refine VCj.read (fun _ _ => ba _) rfl ?_
        simp (disch := omega) only [go_sem, ↓reduceIte, reduceCtorEq, pappend, plen, arith, is_get, is_len, r3, e1]
        refine VCj.read (fun _ _ => no _) rfl ?_
        simp (disch := omega) only [go_sem, ↓reduceIte, reduceCtorEq, pappend, plen, arith, is_get, is_len, r3, e1, m1, m2, g2]
        refine hK _ _ ?_; clear hK K
        (repeat refine PW.seq ?_); refine PW.rg rfl fun K hK => ?_; simp (disch := omega) only [go_sem, ↓reduceIte, reduceCtorEq, pappend, plen]; refine hK _ _ ?_; clear hK K
        have ih' := ih
        rw [show (273681612800 : Int) + sumN (ctm y k l) (i + 1) = 273681612800 + sumN (ctm y k l) i + bas i k * intAt msL i * rowI y i l from by rw [sumN, ctm, tS]; omega] at ih'
        exact PL.at [2, 3, 4, 8, 9, 10, 11] ih' rfl rfl
      · refine PL.round ?_; (repeat refine PW.seq ?_); refine PW.rg rfl fun K hK => ?_; simp (disch := omega) only [go_sem, ↓reduceIte, reduceCtorEq, pappend, plen]; refine hK _ _ ?_; clear hK K; (repeat refine PW.seq ?_); refine PW.cond (t := _) rfl (fun h => ?_) (fun h => ?_)
        · cases h
        refine PW.exit ?_
        have e1 : (8 : Int) * (k : Int) + (l : Int) = ((8 * k + l : Nat) : Int) := by omega
        have f1 := fil_len (colF y) (8 * k + l)
        have f0 := fun v => fil_setv (colF y) (8 * k + l) v
        have f4 := fun v => fim_len (colF y) (8 * k + l) v
        have f2 := fun v => fim_at (colF y) v (show 8 * k + l < 64 by omega)
        have f3 := fun v w => fim_set (colF y) (8 * k + l) v w
        have f7 := f4 ((273681612800 + sumN (ctm y k l) 8).tdiv 547363225600)
        have f5 := fim_1 (colF y) (8 * k + l)
        rw [colF_at y hlt, nst_eq, colI] at f5
        have b2 := colI_bd y k l
        rw [colI] at b2
        have h1 := tdiv_abs (273681612800 + sumN (ctm y k l) 8) 547363225600
        have h2 := flr (273681612800 + sumN (ctm y k l) 8) 547363225600 (by omega)
        (repeat refine PW.seq ?_); refine PW.rg rfl fun K hK => ?_; simp (disch := omega) only [go_sem, ↓reduceIte, reduceCtorEq, pappend, plen, e1, is_len, f1, is_set, f0, wq64]; refine hK _ _ ?_; clear hK K
        (repeat refine PW.seq ?_); refine PW.rg rfl fun K hK => ?_; simp (disch := omega) only [go_sem, ↓reduceIte, reduceCtorEq, pappend, plen]; refine hK _ _ ?_; clear hK K
        (repeat refine PW.seq ?_); refine PW.cond (t := _) rfl (fun h => ?_) (fun h => ?_)
        · have h3 : (273681612800 + sumN (ctm y k l) 8).tmod 547363225600 < 0 := by simpa using h
          rw [if_pos h3] at h2
          rw [← h2] at f5
          (repeat refine PW.seq ?_); refine PW.rg rfl fun K hK => ?_; simp (disch := omega) only [go_sem, ↓reduceIte, reduceCtorEq, pappend, plen, e1, is_len, is_get, f4, f2, is_set, f3]; refine hK _ _ ?_; clear hK K
          rw [f5]
          (repeat refine PW.seq ?_); refine PW.rg rfl fun K hK => ?_; simp (disch := omega) only [go_sem, ↓reduceIte, reduceCtorEq, pappend, plen]; refine hK _ _ ?_; clear hK K
          exact PL.at [2, 3, 4, 8, 9] ih rfl rfl
        · have h3 : ¬ (273681612800 + sumN (ctm y k l) 8).tmod 547363225600 < 0 := by simpa using h
          rw [if_neg h3] at h2
          rw [← h2] at f5
          refine PW.skip ?_
          rw [f5]
          (repeat refine PW.seq ?_); refine PW.rg rfl fun K hK => ?_; simp (disch := omega) only [go_sem, ↓reduceIte, reduceCtorEq, pappend, plen]; refine hK _ _ ?_; clear hK K
          exact PL.at [2, 3, 4, 8, 9] ih rfl rfl
    · refine PL.round ?_; (repeat refine PW.seq ?_); refine PW.rg rfl fun K hK => ?_; simp (disch := omega) only [go_sem, ↓reduceIte, reduceCtorEq, pappend, plen]; refine hK _ _ ?_; clear hK K; (repeat refine PW.seq ?_); refine PW.cond (t := _) rfl (fun h => ?_) (fun h => ?_)
      · cases h
      refine PW.exit ?_
      (repeat refine PW.seq ?_); refine PW.rg rfl fun K hK => ?_; simp (disch := omega) only [go_sem, ↓reduceIte, reduceCtorEq, pappend, plen]; refine hK _ _ ?_; clear hK K
      exact PL.at [2, 3, 4, 8] ih rfl rfl
  refine PL.round ?_; (repeat refine PW.seq ?_); refine PW.rg rfl fun K hK => ?_; simp (disch := omega) only [go_sem, ↓reduceIte, reduceCtorEq, pappend, plen]; refine hK _ _ ?_; clear hK K; (repeat refine PW.seq ?_); refine PW.cond (t := _) rfl (fun h => ?_) (fun h => ?_)
  · cases h
  refine PW.exit ?_
  have c3 := fil_len (colF y) 64
  have c4 : (is (fil (colF y) 64)).length = 64 := by rw [is_len, c3]
  have c5 := is_cell (fil (colF y) 64)
  have c6 : List.take 64 (is (fil (colF y) 64)) = is (fil (colF y) 64) := List.take_of_length_le (by omega)
  have z3 : (is zi).length = 64 := by rw [is_len, zi_len]
  have z4 : List.drop 64 (is zi) = [] := List.drop_of_length_le (by omega)
  (repeat refine PW.seq ?_); refine PW.rg rfl fun K hK => ?_; simp (disch := omega) only [go_sem, ↓reduceIte, reduceCtorEq, pappend, plen, c4, c5, c6, z3, z4]; refine hK _ _ ?_; clear hK K
  rw [hinv]
  refine PW.ret ⟨.agg (is (fil (colF y) 64)), by simp (disch := omega) only [go_sem, ↓reduceIte, reduceCtorEq, pappend, plen, presults, presult, List.mapM_cons, List.mapM_nil, Option.pure_def, Option.bind_eq_bind, Option.bind_some, Array.toList, c4, c6], ?_⟩
  exact Fin.base (.id (ag_scoped (is_scoped _ _)))

end Go.Proofs.YtahomnplappbpaaGreatDoor.Sc
