/-
  Parts of the proof, put together in one text. No condition.
-/
import Derived.Test.YtahomnplappbpaaGreatDoorW30
namespace Go.Proofs.YtahomnplappbpaaGreatDoor.Sc
set_option linter.all false
set_option linter.unusedVariables false
set_option linter.unusedSimpArgs false
open Pm Ty Go.RowKit

theorem stc_4 (y u v p : List UInt8) (w h : Int) : stc' ⟨w, h, y, u, v⟩ 4 p = ⟨w, h, y, p, v⟩ := rfl
theorem stc_5 (y u v p : List UInt8) (w h : Int) : stc' ⟨w, h, y, u, v⟩ 5 p = ⟨w, h, y, u, p⟩ := rfl
theorem stc_y (y u v p : List UInt8) (w h : Int) {n : Nat} (h4 : n ≠ 4) (h5 : n ≠ 5) : stc' ⟨w, h, y, u, v⟩ n p = ⟨w, h, p, u, v⟩ := by unfold stc'; rw [if_neg h4, if_neg h5]
theorem cmp_y (y u v : List UInt8) (w h : Int) {n : Nat} (h4 : n ≠ 4) (h5 : n ≠ 5) : cmp ⟨w, h, y, u, v⟩ n = y := by unfold cmp; rw [if_neg h4, if_neg h5]
theorem compM_ok (w ht : Int) (r a b c : Nat) (n : Nat) (H : Heap) (hr : r + 2 < H.length) (hn : n < 6) : CallOk Tryz.prog 227 [.agg [.int .i64 w, .int .i64 ht, .msl r 1 0 a 1 true, .msl (r + 1) 1 0 b 1 true, .msl (r + 2) 1 0 c 1 true], .int .i64 (n : Int)] H (if n = 4 then .msl (r + 1) 1 0 b 1 true else if n = 5 then .msl (r + 2) 1 0 c 1 true else .msl r 1 0 a 1 true) H := by
  refine CallOk.body (F0 := [(0, .agg [.int .i64 w, .int .i64 ht, .msl r 1 0 a 1 true, .msl (r + 1) 1 0 b 1 true, .msl (r + 2) 1 0 c 1 true]), (1, .int .i64 (n : Int))]) Tryz.func227 rfl Tryz.ntmps227 Tryz.results227 rfl (by kernel_rfl) rfl ?_
  (repeat refine PW.seq ?_); refine PW.rg rfl fun K hK => ?_; simp (disch := omega) only [go_sem, ↓reduceIte, reduceCtorEq, pappend, plen]; refine hK _ _ ?_; clear hK K
  (repeat refine PW.seq ?_); refine PW.rg rfl fun K hK => ?_; simp (disch := omega) only [go_sem, ↓reduceIte, reduceCtorEq, pappend, plen]; refine hK _ _ ?_; clear hK K
  (repeat refine PW.seq ?_); refine PW.block ?_
  (repeat refine PW.seq ?_); refine PW.rg rfl fun K hK => ?_; simp (disch := omega) only [go_sem, ↓reduceIte, reduceCtorEq, pappend, plen]; refine hK _ _ ?_; clear hK K
  (repeat refine PW.seq ?_); refine PW.cond (t := _) rfl (fun h => ?_) (fun h => ?_)
  · have e : n = 4 := by have := of_decide_eq_true h; omega
    subst e
    (repeat refine PW.seq ?_); refine PW.rg rfl fun K hK => ?_; simp (disch := omega) only [go_sem, ↓reduceIte, reduceCtorEq, pappend, plen]; refine hK _ _ ?_; clear hK K
    exact PW.ret ⟨_, rfl, Fin.base (.id (.msl (by omega)))⟩
  have e4 : n ≠ 4 := by have := of_decide_eq_false h; omega
  rw [if_neg e4]
  (repeat refine PW.seq ?_); refine PW.rg rfl fun K hK => ?_; simp (disch := omega) only [go_sem, ↓reduceIte, reduceCtorEq, pappend, plen]; refine hK _ _ ?_; clear hK K
  (repeat refine PW.seq ?_); refine PW.cond (t := _) rfl (fun h => ?_) (fun h => ?_)
  · have e : n = 5 := by have := of_decide_eq_true h; omega
    subst e
    (repeat refine PW.seq ?_); refine PW.rg rfl fun K hK => ?_; simp (disch := omega) only [go_sem, ↓reduceIte, reduceCtorEq, pappend, plen]; refine hK _ _ ?_; clear hK K
    exact PW.ret ⟨_, rfl, Fin.base (.id (.msl (by omega)))⟩
  have e5 : n ≠ 5 := by have := of_decide_eq_false h; omega
  rw [if_neg e5]
  refine PW.skip ?_
  (repeat refine PW.seq ?_); refine PW.rg rfl fun K hK => ?_; simp (disch := omega) only [go_sem, ↓reduceIte, reduceCtorEq, pappend, plen]; refine hK _ _ ?_; clear hK K
  exact PW.ret ⟨_, rfl, Fin.base (.id (.msl (by omega)))⟩

theorem fr_sc (n : Nat) (a b : Int) (p q r : List UInt8) (i j k : Nat) (e f g : Bool) : ∀ x ∈ [PV.int .i64 a, PV.int .i64 b, PV.slice (bs p) i e, PV.slice (bs q) j f, PV.slice (bs r) k g], Scoped n x := fun x hx => by
  simp only [List.mem_cons, List.not_mem_nil, or_false] at hx
  rcases hx with rfl | rfl | rfl | rfl | rfl
  · exact .int _ _
  · exact .int _ _
  · exact sl_scoped (bs_scoped _ _)
  · exact sl_scoped (bs_scoped _ _)
  · exact sl_scoped (bs_scoped _ _)
theorem rg_fl (x : List Int) : flB 64 (fun k => clp (intAt x k)) 64 = rgB 64 fun k => clp (intAt x k) := flB_end _ _
set_option maxHeartbeats 3200000 in
set_option maxRecDepth 100000 in
theorem setBlock_ok (f : Fm) (hf : F16 f) (n : Nat) (hn : n < 6) (fd : Bool) (x : List Int) (hx : x.length = 64) (H : Heap) :
    CallOk Tryz.prog 160 [.agg (fmc f), .int .i64 0, .int .i64 0, .int .i64 (n : Int), .bool fd, .agg (is x)] H (.tup [.agg (fmc (stc' f n (setb (cmp f n) n fd x))), .int .i64 0]) H := by
  have hm := fun K => has_ok f 0 0 K
  rw [hf.has] at hm
  have po := fun K => place_ok n fd hn K
  have cl := hf.cmp hn
  have bfb : bfr n fd ≤ 150 ∧ bst n fd ≤ 150 := by
    rcases or6 hn with rfl | rfl | rfl | rfl | rfl | rfl <;> cases fd <;> decide
  have bb : bln n ≤ 256 := by unfold bln; split <;> omega
  have hfit : ∀ k, k < 8 → bfr n fd + k * bst n fd + 8 ≤ (cmp f n).length := fun k hk => by rw [cl]; exact bfit hn k hk
  have zl : (rgB 64 fun k => clp (intAt x k)).length = 64 := rgB_len _ _
  have pa := fun r K hr => paste_ok (cmp f n) (rgB 64 fun k => clp (intAt x k)) r 1 (bfr n fd) (bst n fd) 8 8 true false K hr (by omega) (by omega) (by omega) zl hfit (by omega)
  have hsl := setb_len (fd := fd) (x := x) hn cl
  have hset : pst (cmp f n) (bfr n fd) (bst n fd) 8 (rgB 64 fun k => clp (intAt x k)) 8 = setb (cmp f n) n fd x := rfl
  have hz := flB_0 64 (fun k => clp (intAt x k))
  obtain ⟨w, ht, y, u, v⟩ := f
  obtain ⟨hw, hh, l1, l2, l3⟩ := hf
  simp only at hw hh l1 l2 l3
  subst hw hh
  rw [hset] at pa
  have hall := is_cell x
  have tkx : List.take 64 (is x) = is x := List.take_of_length_le (by rw [is_len]; omega)
  have fc := fclone_ok 16 16 y u v (H ++ [⟨53, 0, fmc ⟨16, 16, y, u, v⟩⟩, ⟨47, 0, is x⟩, ⟨53, 0, [.int .i64 0, .int .i64 0, .slice [] 0 true, .slice [] 0 true, .slice [] 0 true]⟩]) (by omega) (by omega) (by omega)
  simp only [fmc, plc, l1, l2, l3, zl, hl3, List.append_assoc, List.cons_append, List.nil_append, Nat.add_assoc, Nat.reduceAdd] at hm fc pa ⊢
  unfold areaC at po
  obtain ⟨Z, hZ⟩ : ∃ Z, rgB 64 (fun k => clp (intAt x k)) = Z := ⟨_, rfl⟩
  rw [hZ] at pa zl
  have hZ2 : flB 64 (fun k => clp (intAt x k)) 64 = Z := (rg_fl x).trans hZ
  refine CallOk.body (F0 := [(0, .agg [.int .i64 16, .int .i64 16, .slice (bs y) 256 false, .slice (bs u) 64 false, .slice (bs v) 64 false]), (1, .int .i64 0), (2, .int .i64 0), (3, .int .i64 (n : Int)), (4, .bool fd), (5, .agg (is x))]) Tryz.func160 rfl Tryz.ntmps160 Tryz.results160 rfl (by kernel_rfl) rfl ?_
  (repeat refine PW.seq ?_); refine PW.rg rfl fun K hK => ?_; simp (disch := omega) only [go_sem, ↓reduceIte, reduceCtorEq, pappend, plen, hall]; refine hK _ _ ?_; clear hK K
  (repeat refine PW.seq ?_)
  refine PW.rgv (P := Tryz.prog) [1, 2, 3, 4, 6, 11, 12, 13] 30 (.bool false) ?_ ?_ ?_
  · rfl
  · simp (disch := omega) only [go_sem, ↓reduceIte, reduceCtorEq, pappend, plen]; (repeat' (first | ((first | refine VO_cond ?_ ?_ | refine VOd_cond ?_ ?_ | refine VOg_cond ?_ ?_ | refine VOh_cond ?_ ?_ | refine VOi_cond ?_ ?_ | refine And.intro ?_ ?_) <;> intro h <;> (try simp only [Bool.not_eq_true', Bool.not_eq_false', decide_eq_true_eq, decide_eq_false_iff_not] at h) <;> simp (disch := omega) only [go_sem, ↓reduceIte, reduceCtorEq, pappend, plen, h]) | ((first | refine VCx.call (hm _) rfl ?_ | refine VCy.call (hm _) rfl ?_ | refine VCz.call (fun _ => hm _) rfl ?_ | refine VCk.call (fun _ _ => hm _) rfl ?_ | refine VCj.now (hm _) rfl ?_); simp (disch := omega) only [go_sem, ↓reduceIte, reduceCtorEq, pappend, plen])))
    all_goals (simp_all [slot, Nat.beq] <;> first | rfl | omega | (rw [Bool.eq_iff_iff]; simp; done) | (rw [Bool.eq_iff_iff]; simp; omega))
  (repeat refine PW.seq ?_); refine PW.cond (t := _) rfl (fun h => ?_) (fun h => ?_)
  · cases h
  refine PW.skip ?_
  (repeat refine PW.seq ?_); refine PW.rg rfl fun K hK => ?_; simp (disch := omega) only [go_sem, ↓reduceIte, reduceCtorEq, pappend, plen]; refine hK _ _ ?_; clear hK K
  (repeat refine PW.seq ?_); refine PW.rg rfl fun K hK => ?_; simp (disch := omega) only [go_sem, ↓reduceIte, reduceCtorEq, pappend, plen, is_len, tkx]; refine hK _ _ ?_; clear hK K
  (repeat refine PW.seq ?_); refine PW.block (PW.loop ?_)
  suffices h1 : ∀ k : Nat, k ≤ 64 → PL Tryz.prog _ _ [(1, .int .i64 0), (2, .int .i64 0), (3, .int .i64 (n : Int)), (4, .bool fd), (6, .ptr H.length 0 0), (12, .ptr (H.length + 2) 0 0), (14, .msl (H.length + 3) 0 0 64 1 true), (33, .agg (is x)), (34, .int .i64 (k : Int))] (H ++ [⟨53, 0, [.int .i64 16, .int .i64 16, .slice (bs y) 256 false, .slice (bs u) 64 false, .slice (bs v) 64 false]⟩, ⟨47, 0, is x⟩, ⟨53, 0, [.int .i64 0, .int .i64 0, .slice [] 0 true, .slice [] 0 true, .slice [] 0 true]⟩, ⟨5, 0, bs (flB 64 (fun k => clp (intAt x k)) k)⟩]) _ by
    exact PL.at [1, 2, 3, 4, 6, 12, 14, 33, 34] (h1 0 (by omega)) rfl (by rw [hz]; rfl)
  refine cnt 64 (fun k hk ih => ?_) ?_
  · refine PL.round ?_; (repeat refine PW.seq ?_); refine PW.rg rfl fun K hK => ?_; simp (disch := omega) only [go_sem, ↓reduceIte, reduceCtorEq, pappend, plen]; refine hK _ _ ?_; clear hK K; (repeat refine PW.seq ?_); refine PW.cond (t := _) rfl (fun h => ?_) (fun h => ?_)
    rotate_left
    · cases h
    have b1 := clp_bd (intAt x k)
    have cp : (if 255 < (if intAt x k < 0 then 0 else intAt x k) then 255 else (if intAt x k < 0 then 0 else intAt x k)) = clp (intAt x k) := by unfold clp; omega
    have f1 := flB_set (N := 64) (f := fun k => clp (intAt x k)) (n := k) b1
    have f2 := flB_len 64 (fun k => clp (intAt x k)) k
    refine PW.skip ?_; (repeat refine PW.seq ?_); refine PW.block ?_
    (repeat refine PW.seq ?_); refine PW.rg rfl fun K hK => ?_; simp (disch := omega) only [go_sem, ↓reduceIte, reduceCtorEq, pappend, plen, is_get, is_len, hx]; refine hK _ _ ?_; clear hK K
    (repeat refine PW.seq ?_); refine PW.rg rfl fun K hK => ?_; simp (disch := omega) only [go_sem, ↓reduceIte, reduceCtorEq, pappend, plen, length_bs, f2, cp, f1]; refine hK _ _ ?_; clear hK K
    (repeat refine PW.seq ?_); refine PW.rg rfl fun K hK => ?_; simp (disch := omega) only [go_sem, ↓reduceIte, reduceCtorEq, pappend, plen]; refine hK _ _ ?_; clear hK K
    exact PL.at [1, 2, 3, 4, 6, 12, 14, 33, 34] ih rfl rfl
  refine PL.round ?_; (repeat refine PW.seq ?_); refine PW.rg rfl fun K hK => ?_; simp (disch := omega) only [go_sem, ↓reduceIte, reduceCtorEq, pappend, plen]; refine hK _ _ ?_; clear hK K; (repeat refine PW.seq ?_); refine PW.cond (t := _) rfl (fun h => ?_) (fun h => ?_)
  · cases h
  refine PW.exit ?_
  rw [hZ2]
  refine PW.view (Vs.trim (F1 := [(1, .int .i64 0), (2, .int .i64 0), (3, .int .i64 (n : Int)), (4, .bool fd), (6, .ptr H.length 0 0), (12, .ptr (H.length + 2) 0 0), (14, .slice (bs Z) 64 false)]) (H1 := H ++ [⟨53, 0, [.int .i64 16, .int .i64 16, .slice (bs y) 256 false, .slice (bs u) 64 false, .slice (bs v) 64 false]⟩, ⟨47, 0, is x⟩, ⟨53, 0, [.int .i64 0, .int .i64 0, .slice [] 0 true, .slice [] 0 true, .slice [] 0 true]⟩]) (hscW ?_) (by simp) (List.append_assoc _ [_, _, _] [_]).symm ?_) ?_
  · intro b hb z hz
    simp only [List.mem_cons, List.not_mem_nil, or_false] at hb
    rcases hb with rfl | rfl | rfl
    · exact fr_sc _ 16 16 y u v _ _ _ _ _ _ z hz
    · exact is_scoped _ _ z hz
    · exact fr_sc _ 0 0 [] [] [] _ _ _ _ _ _ z hz
  · rw [hl3]
    exact ⟨.id (.int _ _), .id (.int _ _), .id (.int _ _), .id (.bool _), .id (.ptr (by omega)), .id (.ptr (by omega)), Fz.mslC (e := 5) (xs := bs Z) (by omega) (apn _ _ 3) (by rw [length_bs, zl]) (FzC.refl (bs_scoped _ _)), trivial⟩
  refine PW.view (Vs.place 5) ?_
  refine PW.view (Vs.place 5) ?_
  refine PW.view (Vs.place 5) ?_
  (repeat refine PW.seq ?_); refine PW.rg rfl fun K hK => ?_; simp (disch := omega) only [go_sem, ↓reduceIte, reduceCtorEq, pappend, plen]; refine VCx.call (fc) rfl ?_; simp (disch := omega) only [go_sem, ↓reduceIte, reduceCtorEq, pappend, plen]; refine hK _ _ ?_; clear hK K
  have co := fun L hL => compM_ok 16 16 (H.length + 3) 256 64 64 n L hL hn
  simp only [Nat.add_assoc, Nat.reduceAdd] at co
  by_cases h4 : n = 4
  · subst h4
    have cu : cmp ⟨16, 16, y, u, v⟩ 4 = u := rfl
    rw [cu] at hsl pa cl
    rw [cu, stc_4]
    simp only [if_pos, hsl, l1, l2, l3] at co pa ⊢
    (repeat refine PW.seq ?_); refine PW.drawi [H.length + 4] [(50, [0])] [] [50, 57] mix (by kernel_rfl) (by simp <;> omega) fun K hK => ?_
    simp (disch := omega) only [go_sem, ↓reduceIte, reduceCtorEq, pappend, plen]
    refine VCj.read (fun L hL => co L (by have := hL.len; simp at this; omega)) rfl ?_
    simp (disch := omega) only [go_sem, ↓reduceIte, reduceCtorEq, pappend, plen]
    refine VCj.read (fun _ _ => po _) rfl ?_
    simp (disch := omega) only [go_sem, ↓reduceIte, reduceCtorEq, pappend, plen]
    refine VCj.wr1 (id := H.length + 4) (k := cpB u) (b := cpB (setb u 4 fd x)) (apn _ _ 4) (fun L hL _ => pa _ L hL) (by simp (disch := omega) only [go_sem, ↓reduceIte, reduceCtorEq, pappend, plen]) (.inl rfl) rfl ?_
    simp (disch := omega) only [go_sem, ↓reduceIte, reduceCtorEq, pappend, plen]
    refine hK _ _ ?_; clear hK K
    (repeat refine PW.seq ?_); refine PW.rg rfl fun K hK => ?_; simp (disch := omega) only [go_sem, ↓reduceIte, reduceCtorEq, pappend, plen]; refine hK _ _ ?_; clear hK K
    refine PW.ret ⟨.tup [.agg [.int .i64 16, .int .i64 16, .msl (H.length + 3) 1 0 256 1 true, .msl (H.length + 4) 1 0 64 1 true, .msl (H.length + 5) 1 0 64 1 true], .int .i64 0], by simp (disch := omega) only [go_sem, ↓reduceIte, reduceCtorEq, pappend, plen, presults, presult, List.mapM_cons, List.mapM_nil, Option.pure_def, Option.bind_eq_bind, Option.bind_some, Array.toList], ?_⟩
    refine Fin.base (Fz.tupC ⟨Fz.aggC ⟨.id (.int _ _), .id (.int _ _), Fz.mslC (e := 5) (xs := bs y) (by omega) (apn _ _ 3) (by rw [length_bs]; omega) (FzC.refl (bs_scoped _ _)), Fz.mslC (e := 5) (xs := bs (setb u 4 fd x)) (by omega) (apn _ _ 4) (by rw [length_bs]; omega) (FzC.refl (bs_scoped _ _)), Fz.mslC (e := 5) (xs := bs v) (by omega) (apn _ _ 5) (by rw [length_bs]; omega) (FzC.refl (bs_scoped _ _)), trivial⟩, .id (.int _ _), trivial⟩)
  by_cases h5 : n = 5
  · subst h5
    have cu : cmp ⟨16, 16, y, u, v⟩ 5 = v := rfl
    rw [cu] at hsl pa cl
    rw [cu, stc_5]
    simp only [if_neg h4, if_pos, hsl, l1, l2, l3] at co pa ⊢
    (repeat refine PW.seq ?_); refine PW.drawi [H.length + 5] [(50, [0])] [] [50, 57] mix (by kernel_rfl) (by simp <;> omega) fun K hK => ?_
    simp (disch := omega) only [go_sem, ↓reduceIte, reduceCtorEq, pappend, plen]
    refine VCj.read (fun L hL => co L (by have := hL.len; simp at this; omega)) rfl ?_
    simp (disch := omega) only [go_sem, ↓reduceIte, reduceCtorEq, pappend, plen]
    refine VCj.read (fun _ _ => po _) rfl ?_
    simp (disch := omega) only [go_sem, ↓reduceIte, reduceCtorEq, pappend, plen]
    refine VCj.wr1 (id := H.length + 5) (k := cpB v) (b := cpB (setb v 5 fd x)) (apn _ _ 5) (fun L hL _ => pa _ L hL) (by simp (disch := omega) only [go_sem, ↓reduceIte, reduceCtorEq, pappend, plen]) (.inl rfl) rfl ?_
    simp (disch := omega) only [go_sem, ↓reduceIte, reduceCtorEq, pappend, plen]
    refine hK _ _ ?_; clear hK K
    (repeat refine PW.seq ?_); refine PW.rg rfl fun K hK => ?_; simp (disch := omega) only [go_sem, ↓reduceIte, reduceCtorEq, pappend, plen]; refine hK _ _ ?_; clear hK K
    refine PW.ret ⟨.tup [.agg [.int .i64 16, .int .i64 16, .msl (H.length + 3) 1 0 256 1 true, .msl (H.length + 4) 1 0 64 1 true, .msl (H.length + 5) 1 0 64 1 true], .int .i64 0], by simp (disch := omega) only [go_sem, ↓reduceIte, reduceCtorEq, pappend, plen, presults, presult, List.mapM_cons, List.mapM_nil, Option.pure_def, Option.bind_eq_bind, Option.bind_some, Array.toList], ?_⟩
    refine Fin.base (Fz.tupC ⟨Fz.aggC ⟨.id (.int _ _), .id (.int _ _), Fz.mslC (e := 5) (xs := bs y) (by omega) (apn _ _ 3) (by rw [length_bs]; omega) (FzC.refl (bs_scoped _ _)), Fz.mslC (e := 5) (xs := bs u) (by omega) (apn _ _ 4) (by rw [length_bs]; omega) (FzC.refl (bs_scoped _ _)), Fz.mslC (e := 5) (xs := bs (setb v 5 fd x)) (by omega) (apn _ _ 5) (by rw [length_bs]; omega) (FzC.refl (bs_scoped _ _)), trivial⟩, .id (.int _ _), trivial⟩)
  have cu : cmp ⟨16, 16, y, u, v⟩ n = y := cmp_y _ _ _ _ _ h4 h5
  rw [cu] at hsl pa cl
  rw [cu, stc_y _ _ _ _ _ _ h4 h5]
  simp only [if_neg h4, if_neg h5, hsl, l1, l2, l3] at co pa ⊢
  (repeat refine PW.seq ?_); refine PW.drawi [H.length + 3] [(50, [0])] [] [50, 57] mix (by kernel_rfl) (by simp <;> omega) fun K hK => ?_
  simp (disch := omega) only [go_sem, ↓reduceIte, reduceCtorEq, pappend, plen]
  refine VCj.read (fun L hL => co L (by have := hL.len; simp at this; omega)) rfl ?_
  simp (disch := omega) only [go_sem, ↓reduceIte, reduceCtorEq, pappend, plen]
  refine VCj.read (fun _ _ => po _) rfl ?_
  simp (disch := omega) only [go_sem, ↓reduceIte, reduceCtorEq, pappend, plen]
  refine VCj.wr1 (id := H.length + 3) (k := cpB y) (b := cpB (setb y n fd x)) (apn _ _ 3) (fun L hL _ => pa _ L hL) (by simp (disch := omega) only [go_sem, ↓reduceIte, reduceCtorEq, pappend, plen]) (.inl rfl) rfl ?_
  simp (disch := omega) only [go_sem, ↓reduceIte, reduceCtorEq, pappend, plen]
  refine hK _ _ ?_; clear hK K
  (repeat refine PW.seq ?_); refine PW.rg rfl fun K hK => ?_; simp (disch := omega) only [go_sem, ↓reduceIte, reduceCtorEq, pappend, plen]; refine hK _ _ ?_; clear hK K
  refine PW.ret ⟨.tup [.agg [.int .i64 16, .int .i64 16, .msl (H.length + 3) 1 0 256 1 true, .msl (H.length + 4) 1 0 64 1 true, .msl (H.length + 5) 1 0 64 1 true], .int .i64 0], by simp (disch := omega) only [go_sem, ↓reduceIte, reduceCtorEq, pappend, plen, presults, presult, List.mapM_cons, List.mapM_nil, Option.pure_def, Option.bind_eq_bind, Option.bind_some, Array.toList], ?_⟩
  refine Fin.base (Fz.tupC ⟨Fz.aggC ⟨.id (.int _ _), .id (.int _ _), Fz.mslC (e := 5) (xs := bs (setb y n fd x)) (by omega) (apn _ _ 3) (by rw [length_bs]; omega) (FzC.refl (bs_scoped _ _)), Fz.mslC (e := 5) (xs := bs u) (by omega) (apn _ _ 4) (by rw [length_bs]; omega) (FzC.refl (bs_scoped _ _)), Fz.mslC (e := 5) (xs := bs v) (by omega) (apn _ _ 5) (by rw [length_bs]; omega) (FzC.refl (bs_scoped _ _)), trivial⟩, .id (.int _ _), trivial⟩)

end Go.Proofs.YtahomnplappbpaaGreatDoor.Sc
