/-
  Parts of the proof, put together in one text. No condition.
-/
import Derived.Test.YtahomnplappbpaaGreatDoorW19
namespace Go.Proofs.YtahomnplappbpaaGreatDoor.Sc
set_option linter.all false
set_option linter.unusedVariables false
set_option linter.unusedSimpArgs false
open Pm Ty Go.RowKit

def zl64 : List Int := List.replicate 64 0
def zl384 : List Int := List.replicate 384 0
def zlv (lv : List Int) : Bool := zbk lv 0 && (zbk lv 1 && (zbk lv 2 && (zbk lv 3 && (zbk lv 4 && (zbk lv 5 && true)))))

theorem eqB_def (xs ys : List PV) : peqT Tryz.prog 10 47 (.agg xs) (.agg ys) = if szT Tryz.prog 3 = some 1 ∧ xs.length = 64 ∧ ys.length = 64 then peqI (.int .i64) xs ys else none := by kernel_rfl
theorem sz_int : szT Tryz.prog 3 = some 1 := by kernel_rfl
theorem eqBl (bl : List Int) (h : bl.length = 64) : peqT Tryz.prog 10 47 (.agg (is bl)) (.agg (is zl64)) = some (bl == List.replicate 64 0) := by
  rw [eqB_def, if_pos ⟨sz_int, by rw [is_len]; exact h, by rw [is_len]; rfl⟩]
  exact peqI_is .i64 bl (List.replicate 64 0) (by rw [h]; rfl)
theorem rdB_def (xs : List PV) (off : Nat) : rd Tryz.prog 47 xs off = if off + 64 ≤ xs.length then some (.agg ((xs.drop off).take 64)) else none := by kernel_rfl
theorem rdBl (lv : List Int) (n : Nat) (hl : lv.length = 384) (hn : n < 6) : rd Tryz.prog 47 (is lv) (n * 64) = some (.agg (is ((lv.drop (n * 64)).take 64))) := by
  rw [rdB_def, if_pos (by rw [is_len]; omega), is_drop, is_take]
theorem zl_blk (n : Nat) (hn : n < 6) : (zl384.drop (n * 64)).take 64 = zl64 := by
  unfold zl384 zl64
  rw [List.drop_replicate, List.take_replicate]
  congr 1; omega
theorem eqLv_def (xs ys : List PV) : peqT Tryz.prog 11 48 (.agg xs) (.agg ys) = peqA (peqT Tryz.prog 10) Tryz.prog 47 64 xs ys [0, 1, 2, 3, 4, 5] := by kernel_rfl
theorem peqA_step (lv : List Int) (n : Nat) (r : List Nat) (b : Bool) (hl : lv.length = 384) (hn : n < 6) (hr : peqA (peqT Tryz.prog 10) Tryz.prog 47 64 (is lv) (is zl384) r = some b) : peqA (peqT Tryz.prog 10) Tryz.prog 47 64 (is lv) (is zl384) (n :: r) = some (zbk lv n && b) := by
  have h1 := rdBl lv n hl hn
  have h2 := rdBl zl384 n (List.length_replicate) hn
  rw [zl_blk n hn] at h2
  have h3 := eqBl _ (blk_len lv n hl hn)
  unfold peqA
  rw [h1, h2]
  simp only [h3, hr]
  rfl
theorem eqLv (lv : List Int) (hl : lv.length = 384) : peqT Tryz.prog 11 48 (.agg (is lv)) (.agg (is zl384)) = some (zlv lv) := by
  rw [eqLv_def]
  exact peqA_step lv 0 _ _ hl (by omega) (peqA_step lv 1 _ _ hl (by omega) (peqA_step lv 2 _ _ hl (by omega) (peqA_step lv 3 _ _ hl (by omega) (peqA_step lv 4 _ _ hl (by omega) (peqA_step lv 5 _ _ hl (by omega) rfl)))))

theorem rdL_def (xs : List PV) (off : Nat) : rd Tryz.prog 48 xs off = if off + 384 ≤ xs.length then some (.agg ((xs.drop off).take 384)) else none := by kernel_rfl

def zMb : Mb := ⟨0, false, false, false, false, 0, 0, 0, 0, 0, 0, 0, 0, 0, 0, 0, 0, 0, false, false, false, false, false, false, zl384⟩
def zmv : List PV := mbc zMb
theorem bld_mb : pbuild Tryz.prog 50 [] = some (.agg zmv) := by kernel_rfl
theorem bld_lv : pbuild Tryz.prog 48 [] = some (.agg (is zl384)) := by kernel_rfl

def mbF (P : Program) : List Field := match P.underlying 50 with | some (.struct fs) => fs.toList | _ => []
def mbF8 (P : Program) : List Field := (mbF P).take 8
def mbF1 (P : Program) : List Field := (mbF P).drop 8
theorem peqF_app (eq : TypeId → PV → PV → Option Bool) (P : Program) (xs ys : List PV) (s : List Field) (b : Bool) (hs : peqF eq P xs ys s = some b) : ∀ (r : List Field) (a : Bool), peqF eq P xs ys r = some a → peqF eq P xs ys (r ++ s) = some (a && b)
  | [], a, h => by
    cases h
    exact hs
  | f :: r, a, h => by
    rw [List.cons_append]
    revert h
    simp only [peqF]
    cases decide (f.name = "_") with
    | true => intro h; cases h
    | false =>
      cases rd P f.type xs f.offset with
      | none => intro h; cases h
      | some x =>
        cases rd P f.type ys f.offset with
        | none => intro h; cases h
        | some y =>
          dsimp only
          cases eq f.type x y with
          | none => intro h; cases h
          | some c =>
            dsimp only
            cases hq : peqF eq P xs ys r with
            | none => intro h; cases h
            | some q =>
              rw [peqF_app eq P xs ys s b hs r q hq]
              intro h
              cases h
              simp [Bool.and_assoc]
/-- The macroblock of zeros, without the levels. -/
def zA (m : Mb) : Bool :=
  (m.k == 0) && (((m.ua == false) && ((m.ub == false) && true)) && ((m.fp == false) && ((m.fd == false) && ((((((m.va == 0) && ((m.vb == 0) && true)) && (((m.vc == 0) && ((m.vd == 0) && true)) && true))) && (((((m.ve == 0) && ((m.vf == 0) && true)) && (((m.vg == 0) && ((m.vh == 0) && true)) && true))) && true)) && ((((m.sa == 0) && ((m.sb == 0) && true)) && ((((m.sc == 0) && ((m.sd == 0) && true))) && true)) && ((m.dl == 0) && (((m.ca == false) && ((m.cb == false) && ((m.cc == false) && ((m.cd == false) && ((m.ce == false) && ((m.cf == false) && true)))))) && true)))))))
def zmb (m : Mb) : Bool := zA m && (zlv m.lv && true)
theorem peqF8 (k : Int) (ua ub fp fd : Bool) (va vb vc vd ve vf vg vh sa sb sc sd dl : Int) (ca cb cc cd ce cf : Bool) (lv : List Int) : peqF (peqT Tryz.prog 11) Tryz.prog (mbc ⟨k, ua, ub, fp, fd, va, vb, vc, vd, ve, vf, vg, vh, sa, sb, sc, sd, dl, ca, cb, cc, cd, ce, cf, lv⟩) zmv (mbF8 Tryz.prog) = some (zA ⟨k, ua, ub, fp, fd, va, vb, vc, vd, ve, vf, vg, vh, sa, sb, sc, sd, dl, ca, cb, cc, cd, ce, cf, lv⟩) := by kernel_rfl
theorem peqF1_def (xs ys : List PV) (x y : PV) (b : Bool) (hx : rd Tryz.prog 48 xs 24 = some x) (hy : rd Tryz.prog 48 ys 24 = some y) (hb : peqT Tryz.prog 11 48 x y = some b) : peqF (peqT Tryz.prog 11) Tryz.prog xs ys (mbF1 Tryz.prog) = some (b && true) := by
  have e : peqF (peqT Tryz.prog 11) Tryz.prog xs ys (mbF1 Tryz.prog) = match rd Tryz.prog 48 xs 24, rd Tryz.prog 48 ys 24 with
      | some a, some b => match peqT Tryz.prog 11 48 a b with
        | some c => some (c && true)
        | none => none
      | _, _ => none := by kernel_rfl
  rw [e, hx, hy]
  simp only [hb]
theorem mbc_drop (m : Mb) : (mbc m).drop 24 = is m.lv := rfl
theorem mbc_len (m : Mb) (hl : m.lv.length = 384) : (mbc m).length = 408 := by
  simp only [mbc, List.length_cons, is_len, hl]
theorem rdLm (m : Mb) (hl : m.lv.length = 384) : rd Tryz.prog 48 (mbc m) 24 = some (.agg (is m.lv)) := by
  rw [rdL_def, if_pos (by rw [mbc_len m hl]; omega), mbc_drop, List.take_of_length_le (by rw [is_len]; omega)]
theorem peqT_mb (xs ys : List PV) : peqT Tryz.prog 12 50 (.agg xs) (.agg ys) = peqF (peqT Tryz.prog 11) Tryz.prog xs ys ((mbF8 Tryz.prog) ++ (mbF1 Tryz.prog)) := by kernel_rfl
theorem eqMb (m : Mb) (hl : m.lv.length = 384) : peqG Tryz.prog .eql 50 (.agg (mbc m)) (.agg zmv) = some (.bool (zmb m)) := by
  have e : ∀ x y, peqG Tryz.prog .eql 50 x y = match peqT Tryz.prog 12 50 x y with | some b => peq .eql b | none => none := fun x y => by kernel_rfl
  have hz : zmv = mbc zMb := rfl
  rw [e, peqT_mb, hz, peqF_app _ _ _ _ _ _ (peqF1_def _ _ _ _ _ (rdLm m hl) (rdLm zMb List.length_replicate) (eqLv m.lv hl)) (mbF8 Tryz.prog) (zA m) (peqF8 ..)]
  rfl
theorem zlv_zero : zlv zl384 = true := by decide

end Go.Proofs.YtahomnplappbpaaGreatDoor.Sc

namespace Go.Proofs.YtahomnplappbpaaGreatDoor.Sc
set_option linter.all false
set_option linter.unusedVariables false
set_option linter.unusedSimpArgs false
open Pm Ty Go.RowKit

theorem opMb (F : Nat → PV) (H : Heap) : pop Tryz.prog (.build 50 #[]) F H = some (.agg zmv, H) := by
  show (pbuild Tryz.prog 50 []).map (fun v => (v, H)) = _
  rw [bld_mb]; rfl
theorem opLv (F : Nat → PV) (H : Heap) : pop Tryz.prog (.build 48 #[]) F H = some (.agg (is zl384), H) := by
  show (pbuild Tryz.prog 48 []).map (fun v => (v, H)) = _
  rw [bld_lv]; rfl
theorem stpMb (ds : List (Option Nat)) (d : Option Nat) (t : TypeId) (a : Array Edge) (g : Option (Nat × Bool)) (p : String) (F : Fr) (H : Heap) : stp Tryz.prog ds { op := .build 50 #[], dst := d, type := t, after := a, guard := g, pos := p } F H = match asked ds F { op := .build 50 #[], dst := d, type := t, after := a, guard := g, pos := p } with
    | none => none
    | some b => cond b (some (put F d (.agg zmv), H)) (some (put F d (.tup []), H)) := by
  rw [stp_eq, opMb]; rfl
theorem stpLv (ds : List (Option Nat)) (d : Option Nat) (t : TypeId) (a : Array Edge) (g : Option (Nat × Bool)) (p : String) (F : Fr) (H : Heap) : stp Tryz.prog ds { op := .build 48 #[], dst := d, type := t, after := a, guard := g, pos := p } F H = match asked ds F { op := .build 48 #[], dst := d, type := t, after := a, guard := g, pos := p } with
    | none => none
    | some b => cond b (some (put F d (.agg (is zl384)), H)) (some (put F d (.tup []), H)) := by
  rw [stp_eq, opLv]; rfl
theorem eqMx (k : Int) (ua ub fp fd : Bool) (va vb vc vd ve vf vg vh sa sb sc sd dl : Int) (ca cb cc cd ce cf : Bool) (lv : List Int) (hl : lv.length = 384) : peqG Tryz.prog .eql 50 (.agg (.int .i64 k :: .bool ua :: .bool ub :: .bool fp :: .bool fd :: .int .i64 va :: .int .i64 vb :: .int .i64 vc :: .int .i64 vd :: .int .i64 ve :: .int .i64 vf :: .int .i64 vg :: .int .i64 vh :: .int .i64 sa :: .int .i64 sb :: .int .i64 sc :: .int .i64 sd :: .int .i64 dl :: .bool ca :: .bool cb :: .bool cc :: .bool cd :: .bool ce :: .bool cf :: is lv)) (.agg zmv) = some (.bool (zmb ⟨k, ua, ub, fp, fd, va, vb, vc, vd, ve, vf, vg, vh, sa, sb, sc, sd, dl, ca, cb, cc, cd, ce, cf, lv⟩)) := eqMb ⟨k, ua, ub, fp, fd, va, vb, vc, vd, ve, vf, vg, vh, sa, sb, sc, sd, dl, ca, cb, cc, cd, ce, cf, lv⟩ hl
theorem eqB2 (a b : Bool) : peqG Tryz.prog .eql 39 (.agg [.bool a, .bool b]) (.agg [.bool false, .bool false]) = some (.bool ((a == false) && ((b == false) && true))) := by kernel_rfl
theorem eqB6 (a b c d e f : Bool) : peqG Tryz.prog .eql 46 (.agg [.bool a, .bool b, .bool c, .bool d, .bool e, .bool f]) (.agg [.bool true, .bool true, .bool true, .bool true, .bool true, .bool true]) = some (.bool ((a == true) && ((b == true) && ((c == true) && ((d == true) && ((e == true) && ((f == true) && true))))))) := by kernel_rfl
theorem eqV4 (a b c d e f g h : Int) : peqG Tryz.prog .eql 43 (.agg [.int .i64 a, .int .i64 b, .int .i64 c, .int .i64 d, .int .i64 e, .int .i64 f, .int .i64 g, .int .i64 h]) (.agg [.int .i64 0, .int .i64 0, .int .i64 0, .int .i64 0, .int .i64 0, .int .i64 0, .int .i64 0, .int .i64 0]) = some (.bool ((((a == 0) && ((b == 0) && true)) && (((c == 0) && ((d == 0) && true)) && true)) && ((((e == 0) && ((f == 0) && true)) && (((g == 0) && ((h == 0) && true)) && true)) && true))) := by kernel_rfl
theorem eqI4 (a b c d : Int) : peqG Tryz.prog .eql 45 (.agg [.int .i64 a, .int .i64 b, .int .i64 c, .int .i64 d]) (.agg [.int .i64 0, .int .i64 0, .int .i64 0, .int .i64 0]) = some (.bool (((a == 0) && ((b == 0) && true)) && (((c == 0) && ((d == 0) && true)) && true))) := by kernel_rfl

theorem allB_ok (H : Heap) : CallOk Tryz.prog 149 [] H (.agg [.bool true, .bool true, .bool true, .bool true, .bool true, .bool true]) H := by
  refine CallOk.body (F0 := []) Tryz.func149 rfl Tryz.ntmps149 Tryz.results149 rfl (by kernel_rfl) rfl ?_
  (repeat refine PW.seq ?_); refine PW.rg rfl fun K hK => ?_; simp (disch := omega) only [go_sem, ↓reduceIte, reduceCtorEq, pappend, plen]; refine hK _ _ ?_; clear hK K
  (repeat refine PW.seq ?_); refine PW.rg rfl fun K hK => ?_; simp (disch := omega) only [go_sem, ↓reduceIte, reduceCtorEq, pappend, plen]; refine hK _ _ ?_; clear hK K
  refine PW.ret ⟨.agg [.bool true, .bool true, .bool true, .bool true, .bool true, .bool true], by simp (disch := omega) only [go_sem, ↓reduceIte, reduceCtorEq, pappend, plen, presults, presult, List.mapM_cons, List.mapM_nil, Option.pure_def, Option.bind_eq_bind, Option.bind_some, Array.toList], ?_⟩
  refine Fin.base (.id (ag_scoped fun x hx => ?_))
  simp only [List.mem_cons, List.not_mem_nil, or_false, or_self] at hx
  subst hx
  exact .bool _

/-- No prediction. -/
def zI (m : Mb) : Bool := (((m.ua == false) && ((m.ub == false) && true)) && (!m.fp && (((((m.va == 0) && ((m.vb == 0) && true)) && (((m.vc == 0) && ((m.vd == 0) && true)) && true)) && ((((m.ve == 0) && ((m.vf == 0) && true)) && (((m.vg == 0) && ((m.vh == 0) && true)) && true)) && true)) && (((m.sa == 0) && ((m.sb == 0) && true)) && (((m.sc == 0) && ((m.sd == 0) && true)) && true)))))
def aC (m : Mb) : Bool := (m.ca == true) && ((m.cb == true) && ((m.cc == true) && ((m.cd == true) && ((m.ce == true) && ((m.cf == true) && true)))))
def fmS (c : Cx) (m : Mb) : Bool := vcx c && (if m.k = 0 then !decide (c.t = 1) && zmb m else if m.k = 1 then zI m && (aC m && (fch c m && lvr m.lv)) else if m.k = 2 then intS c m else false)
theorem intS_eq (c : Cx) (m : Mb) (hk : m.k = 2) (ht : ¬c.t = 1) : intS c m = (fprd c m && (fch c m && (fbl (cdl m) m.lv && lvr m.lv))) := by
  unfold intS fprd fch
  generalize useB c m = u
  generalize d0S c m = x
  generalize d1S c m = y
  generalize lvr m.lv = l
  generalize fbl (cdl m) m.lv = f
  generalize hlM m = hh
  generalize bcx c = b
  generalize win m.dl 30 = w
  generalize m.fd = fd
  generalize m.fp = fp
  generalize decide (m.dl = 0) = dz
  rw [decide_eq_false ht]
  revert u x y l f hh b w fd fp dz
  decide
theorem intS_I (c : Cx) (m : Mb) (ht : c.t = 1) : intS c m = false := by
  unfold intS
  rw [decide_eq_true ht]; rfl

set_option maxHeartbeats 3200000 in
set_option maxRecDepth 10000 in
theorem fm_ok (c : Cx) (m : Mb) (H : Heap) (hl : m.lv.length = 384) : CallOk Tryz.prog 76 [.agg (cxc c), .agg (mbc m)] H (.bool (fmS c m)) H := by
  have vo := fun H => vcx_ok c H
  have hgt : ∀ T, (H ++ [T, mB m])[H.length + 1]? = some (mB m) := fun T => by simp
  have ho := fun T => fch_ok c m (H.length + 1) (H ++ [T, mB m]) (hgt T)
  have fo := fun T => fprd_ok c m (H.length + 1) (H ++ [T, mB m]) (hgt T)
  have bo := fun T => fbl_ok m (H.length + 1) (H ++ [T, mB m]) (hgt T) hl
  have lo := fun T => lvr_ok m (H.length + 1) (H ++ [T, mB m]) (hgt T) hl
  have ao := fun H => allB_ok H
  have hi := intS_eq c m
  have hi1 := intS_I c m
  have hr : fmS c m = (vcx c && (if m.k = 0 then !decide (c.t = 1) && zmb m else if m.k = 1 then zI m && (aC m && (fch c m && lvr m.lv)) else if m.k = 2 then intS c m else false)) := rfl
  generalize fmS c m = r at hr ⊢
  generalize vcx c = vv at vo hr
  generalize fch c m = fc at ho hi hr
  generalize fprd c m = fr at fo hi
  generalize fbl (cdl m) m.lv = fb at bo hi
  generalize lvr m.lv = lr at lo hi hr
  generalize intS c m = is0 at hi hi1 hr
  have hzm : zmb m = zmb m := rfl
  generalize hzI : zI m = zi at hr
  generalize hac : aC m = ac at hr
  have hem := eqMb m hl
  generalize zmb m = zm at hem hr
  obtain ⟨k, ua, ub, fp, fd, va, vb, vc, vd, ve, vf, vg, vh, sa, sb, sc, sd, dl, ca, cb, cc, cd, ce, cf, lv⟩ := m
  obtain ⟨t, s, ii, n⟩ := c
  clear hgt
  simp only [mB, mbc] at hr hi hi1 ho fo bo lo hl hem ⊢
  have hall := is_cell lv
  have htk : List.take 384 (is lv) = is lv := List.take_of_length_le (by rw [is_len]; omega)
  refine CallOk.body (F0 := [(0, .agg [.int .i64 t, .int .i64 s, .bool ii, .bool n]), (1, .agg (.int .i64 k :: .bool ua :: .bool ub :: .bool fp :: .bool fd :: .int .i64 va :: .int .i64 vb :: .int .i64 vc :: .int .i64 vd :: .int .i64 ve :: .int .i64 vf :: .int .i64 vg :: .int .i64 vh :: .int .i64 sa :: .int .i64 sb :: .int .i64 sc :: .int .i64 sd :: .int .i64 dl :: .bool ca :: .bool cb :: .bool cc :: .bool cd :: .bool ce :: .bool cf :: is lv))]) Tryz.func76 rfl Tryz.ntmps76 Tryz.results76 rfl (by kernel_rfl) rfl ?_
  (repeat refine PW.seq ?_); refine PW.rg rfl fun K hK => ?_; simp (disch := omega) only [go_sem, ↓reduceIte, reduceCtorEq, pappend, plen, hall]; refine hK _ _ ?_; clear hK K
  (repeat refine PW.seq ?_)
  refine PW.rgv (P := Tryz.prog) [2, 3] 18 (.bool (!vv || (!decide (k = 1) && decide (t = 1)))) ?_ ?_ ?_
  · rfl
  · simp (disch := omega) only [go_sem, ↓reduceIte, reduceCtorEq, pappend, plen]; (repeat' (first | ((first | refine VO_cond ?_ ?_ | refine VOd_cond ?_ ?_ | refine VOg_cond ?_ ?_ | refine VOh_cond ?_ ?_ | refine VOi_cond ?_ ?_ | refine And.intro ?_ ?_) <;> intro h <;> (try simp only [Bool.not_eq_true', Bool.not_eq_false', decide_eq_true_eq, decide_eq_false_iff_not] at h) <;> simp (disch := omega) only [go_sem, ↓reduceIte, reduceCtorEq, pappend, plen, h]) | ((first | refine VCx.call (vo _) rfl ?_ | refine VCy.call (vo _) rfl ?_ | refine VCz.call (fun _ => vo _) rfl ?_ | refine VCk.call (fun _ _ => vo _) rfl ?_ | refine VCj.now (vo _) rfl ?_); simp (disch := omega) only [go_sem, ↓reduceIte, reduceCtorEq, pappend, plen])))
    all_goals (clear vo ho fo bo lo hi hr hall htk hem; (simp_all [slot, Nat.beq] <;> first | rfl | omega | (rw [Bool.eq_iff_iff]; simp; done) | (rw [Bool.eq_iff_iff]; simp; omega)))
  (repeat refine PW.seq ?_); refine PW.cond (t := _) rfl (fun h => ?_) (fun h => ?_)
  · (repeat refine PW.seq ?_); refine PW.rg rfl fun K hK => ?_; simp (disch := omega) only [go_sem, ↓reduceIte, reduceCtorEq, pappend, plen]; refine hK _ _ ?_; clear hK K
    (refine PW.ret ⟨_, rfl, ?_⟩; first | refine .inl ⟨?_, rfl⟩ | refine Fin.base (.id' ?_ (.bool _)) | refine Fin.base (.id' ?_ (.int _ _)))
    clear vo ho fo bo lo hi hall htk hem
    rw [hr]
    cases vv
    · rfl
    · have hk1 : ¬k = 1 ∧ t = 1 := by simpa using h
      simp [hk1.1, hk1.2, hi1 hk1.2, slot, Nat.beq]
  refine PW.skip ?_
  have hvv : vv = true ∧ (k = 1 ∨ ¬t = 1) := by
    cases vv
    · cases h
    · refine ⟨rfl, ?_⟩
      by_cases hk1 : k = 1
      · exact .inl hk1
      · exact .inr (by simpa [hk1] using h)
  rw [hvv.1, Bool.true_and] at hr
  clear vo h
  (repeat refine PW.seq ?_); refine PW.rg rfl fun K hK => ?_; simp (disch := omega) only [go_sem, ↓reduceIte, reduceCtorEq, pappend, plen]; refine hK _ _ ?_; clear hK K
  (repeat refine PW.seq ?_); refine PW.block ?_
  (repeat refine PW.seq ?_); refine PW.rg rfl fun K hK => ?_; simp (disch := omega) only [go_sem, ↓reduceIte, reduceCtorEq, pappend, plen]; refine hK _ _ ?_; clear hK K
  (repeat refine PW.seq ?_); refine PW.cond (t := _) rfl (fun h => ?_) (fun h => ?_)
  · have hk0 : k = 0 := of_decide_eq_true h
    subst hk0
    have ht : ¬t = 1 := by rcases hvv.2 with h1 | h1; (cases h1); exact h1
    rw [if_pos rfl, decide_eq_false ht] at hr
    (repeat refine PW.seq ?_); refine PW.rg rfl fun K hK => ?_; simp (disch := omega) only [go_sem, ↓reduceIte, reduceCtorEq, pappend, plen, hall, is_len, hl, htk, ↓stpMb, ↓hem]; refine hK _ _ ?_; clear hK K
    (refine PW.ret ⟨_, rfl, ?_⟩; first | refine .inl ⟨?_, rfl⟩ | refine Fin.base (.id' ?_ (.bool _)) | refine Fin.base (.id' ?_ (.int _ _)))
    rw [hr]; rfl
  have hk0 : ¬k = 0 := of_decide_eq_false h
  rw [if_neg hk0] at hr
  (repeat refine PW.seq ?_); refine PW.rg rfl fun K hK => ?_; simp (disch := omega) only [go_sem, ↓reduceIte, reduceCtorEq, pappend, plen]; refine hK _ _ ?_; clear hK K
  (repeat refine PW.seq ?_); refine PW.cond (t := _) rfl (fun h => ?_) (fun h => ?_)
  · have hk1 : k = 1 := of_decide_eq_true h
    subst hk1
    rw [if_pos rfl] at hr
    have q1 := eqB2 ua ub
    have q2 := eqV4 va vb vc vd ve vf vg vh
    have q3 := eqI4 sa sb sc sd
    have q4 := eqB6 ca cb cc cd ce cf
    have hz2 : zi = (((ua == false) && ((ub == false) && true)) && (!fp && (((((va == 0) && ((vb == 0) && true)) && (((vc == 0) && ((vd == 0) && true)) && true)) && ((((ve == 0) && ((vf == 0) && true)) && (((vg == 0) && ((vh == 0) && true)) && true)) && true)) && (((sa == 0) && ((sb == 0) && true)) && (((sc == 0) && ((sd == 0) && true)) && true))))) := hzI.symm
    have hc2 : ac = ((ca == true) && ((cb == true) && ((cc == true) && ((cd == true) && ((ce == true) && ((cf == true) && true)))))) := hac.symm
    rw [← hc2] at q4
    generalize ((ua == false) && ((ub == false) && true)) = b1 at q1 hz2
    generalize (((((va == 0) && ((vb == 0) && true)) && (((vc == 0) && ((vd == 0) && true)) && true)) && ((((ve == 0) && ((vf == 0) && true)) && (((vg == 0) && ((vh == 0) && true)) && true)) && true))) = b2 at q2 hz2
    generalize (((sa == 0) && ((sb == 0) && true)) && (((sc == 0) && ((sd == 0) && true)) && true)) = b3 at q3 hz2
    clear hc2 hzI hac hem hi hi1 hzm fo bo
    (repeat refine PW.seq ?_)
    refine PW.rgv (P := Tryz.prog) [2, 3] 5 (.bool zi) ?_ ?_ ?_
    · rfl
    · simp (disch := omega) only [go_sem, ↓reduceIte, reduceCtorEq, pappend, plen, ↓q1, ↓q2, ↓q3]; (repeat' ((first | refine VO_cond ?_ ?_ | refine VOd_cond ?_ ?_ | refine VOg_cond ?_ ?_ | refine VOh_cond ?_ ?_ | refine VOi_cond ?_ ?_ | refine And.intro ?_ ?_) <;> intro h <;> (try simp only [Bool.not_eq_true', Bool.not_eq_false', decide_eq_true_eq, decide_eq_false_iff_not] at h) <;> simp (disch := omega) only [go_sem, ↓reduceIte, reduceCtorEq, pappend, plen, ↓q1, ↓q2, ↓q3, h]))
      all_goals (clear ho lo hr hall htk q1 q2 q3 q4; subst hz2; (simp_all [slot, Nat.beq] <;> first | rfl | omega | (rw [Bool.eq_iff_iff]; simp; done) | (rw [Bool.eq_iff_iff]; simp; omega)))
    clear hz2
    cases zi
    · (repeat refine PW.seq ?_); refine PW.draw mix (by kernel_rfl) fun K hK => ?_; simp (disch := omega) only [go_sem, ↓reduceIte, reduceCtorEq, pappend, plen]
      refine hK _ _ ?_; (refine PW.ret ⟨_, rfl, ?_⟩; first | refine .inl ⟨?_, rfl⟩ | refine Fin.base (.id' ?_ (.bool _)) | refine Fin.base (.id' ?_ (.int _ _)))
      rw [hr]; rfl
    (repeat refine PW.seq ?_); refine PW.draw mix (by kernel_rfl) fun K hK => ?_; simp (disch := omega) only [go_sem, ↓reduceIte, reduceCtorEq, pappend, plen, ↓q4]; refine VCy.callP ao rfl ?_; simp (disch := omega) only [go_sem, ↓reduceIte, reduceCtorEq, pappend, plen, ↓q4]; (repeat' (first | ((first | refine VO_cond ?_ ?_ | refine VOd_cond ?_ ?_ | refine VOg_cond ?_ ?_ | refine VOh_cond ?_ ?_ | refine VOi_cond ?_ ?_ | refine And.intro ?_ ?_) <;> intro h <;> (try simp only [Bool.not_eq_true', Bool.not_eq_false', decide_eq_true_eq, decide_eq_false_iff_not] at h) <;> simp (disch := omega) only [go_sem, ↓reduceIte, reduceCtorEq, pappend, plen, ↓q4, h]) | ((first | refine VCx.call (ho _) rfl ?_ | refine VCx.call (lo _) rfl ?_ | refine VCy.call (ho _) rfl ?_ | refine VCy.call (lo _) rfl ?_ | refine VCz.call (fun _ => ho _) rfl ?_ | refine VCz.call (fun _ => lo _) rfl ?_ | refine VCk.call (fun _ _ => ho _) rfl ?_ | refine VCk.call (fun _ _ => lo _) rfl ?_ | refine VCj.now (ho _) rfl ?_ | refine VCj.now (lo _) rfl ?_); simp (disch := omega) only [go_sem, ↓reduceIte, reduceCtorEq, pappend, plen, ↓q4])))
    all_goals (refine hK _ _ ?_; (refine PW.ret ⟨_, rfl, ?_⟩; first | refine .inl ⟨?_, rfl⟩ | refine Fin.base (.id' ?_ (.bool _)) | refine Fin.base (.id' ?_ (.int _ _))); clear hK ho lo hall htk q1 q2 q3 q4; subst hr; (simp_all [slot, Nat.beq] <;> first | rfl | omega | (rw [Bool.eq_iff_iff]; simp; done) | (rw [Bool.eq_iff_iff]; simp; omega)))
  have hk1 : ¬k = 1 := of_decide_eq_false h
  rw [if_neg hk1] at hr
  (repeat refine PW.seq ?_); refine PW.rg rfl fun K hK => ?_; simp (disch := omega) only [go_sem, ↓reduceIte, reduceCtorEq, pappend, plen]; refine hK _ _ ?_; clear hK K
  (repeat refine PW.seq ?_); refine PW.cond (t := _) rfl (fun h => ?_) (fun h => ?_)
  · have hk2 : k = 2 := of_decide_eq_true h
    subst hk2
    have ht : ¬t = 1 := by rcases hvv.2 with h1 | h1; (cases h1); exact h1
    rw [if_pos rfl, hi rfl ht] at hr
    clear hi hi1 hzI hac hem hzm
    (repeat refine PW.seq ?_); refine PW.rg rfl fun K hK => ?_; simp (disch := omega) only [go_sem, ↓reduceIte, reduceCtorEq, pappend, plen]; (repeat' (first | ((first | refine VO_cond ?_ ?_ | refine VOd_cond ?_ ?_ | refine VOg_cond ?_ ?_ | refine VOh_cond ?_ ?_ | refine VOi_cond ?_ ?_ | refine And.intro ?_ ?_) <;> intro h <;> (try simp only [Bool.not_eq_true', Bool.not_eq_false', decide_eq_true_eq, decide_eq_false_iff_not] at h) <;> simp (disch := omega) only [go_sem, ↓reduceIte, reduceCtorEq, pappend, plen, h]) | ((first | refine VCx.call (fo _) rfl ?_ | refine VCx.call (ho _) rfl ?_ | refine VCx.call (bo _) rfl ?_ | refine VCx.call (lo _) rfl ?_ | refine VCy.call (fo _) rfl ?_ | refine VCy.call (ho _) rfl ?_ | refine VCy.call (bo _) rfl ?_ | refine VCy.call (lo _) rfl ?_ | refine VCz.call (fun _ => fo _) rfl ?_ | refine VCz.call (fun _ => ho _) rfl ?_ | refine VCz.call (fun _ => bo _) rfl ?_ | refine VCz.call (fun _ => lo _) rfl ?_ | refine VCk.call (fun _ _ => fo _) rfl ?_ | refine VCk.call (fun _ _ => ho _) rfl ?_ | refine VCk.call (fun _ _ => bo _) rfl ?_ | refine VCk.call (fun _ _ => lo _) rfl ?_ | refine VCj.now (fo _) rfl ?_ | refine VCj.now (ho _) rfl ?_ | refine VCj.now (bo _) rfl ?_ | refine VCj.now (lo _) rfl ?_); simp (disch := omega) only [go_sem, ↓reduceIte, reduceCtorEq, pappend, plen])))
    all_goals (refine hK _ _ ?_; (refine PW.ret ⟨_, rfl, ?_⟩; first | refine .inl ⟨?_, rfl⟩ | refine Fin.base (.id' ?_ (.bool _)) | refine Fin.base (.id' ?_ (.int _ _))); clear hK fo bo ho lo hall htk; subst hr; (simp_all [slot, Nat.beq] <;> first | rfl | omega | (rw [Bool.eq_iff_iff]; simp; done) | (rw [Bool.eq_iff_iff]; simp; omega)))
  have hk2 : ¬k = 2 := of_decide_eq_false h
  rw [if_neg hk2] at hr
  refine PW.skip ?_
  (repeat refine PW.seq ?_); refine PW.rg rfl fun K hK => ?_; simp (disch := omega) only [go_sem, ↓reduceIte, reduceCtorEq, pappend, plen]; refine hK _ _ ?_; clear hK K
  (refine PW.ret ⟨_, rfl, ?_⟩; first | refine .inl ⟨?_, rfl⟩ | refine Fin.base (.id' ?_ (.bool _)) | refine Fin.base (.id' ?_ (.int _ _)))
  rw [hr]; rfl

end Go.Proofs.YtahomnplappbpaaGreatDoor.Sc

namespace Go.Proofs.YtahomnplappbpaaGreatDoor.Sc
set_option linter.all false
set_option linter.unusedVariables false
set_option linter.unusedSimpArgs false
open Pm Ty Go.RowKit

theorem zI_eq (k : Int) (ua ub fp fd : Bool) (va vb vc vd ve vf vg vh sa sb sc sd dl : Int) (ca cb cc cd ce cf : Bool) (lv : List Int) : zmb ⟨0, ua, ub, fp, false, va, vb, vc, vd, ve, vf, vg, vh, sa, sb, sc, sd, 0, false, false, false, false, false, false, zl384⟩ = zI ⟨k, ua, ub, fp, fd, va, vb, vc, vd, ve, vf, vg, vh, sa, sb, sc, sd, dl, ca, cb, cc, cd, ce, cf, lv⟩ := by
  unfold zmb zA zI
  dsimp only
  rw [zlv_zero]
  generalize ((ua == false) && ((ub == false) && true)) = b1
  generalize ((((va == 0) && ((vb == 0) && true)) && (((vc == 0) && ((vd == 0) && true)) && true)) && ((((ve == 0) && ((vf == 0) && true)) && (((vg == 0) && ((vh == 0) && true)) && true)) && true)) = b2
  generalize (((sa == 0) && ((sb == 0) && true)) && (((sc == 0) && ((sd == 0) && true)) && true)) = b3
  cases b1 <;> cases fp <;> cases b2 <;> cases b3 <;> rfl
theorem fch_I (c : Cx) (m : Mb) (hk : m.k = 1) : fch c m = ((bcx c || !m.fd) && win m.dl 30) := by
  unfold fch hlM
  rw [decide_eq_true hk]; rfl

set_option maxHeartbeats 3200000 in
set_option maxRecDepth 10000 in
theorem fm_ref (c : Cx) (m : Mb) (H : Heap) (hl : m.lv.length = 384) : CallOk Tryz.prog 34 [.agg (cxc c), .agg (mbc m)] H (.bool (fmS c m)) H := by
  have vo := fun H => vcx_ref c H
  have bo := fun H => bcx_ref c H
  have io := fun H => inter_ref c m H hl
  have lo := fun H => lvr_ref m H hl
  have hf := fch_I c m
  have hr : fmS c m = (vcx c && (if m.k = 0 then !decide (c.t = 1) && zmb m else if m.k = 1 then zI m && (aC m && (fch c m && lvr m.lv)) else if m.k = 2 then intS c m else false)) := rfl
  generalize fmS c m = r at hr ⊢
  generalize vcx c = vv at vo hr
  generalize bcx c = bk at bo hf
  generalize fch c m = fc at hf hr
  generalize lvr m.lv = lr at lo hr
  generalize intS c m = is0 at io hr
  have hem := eqMb m hl
  generalize zmb m = zm at hem hr
  obtain ⟨k, ua, ub, fp, fd, va, vb, vc, vd, ve, vf, vg, vh, sa, sb, sc, sd, dl, ca, cb, cc, cd, ce, cf, lv⟩ := m
  obtain ⟨t, s, ii, n⟩ := c
  have hzi := zI_eq k ua ub fp fd va vb vc vd ve vf vg vh sa sb sc sd dl ca cb cc cd ce cf lv
  generalize zI ⟨k, ua, ub, fp, fd, va, vb, vc, vd, ve, vf, vg, vh, sa, sb, sc, sd, dl, ca, cb, cc, cd, ce, cf, lv⟩ = zi at hzi hr
  generalize hac : aC ⟨k, ua, ub, fp, fd, va, vb, vc, vd, ve, vf, vg, vh, sa, sb, sc, sd, dl, ca, cb, cc, cd, ce, cf, lv⟩ = ac at hr
  simp only [mbc] at hr hf io lo hl hem ⊢
  have hall := is_cell lv
  have hall2 := is_cell zl384
  have hz3 : zl384.length = 384 := List.length_replicate
  have htk : List.take 384 (is lv) = is lv := List.take_of_length_le (by rw [is_len]; omega)
  have hdk : List.drop 384 (is lv) = [] := List.drop_of_length_le (by rw [is_len]; omega)
  have htk2 : List.take 384 (is zl384) = is zl384 := List.take_of_length_le (by rw [is_len, hz3]; omega)
  refine CallOk.body (F0 := [(0, .agg [.int .i64 t, .int .i64 s, .bool ii, .bool n]), (1, .agg (.int .i64 k :: .bool ua :: .bool ub :: .bool fp :: .bool fd :: .int .i64 va :: .int .i64 vb :: .int .i64 vc :: .int .i64 vd :: .int .i64 ve :: .int .i64 vf :: .int .i64 vg :: .int .i64 vh :: .int .i64 sa :: .int .i64 sb :: .int .i64 sc :: .int .i64 sd :: .int .i64 dl :: .bool ca :: .bool cb :: .bool cc :: .bool cd :: .bool ce :: .bool cf :: is lv))]) Tryz.func34 rfl Tryz.ntmps34 Tryz.results34 rfl (by kernel_rfl) rfl ?_
  (repeat refine PW.seq ?_); refine PW.rg rfl fun K hK => ?_; simp (disch := omega) only [go_sem, ↓reduceIte, reduceCtorEq, pappend, plen, hall]; refine hK _ _ ?_; clear hK K
  (repeat refine PW.seq ?_); refine PW.rg rfl fun K hK => ?_; simp (disch := omega) only [go_sem, ↓reduceIte, reduceCtorEq, pappend, plen]; refine VCx.call (vo _) rfl ?_; simp (disch := omega) only [go_sem, ↓reduceIte, reduceCtorEq, pappend, plen]; refine hK _ _ ?_; clear hK K
  (repeat refine PW.seq ?_); refine PW.cond (t := _) rfl (fun h => ?_) (fun h => ?_)
  · have hv : vv = false := by simpa using h
    (repeat refine PW.seq ?_); refine PW.rg rfl fun K hK => ?_; simp (disch := omega) only [go_sem, ↓reduceIte, reduceCtorEq, pappend, plen]; refine hK _ _ ?_; clear hK K
    (refine PW.ret ⟨_, rfl, ?_⟩; first | refine .inl ⟨?_, rfl⟩ | refine Fin.base (.id' ?_ (.bool _)) | refine Fin.base (.id' ?_ (.int _ _)))
    rw [hr, hv]; rfl
  have hv : vv = true := by simpa using h
  rw [hv, Bool.true_and] at hr
  refine PW.skip ?_
  (repeat refine PW.seq ?_); refine PW.rg rfl fun K hK => ?_; simp (disch := omega) only [go_sem, ↓reduceIte, reduceCtorEq, pappend, plen]; refine hK _ _ ?_; clear hK K
  (repeat refine PW.seq ?_); refine PW.block ?_
  (repeat refine PW.seq ?_); refine PW.rg rfl fun K hK => ?_; simp (disch := omega) only [go_sem, ↓reduceIte, reduceCtorEq, pappend, plen]; refine hK _ _ ?_; clear hK K
  (repeat refine PW.seq ?_); refine PW.cond (t := _) rfl (fun h => ?_) (fun h => ?_)
  · have hk0 : k = 0 := of_decide_eq_true h
    subst hk0
    rw [if_pos rfl] at hr
    (repeat refine PW.seq ?_); refine PW.rg rfl fun K hK => ?_; simp (disch := omega) only [go_sem, ↓reduceIte, reduceCtorEq, pappend, plen, hall, is_len, hl, htk, ↓stpMb, ↓hem]; (repeat' ((first | refine VO_cond ?_ ?_ | refine VOd_cond ?_ ?_ | refine VOg_cond ?_ ?_ | refine VOh_cond ?_ ?_ | refine VOi_cond ?_ ?_ | refine And.intro ?_ ?_) <;> intro h <;> (try simp only [Bool.not_eq_true', Bool.not_eq_false', decide_eq_true_eq, decide_eq_false_iff_not] at h) <;> simp (disch := omega) only [go_sem, ↓reduceIte, reduceCtorEq, pappend, plen, hall, is_len, hl, htk, ↓stpMb, ↓hem, h]))
    all_goals (refine hK _ _ ?_; (refine PW.ret ⟨_, rfl, ?_⟩; first | refine .inl ⟨?_, rfl⟩ | refine Fin.base (.id' ?_ (.bool _)) | refine Fin.base (.id' ?_ (.int _ _))); clear hK vo bo io lo hem hall htk hzi; subst hr; (simp_all [slot, Nat.beq] <;> first | rfl | omega | (rw [Bool.eq_iff_iff]; simp; done) | (rw [Bool.eq_iff_iff]; simp; omega)))
  have hk0 : ¬k = 0 := of_decide_eq_false h
  rw [if_neg hk0] at hr
  (repeat refine PW.seq ?_); refine PW.rg rfl fun K hK => ?_; simp (disch := omega) only [go_sem, ↓reduceIte, reduceCtorEq, pappend, plen]; refine hK _ _ ?_; clear hK K
  (repeat refine PW.seq ?_); refine PW.cond (t := _) rfl (fun h => ?_) (fun h => ?_)
  · have hk1 : k = 1 := of_decide_eq_true h
    subst hk1
    rw [if_pos rfl, hf rfl] at hr
    have q4 := eqB6 ca cb cc cd ce cf
    have hc2 : ((ca == true) && ((cb == true) && ((cc == true) && ((cd == true) && ((ce == true) && ((cf == true) && true)))))) = ac := hac
    rw [hc2] at q4
    have hem2 := eqMx 0 ua ub fp false va vb vc vd ve vf vg vh sa sb sc sd 0 false false false false false false zl384 hz3
    rw [hzi] at hem2
    have hwin : win dl 30 = (decide (-30 ≤ dl) && decide (dl ≤ 30)) := rfl
    clear hc2 hac hem hf hzi io vo
    (repeat refine PW.seq ?_); refine PW.rg rfl fun K hK => ?_; simp (disch := omega) only [go_sem, ↓reduceIte, reduceCtorEq, pappend, plen, hall, is_len, hl, htk, hdk]; refine hK _ _ ?_; clear hK K
    (repeat refine PW.seq ?_); refine PW.rg rfl fun K hK => ?_; simp (disch := omega) only [go_sem, ↓reduceIte, reduceCtorEq, pappend, plen, hall, hall2, is_len, hl, htk, hdk, hz3, ↓stpLv]; refine hK _ _ ?_; clear hK K
    (repeat refine PW.seq ?_); refine PW.rg rfl fun K hK => ?_; cases fd <;> simp (disch := omega) only [go_sem, ↓reduceIte, reduceCtorEq, pappend, plen, hall, hall2, is_len, hl, htk, hz3, htk2, ↓stpMb, ↓hem2, ↓q4] <;> (repeat' (first | ((first | refine VO_cond ?_ ?_ | refine VOd_cond ?_ ?_ | refine VOg_cond ?_ ?_ | refine VOh_cond ?_ ?_ | refine VOi_cond ?_ ?_ | refine And.intro ?_ ?_) <;> intro h <;> (try simp only [Bool.not_eq_true', Bool.not_eq_false', decide_eq_true_eq, decide_eq_false_iff_not] at h) <;> simp (disch := omega) only [go_sem, ↓reduceIte, reduceCtorEq, pappend, plen, hall, hall2, is_len, hl, htk, hz3, htk2, ↓stpMb, ↓hem2, ↓q4, h]) | ((first | refine VCx.call (bo _) rfl ?_ | refine VCx.call (lo _) rfl ?_ | refine VCy.call (bo _) rfl ?_ | refine VCy.call (lo _) rfl ?_ | refine VCz.call (fun _ => bo _) rfl ?_ | refine VCz.call (fun _ => lo _) rfl ?_ | refine VCk.call (fun _ _ => bo _) rfl ?_ | refine VCk.call (fun _ _ => lo _) rfl ?_ | refine VCj.now (bo _) rfl ?_ | refine VCj.now (lo _) rfl ?_); simp (disch := omega) only [go_sem, ↓reduceIte, reduceCtorEq, pappend, plen, hall, hall2, is_len, hl, htk, hz3, htk2, ↓stpMb, ↓hem2, ↓q4])))
    all_goals (refine hK _ _ ?_; (refine PW.ret ⟨_, rfl, ?_⟩; first | refine .inl ⟨?_, rfl⟩ | refine Fin.base (.id' ?_ (.bool _)) | refine Fin.base (.id' ?_ (.int _ _))); rw [hr, hwin]; clear hK bo lo hem2 q4 hr hall hall2 htk htk2 hdk hwin; (simp_all [slot, Nat.beq] <;> first | rfl | omega | (rw [Bool.eq_iff_iff]; simp; done) | (rw [Bool.eq_iff_iff]; simp; omega)))
  have hk1 : ¬k = 1 := of_decide_eq_false h
  rw [if_neg hk1] at hr
  (repeat refine PW.seq ?_); refine PW.rg rfl fun K hK => ?_; simp (disch := omega) only [go_sem, ↓reduceIte, reduceCtorEq, pappend, plen]; refine hK _ _ ?_; clear hK K
  (repeat refine PW.seq ?_); refine PW.cond (t := _) rfl (fun h => ?_) (fun h => ?_)
  · have hk2 : k = 2 := of_decide_eq_true h
    subst hk2
    rw [if_pos rfl] at hr
    (repeat refine PW.seq ?_); refine PW.rg rfl fun K hK => ?_; simp (disch := omega) only [go_sem, ↓reduceIte, reduceCtorEq, pappend, plen, hall, is_len, hl, htk]; refine VCx.call (io _) rfl ?_; simp (disch := omega) only [go_sem, ↓reduceIte, reduceCtorEq, pappend, plen, hall, is_len, hl, htk]; refine hK _ _ ?_; clear hK K
    (refine PW.ret ⟨_, rfl, ?_⟩; first | refine .inl ⟨?_, rfl⟩ | refine Fin.base (.id' ?_ (.bool _)) | refine Fin.base (.id' ?_ (.int _ _)))
    rw [hr]; rfl
  have hk2 : ¬k = 2 := of_decide_eq_false h
  rw [if_neg hk2] at hr
  refine PW.skip ?_
  (repeat refine PW.seq ?_); refine PW.rg rfl fun K hK => ?_; simp (disch := omega) only [go_sem, ↓reduceIte, reduceCtorEq, pappend, plen]; refine hK _ _ ?_; clear hK K
  (refine PW.ret ⟨_, rfl, ?_⟩; first | refine .inl ⟨?_, rfl⟩ | refine Fin.base (.id' ?_ (.bool _)) | refine Fin.base (.id' ?_ (.int _ _)))
  rw [hr]; rfl

end Go.Proofs.YtahomnplappbpaaGreatDoor.Sc

namespace Go.Proofs.YtahomnplappbpaaGreatDoor.Sc
set_option linter.all false
set_option linter.unusedVariables false
set_option linter.unusedSimpArgs false
open Pm Ty Go.RowKit

/-- A state: the quantiser, three DC values, two vectors. -/
structure St where
  q : Int
  da : Int
  db : Int
  dc : Int
  va : Int
  vb : Int
  vc : Int
  vd : Int
def stc (s : St) : List PV := [.int .i64 s.q, .int .i64 s.da, .int .i64 s.db, .int .i64 s.dc, .int .i64 s.va, .int .i64 s.vb, .int .i64 s.vc, .int .i64 s.vd]
end Go.Proofs.YtahomnplappbpaaGreatDoor.Sc
