/-
  Contracts of chapter 10: macroblocks, equality with the macroblock of zeros.
-/
import Derived.Test.YthmladiijdlgkaaGreatGg
namespace Go.Proofs.YthmladiijdlgkaaGreat.Sc
set_option linter.all false
set_option linter.unusedVariables false
set_option linter.unusedSimpArgs false
open Pm Ty Go.RowKit
def zl64 : List Int := List.replicate 64 0
def zl384 : List Int := List.replicate 384 0
def zlv (lv : List Int) : Bool := zbk lv 0 && (zbk lv 1 && (zbk lv 2 && (zbk lv 3 && (zbk lv 4 && (zbk lv 5 && true)))))
theorem eqB_def (xs ys : List PV) : peqT Tryz.prog 10 65 (.agg xs) (.agg ys) = if szT Tryz.prog 3 = some 1 ∧ xs.length = 64 ∧ ys.length = 64 then peqI (.int .i64) xs ys else none := by kernel_rfl
theorem sz_int : szT Tryz.prog 3 = some 1 := by kernel_rfl
theorem eqBl (bl : List Int) (h : bl.length = 64) : peqT Tryz.prog 10 65 (.agg (is bl)) (.agg (is zl64)) = some (bl == List.replicate 64 0) := by
  rw [eqB_def, if_pos ⟨sz_int, by rw [is_len]; exact h, by rw [is_len]; rfl⟩]
  exact peqI_is .i64 bl (List.replicate 64 0) (by rw [h]; rfl)
theorem rdB_def (xs : List PV) (off : Nat) : rd Tryz.prog 65 xs off = if off + 64 ≤ xs.length then some (.agg ((xs.drop off).take 64)) else none := by kernel_rfl
theorem rdBl (lv : List Int) (n : Nat) (hl : lv.length = 384) (hn : n < 6) : rd Tryz.prog 65 (is lv) (n * 64) = some (.agg (is ((lv.drop (n * 64)).take 64))) := by
  rw [rdB_def, if_pos (by rw [is_len]; omega), is_drop, is_take]
theorem zl_blk (n : Nat) (hn : n < 6) : (zl384.drop (n * 64)).take 64 = zl64 := by
  unfold zl384 zl64
  rw [List.drop_replicate, List.take_replicate]
  congr 1; omega
theorem eqLv_def (xs ys : List PV) : peqT Tryz.prog 11 66 (.agg xs) (.agg ys) = peqA (peqT Tryz.prog 10) Tryz.prog 65 64 xs ys [0, 1, 2, 3, 4, 5] := by kernel_rfl
theorem peqA_step (lv : List Int) (n : Nat) (r : List Nat) (b : Bool) (hl : lv.length = 384) (hn : n < 6) (hr : peqA (peqT Tryz.prog 10) Tryz.prog 65 64 (is lv) (is zl384) r = some b) : peqA (peqT Tryz.prog 10) Tryz.prog 65 64 (is lv) (is zl384) (n :: r) = some (zbk lv n && b) := by
  have h1 := rdBl lv n hl hn
  have h2 := rdBl zl384 n (List.length_replicate) hn
  rw [zl_blk n hn] at h2
  have h3 := eqBl _ (blk_len lv n hl hn)
  unfold peqA
  rw [h1, h2]
  simp only [h3, hr]
  rfl
theorem eqLv (lv : List Int) (hl : lv.length = 384) : peqT Tryz.prog 11 66 (.agg (is lv)) (.agg (is zl384)) = some (zlv lv) := by
  rw [eqLv_def]
  exact peqA_step lv 0 _ _ hl (by omega) (peqA_step lv 1 _ _ hl (by omega) (peqA_step lv 2 _ _ hl (by omega) (peqA_step lv 3 _ _ hl (by omega) (peqA_step lv 4 _ _ hl (by omega) (peqA_step lv 5 _ _ hl (by omega) rfl)))))
theorem rdL_def (xs : List PV) (off : Nat) : rd Tryz.prog 66 xs off = if off + 384 ≤ xs.length then some (.agg ((xs.drop off).take 384)) else none := by kernel_rfl
def zMb : Mb := ⟨0, false, false, false, false, 0, 0, 0, 0, 0, 0, 0, 0, 0, 0, 0, 0, 0, false, false, false, false, false, false, zl384⟩
def zmv : List PV := mbc zMb
theorem bld_mb : pbuild Tryz.prog 68 [] = some (.agg zmv) := by kernel_rfl
theorem bld_lv : pbuild Tryz.prog 66 [] = some (.agg (is zl384)) := by kernel_rfl
def mbF (P : Program) : List Field := match P.underlying 68 with | some (.struct fs) => fs.toList | _ => []
def mbF8 (P : Program) : List Field := (mbF P).take 8
def mbF1 (P : Program) : List Field := (mbF P).drop 8
theorem peqF_app (eq : TypeId → PV → PV → Option Bool) (P : Program) (xs ys : List PV) (s : List Field) (b : Bool) (hs : peqF eq P xs ys s = some b) : ∀ (r : List Field) (a : Bool), peqF eq P xs ys r = some a → peqF eq P xs ys (r ++ s) = some (a && b)
  | [], a, h => by
    cases h
    exact hs
  | f :: r, a, h => by
    rw [List.cons_append]
    revert h
    simp only [peqF]
    cases decide (f.name = "_") with
    | true => intro h; cases h
    | false =>
      cases rd P f.type xs f.offset with
      | none => intro h; cases h
      | some x =>
        cases rd P f.type ys f.offset with
        | none => intro h; cases h
        | some y =>
          dsimp only
          cases eq f.type x y with
          | none => intro h; cases h
          | some c =>
            dsimp only
            cases hq : peqF eq P xs ys r with
            | none => intro h; cases h
            | some q =>
              rw [peqF_app eq P xs ys s b hs r q hq]
              intro h
              cases h
              simp [Bool.and_assoc]
def zA (m : Mb) : Bool :=
  (m.k == 0) && (((m.ua == false) && ((m.ub == false) && true)) && ((m.fp == false) && ((m.fd == false) && ((((((m.va == 0) && ((m.vb == 0) && true)) && (((m.vc == 0) && ((m.vd == 0) && true)) && true))) && (((((m.ve == 0) && ((m.vf == 0) && true)) && (((m.vg == 0) && ((m.vh == 0) && true)) && true))) && true)) && ((((m.sa == 0) && ((m.sb == 0) && true)) && ((((m.sc == 0) && ((m.sd == 0) && true))) && true)) && ((m.dl == 0) && (((m.ca == false) && ((m.cb == false) && ((m.cc == false) && ((m.cd == false) && ((m.ce == false) && ((m.cf == false) && true)))))) && true)))))))
def zmb (m : Mb) : Bool := zA m && (zlv m.lv && true)
theorem peqF8 (k : Int) (ua ub fp fd : Bool) (va vb vc vd ve vf vg vh sa sb sc sd dl : Int) (ca cb cc cd ce cf : Bool) (lv : List Int) : peqF (peqT Tryz.prog 11) Tryz.prog (mbc ⟨k, ua, ub, fp, fd, va, vb, vc, vd, ve, vf, vg, vh, sa, sb, sc, sd, dl, ca, cb, cc, cd, ce, cf, lv⟩) zmv (mbF8 Tryz.prog) = some (zA ⟨k, ua, ub, fp, fd, va, vb, vc, vd, ve, vf, vg, vh, sa, sb, sc, sd, dl, ca, cb, cc, cd, ce, cf, lv⟩) := by kernel_rfl
theorem peqF1_def (xs ys : List PV) (x y : PV) (b : Bool) (hx : rd Tryz.prog 66 xs 24 = some x) (hy : rd Tryz.prog 66 ys 24 = some y) (hb : peqT Tryz.prog 11 66 x y = some b) : peqF (peqT Tryz.prog 11) Tryz.prog xs ys (mbF1 Tryz.prog) = some (b && true) := by
  have e : peqF (peqT Tryz.prog 11) Tryz.prog xs ys (mbF1 Tryz.prog) = match rd Tryz.prog 66 xs 24, rd Tryz.prog 66 ys 24 with
      | some a, some b => match peqT Tryz.prog 11 66 a b with
        | some c => some (c && true)
        | none => none
      | _, _ => none := by kernel_rfl
  rw [e, hx, hy]
  simp only [hb]
theorem mbc_drop (m : Mb) : (mbc m).drop 24 = is m.lv := rfl
theorem mbc_len (m : Mb) (hl : m.lv.length = 384) : (mbc m).length = 408 := by
  simp only [mbc, List.length_cons, is_len, hl]
theorem rdLm (m : Mb) (hl : m.lv.length = 384) : rd Tryz.prog 66 (mbc m) 24 = some (.agg (is m.lv)) := by
  rw [rdL_def, if_pos (by rw [mbc_len m hl]; omega), mbc_drop, List.take_of_length_le (by rw [is_len]; omega)]
theorem peqT_mb (xs ys : List PV) : peqT Tryz.prog 12 68 (.agg xs) (.agg ys) = peqF (peqT Tryz.prog 11) Tryz.prog xs ys ((mbF8 Tryz.prog) ++ (mbF1 Tryz.prog)) := by kernel_rfl
theorem eqMb (m : Mb) (hl : m.lv.length = 384) : peqG Tryz.prog .eql 68 (.agg (mbc m)) (.agg zmv) = some (.bool (zmb m)) := by
  have e : ∀ x y, peqG Tryz.prog .eql 68 x y = match peqT Tryz.prog 12 68 x y with | some b => peq .eql b | none => none := fun x y => by kernel_rfl
  have hz : zmv = mbc zMb := rfl
  rw [e, peqT_mb, hz, peqF_app _ _ _ _ _ _ (peqF1_def _ _ _ _ _ (rdLm m hl) (rdLm zMb List.length_replicate) (eqLv m.lv hl)) (mbF8 Tryz.prog) (zA m) (peqF8 ..)]
  rfl
theorem zlv_zero : zlv zl384 = true := by decide
end Go.Proofs.YthmladiijdlgkaaGreat.Sc
