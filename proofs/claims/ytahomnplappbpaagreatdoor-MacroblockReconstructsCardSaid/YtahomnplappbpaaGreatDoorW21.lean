/-
  Parts of the proof, put together in one text. No condition.
-/
import Derived.Test.YtahomnplappbpaaGreatDoorRows
import Derived.Test.YtahomnplappbpaaGreatDoorW09
import Derived.Test.YtahomnplappbpaaGreatDoorW20
import Derived.Test.YtahomnplappbpaaGreatDoorW16
namespace Go.Proofs.YtahomnplappbpaaGreatDoor.Lm
set_option linter.all false
set_option linter.unusedVariables false
set_option linter.unusedSimpArgs false
open Go.ChangeShapes Go.WideShapes Go.ChangeAt Go.RowKit Pm Sc

theorem own : ownKnob Tryz.prog.godebug = none := by kernel_rfl
theorem laidOut : laidOutB Tryz.prog = true := by kernel_rfl

def in64 (n : Int) : Prop := -9223372036854775808 ≤ n ∧ n ≤ 9223372036854775807
theorem shp_int {ps : List PV} (h : Shp Tryz.prog 3 ps) : ∃ n : Int, ps = [.int .i64 n] ∧ in64 n := by
  obtain ⟨n, rfl, hw⟩ := h.of_int Tryz.underlying3
  simp [Lit.wf, IntKind.min, IntKind.max, IntKind.signed, IntKind.bits] at hw
  exact ⟨n, rfl, hw⟩
theorem shp_bool {ps : List PV} (h : Shp Tryz.prog 4 ps) : ∃ b, ps = [.bool b] := h.of_bool Tryz.underlying4
theorem shp_cx {ps : List PV} (h : Shp Tryz.prog 33 ps) : ∃ c : Cx, ps = cxc c := by
  obtain ⟨pss, rfl, hf⟩ := h.fields Tryz.underlying33
  match pss, hf with
  | [a, b, c, d], ⟨ha, hb, hc, hd, _⟩ =>
    obtain ⟨a, rfl, _⟩ := shp_int ha
    obtain ⟨b, rfl, _⟩ := shp_int hb
    obtain ⟨c, rfl⟩ := shp_bool hc
    obtain ⟨d, rfl⟩ := shp_bool hd
    exact ⟨⟨a, b, c, d⟩, rfl⟩
theorem shp_b2 {ps : List PV} (h : Shp Tryz.prog 39 ps) : ∃ a b, ps = [.bool a, .bool b] := by
  obtain ⟨pss, rfl, hl, hq⟩ := h.of_array Tryz.underlying39
  match pss, hl, hq with
  | [a, b], _, hq =>
    obtain ⟨a, rfl⟩ := shp_bool (hq a (by simp))
    obtain ⟨b, rfl⟩ := shp_bool (hq b (by simp))
    exact ⟨a, b, rfl⟩
theorem shp_b6 {ps : List PV} (h : Shp Tryz.prog 46 ps) : ∃ a b c d e f, ps = [.bool a, .bool b, .bool c, .bool d, .bool e, .bool f] := by
  obtain ⟨pss, rfl, hl, hq⟩ := h.of_array Tryz.underlying46
  match pss, hl, hq with
  | [a, b, c, d, e, f], _, hq =>
    obtain ⟨a, rfl⟩ := shp_bool (hq a (by simp))
    obtain ⟨b, rfl⟩ := shp_bool (hq b (by simp))
    obtain ⟨c, rfl⟩ := shp_bool (hq c (by simp))
    obtain ⟨d, rfl⟩ := shp_bool (hq d (by simp))
    obtain ⟨e, rfl⟩ := shp_bool (hq e (by simp))
    obtain ⟨f, rfl⟩ := shp_bool (hq f (by simp))
    exact ⟨a, b, c, d, e, f, rfl⟩
theorem shp_v {ps : List PV} (h : Shp Tryz.prog 41 ps) : ∃ a b : Int, ps = [.int .i64 a, .int .i64 b] ∧ in64 a ∧ in64 b := by
  obtain ⟨pss, rfl, hf⟩ := h.fields Tryz.underlying41
  match pss, hf with
  | [a, b], ⟨ha, hb, _⟩ =>
    obtain ⟨a, rfl, h1⟩ := shp_int ha
    obtain ⟨b, rfl, h2⟩ := shp_int hb
    exact ⟨a, b, rfl, h1, h2⟩
theorem shp_v2 {ps : List PV} (h : Shp Tryz.prog 42 ps) : ∃ a b c d : Int, ps = [.int .i64 a, .int .i64 b, .int .i64 c, .int .i64 d] ∧ in64 a ∧ in64 b ∧ in64 c ∧ in64 d := by
  obtain ⟨pss, rfl, hl, hq⟩ := h.of_array Tryz.underlying42
  match pss, hl, hq with
  | [a, b], _, hq =>
    obtain ⟨a, b', rfl, h1, h2⟩ := shp_v (hq a (by simp))
    obtain ⟨c, d, rfl, h3, h4⟩ := shp_v (hq b (by simp))
    exact ⟨a, b', c, d, rfl, h1, h2, h3, h4⟩
theorem shp_v4 {ps : List PV} (h : Shp Tryz.prog 43 ps) : ∃ a b c d e f g i : Int, ps = [.int .i64 a, .int .i64 b, .int .i64 c, .int .i64 d, .int .i64 e, .int .i64 f, .int .i64 g, .int .i64 i] ∧ (in64 a ∧ in64 b ∧ in64 c ∧ in64 d) ∧ in64 e ∧ in64 f ∧ in64 g ∧ in64 i := by
  obtain ⟨pss, rfl, hl, hq⟩ := h.of_array Tryz.underlying43
  match pss, hl, hq with
  | [x, y], _, hq =>
    obtain ⟨a, b, c, d, rfl, h1⟩ := shp_v2 (hq x (by simp))
    obtain ⟨e, f, g, i, rfl, h2⟩ := shp_v2 (hq y (by simp))
    exact ⟨a, b, c, d, e, f, g, i, rfl, h1, h2⟩
theorem shp_i2 {ps : List PV} (h : Shp Tryz.prog 44 ps) : ∃ a b : Int, ps = [.int .i64 a, .int .i64 b] ∧ in64 a ∧ in64 b := by
  obtain ⟨pss, rfl, hl, hq⟩ := h.of_array Tryz.underlying44
  match pss, hl, hq with
  | [a, b], _, hq =>
    obtain ⟨a, rfl, h1⟩ := shp_int (hq a (by simp))
    obtain ⟨b, rfl, h2⟩ := shp_int (hq b (by simp))
    exact ⟨a, b, rfl, h1, h2⟩
theorem shp_i4 {ps : List PV} (h : Shp Tryz.prog 45 ps) : ∃ a b c d : Int, ps = [.int .i64 a, .int .i64 b, .int .i64 c, .int .i64 d] ∧ in64 a ∧ in64 b ∧ in64 c ∧ in64 d := by
  obtain ⟨pss, rfl, hl, hq⟩ := h.of_array Tryz.underlying45
  match pss, hl, hq with
  | [x, y], _, hq =>
    obtain ⟨a, b, rfl, h1, h2⟩ := shp_i2 (hq x (by simp))
    obtain ⟨c, d, rfl, h3, h4⟩ := shp_i2 (hq y (by simp))
    exact ⟨a, b, c, d, rfl, h1, h2, h3, h4⟩
theorem shp_lvs : ∀ pss : List (List PV), (∀ q ∈ pss, Shp Tryz.prog 47 q) → ∃ lv : List Int, pss.flatten = is lv ∧ lv.length = pss.length * 64 ∧ ∀ z ∈ lv, in64 z
  | [], _ => ⟨[], rfl, rfl, fun z hz => by simp at hz⟩
  | a :: r, h => by
    obtain ⟨zs, rfl, hl, hw⟩ := (h a (List.mem_cons_self ..)).arr_ints Tryz.underlying47 Tryz.underlying3
    obtain ⟨lv, h1, h2, h3⟩ := shp_lvs r (fun q hq => h q (List.mem_cons_of_mem _ hq))
    refine ⟨zs ++ lv, by simp [h1, is], by simp [hl, h2]; omega, fun z hz => ?_⟩
    rcases List.mem_append.1 hz with hz | hz
    · have := hw z hz
      simp [Lit.wf, IntKind.min, IntKind.max, IntKind.signed, IntKind.bits] at this
      exact this
    · exact h3 z hz
def mbok (m : Mb) : Prop := m.lv.length = 384 ∧ in64 m.dl ∧ ∀ z ∈ m.lv, in64 z
theorem shp_mb {ps : List PV} (h : Shp Tryz.prog 50 ps) : ∃ m : Mb, ps = mbc m ∧ mbok m := by
  obtain ⟨pss, rfl, hf⟩ := h.fields Tryz.underlying50
  match pss, hf with
  | [a, b, c, d, e, f, g, i, j], ⟨ha, hb, hc, hd, he, hf, hg, hi, hj, _⟩ =>
    obtain ⟨k, rfl, _⟩ := shp_int ha
    obtain ⟨ua, ub, rfl⟩ := shp_b2 hb
    obtain ⟨fp, rfl⟩ := shp_bool hc
    obtain ⟨fd, rfl⟩ := shp_bool hd
    obtain ⟨va, vb, vc, vd, ve, vf, vg, vh, rfl, _⟩ := shp_v4 he
    obtain ⟨sa, sb, sc, sd, rfl, _⟩ := shp_i4 hf
    obtain ⟨dl, rfl, h1⟩ := shp_int hg
    obtain ⟨ca, cb, cc, cd, ce, cf, rfl⟩ := shp_b6 hi
    obtain ⟨qss, rfl, hl, hq⟩ := hj.of_array Tryz.underlying48
    obtain ⟨lv, h2, h3, h4⟩ := shp_lvs qss hq
    exact ⟨⟨k, ua, ub, fp, fd, va, vb, vc, vd, ve, vf, vg, vh, sa, sb, sc, sd, dl, ca, cb, cc, cd, ce, cf, lv⟩, by simp [mbc, h2], by simp [h3, hl], h1, h4⟩
end Go.Proofs.YtahomnplappbpaaGreatDoor.Lm

namespace Go.Proofs.YtahomnplappbpaaGreatDoor.Sc
set_option linter.all false
set_option linter.unusedVariables false
set_option linter.unusedSimpArgs false
open Pm Ty Go.RowKit

/-- A frame. -/
structure Fm where
  w : Int
  h : Int
  y : List UInt8
  u : List UInt8
  v : List UInt8
def fmc (f : Fm) : List PV := [.int .i64 f.w, .int .i64 f.h, .slice (bs f.y) f.y.length false, .slice (bs f.u) f.u.length false, .slice (bs f.v) f.v.length false]
def fsz (w h : Int) : Bool := decide (2 ≤ w) && (decide (w ≤ 64) && (decide (w % 2 = 0) && (decide (2 ≤ h) && (decide (h ≤ 64) && decide (h % 2 = 0)))))
def fmd (f : Fm) : Bool := fsz f.w f.h && (decide ((f.y.length : Int) = f.w * f.h) && (decide ((f.u.length : Int) = f.w / 2 * (f.h / 2)) && decide ((f.v.length : Int) = f.w / 2 * (f.h / 2))))
def fvd (f : Fm) : Bool := fmd f && (decide (f.w % 16 = 0) && decide (f.h % 16 = 0))
theorem fsz_of {w h : Int} (e : fsz w h = true) : 2 ≤ w ∧ w ≤ 64 ∧ w % 2 = 0 ∧ 2 ≤ h ∧ h ≤ 64 ∧ h % 2 = 0 := by simpa [fsz] using e
theorem mul_b {a b : Int} (h : 0 ≤ a ∧ a ≤ 64 ∧ 0 ≤ b ∧ b ≤ 64) : 0 ≤ a * b ∧ a * b ≤ 4096 := by
  refine ⟨Int.mul_nonneg (by omega) (by omega), ?_⟩
  calc a * b ≤ 64 * 64 := Int.mul_le_mul (by omega) (by omega) (by omega) (by omega)
    _ = 4096 := by decide

theorem fsz_ok (w ht : Int) (H : Heap) : CallOk Tryz.prog 154 [.int .i64 w, .int .i64 ht] H (.bool (fsz w ht)) H := by
  refine CallOk.body (F0 := [(0, .int .i64 w), (1, .int .i64 ht)]) Tryz.func154 rfl Tryz.ntmps154 Tryz.results154 rfl (by kernel_rfl) rfl ?_
  (repeat' (first | refine PW.seq ?_ | refine PW.skip ?_ | refine PW.block ?_ | (refine PW.rg rfl fun K hK => ?_; simp (disch := omega) only [go_sem, ↓reduceIte, reduceCtorEq, pappend, plen, tmod_pos]) | (refine PW.draw mix (by kernel_rfl) fun K hK => ?_; simp (disch := omega) only [go_sem, ↓reduceIte, reduceCtorEq, pappend, plen, tmod_pos]) | (refine PW.drawg mix (by kernel_rfl) fun K hK => ?_; simp (disch := omega) only [go_sem, ↓reduceIte, reduceCtorEq, pappend, plen, tmod_pos]) | (refine PW.drawt [] [] mix (by kernel_rfl) fun K hK => ?_; simp (disch := omega) only [go_sem, ↓reduceIte, reduceCtorEq, pappend, plen, tmod_pos]) | ((first | refine VO_cond ?_ ?_ | refine VOd_cond ?_ ?_ | refine VOg_cond ?_ ?_ | refine VOh_cond ?_ ?_ | refine VOi_cond ?_ ?_ | refine And.intro ?_ ?_) <;> intro h <;> (try simp only [Bool.not_eq_true', Bool.not_eq_false', decide_eq_true_eq, decide_eq_false_iff_not] at h) <;> simp (disch := omega) only [go_sem, ↓reduceIte, reduceCtorEq, pappend, plen, tmod_pos, h]) | (refine hK _ _ ?_; clear hK K) | (refine PW.cond (t := _) rfl (fun h => ?_) (fun h => ?_) <;> (try (cases h; done)) <;> (try simp only [Bool.not_eq_true', Bool.not_eq_false', decide_eq_true_eq, decide_eq_false_iff_not] at h))))
  all_goals ((refine PW.ret ⟨_, rfl, ?_⟩; first | refine .inl ⟨?_, rfl⟩ | refine Fin.base (.id' ?_ (.bool _)) | refine Fin.base (.id' ?_ (.int _ _))); (simp_all [fsz, slot, Nat.beq] <;> first | rfl | omega | (rw [Bool.eq_iff_iff]; simp; done) | (rw [Bool.eq_iff_iff]; simp; omega)))

theorem formed_ok (f : Fm) (H : Heap) : CallOk Tryz.prog 127 [.agg (fmc f)] H (.bool (fmd f)) H := by
  obtain ⟨w, ht, y, u, v⟩ := f
  refine CallOk.body (F0 := [(0, .agg [.int .i64 w, .int .i64 ht, .slice (bs y) y.length false, .slice (bs u) u.length false, .slice (bs v) v.length false])]) Tryz.func127 rfl Tryz.ntmps127 Tryz.results127 rfl (by kernel_rfl) rfl ?_
  (repeat refine PW.seq ?_); refine PW.rg rfl fun K hK => ?_; simp (disch := omega) only [go_sem, ↓reduceIte, reduceCtorEq, pappend, plen]; refine hK _ _ ?_; clear hK K
  cases hs : fsz w ht
  · have hc := fun H => fsz_ok w ht H
    simp only [hs] at hc
    (repeat refine PW.seq ?_); refine PW.rg rfl fun K hK => ?_; simp (disch := omega) only [go_sem, ↓reduceIte, reduceCtorEq, pappend, plen]; (repeat' (first | ((first | refine VO_cond ?_ ?_ | refine VOd_cond ?_ ?_ | refine VOg_cond ?_ ?_ | refine VOh_cond ?_ ?_ | refine VOi_cond ?_ ?_ | refine And.intro ?_ ?_) <;> intro h <;> (try simp only [Bool.not_eq_true', Bool.not_eq_false', decide_eq_true_eq, decide_eq_false_iff_not] at h) <;> simp (disch := omega) only [go_sem, ↓reduceIte, reduceCtorEq, pappend, plen, h]) | ((first | refine VCx.call (hc _) rfl ?_ | refine VCy.call (hc _) rfl ?_ | refine VCz.call (fun _ => hc _) rfl ?_ | refine VCk.call (fun _ _ => hc _) rfl ?_ | refine VCj.now (hc _) rfl ?_); simp (disch := omega) only [go_sem, ↓reduceIte, reduceCtorEq, pappend, plen])))
    all_goals (refine hK _ _ ?_; (refine PW.ret ⟨_, rfl, ?_⟩; first | refine .inl ⟨?_, rfl⟩ | refine Fin.base (.id' ?_ (.bool _)) | refine Fin.base (.id' ?_ (.int _ _))); simp [fmd, hs, slot, Nat.beq])
  · have hc := fun H => fsz_ok w ht H
    simp only [hs] at hc
    obtain ⟨g1, g2, g3, g4, g5, g6⟩ := fsz_of hs
    have m1 := mul_b (a := w) (b := ht) (by omega)
    have m2 := mul_b (a := w / 2) (b := ht / 2) (by omega)
    (repeat refine PW.seq ?_); refine PW.rg rfl fun K hK => ?_; simp (disch := omega) only [go_sem, ↓reduceIte, reduceCtorEq, pappend, plen]; (repeat' (first | ((first | refine VO_cond ?_ ?_ | refine VOd_cond ?_ ?_ | refine VOg_cond ?_ ?_ | refine VOh_cond ?_ ?_ | refine VOi_cond ?_ ?_ | refine And.intro ?_ ?_) <;> intro h <;> (try simp only [Bool.not_eq_true', Bool.not_eq_false', decide_eq_true_eq, decide_eq_false_iff_not] at h) <;> simp (disch := omega) only [go_sem, ↓reduceIte, reduceCtorEq, pappend, plen, tdiv_pos, h]) | ((first | refine VCx.call (hc _) rfl ?_ | refine VCy.call (hc _) rfl ?_ | refine VCz.call (fun _ => hc _) rfl ?_ | refine VCk.call (fun _ _ => hc _) rfl ?_ | refine VCj.now (hc _) rfl ?_); simp (disch := omega) only [go_sem, ↓reduceIte, reduceCtorEq, pappend, plen, tdiv_pos])))
    all_goals (refine hK _ _ ?_; clear hK hc; (refine PW.ret ⟨_, rfl, ?_⟩; first | refine .inl ⟨?_, rfl⟩ | refine Fin.base (.id' ?_ (.bool _)) | refine Fin.base (.id' ?_ (.int _ _))); (simp_all [fmd, slot, Nat.beq] <;> first | rfl | omega | (rw [Bool.eq_iff_iff]; simp; done) | (rw [Bool.eq_iff_iff]; simp; omega)))

theorem formed_ref (f : Fm) (H : Heap) : CallOk Tryz.prog 50 [.agg (fmc f)] H (.bool (fmd f)) H := by
  obtain ⟨w, ht, y, u, v⟩ := f
  refine CallOk.body (F0 := [(0, .agg [.int .i64 w, .int .i64 ht, .slice (bs y) y.length false, .slice (bs u) u.length false, .slice (bs v) v.length false])]) Tryz.func50 rfl Tryz.ntmps50 Tryz.results50 rfl (by kernel_rfl) rfl ?_
  (repeat refine PW.seq ?_); refine PW.rg rfl fun K hK => ?_; simp (disch := omega) only [go_sem, ↓reduceIte, reduceCtorEq, pappend, plen]; refine hK _ _ ?_; clear hK K
  (repeat refine PW.seq ?_)
  refine PW.rgv (P := Tryz.prog) [1] 32 (.bool (!(fsz w ht))) ?_ ?_ ?_
  · rfl
  · simp (disch := omega) only [go_sem, ↓reduceIte, reduceCtorEq, pappend, plen]; (repeat' ((first | refine VO_cond ?_ ?_ | refine VOd_cond ?_ ?_ | refine VOg_cond ?_ ?_ | refine VOh_cond ?_ ?_ | refine VOi_cond ?_ ?_ | refine And.intro ?_ ?_) <;> intro h <;> (try simp only [Bool.not_eq_true', Bool.not_eq_false', decide_eq_true_eq, decide_eq_false_iff_not] at h) <;> simp (disch := omega) only [go_sem, ↓reduceIte, reduceCtorEq, pappend, plen, tmod_pos, h]))
    all_goals (simp_all [fsz, slot, Nat.beq] <;> first | rfl | omega | (rw [Bool.eq_iff_iff]; simp; done) | (rw [Bool.eq_iff_iff]; simp; omega))
  (repeat refine PW.seq ?_); refine PW.cond (t := _) rfl (fun h => ?_) (fun h => ?_)
  · have hs : fsz w ht = false := by simpa using h
    (repeat refine PW.seq ?_); refine PW.rg rfl fun K hK => ?_; simp (disch := omega) only [go_sem, ↓reduceIte, reduceCtorEq, pappend, plen]; refine hK _ _ ?_; clear hK K
    (refine PW.ret ⟨_, rfl, ?_⟩; first | refine .inl ⟨?_, rfl⟩ | refine Fin.base (.id' ?_ (.bool _)) | refine Fin.base (.id' ?_ (.int _ _)))
    simp [fmd, hs, slot, Nat.beq]
  · have hs : fsz w ht = true := by simpa using h
    obtain ⟨g1, g2, g3, g4, g5, g6⟩ := fsz_of hs
    have m1 := mul_b (a := w) (b := ht) (by omega)
    have m2 := mul_b (a := w / 2) (b := ht / 2) (by omega)
    refine PW.skip ?_
    (repeat refine PW.seq ?_); refine PW.rg rfl fun K hK => ?_; simp (disch := omega) only [go_sem, ↓reduceIte, reduceCtorEq, pappend, plen, tdiv_pos]; (repeat' ((first | refine VO_cond ?_ ?_ | refine VOd_cond ?_ ?_ | refine VOg_cond ?_ ?_ | refine VOh_cond ?_ ?_ | refine VOi_cond ?_ ?_ | refine And.intro ?_ ?_) <;> intro h <;> (try simp only [Bool.not_eq_true', Bool.not_eq_false', decide_eq_true_eq, decide_eq_false_iff_not] at h) <;> simp (disch := omega) only [go_sem, ↓reduceIte, reduceCtorEq, pappend, plen, tdiv_pos, h]))
    all_goals (refine hK _ _ ?_; clear hK; (refine PW.ret ⟨_, rfl, ?_⟩; first | refine .inl ⟨?_, rfl⟩ | refine Fin.base (.id' ?_ (.bool _)) | refine Fin.base (.id' ?_ (.int _ _))); (simp_all [fmd, slot, Nat.beq] <;> first | rfl | omega | (rw [Bool.eq_iff_iff]; simp; done) | (rw [Bool.eq_iff_iff]; simp; omega)))

theorem valid_ok (f : Fm) (H : Heap) : CallOk Tryz.prog 196 [.agg (fmc f)] H (.bool (fvd f)) H := by
  have hc := fun H => formed_ok f H
  generalize hfv : fvd f = r
  obtain ⟨w, ht, y, u, v⟩ := f
  refine CallOk.body (F0 := [(0, .agg [.int .i64 w, .int .i64 ht, .slice (bs y) y.length false, .slice (bs u) u.length false, .slice (bs v) v.length false])]) Tryz.func196 rfl Tryz.ntmps196 Tryz.results196 rfl (by kernel_rfl) rfl ?_
  (repeat refine PW.seq ?_); refine PW.rg rfl fun K hK => ?_; simp (disch := omega) only [go_sem, ↓reduceIte, reduceCtorEq, pappend, plen]; refine hK _ _ ?_; clear hK K
  cases hs : fmd ⟨w, ht, y, u, v⟩
  · simp only [hs] at hc
    (repeat refine PW.seq ?_); refine PW.rg rfl fun K hK => ?_; simp (disch := omega) only [go_sem, ↓reduceIte, reduceCtorEq, pappend, plen]; (repeat' (first | ((first | refine VO_cond ?_ ?_ | refine VOd_cond ?_ ?_ | refine VOg_cond ?_ ?_ | refine VOh_cond ?_ ?_ | refine VOi_cond ?_ ?_ | refine And.intro ?_ ?_) <;> intro h <;> (try simp only [Bool.not_eq_true', Bool.not_eq_false', decide_eq_true_eq, decide_eq_false_iff_not] at h) <;> simp (disch := omega) only [go_sem, ↓reduceIte, reduceCtorEq, pappend, plen, h]) | ((first | refine VCx.call (hc _) rfl ?_ | refine VCy.call (hc _) rfl ?_ | refine VCz.call (fun _ => hc _) rfl ?_ | refine VCk.call (fun _ _ => hc _) rfl ?_ | refine VCj.now (hc _) rfl ?_); simp (disch := omega) only [go_sem, ↓reduceIte, reduceCtorEq, pappend, plen])))
    all_goals (refine hK _ _ ?_; clear hK hc; (refine PW.ret ⟨_, rfl, ?_⟩; first | refine .inl ⟨?_, rfl⟩ | refine Fin.base (.id' ?_ (.bool _)) | refine Fin.base (.id' ?_ (.int _ _))); simp [← hfv, fvd, hs, slot, Nat.beq])
  · simp only [hs] at hc
    have hz : fsz w ht = true := by simp [fmd] at hs; exact hs.1
    obtain ⟨g1, g2, g3, g4, g5, g6⟩ := fsz_of hz
    (repeat refine PW.seq ?_); refine PW.rg rfl fun K hK => ?_; simp (disch := omega) only [go_sem, ↓reduceIte, reduceCtorEq, pappend, plen]; (repeat' (first | ((first | refine VO_cond ?_ ?_ | refine VOd_cond ?_ ?_ | refine VOg_cond ?_ ?_ | refine VOh_cond ?_ ?_ | refine VOi_cond ?_ ?_ | refine And.intro ?_ ?_) <;> intro h <;> (try simp only [Bool.not_eq_true', Bool.not_eq_false', decide_eq_true_eq, decide_eq_false_iff_not] at h) <;> simp (disch := omega) only [go_sem, ↓reduceIte, reduceCtorEq, pappend, plen, tmod_pos, h]) | ((first | refine VCx.call (hc _) rfl ?_ | refine VCy.call (hc _) rfl ?_ | refine VCz.call (fun _ => hc _) rfl ?_ | refine VCk.call (fun _ _ => hc _) rfl ?_ | refine VCj.now (hc _) rfl ?_); simp (disch := omega) only [go_sem, ↓reduceIte, reduceCtorEq, pappend, plen, tmod_pos])))
    all_goals (refine hK _ _ ?_; clear hK hc; (refine PW.ret ⟨_, rfl, ?_⟩; first | refine .inl ⟨?_, rfl⟩ | refine Fin.base (.id' ?_ (.bool _)) | refine Fin.base (.id' ?_ (.int _ _))); subst hfv; (simp_all [fvd, slot, Nat.beq] <;> first | rfl | omega | (rw [Bool.eq_iff_iff]; simp; done) | (rw [Bool.eq_iff_iff]; simp; omega)))
theorem valid_ref (f : Fm) (H : Heap) : CallOk Tryz.prog 110 [.agg (fmc f)] H (.bool (fvd f)) H := by
  have hc := fun H => formed_ref f H
  generalize hfv : fvd f = r
  obtain ⟨w, ht, y, u, v⟩ := f
  refine CallOk.body (F0 := [(0, .agg [.int .i64 w, .int .i64 ht, .slice (bs y) y.length false, .slice (bs u) u.length false, .slice (bs v) v.length false])]) Tryz.func110 rfl Tryz.ntmps110 Tryz.results110 rfl (by kernel_rfl) rfl ?_
  (repeat refine PW.seq ?_); refine PW.rg rfl fun K hK => ?_; simp (disch := omega) only [go_sem, ↓reduceIte, reduceCtorEq, pappend, plen]; refine hK _ _ ?_; clear hK K
  cases hs : fmd ⟨w, ht, y, u, v⟩
  · simp only [hs] at hc
    (repeat refine PW.seq ?_); refine PW.rg rfl fun K hK => ?_; simp (disch := omega) only [go_sem, ↓reduceIte, reduceCtorEq, pappend, plen]; (repeat' (first | ((first | refine VO_cond ?_ ?_ | refine VOd_cond ?_ ?_ | refine VOg_cond ?_ ?_ | refine VOh_cond ?_ ?_ | refine VOi_cond ?_ ?_ | refine And.intro ?_ ?_) <;> intro h <;> (try simp only [Bool.not_eq_true', Bool.not_eq_false', decide_eq_true_eq, decide_eq_false_iff_not] at h) <;> simp (disch := omega) only [go_sem, ↓reduceIte, reduceCtorEq, pappend, plen, h]) | ((first | refine VCx.call (hc _) rfl ?_ | refine VCy.call (hc _) rfl ?_ | refine VCz.call (fun _ => hc _) rfl ?_ | refine VCk.call (fun _ _ => hc _) rfl ?_ | refine VCj.now (hc _) rfl ?_); simp (disch := omega) only [go_sem, ↓reduceIte, reduceCtorEq, pappend, plen])))
    all_goals (refine hK _ _ ?_; clear hK hc; (refine PW.ret ⟨_, rfl, ?_⟩; first | refine .inl ⟨?_, rfl⟩ | refine Fin.base (.id' ?_ (.bool _)) | refine Fin.base (.id' ?_ (.int _ _))); simp [← hfv, fvd, hs, slot, Nat.beq])
  · simp only [hs] at hc
    have hz : fsz w ht = true := by simp [fmd] at hs; exact hs.1
    obtain ⟨g1, g2, g3, g4, g5, g6⟩ := fsz_of hz
    (repeat refine PW.seq ?_); refine PW.rg rfl fun K hK => ?_; simp (disch := omega) only [go_sem, ↓reduceIte, reduceCtorEq, pappend, plen]; (repeat' (first | ((first | refine VO_cond ?_ ?_ | refine VOd_cond ?_ ?_ | refine VOg_cond ?_ ?_ | refine VOh_cond ?_ ?_ | refine VOi_cond ?_ ?_ | refine And.intro ?_ ?_) <;> intro h <;> (try simp only [Bool.not_eq_true', Bool.not_eq_false', decide_eq_true_eq, decide_eq_false_iff_not] at h) <;> simp (disch := omega) only [go_sem, ↓reduceIte, reduceCtorEq, pappend, plen, tmod_pos, h]) | ((first | refine VCx.call (hc _) rfl ?_ | refine VCy.call (hc _) rfl ?_ | refine VCz.call (fun _ => hc _) rfl ?_ | refine VCk.call (fun _ _ => hc _) rfl ?_ | refine VCj.now (hc _) rfl ?_); simp (disch := omega) only [go_sem, ↓reduceIte, reduceCtorEq, pappend, plen, tmod_pos])))
    all_goals (refine hK _ _ ?_; clear hK hc; (refine PW.ret ⟨_, rfl, ?_⟩; first | refine .inl ⟨?_, rfl⟩ | refine Fin.base (.id' ?_ (.bool _)) | refine Fin.base (.id' ?_ (.int _ _))); subst hfv; (simp_all [fvd, slot, Nat.beq] <;> first | rfl | omega | (rw [Bool.eq_iff_iff]; simp; done) | (rw [Bool.eq_iff_iff]; simp; omega)))

end Go.Proofs.YtahomnplappbpaaGreatDoor.Sc

namespace Go.Proofs.YtahomnplappbpaaGreatDoor.Sc
set_option linter.all false
set_option linter.unusedVariables false
set_option linter.unusedSimpArgs false
open Pm Ty Go.RowKit

/-- r rows of w samples, s apart, from a on. -/
def ctl (p : List UInt8) (a s w : Nat) (r : Nat) : List UInt8 := ((List.range r).map fun k => (p.drop (a + k * s)).take w).flatten
theorem ctl_snoc (p : List UInt8) (a s w r : Nat) : ctl p a s w (r + 1) = ctl p a s w r ++ (p.drop (a + r * s)).take w := by simp [ctl, List.range_succ]
theorem ctl_len (p : List UInt8) (a s w : Nat) : ∀ r, (∀ k, k < r → a + k * s + w ≤ p.length) → (ctl p a s w r).length = r * w
  | 0, _ => by simp [ctl]
  | r + 1, h => by
    have := h r (by omega)
    rw [ctl_snoc, List.length_append, ctl_len p a s w r (fun k hk => h k (by omega)), List.length_take, List.length_drop, Nat.succ_mul]
    omega

theorem lines_ref (p : List UInt8) (w c n : Nat) (f : Bool) (H : Heap) (hw : 1 ≤ w ∧ w ≤ 64) (hc : c ≤ 1) (hn : n ≤ 64) (hp : p.length = n * (2 * w)) :
    CallOk Tryz.prog 63 [.slice (bs p) p.length f, .int .i64 (w : Int), .int .i64 (c : Int)] H (.slice (bs (ctl p (c * w) (2 * w) w n)) (n * w) false) H := by
  have hcw : c * w ≤ w := by
    have : c = 0 ∨ c = 1 := by omega
    rcases this with rfl | rfl <;> simp
  have hfit : ∀ k, k < n → c * w + k * (2 * w) + w ≤ p.length := fun k hk => by
    have h1 : (k + 1) * (2 * w) ≤ n * (2 * w) := Nat.mul_le_mul_right _ (by omega)
    rw [Nat.succ_mul] at h1
    omega
  have hbig : n * (2 * w) ≤ 8192 := by
    have h1 : n * (2 * w) ≤ 64 * (2 * w) := Nat.mul_le_mul_right _ hn
    omega
  have e0 : (c : Int) * (w : Int) = ((c * w : Nat) : Int) := by simp
  have e2 : (2 : Int) * (w : Int) = ((2 * w : Nat) : Int) := by simp
  refine CallOk.body (F0 := [(0, .slice (bs p) p.length f), (1, .int .i64 (w : Int)), (2, .int .i64 (c : Int))]) Tryz.func63 rfl Tryz.ntmps63 Tryz.results63 rfl (by kernel_rfl) rfl ?_
  (repeat refine PW.seq ?_); refine PW.rg rfl fun K hK => ?_; simp (disch := omega) only [go_sem, ↓reduceIte, reduceCtorEq, pappend, plen]; refine hK _ _ ?_; clear hK K; (repeat refine PW.seq ?_); refine PW.rg rfl fun K hK => ?_; simp (disch := omega) only [go_sem, ↓reduceIte, reduceCtorEq, pappend, plen]; refine hK _ _ ?_; clear hK K
  (repeat refine PW.seq ?_); refine PW.rg rfl fun K hK => ?_; simp (disch := omega) only [go_sem, ↓reduceIte, reduceCtorEq, pappend, plen, e0]; refine hK _ _ ?_; clear hK K
  (repeat refine PW.seq ?_)
  refine PW.view (Vs.ghost 7 5 1 rfl) ?_
  refine PW.block (PW.loop ?_)
  suffices hloop : ∀ (r at' : Nat), r ≤ n → at' = c * w + r * (2 * w) → PL Tryz.prog _ _ [(0, .slice (bs p) p.length f), (1, .int .i64 (w : Int)), (7, .msl H.length (r * w) 0 (r * w) 1 true), (8, .int .i64 (at' : Int))] (H ++ [⟨5, r * w, bs (ctl p (c * w) (2 * w) w r)⟩]) _ by
    exact PL.at [0, 1, 7, 8] (hloop 0 (c * w) (Nat.zero_le _) (by simp)) (by simp [kp, slot, Nat.beq]) (by simp [ctl, bs])
  intro r at' hr hat
  induction hm : n - r using Nat.strongRecOn generalizing r at' with
  | _ m ih =>
    have hcl := ctl_len p (c * w) (2 * w) w r (fun k hk => hfit k (by omega))
    refine PL.round ?_; (repeat refine PW.seq ?_); refine PW.rg rfl fun K hK => ?_; simp (disch := omega) only [go_sem, ↓reduceIte, reduceCtorEq, pappend, plen]; refine hK _ _ ?_; clear hK K
    (repeat refine PW.seq ?_); refine PW.cond (t := _) rfl (fun h => ?_) (fun h => ?_)
    · have h4 : at' < p.length := by have := of_decide_eq_true h; omega
      have h5 : r < n := by
        rcases Nat.lt_or_ge r n with h6 | h6
        · exact h6
        · have : r = n := by omega
          subst this
          omega
      have h6 := hfit r h5
      have hnext := ih (n - (r + 1)) (by omega) (r + 1) (at' + 2 * w) (by omega) (by have := Nat.add_mul r 1 (2 * w); omega) rfl
      rw [ctl_snoc, bs_append] at hnext
      have e1 : (at' : Int) + (w : Int) = ((at' + w : Nat) : Int) := by omega
      have e3 : at' + w - at' = w := by omega
      have hrl : r * w ≤ 8192 := by
        have : r * w ≤ n * (2 * w) := Nat.mul_le_mul (by omega) (by omega)
        omega
      have htl : ((p.drop at').take w).length = w := by simp; omega
      refine PW.skip ?_; (repeat refine PW.seq ?_); refine PW.block ?_
      (repeat refine PW.seq ?_); refine PW.rg rfl fun K hK => ?_; simp (disch := omega) only [go_sem, ↓reduceIte, reduceCtorEq, pappend, plen, e1, e3, length_bs, hcl, bs_drop, bs_take, htl]; refine hK _ _ ?_; clear hK K
      (repeat refine PW.seq ?_); refine PW.rg rfl fun K hK => ?_; simp (disch := omega) only [go_sem, ↓reduceIte, reduceCtorEq, pappend, plen, e2]; refine hK _ _ ?_; clear hK K
      have hc1 : (bs (ctl p (c * w) (2 * w) w r) ++ bs ((p.drop at').take w)).length = (r + 1) * w := by rw [List.length_append, length_bs, length_bs, hcl, htl, Nat.add_mul]; omega
      have hlen : r * w + w = (r + 1) * w := by rw [Nat.add_mul]; omega
      rw [← hat] at hnext
      refine PL.at [0, 1, 7, 8] hnext ?_ ?_
      · simp (disch := omega) only [go_sem, ↓reduceIte, reduceCtorEq, pappend, plen]
        rw [hc1, hlen]
        rfl
      · rw [hc1]
    · have h4 : ¬ at' < p.length := by have := of_decide_eq_false h; omega
      have h5 : r = n := by
        rcases Nat.lt_or_ge r n with h6 | h6
        · have := hfit r h6; omega
        · omega
      subst h5
      refine PW.exit ?_
      (repeat refine PW.seq ?_); refine PW.rg rfl fun K hK => ?_; simp (disch := omega) only [go_sem, ↓reduceIte, reduceCtorEq, pappend, plen]; refine hK _ _ ?_; clear hK K
      refine PW.ret ⟨_, rfl, ?_⟩
      exact Fin.base (Fz.mslC (e := 5) (xs := bs (ctl p (c * w) (2 * w) w r)) (Nat.le_refl _) (by simp) (by rw [length_bs, hcl]; omega) (FzC.refl (bs_scoped _ _)))

theorem bs_zero (n : Nat) : reps n [PV.int .u8 0] = bs (List.replicate n 0) := by
  rw [bs_rep]
  induction n with
  | zero => rfl
  | succ n ih => rw [List.replicate_succ, ← ih]; simp [reps, List.replicate_succ]
theorem cut_ok (p : List UInt8) (a s w n : Nat) (f : Bool) (H : Heap) (hw : w ≤ 64) (hn : n ≤ 64) (hp : p.length ≤ 8192) (hfit : ∀ k, k < n → a + k * s + w ≤ p.length) (hs : s ≤ 200 ∧ a ≤ 200) :
    CallOk Tryz.prog 188 [.slice (bs p) p.length f, .agg [.int .i64 (a : Int), .int .i64 (s : Int), .int .i64 (w : Int), .int .i64 (n : Int)]] H (.slice (bs (ctl p a s w n)) (n * w) false) H := by
  have e0 : (w : Int) * (n : Int) = ((n * w : Nat) : Int) := by rw [Nat.mul_comm]; simp
  have hbig : n * w ≤ 4096 := Nat.mul_le_mul hn hw
  refine CallOk.body (F0 := [(0, .slice (bs p) p.length f), (1, .agg [.int .i64 (a : Int), .int .i64 (s : Int), .int .i64 (w : Int), .int .i64 (n : Int)])]) Tryz.func188 rfl Tryz.ntmps188 Tryz.results188 rfl (by kernel_rfl) rfl ?_
  (repeat refine PW.seq ?_); refine PW.rg rfl fun K hK => ?_; simp (disch := omega) only [go_sem, ↓reduceIte, reduceCtorEq, pappend, plen]; refine hK _ _ ?_; clear hK K
  (repeat refine PW.seq ?_); refine PW.rg rfl fun K hK => ?_; simp (disch := omega) only [go_sem, ↓reduceIte, reduceCtorEq, pappend, plen, e0]; refine hK _ _ ?_; clear hK K
  (repeat refine PW.seq ?_); refine PW.rg rfl fun K hK => ?_; simp (disch := omega) only [go_sem, ↓reduceIte, reduceCtorEq, pappend, plen]; refine hK _ _ ?_; clear hK K
  (repeat refine PW.seq ?_); refine PW.block (PW.loop ?_)
  suffices hloop : ∀ (r : Nat), r ≤ n → PL Tryz.prog _ _ [(0, .slice (bs p) p.length f), (3, .ptr H.length 0 0), (5, .msl (H.length + 1) 0 0 (n * w) 1 true), (14, .int .i64 (n : Int)), (15, .int .i64 (r : Int))] (H ++ [⟨214, 0, [.int .i64 (a : Int), .int .i64 (s : Int), .int .i64 (w : Int), .int .i64 (n : Int)]⟩, ⟨5, 0, bs (ctl p a s w r ++ List.replicate ((n - r) * w) 0)⟩]) _ by
    exact PL.at [0, 3, 5, 14, 15] (hloop 0 (Nat.zero_le _)) rfl (by rw [show ctl p a s w 0 = [] from rfl, List.nil_append, Nat.sub_zero, ← bs_zero]; rfl)
  intro r hr
  induction hm : n - r using Nat.strongRecOn generalizing r with
  | _ m ih =>
    have hcl := ctl_len p a s w r (fun k hk => hfit k (by omega))
    refine PL.round ?_; (repeat refine PW.seq ?_); refine PW.rg rfl fun K hK => ?_; simp (disch := omega) only [go_sem, ↓reduceIte, reduceCtorEq, pappend, plen]; refine hK _ _ ?_; clear hK K
    (repeat refine PW.seq ?_); refine PW.cond (t := _) rfl (fun h => ?_) (fun h => ?_)
    · have h4 : r < n := by have := of_decide_eq_true h; omega
      have hnext := ih (n - (r + 1)) (by omega) (r + 1) (by omega) rfl
      have h6 := hfit r h4
      have eR : (r : Int) * (w : Int) = ((r * w : Nat) : Int) := by simp
      have eR1 : ((r : Int) + 1) * (w : Int) = (((r + 1) * w : Nat) : Int) := by simp
      have eS : (r : Int) * (s : Int) = ((r * s : Nat) : Int) := by simp
      have eA : (a : Int) + ((r * s : Nat) : Int) = ((a + r * s : Nat) : Int) := by simp
      have b2 : (r + 1) * w ≤ n * w := Nat.mul_le_mul_right _ (by omega)
      have b1 : (r + 1) * w = r * w + w := by rw [Nat.add_mul]; omega
      have e3 : r * w + w - r * w = w := by omega
      have hbl : (ctl p a s w r ++ List.replicate (m * w) 0).length = n * w := by
        rw [List.length_append, hcl, List.length_replicate, ← Nat.add_mul, show r + m = n by omega]
      have htk : List.take (p.length - (a + r * s)) (List.drop (a + r * s) p) = List.drop (a + r * s) p := List.take_of_length_le (by simp)
      have hdl : (List.drop (a + r * s) p).length = p.length - (a + r * s) := List.length_drop
      have hmin : min (p.length - (a + r * s)) w = w := by omega
      have hzl : (List.take w (List.drop (a + r * s) p)).length = w := by simp; omega
      have htk1 : List.take (r * w) (ctl p a s w r ++ List.replicate (m * w) 0) = ctl p a s w r := by rw [← hcl]; exact List.take_left
      have htk2 : List.drop (r * w + w) (ctl p a s w r ++ List.replicate (m * w) 0) = List.replicate ((n - (r + 1)) * w) 0 := by
        rw [← hcl, List.drop_append, hcl, List.drop_of_length_le (by omega), List.nil_append, List.drop_replicate]
        congr 1
        have : m * w = (n - (r + 1)) * w + w := by rw [← Nat.succ_mul]; congr 1; omega
        omega
      refine PW.skip ?_; (repeat refine PW.seq ?_); refine PW.block ?_
      (repeat refine PW.seq ?_); refine PW.rg rfl fun K hK => ?_; simp (disch := omega) only [go_sem, ↓reduceIte, reduceCtorEq, pappend, plen]; refine hK _ _ ?_; clear hK K
      rw [b1] at eR1 b2
      (repeat refine PW.seq ?_); refine PW.draw mix (by kernel_rfl) fun K hK => ?_; simp (disch := omega) only [go_sem, ↓reduceIte, reduceCtorEq, pappend, plen, eR, eR1, eS, eA, e3, length_bs, hbl, bs_drop, bs_take, htk, hdl, hmin, hzl, htk1, htk2]; refine hK _ _ ?_; clear hK K
      (repeat refine PW.seq ?_); refine PW.rg rfl fun K hK => ?_; simp (disch := omega) only [go_sem, ↓reduceIte, reduceCtorEq, pappend, plen]; refine hK _ _ ?_; clear hK K
      rw [ctl_snoc, List.append_assoc, bs_append, bs_append] at hnext
      exact PL.at [0, 3, 5, 14, 15] hnext rfl rfl
    · have h4 : r = n := by have := of_decide_eq_false h; omega
      subst h4
      refine PW.exit ?_
      (repeat refine PW.seq ?_); refine PW.rg rfl fun K hK => ?_; simp (disch := omega) only [go_sem, ↓reduceIte, reduceCtorEq, pappend, plen]; refine hK _ _ ?_; clear hK K
      refine PW.ret ⟨_, rfl, ?_⟩
      rw [show r - r = 0 from Nat.sub_self r] at hm
      subst hm
      rw [Nat.zero_mul, List.replicate_zero, List.append_nil]
      exact Fin.base (Fz.mslC (e := 5) (xs := bs (ctl p a s w r)) (by omega) (hp1 _ _ _ _) (by rw [length_bs, hcl]; omega) (FzC.refl (bs_scoped _ _)))

end Go.Proofs.YtahomnplappbpaaGreatDoor.Sc
