/-
  What the closing texts of laws of chapter 10 share: contexts, macroblocks, states.
-/
import Derived.Test.YthmladiijdlgkaaGreatRows
import Derived.Test.YthmladiijdlgkaaGreatPmL
import Derived.Test.YthmladiijdlgkaaGreatGk
namespace Go.Proofs.YthmladiijdlgkaaGreat.Lm
set_option linter.all false
set_option linter.unusedVariables false
set_option linter.unusedSimpArgs false
open Go.ChangeShapes Go.WideShapes Go.ChangeAt Go.RowKit Pm Sc
theorem own : ownKnob Tryz.prog.godebug = none := by kernel_rfl
theorem laidOut : laidOutB Tryz.prog = true := by kernel_rfl
def in64 (n : Int) : Prop := -9223372036854775808 ≤ n ∧ n ≤ 9223372036854775807
theorem shp_int {ps : List PV} (h : Shp Tryz.prog 3 ps) : ∃ n : Int, ps = [.int .i64 n] ∧ in64 n := by
  obtain ⟨n, rfl, hw⟩ := h.of_int Tryz.underlying3
  simp [Lit.wf, IntKind.min, IntKind.max, IntKind.signed, IntKind.bits] at hw
  exact ⟨n, rfl, hw⟩
theorem shp_bool {ps : List PV} (h : Shp Tryz.prog 4 ps) : ∃ b, ps = [.bool b] := h.of_bool Tryz.underlying4
theorem shp_b2 {ps : List PV} (h : Shp Tryz.prog 60 ps) : ∃ a b, ps = [.bool a, .bool b] := by
  obtain ⟨pss, rfl, hl, hq⟩ := h.of_array Tryz.underlying60
  match pss, hl, hq with
  | [a, b], _, hq =>
    obtain ⟨a, rfl⟩ := shp_bool (hq a (by simp))
    obtain ⟨b, rfl⟩ := shp_bool (hq b (by simp))
    exact ⟨a, b, rfl⟩
theorem shp_b6 {ps : List PV} (h : Shp Tryz.prog 64 ps) : ∃ a b c d e f, ps = [.bool a, .bool b, .bool c, .bool d, .bool e, .bool f] := by
  obtain ⟨pss, rfl, hl, hq⟩ := h.of_array Tryz.underlying64
  match pss, hl, hq with
  | [a, b, c, d, e, f], _, hq =>
    obtain ⟨a, rfl⟩ := shp_bool (hq a (by simp))
    obtain ⟨b, rfl⟩ := shp_bool (hq b (by simp))
    obtain ⟨c, rfl⟩ := shp_bool (hq c (by simp))
    obtain ⟨d, rfl⟩ := shp_bool (hq d (by simp))
    obtain ⟨e, rfl⟩ := shp_bool (hq e (by simp))
    obtain ⟨f, rfl⟩ := shp_bool (hq f (by simp))
    exact ⟨a, b, c, d, e, f, rfl⟩
theorem shp_v {ps : List PV} (h : Shp Tryz.prog 55 ps) : ∃ a b : Int, ps = [.int .i64 a, .int .i64 b] ∧ in64 a ∧ in64 b := by
  obtain ⟨pss, rfl, hf⟩ := h.fields Tryz.underlying55
  match pss, hf with
  | [a, b], ⟨ha, hb, _⟩ =>
    obtain ⟨a, rfl, h1⟩ := shp_int ha
    obtain ⟨b, rfl, h2⟩ := shp_int hb
    exact ⟨a, b, rfl, h1, h2⟩
theorem shp_v2 {ps : List PV} (h : Shp Tryz.prog 56 ps) : ∃ a b c d : Int, ps = [.int .i64 a, .int .i64 b, .int .i64 c, .int .i64 d] ∧ in64 a ∧ in64 b ∧ in64 c ∧ in64 d := by
  obtain ⟨pss, rfl, hl, hq⟩ := h.of_array Tryz.underlying56
  match pss, hl, hq with
  | [a, b], _, hq =>
    obtain ⟨a, b', rfl, h1, h2⟩ := shp_v (hq a (by simp))
    obtain ⟨c, d, rfl, h3, h4⟩ := shp_v (hq b (by simp))
    exact ⟨a, b', c, d, rfl, h1, h2, h3, h4⟩
theorem shp_v4 {ps : List PV} (h : Shp Tryz.prog 61 ps) : ∃ a b c d e f g i : Int, ps = [.int .i64 a, .int .i64 b, .int .i64 c, .int .i64 d, .int .i64 e, .int .i64 f, .int .i64 g, .int .i64 i] ∧ (in64 a ∧ in64 b ∧ in64 c ∧ in64 d) ∧ in64 e ∧ in64 f ∧ in64 g ∧ in64 i := by
  obtain ⟨pss, rfl, hl, hq⟩ := h.of_array Tryz.underlying61
  match pss, hl, hq with
  | [x, y], _, hq =>
    obtain ⟨a, b, c, d, rfl, h1⟩ := shp_v2 (hq x (by simp))
    obtain ⟨e, f, g, i, rfl, h2⟩ := shp_v2 (hq y (by simp))
    exact ⟨a, b, c, d, e, f, g, i, rfl, h1, h2⟩
theorem shp_i2 {ps : List PV} (h : Shp Tryz.prog 62 ps) : ∃ a b : Int, ps = [.int .i64 a, .int .i64 b] ∧ in64 a ∧ in64 b := by
  obtain ⟨pss, rfl, hl, hq⟩ := h.of_array Tryz.underlying62
  match pss, hl, hq with
  | [a, b], _, hq =>
    obtain ⟨a, rfl, h1⟩ := shp_int (hq a (by simp))
    obtain ⟨b, rfl, h2⟩ := shp_int (hq b (by simp))
    exact ⟨a, b, rfl, h1, h2⟩
theorem shp_i4 {ps : List PV} (h : Shp Tryz.prog 63 ps) : ∃ a b c d : Int, ps = [.int .i64 a, .int .i64 b, .int .i64 c, .int .i64 d] ∧ in64 a ∧ in64 b ∧ in64 c ∧ in64 d := by
  obtain ⟨pss, rfl, hl, hq⟩ := h.of_array Tryz.underlying63
  match pss, hl, hq with
  | [x, y], _, hq =>
    obtain ⟨a, b, rfl, h1, h2⟩ := shp_i2 (hq x (by simp))
    obtain ⟨c, d, rfl, h3, h4⟩ := shp_i2 (hq y (by simp))
    exact ⟨a, b, c, d, rfl, h1, h2, h3, h4⟩
theorem shp_lvs : ∀ pss : List (List PV), (∀ q ∈ pss, Shp Tryz.prog 65 q) → ∃ lv : List Int, pss.flatten = is lv ∧ lv.length = pss.length * 64 ∧ ∀ z ∈ lv, in64 z
  | [], _ => ⟨[], rfl, rfl, fun z hz => by simp at hz⟩
  | a :: r, h => by
    obtain ⟨zs, rfl, hl, hw⟩ := (h a (List.mem_cons_self ..)).arr_ints Tryz.underlying65 Tryz.underlying3
    obtain ⟨lv, h1, h2, h3⟩ := shp_lvs r (fun q hq => h q (List.mem_cons_of_mem _ hq))
    refine ⟨zs ++ lv, by simp [h1, is], by simp [hl, h2]; omega, fun z hz => ?_⟩
    rcases List.mem_append.1 hz with hz | hz
    · have := hw z hz
      simp [Lit.wf, IntKind.min, IntKind.max, IntKind.signed, IntKind.bits] at this
      exact this
    · exact h3 z hz
def mbok (m : Mb) : Prop := m.lv.length = 384 ∧ in64 m.dl ∧ ∀ z ∈ m.lv, in64 z
theorem shp_mb {ps : List PV} (h : Shp Tryz.prog 68 ps) : ∃ m : Mb, ps = mbc m ∧ mbok m := by
  obtain ⟨pss, rfl, hf⟩ := h.fields Tryz.underlying68
  match pss, hf with
  | [a, b, c, d, e, f, g, i, j], ⟨ha, hb, hc, hd, he, hf, hg, hi, hj, _⟩ =>
    obtain ⟨k, rfl, _⟩ := shp_int ha
    obtain ⟨ua, ub, rfl⟩ := shp_b2 hb
    obtain ⟨fp, rfl⟩ := shp_bool hc
    obtain ⟨fd, rfl⟩ := shp_bool hd
    obtain ⟨va, vb, vc, vd, ve, vf, vg, vh, rfl, _⟩ := shp_v4 he
    obtain ⟨sa, sb, sc, sd, rfl, _⟩ := shp_i4 hf
    obtain ⟨dl, rfl, h1⟩ := shp_int hg
    obtain ⟨ca, cb, cc, cd, ce, cf, rfl⟩ := shp_b6 hi
    obtain ⟨qss, rfl, hl, hq⟩ := hj.of_array Tryz.underlying66
    obtain ⟨lv, h2, h3, h4⟩ := shp_lvs qss hq
    exact ⟨⟨k, ua, ub, fp, fd, va, vb, vc, vd, ve, vf, vg, vh, sa, sb, sc, sd, dl, ca, cb, cc, cd, ce, cf, lv⟩, by simp [mbc, h2], by simp [h3, hl], h1, h4⟩
end Go.Proofs.YthmladiijdlgkaaGreat.Lm
