/-
  Contracts of the tape that the laws draw their inputs from: Expr.
-/
import Derived.Test.YtnjnikafhbholaaPt
import Derived.Test.YtnjnikafhbholaaPmZ
namespace Go.Proofs.Ytnjnikafhbholaa.Sc
set_option linter.all false
set_option linter.unusedVariables false
set_option linter.unusedSimpArgs false
open Pm Ty Go.RowKit

theorem w32s (n : Int) (h : 0 ≤ n ∧ n ≤ 1000) : IntKind.i32.wrap n = n := by
  simp [IntKind.wrap, IntKind.signed, IntKind.bits]
  omega
/-- A letter and a digit. -/
def nm (k : List UInt8) (n : Int) : List UInt8 := k ++ [UInt8.ofNat (48 + n).toNat]
theorem name_ok (k : List UInt8) (n : Int) (H : Heap) (hk : k.length ≤ 100) (hn : 0 ≤ n ∧ n ≤ 20) : CallOk Try.prog 124 [.str k, .int .i64 n] H (.str (nm k n)) H := by
  refine CallOk.body (F0 := [(0, .str k), (1, .int .i64 n)]) Try.func124 rfl Try.ntmps124 Try.results124 rfl (by kernel_rfl) rfl ?_
  (repeat refine PW.seq ?_); refine PW.rg rfl fun K hK => ?_; simp (maxSteps := 3000000) (disch := omega) only [go_sem, ↓reduceIte, reduceCtorEq, pappend, plen]; refine hK _ _ ?_; clear hK K
  (repeat refine PW.seq ?_); refine PW.rg rfl fun K hK => ?_; simp (maxSteps := 3000000) (disch := omega) only [go_sem, ↓reduceIte, reduceCtorEq, pappend, plen, w32s]; refine hK _ _ ?_; clear hK K
  refine PW.ret ⟨.str (k ++ [UInt8.ofNat (48 + n).toNat]), by simp (maxSteps := 3000000) (disch := omega) only [go_sem, ↓reduceIte, reduceCtorEq, pappend, plen, presults, presult, List.mapM_cons, List.mapM_nil, Option.pure_def, Option.bind_eq_bind, Option.bind_some, Array.toList], ?_⟩
  exact Fin.now

/-- The heap with the tape at some place. -/
structure TpH (L : List Int) (f : Bool) (i : Nat) (H : Heap) (G : Nat → Heap) : Prop where
  eq : ∀ a, G a = H.set i (tb L f a)
  len : ∀ a, (G a).length = H.length
  get : ∀ a K, (G a ++ K)[i]? = some (tb L f a)
  set : ∀ a b K, (G a ++ K).set i (tb L f b) = G b ++ K
  p0 : ∀ a b K, (G a ++ b :: K)[H.length]? = some b
  p1 : ∀ a b c K, (G a ++ b :: c :: K)[H.length + 1]? = some c
  p2 : ∀ a b c d K, (G a ++ b :: c :: d :: K)[H.length + 2]? = some d
  p3 : ∀ a b c d e K, (G a ++ b :: c :: d :: e :: K)[H.length + 3]? = some e
  s0 : ∀ a b x K, (G a ++ b :: K).set H.length x = G a ++ x :: K
  s1 : ∀ a b c x K, (G a ++ b :: c :: K).set (H.length + 1) x = G a ++ b :: x :: K
  s2 : ∀ a b c d x K, (G a ++ b :: c :: d :: K).set (H.length + 2) x = G a ++ b :: c :: x :: K
  s3 : ∀ a b c d e x K, (G a ++ b :: c :: d :: e :: K).set (H.length + 3) x = G a ++ b :: c :: d :: x :: K
theorem tpH {L : List Int} {f : Bool} {i : Nat} {H : Heap} {a : Nat} (hi : H[i]? = some (tb L f a)) : ∃ G, TpH L f i H G ∧ G a = H := by
  have hil : i < H.length := (List.getElem?_eq_some_iff.1 hi).1
  refine ⟨fun a => H.set i (tb L f a), ⟨fun _ => rfl, fun a => List.length_set, fun a K => ?_, fun a b K => ?_, fun a b K => ?_, fun a b c K => ?_, fun a b c d K => ?_, fun a b c d e K => ?_, fun a b x K => ?_, fun a b c x K => ?_, fun a b c d x K => ?_, fun a b c d e x K => ?_⟩, ?_⟩
  · rw [List.getElem?_append_left (by rw [List.length_set]; exact hil), List.getElem?_set_self hil]
  · rw [List.set_append_left _ _ (by rw [List.length_set]; exact hil), List.set_set]
  · exact gp _ _ _ _ List.length_set
  · have := hp1 (H.set i (tb L f a)) K b c; rwa [List.length_set] at this
  · have := hp2 (H.set i (tb L f a)) K b c d; rwa [List.length_set] at this
  · have := hp3 (H.set i (tb L f a)) K b c d e; rwa [List.length_set] at this
  · exact gs _ _ _ _ _ List.length_set
  · have := hs1 (H.set i (tb L f a)) K b c x; rwa [List.length_set] at this
  · have := hs2 (H.set i (tb L f a)) K b c d x; rwa [List.length_set] at this
  · have := hs3 (H.set i (tb L f a)) K b c d e x; rwa [List.length_set] at this
  · apply List.ext_getElem?
    intro j
    rw [List.getElem?_set]
    split
    · rename_i e; subst e; first | rw [hi] | rw [if_pos hil, hi]
    · rfl
theorem tb_sc {L : List Int} {f : Bool} {a : Nat} (n : Nat) : ∀ x ∈ (tb L f a).cells, Scoped n x := fun x hx => by
  simp only [tb, List.mem_cons, List.not_mem_nil, or_false] at hx
  rcases hx with rfl | rfl
  · exact sl_scoped (is_scoped _ _)
  · exact .int _ _
theorem TpH.fin {L : List Int} {f : Bool} {i : Nat} {H : Heap} {G : Nat → Heap} (h : TpH L f i H G) {a : Nat} {K : Heap} {v v' : PV} (hv : Fz H.length (G a ++ K) v' v) : Fin H v (H.set i (tb L f a)) v' (G a ++ K) := by
  rw [h.eq] at hv ⊢
  exact Fin.cut rfl (by rw [List.length_set]) (fun hs => HSc.set hs (tb_sc _)) (by rw [List.length_set]; exact hv)

/-- What is chosen: the kind, and how far the tape has been read. -/
def exK (L : List Int) (d a : Nat) : Int × Nat := if d < 1 ∧ tn L a 8 > 3 then (1 + tn L (a + 1) 3, a + 2) else (tn L a 8, a + 1)
def exE : List PV := [.int .i64 0, .str [], .int .i64 0, .int .i64 0, .int .i64 0, .int .i64 0, .str [], .slice [] 0 true]
def exS (m : List UInt8) (n : Int) : List PV := [.int .i64 1, .str m, .int .i64 n, .int .i64 0, .int .i64 0, .int .i64 0, .str [], .slice [] 0 true]
def den3 (k : Int) : Int := if k = 0 then 4 else if k = 1 then 5 else 7
def txt2 (k : Int) : List UInt8 := if k = 0 then [65] else [69, 78, 68, 32, 50]
def a3F (L : List Int) (a : Nat) : Nat := if tn L a 8 = 5 then a + 4 else a + 3
def secF (L : List Int) (g : Nat → List PV × Nat) (b : List PV × Nat) : List PV × Nat := if tn L b.2 4 > 0 then g (b.2 + 1) else (b.1, b.2 + 1)
/-- An expression of the tape. -/
def exP (L : List Int) : Nat → Nat → List PV × Nat
  | 0, a => if (exK L 0 a).1 = 0 then (exE, (exK L 0 a).2) else (exS (nm [109] (tn L (exK L 0 a).2 3)) (tn L ((exK L 0 a).2 + 1) 8), (exK L 0 a).2 + 2)
  | d + 1, a =>
    if tn L a 8 = 0 then (exE, a + 1)
    else if tn L a 8 = 4 ∨ tn L a 8 = 5 then
      let p := if tn L a 8 = 5 then tn L (a + 3) 4 else 0
      let num := if 1 + tn L (a + 1) 3 = 2 then 3 else 1 + tn L (a + 1) 3
      let b := exP L d (a3F L a)
      let c := secF L (exP L d) b
      ([.int .i64 (tn L a 8 - 2), .str [], .int .i64 0, .int .i64 num, .int .i64 (den3 (tn L (a + 2) 3)), .int .i64 p, .str [], .slice (b.1 ++ c.1) 2 false], c.2)
    else if tn L a 8 = 6 then
      let b := exP L d (a + 2)
      let c := exP L d b.2
      ([.int .i64 4, .str [], .int .i64 0, .int .i64 0, .int .i64 0, .int .i64 (tn L (a + 1) 256), .str [], .slice (b.1 ++ c.1) 2 true], c.2)
    else if tn L a 8 = 7 then
      let b := exP L d (a + 2)
      ([.int .i64 5, .str [], .int .i64 0, .int .i64 0, .int .i64 0, .int .i64 0, .str (txt2 (tn L (a + 1) 2)), .slice b.1 1 true], b.2)
    else (exS (nm [109] (tn L (a + 1) 3)) (tn L (a + 2) 8), a + 3)
/-- What it looks like: black, a source, or something else. -/
def exOk (c : List PV) : Prop := ∃ op m fr x3 x4 x5 x6 xs n g, c = [.int .i64 op, .str m, .int .i64 fr, .int .i64 x3, .int .i64 x4, .int .i64 x5, .str x6, .slice xs n g] ∧ (∀ k, Scoped k (.slice xs n g)) ∧ (op = 1 → x3 = 0 ∧ x4 = 0 ∧ x5 = 0 ∧ x6 = [] ∧ xs = [] ∧ n = 0 ∧ g = true ∧ 0 ≤ fr ∧ fr < 100)
theorem exOk.len {c : List PV} (h : exOk c) : c.length = 8 := by obtain ⟨op, m, fr, x3, x4, x5, x6, xs, n, g, rfl, _⟩ := h; rfl
theorem exOk.sc {c : List PV} (h : exOk c) (n : Nat) : ∀ x ∈ c, Scoped n x := by
  obtain ⟨op, m, fr, x3, x4, x5, x6, xs, k, g, rfl, hs, _⟩ := h
  intro x hx
  simp only [List.mem_cons, List.not_mem_nil, or_false] at hx
  rcases hx with rfl | rfl | rfl | rfl | rfl | rfl | rfl | rfl
  · exact .int _ _
  · exact .str _
  · exact .int _ _
  · exact .int _ _
  · exact .int _ _
  · exact .int _ _
  · exact .str _
  · exact hs n
theorem exOk.cells {c : List PV} (h : exOk c) : c.all PV.cell = true := by
  obtain ⟨op, m, fr, x3, x4, x5, x6, xs, n, g, rfl, _⟩ := h
  rfl
theorem exOk.E : exOk exE := ⟨_, _, _, _, _, _, _, _, _, _, rfl, fun n => sl_scoped (by simp), fun h => by cases h⟩
theorem exOk.S (m : List UInt8) (n : Int) (h : 0 ≤ n ∧ n < 100) : exOk (exS m n) := ⟨_, _, _, _, _, _, _, _, _, _, rfl, fun n => sl_scoped (by simp), fun _ => ⟨rfl, rfl, rfl, rfl, rfl, rfl, rfl, h.1, h.2⟩⟩
theorem exP_ok (L : List Int) : ∀ d a, exOk (exP L d a).1 ∧ (exP L d a).2 ≤ a + 4 ^ (d + 1) ∧ a ≤ (exP L d a).2
  | 0, a => by
    have h1 := tn_range L (exK L 0 a).2 3 (by omega)
    have h2 := tn_range L ((exK L 0 a).2 + 1) 8 (by omega)
    have hK : (exK L 0 a).2 ≤ a + 2 ∧ a ≤ (exK L 0 a).2 := by unfold exK; split <;> simp
    unfold exP
    split
    · exact ⟨.E, by simp; omega, by simp; omega⟩
    · exact ⟨.S _ _ (by omega), by simp; omega, by simp; omega⟩
  | d + 1, a => by
    have h1 := tn_range L (a + 2) 8 (by omega)
    have hpos : 4 ^ 1 ≤ 4 ^ (d + 1) := Nat.pow_le_pow_right (by omega) (by omega)
    have hpw : 4 ^ (d + 1 + 1) = 4 * 4 ^ (d + 1) := by rw [Nat.pow_succ]; omega
    have key : ∀ b c : List PV, exOk b → exOk c → ∀ f n, Scoped n (.slice (b ++ c) 2 f) := fun b c hb hc f n => sl_scoped fun x hx => by
      rcases List.mem_append.1 hx with h | h
      · exact hb.sc n x h
      · exact hc.sc n x h
    unfold exP
    split
    · exact ⟨.E, by simp; omega, by simp⟩
    split
    · rename_i hk
      obtain ⟨b1, b2, b3⟩ := exP_ok L d (a3F L a)
      have ha3 : a3F L a ≤ a + 4 ∧ a + 3 ≤ a3F L a := by unfold a3F; split <;> omega
      obtain ⟨c1, c2, c3⟩ : exOk (secF L (exP L d) (exP L d (a3F L a))).1 ∧ (secF L (exP L d) (exP L d (a3F L a))).2 ≤ (exP L d (a3F L a)).2 + 1 + 4 ^ (d + 1) ∧ (exP L d (a3F L a)).2 + 1 ≤ (secF L (exP L d) (exP L d (a3F L a))).2 := by
        unfold secF
        split
        · exact exP_ok L d _
        · exact ⟨b1, by simp, by simp⟩
      refine ⟨⟨_, _, _, _, _, _, _, _, _, _, rfl, key _ _ b1 c1 false, fun h => ?_⟩, ?_, ?_⟩
      · omega
      · dsimp only; omega
      · dsimp only; omega
    split
    · obtain ⟨b1, b2, b3⟩ := exP_ok L d (a + 2)
      obtain ⟨c1, c2, c3⟩ := exP_ok L d (exP L d (a + 2)).2
      exact ⟨⟨_, _, _, _, _, _, _, _, _, _, rfl, key _ _ b1 c1 true, fun h => by cases h⟩, by dsimp only; omega, by dsimp only; omega⟩
    split
    · obtain ⟨b1, b2, b3⟩ := exP_ok L d (a + 2)
      exact ⟨⟨_, _, _, _, _, _, _, _, _, _, rfl, fun n => sl_scoped (b1.sc n), fun h => by cases h⟩, by dsimp only; omega, by dsimp only; omega⟩
    · exact ⟨.S _ _ (by omega), by dsimp only; omega, by dsimp only; omega⟩

end Go.Proofs.Ytnjnikafhbholaa.Sc
