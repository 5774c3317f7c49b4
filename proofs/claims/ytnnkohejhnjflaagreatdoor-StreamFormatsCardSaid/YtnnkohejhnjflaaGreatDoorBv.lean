/-
  Bits of bytes; the end mark. What is lost of a call.
-/
import Derived.Test.YtnnkohejhnjflaaGreatDoorBo
namespace Go.Proofs.YtnnkohejhnjflaaGreatDoor.Sc
set_option linter.all false
set_option linter.unusedVariables false
set_option linter.unusedSimpArgs false
open Pm Ty Go.RowKit

/-- What a call leaves behind beyond the heap is lost; its value given up. -/
theorem _root_.Go.Proofs.YtnnkohejhnjflaaGreatDoor.Pm.CallOk.lose {P : Program} {H : Heap} {f : FuncId} {args : List PV} {v v' : PV} {K : Heap} (h : CallOk P f args H v (H ++ K)) (hz : Fz H.length (H ++ K) v v') : CallOk P f args H v' H :=
  ⟨h.1, fun C us w hw hu => (h.2 C us w hw hu).mono fun e w' ⟨C', u, q1, q2, q3, q4, q5⟩ => by
    obtain ⟨g1, g2⟩ := WRel.give hw q1 q2
    exact ⟨_, u, g1, g2, q3, q4, Fz.sound q2 hz q5⟩⟩

theorem bits_refF (V n : Nat) (H : Heap) (hn : n ≤ 32) : CallOk Tryz.prog 39 [.int .u32 (V : Int), .int .i64 (n : Int)] H (.slice (bs (zb (vbits V n))) n false) H :=
  (bits_ref V n H hn).lose (Fz.mslC (e := 5) (xs := bs (zb (vbits V n))) (Nat.le_refl _) (by simp) (by simp [length_bs, zb_len, vbits_len]) (FzC.refl (bs_scoped _ _)))

/-- All bits of some bytes. -/
def bl (q : List UInt8) : List Bool := (List.range (8 * q.length)).map fun k => decide (ubit q k = 1)
theorem bl_len (q : List UInt8) : (bl q).length = 8 * q.length := by simp [bl]
theorem bl_bn (q : List UInt8) (k : Nat) (h : k < 8 * q.length) : bn (bl q) k = ubit q k := by
  have := ubit_lt q k
  simp [bn, bl, h]
  have : ubit q k = 0 ∨ ubit q k = 1 := by omega
  rcases this with e | e <;> simp [e]
theorem bl_get (q : List UInt8) (k : Nat) (h : k < 8 * q.length) : (bs (zb (bl q)))[k]? = some (.int .u8 (ubit q k : Int)) := by
  rw [bs_get _ _ (by rw [zb_len, bl_len]; exact h), zb_byt _ _ (by rw [bl_len]; exact h), bl_bn q k h]
theorem bl_take (q : List UInt8) (k : Nat) (h : k < q.length) : bl (q.take (k + 1)) = bl (q.take k) ++ vbits (q.getD k 0).toNat 8 := by
  apply List.ext_getElem?
  intro j
  have h1 : (q.take (k + 1)).length = k + 1 := by simp; omega
  have h2 : (q.take k).length = k := by simp; omega
  by_cases hj : j < 8 * k
  · rw [List.getElem?_append_left (by rw [bl_len, h2]; exact hj)]
    simp only [bl, List.getElem?_map]
    rw [List.getElem?_range (by omega), List.getElem?_range (by omega)]
    simp only [Option.map_some, ubit, List.getD, List.getElem?_take]
    rw [if_pos (by omega), if_pos (by omega)]
  · by_cases hj2 : j < 8 * (k + 1)
    · rw [List.getElem?_append_right (by rw [bl_len, h2]; omega), bl_len, h2]
      simp only [bl, vbits, List.getElem?_map]
      rw [List.getElem?_range (by omega), List.getElem?_range (by omega)]
      simp only [Option.map_some, ubit, List.getD, List.getElem?_take]
      rw [if_pos (by omega), show j / 8 = k by omega, show 7 - j % 8 = 8 - 1 - (j - 8 * k) by omega]
      rfl
    · rw [List.getElem?_eq_none (by rw [bl_len, h1]; omega), List.getElem?_eq_none (by rw [List.length_append, bl_len, h2, vbits_len]; omega)]

theorem ubit_last (q : List UInt8) (r : Nat) (hq : q.length ≠ 0) (hr : r < 8) : ubit q (8 * q.length - 1 - r) = lastB q / 2 ^ r % 2 := by
  unfold ubit lastB
  rw [show (8 * q.length - 1 - r) / 8 = q.length - 1 by omega, show 7 - (8 * q.length - 1 - r) % 8 = r by omega]
theorem nb_one (q : List UInt8) (hq : q.length ≠ 0) (hb : lastB q ≠ 0) : ubit q (nb q) = 1 ∧ nb q < 8 * q.length ∧ ∀ j, nb q < j → j < 8 * q.length → ubit q j = 0 := by
  have hlt : lastB q < 256 := UInt8.toNat_lt _
  obtain ⟨h1, h2, h3⟩ := (tz8_fact _ hlt).resolve_left hb
  refine ⟨?_, by unfold nb; omega, fun j hj hj2 => ?_⟩
  · rw [nb, ubit_last q _ hq h1, h2]
  · unfold nb at hj
    have := ubit_last q (8 * q.length - 1 - j) hq (by omega)
    rw [show 8 * q.length - 1 - (8 * q.length - 1 - j) = j by omega] at this
    rw [this]
    exact (h3 _ (by omega)).resolve_left (by omega)

end Go.Proofs.YtnnkohejhnjflaaGreatDoor.Sc
