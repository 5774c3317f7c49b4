/-
  Parts of the proof, put together in one text. No condition.
-/
import Derived.Test.YtahomnplappbpaaGreatDoorW29
import Derived.Test.YtahomnplappbpaaGreatDoorW26
namespace Go.Proofs.YtahomnplappbpaaGreatDoor.Sc
set_option linter.all false
set_option linter.unusedVariables false
set_option linter.unusedSimpArgs false
open Pm Ty Go.RowKit

/-- A heap with one block replaced. -/
def one (H : Heap) (r : Nat) (B : Blk) : Heap := H.set r B
theorem one_len (H : Heap) (r : Nat) (B : Blk) : (one H r B).length = H.length := by unfold one; simp
theorem one_self {H : Heap} {r : Nat} {B : Blk} (h : H[r]? = some B) : one H r B = H := by
  have hl := (List.getElem?_eq_some_iff.1 h)
  unfold one
  apply List.ext_getElem?
  intro i
  rw [List.getElem?_set]
  split
  · rename_i e; subst e; rw [if_pos hl.1, h]
  · rfl
theorem one_0 {H : Heap} {r : Nat} (hr : r < H.length) (B : Blk) : (one H r B)[r]? = some B := by
  unfold one; rw [List.getElem?_set]; simp [hr]
theorem one_at {H : Heap} {r : Nat} (hr : r < H.length) (B : Blk) (K : Heap) : (one H r B ++ K)[r]? = some B := by
  rw [List.getElem?_append_left (by rw [one_len]; exact hr), one_0 hr]
theorem one_up (H : Heap) (r : Nat) (B X : Blk) (K : Heap) : (one H r B ++ X :: K)[H.length]? = some X := by
  rw [List.getElem?_append_right (by rw [one_len]; omega), one_len]; simp
theorem one_s {H : Heap} {r : Nat} (B C : Blk) : (one H r B).set r C = one H r C := by unfold one; rw [List.set_set]
theorem one_st {H : Heap} {r : Nat} (hr : r < H.length) (B C : Blk) (K : Heap) : (one H r B ++ K).set r C = one H r C ++ K := by
  rw [List.set_append_left _ _ (by rw [one_len]; exact hr), one_s]

theorem splice_spl (P z : List UInt8) (a : Nat) : splice (bs P) a (bs z) = bs (spl P a z) := by
  unfold splice spl
  rw [bs_take, bs_drop, length_bs, ← bs_append, ← bs_append, List.append_assoc]

set_option maxHeartbeats 1600000 in
theorem paste_ok (p z : List UInt8) (r v a s w n : Nat) (g f : Bool) (H : Heap) (hr : H[r]? = some ⟨5, v, bs p⟩) (hw : w ≤ 64) (hn : n ≤ 64) (hp : p.length ≤ 8192) (hz : z.length = n * w) (hfit : ∀ k, k < n → a + k * s + w ≤ p.length) (hs : s ≤ 200 ∧ a ≤ 200) :
    CallOk Tryz.prog 130 [.msl r v 0 p.length 1 g, .agg [.int .i64 (a : Int), .int .i64 (s : Int), .int .i64 (w : Int), .int .i64 (n : Int)], .slice (bs z) z.length f] H (.tup []) (H.set r ⟨5, v, bs (pst p a s w z n)⟩) := by
  have hrl := (List.getElem?_eq_some_iff.1 hr).1
  have hne : H.length ≠ r := by omega
  have hne' : r ≠ H.length := by omega
  have o1 := fun B K => one_at hrl B K
  have o2 := fun B X K => one_up H r B X K
  have o3 := fun B C K => one_st hrl B C K
  have o4 := fun B => one_len H r B
  have hbig : n * w ≤ 4096 := Nat.mul_le_mul hn hw
  refine CallOk.body (F0 := [(0, .msl r v 0 p.length 1 g), (1, .agg [.int .i64 (a : Int), .int .i64 (s : Int), .int .i64 (w : Int), .int .i64 (n : Int)]), (2, .slice (bs z) z.length f)]) Tryz.func130 rfl Tryz.ntmps130 Tryz.results130 rfl (by kernel_rfl) rfl ?_
  refine PW.eq rfl (one_self hr).symm ?_
  (repeat refine PW.seq ?_); refine PW.rg rfl fun K hK => ?_; simp (disch := omega) only [go_sem, ↓reduceIte, reduceCtorEq, pappend, plen, o4]; refine hK _ _ ?_; clear hK K
  (repeat refine PW.seq ?_); refine PW.rg rfl fun K hK => ?_; simp (disch := omega) only [go_sem, ↓reduceIte, reduceCtorEq, pappend, plen, o1, o2, o3]; refine hK _ _ ?_; clear hK K
  (repeat refine PW.seq ?_); refine PW.block (PW.loop ?_)
  suffices hloop : ∀ k : Nat, k ≤ n → PL Tryz.prog _ _ [(0, .msl r v 0 p.length 1 g), (2, .slice (bs z) z.length f), (4, .ptr H.length 0 0), (8, .int .i64 (n : Int)), (9, .int .i64 (k : Int))] (one H r ⟨5, v, bs (pst p a s w z k)⟩ ++ [⟨214, 0, [.int .i64 (a : Int), .int .i64 (s : Int), .int .i64 (w : Int), .int .i64 (n : Int)]⟩]) _ by
    exact PL.at [0, 2, 4, 8, 9] (hloop 0 (Nat.zero_le _)) rfl rfl
  refine cnt n (fun k hk ih => ?_) ?_
  · have hpl := pst_len (p := p) (a := a) (s := s) hz k (by omega) fun j hj => hfit j (by omega)
    have h6 := hfit k hk
    have ct := lt_t hk
    have eR : (k : Int) * (w : Int) = ((k * w : Nat) : Int) := by simp
    have b1 : (k + 1) * w = k * w + w := by rw [Nat.add_mul]; omega
    have eR1 : ((k : Int) + 1) * (w : Int) = ((k * w + w : Nat) : Int) := by rw [← b1]; simp
    have eS : (k : Int) * (s : Int) = ((k * s : Nat) : Int) := by simp
    have eA : (a : Int) + ((k * s : Nat) : Int) = ((a + k * s : Nat) : Int) := by simp
    have b2 : (k + 1) * w ≤ n * w := Nat.mul_le_mul_right _ (by omega)
    have e3 : k * w + w - k * w = w := by omega
    have rl := row_len hz hk
    have hmin : min (p.length - (a + k * s)) w = w := by omega
    have htk : List.take w (List.take w (List.drop (k * w) z)) = List.take w (List.drop (k * w) z) := List.take_of_length_le (by omega)
    rw [pst] at ih
    refine PL.round ?_; (repeat refine PW.seq ?_); refine PW.rg rfl fun K hK => ?_; simp (disch := omega) only [go_sem, ↓reduceIte, reduceCtorEq, pappend, plen, ct]; refine hK _ _ ?_; clear hK K; (repeat refine PW.seq ?_); refine PW.cond (t := _) rfl (fun h => ?_) (fun h => ?_)
    rotate_left
    · cases h
    refine PW.skip ?_; (repeat refine PW.seq ?_); refine PW.block ?_
    (repeat refine PW.seq ?_); refine PW.rg rfl fun K hK => ?_; simp (disch := omega) only [go_sem, ↓reduceIte, reduceCtorEq, pappend, plen]; refine hK _ _ ?_; clear hK K
    rw [b1] at b2
    (repeat refine PW.seq ?_); refine PW.drawt [] [] mix (by kernel_rfl) fun K hK => ?_
    simp (disch := omega) only [go_sem, ↓reduceIte, reduceCtorEq, pappend, plen, arith, o1, o2, o3, eR, eR1, eS, eA, e3, length_bs, hpl, bs_drop, bs_take, hmin, rl, htk]
    refine hK _ _ ?_; clear hK K
    (repeat refine PW.seq ?_); refine PW.rg rfl fun K hK => ?_; simp (disch := omega) only [go_sem, ↓reduceIte, reduceCtorEq, pappend, plen]; refine hK _ _ ?_; clear hK K
    refine PL.at [0, 2, 4, 8, 9] ih rfl ?_
    rw [← splice_spl, show min w (p.length - (a + k * s)) = w by omega, htk]
    first | rfl | simp [splice, bs_take, bs_drop, bs_append, length_bs, rl]
  refine PL.round ?_; (repeat refine PW.seq ?_); refine PW.rg rfl fun K hK => ?_; simp (disch := omega) only [go_sem, ↓reduceIte, reduceCtorEq, pappend, plen, lt_f n]; refine hK _ _ ?_; clear hK K; (repeat refine PW.seq ?_); refine PW.cond (t := _) rfl (fun h => ?_) (fun h => ?_)
  · cases h
  refine PW.exit ?_
  refine Exists.intro _ (And.intro rfl ?_)
  exact Fin.cut (A := one H r ⟨5, v, bs (pst p a s w z n)⟩) rfl (one_len _ _ _).symm (fun hh => HSc.set hh fun x hx => bs_scoped _ _ x hx) (.id (.tup (asc fun x hx => by cases hx)))

theorem copied_ok (p : List UInt8) (f : Bool) (r : Nat) (H : Heap) (hr : H[r]? = some ⟨5, 0, []⟩) (hp : 1 ≤ p.length ∧ p.length ≤ 100000) :
    CallOk Tryz.prog 197 [.slice (bs p) p.length f] H (.msl r 1 0 p.length 1 true) (H.set r ⟨5, 1, bs p⟩) := by
  have hrl := (List.getElem?_eq_some_iff.1 hr).1
  have o1 := fun B => one_0 hrl B
  have o3 := fun B C => one_s (H := H) (r := r) B C
  have rz : (List.replicate p.length [PV.int .u8 0]).flatten = bs (List.replicate p.length 0) := bs_zero _
  have htk : List.take p.length (bs p) = bs p := List.take_of_length_le (by rw [length_bs]; omega)
  refine CallOk.body (F0 := [(0, .slice (bs p) p.length f)]) Tryz.func197 rfl Tryz.ntmps197 Tryz.results197 rfl (by kernel_rfl) rfl ?_
  (repeat refine PW.seq ?_); refine PW.rg rfl fun K hK => ?_; simp (disch := omega) only [go_sem, ↓reduceIte, reduceCtorEq, pappend, plen]; refine hK _ _ ?_; clear hK K
  refine PW.eq rfl (one_self hr).symm ?_
  (repeat refine PW.seq ?_); refine PW.seqi [r] [(6, 0)] rfl fun K hK => ?_
  simp (disch := omega) only [go_sem, ↓reduceIte, reduceCtorEq, pappend, plen, o1, o3]
  refine hK _ _ ?_; clear hK K
  rw [rz]
  (repeat refine PW.seq ?_); refine PW.rg rfl fun K hK => ?_; simp (disch := omega) only [go_sem, ↓reduceIte, reduceCtorEq, pappend, plen, o1, o3, length_bs, htk, List.length_replicate]; refine hK _ _ ?_; clear hK K
  (repeat refine PW.seq ?_); refine PW.rg rfl fun K hK => ?_; simp (disch := omega) only [go_sem, ↓reduceIte, reduceCtorEq, pappend, plen]; refine hK _ _ ?_; clear hK K
  refine PW.ret ⟨_, rfl, .inl ⟨rfl, ?_⟩⟩
  unfold one
  rw [Nat.min_self, htk, List.drop_of_length_le (by simp [length_bs]), List.append_nil]

theorem hscP {K0 L L' : Heap} (hl : L'.length = L.length) (hL : ∀ b ∈ L', ∀ x ∈ b.cells, Scoped (K0.length + L.length) x) (h : HSc (K0 ++ L)) : HSc (K0 ++ L') := fun id k hk x hx => by
  rw [List.length_append, hl]
  rw [List.getElem?_append] at hk
  split at hk
  · rename_i hlt
    have := h id k (by rw [List.getElem?_append_left hlt]; exact hk) x hx
    rwa [List.length_append] at this
  · exact hL k (List.mem_of_getElem? hk) x hx
/-- The clone of a frame: its three components stand in reserved places. -/
def plc : Blk := ⟨5, 0, []⟩
def cpB (p : List UInt8) : Blk := ⟨5, 1, bs p⟩
set_option maxHeartbeats 1600000 in
theorem fclone_ok (w ht : Int) (y u v : List UInt8) (K0 : Heap) (hy : 1 ≤ y.length ∧ y.length ≤ 100000) (hu : 1 ≤ u.length ∧ u.length ≤ 100000) (hv : 1 ≤ v.length ∧ v.length ≤ 100000) :
    CallOk Tryz.prog 128 [.agg (fmc ⟨w, ht, y, u, v⟩)] (K0 ++ [plc, plc, plc]) (.agg [.int .i64 w, .int .i64 ht, .msl K0.length 1 0 y.length 1 true, .msl (K0.length + 1) 1 0 u.length 1 true, .msl (K0.length + 2) 1 0 v.length 1 true]) (K0 ++ [cpB y, cpB u, cpB v]) := by
  have g1 : K0.length ≠ K0.length + 1 := by omega
  refine CallOk.body (F0 := [(0, .agg [.int .i64 w, .int .i64 ht, .slice (bs y) y.length false, .slice (bs u) u.length false, .slice (bs v) v.length false])]) Tryz.func128 rfl Tryz.ntmps128 Tryz.results128 rfl (by kernel_rfl) rfl ?_
  (repeat refine PW.seq ?_); refine PW.rg rfl fun K hK => ?_; simp (disch := omega) only [go_sem, ↓reduceIte, reduceCtorEq, pappend, plen]; refine hK _ _ ?_; clear hK K
  (repeat refine PW.seq ?_); refine PW.drawi [K0.length, K0.length + 1, K0.length + 2, K0.length + 4] [(2, [3]), (8, [0]), (11, [1]), (14, [2])] [] [] mix (by kernel_rfl) (by simp <;> omega) fun K hK => ?_
  simp (disch := omega) only [go_sem, ↓reduceIte, reduceCtorEq, pappend, plen]
  refine VCj.wr1 (id := K0.length) (k := plc) (b := cpB y) (hp0 _ _ _) (fun L hL _ => copied_ok y false _ L hL hy) (by simp (disch := omega) only [go_sem, ↓reduceIte, reduceCtorEq, pappend, plen]) (.inr (by simp (disch := omega) only [go_sem, ↓reduceIte, reduceCtorEq, pappend, plen])) rfl ?_
  simp (disch := omega) only [go_sem, ↓reduceIte, reduceCtorEq, pappend, plen]
  refine VCj.wr1 (id := K0.length + 1) (k := plc) (b := cpB u) (hp1 _ _ _ _) (fun L hL _ => copied_ok u false _ L hL hu) (by simp (disch := omega) only [go_sem, ↓reduceIte, reduceCtorEq, pappend, plen]) (.inr (by simp (disch := omega) only [go_sem, ↓reduceIte, reduceCtorEq, pappend, plen])) rfl ?_
  simp (disch := omega) only [go_sem, ↓reduceIte, reduceCtorEq, pappend, plen]
  refine VCj.wr1 (id := K0.length + 2) (k := plc) (b := cpB v) (hp2 _ _ _ _ _) (fun L hL _ => copied_ok v false _ L hL hv) (by simp (disch := omega) only [go_sem, ↓reduceIte, reduceCtorEq, pappend, plen]) (.inr (by simp (disch := omega) only [go_sem, ↓reduceIte, reduceCtorEq, pappend, plen])) rfl ?_
  simp (disch := omega) only [go_sem, ↓reduceIte, reduceCtorEq, pappend, plen]
  refine hK _ _ ?_; clear hK K
  refine PW.ret ⟨.agg [.int .i64 w, .int .i64 ht, .msl K0.length 1 0 y.length 1 true, .msl (K0.length + 1) 1 0 u.length 1 true, .msl (K0.length + 2) 1 0 v.length 1 true], by simp (disch := omega) only [go_sem, ↓reduceIte, reduceCtorEq, pappend, plen, presults, presult, List.mapM_cons, List.mapM_nil, Option.pure_def, Option.bind_eq_bind, Option.bind_some, Array.toList], ?_⟩
  refine Fin.cut (A := K0 ++ [cpB y, cpB u, cpB v]) (List.append_assoc _ [_, _, _] [_, _]).symm (by simp) (hscP (by simp) fun b hb x hx => ?_) (.id (ag_scoped fun x hx => ?_))
  · simp only [List.mem_cons, List.not_mem_nil, or_false] at hb
    rcases hb with rfl | rfl | rfl <;> exact bs_scoped _ _ x hx
  · simp only [List.mem_cons, List.not_mem_nil, or_false] at hx
    rcases hx with rfl | rfl | rfl | rfl | rfl
    · exact .int _ _
    · exact .int _ _
    · exact .msl (by simp only [List.length_append, List.length_cons, List.length_nil]; omega)
    · exact .msl (by simp only [List.length_append, List.length_cons, List.length_nil]; omega)
    · exact .msl (by simp only [List.length_append, List.length_cons, List.length_nil]; omega)

end Go.Proofs.YtahomnplappbpaaGreatDoor.Sc

namespace Go.Proofs.YtahomnplappbpaaGreatDoor.Sc
set_option linter.all false
set_option linter.unusedVariables false
set_option linter.unusedSimpArgs false
open Pm Ty Go.RowKit

theorem pand1_v (v : Int) (h : -200 ≤ v ∧ v ≤ 400) : pint .and .i64 v .i64 1 = some (.int .i64 (v % 2)) := by
  have key : ∀ n : Nat, n < 601 → IntKind.i64.wrap (((BitVec.ofInt 64 ((n : Int) - 200) &&& BitVec.ofInt 64 1).toNat : Nat) : Int) = ((n : Int) - 200) % 2 := by decide +kernel
  have := key (v + 200).toNat (by omega)
  rw [show (((v + 200).toNat : Nat) : Int) - 200 = v by omega] at this
  show some (PV.int .i64 (IntKind.i64.wrap (((BitVec.ofInt 64 v &&& BitVec.ofInt 64 1).toNat : Nat) : Int))) = _
  rw [this]
theorem pshr1_v (k' : IntKind) (v : Int) : pint .shr .i64 v k' 1 = some (.int .i64 (v / 2)) := by
  simp only [pint]
  rw [if_neg (by omega), show min (1 : Int).toNat IntKind.i64.bits = 1 by decide, Int.fdiv_eq_ediv_of_nonneg _ (by decide)]
  rfl
theorem pshr2_v (k' : IntKind) (v : Int) : pint .shr .i64 v k' 2 = some (.int .i64 (v / 4)) := by
  simp only [pint]
  rw [if_neg (by omega), show min (2 : Int).toNat IntKind.i64.bits = 2 by decide, Int.fdiv_eq_ediv_of_nonneg _ (by decide)]
  rfl

theorem inside_ok (i n : Int) (hn : 1 ≤ n ∧ n ≤ 10000) (H : Heap) : CallOk Tryz.prog 269 [.int .i64 i, .int .i64 n] H (.int .i64 (clm i n)) H := by
  refine CallOk.body (F0 := [(0, .int .i64 i), (1, .int .i64 n)]) Tryz.func269 rfl Tryz.ntmps269 Tryz.results269 rfl (by kernel_rfl) rfl ?_
  (repeat refine PW.seq ?_); refine PW.rg rfl fun K hK => ?_; simp (disch := omega) only [go_sem, ↓reduceIte, reduceCtorEq, pappend, plen]; refine hK _ _ ?_; clear hK K
  (repeat refine PW.seq ?_); refine PW.rg rfl fun K hK => ?_; simp (disch := omega) only [go_sem, ↓reduceIte, reduceCtorEq, pappend, plen]; refine hK _ _ ?_; clear hK K
  (refine PW.ret ⟨_, rfl, ?_⟩; first | refine .inl ⟨?_, rfl⟩ | refine Fin.base (.id' ?_ (.bool _)) | refine Fin.base (.id' ?_ (.int _ _)))
  simp [slot, Nat.beq]; unfold clm; omega

/-- Where a sample stands. -/
theorem clm_nat {i : Int} {n : Nat} (hn : 1 ≤ n) : ∃ a : Nat, clm i n = (a : Int) ∧ a < n := by
  have := clm_bd (i := i) (n := (n : Int)) (by omega)
  exact ⟨(clm i n).toNat, by omega, by omega⟩
theorem at_lt {a b W R : Nat} (ha : a < W) (hb : b < R) : b * W + a < W * R ∧ b * W ≤ W * R := by
  have h1 : (b + 1) * W ≤ R * W := Nat.mul_le_mul_right _ (by omega)
  rw [Nat.add_mul, Nat.one_mul, Nat.mul_comm R W] at h1
  omega
/-- The blocks that the interpolation looks at. -/
structure Itp (i2 i3 i4 i5 i6 : Nat) (p : List UInt8) (W R : Nat) (dx dy : Int) (H : Heap) : Prop where
  a : H[i2]? = some ⟨3, 0, [.int .i64 (W : Int)]⟩
  b : H[i3]? = some ⟨3, 1, [.int .i64 dx]⟩
  c : H[i4]? = some ⟨3, 0, [.int .i64 (R : Int)]⟩
  d : H[i5]? = some ⟨3, 1, [.int .i64 dy]⟩
  e : H[i6]? = some ⟨51, 0, [.slice (bs p) p.length false]⟩

set_option maxHeartbeats 1600000 in
theorem itp_ok (i2 i3 i4 i5 i6 : Nat) (p : List UInt8) (W R : Nat) (dx dy c r : Int) (H : Heap) (hI : Itp i2 i3 i4 i5 i6 p W R dx dy H) (hp : p.length = W * R) (hW : 1 ≤ W ∧ W ≤ 64) (hR : 1 ≤ R ∧ R ≤ 64) (hd : 0 ≤ dx ∧ dx ≤ 1 ∧ 0 ≤ dy ∧ dy ≤ 1) (hc : -1000 ≤ c ∧ c ≤ 1000 ∧ -1000 ≤ r ∧ r ≤ 1000) :
    CallOk Tryz.prog 268 [.int .i64 c, .int .i64 r, .ptr i2 0 0, .ptr i3 1 0, .ptr i4 0 0, .ptr i5 1 0, .ptr i6 0 0] H (.int .u8 ((smp p W R c r + smp p W R (c + dx) r + smp p W R c (r + dy) + smp p W R (c + dx) (r + dy) + 2) / 4)) H := by
  obtain ⟨h2, h3, h4, h5, h6⟩ := hI
  have n1 := fun K => inside_ok c W (by omega) K
  have n2 := fun K => inside_ok (c + dx) W (by omega) K
  have n3 := fun K => inside_ok r R (by omega) K
  have n4 := fun K => inside_ok (r + dy) R (by omega) K
  have s1 : smp p W R c r = byt p (clm r R * W + clm c W).toNat := rfl
  have s2 : smp p W R (c + dx) r = byt p (clm r R * W + clm (c + dx) W).toNat := rfl
  have s3 : smp p W R c (r + dy) = byt p (clm (r + dy) R * W + clm c W).toNat := rfl
  have s4 : smp p W R (c + dx) (r + dy) = byt p (clm (r + dy) R * W + clm (c + dx) W).toNat := rfl
  obtain ⟨a, ea, la⟩ := clm_nat (i := c) hW.1
  obtain ⟨b, eb, lb⟩ := clm_nat (i := c + dx) hW.1
  obtain ⟨u, eu, lu⟩ := clm_nat (i := r) hR.1
  obtain ⟨l, el, ll⟩ := clm_nat (i := r + dy) hR.1
  rw [ea] at n1; rw [eb] at n2; rw [eu] at n3; rw [el] at n4
  rw [ea, eu] at s1; rw [eb, eu] at s2; rw [ea, el] at s3; rw [eb, el] at s4
  have bg : W * R ≤ 64 * 64 := Nat.mul_le_mul (by omega) (by omega)
  have k1 := at_lt la lu
  have k2 := at_lt lb lu
  have k3 := at_lt la ll
  have k4 := at_lt lb ll
  have e0 : (u : Int) * (W : Int) = ((u * W : Nat) : Int) := by simp
  have e1 : (l : Int) * (W : Int) = ((l * W : Nat) : Int) := by simp
  have e2 : ((u * W : Nat) : Int) + (a : Int) = ((u * W + a : Nat) : Int) := by omega
  have e3 : ((u * W : Nat) : Int) + (b : Int) = ((u * W + b : Nat) : Int) := by omega
  have e4 : ((l * W : Nat) : Int) + (a : Int) = ((l * W + a : Nat) : Int) := by omega
  have e5 : ((l * W : Nat) : Int) + (b : Int) = ((l * W + b : Nat) : Int) := by omega
  rw [e0, e2, Int.toNat_natCast] at s1
  rw [e0, e3, Int.toNat_natCast] at s2
  rw [e1, e4, Int.toNat_natCast] at s3
  rw [e1, e5, Int.toNat_natCast] at s4
  rw [s1, s2, s3, s4]
  have r1 := byt_range p (u * W + a)
  have r2 := byt_range p (u * W + b)
  have r3 := byt_range p (l * W + a)
  have r4 := byt_range p (l * W + b)
  refine CallOk.body (F0 := [(0, .int .i64 c), (1, .int .i64 r), (2, .ptr i2 0 0), (3, .ptr i3 1 0), (4, .ptr i4 0 0), (5, .ptr i5 1 0), (6, .ptr i6 0 0)]) Tryz.func268 rfl Tryz.ntmps268 Tryz.results268 rfl (by kernel_rfl) rfl ?_
  (repeat refine PW.seq ?_); refine PW.rg rfl fun K hK => ?_; simp (disch := omega) only [go_sem, ↓reduceIte, reduceCtorEq, pappend, plen]; refine hK _ _ ?_; clear hK K
  (repeat refine PW.seq ?_); refine PW.draw mix (by kernel_rfl) fun K hK => ?_; simp (disch := omega) only [go_sem, ↓reduceIte, reduceCtorEq, pappend, plen, h2, h3]
  (repeat' (first | ((first | refine VO_cond ?_ ?_ | refine VOd_cond ?_ ?_ | refine VOg_cond ?_ ?_ | refine VOh_cond ?_ ?_ | refine VOi_cond ?_ ?_ | refine And.intro ?_ ?_) <;> intro h <;> (try simp only [Bool.not_eq_true', Bool.not_eq_false', decide_eq_true_eq, decide_eq_false_iff_not] at h) <;> simp (disch := omega) only [go_sem, ↓reduceIte, reduceCtorEq, pappend, plen, h2, h3, h]) | ((first | refine VCx.call (n1 _) rfl ?_ | refine VCx.call (n2 _) rfl ?_ | refine VCy.call (n1 _) rfl ?_ | refine VCy.call (n2 _) rfl ?_ | refine VCz.call (fun _ => n1 _) rfl ?_ | refine VCz.call (fun _ => n2 _) rfl ?_ | refine VCk.call (fun _ _ => n1 _) rfl ?_ | refine VCk.call (fun _ _ => n2 _) rfl ?_ | refine VCj.now (n1 _) rfl ?_ | refine VCj.now (n2 _) rfl ?_); simp (disch := omega) only [go_sem, ↓reduceIte, reduceCtorEq, pappend, plen, h2, h3])))
  refine hK _ _ ?_; clear hK K
  (repeat refine PW.seq ?_); refine PW.draw mix (by kernel_rfl) fun K hK => ?_; simp (disch := omega) only [go_sem, ↓reduceIte, reduceCtorEq, pappend, plen, h2, h4, h5, e0, e1]
  (repeat' (first | ((first | refine VO_cond ?_ ?_ | refine VOd_cond ?_ ?_ | refine VOg_cond ?_ ?_ | refine VOh_cond ?_ ?_ | refine VOi_cond ?_ ?_ | refine And.intro ?_ ?_) <;> intro h <;> (try simp only [Bool.not_eq_true', Bool.not_eq_false', decide_eq_true_eq, decide_eq_false_iff_not] at h) <;> simp (disch := omega) only [go_sem, ↓reduceIte, reduceCtorEq, pappend, plen, h2, h4, h5, e0, e1, h]) | ((first | refine VCx.call (n3 _) rfl ?_ | refine VCx.call (n4 _) rfl ?_ | refine VCy.call (n3 _) rfl ?_ | refine VCy.call (n4 _) rfl ?_ | refine VCz.call (fun _ => n3 _) rfl ?_ | refine VCz.call (fun _ => n4 _) rfl ?_ | refine VCk.call (fun _ _ => n3 _) rfl ?_ | refine VCk.call (fun _ _ => n4 _) rfl ?_ | refine VCj.now (n3 _) rfl ?_ | refine VCj.now (n4 _) rfl ?_); simp (disch := omega) only [go_sem, ↓reduceIte, reduceCtorEq, pappend, plen, h2, h4, h5, e0, e1])))
  refine hK _ _ ?_; clear hK K
  (repeat refine PW.seq ?_); refine PW.draw mix (by kernel_rfl) fun K hK => ?_; simp (disch := omega) only [go_sem, ↓reduceIte, reduceCtorEq, pappend, plen, h6, e2, e3, e4, e5, bs_get, length_bs]; refine hK _ _ ?_; clear hK K
  (repeat refine PW.seq ?_); refine PW.rg rfl fun K hK => ?_; simp (disch := omega) only [go_sem, ↓reduceIte, reduceCtorEq, pappend, plen, pshr2_v]; refine hK _ _ ?_; clear hK K
  (refine PW.ret ⟨_, rfl, ?_⟩; first | refine .inl ⟨?_, rfl⟩ | refine Fin.base (.id' ?_ (.bool _)) | refine Fin.base (.id' ?_ (.int _ _)))
  rfl

/-- The first k samples of a prediction. -/
def prk (p : List UInt8) (W R x y : Int) (w : Nat) (vx vy : Int) (k : Nat) : List UInt8 := rgB k fun k => pxl p W R (x + ((k % w : Nat) : Int)) (y + ((k / w : Nat) : Int)) vx vy
theorem prk_len (p : List UInt8) (W R x y : Int) (w : Nat) (vx vy : Int) (k : Nat) : (prk p W R x y w vx vy k).length = k := rgB_len _ _
theorem prk_snoc (p : List UInt8) (W R x y : Int) (w : Nat) (vx vy : Int) (j i : Nat) (hi : i < w) : bs (prk p W R x y w vx vy (j * w + (i + 1))) = bs (prk p W R x y w vx vy (j * w + i)) ++ [.int .u8 (pxl p W R (x + (i : Int)) (y + (j : Int)) vx vy)] := by
  have e1 : (j * w + i) % w = i := by rw [Nat.add_comm, Nat.add_mul_mod_self_right]; exact Nat.mod_eq_of_lt hi
  have e2 : (j * w + i) / w = j := by rw [Nat.add_comm, Nat.add_mul_div_right _ _ (by omega), Nat.div_eq_of_lt hi, Nat.zero_add]
  rw [prk, ← Nat.add_assoc, rgB_snoc, bs_append, bs_one, e1, e2, u8_val (pxl_bd _ _ _ _ _ _ _)]
  rfl
theorem prk_end (p : List UInt8) (W R x y : Int) (w h : Nat) (vx vy : Int) : prk p W R x y w vx vy (h * w) = prd p W R x y w h vx vy := by rw [prk, prd, Nat.mul_comm]

set_option maxHeartbeats 3200000 in
theorem predict_ok (p : List UInt8) (W R w hg : Nat) (x y vx vy : Int) (H : Heap) (hp : p.length = W * R) (hW : 1 ≤ W ∧ W ≤ 64) (hR : 1 ≤ R ∧ R ≤ 64) (hw : 1 ≤ w ∧ w ≤ 16) (hgb : hg ≤ 16) (hx : 0 ≤ x ∧ x ≤ 64 ∧ 0 ≤ y ∧ y ≤ 64) (hv : -63 ≤ vx ∧ vx ≤ 63 ∧ -63 ≤ vy ∧ vy ≤ 63) :
    CallOk Tryz.prog 234 [.slice (bs p) p.length false, .int .i64 (W : Int), .int .i64 (R : Int), .agg [.int .i64 x, .int .i64 y, .int .i64 (w : Int), .int .i64 (hg : Int)], .agg [.int .i64 vx, .int .i64 vy]] H (.slice (bs (prd p W R x y w hg vx vy)) (w * hg) false) H := by
  have e0 : (w : Int) * (hg : Int) = ((hg * w : Nat) : Int) := by rw [Nat.mul_comm]; simp
  have hbig : hg * w ≤ 16 * 16 := Nat.mul_le_mul hgb hw.2
  have a1 := pand1_v vx (by omega)
  have a2 := pand1_v vy (by omega)
  refine CallOk.body (F0 := [(0, .slice (bs p) p.length false), (1, .int .i64 (W : Int)), (2, .int .i64 (R : Int)), (3, .agg [.int .i64 x, .int .i64 y, .int .i64 (w : Int), .int .i64 (hg : Int)]), (4, .agg [.int .i64 vx, .int .i64 vy])]) Tryz.func234 rfl Tryz.ntmps234 Tryz.results234 rfl (by kernel_rfl) rfl ?_
  (repeat refine PW.seq ?_); refine PW.rg rfl fun K hK => ?_; simp (disch := omega) only [go_sem, ↓reduceIte, reduceCtorEq, pappend, plen]; refine hK _ _ ?_; clear hK K
  refine PW.view (Vs.place 3) ?_
  refine PW.view (Vs.place 3) ?_
  (repeat refine PW.seq ?_); refine PW.drawi [H.length + 5, H.length + 6] [(11, [0]), (12, [1])] [(11, 0), (12, 1)] [] mix (by kernel_rfl) (by simp <;> omega) fun K hK => ?_
  simp (disch := omega) only [go_sem, ↓reduceIte, reduceCtorEq, pappend, plen, arith, a1, a2]
  refine hK _ _ ?_; clear hK K
  (repeat refine PW.seq ?_); refine PW.rg rfl fun K hK => ?_; simp (disch := omega) only [go_sem, ↓reduceIte, reduceCtorEq, pappend, plen]; refine hK _ _ ?_; clear hK K
  (repeat refine PW.seq ?_); refine PW.rg rfl fun K hK => ?_; simp (disch := omega) only [go_sem, ↓reduceIte, reduceCtorEq, pappend, plen, e0]; refine hK _ _ ?_; clear hK K
  (repeat refine PW.seq ?_); refine PW.rg rfl fun K hK => ?_; simp (disch := omega) only [go_sem, ↓reduceIte, reduceCtorEq, pappend, plen]; refine hK _ _ ?_; clear hK K
  (repeat refine PW.seq ?_); refine PW.block (PW.loop ?_)
  suffices h1 : ∀ j : Nat, j ≤ hg → PL Tryz.prog _ _ [(8, .ptr (H.length + 3) 0 0), (9, .ptr (H.length + 4) 0 0), (13, .func 268 [] [.ptr (H.length + 1) 0 0, .ptr (H.length + 5) 1 0, .ptr (H.length + 2) 0 0, .ptr (H.length + 6) 1 0, .ptr H.length 0 0]), (14, .msl (H.length + 7) (j * w) 0 (j * w) 1 true), (31, .int .i64 (hg : Int)), (32, .int .i64 (j : Int))] (H ++ [⟨51, 0, [.slice (bs p) p.length false]⟩, ⟨3, 0, [.int .i64 (W : Int)]⟩, ⟨3, 0, [.int .i64 (R : Int)]⟩, ⟨304, 0, [.int .i64 x, .int .i64 y, .int .i64 (w : Int), .int .i64 (hg : Int)]⟩, ⟨41, 0, [.int .i64 vx, .int .i64 vy]⟩, ⟨3, 1, [.int .i64 (vx % 2)]⟩, ⟨3, 1, [.int .i64 (vy % 2)]⟩, ⟨5, j * w, bs (prk p W R x y w vx vy (j * w))⟩]) _ by
    exact PL.at [8, 9, 13, 14, 31, 32] (h1 0 (by omega)) (by rw [Nat.zero_mul]; rfl) (by rw [Nat.zero_mul]; rfl)
  refine cnt hg (fun j hj ih => ?_) ?_
  · have ct := lt_t hj
    refine PL.round ?_; (repeat refine PW.seq ?_); refine PW.rg rfl fun K hK => ?_; simp (disch := omega) only [go_sem, ↓reduceIte, reduceCtorEq, pappend, plen, ct]; refine hK _ _ ?_; clear hK K; (repeat refine PW.seq ?_); refine PW.cond (t := _) rfl (fun h => ?_) (fun h => ?_)
    rotate_left
    · cases h
    refine PW.skip ?_; (repeat refine PW.seq ?_); refine PW.block ?_
    (repeat refine PW.seq ?_); refine PW.rg rfl fun K hK => ?_; simp (disch := omega) only [go_sem, ↓reduceIte, reduceCtorEq, pappend, plen]; refine hK _ _ ?_; clear hK K
    (repeat refine PW.seq ?_); refine PW.rg rfl fun K hK => ?_; simp (disch := omega) only [go_sem, ↓reduceIte, reduceCtorEq, pappend, plen]; refine hK _ _ ?_; clear hK K
    (repeat refine PW.seq ?_); refine PW.block (PW.loop ?_)
    suffices h2 : ∀ i : Nat, i ≤ w → PL Tryz.prog _ _ [(8, .ptr (H.length + 3) 0 0), (9, .ptr (H.length + 4) 0 0), (13, .func 268 [] [.ptr (H.length + 1) 0 0, .ptr (H.length + 5) 1 0, .ptr (H.length + 2) 0 0, .ptr (H.length + 6) 1 0, .ptr H.length 0 0]), (14, .msl (H.length + 7) (j * w + i) 0 (j * w + i) 1 true), (15, .int .i64 (j : Int)), (31, .int .i64 (hg : Int)), (32, .int .i64 (j : Int)), (36, .int .i64 (w : Int)), (37, .int .i64 (i : Int))] (H ++ [⟨51, 0, [.slice (bs p) p.length false]⟩, ⟨3, 0, [.int .i64 (W : Int)]⟩, ⟨3, 0, [.int .i64 (R : Int)]⟩, ⟨304, 0, [.int .i64 x, .int .i64 y, .int .i64 (w : Int), .int .i64 (hg : Int)]⟩, ⟨41, 0, [.int .i64 vx, .int .i64 vy]⟩, ⟨3, 1, [.int .i64 (vx % 2)]⟩, ⟨3, 1, [.int .i64 (vy % 2)]⟩, ⟨5, j * w + i, bs (prk p W R x y w vx vy (j * w + i))⟩]) _ by
      exact PL.at [8, 9, 13, 14, 15, 31, 32, 36, 37] (h2 0 (by omega)) rfl rfl
    refine cnt w (fun i hi ih2 => ?_) ?_
    · have ct := lt_t hi
      refine PL.round ?_; (repeat refine PW.seq ?_); refine PW.rg rfl fun K hK => ?_; simp (disch := omega) only [go_sem, ↓reduceIte, reduceCtorEq, pappend, plen, ct]; refine hK _ _ ?_; clear hK K; (repeat refine PW.seq ?_); refine PW.cond (t := _) rfl (fun h => ?_) (fun h => ?_)
      rotate_left
      · cases h
      have b2 : (j + 1) * w ≤ hg * w := Nat.mul_le_mul_right _ (by omega)
      rw [Nat.add_mul, Nat.one_mul] at b2
      have pl := prk_len p W R x y w vx vy (j * w + i)
      have it := itp_ok (H.length + 1) (H.length + 5) (H.length + 2) (H.length + 6) H.length p W R (vx % 2) (vy % 2) (x + (i : Int) + vx / 2) (y + (j : Int) + vy / 2) (H ++ [⟨51, 0, [.slice (bs p) p.length false]⟩, ⟨3, 0, [.int .i64 (W : Int)]⟩, ⟨3, 0, [.int .i64 (R : Int)]⟩, ⟨304, 0, [.int .i64 x, .int .i64 y, .int .i64 (w : Int), .int .i64 (hg : Int)]⟩, ⟨41, 0, [.int .i64 vx, .int .i64 vy]⟩, ⟨3, 1, [.int .i64 (vx % 2)]⟩, ⟨3, 1, [.int .i64 (vy % 2)]⟩, ⟨5, j * w + i, bs (prk p W R x y w vx vy (j * w + i))⟩]) ⟨apn _ _ 1, apn _ _ 5, apn _ _ 2, apn _ _ 6, hp0 _ _ _⟩ hp hW hR (by omega) (by omega)
      rw [← pxl] at it
      rw [prk_snoc _ _ _ _ _ _ _ _ _ _ hi] at ih2
      refine PW.skip ?_; (repeat refine PW.seq ?_); refine PW.block ?_
      (repeat refine PW.seq ?_); refine PW.rg rfl fun K hK => ?_; simp (disch := omega) only [go_sem, ↓reduceIte, reduceCtorEq, pappend, plen]; refine hK _ _ ?_; clear hK K
      (repeat refine PW.seq ?_); refine PW.rg rfl fun K hK => ?_; simp (disch := omega) only [go_sem, ↓reduceIte, reduceCtorEq, pappend, plen, pshr1_v, length_bs, pl]; refine VCx.call (it) rfl ?_; simp (disch := omega) only [go_sem, ↓reduceIte, reduceCtorEq, pappend, plen, pshr1_v, length_bs, pl]; refine hK _ _ ?_; clear hK K
      (repeat refine PW.seq ?_); refine PW.rg rfl fun K hK => ?_; simp (disch := omega) only [go_sem, ↓reduceIte, reduceCtorEq, pappend, plen]; refine hK _ _ ?_; clear hK K
      have lp : (bs (prk p W R x y w vx vy (j * w + i)) ++ [PV.int .u8 (pxl p W R (x + (i : Int)) (y + (j : Int)) vx vy)]).length = j * w + (i + 1) := by simp [length_bs, pl]; omega
      exact PL.at [8, 9, 13, 14, 15, 31, 32, 36, 37] ih2 (by rw [lp]; rfl) (by rw [lp])
    · refine PL.round ?_; (repeat refine PW.seq ?_); refine PW.rg rfl fun K hK => ?_; simp (disch := omega) only [go_sem, ↓reduceIte, reduceCtorEq, pappend, plen, lt_f w]; refine hK _ _ ?_; clear hK K; (repeat refine PW.seq ?_); refine PW.cond (t := _) rfl (fun h => ?_) (fun h => ?_)
      · cases h
      refine PW.exit ?_
      (repeat refine PW.seq ?_); refine PW.rg rfl fun K hK => ?_; simp (disch := omega) only [go_sem, ↓reduceIte, reduceCtorEq, pappend, plen]; refine hK _ _ ?_; clear hK K
      exact PL.at [8, 9, 13, 14, 31, 32] ih (by rw [Nat.add_mul, Nat.one_mul]; rfl) (by rw [Nat.add_mul, Nat.one_mul])
  refine PL.round ?_; (repeat refine PW.seq ?_); refine PW.rg rfl fun K hK => ?_; simp (disch := omega) only [go_sem, ↓reduceIte, reduceCtorEq, pappend, plen, lt_f hg]; refine hK _ _ ?_; clear hK K; (repeat refine PW.seq ?_); refine PW.cond (t := _) rfl (fun h => ?_) (fun h => ?_)
  · cases h
  refine PW.exit ?_
  have pl := prk_len p W R x y w vx vy (hg * w)
  (repeat refine PW.seq ?_); refine PW.rg rfl fun K hK => ?_; simp (disch := omega) only [go_sem, ↓reduceIte, reduceCtorEq, pappend, plen]; refine hK _ _ ?_; clear hK K
  rw [← prk_end, Nat.mul_comm w hg]
  refine PW.ret ⟨_, rfl, ?_⟩
  exact Fin.base (Fz.mslC (e := 5) (xs := bs (prk p W R x y w vx vy (hg * w))) (by omega) (apn _ _ 7) (by rw [length_bs, pl]; omega) (FzC.refl (bs_scoped _ _)))

/-- What is filled, up to n. -/
def flB (N : Nat) (f : Nat → Int) (n : Nat) : List UInt8 := rgB N fun j => if j < n then f j else 0
theorem flB_len (N : Nat) (f : Nat → Int) (n : Nat) : (flB N f n).length = N := rgB_len _ _
theorem flB_0 (N : Nat) (f : Nat → Int) : bs (flB N f 0) = reps N [PV.int .u8 0] := by
  rw [bs_zero]
  congr 1
  apply List.ext_getElem
  · simp [flB, rgB]
  intro i h1 h2
  simp [flB, rgB, u8]
theorem flB_set {N : Nat} {f : Nat → Int} {n : Nat} (hf : 0 ≤ f n ∧ f n ≤ 255) : (bs (flB N f n)).set n (.int .u8 (f n)) = bs (flB N f (n + 1)) := by
  conv => lhs; rw [← u8_val hf]
  rw [bs_set]
  congr 1
  apply List.ext_getElem
  · simp [flB, rgB]
  intro i h1 h2
  simp only [flB, rgB, List.getElem_set, List.getElem_map, List.getElem_range]
  by_cases hi : n = i
  · subst hi; rw [if_pos rfl, if_pos (by omega)]
  · rw [if_neg hi]
    by_cases h3 : i < n
    · rw [if_pos h3, if_pos (by omega)]
    · rw [if_neg h3, if_neg (by omega)]
theorem flB_end (N : Nat) (f : Nat → Int) : flB N f N = rgB N f := rgB_ext fun i hi => if_pos hi

set_option maxHeartbeats 1600000 in
theorem mean_ok (a b : List UInt8) (f g : Bool) (H : Heap) (hl : a.length = b.length) (ha : a.length ≤ 8192) : CallOk Tryz.prog 235 [.slice (bs a) a.length f, .slice (bs b) b.length g] H (.slice (bs (mnb a b)) a.length false) H := by
  have hz := flB_0 a.length (fun i => (byt a i + byt b i + 1) / 2)
  have he := flB_end a.length (fun i => (byt a i + byt b i + 1) / 2)
  rw [← mnb] at he
  refine CallOk.body (F0 := [(0, .slice (bs a) a.length f), (1, .slice (bs b) b.length g)]) Tryz.func235 rfl Tryz.ntmps235 Tryz.results235 rfl (by kernel_rfl) rfl ?_
  (repeat refine PW.seq ?_); refine PW.rg rfl fun K hK => ?_; simp (disch := omega) only [go_sem, ↓reduceIte, reduceCtorEq, pappend, plen]; refine hK _ _ ?_; clear hK K
  (repeat refine PW.seq ?_); refine PW.rg rfl fun K hK => ?_; simp (disch := omega) only [go_sem, ↓reduceIte, reduceCtorEq, pappend, plen]; refine hK _ _ ?_; clear hK K
  (repeat refine PW.seq ?_); refine PW.rg rfl fun K hK => ?_; simp (disch := omega) only [go_sem, ↓reduceIte, reduceCtorEq, pappend, plen]; refine hK _ _ ?_; clear hK K
  (repeat refine PW.seq ?_); refine PW.block (PW.loop ?_)
  suffices h1 : ∀ k : Nat, k ≤ a.length → PL Tryz.prog _ _ [(1, .slice (bs b) b.length g), (5, .msl H.length 0 0 a.length 1 true), (11, .slice (bs a) a.length f), (12, .int .i64 (a.length : Int)), (13, .int .i64 (k : Int))] (H ++ [⟨5, 0, bs (flB a.length (fun i => (byt a i + byt b i + 1) / 2) k)⟩]) _ by
    exact PL.at [1, 5, 11, 12, 13] (h1 0 (by omega)) rfl (by rw [hz]; rfl)
  refine cnt a.length (fun k hk ih => ?_) ?_
  · have ct := lt_t hk
    have r1 := byt_range a k
    have r2 := byt_range b k
    have fl := flB_len a.length (fun i => (byt a i + byt b i + 1) / 2) k
    have fs := flB_set (N := a.length) (f := fun i => (byt a i + byt b i + 1) / 2) (n := k) (by show 0 ≤ (byt a k + byt b k + 1) / 2 ∧ (byt a k + byt b k + 1) / 2 ≤ 255; omega)
    refine PL.round ?_; (repeat refine PW.seq ?_); refine PW.rg rfl fun K hK => ?_; simp (disch := omega) only [go_sem, ↓reduceIte, reduceCtorEq, pappend, plen, ct]; refine hK _ _ ?_; clear hK K; (repeat refine PW.seq ?_); refine PW.cond (t := _) rfl (fun h => ?_) (fun h => ?_)
    rotate_left
    · cases h
    refine PW.skip ?_; (repeat refine PW.seq ?_); refine PW.block ?_
    (repeat refine PW.seq ?_); refine PW.rg rfl fun K hK => ?_; simp (disch := omega) only [go_sem, ↓reduceIte, reduceCtorEq, pappend, plen, bs_get, length_bs]; refine hK _ _ ?_; clear hK K
    (repeat refine PW.seq ?_); refine PW.rg rfl fun K hK => ?_; simp (disch := omega) only [go_sem, ↓reduceIte, reduceCtorEq, pappend, plen, bs_get, length_bs, fl, pshr1_v, fs]; refine hK _ _ ?_; clear hK K
    (repeat refine PW.seq ?_); refine PW.rg rfl fun K hK => ?_; simp (disch := omega) only [go_sem, ↓reduceIte, reduceCtorEq, pappend, plen]; refine hK _ _ ?_; clear hK K
    exact PL.at [1, 5, 11, 12, 13] ih rfl rfl
  refine PL.round ?_; (repeat refine PW.seq ?_); refine PW.rg rfl fun K hK => ?_; simp (disch := omega) only [go_sem, ↓reduceIte, reduceCtorEq, pappend, plen, lt_f a.length]; refine hK _ _ ?_; clear hK K; (repeat refine PW.seq ?_); refine PW.cond (t := _) rfl (fun h => ?_) (fun h => ?_)
  · cases h
  refine PW.exit ?_
  rw [he]
  (repeat refine PW.seq ?_); refine PW.rg rfl fun K hK => ?_; simp (disch := omega) only [go_sem, ↓reduceIte, reduceCtorEq, pappend, plen]; refine hK _ _ ?_; clear hK K
  refine PW.ret ⟨_, rfl, ?_⟩
  exact Fin.base (Fz.mslC (e := 5) (xs := bs (mnb a b)) (by omega) (hp0 _ _ _) (by rw [length_bs, mnb_len]; omega) (FzC.refl (bs_scoped _ _)))

end Go.Proofs.YtahomnplappbpaaGreatDoor.Sc
