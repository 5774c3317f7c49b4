/-
  Parts of the proof, put together in one text. No condition.
-/
import Derived.Test.YtahomnplappbpaaGreatDoorRows
import Derived.Test.YtahomnplappbpaaGreatDoorV09
import Derived.Test.YtahomnplappbpaaGreatDoorV18
import Derived.Test.YtahomnplappbpaaGreatDoorV13
namespace Go.Proofs.YtahomnplappbpaaGreatDoor.Ln
set_option linter.all false
set_option linter.unusedVariables false
set_option linter.unusedSimpArgs false
open Go.ChangeShapes Go.WideShapes Go.ChangeAt Go.RowKit Pm Sc

theorem own : ownKnob Tryz.prog.godebug = none := by kernel_rfl
theorem laidOut : laidOutB Tryz.prog = true := by kernel_rfl

theorem bytes_of {zs : List Int} (hw : ∀ z ∈ zs, (Lit.int .u8 z).wf = true) : ∃ p : List UInt8, zs.map (PV.int .u8) = bs p ∧ p.length = zs.length := by
  refine ⟨zs.map fun z => UInt8.ofNat z.toNat, ?_, by simp⟩
  simp only [bs, List.map_map]
  refine List.map_congr_left fun z hz => ?_
  have h1 := hw z hz
  simp [Lit.wf, IntKind.min, IntKind.max, IntKind.signed, IntKind.bits] at h1
  simp only [Function.comp, UInt8.toNat_ofNat']
  congr 1
  omega
theorem shp_bytes {ps : List PV} (h : Shp Tryz.prog 51 ps) : ∃ p : List UInt8, ps = [.slice (bs p) p.length false] := by
  obtain ⟨zs, rfl, _, hw⟩ := h.of_ints Tryz.underlying51 Tryz.underlying5
  obtain ⟨p, e, hl⟩ := bytes_of hw
  exact ⟨p, by rw [e, hl]⟩
theorem shp_int {ps : List PV} (h : Shp Tryz.prog 3 ps) : ∃ n : Int, ps = [.int .i64 n] ∧ (-9223372036854775808 ≤ n ∧ n ≤ 9223372036854775807) := by
  obtain ⟨n, rfl, hw⟩ := h.of_int Tryz.underlying3
  simp [Lit.wf, IntKind.min, IntKind.max, IntKind.signed, IntKind.bits] at hw
  exact ⟨n, rfl, hw⟩
theorem shp_bool {ps : List PV} (h : Shp Tryz.prog 4 ps) : ∃ b, ps = [.bool b] := h.of_bool Tryz.underlying4
theorem shp_frame {ps : List PV} (h : Shp Tryz.prog 53 ps) : ∃ f : Fm, ps = fmc f := by
  obtain ⟨pss, rfl, hf⟩ := h.fields Tryz.underlying53
  match pss, hf with
  | [a, b, c, d, e], ⟨ha, hb, hc, hd, he, _⟩ =>
    obtain ⟨a, rfl, _⟩ := shp_int ha
    obtain ⟨b, rfl, _⟩ := shp_int hb
    obtain ⟨c, rfl⟩ := shp_bytes hc
    obtain ⟨d, rfl⟩ := shp_bytes hd
    obtain ⟨e, rfl⟩ := shp_bytes he
    exact ⟨⟨a, b, c, d, e⟩, rfl⟩
end Go.Proofs.YtahomnplappbpaaGreatDoor.Ln

namespace Go.Proofs.YtahomnplappbpaaGreatDoor.Sc
set_option linter.all false
set_option linter.unusedVariables false
set_option linter.unusedSimpArgs false
open Pm Ty Go.RowKit

/-! ### lists of numbers and samples, entry by entry -/
def rgI (n : Nat) (f : Nat → Int) : List Int := (List.range n).map f
/-- A sample. -/
def u8 (v : Int) : UInt8 := UInt8.ofNat v.toNat
theorem u8_val {v : Int} (h : 0 ≤ v ∧ v ≤ 255) : ((u8 v).toNat : Int) = v := by
  unfold u8
  rw [UInt8.toNat_ofNat']
  omega
def rgB (n : Nat) (f : Nat → Int) : List UInt8 := (List.range n).map fun k => u8 (f k)
theorem rgB_len (n : Nat) (f : Nat → Int) : (rgB n f).length = n := by simp [rgB]
theorem rgB_ext {n : Nat} {f g : Nat → Int} (h : ∀ i, i < n → f i = g i) : rgB n f = rgB n g := List.map_congr_left fun i hi => by rw [h i (List.mem_range.1 hi)]
theorem byt_app_l {p q : List UInt8} {i : Nat} (h : i < p.length) : byt (p ++ q) i = byt p i := by
  simp only [byt, List.getD_eq_getElem?_getD, List.getElem?_append_left h]
theorem byt_app_r {p q : List UInt8} {i : Nat} (h : p.length ≤ i) : byt (p ++ q) i = byt q (i - p.length) := by
  simp only [byt, List.getD_eq_getElem?_getD, List.getElem?_append_right h]
theorem byt_take {p : List UInt8} {i n : Nat} (h : i < n) : byt (p.take n) i = byt p i := by
  simp only [byt, List.getD_eq_getElem?_getD, List.getElem?_take, if_pos h]
theorem byt_drop (p : List UInt8) (i n : Nat) : byt (p.drop n) i = byt p (n + i) := by
  simp only [byt, List.getD_eq_getElem?_getD, List.getElem?_drop]
theorem ctl_at (p : List UInt8) (a s w : Nat) : ∀ r, (∀ k, k < r → a + k * s + w ≤ p.length) → ∀ j c, j < r → c < w → byt (ctl p a s w r) (j * w + c) = byt p (a + j * s + c)
  | 0, _, j, c, hj, _ => by omega
  | r + 1, h, j, c, hj, hc => by
    have hr := h r (by omega)
    have hl := ctl_len p a s w r fun k hk => h k (by omega)
    rw [ctl_snoc]
    by_cases hjr : j = r
    · subst hjr
      rw [byt_app_r (by omega), hl, show j * w + c - j * w = c by omega, byt_take hc, byt_drop]
    · have h1 : j * w + w ≤ r * w := by
        have : (j + 1) * w ≤ r * w := Nat.mul_le_mul_right _ (by omega)
        rwa [Nat.succ_mul] at this
      rw [byt_app_l (by omega), ctl_at p a s w r (fun k hk => h k (by omega)) j c (by omega) hc]
/-! ### sums -/
end Go.Proofs.YtahomnplappbpaaGreatDoor.Sc

namespace Go.Proofs.YtahomnplappbpaaGreatDoor.Sc
set_option linter.all false
set_option linter.unusedVariables false
set_option linter.unusedSimpArgs false
open Pm Ty Go.RowKit

/-! ### the transform -/
/-! ### scans and steps -/
/-! ### blocks of a macroblock -/
def bfr (n : Nat) (fd : Bool) : Nat := if 4 ≤ n then 0 else n % 2 * 8 + n / 2 * (if fd then 16 else 128)
def bst (n : Nat) (fd : Bool) : Nat := if 4 ≤ n then 8 else if fd then 32 else 16
def bps (n : Nat) (fd : Bool) (k : Nat) : Nat := bfr n fd + k / 8 * bst n fd + k % 8
def bln (n : Nat) : Nat := if 4 ≤ n then 64 else 256
def blk (p : List UInt8) (n : Nat) (fd : Bool) : List Int := rgI 64 fun k => byt p (bps n fd k)
end Go.Proofs.YtahomnplappbpaaGreatDoor.Sc

namespace Go.Proofs.YtahomnplappbpaaGreatDoor.Sc
set_option linter.all false
set_option linter.unusedVariables false
set_option linter.unusedSimpArgs false
open Pm Ty Go.RowKit

/-! ### prediction -/
/-! ### rows by turns -/
/-! ### means -/
/-! ### planes that are close -/
def nr (D : Int) (p q : List UInt8) : Prop := p.length = q.length ∧ ∀ i, -D ≤ byt p i - byt q i ∧ byt p i - byt q i ≤ D
theorem nr.refl {D : Int} (h : 0 ≤ D) (p : List UInt8) : nr D p p := ⟨rfl, fun i => by omega⟩
theorem byt_out {p : List UInt8} {i : Nat} (h : p.length ≤ i) : byt p i = 0 := by
  simp [byt, List.getD_eq_getElem?_getD, List.getElem?_eq_none h]
theorem nr.mk' {D : Int} (hD : 0 ≤ D) {p q : List UInt8} (hl : p.length = q.length) (h : ∀ i, i < p.length → -D ≤ byt p i - byt q i ∧ byt p i - byt q i ≤ D) : nr D p q := ⟨hl, fun i => by
  by_cases hi : i < p.length
  · exact h i hi
  · rw [byt_out (by omega), byt_out (by omega)]; omega⟩
theorem nr.D0 {D : Int} {p q : List UInt8} (h : nr D p q) : 0 ≤ D := by have := h.2 0; omega
theorem nr.ctl {D : Int} {p q : List UInt8} (h : nr D p q) {a s w r : Nat} (hf : ∀ k, k < r → a + k * s + w ≤ p.length) : nr D (ctl p a s w r) (ctl q a s w r) := by
  have hf' : ∀ k, k < r → a + k * s + w ≤ q.length := fun k hk => by rw [← h.1]; exact hf k hk
  refine nr.mk' h.D0 (by rw [ctl_len p a s w r hf, ctl_len q a s w r hf']) fun i hi => ?_
  rw [ctl_len p a s w r hf] at hi
  have hw : 0 < w := by
    rcases Nat.eq_zero_or_pos w with h | h
    · subst h; simp at hi
    · exact h
  obtain ⟨j, c, hc, rfl⟩ : ∃ j c, c < w ∧ i = j * w + c := ⟨i / w, i % w, Nat.mod_lt _ hw, by rw [Nat.mul_comm]; exact (Nat.div_add_mod _ _).symm⟩
  have hj : j < r := by
    rcases Nat.lt_or_ge j r with h | h
    · exact h
    · have := Nat.mul_le_mul_right w h; omega
  rw [ctl_at p a s w r hf j c hj hc, ctl_at q a s w r hf' j c hj hc]
  exact h.2 _
end Go.Proofs.YtahomnplappbpaaGreatDoor.Sc

namespace Go.Proofs.YtahomnplappbpaaGreatDoor.Sc
set_option linter.all false
set_option linter.unusedVariables false
set_option linter.unusedSimpArgs false
open Pm Ty Go.RowKit

end Go.Proofs.YtahomnplappbpaaGreatDoor.Sc

namespace Go.Proofs.YtahomnplappbpaaGreatDoor.Pm
set_option linter.all false
set_option linter.unusedVariables false
set_option linter.unusedSimpArgs false
open Go.RowKit

variable {P : Program} {C : Ctx} {H K : Heap} {w : World} {F : Fr} {a : Act} {N : Nat}

/-! ### footprints -/
def posOf : List (Nat × List Nat) → Nat → List Nat
  | [], _ => []
  | (s, ps) :: l, t => match Nat.beq s t with | true => ps | false => posOf l t
def posO (pm : List (Nat × List Nat)) : Operand → List Nat
  | .tmp t => posOf pm t
  | .const _ => []
  | .func _ => []
  | .global _ => []
def opPos (pm : List (Nat × List Nat)) (op : Op) : List Nat := (op.operands.toList.map (posO pm)).flatten
/-- The blocks at places of a list. -/
def atP (ids ps : List Nat) : List Nat := ps.filterMap fun p => ids[p]?
structure Fp where
  r : List Nat
  l : List Nat
  w : List Nat
  v : List Nat
/-- 0: pure; 1: it looks at versions alone; 2: it reads; 3: a store; 4: append; 5: copy; 6: a map's update; 7: a call; 8: none of these. -/
def kindI (op : Op) : Nat := match pureOp op with
  | true => 0
  | false => match isCall op with
    | true => 7
    | false => match eff op with
      | false => (match liveOnly op with | true => 1 | false => 2)
      | true => match op with
        | .store .. => 3
        | .call { callee := .builtin .append, .. } => 4
        | .call { callee := .builtin .copy, .. } => 5
        | .mapUpdate .. => 6
        | .insert .. => 6
        | _ => 8
def fstO (op : Op) : Option Operand := match op with
  | .store _ a _ => some a
  | .call { args, .. } => args.toList[0]?
  | .mapUpdate _ m _ _ => some m
  | .insert _ m _ _ => some m
  | _ => none
def fstP (pm : List (Nat × List Nat)) (op : Op) : List Nat := match fstO op with | some x => posO pm x | none => []
/-- A new block: its cells, and the value that leads to it. -/
def pnew (P : Program) (op : Op) (f : Nat → PV) : Option (Blk × (Nat → PV)) := match op with
  | .alloc elem => (zcells P elem).map fun z => (⟨elem, 1, z⟩, fun r => .ptr r 1 0)
  | .box elem x => match (ev f x).cells.all PV.cell with | true => some (⟨elem, 1, (ev f x).cells⟩, fun r => .ptr r 1 0) | false => none
  | .makeSlice t l c => match P.underlying t, ev f l, ev f c with
    | some (.slice e), .int _ l, .int _ c => match szT P e, byT P e, zcells P e with
      | some n, some b, some z => if 0 ≤ l ∧ l ≤ c ∧ (b : Int) * c ≤ 140737488355328 ∧ c ≤ 140737488355328 ∧ z.length = n ∧ 0 < n then some (⟨e, 1, reps l.toNat z⟩, fun r => .msl r 1 0 l.toNat n true) else none
      | _, _, _ => none
    | _, _, _ => none
  | .buildSlice t len parts => match P.underlying t with
    | some (.slice e) => match szT P e, zcells P e with
      | some n, some z => if z.length = n ∧ 0 < len * n ∧ len * n ≤ 65536 then (pfill (fun i => some (i * n, n)) (reps len z) (parts.toList.map fun p => (p.1, ev f p.2))).map fun c => (⟨e, 1, c⟩, fun r => .msl r 1 0 len n true) else none
      | _, _ => none
    | _ => none
  | .call { callee := .builtin .append, args, argTypes } => match argTypes.toList, args.toList.map (ev f) with
    | [t, tx], [.slice xs len full, .slice ys m _] => match P.underlying t, P.underlying tx with
      | some (.slice e), some (.slice _) => match szT P e, byT P e, zcells P e with
        | some sz, some b, some z => if 0 < sz ∧ z.length = sz ∧ full = true ∧ xs.length = len * sz ∧ 0 < m ∧ ys.length = m * sz ∧ (len + m) * b ≤ 140737488355328 ∧ len + m ≤ 140737488355328 then some (⟨e, 1, xs ++ ys⟩, fun r => .msl r 1 0 (len + m) sz true) else none
        | _, _, _ => none
      | _, _ => none
    | _, _ => none
  | _ => none
def grows : Op → Bool
  | .alloc .. | .box .. | .makeSlice .. | .buildSlice .. => true
  | .call { callee := .builtin .append, .. } => true
  | _ => false
def resI (rs : List (Nat × Nat)) (o : Oper) : Option Nat := match grows o.op with | true => rsv rs o.dst | false => none
def fpOf (pm : List (Nat × List Nat)) (rs : List (Nat × Nat)) (ro : List Nat) (o : Oper) : Fp := match resI rs o with
  | some p => ⟨[], [], [p], [p]⟩
  | none => match kindI o.op with
    | 0 => ⟨[], [], [], []⟩
    | 1 => ⟨[], opPos pm o.op, [], []⟩
    | 2 => ⟨opPos pm o.op, [], [], []⟩
    | 3 => ⟨[], [], fstP pm o.op, []⟩
    | 4 => ⟨opPos pm o.op, [], fstP pm o.op, fstP pm o.op⟩
    | 5 => ⟨opPos pm o.op, [], fstP pm o.op, []⟩
    | 6 => ⟨opPos pm o.op, [], fstP pm o.op, []⟩
    | 7 => match o.dst with
      | some d => (match ro.elem d with | true => ⟨opPos pm o.op, opPos pm o.op, [], []⟩ | false => ⟨opPos pm o.op, opPos pm o.op, opPos pm o.op, opPos pm o.op⟩)
      | none => ⟨opPos pm o.op, opPos pm o.op, opPos pm o.op, opPos pm o.op⟩
    | _ => ⟨[], [], [], []⟩
def dis (a b : List Nat) : Bool := a.all fun i => !(b.elem i)
theorem dis_of {a b : List Nat} (h : dis a b = true) : ∀ i ∈ a, i ∉ b := fun i hi hb => by
  have := List.all_eq_true.1 h i hi
  rw [List.elem_eq_mem] at this
  simp [hb] at this
def compatI (ds : List (Option Nat)) (pm : List (Nat × List Nat)) (rs : List (Nat × Nat)) (ro : List Nat) (x y : Oper) : Bool :=
  clear ds x y && clear ds y x && dis (fpOf pm rs ro x).w (fpOf pm rs ro y).r && dis (fpOf pm rs ro x).w (fpOf pm rs ro y).w && dis (fpOf pm rs ro y).w (fpOf pm rs ro x).r && dis (fpOf pm rs ro x).v (fpOf pm rs ro y).l && dis (fpOf pm rs ro y).v (fpOf pm rs ro x).l

theorem atP_mem {ids ps : List Nat} {i : Nat} (h : i ∈ atP ids ps) : ∃ p ∈ ps, ids[p]? = some i := List.mem_filterMap.1 h
theorem atP_in {ids ps : List Nat} {i : Nat} (h : i ∈ atP ids ps) : i ∈ ids := by
  obtain ⟨p, _, hp⟩ := atP_mem h
  exact List.mem_of_getElem? hp
theorem atP_dis {ids a b : List Nat} (hn : ids.Nodup) (h : dis a b = true) {i : Nat} (ha : i ∈ atP ids a) : i ∉ atP ids b := fun hb => by
  obtain ⟨p, hp, e⟩ := atP_mem ha
  obtain ⟨q, hq, e'⟩ := atP_mem hb
  have : p = q := (List.getElem?_inj (List.getElem?_eq_some_iff.1 e).1 hn).1 (e.trans e'.symm)
  subst this
  exact dis_of h p hp hq

/-- Two heaps that agree on what is looked at. -/
structure Agr (ids : List Nat) (fp : Fp) (H K : Heap) : Prop where
  len : K.length = H.length
  out : ∀ i, i ∉ ids → K[i]? = H[i]?
  inn : ∀ i, i ∈ atP ids fp.r ∨ i ∈ atP ids fp.w → K[i]? = H[i]?
  liv : ∀ i, i ∈ atP ids fp.l → VEq H K i
theorem Agr.refl (ids : List Nat) (fp : Fp) (H : Heap) : Agr ids fp H H := ⟨rfl, fun _ _ => rfl, fun _ _ => rfl, fun _ _ => rfl⟩
theorem Agr.trans {ids : List Nat} {fp : Fp} {H K L : Heap} (h : Agr ids fp H K) (k : Agr ids fp K L) : Agr ids fp H L := ⟨k.len.trans h.len, fun i hi => (k.out i hi).trans (h.out i hi), fun i hi => (k.inn i hi).trans (h.inn i hi), fun i hi => Eq.trans (k.liv i hi) (h.liv i hi)⟩
/-- What may have changed. -/
structure Upd (ids : List Nat) (fp : Fp) (H H' : Heap) : Prop where
  len : H'.length = H.length
  out : ∀ i, i ∉ atP ids fp.w → H'[i]? = H[i]?
  ver : ∀ i, i ∉ atP ids fp.v → VEq H H' i
theorem Upd.refl (ids : List Nat) (fp : Fp) (H : Heap) : Upd ids fp H H := ⟨rfl, fun _ _ => rfl, fun _ _ => rfl⟩
theorem Upd.set {ids : List Nat} {fp : Fp} {id : Nat} {k b : Blk} (hk : H[id]? = some k) (hw : id ∈ atP ids fp.w) (hv : b.ver = k.ver ∨ id ∈ atP ids fp.v) : Upd ids fp H (H.set id b) := by
  have hid : id < H.length := (List.getElem?_eq_some_iff.1 hk).1
  refine ⟨by simp, fun i hi => ?_, fun i hi => ?_⟩
  · rw [List.getElem?_set_ne (show id ≠ i from fun e => hi (by rw [← e]; exact hw))]
  · unfold VEq
    by_cases e : id = i
    · subst e
      rcases hv with hv | hv
      · rw [List.getElem?_set_self hid, hk]; simp [hv]
      · exact absurd hv hi
    · rw [List.getElem?_set_ne e]

/-- A slice of no elements, made without a place. -/
def pnew0 (P : Program) (op : Op) (f : Nat → PV) : Option PV := match op with
  | .makeSlice t l c => match P.underlying t, ev f l, ev f c with
    | some (.slice e), .int _ l, .int _ c => match byT P e, zcells P e with
      | some _, some _ => if l = 0 ∧ c = 0 then some (.slice [] 0 true) else none
      | _, _ => none
    | _, _, _ => none
  | _ => none
def popI (P : Program) (ids : List Nat) (rs : List (Nat × Nat)) (o : Oper) (f : Nat → PV) (H : Heap) : Option (PV × Heap) := match resI rs o with
  | some p => match ids[p]? with
    | some r => match pnew P o.op f with
      | some (b, mk) => match H[r]? with
        | some k => if k.e = b.e ∧ k.ver = 0 then some (mk r, H.set r b) else none
        | none => none
      | none => none
    | none => (pnew0 P o.op f).map fun v => (v, H)
  | none => pop P o.op f H
def StI (P : Program) (ids : List Nat) (rs : List (Nat × Nat)) (o : Oper) (f : Nat → PV) (H : Heap) (v : PV) (H' : Heap) : Prop := match pcallee o.op f with
  | some (g, args) => CallOk P g args H v H'
  | none => popI P ids rs o f H = some (v, H')
/-- It does the same in every heap that agrees. -/
def Loc (P : Program) (ids : List Nat) (rs : List (Nat × Nat)) (fp : Fp) (o : Oper) (f : Nat → PV) (H : Heap) (v : PV) (H' : Heap) : Prop :=
  Upd ids fp H H' ∧ ∀ K, Agr ids fp H K → ∃ K', StI P ids rs o f K v K' ∧ Upd ids fp K K' ∧ ∀ i, i ∈ atP ids fp.w → K'[i]? = H'[i]?
def ExI (P : Program) (all : List Oper) (ids : List Nat) (pm : List (Nat × List Nat)) (rs : List (Nat × Nat)) (ro : List Nat) (o : Oper) (f : Nat → PV) (H : Heap) (v : PV) (H' : Heap) : Prop :=
  (want all f o = some false ∧ v = .tup [] ∧ H' = H) ∨ (want all f o = some true ∧ Loc P ids rs (fpOf pm rs ro o) o f H v H')

theorem Loc.now {ids : List Nat} {rs : List (Nat × Nat)} {fp : Fp} {o : Oper} {f : Nat → PV} {v : PV} {H' : Heap} (h : Loc P ids rs fp o f H v H') : StI P ids rs o f H v H' := by
  obtain ⟨u, h⟩ := h
  obtain ⟨K', h1, h2, h3⟩ := h H (.refl _ _ _)
  have : K' = H' := List.ext_getElem? fun i => by
    by_cases hi : i ∈ atP ids fp.w
    · exact h3 i hi
    · rw [h2.out i hi, u.out i hi]
  rw [← this]; exact h1
theorem Loc.read {ids : List Nat} {rs : List (Nat × Nat)} {fp : Fp} {o : Oper} {f : Nat → PV} {v : PV} (h : ∀ K, Agr ids fp H K → StI P ids rs o f K v K) : Loc P ids rs fp o f H v H :=
  ⟨.refl _ _ _, fun K hK => ⟨K, h K hK, .refl _ _ _, fun i hi => hK.inn i (.inr hi)⟩⟩
theorem Loc.set {ids : List Nat} {rs : List (Nat × Nat)} {fp : Fp} {o : Oper} {f : Nat → PV} {v : PV} {id : Nat} {k b : Blk} (hk : H[id]? = some k) (hw : id ∈ atP ids fp.w) (hv : b.ver = k.ver ∨ id ∈ atP ids fp.v)
    (h : ∀ K, Agr ids fp H K → StI P ids rs o f K v (K.set id b)) : Loc P ids rs fp o f H v (H.set id b) := by
  refine ⟨.set hk hw hv, fun K hK => ⟨K.set id b, h K hK, .set ((hK.inn id (.inr hw)).trans hk) hw hv, fun i hi => ?_⟩⟩
  by_cases e : id = i
  · subst e
    have hid : id < H.length := (List.getElem?_eq_some_iff.1 hk).1
    rw [List.getElem?_set_self hid, List.getElem?_set_self (by rw [hK.len]; exact hid)]
  · rw [List.getElem?_set_ne e, List.getElem?_set_ne e, hK.inn i (.inr hi)]

theorem popI_congr {ids : List Nat} {rs : List (Nat × Nat)} {o : Oper} {f g : Nat → PV} (h : ∀ x ∈ o.op.operands.toList, ev f x = ev g x) : popI P ids rs o f H = popI P ids rs o g H := by
  have e : pnew P o.op f = pnew P o.op g := by
    unfold pnew
    split
    · rfl
    · rename_i el x ho; rw [ho] at h; rw [h x (by simp [Op.operands])]
    · rename_i t l c ho; rw [ho] at h; rw [h l (by simp [Op.operands]), h c (by simp [Op.operands])]
    · rename_i t len parts ho
      rw [ho] at h
      have : parts.toList.map (fun p => (p.1, ev f p.2)) = parts.toList.map (fun p => (p.1, ev g p.2)) := List.map_congr_left fun p hp => by rw [h p.2 (by simp [Op.operands]; exact ⟨_, Array.mem_toList_iff.1 hp⟩)]
      rw [this]
    · rename_i args ts ho
      rw [ho] at h
      have : args.toList.map (ev f) = args.toList.map (ev g) := List.map_congr_left fun x hx => h x (by simp [Op.operands, Call.operands]; exact Array.mem_toList_iff.1 hx)
      rw [this]
    · rfl
  have e0 : pnew0 P o.op f = pnew0 P o.op g := by
    unfold pnew0
    split
    · rename_i t l c ho; rw [ho] at h; rw [h l (by simp [Op.operands]), h c (by simp [Op.operands])]
    · rfl
  unfold popI
  split
  · rw [e, e0]
  · exact pop_congr h
theorem ExI.congr {all : List Oper} {ids : List Nat} {pm : List (Nat × List Nat)} {rs : List (Nat × Nat)} {ro : List Nat} {o : Oper} {f g : Nat → PV} {v : PV} {H' : Heap} (h : ∀ t ∈ reads (all.map (·.dst)) o, f t = g t) (he : ExI P all ids pm rs ro o f H v H') : ExI P all ids pm rs ro o g H v H' := by
  have e1 : want all f o = want all g o := want_congr fun t ht => h t (List.mem_append.2 (.inr ht))
  have e2 : ∀ x ∈ o.op.operands.toList, ev f x = ev g x := fun x hx => ev_congr fun t ht => h t (List.mem_append.2 (.inl (mem_tmps (ht ▸ hx))))
  unfold ExI Loc StI at he ⊢
  simp only [← e1, ← pcallee_congr e2, ← popI_congr e2]
  exact he

theorem swapI {all : List Oper} {ids : List Nat} {pm : List (Nat × List Nat)} {rs : List (Nat × Nat)} {ro : List Nat} (hn : ids.Nodup) : SwapG (ExI P all ids pm rs ro) (compatI (all.map (·.dst)) pm rs ro) := by
  intro x o f H vx Hx v H1 hc hx ho
  unfold compatI at hc
  simp only [Bool.and_eq_true] at hc
  obtain ⟨⟨⟨⟨⟨⟨c1, c2⟩, c3⟩, c4⟩, c5⟩, c6⟩, c7⟩ := hc
  have ho' : ExI P all ids pm rs ro o f Hx v H1 := ho.congr fun t ht => upd_other (clear_reads c1 t ht)
  have hx' : ∀ K K', ExI P all ids pm rs ro x f K vx K' → ExI P all ids pm rs ro x (upd f o.dst v) K vx K' := fun K K' h => h.congr fun t ht => (upd_other (clear_reads c2 t ht)).symm
  have hcm := upd_comm (f := f) (u := vx) (v := v) (clear_dst c1)
  rcases hx with ⟨x1, x2, rfl⟩ | ⟨x1, ux, lx⟩
  · exact ⟨H1, ho', hx' _ _ (.inl ⟨x1, x2, rfl⟩), hcm⟩
  rcases ho' with ⟨o1, o2, rfl⟩ | ⟨o1, uo, lo⟩
  · exact ⟨H, .inl ⟨o1, o2, rfl⟩, hx' _ _ (.inr ⟨x1, ux, lx⟩), hcm⟩
  have dxr : ∀ {i}, i ∈ atP ids (fpOf pm rs ro x).w → i ∉ atP ids (fpOf pm rs ro o).r := fun h => atP_dis hn c3 h
  have dxw : ∀ {i}, i ∈ atP ids (fpOf pm rs ro x).w → i ∉ atP ids (fpOf pm rs ro o).w := fun h => atP_dis hn c4 h
  have dor : ∀ {i}, i ∈ atP ids (fpOf pm rs ro o).w → i ∉ atP ids (fpOf pm rs ro x).r := fun h => atP_dis hn c5 h
  have dxv : ∀ {i}, i ∈ atP ids (fpOf pm rs ro x).v → i ∉ atP ids (fpOf pm rs ro o).l := fun h => atP_dis hn c6 h
  have dov : ∀ {i}, i ∈ atP ids (fpOf pm rs ro o).v → i ∉ atP ids (fpOf pm rs ro x).l := fun h => atP_dis hn c7 h
  have a1 : Agr ids (fpOf pm rs ro o) Hx H := ⟨ux.len.symm, fun i hi => (ux.out i fun h => hi (atP_in h)).symm, fun i hi => (ux.out i fun h => by rcases hi with hi | hi; exact dxr h hi; exact dxw h hi).symm, fun i hi => (ux.ver i fun h => dxv h hi).symm⟩
  obtain ⟨H3, s3, u3, w3⟩ := lo H a1
  have a2 : Agr ids (fpOf pm rs ro x) H H3 := ⟨u3.len, fun i hi => u3.out i fun h => hi (atP_in h), fun i hi => u3.out i fun h => by rcases hi with hi | hi; exact dor h hi; exact dxw hi h, fun i hi => u3.ver i fun h => dov h hi⟩
  refine ⟨H3, .inr ⟨o1, u3, fun K hK => ?_⟩, hx' _ _ (.inr ⟨x1, ⟨?_, fun i hi => ?_, fun i hi => ?_⟩, fun K hK => ?_⟩), hcm⟩
  · obtain ⟨K', k1, k2, k3⟩ := lo K (a1.trans hK)
    exact ⟨K', k1, k2, fun i hi => (k3 i hi).trans (w3 i hi).symm⟩
  · rw [uo.len, ux.len, u3.len]
  · by_cases hw : i ∈ atP ids (fpOf pm rs ro o).w
    · exact (w3 i hw).symm
    · rw [uo.out i hw, ux.out i hi, u3.out i hw]
  · by_cases hw : i ∈ atP ids (fpOf pm rs ro o).w
    · unfold VEq; rw [w3 i hw]
    · have := ux.ver i hi
      unfold VEq at this ⊢
      rw [uo.out i hw, u3.out i hw, this]
  · obtain ⟨K', k1, k2, k3⟩ := lx K (a2.trans hK)
    exact ⟨K', k1, k2, fun i hi => by rw [k3 i hi, uo.out i (dxw hi)]⟩

/-! ### a reserved place is taken -/
theorem pfill_length {place : Nat → Option (Nat × Nat)} : ∀ (parts : List (Nat × PV)) (cs ys : List PV), pfill place cs parts = some ys → ys.length = cs.length
  | [], cs, ys, h => by simp only [pfill, Option.some.injEq] at h; rw [h]
  | (i, v) :: rest, cs, ys, h => by
    simp only [pfill] at h
    split at h
    · cases h
    · rename_i off size hp
      split at h
      · rename_i hq
        rw [pfill_length rest _ _ h]
        simp only [splice, List.length_append, List.length_take, List.length_drop]
        omega
      · cases h
theorem pnewA_sound {t tx ty e sz bb len m r : Nat} {full g : Bool} {xs ys z : List PV} {p q : Value} {k : Blk} (hw : WRel C H w) (hsv : VRel C (.slice xs len full) p) (hx : VRel C (.slice ys m g) q)
    (hu : P.underlying t = some (.slice e)) {e' : TypeId} (hu' : P.underlying tx = some (.slice e')) (hn : szT P e = some sz) (hb : byT P e = some bb) (hz : zcells P e = some z)
    (hq : 0 < sz ∧ z.length = sz ∧ full = true ∧ xs.length = len * sz ∧ 0 < m ∧ ys.length = m * sz ∧ (len + m) * bb ≤ 140737488355328 ∧ len + m ≤ 140737488355328) (hk : H[r]? = some k) (he : k.e = e) (hv : k.ver = 0) :
    ∃ C' u w', CLe C C' ∧ WRel C' (H.set r ⟨e, 1, xs ++ ys⟩) w' ∧ Below C.B w w' ∧ VRel C' (.msl r 1 0 (len + m) sz true) u ∧ (Builtin.append_ #[t, tx] ty #[p, q]).run P w = .ok u w' := by
  have hid : r < H.length := (List.getElem?_eq_some_iff.1 hk).1
  have g1 : r < C.mu.length := by rw [hw.len]; exact hid
  have g2 : r < C.vs.length := by rw [hw.lenv]; exact hid
  have g3 : r < C.cp.length := by rw [hw.lenc]; exact hid
  obtain ⟨q1, q2, rfl, q4, q5, q6, q7, q8⟩ := hq
  obtain ⟨i, zv, hi, hzv, hzr, hzl, hzc⟩ := zcells_of hz
  obtain ⟨ie, hie, hs⟩ := szT_info hn
  obtain ⟨ib, hib, hby⟩ := byT_info hb
  rw [hi] at hie hib
  injection hie with hie
  injection hib with hib
  subst hie hib
  have hsrc : appSrc P H e sz tx (.slice ys m g) = some (ys, m) := by
    unfold appSrc scells
    simp only [hu', if_pos q6]
  obtain ⟨us, happ, hRn, hln, hnn, hcn⟩ := appSrc_sound hw hx hi hs hzv hz q2 q1 hsrc
  have hzsize : ∀ m, (Builtin.zeroCells zv.cells m).size = m * sz := fun m => by
    rw [size_zeroCells, ← Array.length_toList, hzl, q2]
  have hshape : ∃ ad os, p = .slice ad len len ∧ os.length = xs.length ∧ Rel C xs os ∧ (∀ x ∈ xs, x.cell = true) ∧ ((len = 0 ∧ os = []) ∨ ∃ b o, ad = some ⟨b, o, none⟩ ∧ At w b o os) := by
    cases hsv with
    | @slice _ _ cap b' o' _ us' hl' hM' hc' hR' hcap' hmax' hf' => rw [hf' rfl]; exact ⟨_, us', rfl, hl', hR', hc', .inr ⟨b', o', rfl, hw.at_imm hM'⟩⟩
    | sliceN => exact ⟨_, [], rfl, rfl, fun j x u hx => by simp at hx, fun x hx => by simp at hx, .inl ⟨rfl, rfl⟩⟩
  obtain ⟨ad, os, rfl, hos, hRx, hcx, hat⟩ := hshape
  have hold : (Builtin.firstCells i.size len (.slice ad len len)).run P w.drew = .ok os.toArray w.drew := by
    rw [hs]; exact first_of (w := w.drew) (by omega) (by rcases hat with h1 | ⟨b, o, h1, h2⟩; exact .inl h1; exact .inr ⟨b, o, h1, h2⟩)
  have hr := app_grow (P := P) (ty := ty) hu hi hzv hold happ (by omega) (by rw [hby]; exact q7) q8 (by rw [hs]; exact q1)
  have hge := grownCap_ge w (len + m) len e
  have hle := grownCap_le_maxLen w (len + m) len e (by simp only [maxLen]; omega)
  generalize grownCap w (len + m) len e = nc at hr hge hle
  generalize hcur : (os ++ us).toArray ++ Builtin.zeroCells zv.cells (nc - (len + m)) = cur at hr
  have hsize : cur.size = nc * sz := by
    rw [← hcur, Array.size_append, hzsize]
    simp only [List.size_toArray, List.length_append, hos, q4, hln, q6, ← Nat.add_mul]
    congr 1
    omega
  have hfit : (xs ++ ys).length ≤ cur.size := by
    rw [hsize, List.length_append, q4, q6, ← Nat.add_mul]
    exact Nat.mul_le_mul_right _ hge
  obtain ⟨c1, c2, c30⟩ := hw.drew.move hk 1 (by omega) (xs ++ ys) cur (fun x hx => by rcases List.mem_append.1 hx with hx | hx; exact hcx x hx; exact hcn x hx) hfit (fun j x u hx hu' => by
    have hlt : j < (xs ++ ys).length := (List.getElem?_eq_some_iff.1 hx).1
    refine Rel.append hos hRx hRn j x u hx ?_
    rw [← hcur, ← Array.getElem?_toList, Array.toList_append, List.getElem?_append_left (by simp at hlt ⊢; omega)] at hu'
    exact hu')
  rw [he] at c2 c30
  have c3 := ((Below.refl C.B w).drew).trans c30
  refine ⟨_, _, _, c1, c2, c3, ?_, hr⟩
  refine .msl (by simp [g1]) (by simp [g2]) hge hle (fun _ => ⟨rfl, ?_⟩)
  simp [g3, hsize]
theorem pnew_sound {op : Op} {f : Nat → PV} {b : Blk} {mk : Nat → PV} {r : Nat} {k : Blk} {o : Oper} (ho : o.op = op) (hw : WRel C H w) (hf : FRel C N f a) (h : pnew P op f = some (b, mk)) (hk : H[r]? = some k) (he : k.e = b.e) (hv : k.ver = 0) :
    ∃ C' u w', CLe C C' ∧ WRel C' (H.set r b) w' ∧ Below C.B w w' ∧ VRel C' (mk r) u ∧ (execOp a.eval o).run P w = .ok (.value u) w' := by
  have hid : r < H.length := (List.getElem?_eq_some_iff.1 hk).1
  have g1 : r < C.mu.length := by rw [hw.len]; exact hid
  have g2 : r < C.vs.length := by rw [hw.lenv]; exact hid
  have g3 : r < C.cp.length := by rw [hw.lenc]; exact hid
  unfold pnew at h
  split at h
  · rename_i elem
    simp only [Option.map_eq_some_iff, Prod.mk.injEq] at h
    obtain ⟨z, hz, rfl, rfl⟩ := h
    obtain ⟨i, zv, hi, hzv, hzr, hzl, hzc⟩ := zcells_of hz
    obtain ⟨c1, c2, c3⟩ := hw.move hk 1 (by omega) z zv.cells hzc (by rw [← hzl]; simp) (fun j x u hx hu => hzr C j x u hx (by simpa using hu))
    rw [he] at c2 c3
    refine ⟨_, .pointer (some ⟨w.heap.size, 0, none⟩), _, c1, c2, c3, .ptr (by simp [g1]) (by simp [g2]), ?_⟩
    simp [execOp, ho, Instr.alloc, newVar, newRow, zeroValue, typeInfo, hi, hzv]
  · rename_i elem x
    split at h
    · rename_i hall
      simp only [Option.some.injEq, Prod.mk.injEq] at h
      obtain ⟨rfl, rfl⟩ := h
      obtain ⟨hr, hl⟩ := cells_rel hall (ev_rel hf x)
      obtain ⟨c1, c2, c3⟩ := hw.move hk 1 (by omega) (ev f x).cells (a.eval x).cells (fun x hx => List.all_eq_true.1 hall x hx) (by rw [← hl]; simp) (fun j x u hx hu => hr j x u hx (by simpa using hu))
      rw [he] at c2 c3
      refine ⟨_, .pointer (some ⟨w.heap.size, 0, none⟩), _, c1, c2, c3, .ptr (by simp [g1]) (by simp [g2]), ?_⟩
      simp [execOp, ho, Instr.box, newVar, newRow]
    · cases h
  · rename_i t lo co
    split at h
    · rename_i e kl l kc c hu hlv hcv
      split at h
      · rename_i n bb z hn hb hz
        obtain ⟨i, zv, hi, hzv, hzr, hzl, hzc⟩ := zcells_of hz
        obtain ⟨ie, hie, hs⟩ := szT_info hn
        obtain ⟨ib, hib, hby⟩ := byT_info hb
        rw [hi] at hie hib
        injection hie with hie
        injection hib with hib
        subst hie hib
        split at h
        · rename_i hq
          simp only [Option.some.injEq, Prod.mk.injEq] at h
          obtain ⟨rfl, rfl⟩ := h
          have hl := ev_rel hf lo
          have hc := ev_rel hf co
          rw [hlv] at hl
          rw [hcv] at hc
          have el := inv_int hl
          have ec := inv_int hc
          have hr := run_make (P := P) w t e i zv hu hi hzv kl kc l c hq.1 hq.2.1 (by rw [hby]; have := hq.2.2.1; omega) (by have := hq.2.2.2.1; omega)
          have hcn : l.toNat * z.length ≤ c.toNat * i.size := by rw [hs, hq.2.2.2.2.1]; exact Nat.mul_le_mul_right n (by omega)
          have hmade := made_rel (C := C) (n := l.toNat) (m := c.toNat * i.size) hzl (hzr C) (by rw [hq.2.2.2.2.1]; exact hq.2.2.2.2.2) hcn
          obtain ⟨c1, c2, c3⟩ := hw.move hk 1 (by omega) (reps l.toNat z) (madeCells zv.cells (c.toNat * i.size)) (reps_cell hzc) (by rw [length_reps, size_madeCells]; exact hcn) (fun j x u hx hu => hmade j x u hx (by rw [Array.getElem?_toList]; exact hu))
          rw [he] at c2 c3
          refine ⟨_, .slice (some ⟨w.heap.size, 0, none⟩) l.toNat c.toNat, _, c1, c2, c3, ?_, by simp only [execOp, ho, el, ec, Sem.run_bind, hr, Result.andThen_ok, Sem.run_pure]⟩
          refine .msl (by simp [g1]) (by simp [g2]) (by omega) (by have := hq.2.2.2.1; simp only [maxLen]; omega) (fun _ => ⟨rfl, ?_⟩)
          simp [g3, size_madeCells, hs]
        · cases h
      · cases h
    · cases h
  · rename_i t len parts
    split at h
    · rename_i e hu
      split at h
      · rename_i n z hn hz
        obtain ⟨i, zv, hi, hzv, hzr, hzl, hzc⟩ := zcells_of hz
        obtain ⟨ie, hie, hs⟩ := szT_info hn
        rw [hi] at hie
        injection hie with hie
        subst hie
        split at h
        · rename_i hq
          simp only [Option.map_eq_some_iff, Prod.mk.injEq] at h
          obtain ⟨ys, hys, rfl, rfl⟩ := h
          obtain ⟨hl, hp⟩ := parts_rel hf parts
          have hpos : 0 < z.length := by
            rcases Nat.eq_zero_or_pos z.length with h0 | h0
            · rw [← hq.1, h0] at hq; simp at hq
            · exact h0
          have hmade := made_rel (C := C) (n := len) (m := len * i.size) hzl (hzr C) hpos (by rw [hs, hq.1]; exact Nat.le_refl _)
          obtain ⟨cs', q1, q2, q3, q4⟩ := pfill_sound (C := C) (fun i => some (i * n, n)) _ _ (reps len z) ys ((Array.range (len * i.size)).map (zv.cells[· % zv.cells.size]!)) hl hp hmade
            (by rw [length_reps, hq.1, hs]; simp) (reps_cell hzc) hys
          have hr := run_buildSlice (P := P) w t e len _ cs' i zv hu hi hzv (by rw [hs]; have := hq.2.2; omega) (by rw [hs]; have := hq.2.1; omega) (by rw [hs] at q1 ⊢; exact q1)
          obtain ⟨c1, c2, c3⟩ := hw.move hk 1 (by omega) ys cs' q4 (by rw [← q3]; exact Nat.le_refl _) (fun j x u hx hu => q2 j x u hx (by simpa using hu))
          rw [he] at c2 c3
          refine ⟨_, .slice (some ⟨w.heap.size, 0, none⟩) len len, _, c1, c2, c3, ?_, by simp only [execOp, ho, Sem.run_bind, hr, Result.andThen_ok, Sem.run_pure]⟩
          have hln : len ≤ len * n := Nat.le_mul_of_pos_right len (by omega)
          refine .msl (by simp [g1]) (by simp [g2]) (Nat.le_refl _) (by simp only [maxLen]; omega) (fun _ => ⟨rfl, ?_⟩)
          have : ys.length = len * n := by
            rw [pfill_length _ _ _ hys, length_reps, hq.1]
          simp [g3, ← q3, this]
        · cases h
      · cases h
    · cases h
  · rename_i args ts
    split at h
    · rename_i t tx xs len full ys m g hts hal
      split at h
      · rename_i e e' hu hu'
        split at h
        · rename_i sz bb z hn hb hz
          split at h
          · rename_i hq
            simp only [Option.some.injEq, Prod.mk.injEq] at h
            obtain ⟨rfl, rfl⟩ := h
            obtain ⟨x, y, hxy, hx1, hy1⟩ : ∃ x y, args.toList = [x, y] ∧ ev f x = .slice xs len full ∧ ev f y = .slice ys m g := by
              match hat : args.toList, hal with
              | [x, y], hal => simp only [List.map_cons, List.map_nil, List.cons.injEq, and_true] at hal; exact ⟨x, y, rfl, hal.1, hal.2⟩
              | [], hal => simp at hal
              | [_], hal => simp at hal
              | _ :: _ :: _ :: _, hal => simp at hal
            have r1 := ev_rel hf x
            have r2 := ev_rel hf y
            rw [hx1] at r1
            rw [hy1] at r2
            obtain ⟨C', u, w', s1, s2, s3, s4, s5⟩ := pnewA_sound (ty := o.type) hw r1 r2 hu hu' hn hb hz hq hk he hv
            refine ⟨C', u, w', s1, s2, s3, s4, ?_⟩
            have ea : args = #[x, y] := Array.toList_inj.1 (by rw [hxy])
            have et : ts = #[t, tx] := Array.toList_inj.1 (by rw [hts])
            subst ea et
            have hb : ∀ cs, builtin .append #[t, tx] o.type cs #[a.eval x, a.eval y] = (do pure (.value (← Builtin.append_ #[t, tx] o.type #[a.eval x, a.eval y]))) := fun _ => rfl
            simp only [execOp, ho, resolve, invoke, Sem.run_bind, Sem.run_pure, Result.andThen_ok, List.map_toArray, List.map_cons, List.map_nil, hb, s5]
          · cases h
        · cases h
      · cases h
    · cases h
  · cases h

theorem pnew0_sound {op : Op} {f : Nat → PV} {v : PV} {o : Oper} (ho : o.op = op) (hw : WRel C H w) (hf : FRel C N f a) (h : pnew0 P op f = some v) :
    ∃ u w', WRel C H w' ∧ Below C.B w w' ∧ VRel C v u ∧ (execOp a.eval o).run P w = .ok (.value u) w' := by
  unfold pnew0 at h
  split at h
  · rename_i t lo co
    split at h
    · rename_i e kl l kc c hu hlv hcv
      split at h
      · rename_i bb z hb hz
        obtain ⟨i, zv, hi, hzv, hzr, hzl, hzc⟩ := zcells_of hz
        split at h
        · rename_i hq
          obtain ⟨rfl, rfl⟩ := hq
          simp only [Option.some.injEq] at h
          subst h
          have hl := ev_rel hf lo
          have hc := ev_rel hf co
          rw [hlv] at hl
          rw [hcv] at hc
          have el := inv_int hl
          have ec := inv_int hc
          have hr := run_make (P := P) w t e i zv hu hi hzv kl kc 0 0 (by omega) (by omega) (by omega) (by omega)
          refine ⟨.slice (some ⟨w.heap.size, 0, none⟩) 0 0, _, hw.grown ((Below.refl _ _).alloc (Nat.le_refl _) _), (Below.refl _ _).alloc hw.base _, .sliceN _ _, by simp only [execOp, ho, el, ec, Sem.run_bind, hr, Result.andThen_ok, Sem.run_pure]; rfl⟩
        · cases h
      · cases h
    · cases h
  · cases h
theorem stI_sound {o : Oper} {ids : List Nat} {rs : List (Nat × Nat)} {f : Nat → PV} {v : PV} {H' : Heap} (hd : dstOk N o = true) (hw : WRel C H w) (hf : FRel C N f a) (h : StI P ids rs o f H v H') (next : Act → World → Prop) (Q : Exit → Act → World → Prop)
    (hn : ∀ C' u w', CLe C C' → WRel C' H' w' → Below C.B w w' → FRel C' N (upd f o.dst v) (a.put o.dst u) → next (a.put o.dst u) w') : o.wp P a w next Q := by
  unfold StI at h
  split at h
  · rename_i g args hc
    exact exec_sound hd hw hf (by unfold Exec; rw [hc]; exact h) _ _ hn
  · rename_i hc
    unfold popI at h
    split at h
    · rename_i p hp
      split at h
      · rename_i r hr
        split at h
        · rename_i b mk hb
          split at h
          · rename_i k hk
            split at h
            · rename_i hq
              simp only [Option.some.injEq, Prod.mk.injEq] at h
              obtain ⟨rfl, rfl⟩ := h
              obtain ⟨C', u, w', q1, q2, q3, q4, q5⟩ := pnew_sound (o := o) rfl hw hf hb hk hq.1 hq.2
              unfold Oper.wp
              rw [q5, Oper.upon_value]
              exact hn C' u w' q1 q2 q3 ((hf.mono q1).put _ (dstOk_of hd) q4)
            · cases h
          · cases h
        · cases h
      · simp only [Option.map_eq_some_iff, Prod.mk.injEq] at h
        obtain ⟨v', hv', rfl, rfl⟩ := h
        obtain ⟨u, w', q2, q3, q4, q5⟩ := pnew0_sound (o := o) rfl hw hf hv'
        unfold Oper.wp
        rw [q5, Oper.upon_value]
        exact hn C u w' (.refl C) q2 q3 (hf.put _ (dstOk_of hd) q4)
    · exact exec_sound hd hw hf (by unfold Exec; rw [hc]; exact h) _ _ hn

theorem stepI {ops : Array Oper} {ids : List Nat} {pm : List (Nat × List Nat)} {rs : List (Nat × Nat)} {ro : List Nat} : StepG P N ops (ExI P ops.toList ids pm rs ro) := by
  intro o f H v H' C a w hd hw hf he
  rcases he with ⟨h1, h2, h3⟩ | ⟨h1, h2⟩
  · have hwant := want_sound hf h1
    rw [Array.toArray_toList] at hwant
    exact .inl ⟨hwant, h2, h3⟩
  · have hwant := want_sound hf h1
    rw [Array.toArray_toList] at hwant
    exact .inr ⟨hwant, fun next Q hn => stI_sound hd hw hf h2.now _ _ hn⟩

end Go.Proofs.YtahomnplappbpaaGreatDoor.Pm
