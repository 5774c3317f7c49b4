/-
  Parts of the proof, put together in one text. No condition.
-/
import Derived.WalkKit
import Derived.WalkSpells
import Derived.WalkLawsBesides
import Derived.Deep.Draws
import Derived.Deep.AppendSrc
import Derived.Great.BuildSlice
import Derived.Lib.AppendZeros
import Derived.Laws.StructEq
import Derived.ChangeKeysEq
import Derived.MapKept
namespace Go.Proofs.Ytnjnikafhbholaa.Pm
set_option linter.all false
set_option linter.unusedVariables false
set_option linter.unusedSimpArgs false
open Go.RowKit

/-- Abstract values. A slice's and a struct's cells are flat, as the model's are. -/
inductive PV where
  | int (k : IntKind) (n : Int)
  | bool (b : Bool)
  | str (s : List UInt8)
  | nilp
  /-- a pointer into block 'id' of the abstract heap, as that block was at version 'ver' -/
  | ptr (id ver off : Nat)
  /-- a pointer into cells that are never written -/
  | ip (xs : List PV) (off : Nat)
  /-- a slice over cells that are never written; 'full': its capacity is its length -/
  | slice (xs : List PV) (len : Nat) (full : Bool)
  /-- a slice over block 'id' of the abstract heap -/
  | msl (id ver off len sz : Nat) (g : Bool)
  | agg (cs : List PV)
  | tup (vs : List PV)
  | func (f : FuncId) (first captured : List PV)
  /-- a map: block 'id' of the abstract heap, whose cells are its entries, each a pair -/
  | mp (id ver : Nat)
  /-- nil: of a function (0), of an interface (1), of a map (2) -/
  | nl (k : Nat)
  /-- anything -/
  | undef

/-- May it stand in a memory cell? -/
def PV.cell : PV → Bool
  | .agg _ | .tup _ | .undef => false
  | _ => true

def PV.cells : PV → List PV
  | .agg cs => cs
  | v => [v]

/-- A block of the abstract heap. -/
structure Blk where
  e : TypeId
  ver : Nat
  cells : List PV

abbrev Heap := List Blk

/-- What ties the abstract heap to memory: 'B': below it nothing is written; 'M': the cells that are never written; of each abstract block its real one, its version, its number of cells. -/
structure Ctx where
  B : Nat
  M : Nat → Nat → Option Value
  /-- 'none': the block has no place in memory (yet, or any more) -/
  mu : List (Option Nat)
  vs : List Nat
  cp : List Nat
  /-- what is known anew is of blocks from here on -/
  top : Nat

def nlV : Nat → Value
  | 0 => .nilFunc
  | 1 => .nilIface
  | _ => .map none
theorem nlV_cell (k : Nat) : (nlV k).oneCell' = true := by
  unfold nlV
  split <;> rfl

inductive VRel (C : Ctx) : PV → Value → Prop where
  | nl (k : Nat) : VRel C (.nl k) (nlV k)
  | int (k : IntKind) (n : Int) : VRel C (.int k n) (.int k n)
  | bool (b : Bool) : VRel C (.bool b) (.bool b)
  | str (s : ByteArray) : VRel C (.str s.data.toList) (.string s)
  | nilp : VRel C .nilp (.pointer none)
  | ptr {id ver off b : Nat} (hm : C.mu[id]? = some (some b)) (hv : C.vs[id]? = some ver) : VRel C (.ptr id ver off) (.pointer (some ⟨b, off, none⟩))
  | ptrS {id ver off cur : Nat} (v : Value) (h1 : v.oneCell' = true) (hv : C.vs[id]? = some cur) (hlt : ver < cur) : VRel C (.ptr id ver off) v
  | ip {xs : List PV} {off b o : Nat} {us : List Value} (hl : us.length = xs.length) (hM : ∀ (j : Nat) (u : Value), us[j]? = some u → C.M b (o + j) = some u)
      (hc : ∀ x ∈ xs, x.cell = true) (hR : ∀ (j : Nat) (x : PV) (u : Value), xs[j]? = some x → us[j]? = some u → VRel C x u) : VRel C (.ip xs off) (.pointer (some ⟨b, o + off, none⟩))
  | slice {xs : List PV} {len cap b o : Nat} {full : Bool} {us : List Value} (hl : us.length = xs.length) (hM : ∀ (j : Nat) (u : Value), us[j]? = some u → C.M b (o + j) = some u)
      (hc : ∀ x ∈ xs, x.cell = true) (hR : ∀ (j : Nat) (x : PV) (u : Value), xs[j]? = some x → us[j]? = some u → VRel C x u) (hcap : len ≤ cap) (hmax : cap ≤ maxLen) (hf : full = true → cap = len) :
      VRel C (.slice xs len full) (.slice (some ⟨b, o, none⟩) len cap)
  /-- an empty slice without capacity, wherever it lies -/
  | sliceN (ad : Option Addr) (full : Bool) : VRel C (.slice [] 0 full) (.slice ad 0 0)
  | msl {id ver off len sz b cap : Nat} {g : Bool} (hm : C.mu[id]? = some (some b)) (hv : C.vs[id]? = some ver) (hcap : len ≤ cap) (hmax : cap ≤ maxLen)
      (hg : g = true → off = 0 ∧ C.cp[id]? = some (cap * sz)) : VRel C (.msl id ver off len sz g) (.slice (some ⟨b, off, none⟩) len cap)
  /-- an empty slice over the block, wherever it lies -/
  | mslE {id ver off off' sz b cap : Nat} (hm : C.mu[id]? = some (some b)) (hv : C.vs[id]? = some ver) (hmax : cap ≤ maxLen) : VRel C (.msl id ver off 0 sz false) (.slice (some ⟨b, off', none⟩) 0 cap)
  /-- an empty slice without capacity, over a block without a place -/
  | mslG {id ver off sz : Nat} {g : Bool} (ad : Option Addr) (hm : C.mu[id]? = some none ∧ C.cp[id]? = some 0) (hv : C.vs[id]? = some ver) : VRel C (.msl id ver off 0 sz g) (.slice ad 0 0)
  | mslS {id ver off len sz cur : Nat} {g : Bool} (v : Value) (h1 : v.oneCell' = true) (hv : C.vs[id]? = some cur) (hlt : ver < cur) : VRel C (.msl id ver off len sz g) v
  | mp {id ver b : Nat} (hm : C.mu[id]? = some none) (hv : C.vs[id]? = some ver) (hb : C.cp[id]? = some (b + 1)) : VRel C (.mp id ver) (.map (some b))
  | mpS {id ver cur : Nat} (v : Value) (h1 : v.oneCell' = true) (hv : C.vs[id]? = some cur) (hlt : ver < cur) : VRel C (.mp id ver) v
  | agg {cs : List PV} {us : List Value} (hl : us.length = cs.length) (hc : ∀ x ∈ cs, x.cell = true) (hR : ∀ (j : Nat) (x : PV) (u : Value), cs[j]? = some x → us[j]? = some u → VRel C x u) : VRel C (.agg cs) (.agg us.toArray)
  | tup {vs : List PV} {us : List Value} (hl : us.length = vs.length) (hR : ∀ (j : Nat) (x : PV) (u : Value), vs[j]? = some x → us[j]? = some u → VRel C x u) : VRel C (.tup vs) (.tuple us.toArray)
  | func {f : FuncId} {fs cs : List PV} {us ws : List Value} (hl : us.length = fs.length) (hl' : ws.length = cs.length)
      (hR : ∀ (j : Nat) (x : PV) (u : Value), fs[j]? = some x → us[j]? = some u → VRel C x u) (hR' : ∀ (j : Nat) (x : PV) (u : Value), cs[j]? = some x → ws[j]? = some u → VRel C x u) : VRel C (.func f fs cs) (.func (.func f) us.toArray ws.toArray)
  | undef (v : Value) : VRel C .undef v

def VRels (C : Ctx) (xs : List PV) (us : List Value) : Prop := us.length = xs.length ∧ ∀ (j : Nat) (x : PV) (u : Value), xs[j]? = some x → us[j]? = some u → VRel C x u

/-- More is known, or a block has been appended to. -/
structure CLe (C C' : Ctx) : Prop where
  B : C'.B = C.B
  M : ∀ b o u, C.M b o = some u → C'.M b o = some u
  top : C'.top = C.top
  mnew : ∀ b o u, C'.M b o = some u → C.M b o = some u ∨ C.top ≤ b ∨ some b ∈ C.mu
  unew : ∀ b, some b ∈ C'.mu → some b ∈ C.mu ∨ C.top ≤ b
  ids : ∀ (id ver : Nat), C.vs[id]? = some ver → ∃ ver', C'.vs[id]? = some ver' ∧ ver ≤ ver' ∧ (ver' = ver → C'.mu[id]? = C.mu[id]? ∧ C'.cp[id]? = C.cp[id]?)

theorem CLe.refl (C : Ctx) : CLe C C := ⟨rfl, fun _ _ _ h => h, rfl, fun _ _ _ h => .inl h, fun _ h => .inl h, fun _ ver h => ⟨ver, h, Nat.le_refl _, fun _ => ⟨rfl, rfl⟩⟩⟩
theorem CLe.trans {C C' C'' : Ctx} (h : CLe C C') (k : CLe C' C'') : CLe C C'' := by
  refine ⟨k.B.trans h.B, fun b o u e => k.M _ _ _ (h.M _ _ _ e), k.top.trans h.top, fun b o u e => ?_, fun b e => ?_, fun id ver e => ?_⟩
  · rcases k.mnew b o u e with e | e | e
    · exact h.mnew b o u e
    · exact .inr (.inl (by rw [← h.top]; exact e))
    · rcases h.unew b e with e | e
      · exact .inr (.inr e)
      · exact .inr (.inl e)
  · rcases k.unew b e with e | e
    · exact h.unew b e
    · exact .inr (by rw [← h.top]; exact e)
  obtain ⟨v1, e1, l1, q1⟩ := h.ids id ver e
  obtain ⟨v2, e2, l2, q2⟩ := k.ids id v1 e1
  refine ⟨v2, e2, Nat.le_trans l1 l2, fun he => ?_⟩
  have h1 : v1 = ver := by omega
  have h2 : v2 = v1 := by omega
  exact ⟨(q2 h2).1.trans (q1 h1).1, (q2 h2).2.trans (q1 h1).2⟩

theorem VRel.mono {C C' : Ctx} (h : CLe C C') {x : PV} {u : Value} (r : VRel C x u) : VRel C' x u := by
  induction r with
  | nl k => exact .nl k
  | int k n => exact .int k n
  | bool b => exact .bool b
  | str s => exact .str s
  | nilp => exact .nilp
  | ptr hm hv =>
    obtain ⟨v', e, l, q⟩ := h.ids _ _ hv
    rcases Nat.eq_or_lt_of_le l with he | he
    · exact .ptr ((q he.symm).1.trans hm) (he ▸ e)
    · exact .ptrS _ rfl e he
  | ptrS v h1 hv hlt =>
    obtain ⟨v', e, l, q⟩ := h.ids _ _ hv
    exact .ptrS v h1 e (by omega)
  | ip hl hM hc _ ih => exact .ip hl (fun j u hu => h.M _ _ _ (hM j u hu)) hc ih
  | slice hl hM hc _ hcap hmax hf ih => exact .slice hl (fun j u hu => h.M _ _ _ (hM j u hu)) hc ih hcap hmax hf
  | sliceN ad full => exact .sliceN ad full
  | msl hm hv hcap hmax hg =>
    obtain ⟨v', e, l, q⟩ := h.ids _ _ hv
    rcases Nat.eq_or_lt_of_le l with he | he
    · exact .msl ((q he.symm).1.trans hm) (he ▸ e) hcap hmax (fun hgt => ⟨(hg hgt).1, (q he.symm).2.trans (hg hgt).2⟩)
    · exact .mslS _ rfl e he
  | mslE hm hv hmax =>
    obtain ⟨v', e, l, q⟩ := h.ids _ _ hv
    rcases Nat.eq_or_lt_of_le l with he | he
    · exact .mslE ((q he.symm).1.trans hm) (he ▸ e) hmax
    · exact .mslS _ rfl e he
  | mslG ad hm hv =>
    obtain ⟨v', e, l, q⟩ := h.ids _ _ hv
    rcases Nat.eq_or_lt_of_le l with he | he
    · exact .mslG ad ⟨(q he.symm).1.trans hm.1, (q he.symm).2.trans hm.2⟩ (he ▸ e)
    · exact .mslS _ rfl e he
  | mslS v h1 hv hlt =>
    obtain ⟨v', e, l, q⟩ := h.ids _ _ hv
    exact .mslS v h1 e (by omega)
  | mp hm hv hb =>
    obtain ⟨v', e, l, q⟩ := h.ids _ _ hv
    rcases Nat.eq_or_lt_of_le l with he | he
    · exact .mp ((q he.symm).1.trans hm) (he ▸ e) ((q he.symm).2.trans hb)
    · exact .mpS _ rfl e he
  | mpS v h1 hv hlt =>
    obtain ⟨v', e, l, q⟩ := h.ids _ _ hv
    exact .mpS v h1 e (by omega)
  | agg hl hc _ ih => exact .agg hl hc ih
  | tup hl _ ih => exact .tup hl ih
  | func hl hl' _ _ ih ih' => exact .func hl hl' ih ih'
  | undef v => exact .undef v

theorem VRels.mono {C C' : Ctx} (h : CLe C C') {xs : List PV} {us : List Value} (r : VRels C xs us) : VRels C' xs us :=
  ⟨r.1, fun j x u hx hu => (r.2 j x u hx hu).mono h⟩

/-- A cell's value fills one cell. -/
theorem VRel.oneCell {C : Ctx} {x : PV} {u : Value} (r : VRel C x u) (hc : x.cell = true) : u.oneCell' = true := by
  cases r <;> first | rfl | assumption | exact nlV_cell _ | (simp [PV.cell] at hc)

/-- A map of memory, and its entries as the block has them. -/
def MapAt (C : Ctx) (w : World) (k : Blk) (p : Option Nat) : Prop :=
  ∃ (b : Nat) (es : Array MapEntry) (clock : Nat), p = some (b + 1) ∧ C.B ≤ b ∧ w.heap[b]? = some (.map es clock) ∧ es.size = k.cells.length ∧
    ∀ (j : Nat) (x : PV) (e : MapEntry), k.cells[j]? = some x → es[j]? = some e → VRel C x (.tuple #[e.key, e.val])
theorem MapAt.mono {C C' : Ctx} (hle : CLe C C') {w w' : World} {k : Blk} {p p' : Option Nat} (hp : p' = p) (hw : ∀ b es clock, p = some (b + 1) → w.heap[b]? = some (.map es clock) → w'.heap[b]? = some (.map es clock)) (h : MapAt C w k p) : MapAt C' w' k p' := by
  obtain ⟨b, es, clock, q1, q2, q3, q4, q5⟩ := h
  exact ⟨b, es, clock, hp.trans q1, by rw [hle.B]; exact q2, hw b es clock q1 q3, q4, fun j x e hx he => (q5 j x e hx he).mono hle⟩
theorem MapAt.lt {C : Ctx} {w : World} {k : Blk} {b : Nat} (h : MapAt C w k (some (b + 1))) : b < w.heap.size := by
  obtain ⟨b', es, clock, q1, q2, q3, q4, q5⟩ := h
  injection q1 with q1
  have : b' = b := by omega
  subst this
  exact (Array.getElem?_eq_some_iff.1 q3).1

/-- Memory as the abstract heap has it. -/
structure WRel (C : Ctx) (H : Heap) (w : World) : Prop where
  base : C.B ≤ w.heap.size
  tople : C.top ≤ w.heap.size
  imm : ∀ b o u, C.M b o = some u → w.cell? ⟨b, o, none⟩ = some u
  len : C.mu.length = H.length
  lenv : C.vs.length = H.length
  lenc : C.cp.length = H.length
  ver : ∀ (id : Nat) (k : Blk), H[id]? = some k → C.vs[id]? = some k.ver
  gho : ∀ (id : Nat) (k : Blk), H[id]? = some k → C.mu[id]? = some none → (C.cp[id]? = some 0 ∧ k.cells = []) ∨ MapAt C w k C.cp[id]?
  own : ∀ (id : Nat) (k : Blk) (b : Nat), H[id]? = some k → C.mu[id]? = some (some b) → ∃ cur, C.cp[id]? = some cur.size ∧ C.B ≤ b ∧
    w.heap[b]? = some (.cells cur k.e (0, 0)) ∧ (∀ x ∈ k.cells, x.cell = true) ∧ k.cells.length ≤ cur.size ∧ ∀ (j : Nat) (x : PV) (u : Value), k.cells[j]? = some x → cur[j]? = some u → VRel C x u
  disj : ∀ (id b : Nat), C.mu[id]? = some (some b) → ∀ o, C.M b o = none
  inj : ∀ (i j b : Nat), C.mu[i]? = some (some b) → C.mu[j]? = some (some b) → i = j
  minj : ∀ (i j b : Nat), C.mu[i]? = some none → C.mu[j]? = some none → C.cp[i]? = some (b + 1) → C.cp[j]? = some (b + 1) → i = j

end Go.Proofs.Ytnjnikafhbholaa.Pm

namespace Go.Proofs.Ytnjnikafhbholaa.Pm
set_option linter.all false
set_option linter.unusedVariables false
set_option linter.unusedSimpArgs false
open Go.RowKit

variable {C : Ctx} {H : Heap} {w : World}

theorem WRel.mu_lt (h : WRel C H w) {id b : Nat} (hm : C.mu[id]? = some (some b)) : b < w.heap.size := by
  have hid : id < H.length := by
    have := (List.getElem?_eq_some_iff.1 hm).1
    have := h.len
    omega
  obtain ⟨cur, _, _, hb, _⟩ := h.own id H[id] b (List.getElem?_eq_getElem hid) hm
  exact (Array.getElem?_eq_some_iff.1 hb).1

theorem WRel.imm_lt (h : WRel C H w) {b o : Nat} {u : Value} (hm : C.M b o = some u) : b < w.heap.size := World.block_lt_of_cell? w ⟨b, o, none⟩ (h.imm b o u hm)

/-- A map's place is a place. -/
theorem WRel.map_lt (h : WRel C H w) {id b : Nat} (hm : C.mu[id]? = some none) (hc : C.cp[id]? = some (b + 1)) : b < w.heap.size := by
  have hid : id < H.length := by
    have := (List.getElem?_eq_some_iff.1 hm).1
    have := h.len
    omega
  rcases h.gho id H[id] (List.getElem?_eq_getElem hid) hm with ⟨h1, _⟩ | h1
  · rw [hc] at h1; injection h1 with h1; omega
  · rw [hc] at h1; exact h1.lt
theorem WRel.heap (h : WRel C H w) {w' : World} (he : w'.heap = w.heap) : WRel C H w' := by
  have hcell : ∀ a, w'.cell? a = w.cell? a := fun a => by simp [World.cell?, he]
  exact ⟨by rw [he]; exact h.base, by rw [he]; exact h.tople, fun b o u hu => (hcell _).trans (h.imm b o u hu), h.len, h.lenv, h.lenc, h.ver, fun id k hk hm => (h.gho id k hk hm).imp_right (fun m => m.mono (.refl _) rfl (fun b es c _ hb => by rw [he]; exact hb)), fun id k b hk => by rw [he]; exact h.own id k b hk, h.disj, h.inj, h.minj⟩

theorem WRel.drew (h : WRel C H w) : WRel C H w.drew := h.heap rfl

theorem below_heap {B : Nat} {w w' : World} (ho : w'.os = w.os) (ht : w'.tape = w.tape) (hp : w'.output = w.output) (he : w'.heap = w.heap) : Below B w w' :=
  ⟨ho, ht, hp, by rw [he]; exact Nat.le_refl _, fun _ _ => by rw [he]⟩

/-- The context behind a new block. -/
def Ctx.more (C : Ctx) (b : Option Nat) (n : Nat) (v : Nat := 0) : Ctx := { C with mu := C.mu ++ [b], vs := C.vs ++ [v], cp := C.cp ++ [n] }
theorem Ctx.le_more (C : Ctx) (b : Option Nat) (n v : Nat) (hb : ∀ b', b = some b' → C.top ≤ b') (h1 : C.mu.length = C.vs.length) (h2 : C.cp.length = C.vs.length) : CLe C (C.more b n v) := by
  refine ⟨rfl, fun _ _ _ h => h, rfl, fun _ _ _ h => .inl h, fun b' h => ?_, fun id ver h => ⟨ver, ?_, Nat.le_refl _, fun _ => ⟨?_, ?_⟩⟩⟩
  · simp only [Ctx.more, List.mem_append, List.mem_singleton] at h
    rcases h with h | h
    · exact .inl h
    · exact .inr (hb b' h.symm)
  all_goals (have hlt := (List.getElem?_eq_some_iff.1 h).1)
  · simp only [Ctx.more, List.getElem?_append_left hlt, h]
  · simp only [Ctx.more]; rw [List.getElem?_append_left (by omega)]
  · simp only [Ctx.more]; rw [List.getElem?_append_left (by omega)]

theorem snoc_get {α : Type} {l : List α} {a x : α} {i : Nat} (h : (l ++ [a])[i]? = some x) : (i < l.length ∧ l[i]? = some x) ∨ (i = l.length ∧ x = a) := by
  by_cases hi : i < l.length
  · rw [List.getElem?_append_left hi] at h; exact .inl ⟨hi, h⟩
  · have hlt := (List.getElem?_eq_some_iff.1 h).1
    simp at hlt
    obtain rfl : i = l.length := by omega
    simp at h
    exact .inr ⟨rfl, h.symm⟩

theorem minj_more (h : WRel C H w) {b : Option Nat} {n v : Nat} (hn : ∀ (p : Nat), b = none → n = p + 1 → ∀ (i : Nat), C.mu[i]? = some none → C.cp[i]? ≠ some (p + 1)) (i j p : Nat) (hi : (C.more b n v).mu[i]? = some none) (hj : (C.more b n v).mu[j]? = some none)
    (ci : (C.more b n v).cp[i]? = some (p + 1)) (cj : (C.more b n v).cp[j]? = some (p + 1)) : i = j := by
  have e1 := h.len
  have e3 := h.lenc
  simp only [Ctx.more] at hi hj ci cj
  rcases snoc_get hi with ⟨li, hi⟩ | ⟨li, hi⟩ <;> rcases snoc_get hj with ⟨lj, hj⟩ | ⟨lj, hj⟩ <;> rcases snoc_get ci with ⟨mi, ci⟩ | ⟨mi, ci⟩ <;> rcases snoc_get cj with ⟨mj, cj⟩ | ⟨mj, cj⟩ <;> first
    | omega
    | exact h.minj i j p hi hj ci cj
    | exact absurd ci (hn p hj.symm cj.symm i hi)
    | exact absurd cj (hn p hi.symm ci.symm j hj)

theorem WRel.allocOwn (h : WRel C H w) (cur : Array Value) (e : TypeId) (xs : List PV) (v : Nat) (hc : ∀ x ∈ xs, x.cell = true) (hl : xs.length ≤ cur.size)
    (hR : ∀ (j : Nat) (x : PV) (u : Value), xs[j]? = some x → cur[j]? = some u → VRel C x u) :
    CLe C (C.more (some w.heap.size) cur.size v) ∧ WRel (C.more (some w.heap.size) cur.size v) (H ++ [⟨e, v, xs⟩]) (w.alloc (.cells cur e)) ∧ Below C.B w (w.alloc (.cells cur e)) := by
  have hle : CLe C (C.more (some w.heap.size) cur.size v) := C.le_more _ _ _ (fun b' e => by injection e with e; rw [← e]; exact h.tople) (h.len.trans h.lenv.symm) (h.lenc.trans h.lenv.symm)
  refine ⟨hle, ?_, (Below.refl _ _).alloc h.base _⟩
  have e1 := h.len
  have e2 := h.lenv
  have e3 := h.lenc
  refine ⟨?_, ?_, ?_, ?_, ?_, ?_, ?_, ?_, ?_, ?_, ?_, minj_more h (fun _ hp => by cases hp)⟩
  · have := h.base; simp only [Ctx.more, World.size_alloc]; omega
  · have := h.tople; simp only [Ctx.more, World.size_alloc]; omega
  · intro b o u hu
    have hb := h.imm_lt (o := o) hu
    exact (World.cell?_alloc_lt w _ ⟨b, o, none⟩ hb).trans (h.imm b o u hu)
  · simp [Ctx.more, e1]
  · simp [Ctx.more, e2]
  · simp [Ctx.more, e3]
  · intro id k hk
    simp only [Ctx.more]
    rcases snoc_get hk with ⟨hid, hk⟩ | ⟨rfl, rfl⟩
    · rw [List.getElem?_append_left (by omega)]; exact h.ver id k hk
    · simp [← e2]
  · intro id k hk hm
    simp only [Ctx.more] at hm ⊢
    rcases snoc_get hk with ⟨hid, hk⟩ | ⟨rfl, rfl⟩
    · rw [List.getElem?_append_left (by omega)] at hm ⊢; exact (h.gho id k hk hm).imp_right (fun m => m.mono hle rfl (fun b es c hp hb => by rw [Below.heap_alloc _ _ _ (Array.getElem?_eq_some_iff.1 hb).1]; exact hb))
    · simp [← e1] at hm
  · intro id k b hk hm
    simp only [Ctx.more] at hm ⊢
    rcases snoc_get hk with ⟨hid, hk⟩ | ⟨rfl, rfl⟩
    · rw [List.getElem?_append_left (by omega)] at hm
      obtain ⟨c, q3, q4, q5, q6, q7, q8⟩ := h.own id k b hk hm
      exact ⟨c, by rw [List.getElem?_append_left (by omega)]; exact q3, q4, by rw [Below.heap_alloc _ _ _ (h.mu_lt hm)]; exact q5, q6, q7, fun j x u hx hu => (q8 j x u hx hu).mono hle⟩
    · simp [← e1] at hm
      subst hm
      exact ⟨cur, by simp [← e3], h.base, heap_alloc_new w _, hc, hl, fun j x u hx hu => (hR j x u hx hu).mono hle⟩
  · intro id b hb o
    simp only [Ctx.more] at hb ⊢
    rcases snoc_get hb with ⟨hid, hb1⟩ | ⟨rfl, hb1⟩
    · exact h.disj id b hb1 o
    · injection hb1 with hb1
      subst hb1
      cases hM : C.M w.heap.size o with
      | none => rfl
      | some u => exact absurd (h.imm_lt hM) (by omega)
  · intro i j b hi hj
    simp only [Ctx.more] at hi hj
    rcases snoc_get hi with ⟨li, hi⟩ | ⟨li, hi⟩ <;> rcases snoc_get hj with ⟨lj, hj⟩ | ⟨lj, hj⟩
    · exact h.inj i j b hi hj
    · injection hj with hj
      subst hj
      exact absurd (h.mu_lt hi) (by omega)
    · injection hi with hi
      subst hi
      exact absurd (h.mu_lt hj) (by omega)
    · omega


theorem WRel.ghost (h : WRel C H w) (e v : Nat) : CLe C (C.more none 0 v) ∧ WRel (C.more none 0 v) (H ++ [⟨e, v, []⟩]) w := by
  have hle : CLe C (C.more none 0 v) := C.le_more _ _ _ (fun b' e => by cases e) (h.len.trans h.lenv.symm) (h.lenc.trans h.lenv.symm)
  refine ⟨hle, ?_⟩
  have e1 := h.len
  have e2 := h.lenv
  have e3 := h.lenc
  refine ⟨h.base, h.tople, h.imm, ?_, ?_, ?_, ?_, ?_, ?_, ?_, ?_, minj_more h (fun _ _ hc => by cases hc)⟩
  · simp [Ctx.more, e1]
  · simp [Ctx.more, e2]
  · simp [Ctx.more, e3]
  · intro id k hk
    simp only [Ctx.more]
    rcases snoc_get hk with ⟨hid, hk⟩ | ⟨rfl, rfl⟩
    · rw [List.getElem?_append_left (by omega)]; exact h.ver id k hk
    · simp [← e2]
  · intro id k hk hm
    simp only [Ctx.more] at hm ⊢
    rcases snoc_get hk with ⟨hid, hk⟩ | ⟨rfl, rfl⟩
    · rw [List.getElem?_append_left (by omega)] at hm ⊢; exact (h.gho id k hk hm).imp_right (fun m => m.mono hle rfl (fun b es c hp hb => hb))
    · exact .inl ⟨by simp [← e3], rfl⟩
  · intro id k b hk hm
    simp only [Ctx.more] at hm ⊢
    rcases snoc_get hk with ⟨hid, hk⟩ | ⟨rfl, rfl⟩
    · rw [List.getElem?_append_left (by omega)] at hm
      obtain ⟨c, q3, q4, q5, q6, q7, q8⟩ := h.own id k b hk hm
      exact ⟨c, by rw [List.getElem?_append_left (by omega)]; exact q3, q4, q5, q6, q7, fun j x u hx hu => (q8 j x u hx hu).mono hle⟩
    · simp [← e1] at hm
  · intro id b hb o
    simp only [Ctx.more] at hb ⊢
    rcases snoc_get hb with ⟨hid, hb1⟩ | ⟨rfl, hb1⟩
    · exact h.disj id b hb1 o
    · cases hb1
  · intro i j b hi hj
    simp only [Ctx.more] at hi hj
    rcases snoc_get hi with ⟨li, hi⟩ | ⟨li, hi⟩ <;> rcases snoc_get hj with ⟨lj, hj⟩ | ⟨lj, hj⟩
    · exact h.inj i j b hi hj
    · cases hj
    · cases hi
    · omega

/-- The context behind a new block that is never written. -/
def Ctx.imm (C : Ctx) (b : Nat) (cur : Array Value) : Ctx := { C with M := fun b' o => if b' = b then cur[o]? else C.M b' o }

theorem WRel.allocImm (h : WRel C H w) (cur : Array Value) (e : TypeId) :
    CLe C (C.imm w.heap.size cur) ∧ WRel (C.imm w.heap.size cur) H (w.alloc (.cells cur e)) ∧ Below C.B w (w.alloc (.cells cur e)) := by
  have hle : CLe C (C.imm w.heap.size cur) := by
    refine ⟨rfl, fun b o u hu => ?_, rfl, fun b o u hu => ?_, fun _ h => .inl h, fun id ver hv => ⟨ver, hv, Nat.le_refl _, fun _ => ⟨rfl, rfl⟩⟩⟩
    · have := h.imm_lt hu
      simp only [Ctx.imm]
      rw [if_neg (by omega)]
      exact hu
    · simp only [Ctx.imm] at hu
      split at hu
      · rename_i hb; exact .inr (.inl (by rw [hb]; exact h.tople))
      · exact .inl hu
  refine ⟨hle, ?_, (Below.refl _ _).alloc h.base _⟩
  refine ⟨?_, ?_, ?_, h.len, h.lenv, h.lenc, h.ver, fun id k hk hm => (h.gho id k hk hm).imp_right (fun m => m.mono hle rfl (fun b es c hp hb => by rw [Below.heap_alloc _ _ _ (Array.getElem?_eq_some_iff.1 hb).1]; exact hb)), ?_, ?_, h.inj, h.minj⟩
  · have := h.base; simp only [Ctx.imm, World.size_alloc]; omega
  · have := h.tople; simp only [Ctx.imm, World.size_alloc]; omega
  · intro b o u hu
    simp only [Ctx.imm] at hu
    by_cases hb : b = w.heap.size
    · subst hb
      simp only [if_true] at hu
      rw [World.cell?_alloc_at _ _ _ _ rfl]
      exact hu
    · rw [if_neg hb] at hu
      exact (World.cell?_alloc_lt w _ ⟨b, o, none⟩ (h.imm_lt hu)).trans (h.imm b o u hu)
  · intro id k b hk hm
    obtain ⟨c, q3, q4, q5, q6, q7, q8⟩ := h.own id k b hk hm
    exact ⟨c, q3, q4, by rw [Below.heap_alloc _ _ _ (h.mu_lt hm)]; exact q5, q6, q7, fun j x u hx hu => (q8 j x u hx hu).mono hle⟩
  · intro id b hb o
    have := h.mu_lt hb
    simp only [Ctx.imm]
    rw [if_neg (by omega)]
    exact h.disj id b hb o

theorem set_ver {k : Blk} {id ver' : Nat} (hver : k.ver ≤ ver') (hk : H[id]? = some k) (h : WRel C H w) (mu' : List (Option Nat)) (cp' : List Nat) (hmu : ∀ i, i ≠ id → mu'[i]? = C.mu[i]? ∧ cp'[i]? = C.cp[i]?) (hun : ∀ b, some b ∈ mu' → some b ∈ C.mu ∨ C.top ≤ b)
    (hs : k.ver = ver' → mu'[id]? = C.mu[id]? ∧ cp'[id]? = C.cp[id]?) : CLe C { C with mu := mu', vs := C.vs.set id ver', cp := cp' } := by
  have hid : id < H.length := (List.getElem?_eq_some_iff.1 hk).1
  have p2 := h.ver id k hk
  have e2 := h.lenv
  refine ⟨rfl, fun _ _ _ hu => hu, rfl, fun _ _ _ h => .inl h, hun, fun i ver hv => ?_⟩
  by_cases hi : i = id
  · subst hi
    rw [p2] at hv
    injection hv with hv
    exact ⟨ver', by simp [e2, hid], by omega, fun he => hs (by omega)⟩
  · exact ⟨ver, by simp only [List.getElem?_set]; rw [if_neg (by omega)]; exact hv, Nat.le_refl _, fun _ => hmu i hi⟩

/-- A block of the abstract heap is written (its number of cells in memory stays); its version may go up. -/
theorem WRel.write (h : WRel C H w) {id b : Nat} {k : Blk} {cur : Array Value} (hk : H[id]? = some k) (hm : C.mu[id]? = some (some b)) (hb : w.heap[b]? = some (.cells cur k.e (0, 0)))
    (ver' : Nat) (hver : k.ver ≤ ver') (xs : List PV) (cur' : Array Value) (hsz : cur'.size = cur.size) (hc : ∀ x ∈ xs, x.cell = true) (hl : xs.length ≤ cur'.size)
    (hR : ∀ (j : Nat) (x : PV) (u : Value), xs[j]? = some x → cur'[j]? = some u → VRel C x u) :
    CLe C { C with vs := C.vs.set id ver' } ∧ WRel { C with vs := C.vs.set id ver' } (H.set id ⟨k.e, ver', xs⟩) (w.setRow b cur') ∧ Below C.B w (w.setRow b cur') := by
  have hid : id < H.length := (List.getElem?_eq_some_iff.1 hk).1
  obtain ⟨cur0, p3, p4, p5, _⟩ := h.own id k b hk hm
  rw [hb] at p5
  injection p5 with p5
  injection p5 with p5
  subst p5
  have e1 := h.len
  have e2 := h.lenv
  have e3 := h.lenc
  have hle : CLe C { C with vs := C.vs.set id ver' } := set_ver hver hk h C.mu C.cp (fun _ _ => ⟨rfl, rfl⟩) (fun _ h => .inl h) (fun _ => ⟨rfl, rfl⟩)
  refine ⟨hle, ?_, ?_⟩
  · refine ⟨?_, ?_, ?_, ?_, ?_, ?_, ?_, ?_, ?_, h.disj, h.inj, h.minj⟩
    · have := h.base; simp [World.setRow]; exact this
    · have := h.tople; simp [World.setRow]; exact this
    · intro b' o u hu
      have hne : b' ≠ b := by
        rintro rfl
        have := h.disj id b' hm o
        rw [this] at hu
        cases hu
      exact (cell_setRow_other w b cur' ⟨b', o, none⟩ hne).trans (h.imm b' o u hu)
    · simp [e1]
    · simp [e2]
    · simp [e3]
    · intro i k' hk'
      by_cases hi : i = id
      · subst hi
        simp [hid] at hk'
        subst hk'
        simp [e2, hid]
      · rw [List.getElem?_set_ne (by omega)] at hk'
        rw [List.getElem?_set_ne (by omega)]
        exact h.ver i k' hk'
    · intro i k' hk' hm'
      by_cases hi : i = id
      · subst hi
        rw [hm] at hm'
        cases hm'
      · rw [List.getElem?_set_ne (by omega)] at hk'
        exact (h.gho i k' hk' hm').imp_right (fun m => m.mono hle rfl (fun b2 es c hp hb2 => by
          have hne : b2 ≠ b := by
            rintro rfl
            rw [hb] at hb2; cases hb2
          rw [setRow_other w b b2 cur' hne]; exact hb2))
    · intro i k' b' hk' hm'
      by_cases hi : i = id
      · subst hi
        simp [hid] at hk'
        subst hk'
        rw [hm] at hm'
        injection hm' with hm'
        injection hm' with hm'
        subst hm'
        exact ⟨cur', by rw [hsz]; exact p3, p4, setRow_heap w b cur cur' k.e _ hb, hc, hl, fun j x u hx hu => (hR j x u hx hu).mono hle⟩
      · rw [List.getElem?_set_ne (by omega)] at hk'
        obtain ⟨c, q3, q4, q5, q6, q7, q8⟩ := h.own i k' b' hk' hm'
        have hne : b' ≠ b := by
          rintro rfl
          exact hi (h.inj i id b' hm' hm)
        exact ⟨c, q3, q4, by rw [setRow_other w b b' cur' hne]; exact q5, q6, q7, fun j x u hx hu => (q8 j x u hx hu).mono hle⟩
  · refine ⟨rfl, rfl, rfl, by simp [World.setRow], fun i hi => setRow_other w b i cur' (by omega)⟩

/-- A block of the abstract heap moves to a new place in memory (an append that grows). -/
theorem WRel.move (h : WRel C H w) {id : Nat} {k : Blk} (hk : H[id]? = some k) (ver' : Nat) (hver : k.ver < ver') (xs : List PV) (cur' : Array Value) (hc : ∀ x ∈ xs, x.cell = true) (hl : xs.length ≤ cur'.size)
    (hR : ∀ (j : Nat) (x : PV) (u : Value), xs[j]? = some x → cur'[j]? = some u → VRel C x u) :
    CLe C { C with mu := C.mu.set id (some w.heap.size), vs := C.vs.set id ver', cp := C.cp.set id cur'.size } ∧
    WRel { C with mu := C.mu.set id (some w.heap.size), vs := C.vs.set id ver', cp := C.cp.set id cur'.size } (H.set id ⟨k.e, ver', xs⟩) (w.alloc (.cells cur' k.e)) ∧
    Below C.B w (w.alloc (.cells cur' k.e)) := by
  have hid : id < H.length := (List.getElem?_eq_some_iff.1 hk).1
  have e1 := h.len
  have e2 := h.lenv
  have e3 := h.lenc
  have hle : CLe C { C with mu := C.mu.set id (some w.heap.size), vs := C.vs.set id ver', cp := C.cp.set id cur'.size } :=
    set_ver (by omega) hk h _ _ (fun i hi => ⟨List.getElem?_set_ne (by omega), List.getElem?_set_ne (by omega)⟩) (fun b hb => by
      rcases List.mem_or_eq_of_mem_set hb with hb | hb
      · exact .inl hb
      · injection hb with hb; exact .inr (by rw [hb]; exact h.tople)) (fun he => by omega)
  refine ⟨hle, ?_, (Below.refl _ _).alloc h.base _⟩
  refine ⟨?_, ?_, ?_, ?_, ?_, ?_, ?_, ?_, ?_, ?_, ?_, ?_⟩
  · have := h.base; simp only [World.size_alloc]; omega
  · have := h.tople; simp only [World.size_alloc]; omega
  · intro b o u hu
    exact (World.cell?_alloc_lt w _ ⟨b, o, none⟩ (h.imm_lt hu)).trans (h.imm b o u hu)
  · simp [e1]
  · simp [e2]
  · simp [e3]
  · intro i k' hk'
    by_cases hi : i = id
    · subst hi
      simp [hid] at hk'
      subst hk'
      simp [e2, hid]
    · rw [List.getElem?_set_ne (by omega)] at hk'
      rw [List.getElem?_set_ne (by omega)]
      exact h.ver i k' hk'
  · intro i k' hk' hm'
    by_cases hi : i = id
    · subst hi
      simp [e1, hid] at hm'
    · rw [List.getElem?_set_ne (by omega)] at hk' hm'
      rw [List.getElem?_set_ne (by omega)]
      exact (h.gho i k' hk' hm').imp_right (fun m => m.mono hle rfl (fun b es c hp hb => by rw [Below.heap_alloc _ _ _ (Array.getElem?_eq_some_iff.1 hb).1]; exact hb))
  · intro i k' b' hk' hm'
    by_cases hi : i = id
    · subst hi
      simp [hid] at hk'
      subst hk'
      simp [e1, hid] at hm'
      subst hm'
      exact ⟨cur', by simp [e3, hid], h.base, heap_alloc_new w _, hc, hl, fun j x u hx hu => (hR j x u hx hu).mono hle⟩
    · rw [List.getElem?_set_ne (by omega)] at hk' hm'
      obtain ⟨c, q3, q4, q5, q6, q7, q8⟩ := h.own i k' b' hk' hm'
      exact ⟨c, by rw [List.getElem?_set_ne (by omega)]; exact q3, q4, by rw [Below.heap_alloc _ _ _ (h.mu_lt hm')]; exact q5, q6, q7, fun j x u hx hu => (q8 j x u hx hu).mono hle⟩
  · intro i b hb o
    by_cases hi : i = id
    · subst hi
      simp [e1, hid] at hb
      subst hb
      cases hM : C.M w.heap.size o with
      | none => rfl
      | some u => exact absurd (h.imm_lt hM) (by omega)
    · simp only [List.getElem?_set_ne (by omega : id ≠ i)] at hb
      exact h.disj i b hb o
  · intro i j b hbi hbj
    by_cases hi : i = id <;> by_cases hj : j = id
    · omega
    · subst hi
      simp [e1, hid] at hbi
      simp only [List.getElem?_set_ne (by omega : i ≠ j)] at hbj
      subst hbi
      exact absurd (h.mu_lt hbj) (by omega)
    · subst hj
      simp [e1, hid] at hbj
      simp only [List.getElem?_set_ne (by omega : j ≠ i)] at hbi
      subst hbj
      exact absurd (h.mu_lt hbi) (by omega)
    · simp only [List.getElem?_set_ne (by omega : id ≠ i)] at hbi
      simp only [List.getElem?_set_ne (by omega : id ≠ j)] at hbj
      exact h.inj i j b hbi hbj
  · have ne : ∀ {i : Nat}, (C.mu.set id (some w.heap.size))[i]? = some none → id ≠ i ∧ C.mu[i]? = some none := fun {i} h => by
      by_cases hi : i = id
      · subst hi; simp [e1, hid] at h
      · exact ⟨by omega, by rw [List.getElem?_set_ne (by omega)] at h; exact h⟩
    intro i j b mi mj ci cj
    simp only [List.getElem?_set_ne (ne mi).1] at ci
    simp only [List.getElem?_set_ne (ne mj).1] at cj
    exact h.minj i j b (ne mi).2 (ne mj).2 ci cj

/-- A new map. -/
theorem WRel.allocMap (h : WRel C H w) (e v : Nat) : CLe C (C.more none (w.heap.size + 1) v) ∧ WRel (C.more none (w.heap.size + 1) v) (H ++ [⟨e, v, []⟩]) (w.alloc (.map #[] 0)) ∧ Below C.B w (w.alloc (.map #[] 0)) := by
  have hle : CLe C (C.more none (w.heap.size + 1) v) := C.le_more _ _ _ (fun b' e => by cases e) (h.len.trans h.lenv.symm) (h.lenc.trans h.lenv.symm)
  refine ⟨hle, ?_, (Below.refl _ _).alloc h.base _⟩
  have e1 := h.len
  have e2 := h.lenv
  have e3 := h.lenc
  refine ⟨?_, ?_, ?_, ?_, ?_, ?_, ?_, ?_, ?_, ?_, ?_, minj_more h (fun p _ hp i hi hc => ?_)⟩
  · have := h.base; simp only [Ctx.more, World.size_alloc]; omega
  · have := h.tople; simp only [Ctx.more, World.size_alloc]; omega
  · intro b o u hu
    have hb := h.imm_lt (o := o) hu
    exact (World.cell?_alloc_lt w _ ⟨b, o, none⟩ hb).trans (h.imm b o u hu)
  · simp [Ctx.more, e1]
  · simp [Ctx.more, e2]
  · simp [Ctx.more, e3]
  · intro id k hk
    simp only [Ctx.more]
    rcases snoc_get hk with ⟨hid, hk⟩ | ⟨rfl, rfl⟩
    · rw [List.getElem?_append_left (by omega)]; exact h.ver id k hk
    · simp [← e2]
  · intro id k hk hm
    simp only [Ctx.more] at hm ⊢
    rcases snoc_get hk with ⟨hid, hk⟩ | ⟨rfl, rfl⟩
    · rw [List.getElem?_append_left (by omega)] at hm ⊢
      exact (h.gho id k hk hm).imp_right (fun m => m.mono hle rfl (fun b es c hp hb => by rw [Below.heap_alloc _ _ _ (Array.getElem?_eq_some_iff.1 hb).1]; exact hb))
    · exact .inr ⟨w.heap.size, #[], 0, by simp [← e3], h.base, heap_alloc_new w _, rfl, fun j x e hx => by simp at hx⟩
  · intro id k b hk hm
    simp only [Ctx.more] at hm ⊢
    rcases snoc_get hk with ⟨hid, hk⟩ | ⟨rfl, rfl⟩
    · rw [List.getElem?_append_left (by omega)] at hm
      obtain ⟨c, q3, q4, q5, q6, q7, q8⟩ := h.own id k b hk hm
      exact ⟨c, by rw [List.getElem?_append_left (by omega)]; exact q3, q4, by rw [Below.heap_alloc _ _ _ (h.mu_lt hm)]; exact q5, q6, q7, fun j x u hx hu => (q8 j x u hx hu).mono hle⟩
    · simp [← e1] at hm
  · intro id b hb o
    simp only [Ctx.more] at hb ⊢
    rcases snoc_get hb with ⟨hid, hb1⟩ | ⟨rfl, hb1⟩
    · exact h.disj id b hb1 o
    · cases hb1
  · intro i j b hi hj
    simp only [Ctx.more] at hi hj
    rcases snoc_get hi with ⟨li, hi⟩ | ⟨li, hi⟩ <;> rcases snoc_get hj with ⟨lj, hj⟩ | ⟨lj, hj⟩
    · exact h.inj i j b hi hj
    · cases hj
    · cases hi
    · omega
  · have := h.map_lt hi hc
    omega

/-- A map of memory is written. -/
theorem WRel.mapSet (h : WRel C H w) {id b : Nat} {k : Blk} {es : Array MapEntry} {clock : Nat} (hk : H[id]? = some k) (hm : C.mu[id]? = some none) (hp : C.cp[id]? = some (b + 1)) (hb : w.heap[b]? = some (.map es clock)) (es' : Array MapEntry) (clock' : Nat) (cs : List PV) (hs : es'.size = cs.length)
    (hR : ∀ (j : Nat) (x : PV) (e : MapEntry), cs[j]? = some x → es'[j]? = some e → VRel C x (.tuple #[e.key, e.val])) :
    WRel C (H.set id ⟨k.e, k.ver, cs⟩) { w with heap := w.heap.setIfInBounds b (.map es' clock') } ∧ Below C.B w { w with heap := w.heap.setIfInBounds b (.map es' clock') } := by
  have hid : id < H.length := (List.getElem?_eq_some_iff.1 hk).1
  have hbl : b < w.heap.size := (Array.getElem?_eq_some_iff.1 hb).1
  have e1 := h.len
  have e2 := h.lenv
  have e3 := h.lenc
  have oth : ∀ b', b' ≠ b → (w.heap.setIfInBounds b (.map es' clock'))[b']? = w.heap[b']? := fun b' hne => by rw [Array.getElem?_setIfInBounds_ne (by omega)]
  have hB : C.B ≤ b := by
    rcases h.gho id k hk hm with ⟨h1, _⟩ | ⟨b', _, _, h1, h2, _⟩
    · rw [hp] at h1; injection h1 with h1; omega
    · rw [hp] at h1; injection h1 with h1; omega
  refine ⟨⟨?_, ?_, ?_, ?_, ?_, ?_, ?_, ?_, ?_, h.disj, h.inj, h.minj⟩, rfl, rfl, rfl, by simp, fun i hi => oth i (by omega)⟩
  · have := h.base; simpa using this
  · have := h.tople; simpa using this
  · intro b' o u hu
    have hc := h.imm b' o u hu
    have hne : b' ≠ b := by
      rintro rfl
      simp [World.cell?, hb] at hc
    simp only [World.cell?] at hc ⊢
    rw [oth b' hne]; exact hc
  · simp [e1]
  · simp [e2]
  · simp [e3]
  · intro i k' hk'
    by_cases hi : i = id
    · subst hi
      simp [hid] at hk'
      subst hk'
      exact h.ver i k hk
    · rw [List.getElem?_set_ne (by omega)] at hk'
      exact h.ver i k' hk'
  · intro i k' hk' hm'
    by_cases hi : i = id
    · subst hi
      simp [hid] at hk'
      subst hk'
      exact .inr ⟨b, es', clock', hp, hB, by simp [hbl], hs, hR⟩
    · rw [List.getElem?_set_ne (by omega)] at hk'
      exact (h.gho i k' hk' hm').imp_right (fun m => m.mono (.refl _) rfl (fun b2 es2 c2 hp2 hb2 => by
        have hne : b2 ≠ b := by
          rintro rfl
          exact hi (h.minj i id b2 hm' hm hp2 hp)
        rw [oth b2 hne]; exact hb2))
  · intro i k' b' hk' hm'
    by_cases hi : i = id
    · subst hi
      rw [hm] at hm'
      cases hm'
    · rw [List.getElem?_set_ne (by omega)] at hk'
      obtain ⟨c, q3, q4, q5, q6, q7, q8⟩ := h.own i k' b' hk' hm'
      have hne : b' ≠ b := by
        rintro rfl
        rw [hb] at q5; cases q5
      exact ⟨c, q3, q4, by rw [oth b' hne]; exact q5, q6, q7, q8⟩

end Go.Proofs.Ytnjnikafhbholaa.Pm

namespace Go.Proofs.Ytnjnikafhbholaa.Pm
set_option linter.all false
set_option linter.unusedVariables false
set_option linter.unusedSimpArgs false
open Go.RowKit

/-- A frame: slots and what they hold; the newest first. -/
abbrev Fr := List (Nat × PV)
def slot : Fr → Nat → PV
  | [], _ => .undef
  | (k, v) :: r, t => match Nat.beq k t with | true => v | false => slot r t
def put (F : Fr) (d : Option Nat) (v : PV) : Fr := match d with | none => F | some d => (d, v) :: F

def pv1 : Value → PV
  | .int k n => .int k n
  | .bool b => .bool b
  | .string s => .str s.data.toList
  | .pointer none => .nilp
  | .slice none 0 0 => .slice [] 0 true
  | .nilFunc => .nl 0
  | .nilIface => .nl 1
  | .map none => .nl 2
  | _ => .undef
def pvc : Value → PV
  | .agg cs => match (cs.toList.map pv1).all PV.cell with | true => .agg (cs.toList.map pv1) | false => .undef
  | .tuple vs => .tup (vs.toList.map pv1)
  | v => pv1 v
def ev (F : Nat → PV) : Operand → PV
  | .tmp t => F t
  | .const v => pvc v
  | .func f => .func f [] []
  | .global _ => .undef

/-- Facts of the program's table of types. -/
def szT (P : Program) (t : TypeId) : Option Nat := (P.info? t).map (·.size)
def byT (P : Program) (t : TypeId) : Option Nat := (P.info? t).map (·.bytes)
def zrT (P : Program) (t : TypeId) : Option PV := (P.info? t).bind fun i => i.zero.map pvc
def aggT (P : Program) (t : TypeId) : Option Bool :=
  match P.underlying t with
  | some (.struct _) => some true
  | some (.array _ _) => some true
  | some _ => some false
  | none => none

def live (H : Heap) (id ver : Nat) : Bool := match H[id]? with | some k => Nat.beq k.ver ver | none => false

def pint (op : BinOp) (k : IntKind) (a : Int) (k' : IntKind) (b : Int) : Option PV :=
  match op with
  | .shl => if b < 0 then none else some (.int k (k.wrap (a * 2 ^ min b.toNat k.bits)))
  | .shr => if b < 0 then none else some (.int k (a.fdiv (2 ^ min b.toNat k.bits)))
  | .add => if k = k' then some (.int k (k.wrap (a + b))) else none
  | .sub => if k = k' then some (.int k (k.wrap (a - b))) else none
  | .mul => if k = k' then some (.int k (k.wrap (a * b))) else none
  | .quo => if k = k' then (if b = 0 then none else some (.int k (k.wrap (a.tdiv b)))) else none
  | .rem => if k = k' then (if b = 0 then none else some (.int k (a.tmod b))) else none
  | .and => if k = k' then some (.int k (k.wrap (BitVec.ofInt k.bits a &&& BitVec.ofInt k.bits b).toNat)) else none
  | .or => if k = k' then some (.int k (k.wrap (BitVec.ofInt k.bits a ||| BitVec.ofInt k.bits b).toNat)) else none
  | .xor => if k = k' then some (.int k (k.wrap (BitVec.ofInt k.bits a ^^^ BitVec.ofInt k.bits b).toNat)) else none
  | .andNot => if k = k' then some (.int k (k.wrap (BitVec.ofInt k.bits a &&& ~~~BitVec.ofInt k.bits b).toNat)) else none
  | .eql => if k = k' then some (.bool (a == b)) else none
  | .neq => if k = k' then some (.bool (a != b)) else none
  | .lss => if k = k' then some (.bool (decide (a < b))) else none
  | .leq => if k = k' then some (.bool (decide (a ≤ b))) else none
  | .gtr => if k = k' then some (.bool (decide (b < a))) else none
  | .geq => if k = k' then some (.bool (decide (b ≤ a))) else none

def pstr (op : BinOp) (a b : List UInt8) : Option PV :=
  match op with
  | .add => if a.length + b.length ≤ 140737488355328 then some (.str (a ++ b)) else none
  | .eql => some (.bool (a == b))
  | .neq => some (.bool !(a == b))
  | .lss => some (.bool (Op.bytesLess a b))
  | .leq => some (.bool (Op.bytesLess a b || a == b))
  | .gtr => some (.bool !(Op.bytesLess a b || a == b))
  | .geq => some (.bool !(Op.bytesLess a b))
  | _ => none

def peq (op : BinOp) (b : Bool) : Option PV :=
  match op with
  | .eql => some (.bool b)
  | .neq => some (.bool !b)
  | _ => none

def isPtrT (P : Program) (t : TypeId) : Bool := match P.underlying t with | some (.pointer _) => true | _ => false
def isBoolT (P : Program) (t : TypeId) : Bool := match P.underlying t with | some .bool => true | _ => false

def pbin (P : Program) (H : Heap) (op : BinOp) (t : TypeId) (x y : PV) : Option PV :=
  match x, y with
  | .int k a, .int k' b => pint op k a k' b
  | .str a, .str b => pstr op a b
  | .bool a, .bool b => match isBoolT P t with | true => peq op (a == b) | false => none
  | .nilp, .nilp => match isPtrT P t with | true => peq op true | false => none
  | .ptr id ver _, .nilp => match isPtrT P t && live H id ver with | true => peq op false | false => none
  | .nilp, .ptr id ver _ => match isPtrT P t && live H id ver with | true => peq op false | false => none
  | .ip _ _, .nilp => match isPtrT P t with | true => peq op false | false => none
  | .nilp, .ip _ _ => match isPtrT P t with | true => peq op false | false => none
  | _, _ => none

/-- A scalar type. -/
def scalT (P : Program) (t : TypeId) : Option TypeDesc := match P.underlying t with | some (.int k) => some (.int k) | some .bool => some .bool | some .string => some .string | _ => none
/-- The equality of two scalars of a type. -/
def peqS : TypeDesc → PV → PV → Option Bool
  | .int _, .int k a, .int k' b => if k = k' then some (a == b) else none
  | .bool, .bool a, .bool b => some (a == b)
  | .string, .str a, .str b => some (a == b)
  | _, _, _ => none
/-- Scalar cells, one by one. -/
def peqI (u : TypeDesc) : List PV → List PV → Option Bool
  | [], [] => some true
  | x :: xs, y :: ys => match peqS u x y with
    | some c => (peqI u xs ys).map fun r => c && r
    | none => none
  | _, _ => none
def pun (op : UnOp) (x : PV) : Option PV :=
  match op, x with
  | .neg, .int k n => some (.int k (k.wrap (0 - n)))
  | .xor, .int k n => some (.int k (k.wrap (BitVec.ofInt k.bits (if k.signed then -1 else k.max) ^^^ BitVec.ofInt k.bits n).toNat))
  | .not, .bool b => some (.bool !b)
  | _, _ => none

/-- The bytes of cells. -/
def byteOf : PV → Option UInt8
  | .int .u8 n => some (UInt8.ofNat n.toNat)
  | _ => none
def pbytes (xs : List PV) : Option (List UInt8) := xs.mapM byteOf

/-- The cells of a slice: 'n' elements of 'sz' cells. -/
def scells (H : Heap) (sz : Nat) (x : PV) : Option (List PV × Nat) :=
  match x with
  | .slice xs len _ => if xs.length = len * sz then some (xs, len) else none
  | .msl id ver off len _ _ => match H[id]? with
    | some k => if k.ver = ver ∧ off + len * sz ≤ k.cells.length then some ((k.cells.drop off).take (len * sz), len) else none
    | none => none
  | _ => none

def pconv (P : Program) (H : Heap) (src dst : TypeId) (x : PV) : Option PV :=
  match P.underlying src, P.underlying dst, x with
  | some _, some (.int k), .int _ n => some (.int k (k.wrap n))
  | some _, some .string, .str s => some (.str s)
  | some _, some .string, .int _ n => if 0 ≤ n ∧ n < 128 then some (.str [UInt8.ofNat n.toNat]) else none
  | some (.slice e), some .string, x => match P.underlying e with
    | some (.int .u8) => (scells H 1 x).bind fun c => (pbytes c.1).map .str
    | _ => none
  | _, _, _ => none

def splice (xs : List PV) (off : Nat) (ys : List PV) : List PV := xs.take off ++ ys ++ xs.drop (off + ys.length)

/-- A variable of type t at place off of some cells. -/
def rd (P : Program) (t : TypeId) (xs : List PV) (off : Nat) : Option PV :=
  match aggT P t with
  | some true => match szT P t with
    | some n => if off + n ≤ xs.length then some (.agg ((xs.drop off).take n)) else none
    | none => none
  | some false => xs[off]?
  | none => none
def pload (P : Program) (H : Heap) (t : TypeId) (x : PV) : Option PV :=
  match x with
  | .ip xs off => rd P t xs off
  | .ptr id ver off => match H[id]? with
    | some k => if k.ver = ver then rd P t k.cells off else none
    | none => none
  | _ => none
def wr (P : Program) (t : TypeId) (xs : List PV) (off : Nat) (v : PV) : Option (List PV) :=
  match v with
  | .agg cs => if szT P t = some cs.length ∧ off + cs.length ≤ xs.length then some (splice xs off cs) else none
  | v => if szT P t = some 1 ∧ v.cell = true ∧ off < xs.length then some (xs.set off v) else none
def pstore (P : Program) (H : Heap) (t : TypeId) (x v : PV) : Option Heap :=
  match x with
  | .ptr id ver off => match H[id]? with
    | some k => if k.ver = ver then (wr P t k.cells off v).map fun c => H.set id ⟨k.e, k.ver, c⟩ else none
    | none => none
  | _ => none

/-- == on values of a type without pointers. -/
def peqF (eq : TypeId → PV → PV → Option Bool) (P : Program) (xs ys : List PV) : List Field → Option Bool
  | [] => some true
  | f :: r => match decide (f.name = "_") with
    | true => none
    | false => match rd P f.type xs f.offset, rd P f.type ys f.offset with
      | some a, some b => match eq f.type a b with
        | some c => (peqF eq P xs ys r).map fun q => c && q
        | none => none
      | _, _ => none
def peqA (eq : TypeId → PV → PV → Option Bool) (P : Program) (e n : Nat) (xs ys : List PV) : List Nat → Option Bool
  | [] => some true
  | i :: r => match rd P e xs (i * n), rd P e ys (i * n) with
    | some a, some b => match eq e a b with
      | some c => (peqA eq P e n xs ys r).map fun q => c && q
      | none => none
    | _, _ => none
def peqT (P : Program) : Nat → TypeId → PV → PV → Option Bool
  | 0, _, _, _ => none
  | d + 1, t, x, y => match P.underlying t with
    | some (.struct fs) => match x, y with
      | .agg xs, .agg ys => match P.stoodInHeld t with
        | false => peqF (peqT P d) P xs ys fs.toList
        | true => none
      | _, _ => none
    | some (.array len e) => match x, y with
      | .agg xs, .agg ys => match scalT P e with
        | some u => if szT P e = some 1 ∧ xs.length = len ∧ ys.length = len then peqI u xs ys else none
        | none => match szT P e with
          | some n => peqA (peqT P d) P e n xs ys (List.range len)
          | none => none
      | _, _ => none
    | some u => peqS u x y
    | none => none
def peqG (P : Program) (op : BinOp) (t : TypeId) (x y : PV) : Option PV :=
  match P.eqGuardType P.depth t with
  | false => match peqT P 12 t x y with
    | some b => peq op b
    | none => none
  | true => none

def pfieldAddr (P : Program) (H : Heap) (s : TypeId) (x : PV) (f : Nat) : Option PV :=
  match P.underlying s with
  | some (.struct fs) => match fs[f]? with
    | some fd => match szT P fd.type with
      | some n => if 0 < n then match x with
          | .ip xs off => some (.ip xs (off + fd.offset))
          | .ptr id ver off => match live H id ver with | true => some (.ptr id ver (off + fd.offset)) | false => none
          | _ => none
        else none
      | none => none
    | none => none
  | _ => none
def pfield (P : Program) (s : TypeId) (x : PV) (f : Nat) : Option PV :=
  match P.underlying s with
  | some (.struct fs) => match fs[f]? with
    | some fd => match x with
      | .agg cs => rd P fd.type cs fd.offset
      | _ => none
    | none => none
  | _ => none

def pindexAddr (P : Program) (H : Heap) (t : TypeId) (x i : PV) : Option PV :=
  match P.underlying t, x, i with
  | some (.slice e), .slice xs len _, .int _ i => match szT P e with
    | some n => if 0 ≤ i ∧ i < len ∧ len * n ≤ xs.length ∧ 0 < n then some (.ip xs (i.toNat * n)) else none
    | none => none
  | some (.slice e), .msl id ver off len _ _, .int _ i => match szT P e, live H id ver with
    | some n, true => if 0 ≤ i ∧ i < len then some (.ptr id ver (off + i.toNat * n)) else none
    | _, _ => none
  | some (.array len e), .ptr id ver off, .int _ i => match szT P e, live H id ver with
    | some n, true => if 0 ≤ i ∧ i < len then some (.ptr id ver (off + i.toNat * n)) else none
    | _, _ => none
  | some (.array len e), .ip xs off, .int _ i => match szT P e with
    | some n => if 0 ≤ i ∧ i < len then some (.ip xs (off + i.toNat * n)) else none
    | none => none
  | _, _, _ => none
def pindex (P : Program) (t : TypeId) (x i : PV) : Option PV :=
  match P.underlying t, x, i with
  | some (.array len e), .agg cs, .int _ i => match szT P e with
    | some n => if 0 ≤ i ∧ i < len then rd P e cs (i.toNat * n) else none
    | none => none
  | some .string, .str s, .int _ i => if 0 ≤ i ∧ i < s.length then some (.int .u8 ((s.getD i.toNat 0).toNat : Int)) else none
  | _, _, _ => none

/-- A bound of a slice expression. -/
def pbound (d : Nat) : Option PV → Option Nat
  | none => some d
  | some (.int _ i) => if 0 ≤ i then some i.toNat else none
  | some _ => none
def pslice (P : Program) (H : Heap) (t : TypeId) (x : PV) (lo hi mx : Option PV) : Option PV :=
  match P.underlying t, x with
  | some (.slice e), .slice xs len full => match szT P e, pbound 0 lo, pbound len hi with
    | some n, some l, some h => match mx with
      | none => if l ≤ h ∧ h ≤ len ∧ xs.length = len * n then some (.slice ((xs.drop (l * n)).take ((h - l) * n)) (h - l) (full && decide (h = len))) else none
      | some z => match pbound len (some z), hi with
        | some m, some _ => if l ≤ h ∧ h ≤ m ∧ m ≤ len ∧ xs.length = len * n then some (.slice ((xs.drop (l * n)).take ((h - l) * n)) (h - l) (decide (m = h))) else none
        | _, _ => none
    | _, _, _ => none
  | some (.slice e), .msl id ver off len sz g => match szT P e, pbound 0 lo, pbound len hi, mx, live H id ver with
    | some n, some l, some h, none, true => if l ≤ h ∧ h ≤ len then some (.msl id ver (off + l * n) (h - l) sz (match lo with | none => g | some _ => false)) else none
    | _, _, _, _, _ => none
  | some (.array len e), .ptr id ver off => match szT P e, pbound 0 lo, pbound len hi, mx, live H id ver with
    | some n, some l, some h, none, true => if l ≤ h ∧ h ≤ len ∧ len ≤ 1048576 then some (.msl id ver (off + l * n) (h - l) n false) else none
    | _, _, _, _, _ => none
  | some .string, .str s => match pbound 0 lo, pbound s.length hi, mx with
    | some l, some h, none => if l ≤ h ∧ h ≤ s.length then some (.str ((s.drop l).take (h - l))) else none
    | _, _, _ => none
  | _, _ => none

def pfill (place : Nat → Option (Nat × Nat)) (cs : List PV) : List (Nat × PV) → Option (List PV)
  | [] => some cs
  | (i, v) :: rest => match place i with
    | none => none
    | some (off, size) => if v.cells.length = size ∧ off + size ≤ cs.length ∧ v.cells.all PV.cell = true then pfill place (splice cs off v.cells) rest else none
def fieldPlaces (P : Program) (fs : List Field) (i : Nat) : Option (Nat × Nat) :=
  match fs[i]? with
  | some f => (szT P f.type).map fun n => (f.offset, n)
  | none => none
def zcells (P : Program) (t : TypeId) : Option (List PV) := match zrT P t with | some z => (match z.cells.all PV.cell with | true => some z.cells | false => none) | none => none
def pbuild (P : Program) (t : TypeId) (parts : List (Nat × PV)) : Option PV :=
  match P.underlying t, zcells P t with
  | some (.struct fs), some z => match fs.toList.all (fun f => (szT P f.type).isSome) with
    | true => (pfill (fieldPlaces P fs.toList) z parts).map .agg
    | false => none
  | some (.array _ e), some z => match szT P e with
    | some n => (pfill (fun i => some (i * n, n)) z parts).map .agg
    | none => none
  | _, _ => none
def reps (n : Nat) (z : List PV) : List PV := (List.replicate n z).flatten
def pbuildSlice (P : Program) (t : TypeId) (len : Nat) (parts : List (Nat × PV)) : Option PV :=
  match P.underlying t with
  | some (.slice e) => match szT P e, zcells P e with
    | some n, some z => if len = 0 ∧ parts.length = 0 then some (.slice [] 0 true) else if z.length = n ∧ 0 < len * n ∧ len * n ≤ 65536 then (pfill (fun i => some (i * n, n)) (reps len z) parts).map fun c => .slice c len true else none
    | _, _ => none
  | _ => none

def pmake (P : Program) (H : Heap) (t : TypeId) (l c : PV) : Option (PV × Heap) :=
  match P.underlying t, l, c with
  | some (.slice e), .int _ l, .int _ c => match szT P e, byT P e, zcells P e with
    | some n, some b, some z => if 0 ≤ l ∧ l ≤ c ∧ (b : Int) * c ≤ 140737488355328 ∧ c ≤ 140737488355328 ∧ z.length = n ∧ 0 < n then some (.msl H.length 0 0 l.toNat n true, H ++ [⟨e, 0, reps l.toNat z⟩]) else none
    | _, _, _ => none
  | _, _, _ => none

/-- What is appended: the cells and their number of elements. -/
def appSrc (P : Program) (H : Heap) (e sz : Nat) (tx : TypeId) (x : PV) : Option (List PV × Nat) :=
  match P.underlying tx, x with
  | some (.slice _), x => scells H sz x
  | some (.int _), .int _ n => match zcells P e with
    | some z => if 0 ≤ n ∧ n ≤ 1048576 ∧ z.length = sz then some (reps n.toNat z, n.toNat) else none
    | none => none
  | some .string, .str s => if sz = 1 then some (s.map fun b => .int .u8 (b.toNat : Int), s.length) else none
  | _, _ => none
def pappend (P : Program) (H : Heap) (t tx : TypeId) (s x : PV) : Option (PV × Heap) :=
  match P.underlying t with
  | some (.slice e) => match szT P e, byT P e, zcells P e with
    | some sz, some b, some z =>
      if 0 < sz ∧ z.length = sz then
        match appSrc P H e sz tx x with
        | some (news, n) =>
          match s with
          | .slice xs len full =>
            if n = 0 then some (.slice xs len full, H)
            else if full = true ∧ xs.length = len * sz ∧ (len + n) * b ≤ 140737488355328 ∧ len + n ≤ 140737488355328 then some (.msl H.length (xs ++ news).length 0 (len + n) sz true, H ++ [⟨e, (xs ++ news).length, xs ++ news⟩]) else none
          | .msl id ver off len sz' g => match H[id]? with
            | some k =>
              if k.ver = ver ∧ g = true ∧ off = 0 ∧ sz' = sz ∧ k.e = e ∧ k.cells.length = len * sz ∧ k.ver ≤ k.cells.length ∧ (len + n) * b ≤ 140737488355328 ∧ len + n ≤ 140737488355328 then
                (if n = 0 then some (.msl id ver off len sz' g, H) else some (.msl id (k.cells ++ news).length 0 (len + n) sz true, H.set id ⟨e, (k.cells ++ news).length, k.cells ++ news⟩)) else none
            | none => none
          | _ => none
        | none => none
      else none
    | _, _, _ => none
  | _ => none
def pcopy (P : Program) (H : Heap) (t : TypeId) (d x : PV) : Option (PV × Heap) :=
  match P.underlying t with
  | some (.slice e) => match szT P e with
    | some sz => match d with
      | .msl id ver off len _ _ => match H[id]?, scells H sz x with
        | some k, some (ys, n) => if k.ver = ver ∧ off + len * sz ≤ k.cells.length then some (.int .i64 (min n len : Nat), H.set id ⟨k.e, ver, splice k.cells off (ys.take (min n len * sz))⟩) else none
        | _, _ => none
      | .slice _ 0 _ => match scells H sz x with
        | some _ => some (.int .i64 0, H)
        | none => none
      | _ => none
    | none => none
  | _ => none
def plen (P : Program) (H : Heap) (t : TypeId) (x : PV) : Option PV :=
  match P.underlying t, x with
  | some .string, .str s => some (.int .i64 (s.length : Nat))
  | some (.array n _), _ => some (.int .i64 (n : Nat))
  | some (.slice _), .slice _ n _ => some (.int .i64 (n : Nat))
  | some (.slice _), .msl id ver _ n _ _ => match live H id ver with | true => some (.int .i64 (n : Nat)) | false => none
  | _, _ => none
def pmin (x y : PV) : Option PV := match x, y with | .int k a, .int _ b => some (.int k (if b < a then b else a)) | _, _ => none
def pmax (x y : PV) : Option PV := match x, y with | .int k a, .int _ b => some (.int k (if b > a then b else a)) | _, _ => none
def pfold (f : PV → PV → Option PV) : PV → List PV → Option PV
  | x, [] => some x
  | x, y :: r => match f x y with | some z => pfold f z r | none => none
def pbuiltin (P : Program) (H : Heap) (b : Builtin) (ts : List TypeId) (args : List PV) : Option (PV × Heap) :=
  match b, ts, args with
  | .len, [t], [x] => (plen P H t x).map fun v => (v, H)
  | .append, [t, tx], [s, x] => pappend P H t tx s x
  | .copy, [t, _], [d, x] => pcopy P H t d x
  | .min, _, x :: r => (pfold pmin x r).map fun v => (v, H)
  | .max, _, x :: r => (pfold pmax x r).map fun v => (v, H)
  | _, _, _ => none

def pnil (H : Heap) (x : PV) : Option PV :=
  match x with
  | .ptr id ver off => match live H id ver with | true => some (.ptr id ver off) | false => none
  | .ip xs off => some (.ip xs off)
  | .func f a b => some (.func f a b)
  | _ => none

/-- Is it nil, of a slice type? -/
def isNilV : Value → Bool
  | .slice none n m => Nat.beq n 0 && Nat.beq m 0
  | _ => false
def isNilSl : Operand → Bool
  | .const v => isNilV v
  | .tmp _ => false
  | .func _ => false
  | .global _ => false
/-- A slice compared with nil: one that has elements. -/
def pnilcmp (P : Program) (H : Heap) (op : BinOp) (t : TypeId) (x : PV) : Option PV :=
  match P.underlying t with
  | some (.slice _) => match x with
    | .slice _ n _ => if 0 < n then peq op false else none
    | .msl id ver _ n _ _ => if 0 < n ∧ live H id ver = true then peq op false else none
    | _ => none
  | _ => none
/-! ### maps: a map's cells are its entries, each a pair -/
/-- The first entry with a key. -/
def pfind (d : TypeDesc) (k : PV) : List PV → Nat → Option (Option (Nat × PV))
  | [], _ => some none
  | .tup [a, v] :: r, i => match peqS d k a with
    | some true => some (some (i, v))
    | some false => pfind d k r (i + 1)
    | none => none
  | _ :: _, _ => none
def pmapOf (P : Program) (H : Heap) (t : TypeId) (m : PV) : Option (TypeId × TypeDesc × Nat × Blk) :=
  match P.underlying t, m with
  | some (.map kt e), .mp id ver => match scalT P kt, H[id]? with
    | some d, some b => if b.ver = ver then some (e, d, id, b) else none
    | _, _ => none
  | _, _ => none
def plook (P : Program) (H : Heap) (t : TypeId) (m k : PV) (ok : Bool) : Option PV :=
  match pmapOf P H t m with
  | some (e, d, _, b) => match pfind d k b.cells 0 with
    | some (some (_, v)) => some (match ok with | true => .tup [v, .bool true] | false => v)
    | some none => match zrT P e with
      | some z => some (match ok with | true => .tup [z, .bool false] | false => z)
      | none => none
    | none => none
  | none => none
def pmset (P : Program) (H : Heap) (t : TypeId) (m k v : PV) : Option Heap :=
  match pmapOf P H t m with
  | some (_, d, id, b) => match pfind d k b.cells 0 with
    | some (some (i, _)) => some (H.set id ⟨b.e, b.ver, b.cells.set i (.tup [k, v])⟩)
    | some none => some (H.set id ⟨b.e, b.ver, b.cells ++ [.tup [k, v]]⟩)
    | none => none
  | none => none

/-- ONE OPERATION that is no call of a Go function: its value and the heap behind it. -/
def pop (P : Program) (op : Op) (F : Nat → PV) (H : Heap) : Option (PV × Heap) :=
  match op with
  | .move x => some (ev F x, H)
  | .assign x => some (ev F x, H)
  | .pick c a b => match ev F c, ev F a, ev F b with
    | .bool t, .bool p, .bool q => some (.bool (bif t then p else q), H)
    | .bool t, p, q => some (bif t then p else q, H)
    | _, _, _ => none
  | .box elem x => match (ev F x).cells.all PV.cell with | true => some (.ptr H.length 0 0, H ++ [⟨elem, 0, (ev F x).cells⟩]) | false => none
  | .alloc elem => (zcells P elem).map fun z => (.ptr H.length 0 0, H ++ [⟨elem, 0, z⟩])
  | .build t parts => (pbuild P t (parts.toList.map fun p => (p.1, ev F p.2))).map fun v => (v, H)
  | .buildSlice t len parts => (pbuildSlice P t len (parts.toList.map fun p => (p.1, ev F p.2))).map fun v => (v, H)
  | .load t a => (pload P H t (ev F a)).map fun v => (v, H)
  | .store t a x => (pstore P H t (ev F a) (ev F x)).map fun H' => (.tup [], H')
  | .nilCheck x => (pnil H (ev F x)).map fun v => (v, H)
  | .binOp op t x y _ => match isNilSl y with
    | true => (pnilcmp P H op t (ev F x)).map fun v => (v, H)
    | false => match ev F x, ev F y with
      | .agg xs, .agg ys => (peqG P op t (.agg xs) (.agg ys)).map fun v => (v, H)
      | a, b => (pbin P H op t a b).map fun v => (v, H)
  | .unOp op _ x => (pun op (ev F x)).map fun v => (v, H)
  | .convert src dst x => (pconv P H src dst (ev F x)).map fun v => (v, H)
  | .makeFunc (.func f) first captured => some (.func f (first.toList.map (ev F)) (captured.toList.map (ev F)), H)
  | .makeSlice t l c => pmake P H t (ev F l) (ev F c)
  | .slice t x lo hi mx => (pslice P H t (ev F x) (lo.map (ev F)) (hi.map (ev F)) (mx.map (ev F))).map fun v => (v, H)
  | .fieldAddr s x f => (pfieldAddr P H s (ev F x) f).map fun v => (v, H)
  | .field s x f => (pfield P s (ev F x) f).map fun v => (v, H)
  | .indexAddr t x i => (pindexAddr P H t (ev F x) (ev F i)).map fun v => (v, H)
  | .index t x i => (pindex P t (ev F x) (ev F i)).map fun v => (v, H)
  | .makeMap t none => some (.mp H.length 0, H ++ [⟨t, 0, []⟩])
  | .lookup t m k ok => (plook P H t (ev F m) (ev F k) ok).map fun v => (v, H)
  | .mapUpdate t m k x => (pmset P H t (ev F m) (ev F k) (ev F x)).map fun H' => (.tup [], H')
  | .insert t m k x => (pmset P H t (ev F m) (ev F k) (ev F x)).map fun H' => (.tup [], H')
  | .extract x i => match ev F x with | .tup vs => (vs[i]?).map fun v => (v, H) | _ => none
  | .call { callee := .builtin b, args, argTypes } => pbuiltin P H b argTypes.toList (args.toList.map (ev F))
  | _ => none

/-- A call of a Go function: which, and with what. -/
def pcallee (op : Op) (F : Nat → PV) : Option (FuncId × List PV) :=
  match op with
  | .call { callee := .value f, args, .. } => match ev F f with
    | .func f first captured => some (f, first ++ args.toList.map (ev F) ++ captured)
    | _ => none
  | _ => none

end Go.Proofs.Ytnjnikafhbholaa.Pm

namespace Go.Proofs.Ytnjnikafhbholaa.Pm
set_option linter.all false
set_option linter.unusedVariables false
set_option linter.unusedSimpArgs false
open Go.RowKit

variable {P : Program} {C : Ctx} {H : Heap} {w : World} {F : Nat → PV} {a : Act} {N : Nat}

/-- The frame, as the abstract one has it. -/
def FRel (C : Ctx) (N : Nat) (F : Nat → PV) (a : Act) : Prop := a.tmps.size = N ∧ ∀ t, VRel C (F t) (a.tmps.getD t Go.undef)

theorem FRel.mono {C' : Ctx} (h : CLe C C') (r : FRel C N F a) : FRel C' N F a := ⟨r.1, fun t => (r.2 t).mono h⟩

theorem VRel.undefV : VRel C (.tup []) Go.undef := .tup (us := []) rfl (fun j x u hx => by simp at hx)

def upd (F : Nat → PV) (d : Option Nat) (v : PV) : Nat → PV := match d with | none => F | some d => fun t => if d = t then v else F t

theorem get_put (F : Fr) (d : Option Nat) (v : PV) : slot (put F d v) = upd (slot F) d v := by
  cases d with
  | none => rfl
  | some d =>
    funext t
    show (match Nat.beq d t with | true => v | false => slot F t) = if d = t then v else slot F t
    by_cases h : d = t
    · subst h; rw [Nat.beq_refl]; simp
    · rw [show Nat.beq d t = false from by cases hb : Nat.beq d t with | false => rfl | true => exact absurd (Nat.eq_of_beq_eq_true hb) h]; simp [h]

theorem FRel.put (r : FRel C N F a) (d : Option Nat) (hd : ∀ t, d = some t → t < N) {v : PV} {u : Value} (hv : VRel C v u) : FRel C N (upd F d v) (a.put d u) := by
  cases d with
  | none => exact r
  | some d =>
    have hlt := hd d rfl
    refine ⟨by simp [Act.put, r.1], fun t => ?_⟩
    simp only [upd, Act.put, Array.getD_eq_getD_getElem?, Array.getElem?_setIfInBounds]
    by_cases h : d = t
    · subst h
      simp [r.1, hlt, hv]
    · simp only [h, if_false]
      have := r.2 t
      rwa [Array.getD_eq_getD_getElem?] at this

theorem pv1_rel (v : Value) : VRel C (pv1 v) v := by
  unfold pv1
  split
  all_goals first | exact .int _ _ | exact .bool _ | exact .str _ | exact .nilp | exact .sliceN _ _ | exact .nl 0 | exact .nl 1 | exact .nl 2 | exact .undef _
theorem pvc_rel (v : Value) : VRel C (pvc v) v := by
  unfold pvc
  split
  · rename_i cs
    split
    · rename_i h
      have := VRel.agg (C := C) (cs := cs.toList.map pv1) (us := cs.toList) (by simp) (fun x hx => List.all_eq_true.1 h x hx) (fun j x u hx hu => by
        simp only [List.getElem?_map, hu, Option.map_some, Option.some.injEq] at hx
        subst hx
        exact pv1_rel u)
      simpa using this
    · exact .undef _
  · rename_i vs
    have := VRel.tup (C := C) (vs := vs.toList.map pv1) (us := vs.toList) (by simp) (fun j x u hx hu => by
      simp only [List.getElem?_map, hu, Option.map_some, Option.some.injEq] at hx
      subst hx
      exact pv1_rel u)
    simpa using this
  · exact pv1_rel _

theorem ev_rel (r : FRel C N F a) (x : Operand) : VRel C (ev F x) (a.eval x) := by
  cases x with
  | tmp t => exact r.2 t
  | const v => exact pvc_rel v
  | global g => exact .undef _
  | func f => exact .func (us := []) (ws := []) rfl rfl (fun j x u hx => by simp at hx) (fun j x u hx => by simp at hx)

theorem evs_rel (r : FRel C N F a) (xs : List Operand) : VRels C (xs.map (ev F)) (xs.map a.eval) := by
  refine ⟨by simp, fun j x u hx hu => ?_⟩
  simp only [List.getElem?_map, Option.map_eq_some_iff] at hx hu
  obtain ⟨o, ho, rfl⟩ := hx
  obtain ⟨o', ho', rfl⟩ := hu
  rw [ho] at ho'
  injection ho' with ho'
  subst ho'
  exact ev_rel r o

/-- What an operation must do. -/
def OpOk (P : Program) (o : Oper) (a : Act) (w : World) (C : Ctx) (v : PV) (H' : Heap) : Prop :=
  ∃ C' u w', CLe C C' ∧ WRel C' H' w' ∧ Below C.B w w' ∧ VRel C' v u ∧ ((execOp a.eval o).run P w = .ok (.value u) w' ∨ ((execOp a.eval o).run P w = .ok .skip w' ∧ u = Go.undef))

theorem OpOk.pure {o : Oper} {v : PV} {u : Value} (hw : WRel C H w) (hv : VRel C v u) (hr : (execOp a.eval o).run P w = .ok (.value u) w) : OpOk P o a w C v H :=
  ⟨C, u, w, .refl _, hw, .refl _ _, hv, .inl hr⟩

theorem inv_int {k : IntKind} {n : Int} {v : Value} (h : VRel C (.int k n) v) : v = .int k n := by cases h; rfl
theorem inv_bool {b : Bool} {v : Value} (h : VRel C (.bool b) v) : v = .bool b := by cases h; rfl
theorem inv_nilp {v : Value} (h : VRel C .nilp v) : v = .pointer none := by cases h; rfl
theorem inv_str {s : List UInt8} {v : Value} (h : VRel C (.str s) v) : ∃ t : ByteArray, v = .string t ∧ t.data.toList = s := by cases h; exact ⟨_, rfl, rfl⟩
theorem str_mk (s : List UInt8) : VRel C (.str s) (.string ⟨s.toArray⟩) := by simpa using VRel.str (C := C) ⟨s.toArray⟩

theorem live_vs (hw : WRel C H w) {id ver : Nat} (h : live H id ver = true) : C.vs[id]? = some ver ∧ ∃ k, H[id]? = some k ∧ k.ver = ver := by
  unfold live at h
  split at h
  · rename_i k hk
    have q2 := hw.ver id k hk
    have : k.ver = ver := by simpa using h
    exact ⟨this ▸ q2, k, hk, this⟩
  · cases h

theorem inv_ptr (_hw : WRel C H w) {id ver off : Nat} {v : Value} (hv : VRel C (.ptr id ver off) v) (hl : C.vs[id]? = some ver) : ∃ b, C.mu[id]? = some (some b) ∧ v = .pointer (some ⟨b, off, none⟩) := by
  cases hv with
  | ptr hm _ => exact ⟨_, hm, rfl⟩
  | ptrS _ _ hv' hlt => rw [hl] at hv'; injection hv' with hv'; omega

theorem inv_mp (_hw : WRel C H w) {id ver : Nat} {v : Value} (hv : VRel C (.mp id ver) v) (hl : C.vs[id]? = some ver) : ∃ b, C.mu[id]? = some none ∧ C.cp[id]? = some (b + 1) ∧ v = .map (some b) := by
  cases hv with
  | mp hm _ hb => exact ⟨_, hm, hb, rfl⟩
  | mpS _ _ hv' hlt => rw [hl] at hv'; injection hv' with hv'; omega

theorem inv_msl (_hw : WRel C H w) {id ver off len sz : Nat} {g : Bool} {v : Value} (hv : VRel C (.msl id ver off len sz g) v) (hl : C.vs[id]? = some ver) :
    (∃ b cap off', C.mu[id]? = some (some b) ∧ v = .slice (some ⟨b, off', none⟩) len cap ∧ len ≤ cap ∧ cap ≤ maxLen ∧ (0 < len → off' = off) ∧ (g = true → off = 0 ∧ off' = 0 ∧ C.cp[id]? = some (cap * sz))) ∨
    (∃ ad, (C.mu[id]? = some none ∧ C.cp[id]? = some 0) ∧ len = 0 ∧ v = .slice ad 0 0) := by
  cases hv with
  | msl hm _ hcap hmax hg => exact .inl ⟨_, _, _, hm, rfl, hcap, hmax, fun _ => rfl, fun h => ⟨(hg h).1, (hg h).1, (hg h).2⟩⟩
  | mslG ad hm _ => exact .inr ⟨ad, hm, rfl, rfl⟩
  | mslE hm _ hmax => exact .inl ⟨_, _, _, hm, rfl, Nat.zero_le _, hmax, fun h => absurd h (by omega), fun h => by cases h⟩
  | mslS _ _ hv' hlt => rw [hl] at hv'; injection hv' with hv'; omega

/-! ### integers, strings, comparisons -/
theorem pint_sound {op : BinOp} {k k' : IntKind} {x y : Int} {v : PV} (t : TypeId) (h : pint op k x k' y = some v) : ∃ u, VRel C v u ∧ (binOp op t (.int k x) (.int k' y)).run P w = .ok u w := by
  cases op <;> simp only [pint] at h <;> (repeat' split at h) <;> (try (cases h; done)) <;> (injection h with h; subst h)
  all_goals first
    | (refine ⟨_, .int _ _, ?_⟩; simp_all [binOp, Op.intArith, Op.intDiv, Op.intBits]; done)
    | (refine ⟨_, .bool _, ?_⟩; simp_all [binOp, Op.intCmp]; done)
    | (refine ⟨_, .int _ _, ?_⟩; rename_i hy; simp only [binOp, Op.shift]; rw [if_neg hy]; simp; done)

theorem pint_guard {op : BinOp} {t : TypeId} {x y : Operand} {k k' : IntKind} {m n : Int} : (eqGuard op t x y (.int k m) (.int k' n)).run P w = .ok () w := by
  cases op <;> simp [eqGuard]

theorem pstr_sound {op : BinOp} {x y : ByteArray} {v : PV} (t : TypeId) (h : pstr op x.data.toList y.data.toList = some v) : ∃ u, VRel C v u ∧ (binOp op t (.string x) (.string y)).run P w = .ok u w := by
  have ex := ByteArray.toList_eq x
  have ey := ByteArray.toList_eq y
  cases op <;> simp only [pstr] at h <;> (try (cases h; done))
  case add =>
    split at h
    · rename_i hl
      injection h with h
      subst h
      refine ⟨.string (x ++ y), ?_, ?_⟩
      · have := VRel.str (C := C) (x ++ y)
        rwa [ByteArray.data_append, Array.toList_append] at this
      · have h1 : x.size = x.data.toList.length := by rw [Array.length_toList]; rfl
        have h2 : y.size = y.data.toList.length := by rw [Array.length_toList]; rfl
        simp [binOp, Op.stringOp]
        omega
    · cases h
  all_goals
    injection h with h
    subst h
    exact ⟨_, .bool _, by simp [binOp, Op.stringOp, ex, ey]⟩

theorem pstr_guard {op : BinOp} {t : TypeId} {x y : Operand} {p q : ByteArray} : (eqGuard op t x y (.string p) (.string q)).run P w = .ok () w := by
  cases op <;> simp [eqGuard]
theorem pbool_guard {op : BinOp} {t : TypeId} {x y : Operand} {p q : Bool} : (eqGuard op t x y (.bool p) (.bool q)).run P w = .ok () w := by
  cases op <;> simp [eqGuard]
theorem pptr_guard {op : BinOp} {t : TypeId} {x y : Operand} {p q : Option Addr} : (eqGuard op t x y (.pointer p) (.pointer q)).run P w = .ok () w := by
  cases op <;> simp [eqGuard]

theorem peq_sound {op : BinOp} {b : Bool} {v : PV} {t : TypeId} {x y : Value} (h : peq op b = some v) (he : (Op.equal t x y).run P w = .ok b w)
    (hop : ∀ o : BinOp, (o = .eql ∨ o = .neq) → binOp o t x y = (match o with | .eql => do pure (.bool (← Op.equal t x y)) | _ => do pure (.bool (!(← Op.equal t x y))))) :
    ∃ u, VRel C v u ∧ (binOp op t x y).run P w = .ok u w := by
  cases op <;> simp only [peq] at h <;> (try (cases h; done)) <;> (injection h with h; subst h)
  · exact ⟨_, .bool _, by rw [hop .eql (.inl rfl)]; simp [he]⟩
  · exact ⟨_, .bool _, by rw [hop .neq (.inr rfl)]; simp [he]⟩

theorem isBool_of {t : TypeId} (h : isBoolT P t = true) : P.underlying t = some .bool := by
  unfold isBoolT at h
  split at h
  · assumption
  · cases h
theorem isPtr_of {t : TypeId} (h : isPtrT P t = true) : ∃ e, P.underlying t = some (.pointer e) := by
  unfold isPtrT at h
  split at h
  · exact ⟨_, by assumption⟩
  · cases h
theorem eqIn_ptr_nil (d : Nat) {t e : TypeId} (hu : P.underlying t = some (.pointer e)) (p : Option Addr) : (Op.equalIn (d + 1) t (.pointer none) (.pointer p)).run P w = .ok p.isNone w := by
  simp [Op.equalIn, run_underlying hu]
theorem eqIn_ptr_nil' (d : Nat) {t e : TypeId} (hu : P.underlying t = some (.pointer e)) (p : Addr) : (Op.equalIn (d + 1) t (.pointer (some p)) (.pointer none)).run P w = .ok false w := by
  simp [Op.equalIn, run_underlying hu]
theorem eq_ptr_nil {t e : TypeId} (hu : P.underlying t = some (.pointer e)) (p : Option Addr) : (Op.equal t (.pointer none) (.pointer p)).run P w = .ok p.isNone w := eqIn_ptr_nil 9999 hu p
theorem eq_ptr_nil' {t e : TypeId} (hu : P.underlying t = some (.pointer e)) (p : Addr) : (Op.equal t (.pointer (some p)) (.pointer none)).run P w = .ok false w := eqIn_ptr_nil' 9999 hu p

theorem pbin_sound {op : BinOp} {t : TypeId} {x y : PV} {p q : Value} {v : PV} (X Y : Operand) (hw : WRel C H w) (hx : VRel C x p) (hy : VRel C y q) (h : pbin P H op t x y = some v) :
    ∃ u, VRel C v u ∧ (do eqGuard op t X Y p q; binOp op t p q : Sem Value).run P w = .ok u w := by
  unfold pbin at h
  split at h
  · obtain rfl := inv_int hx
    obtain rfl := inv_int hy
    obtain ⟨u, hu, hr⟩ := pint_sound (P := P) (C := C) (w := w) t h
    exact ⟨u, hu, by rw [Sem.run_bind, pint_guard, Result.andThen_ok, hr]⟩
  · obtain ⟨s, rfl, rfl⟩ := inv_str hx
    obtain ⟨s', rfl, rfl⟩ := inv_str hy
    obtain ⟨u, hu, hr⟩ := pstr_sound (P := P) (C := C) (w := w) t h
    exact ⟨u, hu, by rw [Sem.run_bind, pstr_guard, Result.andThen_ok, hr]⟩
  · obtain rfl := inv_bool hx
    obtain rfl := inv_bool hy
    split at h
    · rename_i hb
      obtain ⟨u, hu, hr⟩ := peq_sound (P := P) (C := C) (w := w) h (run_equal_bool w t _ _ (isBool_of hb)) (fun o ho => by rcases ho with rfl | rfl <;> rfl)
      exact ⟨u, hu, by rw [Sem.run_bind, pbool_guard, Result.andThen_ok, hr]⟩
    · cases h
  · obtain rfl := inv_nilp hx
    obtain rfl := inv_nilp hy
    split at h
    · rename_i hb
      obtain ⟨e, he⟩ := isPtr_of hb
      obtain ⟨u, hu, hr⟩ := peq_sound (P := P) (C := C) (w := w) h (eq_ptr_nil he none) (fun o ho => by rcases ho with rfl | rfl <;> rfl)
      exact ⟨u, hu, by rw [Sem.run_bind, pptr_guard, Result.andThen_ok, hr]⟩
    · cases h
  · split at h
    · rename_i hb
      simp only [Bool.and_eq_true] at hb
      obtain ⟨e, he⟩ := isPtr_of hb.1
      obtain ⟨b, _, rfl⟩ := inv_ptr hw hx (live_vs hw hb.2).1
      obtain rfl := inv_nilp hy
      obtain ⟨u, hu, hr⟩ := peq_sound (P := P) (C := C) (w := w) h (eq_ptr_nil' he _) (fun o ho => by rcases ho with rfl | rfl <;> rfl)
      exact ⟨u, hu, by rw [Sem.run_bind, pptr_guard, Result.andThen_ok, hr]⟩
    · cases h
  · split at h
    · rename_i hb
      simp only [Bool.and_eq_true] at hb
      obtain ⟨e, he⟩ := isPtr_of hb.1
      obtain ⟨b, _, rfl⟩ := inv_ptr hw hy (live_vs hw hb.2).1
      obtain rfl := inv_nilp hx
      obtain ⟨u, hu, hr⟩ := peq_sound (P := P) (C := C) (w := w) h (show (Op.equal t (.pointer none) (.pointer (some _))).run P w = .ok false w from eq_ptr_nil he (some _)) (fun o ho => by rcases ho with rfl | rfl <;> rfl)
      exact ⟨u, hu, by rw [Sem.run_bind, pptr_guard, Result.andThen_ok, hr]⟩
    · cases h
  · split at h
    · rename_i hb
      obtain ⟨e, he⟩ := isPtr_of hb
      obtain rfl := inv_nilp hy
      cases hx
      obtain ⟨u, hu, hr⟩ := peq_sound (P := P) (C := C) (w := w) h (eq_ptr_nil' he _) (fun o ho => by rcases ho with rfl | rfl <;> rfl)
      exact ⟨u, hu, by rw [Sem.run_bind, pptr_guard, Result.andThen_ok, hr]⟩
    · cases h
  · split at h
    · rename_i hb
      obtain ⟨e, he⟩ := isPtr_of hb
      obtain rfl := inv_nilp hx
      cases hy
      obtain ⟨u, hu, hr⟩ := peq_sound (P := P) (C := C) (w := w) h (show (Op.equal t (.pointer none) (.pointer (some _))).run P w = .ok false w from eq_ptr_nil he (some _)) (fun o ho => by rcases ho with rfl | rfl <;> rfl)
      exact ⟨u, hu, by rw [Sem.run_bind, pptr_guard, Result.andThen_ok, hr]⟩
    · cases h
  · cases h

theorem pun_sound {op : UnOp} {x v : PV} {p : Value} (hx : VRel C x p) (h : pun op x = some v) : ∃ u, VRel C v u ∧ (Op.unary op p).run P w = .ok u w := by
  unfold pun at h
  split at h
  · obtain rfl := inv_int hx
    injection h with h
    subst h
    exact ⟨_, .int _ _, by simp [Op.unary, Op.intArith]⟩
  · obtain rfl := inv_int hx
    injection h with h
    subst h
    exact ⟨_, .int _ _, by simp [Op.unary, Op.intBits]⟩
  · obtain rfl := inv_bool hx
    injection h with h
    subst h
    exact ⟨_, .bool _, by simp [Op.unary]⟩
  · cases h

end Go.Proofs.Ytnjnikafhbholaa.Pm

namespace Go.Proofs.Ytnjnikafhbholaa.Pm
set_option linter.all false
set_option linter.unusedVariables false
set_option linter.unusedSimpArgs false
open Go.RowKit

variable {P : Program} {C : Ctx} {H : Heap} {w : World} {F : Nat → PV} {a : Act} {N : Nat}

/-- Cells, one by one. -/
def Rel (C : Ctx) (xs : List PV) (us : List Value) : Prop := ∀ (j : Nat) (x : PV) (u : Value), xs[j]? = some x → us[j]? = some u → VRel C x u
/-- Cells as they lie in memory from a place on. -/
def At (w : World) (b o : Nat) (us : List Value) : Prop := ∀ (j : Nat) (u : Value), us[j]? = some u → w.cell? ⟨b, o + j, none⟩ = some u

theorem Rel.drop {xs : List PV} {us : List Value} (h : Rel C xs us) (n : Nat) : Rel C (xs.drop n) (us.drop n) := fun j x u hx hu => by
  rw [List.getElem?_drop] at hx hu
  exact h _ x u hx hu
theorem Rel.take {xs : List PV} {us : List Value} (h : Rel C xs us) (n : Nat) : Rel C (xs.take n) (us.take n) := fun j x u hx hu => by
  rw [List.getElem?_take] at hx hu
  split at hx
  · rename_i hj; rw [if_pos hj] at hu; exact h _ x u hx hu
  · cases hx
theorem At.drop {b o : Nat} {us : List Value} (h : At w b o us) (n : Nat) : At w b (o + n) (us.drop n) := fun j u hu => by
  rw [List.getElem?_drop] at hu
  have := h _ u hu
  rwa [← Nat.add_assoc] at this
theorem At.take {b o : Nat} {us : List Value} (h : At w b o us) (n : Nat) : At w b o (us.take n) := fun j u hu => by
  rw [List.getElem?_take] at hu
  split at hu
  · exact h _ u hu
  · cases hu
theorem Rel.append {xs ys : List PV} {us ws : List Value} (hl : us.length = xs.length) (h : Rel C xs us) (h' : Rel C ys ws) : Rel C (xs ++ ys) (us ++ ws) := fun j x u hx hu => by
  by_cases hj : j < xs.length
  · rw [List.getElem?_append_left hj] at hx
    rw [List.getElem?_append_left (by omega)] at hu
    exact h j x u hx hu
  · rw [List.getElem?_append_right (by omega)] at hx
    rw [List.getElem?_append_right (by omega), hl] at hu
    exact h' _ x u hx hu
theorem Rel.one {x : PV} {u : Value} (h : VRel C x u) : Rel C [x] [u] := fun j y v hy hv => by
  cases j with
  | zero => simp at hy hv; subst hy; subst hv; exact h
  | succ j => simp at hy
theorem Rel.mono {C' : Ctx} (hle : CLe C C') {xs : List PV} {us : List Value} (h : Rel C xs us) : Rel C' xs us := fun j x u hx hu => (h j x u hx hu).mono hle
theorem Rel.oneCell {xs : List PV} {us : List Value} (h : Rel C xs us) (hl : us.length = xs.length) (hc : ∀ x ∈ xs, x.cell = true) : ∀ u ∈ us, u.oneCell' = true := by
  intro u hu
  obtain ⟨j, hj, rfl⟩ := List.getElem_of_mem hu
  have hjx : j < xs.length := by omega
  exact (h j xs[j] us[j] (List.getElem?_eq_getElem hjx) (List.getElem?_eq_getElem hj)).oneCell (hc _ (List.getElem_mem hjx))

theorem At.load {b o : Nat} {us : List Value} (h : At w b o us) : (loadCells ⟨b, o, none⟩ us.length).run P w = .ok us.toArray w :=
  run_loadCells_list w ⟨b, o, none⟩ us (fun j v hv => by rw [Addr.add_lit]; exact h j v hv)

theorem WRel.at_imm (hw : WRel C H w) {b o : Nat} {us : List Value} (h : ∀ (j : Nat) (u : Value), us[j]? = some u → C.M b (o + j) = some u) : At w b o us := fun j u hu => hw.imm _ _ _ (h j u hu)

theorem at_block {b : Nat} {cur : Array Value} {e : TypeId} {fr : Nat × Nat} (hb : w.heap[b]? = some (.cells cur e fr)) : At w b 0 cur.toList := fun j u hu => by
  simp only [World.cell?, hb, Nat.zero_add]
  simpa using hu

/-- The block behind an abstract one. -/
theorem WRel.blk (hw : WRel C H w) {id : Nat} {k : Blk} {b : Nat} (hk : H[id]? = some k) (hm : C.mu[id]? = some (some b)) : ∃ cur, C.cp[id]? = some cur.size ∧ w.heap[b]? = some (.cells cur k.e (0, 0)) ∧
    (∀ x ∈ k.cells, x.cell = true) ∧ k.cells.length ≤ cur.size ∧ At w b 0 (cur.toList.take k.cells.length) ∧ Rel C k.cells (cur.toList.take k.cells.length) ∧ (cur.toList.take k.cells.length).length = k.cells.length := by
  obtain ⟨cur, q3, _, q5, q6, q7, q8⟩ := hw.own id k b hk hm
  refine ⟨cur, q3, q5, q6, q7, (at_block q5).take _, fun j x u hx hu => ?_, by simp; omega⟩
  rw [List.getElem?_take] at hu
  split at hu
  · exact q8 j x u hx (by simpa using hu)
  · cases hu

/-! ### reading a variable -/
theorem aggT_run {t : TypeId} {b : Bool} (h : aggT P t = some b) : (isAgg t).run P w = .ok b w := by
  unfold aggT at h
  unfold isAgg
  split at h
  · rename_i hu; injection h with h; subst h; simp [run_underlying hu]
  · rename_i hu; injection h with h; subst h; simp [run_underlying hu]
  · rename_i d h1 h2 hu
    injection h with h
    subst h
    simp only [Sem.run_bind, run_underlying hu, Result.andThen_ok]
    cases d <;> first | rfl | (exact absurd rfl (h1 _)) | (exact absurd rfl (h2 _ _))
  · cases h
theorem szT_run {t : TypeId} {n : Nat} (h : szT P t = some n) : (sizeOf t).run P w = .ok n w := by
  unfold szT at h
  cases hi : P.info? t with
  | none => simp [hi] at h
  | some i => simp [hi] at h; simp [sizeOf, typeInfo, hi, h]
theorem szT_info {t : TypeId} {n : Nat} (h : szT P t = some n) : ∃ i, P.info? t = some i ∧ i.size = n := by
  unfold szT at h
  cases hi : P.info? t with
  | none => simp [hi] at h
  | some i => simp [hi] at h; exact ⟨i, rfl, h⟩

theorem rd_sound {t : TypeId} {b o off : Nat} {xs : List PV} {us : List Value} {v : PV} (hl : us.length = xs.length) (hat : At w b o us) (hc : ∀ x ∈ xs, x.cell = true) (hR : Rel C xs us)
    (h : rd P t xs off = some v) : ∃ u, VRel C v u ∧ (loadVar t ⟨b, o + off, none⟩).run P w = .ok u w := by
  unfold rd at h
  split at h
  · rename_i ha
    split at h
    · rename_i n hn
      split at h
      · rename_i hle
        injection h with h
        subst h
        have hlen : ((us.drop off).take n).length = n := by simp; omega
        refine ⟨.agg ((us.drop off).take n).toArray, .agg (by simp; omega) (fun x hx => hc x (List.mem_of_mem_drop (List.mem_of_mem_take hx))) ((hR.drop off).take n), ?_⟩
        have hld := ((hat.drop off).take n).load (P := P)
        rw [hlen] at hld
        simp [loadVar, aggT_run ha, szT_run hn, hld]
      · cases h
    · cases h
  · rename_i ha
    have hlt : off < us.length := by
      have := (List.getElem?_eq_some_iff.1 h).1
      omega
    refine ⟨us[off], hR off v us[off] h (List.getElem?_eq_getElem hlt), ?_⟩
    have hcell := hat off us[off] (List.getElem?_eq_getElem hlt)
    simp [loadVar, aggT_run ha, hcell]
  · cases h

theorem part_sound {t : TypeId} {off : Nat} {xs : List PV} {us : List Value} {v : PV} (hl : us.length = xs.length) (hc : ∀ x ∈ xs, x.cell = true) (hR : Rel C xs us)
    (h : rd P t xs off = some v) : ∃ u, VRel C v u ∧ (part t us.toArray off).run P w = .ok u w := by
  unfold rd at h
  split at h
  · rename_i ha
    split at h
    · rename_i n hn
      split at h
      · rename_i hle
        injection h with h
        subst h
        refine ⟨.agg ((us.drop off).take n).toArray, .agg (by simp; omega) (fun x hx => hc x (List.mem_of_mem_drop (List.mem_of_mem_take hx))) ((hR.drop off).take n), ?_⟩
        simp only [part, Sem.run_bind, aggT_run ha, szT_run hn, Result.andThen_ok, if_true, Sem.run_pure]
        congr 2
        apply Array.ext'
        simp [List.extract_eq_take_drop]
      · cases h
    · cases h
  · rename_i ha
    have hlt : off < us.length := by
      have := (List.getElem?_eq_some_iff.1 h).1
      omega
    refine ⟨us[off], hR off v us[off] h (List.getElem?_eq_getElem hlt), ?_⟩
    simp [part, aggT_run ha, List.getElem?_eq_getElem hlt]
  · cases h

theorem pload_sound {t : TypeId} {x v : PV} {p : Value} (hw : WRel C H w) (hx : VRel C x p) (h : pload P H t x = some v) : ∃ u, VRel C v u ∧ (Instr.loadAt t p).run P w = .ok u w := by
  unfold pload at h
  split at h
  · cases hx with
    | ip hl hM hc hR =>
      obtain ⟨u, hu, hr⟩ := rd_sound (P := P) (t := t) hl (hw.at_imm hM) hc hR h
      exact ⟨u, hu, by simp [Instr.loadAt, Instr.sureAddr, hr]⟩
  · split at h
    · rename_i k hk
      split at h
      · rename_i hver
        subst hver
        obtain ⟨b, q1, rfl⟩ := inv_ptr hw hx (hw.ver _ k hk)
        obtain ⟨cur, q3, q5, q6, q7, q8, q9, q10⟩ := hw.blk hk q1
        obtain ⟨u, hu, hr⟩ := rd_sound (P := P) (t := t) q10 q8 q6 q9 h
        rw [Nat.zero_add] at hr
        exact ⟨u, hu, by simp [Instr.loadAt, Instr.sureAddr, hr]⟩
      · cases h
    · cases h
  · cases h

/-! ### writing one -/
theorem set_eq_splice (xs : List PV) (off : Nat) (v : PV) (h : off < xs.length) : xs.set off v = splice xs off [v] := by
  unfold splice
  rw [List.set_eq_take_append_cons_drop, if_pos h]
  simp

theorem length_splice (xs ys : List PV) (off : Nat) (h : off + ys.length ≤ xs.length) : (splice xs off ys).length = xs.length := by
  simp [splice]; omega

theorem splice_rel {xs ys : List PV} {cur us : List Value} {off : Nat} (hl : us.length = ys.length) (hx : Rel C xs cur) (hy : Rel C ys us) (hoff : off + ys.length ≤ xs.length) (hxl : xs.length ≤ cur.length) :
    Rel C (splice xs off ys) (cur.take off ++ us ++ cur.drop (off + us.length)) := by
  unfold splice
  refine Rel.append (by simp; omega) (Rel.append (by simp; omega) (hx.take off) hy) ?_
  rw [hl]
  exact hx.drop _

theorem splice_cell {xs ys : List PV} {off : Nat} (hx : ∀ x ∈ xs, x.cell = true) (hy : ∀ x ∈ ys, x.cell = true) : ∀ x ∈ splice xs off ys, x.cell = true := by
  intro x h
  unfold splice at h
  simp only [List.mem_append] at h
  rcases h with (h | h) | h
  · exact hx x (List.mem_of_mem_take h)
  · exact hy x h
  · exact hx x (List.mem_of_mem_drop h)

/-- Cells written into a block of the abstract heap. -/
theorem WRel.store (hw : WRel C H w) {id b off : Nat} {k : Blk} {cur : Array Value} (hk : H[id]? = some k) (hm : C.mu[id]? = some (some b)) (hb : w.heap[b]? = some (.cells cur k.e (0, 0)))
    (ys : List PV) (us : List Value) (hl : us.length = ys.length) (hc : ∀ x ∈ ys, x.cell = true) (hy : Rel C ys us) (hoff : off + ys.length ≤ k.cells.length) :
    ∃ C' w', CLe C C' ∧ WRel C' (H.set id ⟨k.e, k.ver, splice k.cells off ys⟩) w' ∧ Below C.B w w' ∧ (storeCells ⟨b, off, none⟩ us).run P w = .ok () w' := by
  obtain ⟨cur', p3, p5, p6, p7, p8, p9, p10⟩ := hw.blk hk hm
  rw [hb] at p5
  injection p5 with p5
  injection p5 with p5
  subst p5
  have hrel : Rel C k.cells cur.toList := by
    obtain ⟨cur2, _, _, r5, _, _, r8⟩ := hw.own id k b hk hm
    rw [hb] at r5
    injection r5 with r5
    injection r5 with r5
    subst r5
    exact fun j x u hx hu => r8 j x u hx (by simpa using hu)
  have hst := run_storeCells_at P b off k.e us 0 cur w hb (by omega) (hy.oneCell hl hc)
  rw [Nat.add_zero] at hst
  have hsp := splice_rel (off := off) hl hrel hy hoff (by simpa using p7)
  have hsize : (cur.toList.take off ++ us ++ cur.toList.drop (off + us.length)).toArray.size = cur.size := by simp; omega
  obtain ⟨c1, c2, c3⟩ := hw.write hk hm hb k.ver (Nat.le_refl _) (splice k.cells off ys) (cur.toList.take off ++ us ++ cur.toList.drop (off + us.length)).toArray hsize (splice_cell p6 hc)
    (by rw [hsize, length_splice _ _ _ hoff]; exact p7) (fun j x u hx hu => hsp j x u hx (by simpa using hu))
  exact ⟨_, _, c1, c2, c3, hst⟩

theorem pstore_sound {t : TypeId} {x v : PV} {p q : Value} {H' : Heap} (hw : WRel C H w) (hx : VRel C x p) (hv : VRel C v q) (h : pstore P H t x v = some H') :
    ∃ C' w', CLe C C' ∧ WRel C' H' w' ∧ Below C.B w w' ∧ (Instr.storeAt t p q).run P w = .ok () w' := by
  unfold pstore at h
  split at h
  · rename_i id0 ver0 off0
    split at h
    · rename_i k hk
      split at h
      · rename_i hver
        subst hver
        simp only [Option.map_eq_some_iff] at h
        obtain ⟨c, hc, rfl⟩ := h
        obtain ⟨b, q1, rfl⟩ := inv_ptr hw hx (hw.ver _ k hk)
        obtain ⟨cur, q3, q5, q6, q7, q8, q9, q10⟩ := hw.blk hk q1
        unfold wr at hc
        split at hc
        · rename_i cs
          split at hc
          · rename_i hh
            injection hc with hc
            subst hc
            cases hv with
            | agg hl hcc hR =>
              obtain ⟨C', w', c1, c2, c3, c4⟩ := hw.store (P := P) hk q1 q5 cs _ hl hcc hR hh.2
              refine ⟨C', w', c1, c2, c3, ?_⟩
              simp [Instr.storeAt, Instr.sureAddr, storeVar, szT_run hh.1, Value.cells, hl, c4]
          · cases hc
        · rename_i hna
          split at hc
          · rename_i hh
            injection hc with hc
            subst hc
            rw [set_eq_splice _ _ _ hh.2.2]
            obtain ⟨C', w', c1, c2, c3, c4⟩ := hw.store (P := P) (off := off0) hk q1 q5 [v] [q] rfl (by simpa using hh.2.1) (.one hv) (by have := hh.2.2; simp; omega)
            refine ⟨C', w', c1, c2, c3, ?_⟩
            have hcells : q.cells = #[q] := by
              have := hv.oneCell hh.2.1
              cases q <;> first | rfl | (simp [Value.oneCell'] at this)
            simp [Instr.storeAt, Instr.sureAddr, storeVar, szT_run hh.1, hcells, c4]
          · cases hc
      · cases h
    · cases h
  · cases h

end Go.Proofs.Ytnjnikafhbholaa.Pm

namespace Go.Proofs.Ytnjnikafhbholaa.Pm
set_option linter.all false
set_option linter.unusedVariables false
set_option linter.unusedSimpArgs false
open Go.RowKit

variable {P : Program} {C : Ctx} {H : Heap} {w : World} {F : Nat → PV} {a : Act} {N : Nat}

theorem pfieldAddr_sound {s : TypeId} {x v : PV} {p : Value} {f : Nat} (hw : WRel C H w) (hx : VRel C x p) (h : pfieldAddr P H s x f = some v) : ∃ u, VRel C v u ∧ (Instr.fieldAt s p f).run P w = .ok u w := by
  unfold pfieldAddr at h
  split at h
  · rename_i fs hu
    split at h
    · rename_i fd hfd
      split at h
      · rename_i n hn
        split at h
        case isFalse => cases h
        rename_i hpos
        obtain ⟨n, rfl⟩ := Nat.exists_eq_succ_of_ne_zero (Nat.pos_iff_ne_zero.1 hpos)
        split at h
        · rename_i xs off
          injection h with h
          subst h
          cases hx with
          | @ip _ _ b o us hl hM hc hR =>
            refine ⟨.pointer (some ⟨b, o + (off + fd.offset), none⟩), .ip hl hM hc hR, ?_⟩
            simp [Instr.fieldAt, run_underlying hu, hfd, Instr.sureAddr, fieldPlace, szT_run hn, Addr.add_lit, Nat.add_assoc]
        · rename_i id ver off
          split at h
          · rename_i hlv
            injection h with h
            subst h
            have hv := (live_vs hw hlv).1
            obtain ⟨b, hb, rfl⟩ := inv_ptr hw hx hv
            refine ⟨.pointer (some ⟨b, off + fd.offset, none⟩), .ptr hb hv, ?_⟩
            simp [Instr.fieldAt, run_underlying hu, hfd, Instr.sureAddr, fieldPlace, szT_run hn, Addr.add_lit]
          · cases h
        · cases h
      · cases h
    · cases h
  · cases h

theorem pfield_sound {s : TypeId} {x v : PV} {p : Value} {f : Nat} (hx : VRel C x p) (h : pfield P s x f = some v) : ∃ u, VRel C v u ∧ (Instr.field s p f).run P w = .ok u w := by
  unfold pfield at h
  split at h
  · rename_i fs hu
    split at h
    · rename_i fd hfd
      split at h
      · rename_i cs
        cases hx with
        | agg hl hc hR =>
          obtain ⟨u, hv, hr⟩ := part_sound (P := P) (w := w) hl hc hR h
          exact ⟨u, hv, by simp [Instr.field, run_underlying hu, hfd, asAgg, hr]⟩
      · cases h
    · cases h
  · cases h

theorem pindexAddr_sound {t : TypeId} {x i v : PV} {p q : Value} (hw : WRel C H w) (hx : VRel C x p) (hi : VRel C i q) (h : pindexAddr P H t x i = some v) :
    ∃ u, VRel C v u ∧ (Instr.indexAt t p q).run P w = .ok u w := by
  unfold pindexAddr at h
  split at h
  · rename_i e xs len full k i hu
    obtain rfl := inv_int hi
    split at h
    · rename_i n hn
      split at h
      · rename_i hh
        injection h with h
        subst h
        cases hx with
        | @slice _ _ cap b o _ us hl hM hc hR hcap hmax hf =>
          refine ⟨.pointer (some ⟨b, o + i.toNat * n, none⟩), .ip hl hM hc hR, ?_⟩
          simp [Instr.indexAt, asIntOf, run_underlying hu, szT_run hn, hh.1, hh.2.1, Addr.add_lit]
        | sliceN => omega
      · cases h
    · cases h
  · rename_i e id ver off len sz g k i hu
    obtain rfl := inv_int hi
    split at h
    · rename_i n hn hlv
      split at h
      · rename_i hh
        injection h with h
        subst h
        have hv := (live_vs hw hlv).1
        obtain ⟨b, cap, off', hb, rfl, hc1, hc2, ho, _⟩ | ⟨ad, _, h0, _⟩ := inv_msl hw hx hv
        rotate_left
        · omega
        obtain rfl := ho (by omega)
        refine ⟨.pointer (some ⟨b, off' + i.toNat * n, none⟩), .ptr hb hv, ?_⟩
        simp [Instr.indexAt, asIntOf, run_underlying hu, szT_run hn, hh.1, hh.2, Addr.add_lit]
      · cases h
    · cases h
  · rename_i len e id ver off k i hu
    obtain rfl := inv_int hi
    split at h
    · rename_i n hn hlv
      split at h
      · rename_i hh
        injection h with h
        subst h
        have hv := (live_vs hw hlv).1
        obtain ⟨b, hb, rfl⟩ := inv_ptr hw hx hv
        refine ⟨.pointer (some ⟨b, off + i.toNat * n, none⟩), .ptr hb hv, ?_⟩
        simp [Instr.indexAt, asIntOf, run_underlying hu, szT_run hn, hh.1, hh.2, Addr.add_lit, Instr.sureAddr]
      · cases h
    · cases h
  · rename_i len e xs off k i hu
    obtain rfl := inv_int hi
    split at h
    · rename_i n hn
      split at h
      · rename_i hh
        injection h with h
        subst h
        cases hx with
        | @ip _ _ b o us hl hM hc hR =>
          refine ⟨.pointer (some ⟨b, o + (off + i.toNat * n), none⟩), .ip hl hM hc hR, ?_⟩
          simp [Instr.indexAt, asIntOf, run_underlying hu, szT_run hn, hh.1, hh.2, Addr.add_lit, Instr.sureAddr, Nat.add_assoc]
      · cases h
    · cases h
  · cases h

theorem pindex_sound {t : TypeId} {x i v : PV} {p q : Value} (hx : VRel C x p) (hi : VRel C i q) (h : pindex P t x i = some v) : ∃ u, VRel C v u ∧ (Instr.index t p q).run P w = .ok u w := by
  unfold pindex at h
  split at h
  · rename_i len e cs k i hu
    obtain rfl := inv_int hi
    split at h
    · rename_i n hn
      split at h
      · rename_i hh
        cases hx with
        | agg hl hc hR =>
          obtain ⟨u, hv, hr⟩ := part_sound (P := P) (w := w) hl hc hR h
          exact ⟨u, hv, by simp [Instr.index, asIntOf, run_underlying hu, szT_run hn, hh.1, hh.2, hr]⟩
      · cases h
    · cases h
  · rename_i s k i hu
    obtain rfl := inv_int hi
    split at h
    · rename_i hh
      injection h with h
      subst h
      obtain ⟨s', rfl, rfl⟩ := inv_str hx
      have hsz : s'.size = s'.data.toList.length := by rw [Array.length_toList]; rfl
      have hlt : i.toNat < s'.size := by omega
      refine ⟨_, .int _ _, ?_⟩
      have hg : s'[i.toNat]? = some s'[i.toNat] := ByteArray.getElem?_lt' s' _ hlt
      have hb : s'.data.toList.getD i.toNat 0 = s'[i.toNat] := by
        rw [List.getD_eq_getElem?_getD, List.getElem?_eq_getElem (by omega), Option.getD_some, Array.getElem_toList]
        rfl
      simp only [Instr.index, asIntOf, Sem.run_bind, Sem.run_pure, Result.andThen_ok, run_underlying hu, hh.1, if_true, hg, hb]
    · cases h
  · cases h

/-- Options of values. -/
def ORel (C : Ctx) (x : Option PV) (v : Option Value) : Prop := match x, v with | none, none => True | some x, some v => VRel C x v | _, _ => False

theorem bound_run {x : PV} {v : Value} {d n y : Nat} {code : BoundsCode} (hx : VRel C x v) (h : pbound d (some x) = some n) (hy : n ≤ y) : (Instr.sliceBound v y code).run P w = .ok n w := by
  unfold pbound at h
  split at h
  · rename_i hx'; cases hx'
  · rename_i k i hx'
    injection hx' with hx'
    subst hx'
    obtain rfl := inv_int hx
    split at h
    · injection h with h
      subst h
      have : i ≤ (y : Int) := by omega
      simp [Instr.sliceBound, asIntOf, *]
    · cases h
  · cases h

theorem bounds_run {isSlice : Bool} {len cap l h m : Nat} {lo hi mx : Option PV} {lo' hi' mx' : Option Value} (rlo : ORel C lo lo') (rhi : ORel C hi hi') (rmx : ORel C mx mx')
    (h1 : pbound 0 lo = some l) (h2 : pbound len hi = some h) (h3 : (mx = none ∧ m = cap ∧ h ≤ cap) ∨ (pbound len mx = some m ∧ mx ≠ none ∧ hi ≠ none ∧ h ≤ m ∧ m ≤ cap)) (hlh : l ≤ h) :
    (Instr.sliceBounds isSlice len cap lo' hi' mx').run P w = .ok (l, h, m) w := by
  rcases h3 with ⟨rfl, rfl, h4⟩ | ⟨h3, hm, hh, h4, h5⟩
  · cases mx' with
    | some _ => exact rmx.elim
    | none =>
      cases hi with
      | none =>
        cases hi' with
        | some _ => exact rhi.elim
        | none =>
          simp only [pbound, Option.some.injEq] at h2
          subst h2
          cases lo with
          | none =>
            cases lo' with
            | some _ => exact rlo.elim
            | none => simp only [pbound, Option.some.injEq] at h1; subst h1; simp [Instr.sliceBounds]
          | some x =>
            cases lo' with
            | none => exact rlo.elim
            | some v => simp [Instr.sliceBounds, bound_run (P := P) (w := w) rlo h1 hlh]
      | some y =>
        cases hi' with
        | none => exact rhi.elim
        | some v' =>
          cases lo with
          | none =>
            cases lo' with
            | some _ => exact rlo.elim
            | none => simp only [pbound, Option.some.injEq] at h1; subst h1; simp [Instr.sliceBounds, bound_run (P := P) (w := w) rhi h2 h4]
          | some x =>
            cases lo' with
            | none => exact rlo.elim
            | some v => simp [Instr.sliceBounds, bound_run (P := P) (w := w) rhi h2 h4, bound_run (P := P) (w := w) rlo h1 hlh]
  · cases mx with
    | none => exact absurd rfl hm
    | some z =>
      cases mx' with
      | none => exact rmx.elim
      | some vz =>
        cases hi with
        | none => exact absurd rfl hh
        | some y =>
          cases hi' with
          | none => exact rhi.elim
          | some v' =>
            cases lo with
            | none =>
              cases lo' with
              | some _ => exact rlo.elim
              | none => simp only [pbound, Option.some.injEq] at h1; subst h1; simp [Instr.sliceBounds, bound_run (P := P) (w := w) rmx h3 h5, bound_run (P := P) (w := w) rhi h2 h4]
            | some x =>
              cases lo' with
              | none => exact rlo.elim
              | some v => simp [Instr.sliceBounds, bound_run (P := P) (w := w) rmx h3 h5, bound_run (P := P) (w := w) rhi h2 h4, bound_run (P := P) (w := w) rlo h1 hlh]

/-- A window of cells that are never written. -/
theorem window_rel {xs : List PV} {len cap b o l h m n : Nat} {full : Bool} {us : List Value} (hl : us.length = xs.length) (hM : ∀ (j : Nat) (u : Value), us[j]? = some u → C.M b (o + j) = some u)
    (hc : ∀ x ∈ xs, x.cell = true) (hR : Rel C xs us) (hxs : xs.length = len * n) (h1 : l ≤ h) (h2 : h ≤ m) (h3 : m ≤ cap) (h4 : h ≤ len) (hmax : cap ≤ maxLen) (hf : full = true → m = h) :
    VRel C (.slice ((xs.drop (l * n)).take ((h - l) * n)) (h - l) full) (.slice (if m = l then some ⟨b, o, none⟩ else some ⟨b, o + l * n, none⟩) (h - l) (m - l)) := by
  have hln : (h - l) * n + l * n = h * n := by rw [← Nat.add_mul]; congr 1; omega
  have hhn : h * n ≤ len * n := Nat.mul_le_mul_right n h4
  have hlen : ((us.drop (l * n)).take ((h - l) * n)).length = ((xs.drop (l * n)).take ((h - l) * n)).length := by simp [hl]
  split
  · have : h = l := by omega
    subst this
    refine .slice (us := []) (by simp) (fun j u hu => by simp at hu) (fun x hx => by simp at hx) (fun j x u hx => by simp at hx) (by omega) (by omega) (fun hft => by have := hf hft; omega)
  · refine .slice hlen (fun j u hu => ?_) (fun x hx => hc x (List.mem_of_mem_drop (List.mem_of_mem_take hx))) ((hR.drop _).take _) (by omega) (by omega) (fun hft => by have := hf hft; omega)
    rw [List.getElem?_take] at hu
    split at hu
    · rw [List.getElem?_drop] at hu
      have := hM _ u hu
      rwa [← Nat.add_assoc] at this
    · cases hu

theorem pslice_sound {t : TypeId} {x v : PV} {p : Value} {lo hi mx : Option PV} {lo' hi' mx' : Option Value} (hw : WRel C H w) (hx : VRel C x p) (rlo : ORel C lo lo') (rhi : ORel C hi hi') (rmx : ORel C mx mx')
    (h : pslice P H t x lo hi mx = some v) : ∃ u, VRel C v u ∧ (Instr.sliceAt t p lo' hi' mx').run P w = .ok u w := by
  unfold pslice at h
  split at h
  · rename_i e xs len full hu
    split at h
    · rename_i n l hh hn hl hhi
      split at h
      · split at h
        · rename_i hq
          injection h with h
          subst h
          cases hx with
          | @slice _ _ cap b o _ us hll hM hc hR hcap hmax hf =>
            have hb := bounds_run (P := P) (w := w) (isSlice := true) (cap := cap) (m := cap) rlo rhi rmx hl hhi (.inl ⟨rfl, rfl, by omega⟩) hq.1
            refine ⟨_, window_rel hll hM hc hR hq.2.2 hq.1 (by omega : hh ≤ cap) (Nat.le_refl _) hq.2.1 hmax (fun hft => by simp at hft; have := hf hft.1; omega), ?_⟩
            simp [Instr.sliceAt, Instr.slice, run_underlying hu, hb, szT_run hn, Addr.add_lit]
          | sliceN ad =>
            have hb := bounds_run (P := P) (w := w) (isSlice := true) (cap := 0) (m := 0) rlo rhi rmx hl hhi (.inl ⟨rfl, rfl, by omega⟩) hq.1
            have e1 : hh = 0 := by omega
            have e2 : l = 0 := by omega
            subst e1 e2
            refine ⟨.slice ad 0 0, by simpa using VRel.sliceN (C := C) ad _, ?_⟩
            cases ad <;> simp [Instr.sliceAt, Instr.slice, run_underlying hu, hb, szT_run hn, Addr.add]
        · cases h
      · rename_i z
        split at h
        · rename_i m y hm
          split at h
          · rename_i hq
            injection h with h
            subst h
            cases hx with
            | @slice _ _ cap b o _ us hll hM hc hR hcap hmax hf =>
              have hb := bounds_run (P := P) (w := w) (isSlice := true) (cap := cap) (m := m) rlo rhi rmx hl hhi (.inr ⟨hm, by simp, by simp, hq.2.1, by omega⟩) hq.1
              refine ⟨_, window_rel hll hM hc hR hq.2.2.2 hq.1 hq.2.1 (by omega : m ≤ cap) (by omega) hmax (fun hft => by simpa using hft), ?_⟩
              simp [Instr.sliceAt, Instr.slice, run_underlying hu, hb, szT_run hn, Addr.add_lit]
            | sliceN ad =>
              have hb := bounds_run (P := P) (w := w) (isSlice := true) (cap := 0) (m := m) rlo rhi rmx hl hhi (.inr ⟨hm, by simp, by simp, hq.2.1, by omega⟩) hq.1
              have e3 : m = 0 := by omega
              have e1 : hh = 0 := by omega
              have e2 : l = 0 := by omega
              subst e1 e2 e3
              refine ⟨.slice ad 0 0, by simpa using VRel.sliceN (C := C) ad _, ?_⟩
              cases ad <;> simp [Instr.sliceAt, Instr.slice, run_underlying hu, hb, szT_run hn, Addr.add]
          · cases h
        · cases h
    · cases h
  · rename_i e id ver off len sz g hu
    split at h
    · rename_i n l hh hn hl hhi hlv
      split at h
      · rename_i hq
        injection h with h
        subst h
        have hv := (live_vs hw hlv).1
        obtain ⟨b, cap, off', hb', rfl, hc1, hc2, ho, hg⟩ | ⟨ad, hgh, h0, rfl⟩ := inv_msl hw hx hv
        rotate_left
        · have e1 : hh = 0 := by omega
          have e2 : l = 0 := by omega
          subst e1 e2 h0
          have hb := bounds_run (P := P) (w := w) (isSlice := true) (cap := 0) (m := 0) rlo rhi rmx hl hhi (.inl ⟨rfl, rfl, by omega⟩) hq.1
          refine ⟨.slice ad 0 0, .mslG ad hgh hv, ?_⟩
          cases ad <;> simp [Instr.sliceAt, Instr.slice, run_underlying hu, hb, szT_run hn, Addr.add]
        have hb := bounds_run (P := P) (w := w) (isSlice := true) (cap := cap) (m := cap) rlo rhi rmx hl hhi (.inl ⟨rfl, rfl, by omega⟩) hq.1
        have hrun : (Instr.sliceAt t (.slice (some ⟨b, off', none⟩) len cap) lo' hi' mx').run P w = .ok (.slice (if cap = l then some ⟨b, off', none⟩ else some ⟨b, off' + l * n, none⟩) (hh - l) (cap - l)) w := by
          simp [Instr.sliceAt, Instr.slice, run_underlying hu, hb, szT_run hn, Addr.add_lit]
        refine ⟨_, ?_, hrun⟩
        cases lo with
        | none =>
          simp only [pbound, Option.some.injEq] at hl
          subst hl
          simp only [Nat.zero_mul, Nat.add_zero, Nat.sub_zero, ite_self]
          cases g with
          | true =>
            obtain ⟨g1, g2, g3⟩ := hg rfl
            subst g1 g2
            exact .msl hb' hv (by omega) hc2 (fun _ => ⟨rfl, g3⟩)
          | false =>
            rcases Nat.eq_zero_or_pos hh with h0 | h0
            · subst h0; exact .mslE hb' hv hc2
            · obtain rfl := ho (by omega)
              exact .msl hb' hv (by omega) hc2 (fun hf => by cases hf)
        | some y =>
          show VRel C (.msl id ver (off + l * n) (hh - l) sz false) _
          rcases Nat.eq_zero_or_pos (hh - l) with h0 | h0
          · rw [h0]
            by_cases hcl : cap = l
            · rw [if_pos hcl]; exact .mslE hb' hv (by omega)
            · rw [if_neg hcl]; exact .mslE hb' hv (by omega)
          · obtain rfl := ho (by omega)
            rw [if_neg (by omega)]
            exact .msl hb' hv (by omega) (by omega) (fun hf => by cases hf)
      · cases h
    · cases h
  · rename_i len e id ver off hu
    split at h
    · rename_i n l hh hn hl hhi hlv
      split at h
      · rename_i hq
        injection h with h
        subst h
        have hv := (live_vs hw hlv).1
        obtain ⟨b, hb', rfl⟩ := inv_ptr hw hx hv
        have hb := bounds_run (P := P) (w := w) (isSlice := false) (cap := len) (m := len) rlo rhi rmx hl hhi (.inl ⟨rfl, rfl, by omega⟩) hq.1
        have hrun : (Instr.sliceAt t (.pointer (some ⟨b, off, none⟩)) lo' hi' mx').run P w = .ok (.slice (some (if len = l then ⟨b, off, none⟩ else ⟨b, off + l * n, none⟩)) (hh - l) (len - l)) w := by
          simp [Instr.sliceAt, run_underlying hu, hb, szT_run hn, Addr.add_lit, Instr.sureAddr]
        refine ⟨_, ?_, hrun⟩
        have hmx : len ≤ maxLen := by simp only [maxLen]; omega
        rcases Nat.eq_zero_or_pos (hh - l) with h0 | h0
        · rw [h0]
          split
          · exact .mslE hb' hv (by omega)
          · exact .mslE hb' hv (by omega)
        · rw [if_neg (by omega)]
          exact .msl hb' hv (by omega) (by omega) (fun hf => by cases hf)
      · cases h
    · cases h
  · rename_i s hu
    split at h
    · rename_i l hh hl hhi
      split at h
      · rename_i hq
        injection h with h
        subst h
        obtain ⟨s', rfl, rfl⟩ := inv_str hx
        have hsz : s'.size = s'.data.toList.length := by rw [Array.length_toList]; rfl
        cases mx' with
        | some _ => exact rmx.elim
        | none =>
          rw [← hsz] at hhi
          have hb := bounds_run (P := P) (w := w) (isSlice := false) (cap := s'.size) (m := s'.size) rlo rhi rmx hl hhi (.inl ⟨rfl, rfl, by omega⟩) hq.1
          refine ⟨.string (s'.extract l hh), ?_, ?_⟩
          · have := VRel.str (C := C) (s'.extract l hh)
            rw [ByteArray.data_extract, Array.toList_extract, List.extract_eq_take_drop] at this
            exact this
          · simp [Instr.sliceAt, Instr.slice, run_underlying hu, hb]
      · cases h
    · cases h
  · cases h

end Go.Proofs.Ytnjnikafhbholaa.Pm

namespace Go.Proofs.Ytnjnikafhbholaa.Pm
set_option linter.all false
set_option linter.unusedVariables false
set_option linter.unusedSimpArgs false
open Go.RowKit

variable {P : Program} {C : Ctx} {H : Heap} {w : World} {F : Nat → PV} {a : Act} {N : Nat}

theorem cells_rel {v : PV} {u : Value} (h : v.cells.all PV.cell = true) (hv : VRel C v u) : Rel C v.cells u.cells.toList ∧ u.cells.toList.length = v.cells.length := by
  have single : v.cell = true → v.cells = [v] → Rel C v.cells u.cells.toList ∧ u.cells.toList.length = v.cells.length := fun hc he => by
    have h1 := hv.oneCell hc
    have hcells : u.cells = #[u] := by cases u <;> first | rfl | (simp [Value.oneCell'] at h1)
    rw [he, hcells]
    exact ⟨.one hv, rfl⟩
  cases v with
  | agg cs =>
    cases hv with
    | agg hl hc hR => exact ⟨by simpa [PV.cells, Value.cells, Rel] using hR, by simp [PV.cells, Value.cells, hl]⟩
  | _ => first | exact single rfl rfl | (simp [PV.cells, PV.cell] at h)

/-! ### 'fill' -/
theorem fold_set : ∀ (vs : List Value) (k : Nat) (cs : Array Value) (off : Nat), off + k + vs.length ≤ cs.size →
    (((vs.zipIdx k).foldl (fun (cs : Array Value) (x : Value × Nat) => cs.setIfInBounds (off + x.2) x.1) cs)).toList = cs.toList.take (off + k) ++ vs ++ cs.toList.drop (off + k + vs.length)
  | [], k, cs, off, _ => by simp
  | v :: rest, k, cs, off, h => by
    simp only [List.zipIdx_cons, List.foldl_cons]
    rw [fold_set rest (k + 1) _ off (by simp at h ⊢; omega)]
    have e := list_seg_step cs.toList (off + k) v rest (by simp at h ⊢; omega)
    simpa [Array.toList_setIfInBounds, Nat.add_assoc] using e

theorem pfill_sound (place : Nat → Option (Nat × Nat)) : ∀ (parts : List (Nat × PV)) (parts' : List (Nat × Value)) (zs ys : List PV) (cs : Array Value), parts'.length = parts.length →
    (∀ (j : Nat) (p : Nat × PV) (q : Nat × Value), parts[j]? = some p → parts'[j]? = some q → q.1 = p.1 ∧ VRel C p.2 q.2) → Rel C zs cs.toList → zs.length = cs.size → (∀ x ∈ zs, x.cell = true) →
    pfill place zs parts = some ys → ∃ cs', Instr.fill place cs parts' = some cs' ∧ Rel C ys cs'.toList ∧ ys.length = cs'.size ∧ ∀ x ∈ ys, x.cell = true
  | [], parts', zs, ys, cs, hl, _, hz, hzl, hzc, h => by
    have : parts' = [] := List.eq_nil_of_length_eq_zero (by simpa using hl)
    subst this
    simp only [pfill, Option.some.injEq] at h
    subst h
    exact ⟨cs, rfl, hz, hzl, hzc⟩
  | (i, v) :: rest, [], zs, ys, cs, hl, _, _, _, _, _ => by simp at hl
  | (i, v) :: rest, (i', u) :: rest', zs, ys, cs, hl, hp, hz, hzl, hzc, h => by
    obtain ⟨e0, hvu⟩ := hp 0 (i, v) (i', u) rfl rfl
    simp only at e0 hvu
    subst e0
    simp only [pfill] at h
    split at h
    · cases h
    · rename_i off size hpl
      split at h
      · rename_i hq
        obtain ⟨hcr, hcl⟩ := cells_rel hq.2.2 hvu
        have hcl' : u.cells.size = v.cells.length := by simpa using hcl
        have hfold := fold_set u.cells.toList 0 cs off (by simp; omega)
        simp only [Nat.add_zero] at hfold
        have hsp := splice_rel (off := off) hcl hz hcr (by omega) (by simp; omega)
        have hlen : (splice zs off v.cells).length = zs.length := length_splice _ _ _ (by omega)
        let cs2 : Array Value := (u.cells.toList.zipIdx 0).foldl (fun (cs : Array Value) (x : Value × Nat) => cs.setIfInBounds (off + x.2) x.1) cs
        have h2 : cs2.toList = cs.toList.take off ++ u.cells.toList ++ cs.toList.drop (off + u.cells.toList.length) := hfold
        have h2s : cs2.size = cs.size := by rw [← Array.length_toList, h2]; simp; omega
        obtain ⟨cs', e1, e2, e3, e4⟩ := pfill_sound place rest rest' (splice zs off v.cells) ys cs2 (by simpa using hl) (fun j p q hj hj' => hp (j + 1) p q (by simpa using hj) (by simpa using hj'))
          (by rw [h2]; exact hsp) (by rw [hlen, h2s]; exact hzl) (splice_cell hzc (fun x hx => List.all_eq_true.1 hq.2.2 x hx)) h
        refine ⟨cs', ?_, e2, e3, e4⟩
        have hc1 : ¬ (u.cells.size ≠ size || off + u.cells.size > cs.size) = true := by simp; omega
        simp only [Instr.fill, hpl, if_neg hc1]
        rw [← e1]
        congr 1
        show u.cells.zipIdx.foldl _ cs = cs2
        rw [← Array.foldl_toList, Array.toList_zipIdx]
      · cases h

theorem zcells_of {t : TypeId} {z : List PV} (h : zcells P t = some z) : ∃ i zv, P.info? t = some i ∧ i.zero = some zv ∧ (∀ C : Ctx, Rel C z zv.cells.toList) ∧ zv.cells.toList.length = z.length ∧ ∀ x ∈ z, x.cell = true := by
  unfold zcells zrT at h
  cases hi : P.info? t with
  | none => simp [hi] at h
  | some i =>
    cases hz : i.zero with
    | none => simp [hi, hz] at h
    | some zv =>
      simp only [hi, hz, Option.bind_some, Option.map_some] at h
      split at h
      · rename_i hall
        injection h with h
        subst h
        exact ⟨i, zv, rfl, hz, fun C => (cells_rel hall (pvc_rel zv)).1, (cells_rel (C := ⟨0, fun _ _ => none, [], [], [], 0⟩) hall (pvc_rel zv)).2, fun x hx => List.all_eq_true.1 hall x hx⟩
      · cases h

theorem places_of : ∀ (fs : List Field), fs.all (fun f => (szT P f.type).isSome) = true → ∃ places, fs.mapM (fun f => (P.info? f.type).map fun i => (f.offset, i.size)) = some places ∧ ∀ i, places[i]? = fieldPlaces P fs i
  | [], _ => ⟨[], by simp, fun i => by simp [fieldPlaces]⟩
  | f :: fs, h => by
    simp only [List.all_cons, Bool.and_eq_true] at h
    obtain ⟨ps, e1, e2⟩ := places_of fs h.2
    obtain ⟨n, hn⟩ := Option.isSome_iff_exists.1 h.1
    obtain ⟨i, hi, hs⟩ := szT_info hn
    refine ⟨(f.offset, i.size) :: ps, ?_, ?_⟩
    · simp [List.mapM_cons, hi, e1]
    · intro j
      cases j with
      | zero => simp [fieldPlaces, hn, hs]
      | succ j => simpa [fieldPlaces] using e2 j

theorem parts_rel (r : FRel C N F a) (parts : Array (Nat × Operand)) : ((parts.map fun (i, x) => (i, a.eval x)).toList).length = (parts.toList.map fun p => (p.1, ev F p.2)).length ∧
    ∀ (j : Nat) (p : Nat × PV) (q : Nat × Value), (parts.toList.map fun p => (p.1, ev F p.2))[j]? = some p → ((parts.map fun (i, x) => (i, a.eval x)).toList)[j]? = some q → q.1 = p.1 ∧ VRel C p.2 q.2 := by
  refine ⟨by simp, fun j p q hp hq => ?_⟩
  simp only [Array.toList_map, List.getElem?_map, Option.map_eq_some_iff] at hp hq
  obtain ⟨x, hx, rfl⟩ := hp
  obtain ⟨y, hy, rfl⟩ := hq
  rw [hx] at hy
  injection hy with hy
  subst hy
  exact ⟨rfl, ev_rel r _⟩

theorem pbuild_sound {t : TypeId} {parts : List (Nat × PV)} {parts' : Array (Nat × Value)} {v : PV} (hl : parts'.toList.length = parts.length)
    (hp : ∀ (j : Nat) (p : Nat × PV) (q : Nat × Value), parts[j]? = some p → parts'.toList[j]? = some q → q.1 = p.1 ∧ VRel C p.2 q.2) (h : pbuild P t parts = some v) :
    ∃ u, VRel C v u ∧ (Instr.build t parts').run P w = .ok u w := by
  unfold pbuild at h
  split at h
  · rename_i fs z hu hz
    obtain ⟨i, zv, hi, hzv, hzr, hzl, hzc⟩ := zcells_of hz
    split at h
    · rename_i hall
      obtain ⟨ps, e1, e2⟩ := places_of fs.toList hall
      simp only [Option.map_eq_some_iff] at h
      obtain ⟨ys, hys, rfl⟩ := h
      have hpl : (fun x => ps.toArray[x]?) = fieldPlaces P fs.toList := funext fun i => by rw [← e2 i]; simp
      obtain ⟨cs', q1, q2, q3, q4⟩ := pfill_sound (C := C) (fieldPlaces P fs.toList) parts parts'.toList z ys zv.cells hl hp (hzr C) (by simpa using hzl.symm) hzc hys
      have hb : P.built t parts'.toList = some cs' := by
        unfold Program.built
        simp only [hi, hu, hzv, e1, hpl, q1]
      exact ⟨.agg cs', by simpa using VRel.agg (C := C) (us := cs'.toList) (by simpa using q3.symm) q4 q2, run_build w t parts' cs' hb⟩
    · cases h
  · rename_i len e z hu hz
    obtain ⟨i, zv, hi, hzv, hzr, hzl, hzc⟩ := zcells_of hz
    split at h
    · rename_i n hn
      obtain ⟨ie, hie, hs⟩ := szT_info hn
      simp only [Option.map_eq_some_iff] at h
      obtain ⟨ys, hys, rfl⟩ := h
      obtain ⟨cs', q1, q2, q3, q4⟩ := pfill_sound (C := C) _ parts parts'.toList z ys zv.cells hl hp (hzr C) (by simpa using hzl.symm) hzc hys
      have hb : P.built t parts'.toList = some cs' := by
        unfold Program.built
        simp only [hi, hu, hzv, hie, hs, q1]
      exact ⟨.agg cs', by simpa using VRel.agg (C := C) (us := cs'.toList) (by simpa using q3.symm) q4 q2, run_build w t parts' cs' hb⟩
    · cases h
  · cases h

/-! ### rows of zeros -/
theorem reps_getElem? (z : List PV) (hz : 0 < z.length) : ∀ (n j : Nat), (reps n z)[j]? = if j < n * z.length then z[j % z.length]? else none
  | 0, j => by simp [reps]
  | n + 1, j => by
    have e : reps (n + 1) z = z ++ reps n z := by simp [reps, List.replicate_succ]
    rw [e]
    by_cases hj : j < z.length
    · rw [List.getElem?_append_left hj, if_pos (by rw [Nat.add_mul]; omega), Nat.mod_eq_of_lt hj]
    · rw [List.getElem?_append_right (by omega), reps_getElem? z hz n]
      have e2 : (n + 1) * z.length = n * z.length + z.length := by rw [Nat.add_mul]; omega
      have e3 : j % z.length = (j - z.length) % z.length := by
        conv => lhs; rw [show j = (j - z.length) + z.length by omega, Nat.add_mod_right]
      rw [e3]
      by_cases h2 : j < (n + 1) * z.length
      · rw [if_pos (by omega), if_pos h2]
      · rw [if_neg (by omega), if_neg h2]
theorem length_reps (z : List PV) (n : Nat) : (reps n z).length = n * z.length := by simp [reps]
theorem reps_cell {z : List PV} {n : Nat} (h : ∀ x ∈ z, x.cell = true) : ∀ x ∈ reps n z, x.cell = true := fun x hx => by
  simp only [reps, List.mem_flatten, List.mem_replicate] at hx
  obtain ⟨l, ⟨_, rfl⟩, hx⟩ := hx
  exact h x hx

/-- The model's row of zeros. -/
theorem made_rel {z : List PV} {zv : Array Value} {n m : Nat} (hzl : zv.toList.length = z.length) (hz : Rel C z zv.toList) (hpos : 0 < z.length) (hm : n * z.length ≤ m) : Rel C (reps n z) ((Array.range m).map (zv[· % zv.size]!)).toList := fun j x u hx hu => by
  rw [reps_getElem? z hpos] at hx
  split at hx
  · rename_i hj
    have hzs : zv.size = z.length := by simpa using hzl
    have hjm : j < m := by omega
    simp only [Array.toList_map, Array.toList_range, List.getElem?_map, List.getElem?_range hjm, Option.map_some, Option.some.injEq] at hu
    subst hu
    have hlt : j % zv.size < zv.size := Nat.mod_lt _ (by omega)
    rw [getElem!_pos zv _ hlt]
    exact hz (j % zv.size) x _ (by rw [hzs]; exact hx) (by simp [hlt])
  · cases hx

theorem pbuildSlice_sound {t : TypeId} {len : Nat} {parts : List (Nat × PV)} {parts' : Array (Nat × Value)} {v : PV} (hw : WRel C H w) (hl : parts'.toList.length = parts.length)
    (hp : ∀ (j : Nat) (p : Nat × PV) (q : Nat × Value), parts[j]? = some p → parts'.toList[j]? = some q → q.1 = p.1 ∧ VRel C p.2 q.2) (h : pbuildSlice P t len parts = some v) :
    ∃ C' u w', CLe C C' ∧ WRel C' H w' ∧ Below C.B w w' ∧ VRel C' v u ∧ (Instr.buildSlice t len parts').run P w = .ok u w' := by
  unfold pbuildSlice at h
  split at h
  · rename_i e hu
    split at h
    · rename_i n z hn hz
      obtain ⟨i, zv, hi, hzv, hzr, hzl, hzc⟩ := zcells_of hz
      obtain ⟨ie, hie, hs⟩ := szT_info hn
      rw [hi] at hie
      injection hie with hie
      subst hie
      split at h
      · rename_i h0
        injection h with h
        subst h
        obtain ⟨rfl, h0⟩ := h0
        have hp0 : parts'.toList = [] := List.eq_nil_of_length_eq_zero (by omega)
        obtain ⟨c1, c2, c3⟩ := hw.allocImm #[] e
        refine ⟨_, _, _, c1, c2, c3, .sliceN (some ⟨w.heap.size, 0, none⟩) true, ?_⟩
        simp [Instr.buildSlice, run_underlying hu, sizeOf, typeInfo, zeroValue, hi, hzv, hp0, Instr.fill, newRow]
        rw [show Array.map (fun _ => (default : Value)) (Array.range 0) = #[] from by apply Array.ext'; simp]
      split at h
      · rename_i hq
        simp only [Option.map_eq_some_iff] at h
        obtain ⟨ys, hys, rfl⟩ := h
        have hpos : 0 < z.length := by
          rcases Nat.eq_zero_or_pos z.length with h0 | h0
          · rw [← hq.1, h0] at hq; simp at hq
          · exact h0
        have hmade := made_rel (C := C) (n := len) (m := len * i.size) hzl (hzr C) hpos (by rw [hs, hq.1]; exact Nat.le_refl _)
        obtain ⟨cs', q1, q2, q3, q4⟩ := pfill_sound (C := C) (fun i => some (i * n, n)) parts parts'.toList (reps len z) ys ((Array.range (len * i.size)).map (zv.cells[· % zv.cells.size]!)) hl hp hmade
          (by rw [length_reps, hq.1, hs]; simp) (reps_cell hzc) hys
        have hr := run_buildSlice (P := P) w t e len parts' cs' i zv hu hi hzv (by rw [hs]; have := hq.2.2; omega) (by rw [hs]; have := hq.2.1; omega) (by rw [hs] at q1 ⊢; exact q1)
        obtain ⟨c1, c2, c3⟩ := hw.allocImm cs' e
        refine ⟨_, _, _, c1, c2, c3, ?_, hr⟩
        refine VRel.slice (us := cs'.toList) (o := 0) (by simpa using q3.symm) (fun j u hj => ?_) q4 (q2.mono c1) (Nat.le_refl _) ?_ (fun _ => rfl)
        · simp only [Ctx.imm, if_true, Nat.zero_add]; simpa using hj
        · have : len ≤ len * n := Nat.le_mul_of_pos_right len (by omega)
          simp only [maxLen]; omega
      · cases h
    · cases h
  · cases h

theorem byT_info {t : TypeId} {n : Nat} (h : byT P t = some n) : ∃ i, P.info? t = some i ∧ i.bytes = n := by
  unfold byT at h
  cases hi : P.info? t with
  | none => simp [hi] at h
  | some i => simp [hi] at h; exact ⟨i, rfl, h⟩

theorem pmake_sound {t : TypeId} {l c v : PV} {p q : Value} {H' : Heap} (hw : WRel C H w) (hl : VRel C l p) (hc : VRel C c q) (h : pmake P H t l c = some (v, H')) :
    ∃ C' u w', CLe C C' ∧ WRel C' H' w' ∧ Below C.B w w' ∧ VRel C' v u ∧ (Instr.makeSlice t p q).run P w = .ok u w' := by
  unfold pmake at h
  split at h
  · rename_i e kl l kc c hu
    obtain rfl := inv_int hl
    obtain rfl := inv_int hc
    split at h
    · rename_i n b z hn hb hz
      obtain ⟨i, zv, hi, hzv, hzr, hzl, hzc⟩ := zcells_of hz
      obtain ⟨ie, hie, hs⟩ := szT_info hn
      obtain ⟨ib, hib, hby⟩ := byT_info hb
      rw [hi] at hie hib
      injection hie with hie
      injection hib with hib
      subst hie hib
      split at h
      · rename_i hq
        simp only [Option.some.injEq, Prod.mk.injEq] at h
        obtain ⟨rfl, rfl⟩ := h
        have hr := run_make (P := P) w t e i zv hu hi hzv kl kc l c hq.1 hq.2.1 (by rw [hby]; have := hq.2.2.1; omega) (by have := hq.2.2.2.1; omega)
        have hcn : l.toNat * z.length ≤ c.toNat * i.size := by rw [hs, hq.2.2.2.2.1]; exact Nat.mul_le_mul_right n (by omega)
        have hmade := made_rel (C := C) (n := l.toNat) (m := c.toNat * i.size) hzl (hzr C) (by rw [hq.2.2.2.2.1]; exact hq.2.2.2.2.2) hcn
        obtain ⟨c1, c2, c3⟩ := hw.allocOwn (madeCells zv.cells (c.toNat * i.size)) e (reps l.toNat z) 0 (reps_cell hzc) (by rw [length_reps, size_madeCells]; exact hcn) (fun j x u hx hu => hmade j x u hx (by rw [Array.getElem?_toList]; exact hu))
        refine ⟨_, _, _, c1, c2, c3, ?_, hr⟩
        refine .msl ?_ ?_ (by omega) (by have := hq.2.2.2.1; simp only [maxLen]; omega) (fun _ => ⟨rfl, ?_⟩)
        · simp [Ctx.more, ← hw.len]
        · simp [Ctx.more, ← hw.lenv]
        · simp [Ctx.more, ← hw.lenc, size_madeCells, hs]
      · cases h
    · cases h
  · cases h

/-! ### the cells of a slice -/
theorem scells_sound {sz n : Nat} {x : PV} {v : Value} {ys : List PV} (hw : WRel C H w) (hx : VRel C x v) (h : scells H sz x = some (ys, n)) :
    ∃ ad cap us, v = .slice ad n cap ∧ n ≤ cap ∧ us.length = ys.length ∧ ys.length = n * sz ∧ Rel C ys us ∧ (∀ x ∈ ys, x.cell = true) ∧ ((n = 0 ∧ us = []) ∨ ∃ b o, ad = some ⟨b, o, none⟩ ∧ At w b o us) := by
  unfold scells at h
  split at h
  · rename_i xs len full
    split at h
    · rename_i hq
      simp only [Option.some.injEq, Prod.mk.injEq] at h
      obtain ⟨rfl, rfl⟩ := h
      cases hx with
      | @slice _ _ cap b o _ us hl hM hc hR hcap hmax hf => exact ⟨_, cap, us, rfl, hcap, hl, hq, hR, hc, .inr ⟨b, o, rfl, hw.at_imm hM⟩⟩
      | sliceN => exact ⟨_, 0, [], rfl, Nat.le_refl _, rfl, by simp, fun j x u hx => by simp at hx, fun x hx => by simp at hx, .inl ⟨rfl, rfl⟩⟩
    · cases h
  · rename_i id ver off len sz' g
    split at h
    · rename_i k hk
      split at h
      · rename_i hq
        simp only [Option.some.injEq, Prod.mk.injEq] at h
        obtain ⟨rfl, rfl⟩ := h
        have q2 := hw.ver _ k hk
        rw [hq.1] at q2
        obtain ⟨b, cap, off', q1, rfl, hc1, hc2, ho, _⟩ | ⟨ad, hgh, h0, rfl⟩ := inv_msl hw hx q2
        rotate_left
        · subst h0
          exact ⟨ad, 0, [], rfl, Nat.le_refl _, by simp, by simp, fun j x u hx => by simp at hx, fun x hx => by simp at hx, .inl ⟨rfl, rfl⟩⟩
        obtain ⟨cur, q3, q5, q6, q7, q8, q9, q10⟩ := hw.blk hk q1
        have hl1 : ((k.cells.drop off).take (len * sz)).length = len * sz := by simp; omega
        refine ⟨_, cap, ((cur.toList.take k.cells.length).drop off).take (len * sz), rfl, hc1, ?_, hl1, (q9.drop off).take _, fun x hx => q6 x (List.mem_of_mem_drop (List.mem_of_mem_take hx)), .inr ⟨b, off', rfl, ?_⟩⟩
        · rw [hl1]; simp; omega
        · rcases Nat.eq_zero_or_pos len with h0 | h0
          · subst h0; intro j u hu; simp at hu
          · obtain rfl := ho h0
            have := (q8.drop off').take (len * sz)
            rwa [Nat.zero_add] at this
      · cases h
    · cases h
  · cases h

theorem first_of {sz n cap : Nat} {ad : Option Addr} {us : List Value} (hl : us.length = n * sz) (h : (n = 0 ∧ us = []) ∨ ∃ b o, ad = some ⟨b, o, none⟩ ∧ At w b o us) :
    (Builtin.firstCells sz n (.slice ad n cap)).run P w = .ok us.toArray w := by
  rcases h with ⟨rfl, rfl⟩ | ⟨b, o, rfl, hat⟩
  · cases ad with
    | none => exact run_firstCells_none w sz 0 0 cap
    | some a => exact run_firstCells_some w sz 0 a 0 cap [] hl (fun j v hv => by simp at hv)
  · exact run_firstCells_some w sz n ⟨b, o, none⟩ n cap us hl (fun j v hv => by rw [Addr.add_lit]; exact hat j v hv)

end Go.Proofs.Ytnjnikafhbholaa.Pm

namespace Go.Proofs.Ytnjnikafhbholaa.Pm
set_option linter.all false
set_option linter.unusedVariables false
set_option linter.unusedSimpArgs false
open Go.RowKit

variable {P : Program} {C : Ctx} {H : Heap} {w : World} {F : Nat → PV} {a : Act} {N : Nat}

/-- What the second argument of an append yields, zeros of 'append(s, make([]T, n)...)' too. -/
def App (P : Program) (i : TypeInfo) (z : Value) (tx : TypeId) (x : Value) (n : Nat) (news : List Value) (w : World) : Prop :=
  Src P i.size tx x n news w ∨ ∃ kn kq, P.underlying tx = some (.int kn) ∧ x = .int kq (n : Int) ∧ news = (Builtin.zeroCells z.cells n).toList ∧ n ≤ 1048576 ∧ z.cells.size = i.size

theorem app_room {t tx ty e : TypeId} {i : TypeInfo} {z : Value} (ht : P.underlying t = some (.slice e)) (hi : P.info? e = some i) (hz : i.zero = some z) {b off sLen sCap n : Nat} {x : Value} {news : List Value} {w' : World}
    (ha : App P i z tx x n news w) (hroom : sLen + n ≤ sCap) (hby : n * i.bytes ≤ 140737488355328) (hst : (storeCells ⟨b, off + sLen * i.size, none⟩ news).run P w = .ok () w') :
    (Builtin.append_ #[t, tx] ty #[.slice (some ⟨b, off, none⟩) sLen sCap, x]).run P w = .ok (.slice (some ⟨b, off, none⟩) (sLen + n) sCap) w' := by
  rcases ha with hs | ⟨kn, kq, htn, rfl, rfl, hn, hsz⟩
  · rcases hs.kind with ⟨e', hk⟩ | hk <;> simp [Builtin.append_, run_underlying ht, run_underlying hk, sizeOf, typeInfo, hi, hs.len, hroom, hs.cells, Addr.add_lit, hst]
  · have hw : IntKind.i64.wrap (n : Int) = n := by rw [IntKind.wrap_i64]; omega
    have h48i : ¬ (281474976710656 < (n : Int) * (i.bytes : Int)) := by rw [← Int.natCast_mul]; omega
    have hneg : ¬ ((n : Int) < 0) := by omega
    by_cases hns : n * i.size = 0
    · have hz0 : (Builtin.zeroCells z.cells n).toList = [] := by
        apply List.eq_nil_of_length_eq_zero
        rw [Array.length_toList, size_zeroCells, hsz]
        exact hns
      rw [hz0] at hst
      have hns' : n = 0 ∨ i.size = 0 := Nat.mul_eq_zero.1 hns
      simp [Builtin.append_, run_underlying ht, run_underlying htn, sizeOf, typeInfo, hi, asInt, asIntOf, hw, hneg, hns, h48i, hroom, Addr.add_lit, hst]
    · have hns' : ¬ (n = 0 ∨ i.size = 0) := fun hh => hns (Nat.mul_eq_zero.2 hh)
      simp [Builtin.append_, run_underlying ht, run_underlying htn, sizeOf, typeInfo, zeroValue, hi, hz, asInt, asIntOf, hw, hneg, hns, h48i, hroom, Addr.add_lit, hst]

theorem app_nothing {t tx ty e : TypeId} {i : TypeInfo} {z : Value} (ht : P.underlying t = some (.slice e)) (hi : P.info? e = some i) {base : Option Addr} {sLen sCap : Nat} {x : Value} {news : List Value}
    (ha : App P i z tx x 0 news w) (hle : sLen ≤ sCap) : (Builtin.append_ #[t, tx] ty #[.slice base sLen sCap, x]).run P w = .ok (.slice base sLen sCap) w := by
  rcases ha with hs | ⟨kn, kq, htn, rfl, rfl, hn, hsz⟩
  · have hnil : news = [] := List.eq_nil_of_length_eq_zero (by simpa using hs.newsLen)
    subst hnil
    have hcells := hs.cells
    rcases hs.kind with ⟨e', hk⟩ | hk <;> cases base <;> simp [Builtin.append_, run_underlying ht, run_underlying hk, sizeOf, typeInfo, hi, hs.len, hle, hcells, storeCells]
  · have hw : IntKind.i64.wrap 0 = 0 := by rw [IntKind.wrap_i64]; omega
    cases base <;> simp [Builtin.append_, run_underlying ht, run_underlying htn, sizeOf, typeInfo, hi, asInt, asIntOf, hw, hle, storeCells]

theorem app_grow {t tx ty e : TypeId} {i : TypeInfo} {z : Value} (ht : P.underlying t = some (.slice e)) (hi : P.info? e = some i) (hz : i.zero = some z) {base : Option Addr} {sLen sCap n : Nat} {x : Value} {olds news : List Value}
    (hold : (Builtin.firstCells i.size sLen (.slice base sLen sCap)).run P w.drew = .ok olds.toArray w.drew) (ha : App P i z tx x n news w)
    (hg : sCap < sLen + n) (h47 : (sLen + n) * i.bytes ≤ 140737488355328) (hm : sLen + n ≤ 140737488355328) (hs0 : 0 < i.size) :
    (Builtin.append_ #[t, tx] ty #[.slice base sLen sCap, x]).run P w = .ok (.slice (some ⟨w.heap.size, 0, none⟩) (sLen + n) (grownCap w (sLen + n) sCap e))
        (w.drew.alloc (.cells ((olds ++ news).toArray ++ Builtin.zeroCells z.cells (grownCap w (sLen + n) sCap e - (sLen + n))) e)) := by
  have hfit := growslice_fits hg h47
  rcases ha with hs | ⟨kn, kq, htn, rfl, rfl, hn, hsz⟩
  · exact run_append_grow_src w t tx ty e i z ht hi hz base sLen sCap olds hold x n news hs hg (by omega) hfit
  · have hw : IntKind.i64.wrap (n : Int) = n := by rw [IntKind.wrap_i64]; omega
    have hnb : n * i.bytes ≤ (sLen + n) * i.bytes := Nat.mul_le_mul_right _ (by omega)
    have hnr : ¬ (sLen + n ≤ sCap) := by omega
    have h63' : ¬ (9223372036854775807 < ((sLen : Int) + (n : Int))) := by omega
    have h48' : ¬ (281474976710656 < Builtin.nextslicecap (sLen + n) sCap * i.bytes) := by omega
    have h48i : ¬ (281474976710656 < (n : Int) * (i.bytes : Int)) := by rw [← Int.natCast_mul]; omega
    have hneg : ¬ ((n : Int) < 0) := by omega
    rcases Nat.eq_zero_or_pos n with h0 | h0
    · subst h0
      have hz0 : (Builtin.zeroCells z.cells 0).toList = [] := by
        apply List.eq_nil_of_length_eq_zero
        rw [Array.length_toList, size_zeroCells]
        simp
      rw [hz0]
      simp only [Nat.add_zero] at hnr h48' ⊢
      have h63'' : ¬ (9223372036854775807 < (sLen : Int)) := by omega
      have hw0 : IntKind.i64.wrap 0 = 0 := by rw [IntKind.wrap_i64]; omega
      simp [Builtin.append_, run_underlying ht, run_underlying htn, sizeOf, typeInfo, zeroValue, hi, hz, asInt, asIntOf, hw0, hnr, h63'', h48', Question.forced, hold, newRow, grownCap]
    · have hns : ¬ (n * i.size = 0) := Nat.mul_ne_zero (by omega) (by omega)
      have hns' : ¬ (n = 0 ∨ i.size = 0) := fun hh => hns (Nat.mul_eq_zero.2 hh)
      simp [Builtin.append_, run_underlying ht, run_underlying htn, sizeOf, typeInfo, zeroValue, hi, hz, asInt, asIntOf, hw, hnr, hneg, hns, h63', h48', h48i, Question.forced, hold, newRow, grownCap]
      congr 2
      apply Array.ext'
      simp [List.append_assoc]

theorem zero_rel {z : List PV} {zv : Value} {n : Nat} (hzl : zv.cells.toList.length = z.length) (hz : Rel C z zv.cells.toList) (hpos : 0 < z.length) : Rel C (reps n z) (Builtin.zeroCells zv.cells n).toList := by
  have hs : zv.cells.size = z.length := by simpa using hzl
  have := made_rel (C := C) (n := n) (m := n * zv.cells.size) hzl hz hpos (by rw [hs]; exact Nat.le_refl _)
  exact this

theorem appSrc_sound {e sz n : Nat} {tx : TypeId} {x : PV} {v : Value} {news : List PV} {i : TypeInfo} {zv : Value} {z : List PV} (hw : WRel C H w) (hx : VRel C x v) (hi : P.info? e = some i) (hs : i.size = sz) (hz : i.zero = some zv)
    (hzc : zcells P e = some z) (hzl' : z.length = sz) (hpos : 0 < sz) (h : appSrc P H e sz tx x = some (news, n)) :
    ∃ us, App P i zv tx v n us w ∧ Rel C news us ∧ us.length = news.length ∧ news.length = n * sz ∧ ∀ x ∈ news, x.cell = true := by
  unfold appSrc at h
  split at h
  · rename_i e' hu
    obtain ⟨ad, cap, us, rfl, hcap, hl, hn, hR, hc, hat⟩ := scells_sound hw hx h
    refine ⟨us, .inl ⟨.inl ⟨e', hu⟩, fun _ => rfl, ?_, ?_, by rw [hl, hn, hs], hR.oneCell hl hc⟩, hR, hl, hn, hc⟩
    · rw [hs]; exact first_of (by omega) hat
    · rw [hs]; exact first_of (w := w.drew) (by omega) (by rcases hat with h1 | ⟨b, o, h1, h2⟩; exact .inl h1; exact .inr ⟨b, o, h1, h2⟩)
  · rename_i kn k nn hu
    rw [hzc] at h
    simp only at h
    split at h
    · rename_i hq
      simp only [Option.some.injEq, Prod.mk.injEq] at h
      obtain ⟨rfl, rfl⟩ := h
      obtain rfl := inv_int hx
      obtain ⟨i', zv', hi', hzv', hzr, hzl, hzcc⟩ := zcells_of hzc
      rw [hi] at hi'
      injection hi' with hi'
      subst hi'
      rw [hz] at hzv'
      injection hzv' with hzv'
      subst hzv'
      have hsz : zv.cells.size = sz := by rw [← Array.length_toList, hzl, hzl']
      refine ⟨(Builtin.zeroCells zv.cells nn.toNat).toList, .inr ⟨kn, k, hu, by congr 1; omega, rfl, by omega, by rw [hsz, hs]⟩, zero_rel hzl (hzr C) (by omega), ?_, ?_, reps_cell hzcc⟩
      · rw [Array.length_toList, size_zeroCells, length_reps, hsz, hzl']
      · rw [length_reps, hzl']
    · cases h
  · rename_i s hu
    split at h
    · rename_i h1
      simp only [Option.some.injEq, Prod.mk.injEq] at h
      obtain ⟨rfl, rfl⟩ := h
      obtain ⟨s', rfl, rfl⟩ := inv_str hx
      have hsz : s'.size = s'.data.toList.length := by rw [Array.length_toList]; rfl
      refine ⟨byteCells s', .inl ?_, ?_, ?_, ?_, ?_⟩
      · rw [hs, h1, ← hsz]; exact Src.ofString w hu s'
      · intro j x u hx hu
        simp only [byteCells, List.getElem?_map, Option.map_eq_some_iff] at hx hu
        obtain ⟨b, hb, rfl⟩ := hx
        obtain ⟨b', hb', rfl⟩ := hu
        rw [hb] at hb'
        injection hb' with hb'
        subst hb'
        exact .int _ _
      · simp [byteCells]
      · simp [h1]
      · intro x hx
        obtain ⟨b, _, rfl⟩ := List.mem_map.1 hx
        rfl
    · cases h
  · cases h

theorem pappend_sound {t tx ty : TypeId} {s x v : PV} {p q : Value} {H' : Heap} (hw : WRel C H w) (hsv : VRel C s p) (hx : VRel C x q) (h : pappend P H t tx s x = some (v, H')) :
    ∃ C' u w', CLe C C' ∧ WRel C' H' w' ∧ Below C.B w w' ∧ VRel C' v u ∧ (Builtin.append_ #[t, tx] ty #[p, q]).run P w = .ok u w' := by
  unfold pappend at h
  split at h
  · rename_i e hu
    split at h
    · rename_i sz b z hn hb hz
      split at h
      · rename_i hpz
        obtain ⟨i, zv, hi, hzv, hzr, hzl, hzc⟩ := zcells_of hz
        obtain ⟨ie, hie, hs⟩ := szT_info hn
        obtain ⟨ib, hib, hby⟩ := byT_info hb
        rw [hi] at hie hib
        injection hie with hie
        injection hib with hib
        subst hie hib
        split at h
        · rename_i news n hsrc
          obtain ⟨us, happ, hRn, hln, hnn, hcn⟩ := appSrc_sound hw hx hi hs hzv hz hpz.2 hpz.1 hsrc
          have hzsize : ∀ m, (Builtin.zeroCells zv.cells m).size = m * sz := fun m => by
            rw [size_zeroCells, ← Array.length_toList, hzl, hpz.2]
          -- a new row
          have grown : ∀ (xs : List PV) (len cap : Nat) (ad : Option Addr) (os : List Value), os.length = xs.length → xs.length = len * sz → Rel C xs os → cap < len + n → (len + n) * b ≤ 140737488355328 → len + n ≤ 140737488355328 →
              ((len = 0 ∧ os = []) ∨ ∃ b o, ad = some ⟨b, o, none⟩ ∧ At w b o os) →
              ∃ cur nc, (Builtin.append_ #[t, tx] ty #[.slice ad len cap, q]).run P w = .ok (.slice (some ⟨w.heap.size, 0, none⟩) (len + n) nc) (w.drew.alloc (.cells cur e)) ∧ Rel C (xs ++ news) cur.toList ∧
                (xs ++ news).length ≤ cur.size ∧ cur.size = nc * sz ∧ len + n ≤ nc ∧ nc ≤ maxLen := by
            intro xs len cap ad os hos hxs hR hg h47 hm hat
            have hold : (Builtin.firstCells i.size len (.slice ad len cap)).run P w.drew = .ok os.toArray w.drew := by
              rw [hs]; exact first_of (w := w.drew) (by omega) (by rcases hat with h1 | ⟨b, o, h1, h2⟩; exact .inl h1; exact .inr ⟨b, o, h1, h2⟩)
            have hr := app_grow (P := P) (ty := ty) hu hi hzv hold happ hg (by rw [hby]; exact h47) hm (by rw [hs]; exact hpz.1)
            have hge := grownCap_ge w (len + n) cap e
            refine ⟨_, _, hr, ?_, ?_, ?_, hge, grownCap_le_maxLen w _ _ _ (by simp only [maxLen]; omega)⟩
            · intro j x u hx hu'
              have hlt : j < (xs ++ news).length := (List.getElem?_eq_some_iff.1 hx).1
              refine Rel.append hos hR hRn j x u hx ?_
              rw [Array.toList_append, List.getElem?_append_left (by simp at hlt ⊢; omega)] at hu'
              exact hu'
            · simp; omega
            · rw [Array.size_append, hzsize]
              simp only [List.size_toArray, List.length_append, hos, hxs, hln, hnn, ← Nat.add_mul]
              congr 1
              omega
          split at h
          · rename_i xs len full
            split at h
            · rename_i h0
              subst h0
              simp only [Option.some.injEq, Prod.mk.injEq] at h
              obtain ⟨rfl, rfl⟩ := h
              have hle : ∃ ad cap, p = .slice ad len cap ∧ len ≤ cap := by
                cases hsv with
                | slice _ _ _ _ hcap _ _ => exact ⟨_, _, rfl, hcap⟩
                | sliceN => exact ⟨_, _, rfl, Nat.le_refl _⟩
              obtain ⟨ad, cap, rfl, hle⟩ := hle
              exact ⟨C, _, w, .refl _, hw, .refl _ _, hsv, app_nothing hu hi happ hle⟩
            · rename_i h0
              split at h
              · rename_i hq
                simp only [Option.some.injEq, Prod.mk.injEq] at h
                obtain ⟨rfl, rfl⟩ := h
                have hshape : ∃ ad os, p = .slice ad len len ∧ os.length = xs.length ∧ Rel C xs os ∧ (∀ x ∈ xs, x.cell = true) ∧ ((len = 0 ∧ os = []) ∨ ∃ b o, ad = some ⟨b, o, none⟩ ∧ At w b o os) := by
                  cases hsv with
                  | @slice _ _ cap b' o' _ us' hl' hM' hc' hR' hcap' hmax' hf' => rw [hf' hq.1]; exact ⟨_, us', rfl, hl', hR', hc', .inr ⟨b', o', rfl, hw.at_imm hM'⟩⟩
                  | sliceN => exact ⟨_, [], rfl, rfl, fun j x u hx => by simp at hx, fun x hx => by simp at hx, .inl ⟨rfl, rfl⟩⟩
                obtain ⟨ad, os, rfl, hos, hRx, hcx, hat⟩ := hshape
                obtain ⟨cur, nc, hr, r1, r2, r3, r4, r5⟩ := grown xs len len ad os hos hq.2.1 hRx (by omega) hq.2.2.1 hq.2.2.2 hat
                obtain ⟨c1, c2, c30⟩ := hw.drew.allocOwn cur e (xs ++ news) (xs ++ news).length (fun x hx => by rcases List.mem_append.1 hx with hx | hx; exact hcx x hx; exact hcn x hx) r2 (fun j x u hx hu => r1 j x u hx (by simpa using hu))
                have c3 := ((Below.refl C.B w).drew).trans c30
                refine ⟨_, _, _, c1, c2, c3, ?_, hr⟩
                refine .msl ?_ ?_ r4 r5 (fun _ => ⟨rfl, ?_⟩)
                · simp [Ctx.more, ← hw.len]
                · simp [Ctx.more, ← hw.lenv]
                · simp [Ctx.more, ← hw.lenc, r3]
              · cases h
          · rename_i id ver off len sz' g
            split at h
            · rename_i k hk
              split at h
              · rename_i hq
                obtain ⟨hver, hgt, hoff, hsz, hke, hkl, hvl, h47, hmx⟩ := hq
                subst hver hgt hoff hsz
                have hid : id < H.length := (List.getElem?_eq_some_iff.1 hk).1
                obtain ⟨bb, cap, off', q1, rfl, hc1, hc2, ho, hg⟩ | ⟨ad, hgh, hl0, rfl⟩ := inv_msl hw hsv (hw.ver id k hk)
                rotate_left
                · subst hl0
                  split at h
                  · rename_i h0
                    subst h0
                    simp only [Option.some.injEq, Prod.mk.injEq] at h
                    obtain ⟨rfl, rfl⟩ := h
                    exact ⟨C, _, w, .refl _, hw, .refl _ _, hsv, app_nothing hu hi happ (Nat.le_refl _)⟩
                  · rename_i h0
                    simp only [Option.some.injEq, Prod.mk.injEq] at h
                    obtain ⟨rfl, rfl⟩ := h
                    subst hke
                    have hnil : k.cells = [] := List.eq_nil_of_length_eq_zero (by omega)
                    have hnp : 0 < news.length := by rw [hnn]; exact Nat.mul_pos (by omega) hpz.1
                    obtain ⟨cur', nc, hr, r1, r2, r3, r4, r5⟩ := grown k.cells 0 0 ad [] (by simp [hnil]) (by simp [hnil]) (by rw [hnil]; exact fun j x u hx => by simp at hx) (by omega) h47 hmx (.inl ⟨rfl, rfl⟩)
                    obtain ⟨c1, c2, c30⟩ := hw.drew.move hk (k.cells ++ news).length (by rw [List.length_append]; omega) (k.cells ++ news) cur' (fun x hx => by rcases List.mem_append.1 hx with hx | hx; (rw [hnil] at hx; cases hx); exact hcn x hx) r2 (fun j x u hx hu => r1 j x u hx (by simpa using hu))
                    have c3 := ((Below.refl C.B w).drew).trans c30
                    refine ⟨_, _, _, c1, c2, c3, ?_, hr⟩
                    refine .msl (b := w.heap.size) ?_ ?_ r4 r5 (fun _ => ⟨rfl, ?_⟩)
                    · show (C.mu.set id (some w.heap.size))[id]? = _
                      simp [hw.len, hid]
                    · simp [hw.lenv, hid]
                    · simp [hw.lenc, hid, r3]
                obtain ⟨cur, q3, q5, q6, q7, q8, q9, q10⟩ := hw.blk hk q1
                have q2 := hw.ver id k hk
                obtain ⟨_, rfl, hcp⟩ := hg rfl
                rw [q3] at hcp
                injection hcp with hcp
                split at h
                · rename_i h0
                  subst h0
                  simp only [Option.some.injEq, Prod.mk.injEq] at h
                  obtain ⟨rfl, rfl⟩ := h
                  exact ⟨C, _, w, .refl _, hw, .refl _ _, hsv, app_nothing hu hi happ hc1⟩
                · rename_i h0
                  simp only [Option.some.injEq, Prod.mk.injEq] at h
                  obtain ⟨rfl, rfl⟩ := h
                  subst hke
                  have hRk : Rel C k.cells cur.toList := by
                    obtain ⟨cur2, _, _, r5, _, _, r8⟩ := hw.own id k bb hk q1
                    rw [q5] at r5
                    injection r5 with r5
                    injection r5 with r5
                    subst r5
                    exact fun j x u hx hu => r8 j x u hx (by simpa using hu)
                  by_cases hroom : len + n ≤ cap
                  · have hfit : len * sz' + us.length ≤ cur.size := by
                      rw [hcp, hln, hnn, ← Nat.add_mul]
                      exact Nat.mul_le_mul_right _ hroom
                    have hst := run_storeCells_at P bb (len * sz') k.e us 0 cur w q5 (by omega) (hRn.oneCell hln hcn)
                    rw [Nat.add_zero] at hst
                    have hr := app_room (P := P) (t := t) (tx := tx) (ty := ty) (b := bb) (off := 0) (sLen := len) (sCap := cap) hu hi hzv happ hroom
                      (by rw [hby]; exact Nat.le_trans (Nat.mul_le_mul_right _ (by omega)) h47) (by rw [Nat.zero_add, hs]; exact hst)
                    have hsize : (cur.toList.take (len * sz') ++ us ++ cur.toList.drop (len * sz' + us.length)).toArray.size = cur.size := by simp; omega
                    obtain ⟨c1, c2, c3⟩ := hw.write hk q1 q5 (k.cells ++ news).length (by rw [List.length_append]; omega) (k.cells ++ news) (cur.toList.take (len * sz') ++ us ++ cur.toList.drop (len * sz' + us.length)).toArray hsize
                      (fun x hx => by rcases List.mem_append.1 hx with hx | hx; exact q6 x hx; exact hcn x hx) (by rw [hsize]; simp; omega) (fun j x u hx hu => by
                        have hlt : j < (k.cells ++ news).length := (List.getElem?_eq_some_iff.1 hx).1
                        have hu2 : (cur.toList.take (len * sz') ++ us ++ cur.toList.drop (len * sz' + us.length))[j]? = some u := by simpa using hu
                        rw [List.getElem?_append_left (by simp at hlt ⊢; omega)] at hu2
                        refine Rel.append (C := C) (by simp; omega) (us := cur.toList.take (len * sz')) ?_ hRn j x u hx hu2
                        rw [← hkl]; exact q9)
                    refine ⟨_, _, _, c1, c2, c3, ?_, hr⟩
                    refine .msl q1 ?_ hroom hc2 (fun _ => ⟨rfl, ?_⟩)
                    · simp [hw.lenv, hid]
                    · show C.cp[id]? = _; rw [q3, hcp]
                  · obtain ⟨cur', nc, hr, r1, r2, r3, r4, r5⟩ := grown k.cells len cap (some ⟨bb, 0, none⟩) (cur.toList.take k.cells.length) q10 hkl q9 (by omega) h47 hmx (.inr ⟨bb, 0, rfl, q8⟩)
                    obtain ⟨c1, c2, c30⟩ := hw.drew.move hk (k.cells ++ news).length (by rw [List.length_append]; exact Nat.lt_of_le_of_lt hvl (Nat.lt_add_of_pos_right (by rw [hnn]; exact Nat.mul_pos (by omega) hpz.1))) (k.cells ++ news) cur' (fun x hx => by rcases List.mem_append.1 hx with hx | hx; exact q6 x hx; exact hcn x hx) r2 (fun j x u hx hu => r1 j x u hx (by simpa using hu))
                    have c3 := ((Below.refl C.B w).drew).trans c30
                    refine ⟨_, _, _, c1, c2, c3, ?_, hr⟩
                    refine .msl ?_ ?_ r4 r5 (fun _ => ⟨rfl, ?_⟩)
                    · simp [hw.len, hid]
                    · simp [hw.lenv, hid]
                    · simp [hw.lenc, hid, r3]
              · cases h
            · cases h
          · cases h
        · cases h
      · cases h
    · cases h
  · cases h

end Go.Proofs.Ytnjnikafhbholaa.Pm

namespace Go.Proofs.Ytnjnikafhbholaa.Pm
set_option linter.all false
set_option linter.unusedVariables false
set_option linter.unusedSimpArgs false
open Go.RowKit

variable {P : Program} {C : Ctx} {H : Heap} {w : World} {F : Nat → PV} {a : Act} {N : Nat}

theorem str_eq {a b : List UInt8} {p q : ByteArray} (hp : p.data.toList = a) (hq : q.data.toList = b) : (p.toList == q.toList) = (a == b) := by
  rw [ByteArray.toList_eq, ByteArray.toList_eq, hp, hq]

theorem peqS_sound {d : Nat} {t : TypeId} {u : TypeDesc} {x y : PV} {p q : Value} {b : Bool} (hu : P.underlying t = some u) (hx : VRel C x p) (hy : VRel C y q) (h : peqS u x y = some b) : (Op.equalIn (d + 1) t p q).run P w = .ok b w := by
  unfold peqS at h
  split at h
  · obtain rfl := inv_int hx
    obtain rfl := inv_int hy
    split at h
    · rename_i hk; subst hk; injection h with h; subst h; exact run_equalIn_int w d t _ _ _ _ hu
    · cases h
  · obtain rfl := inv_bool hx
    obtain rfl := inv_bool hy
    injection h with h; subst h; exact run_equalIn_bool' w d t _ _ hu
  · obtain ⟨s, rfl, e1⟩ := inv_str hx
    obtain ⟨s', rfl, e2⟩ := inv_str hy
    injection h with h; subst h
    rw [run_equalIn_string w d t _ _ hu, str_eq e1 e2]
  · cases h

theorem scalT_of {e : TypeId} {u : TypeDesc} (h : scalT P e = some u) : P.underlying e = some u ∧ aggT P e = some false := by
  unfold scalT at h
  unfold aggT
  split at h <;> first | (rename_i hu; injection h with h; subst h; rw [hu]; exact ⟨rfl, rfl⟩) | cases h

theorem peqI_sound {d e : Nat} {u : TypeDesc} (hs : scalT P e = some u) {us vs : List Value} : ∀ (xs ys : List PV) (j : Nat) (b : Bool), (∀ (i : Nat) (x : PV), xs[i]? = some x → ∃ u, us[j + i]? = some u ∧ VRel C x u) →
    (∀ (i : Nat) (x : PV), ys[i]? = some x → ∃ u, vs[j + i]? = some u ∧ VRel C x u) → peqI u xs ys = some b → (Op.eqItems (d + 1) e 1 us.toArray vs.toArray (List.range' j xs.length)).run P w = .ok b w
  | [], [], j, b, hx, hy, h => by simp only [peqI, Option.some.injEq] at h; subst h; simp [Op.eqItems]
  | [], _ :: _, j, b, hx, hy, h => by simp [peqI] at h
  | _ :: _, [], j, b, hx, hy, h => by simp [peqI] at h
  | x :: xs, y :: ys, j, b, hx, hy, h => by
    obtain ⟨hu, hna⟩ := scalT_of hs
    simp only [peqI] at h
    split at h
    · rename_i c hc
      simp only [Option.map_eq_some_iff] at h
      obtain ⟨r, hr, rfl⟩ := h
      obtain ⟨u1, hu1, hux⟩ := hx 0 x rfl
      obtain ⟨v1, hv1, hvy⟩ := hy 0 y rfl
      have ih := peqI_sound hs (d := d) (us := us) (vs := vs) xs ys (j + 1) r (fun i x hx' => by
        have := hx (i + 1) x (by simpa using hx'); rw [show j + 1 + i = j + (i + 1) by omega]; exact this) (fun i x hx' => by
        have := hy (i + 1) x (by simpa using hx'); rw [show j + 1 + i = j + (i + 1) by omega]; exact this) hr
      rw [Nat.add_zero] at hu1 hv1
      have p1 : (part e us.toArray (j * 1)).run P w = .ok u1 w := by simp [part, aggT_run hna, hu1]
      have p2 : (part e vs.toArray (j * 1)).run P w = .ok v1 w := by simp [part, aggT_run hna, hv1]
      rw [List.length_cons, List.range'_succ]
      simp only [Op.eqItems, Sem.run_bind, p1, p2, Result.andThen_ok, peqS_sound (d := d) hu hux hvy hc]
      cases c with
      | false => simp
      | true => simpa using ih
    · cases h

theorem peqF_sound {d : Nat} {eq : TypeId → PV → PV → Option Bool} {xs ys : List PV} {us vs : List Value} (hlx : us.length = xs.length) (hcx : ∀ x ∈ xs, x.cell = true) (hRx : Rel C xs us) (hly : vs.length = ys.length) (hcy : ∀ x ∈ ys, x.cell = true) (hRy : Rel C ys vs)
    (heq : ∀ t x y p q b, VRel C x p → VRel C y q → eq t x y = some b → (Op.equalIn d t p q).run P w = .ok b w) : ∀ (fs : List Field) (b : Bool), peqF eq P xs ys fs = some b → (Op.eqFields d us.toArray vs.toArray fs).run P w = .ok b w
  | [], b, h => by simp only [peqF, Option.some.injEq] at h; subst h; simp [Op.eqFields]
  | f :: fs, b, h => by
    simp only [peqF] at h
    split at h
    · cases h
    · rename_i hn
      have hn' : f.name ≠ "_" := of_decide_eq_false hn
      split at h
      · rename_i a c ha hc
        split at h
        · rename_i r hr
          simp only [Option.map_eq_some_iff] at h
          obtain ⟨q, hq, rfl⟩ := h
          obtain ⟨p1, hp1, e1⟩ := part_sound (P := P) (w := w) hlx hcx hRx ha
          obtain ⟨p2, hp2, e2⟩ := part_sound (P := P) (w := w) hly hcy hRy hc
          have ih := peqF_sound hlx hcx hRx hly hcy hRy heq fs q hq
          simp only [Op.eqFields, hn', ne_eq, not_false_eq_true, if_true, Sem.run_bind, e1, e2, Result.andThen_ok, heq _ _ _ _ _ _ hp1 hp2 hr]
          cases r with
          | false => simp
          | true => simpa using ih
        · cases h
      · cases h
theorem peqA_sound {d e n : Nat} {eq : TypeId → PV → PV → Option Bool} {xs ys : List PV} {us vs : List Value} (hlx : us.length = xs.length) (hcx : ∀ x ∈ xs, x.cell = true) (hRx : Rel C xs us) (hly : vs.length = ys.length) (hcy : ∀ x ∈ ys, x.cell = true) (hRy : Rel C ys vs)
    (heq : ∀ t x y p q b, VRel C x p → VRel C y q → eq t x y = some b → (Op.equalIn d t p q).run P w = .ok b w) : ∀ (is : List Nat) (b : Bool), peqA eq P e n xs ys is = some b → (Op.eqItems d e n us.toArray vs.toArray is).run P w = .ok b w
  | [], b, h => by simp only [peqA, Option.some.injEq] at h; subst h; simp [Op.eqItems]
  | i :: is, b, h => by
    simp only [peqA] at h
    split at h
    · rename_i a c ha hc
      split at h
      · rename_i r hr
        simp only [Option.map_eq_some_iff] at h
        obtain ⟨q, hq, rfl⟩ := h
        obtain ⟨p1, hp1, e1⟩ := part_sound (P := P) (w := w) hlx hcx hRx ha
        obtain ⟨p2, hp2, e2⟩ := part_sound (P := P) (w := w) hly hcy hRy hc
        have ih := peqA_sound hlx hcx hRx hly hcy hRy heq is q hq
        simp only [Op.eqItems, Sem.run_bind, e1, e2, Result.andThen_ok, heq _ _ _ _ _ _ hp1 hp2 hr]
        cases r with
        | false => simp
        | true => simpa using ih
      · cases h
    · cases h

theorem peqT_sound : ∀ (d m : Nat) (t : TypeId) (x y : PV) (p q : Value) (b : Bool), VRel C x p → VRel C y q → peqT P d t x y = some b → (Op.equalIn (d + (m + 1)) t p q).run P w = .ok b w
  | 0, m, t, x, y, p, q, b, _, _, h => by simp [peqT] at h
  | d + 1, m, t, x, y, p, q, b, hx, hy, h => by
    rw [show d + 1 + (m + 1) = (d + (m + 1)) + 1 by omega]
    have ih := fun t x y p q b => peqT_sound d m t x y p q b
    simp only [peqT] at h
    split at h
    · rename_i fs hu
      split at h
      · rename_i xs ys
        split at h
        · rename_i hst
          cases hx with
          | agg hlx hcx hRx =>
            cases hy with
            | agg hly hcy hRy =>
              have hf : P.fieldsOf t = fs := by simp [Program.fieldsOf, hu]
              rw [run_equalIn_struct w (d + (m + 1)) t _ _ (by rw [hf]; exact hu) hst, hf]
              exact peqF_sound hlx hcx hRx hly hcy hRy ih fs.toList b h
        · cases h
      · cases h
    · rename_i len e hu
      split at h
      · rename_i xs ys
        cases hx with
        | @agg _ us hlx hcx hRx =>
          cases hy with
          | @agg _ vs hly hcy hRy =>
            split at h
            · rename_i u hs
              split at h
              · rename_i hq
                obtain ⟨h1, h2, h3⟩ := hq
                obtain ⟨i, hi, hsz⟩ := szT_info h1
                have hce : P.cellsOf e = 1 := by simp [Program.cellsOf, hi, hsz]
                rw [run_equalIn_array w (d + (m + 1)) _ _ hu hi, hce, List.range_eq_range', ← h2]
                have get : ∀ {zs : List PV} {ws : List Value}, ws.length = zs.length → Rel C zs ws → ∀ (i : Nat) (x : PV), zs[i]? = some x → ∃ u, ws[0 + i]? = some u ∧ VRel C x u := fun {zs ws} hl hR i x hx => by
                  have hlt : i < ws.length := by have := (List.getElem?_eq_some_iff.1 hx).1; omega
                  exact ⟨ws[i], by rw [Nat.zero_add]; exact List.getElem?_eq_getElem hlt, hR i x _ hx (List.getElem?_eq_getElem hlt)⟩
                exact peqI_sound (d := d + m) hs xs ys 0 b (get hlx hRx) (get hly hRy) h
              · cases h
            · rename_i hs
              split at h
              · rename_i n hn
                obtain ⟨i, hi, hsz⟩ := szT_info hn
                have hce : P.cellsOf e = n := by simp [Program.cellsOf, hi, hsz]
                rw [run_equalIn_array w (d + (m + 1)) _ _ hu hi, hce]
                exact peqA_sound hlx hcx hRx hly hcy hRy ih (List.range len) b h
              · cases h
      · cases h
    · rename_i u h1 h2 hu
      exact peqS_sound hu hx hy h
    · cases h

theorem peqG_sound {op : BinOp} {t : TypeId} {xs ys : List PV} {p q : Value} {v : PV} (X Y : Operand) (hx : VRel C (.agg xs) p) (hy : VRel C (.agg ys) q) (h : peqG P op t (.agg xs) (.agg ys) = some v) :
    ∃ u, VRel C v u ∧ (do eqGuard op t X Y p q; binOp op t p q : Sem Value).run P w = .ok u w := by
  unfold peqG at h
  split at h
  · rename_i hg
    split at h
    · rename_i b hb
      have he := peqT_sound (w := w) 12 9987 t _ _ _ _ b hx hy hb
      cases hx with
      | agg hlx hcx hRx =>
        cases hy with
        | agg hly hcy hRy =>
          cases op <;> simp only [peq] at h <;> first | (cases h; done) | skip
          · injection h with h; subst h
            refine ⟨_, .bool b, ?_⟩
            rw [Sem.run_bind, run_eqGuard_agg w _ _ _ _ _ _ hg, Result.andThen_ok, run_eql_struct]
            simp [he]
          · injection h with h; subst h
            refine ⟨_, .bool (!b), ?_⟩
            rw [Sem.run_bind, run_eqGuard_agg w _ _ _ _ _ _ hg, Result.andThen_ok, run_neq_struct]
            simp [he]
    · cases h
  · cases h

end Go.Proofs.Ytnjnikafhbholaa.Pm

namespace Go.Proofs.Ytnjnikafhbholaa.Pm
set_option linter.all false
set_option linter.unusedVariables false
set_option linter.unusedSimpArgs false
open Go.RowKit

variable {P : Program} {C : Ctx} {H : Heap} {w : World} {F : Nat → PV} {a : Act} {N : Nat}

theorem ascii_rel {n : Int} (h0 : 0 ≤ n) (h1 : n < 128) : VRel C (.str [UInt8.ofNat n.toNat]) (.string (Utf8.encode n)) := by
  have : (Utf8.encode n).data.toList = [UInt8.ofNat n.toNat] := by
    obtain ⟨m, rfl⟩ : ∃ m : Nat, n = m := ⟨n.toNat, by omega⟩
    have hm : m < 128 := by omega
    have hv : Utf8.valid (m : Int) = true := by simp [Utf8.valid]; omega
    unfold Utf8.encode
    simp only [hv, if_true]
    rw [if_pos (by omega)]
  rw [← this]
  exact .str _

/-- Two scalars of a type are equal, in the model. -/
theorem peqS_now {d : TypeDesc} {x y : PV} {p q : Value} {r : Bool} (hx : VRel C x p) (hy : VRel C y q) (h : peqS d x y = some r) : Instr.sameNow d p q = some r ∧ (r = true → Instr.sameBits 10000 q p = true) := by
  unfold peqS at h
  split at h
  · rename_i k0 k a k' b
    obtain rfl := inv_int hx
    obtain rfl := inv_int hy
    split at h
    · rename_i hk
      subst hk
      injection h with h
      subst h
      refine ⟨by simp [Instr.sameNow], fun hr => ?_⟩
      simp only [beq_iff_eq] at hr
      subst hr
      simp [Instr.sameBits]
    · cases h
  · rename_i a b
    obtain rfl := inv_bool hx
    obtain rfl := inv_bool hy
    injection h with h
    subst h
    refine ⟨by simp [Instr.sameNow], fun hr => ?_⟩
    simp only [beq_iff_eq] at hr
    subst hr
    simp [Instr.sameBits]
  · rename_i a b
    obtain ⟨s, rfl, rfl⟩ := inv_str hx
    obtain ⟨t, rfl, rfl⟩ := inv_str hy
    injection h with h
    subst h
    have key : (s == t) = (s.data.toList == t.data.toList) := by
      rw [Bool.eq_iff_iff, MapKept.bytes_beq, beq_iff_eq]
      constructor
      · rintro rfl; rfl
      · intro e; cases s; cases t; simp at e; simp [e]
    refine ⟨by simp [Instr.sameNow, key], fun hr => ?_⟩
    rw [← key, MapKept.bytes_beq] at hr
    subst hr
    exact (MapKept.bytes_beq s s).2 rfl
  · cases h

theorem inv_pair {a v : PV} {p q : Value} (h : VRel C (.tup [a, v]) (.tuple #[p, q])) : VRel C a p ∧ VRel C v q := by
  generalize hu : Value.tuple #[p, q] = u at h
  cases h with
  | @tup vs us hl hR =>
    have : us = [p, q] := by
      have := Value.tuple.inj hu
      simpa using (congrArg Array.toList this).symm
    subst this
    exact ⟨hR 0 a p rfl rfl, hR 1 v q rfl rfl⟩
theorem pair_rel {a v : PV} {p q : Value} (ha : VRel C a p) (hv : VRel C v q) : VRel C (.tup [a, v]) (.tuple #[p, q]) :=
  VRel.tup (us := [p, q]) rfl (fun j x u hx hu => by
    match j with
    | 0 => simp at hx hu; subst hx hu; exact ha
    | 1 => simp at hx hu; subst hx hu; exact hv
    | j + 2 => simp at hx)

theorem pfind_sound {d : TypeDesc} {k : PV} {p : Value} (hk : VRel C k p) : ∀ (xs : List PV) (es : List MapEntry) (i : Nat) (r : Option (Nat × PV)), es.length = xs.length → (∀ (j : Nat) (x : PV) (e : MapEntry), xs[j]? = some x → es[j]? = some e → VRel C x (.tuple #[e.key, e.val])) → pfind d k xs i = some r →
    match r with
    | none => Instr.findNow d p es i = some none
    | some (n, v) => ∃ e, i ≤ n ∧ es[n - i]? = some e ∧ Instr.findNow d p es i = some (some (n, e.val)) ∧ VRel C v e.val ∧ Instr.sameBits 10000 e.key p = true
  | [], [], i, r, _, _, h => by simp only [pfind, Option.some.injEq] at h; subst h; rfl
  | [], _ :: _, _, _, hl, _, _ => by simp at hl
  | _ :: _, [], _, _, hl, _, _ => by simp at hl
  | x :: xs, e :: es, i, r, hl, hR, h => by
    have hsh : (∃ a v, x = .tup [a, v]) ∨ pfind d k (x :: xs) i = none := by
      unfold pfind
      split
      · cases ‹_ :: _ = []›
      · rename_i h0; simp only [List.cons.injEq] at h0; exact .inl ⟨_, _, h0.1⟩
      · exact .inr rfl
    rcases hsh with ⟨a, v, rfl⟩ | hn
    · simp only [pfind] at h
      obtain ⟨ha, hv⟩ := inv_pair (hR 0 _ e rfl rfl)
      split at h
      · rename_i hq
        obtain ⟨n1, n2⟩ := peqS_now hk ha hq
        injection h with h
        subst h
        exact ⟨e, Nat.le_refl _, by simp, by simp [Instr.findNow, n1], hv, n2 rfl⟩
      · rename_i hq
        obtain ⟨n1, n2⟩ := peqS_now hk ha hq
        have ih := pfind_sound hk xs es (i + 1) r (by simpa using hl) (fun j x e hx he => hR (j + 1) x e (by simpa using hx) (by simpa using he)) h
        cases r with
        | none => simpa [Instr.findNow, n1] using ih
        | some r =>
          obtain ⟨n, v'⟩ := r
          obtain ⟨e', q1, q2, q3, q4, q5⟩ := ih
          refine ⟨e', by omega, ?_, by simpa [Instr.findNow, n1] using q3, q4, q5⟩
          rw [show n - i = (n - (i + 1)) + 1 by omega]
          simpa using q2
      · cases h
    · rw [hn] at h; cases h

theorem scalT_und {kt : TypeId} {d : TypeDesc} (h : scalT P kt = some d) : P.underlying kt = some d ∧ ((∃ k, d = .int k) ∨ d = .bool ∨ d = .string) := by
  unfold scalT at h
  split at h <;> first | (injection h with h; subst h; rename_i hu; exact ⟨hu, by simp⟩) | cases h
theorem check_key {kt : TypeId} {d : TypeDesc} (h : scalT P kt = some d) (e : Bool) (n : Nat) (k : Value) : (Instr.checkKey e (n + 1) kt k).run P w = .ok () w := by
  obtain ⟨hu, hd⟩ := scalT_und h
  unfold Instr.checkKey
  simp only [Sem.run_bind, run_underlying hu, Result.andThen]
  rcases hd with ⟨k', rfl⟩ | rfl | rfl <;> cases k <;> rfl

theorem pmapOf_sound {t : TypeId} {m : PV} {p : Value} {e : TypeId} {d : TypeDesc} {id : Nat} {b : Blk} (hw : WRel C H w) (hm : VRel C m p) (h : pmapOf P H t m = some (e, d, id, b)) :
    ∃ kt, P.underlying t = some (.map kt e) ∧ scalT P kt = some d ∧ H[id]? = some b ∧ ∃ bb es clock, p = .map (some bb) ∧ C.mu[id]? = some none ∧ C.cp[id]? = some (bb + 1) ∧ w.heap[bb]? = some (.map es clock) ∧ es.size = b.cells.length ∧
      ∀ (j : Nat) (x : PV) (e : MapEntry), b.cells[j]? = some x → es[j]? = some e → VRel C x (.tuple #[e.key, e.val]) := by
  unfold pmapOf at h
  split at h
  · rename_i kt e' id' ver hu
    split at h
    · rename_i d' b' hs hb
      split at h
      · rename_i hv
        simp only [Option.some.injEq, Prod.mk.injEq] at h
        obtain ⟨rfl, rfl, rfl, rfl⟩ := h
        have q := hw.ver _ _ hb
        rw [hv] at q
        obtain ⟨bb, h1, h2, rfl⟩ := inv_mp hw hm q
        rcases hw.gho _ _ hb h1 with ⟨h3, _⟩ | ⟨bb', es, clock, h3, _, h4, h5, h6⟩
        · rw [h2] at h3; injection h3 with h3; omega
        · rw [h2] at h3
          injection h3 with h3
          have : bb' = bb := by omega
          subst this
          exact ⟨kt, hu, hs, hb, bb', es, clock, rfl, h1, h2, h4, h5, h6⟩
      · cases h
    · cases h
  · cases h

theorem plook_sound {t : TypeId} {m k v : PV} {p q : Value} {ok : Bool} (hw : WRel C H w) (hm : VRel C m p) (hk : VRel C k q) (h : plook P H t m k ok = some v) : ∃ u, VRel C v u ∧ (Instr.lookup t p q ok).run P w = .ok u w := by
  unfold plook at h
  split at h
  · rename_i e d id b hmap
    obtain ⟨kt, hu, hs, hb, bb, es, clock, rfl, h1, h2, h3, h4, h5⟩ := pmapOf_sound hw hm hmap
    obtain ⟨hd, _⟩ := scalT_und hs
    have fs := fun r => pfind_sound (d := d) hk b.cells es.toList 0 r (by simpa using h4) (fun j x e hx he => h5 j x e hx (by simpa using he))
    have hbase : ∀ r, Instr.findNow d q es.toList 0 = some r → (Instr.lookup t (.map (some bb)) q ok).run P w = (do
        let (v, o) ← match r with
          | some (_, v) => pure (v, true)
          | none => do pure (← zeroValue e, false)
        pure (if ok then .tuple #[v, .bool o] else v) : Sem Value).run P w := fun r hr => by
      simp only [Instr.lookup, Sem.run_bind, run_underlying hu, Result.andThen_ok, MapKept.run_getObj_map h3, Sem.run_pure, check_key hs, MapKept.run_findKey hd hr]
      cases r <;> rfl
    split at h
    · rename_i n v' hf
      injection h with h
      subst h
      obtain ⟨e', _, _, q3, q4, _⟩ := fs _ hf
      rw [hbase _ q3]
      cases ok
      · exact ⟨e'.val, q4, by simp⟩
      · exact ⟨_, pair_rel q4 (.bool true), by simp⟩
    · rename_i hf
      have q3 := fs _ hf
      rw [hbase _ q3]
      split at h
      · rename_i z hz
        injection h with h
        subst h
        unfold zrT at hz
        cases hi : P.info? e with
        | none => simp [hi] at hz
        | some i =>
          cases hzz : i.zero with
          | none => simp [hi, hzz] at hz
          | some zv =>
            simp only [hi, hzz, Option.bind_some, Option.map_some, Option.some.injEq] at hz
            subst hz
            cases ok
            · exact ⟨zv, pvc_rel zv, by simp [zeroValue, typeInfo, hi, hzz]⟩
            · exact ⟨_, pair_rel (pvc_rel zv) (.bool false), by simp [zeroValue, typeInfo, hi, hzz]⟩
      · cases h
    · cases h
  · cases h

theorem pmset_sound {t : TypeId} {m k v : PV} {p q u : Value} {H' : Heap} (hw : WRel C H w) (hm : VRel C m p) (hk : VRel C k q) (hv : VRel C v u) (h : pmset P H t m k v = some H') :
    ∃ w', WRel C H' w' ∧ Below C.B w w' ∧ (Instr.mapUpdate t p q u).run P w = .ok () w' := by
  unfold pmset at h
  split at h
  · rename_i e d id b hmap
    obtain ⟨kt, hu, hs, hb, bb, es, clock, rfl, h1, h2, h3, h4, h5⟩ := pmapOf_sound hw hm hmap
    obtain ⟨hd, _⟩ := scalT_und hs
    have fs := fun r => pfind_sound (d := d) hk b.cells es.toList 0 r (by simpa using h4) (fun j x e hx he => h5 j x e hx (by simpa using he))
    split at h
    · rename_i n v' hf
      injection h with h
      subst h
      obtain ⟨e', _, q2, q3, q4, q5⟩ := fs _ hf
      simp only [Nat.sub_zero, Array.getElem?_toList] at q2
      have hn : n < es.size := (Array.getElem?_eq_some_iff.1 q2).1
      obtain ⟨c1, c2⟩ := hw.mapSet hb h1 h2 h3 (es.modify n fun e => { e with key := q, val := u }) clock (b.cells.set n (.tup [k, v])) (by simpa using h4) (fun j x e hx he => by
        rw [List.getElem?_set] at hx
        rw [Array.getElem?_modify] at he
        split at hx
        · rename_i hj; subst hj
          split at hx
          · injection hx with hx
            subst hx
            simp only [if_true, Option.map_eq_some_iff] at he
            obtain ⟨e0, _, rfl⟩ := he
            exact pair_rel hk hv
          · cases hx
        · rename_i hj
          rw [if_neg hj] at he
          exact h5 j x e hx he)
      refine ⟨_, c1, c2, ?_⟩
      simp only [Instr.mapUpdate, Sem.run_bind, run_underlying hu, Result.andThen_ok, MapKept.run_getObj_map h3, check_key hs, MapKept.run_findKey hd q3, q2, Option.map_some, Option.getD_some, Instr.keyThatStays, q5, if_true, Sem.run_pure, MapKept.run_setObj_map _ h3]
    · rename_i hf
      injection h with h
      subst h
      have q3 := fs _ hf
      obtain ⟨c1, c2⟩ := hw.mapSet hb h1 h2 h3 (es.push { key := q, val := u, born := clock }) (clock + 1) (b.cells ++ [.tup [k, v]]) (by simp [h4]) (fun j x e hx he => by
        rcases snoc_get hx with ⟨hj, hx⟩ | ⟨hj, hx⟩
        · rw [Array.getElem?_push, if_neg (by omega)] at he
          exact h5 j x e hx he
        · subst hx
          rw [Array.getElem?_push, if_pos (by omega)] at he
          injection he with he
          subst he
          exact pair_rel hk hv)
      refine ⟨_, c1, c2, ?_⟩
      simp only [Instr.mapUpdate, Sem.run_bind, run_underlying hu, Result.andThen_ok, MapKept.run_getObj_map h3, check_key hs, MapKept.run_findKey hd q3, MapKept.run_setObj_map _ h3]
    · cases h
  · cases h

end Go.Proofs.Ytnjnikafhbholaa.Pm

namespace Go.Proofs.Ytnjnikafhbholaa.Pm
set_option linter.all false
set_option linter.unusedVariables false
set_option linter.unusedSimpArgs false
open Go.RowKit

variable {P : Program} {C : Ctx} {H : Heap} {w : World} {F : Nat → PV} {a : Act} {N : Nat}

theorem pcopy_sound {t tx ty : TypeId} {d x v : PV} {p q : Value} {H' : Heap} (hw : WRel C H w) (hd : VRel C d p) (hx : VRel C x q) (h : pcopy P H t d x = some (v, H')) :
    ∃ C' u w', CLe C C' ∧ WRel C' H' w' ∧ Below C.B w w' ∧ VRel C' v u ∧ (Builtin.copy_ #[t, tx] ty #[p, q]).run P w = .ok u w' := by
  unfold pcopy at h
  split at h
  · rename_i e hu
    split at h
    · rename_i sz hn
      split at h
      · rename_i id ver off len sz' g
        split at h
        · rename_i k ys n hk hsc
          split at h
          · rename_i hq
            simp only [Option.some.injEq, Prod.mk.injEq] at h
            obtain ⟨rfl, rfl⟩ := h
            obtain ⟨hver, hfit⟩ := hq
            subst hver
            obtain ⟨ad, cap, us, rfl, hcap, hl, hyl, hR, hc, hat⟩ := scells_sound hw hx hsc
            have hgo : (∃ bb dcap off', C.mu[id]? = some (some bb) ∧ p = .slice (some ⟨bb, off', none⟩) len dcap ∧ (0 < len → off' = off)) ∨ ∃ ad, len = 0 ∧ p = .slice ad 0 0 := by
              obtain ⟨bb, dcap, off', q1, rfl, _, _, ho, _⟩ | ⟨ad, _, h0, rfl⟩ := inv_msl hw hd (hw.ver id k hk)
              · exact .inl ⟨bb, dcap, off', q1, rfl, ho⟩
              · exact .inr ⟨ad, h0, rfl⟩
            have hmn : min n len * sz ≤ n * sz := Nat.mul_le_mul_right _ (Nat.min_le_left _ _)
            have hml : min n len * sz ≤ len * sz := Nat.mul_le_mul_right _ (Nat.min_le_right _ _)
            have htl : (ys.take (min n len * sz)).length = min n len * sz := by simp; omega
            have hul : (us.take (min n len * sz)).length = min n len * sz := by simp; omega
            have hfirst : (Builtin.firstCells sz (min n len) (.slice ad n cap)).run P w = .ok (us.take (min n len * sz)).toArray w := by
              rcases hat with ⟨rfl, rfl⟩ | ⟨b, o, rfl, hat⟩
              · have e0 : min 0 len = 0 := Nat.zero_min len
                rw [e0]
                simpa using first_of (P := P) (w := w) (sz := sz) (n := 0) (cap := cap) (ad := ad) (us := []) (by simp) (.inl ⟨rfl, rfl⟩)
              · exact run_firstCells_some w sz (min n len) ⟨b, o, none⟩ n cap _ hul (fun j v hv => by rw [Addr.add_lit]; exact (hat.take _) j v hv)
            have hcc : ∀ x ∈ ys.take (min n len * sz), x.cell = true := fun x hx => hc x (List.mem_of_mem_take hx)
            rcases Nat.eq_zero_or_pos len with h0 | h0
            · subst h0
              have hp : ∃ base dcap, p = .slice base 0 dcap := by
                rcases hgo with ⟨bb, dcap, off', _, rfl, _⟩ | ⟨ad, _, rfl⟩
                · exact ⟨_, _, rfl⟩
                · exact ⟨_, _, rfl⟩
              obtain ⟨base, dcap, rfl⟩ := hp
              simp only [Nat.min_zero, Nat.zero_mul, List.take_zero] at *
              have hsp : splice k.cells off [] = k.cells := by simp [splice]
              rw [hsp]
              have hset : H.set id ⟨k.e, k.ver, k.cells⟩ = H := by
                apply List.ext_getElem?
                intro j
                rw [List.getElem?_set]
                split
                · rename_i hj; subst hj; split
                  · rw [hk]
                  · rename_i hj2; exact absurd (List.getElem?_eq_some_iff.1 hk).1 hj2
                · rfl
              rw [hset]
              refine ⟨C, _, w, .refl _, hw, .refl _ _, .int _ _, ?_⟩
              cases base <;> simp [Builtin.copy_, run_underlying hu, Builtin.lenOf, szT_run hn, hfirst, storeCells, goInt]
            · obtain ⟨bb, dcap, off', q1, rfl, ho⟩ | ⟨ad, h1, _⟩ := hgo
              rotate_left
              · omega
              obtain ⟨cur, q3, q5, q6, q7, q8, q9, q10⟩ := hw.blk hk q1
              obtain rfl := ho h0
              obtain ⟨C', w', c1, c2, c3, c4⟩ := hw.store (P := P) (off := off') hk q1 q5 (ys.take (min n len * sz)) (us.take (min n len * sz)) (by rw [hul, htl]) hcc (hR.take _) (by rw [htl]; omega)
              refine ⟨C', _, w', c1, c2, c3, .int _ _, ?_⟩
              have hmin : Nat.min n len = min n len := rfl
              simp [Builtin.copy_, run_underlying hu, Builtin.lenOf, szT_run hn, hmin, hfirst, c4, goInt]
          · cases h
        · cases h
      · rename_i xs full
        split at h
        · rename_i c hsc
          simp only [Option.some.injEq, Prod.mk.injEq] at h
          obtain ⟨rfl, rfl⟩ := h
          obtain ⟨ys, n⟩ := c
          obtain ⟨ad, cap, us, rfl, hcap, hl, hyl, hR, hc, hat⟩ := scells_sound hw hx hsc
          have hp : ∃ base dcap, p = .slice base 0 dcap := by
            cases hd with
            | slice => exact ⟨_, _, rfl⟩
            | sliceN => exact ⟨_, _, rfl⟩
          obtain ⟨base, dcap, rfl⟩ := hp
          refine ⟨C, _, w, .refl _, hw, .refl _ _, .int _ _, ?_⟩
          have hfirst : (Builtin.firstCells sz 0 (.slice ad n cap)).run P w = .ok #[] w := by
            rcases hat with ⟨rfl, rfl⟩ | ⟨b, o, rfl, hat⟩
            · exact first_of (w := w) (us := []) (by simp) (.inl ⟨rfl, rfl⟩)
            · exact run_firstCells_some w sz 0 ⟨b, o, none⟩ n cap [] (by simp) (fun j v hv => by simp at hv)
          have hmin : Nat.min n 0 = 0 := Nat.min_zero n
          cases base <;> simp [Builtin.copy_, run_underlying hu, Builtin.lenOf, szT_run hn, hmin, hfirst, goInt, storeCells]
        · cases h
      · cases h
    · cases h
  · cases h

theorem plen_sound {t ty : TypeId} {x v : PV} {q : Value} (hw : WRel C H w) (hx : VRel C x q) (h : plen P H t x = some v) : ∃ u, VRel C v u ∧ (Builtin.len_ #[t] ty #[q]).run P w = .ok u w := by
  unfold plen at h
  split at h
  · rename_i s hu
    injection h with h
    subst h
    obtain ⟨s', rfl, rfl⟩ := inv_str hx
    have hsz : s'.size = s'.data.toList.length := by rw [Array.length_toList]; rfl
    refine ⟨_, .int _ _, ?_⟩
    rw [← hsz]
    simp [Builtin.len_, run_underlying hu, goInt]
  · rename_i n e hu
    injection h with h
    subst h
    exact ⟨_, .int _ _, by simp [Builtin.len_, run_underlying hu, goInt]⟩
  · rename_i e xs n full hu
    injection h with h
    subst h
    refine ⟨_, .int _ _, ?_⟩
    cases hx <;> simp [Builtin.len_, run_underlying hu, goInt]
  · rename_i e id ver off n sz g hu
    split at h
    · rename_i hlv
      injection h with h
      subst h
      obtain ⟨b, cap, off', hb', rfl, _⟩ | ⟨ad, _, h0, rfl⟩ := inv_msl hw hx (live_vs hw hlv).1
      · exact ⟨_, .int _ _, by simp [Builtin.len_, run_underlying hu, goInt]⟩
      · subst h0; exact ⟨_, .int _ _, by simp [Builtin.len_, run_underlying hu, goInt]⟩
    · cases h
  · cases h

theorem pfold_sound {f : PV → PV → Option PV} {g : Value → Value → Sem Value} (hf : ∀ x y z p q, VRel C x p → VRel C y q → f x y = some z → ∃ u, VRel C z u ∧ (g p q).run P w = .ok u w) :
    ∀ (xs : List PV) (us : List Value) (x v : PV) (p : Value), VRels C xs us → VRel C x p → pfold f x xs = some v → ∃ u, VRel C v u ∧ (us.foldlM g p).run P w = .ok u w
  | [], us, x, v, p, hr, hx, h => by
    have : us = [] := List.eq_nil_of_length_eq_zero (by simpa using hr.1)
    subst this
    simp only [pfold, Option.some.injEq] at h
    subst h
    exact ⟨p, hx, by simp⟩
  | y :: ys, [], x, v, p, hr, _, _ => by simp [VRels] at hr
  | y :: ys, u :: us, x, v, p, hr, hx, h => by
    simp only [pfold] at h
    split at h
    · rename_i z hz
      obtain ⟨u', hu', hr'⟩ := hf x y z p u hx (hr.2 0 y u rfl rfl) hz
      obtain ⟨v', hv', hrv⟩ := pfold_sound hf ys us z v u' ⟨by simpa using hr.1, fun j x u hx hu => hr.2 (j + 1) x u (by simpa using hx) (by simpa using hu)⟩ hu' h
      exact ⟨v', hv', by simp [List.foldlM_cons, hr', hrv]⟩
    · cases h

theorem pmin_sound (x y z : PV) (p q : Value) (hx : VRel C x p) (hy : VRel C y q) (h : pmin x y = some z) : ∃ u, VRel C z u ∧ (Builtin.min2 p q).run P w = .ok u w := by
  unfold pmin at h
  split at h
  · obtain rfl := inv_int hx
    obtain rfl := inv_int hy
    injection h with h
    subst h
    exact ⟨_, .int _ _, by simp [Builtin.min2]⟩
  · cases h
theorem pmax_sound (x y z : PV) (p q : Value) (hx : VRel C x p) (hy : VRel C y q) (h : pmax x y = some z) : ∃ u, VRel C z u ∧ (Builtin.max2 p q).run P w = .ok u w := by
  unfold pmax at h
  split at h
  · obtain rfl := inv_int hx
    obtain rfl := inv_int hy
    injection h with h
    subst h
    exact ⟨_, .int _ _, by simp [Builtin.max2]⟩
  · cases h

/-! ### []byte to string -/
theorem pbytes_ints : ∀ (xs : List PV) (s : List UInt8), pbytes xs = some s → ∃ ns : List Int, xs = ns.map (PV.int .u8) ∧ s = ns.map fun n => UInt8.ofNat n.toNat
  | [], s, h => by simp [pbytes] at h; subst h; exact ⟨[], rfl, rfl⟩
  | x :: xs, s, h => by
    simp only [pbytes, List.mapM_cons, Option.bind_eq_bind, Option.pure_def, Option.bind_eq_some_iff, Option.some.injEq] at h
    obtain ⟨b, hb, s', hs', rfl⟩ := h
    obtain ⟨ns, rfl, rfl⟩ := pbytes_ints xs s' hs'
    unfold byteOf at hb
    split at hb
    · rename_i n
      injection hb with hb
      subst hb
      exact ⟨n :: ns, rfl, rfl⟩
    · cases hb

theorem foldl_push : ∀ (ns : List Int) (s : ByteArray), (ns.foldl (fun r n => r.push (UInt8.ofNat n.toNat)) s).data.toList = s.data.toList ++ ns.map fun n => UInt8.ofNat n.toNat
  | [], s => by simp
  | n :: ns, s => by
    rw [List.foldl_cons, foldl_push ns]
    simp [ByteArray.push]

theorem rel_ints : ∀ (ns : List Int) (us : List Value), us.length = ns.length → Rel C (ns.map (PV.int .u8)) us → us = ns.map (Value.int .u8)
  | [], us, h, _ => List.eq_nil_of_length_eq_zero (by simpa using h)
  | n :: ns, [], h, _ => by simp at h
  | n :: ns, u :: us, h, hr => by
    have h0 := inv_int (hr 0 _ u rfl rfl)
    subst h0
    rw [rel_ints ns us (by simpa using h) (fun j x u hx hu => hr (j + 1) x u (by simpa using hx) (by simpa using hu))]
    rfl

theorem pconv_sound {src dst : TypeId} {x v : PV} {q : Value} (hw : WRel C H w) (hx : VRel C x q) (h : pconv P H src dst x = some v) : ∃ u, VRel C v u ∧ (convert src dst q).run P w = .ok u w := by
  unfold pconv at h
  split at h
  · rename_i d k kk n hs hd
    injection h with h
    subst h
    obtain rfl := inv_int hx
    exact ⟨_, .int _ _, by simp [convert, run_underlying hs, run_underlying hd, Conv.intToInt]⟩
  · rename_i d s hs hd
    injection h with h
    subst h
    obtain ⟨s', rfl, rfl⟩ := inv_str hx
    exact ⟨_, .str _, by simp [convert, run_underlying hs, run_underlying hd]⟩
  · rename_i d k n hs hd
    split at h
    · rename_i hn
      injection h with h
      subst h
      obtain rfl := inv_int hx
      refine ⟨_, ascii_rel hn.1 hn.2, by simp [convert, run_underlying hs, run_underlying hd, Conv.intToString]⟩
    · cases h
  · rename_i e hs hd _ _
    split at h
    · rename_i he
      simp only [Option.bind_eq_some_iff, Option.map_eq_some_iff] at h
      obtain ⟨⟨ys, n⟩, hsc, s, hb, rfl⟩ := h
      obtain ⟨ad, cap, us, rfl, hcap, hl, hyl, hR, hc, hat⟩ := scells_sound hw hx hsc
      obtain ⟨ns, hys, rfl⟩ := pbytes_ints ys s hb
      subst hys
      have hus := rel_ints ns us (by simpa using hl) hR
      subst hus
      rw [run_convert_bytes_string w src dst e ad n cap hs he hd]
      rcases hat with ⟨rfl, h3⟩ | ⟨b, o, rfl, hat⟩
      · have hns : ns = [] := by simpa using h3
        subst hns
        refine ⟨.string .empty, VRel.str (C := C) ByteArray.empty, ?_⟩
        cases ad with
        | none => simp [Conv.bytesToString]
        | some a => exact run_bytesToString w a 0 cap [] rfl
      · have hld := hat.load (P := P)
        rw [show (ns.map (Value.int .u8)).length = n by simp at hyl ⊢; omega] at hld
        refine ⟨_, ?_, run_bytesToString w ⟨b, o, none⟩ n cap ns hld⟩
        have := VRel.str (C := C) (ns.foldl (fun r n => r.push (UInt8.ofNat n.toNat)) ByteArray.empty)
        rw [foldl_push] at this
        exact this
    · cases h
  · cases h

theorem pnilcmp_sound {op : BinOp} {t : TypeId} {x v : PV} (X Y : Operand) (hw : WRel C H w) (hx : VRel C x (a.eval X)) (hy : isNilSl Y = true) (h : pnilcmp P H op t x = some v) :
    ∃ u, VRel C v u ∧ (do eqGuard op t X Y (a.eval X) (a.eval Y); binOp op t (a.eval X) (a.eval Y) : Sem Value).run P w = .ok u w := by
  have hY : a.eval Y = .slice none 0 0 := by
    cases Y with
    | const c =>
      simp only [isNilSl] at hy
      unfold isNilV at hy
      split at hy
      · simp only [Bool.and_eq_true] at hy
        rw [Nat.eq_of_beq_eq_true hy.1, Nat.eq_of_beq_eq_true hy.2]
        rfl
      · cases hy
    | _ => simp [isNilSl] at hy
  rw [hY]
  generalize a.eval X = p at hx ⊢
  unfold pnilcmp at h
  split at h
  · rename_i e hu
    have key : ∃ ad l c, p = .slice (some ad) l c ∧ peq op false = some v := by
      split at h
      · split at h
        · rename_i n f hn
          cases hx with
          | slice => exact ⟨_, _, _, rfl, h⟩
          | sliceN => omega
        · cases h
      · split at h
        · rename_i id ver off n sz g hn
          obtain ⟨b, cap, off', hb', rfl, _⟩ | ⟨ad, _, h0, rfl⟩ := inv_msl hw hx (live_vs hw hn.2).1
          · exact ⟨_, _, _, rfl, h⟩
          · omega
        · cases h
      · cases h
    obtain ⟨ad, l, c, rfl, hp⟩ := key
    have heqn : ∀ n, (Op.equalIn (n + 1) t (.slice (some ad) l c) (.slice none 0 0)).run P w = .ok false w := fun n => by
      unfold Op.equalIn
      simp only [Sem.run_bind, run_underlying hu, Result.andThen_ok]
      rfl
    have heq : (Op.equal t (.slice (some ad) l c) (.slice none 0 0)).run P w = .ok false w := heqn 9999
    obtain ⟨u, hu', hr⟩ := peq_sound (P := P) (C := C) (w := w) hp heq (fun o ho => by rcases ho with rfl | rfl <;> rfl)
    refine ⟨u, hu', ?_⟩
    have hg : (eqGuard op t X Y (.slice (some ad) l c) (.slice none 0 0)).run P w = .ok () w := by
      cases op <;> simp [eqGuard]
    rw [Sem.run_bind, hg, Result.andThen_ok, hr]
  · cases h

theorem pnil_sound {x v : PV} {o : Oper} {X : Operand} (hw : WRel C H w) (hx : VRel C x (a.eval X)) (ho : o.op = .nilCheck X) (h : pnil H x = some v) : OpOk P o a w C v H := by
  unfold pnil at h
  split at h
  · rename_i id ver off
    split at h
    · rename_i hlv
      injection h with h
      subst h
      obtain ⟨b, hb, he⟩ := inv_ptr hw hx (live_vs hw hlv).1
      exact .pure hw hx (by simp [execOp, ho, he])
    · cases h
  · injection h with h
    subst h
    refine .pure hw hx ?_
    generalize hq : a.eval X = u at hx ⊢
    cases hx
    simp [execOp, ho, hq]
  · injection h with h
    subst h
    refine .pure hw hx ?_
    generalize hq : a.eval X = u at hx ⊢
    cases hx
    simp [execOp, ho, hq]
  · cases h

theorem pbuiltin_sound {b : Builtin} {ts : Array TypeId} {args : Array Operand} {v : PV} {H' : Heap} {o : Oper} (hw : WRel C H w) (hF : FRel C N F a) (ho : o.op = .call { callee := .builtin b, args := args, argTypes := ts })
    (h : pbuiltin P H b ts.toList (args.toList.map (ev F)) = some (v, H')) : OpOk P o a w C v H' := by
  have hargs := evs_rel hF args.toList
  have hex : ∀ (s : Sem Value), (∀ cs, builtin b ts o.type cs (args.map a.eval) = (do pure (.value (← s)))) → (execOp a.eval o).run P w = (s.run P w).andThen fun u w' => .ok (.value u) w' := fun s hs => by
    simp only [execOp, ho, resolve, invoke, Sem.run_bind, Sem.run_pure, Result.andThen_ok, hs]
  unfold pbuiltin at h
  generalize hts : ts.toList = tl at h
  generalize hal : args.toList.map (ev F) = al at h hargs
  have hts' : ts = tl.toArray := by rw [← hts]
  have hav : args.map a.eval = (args.toList.map a.eval).toArray := by apply Array.ext'; simp
  generalize args.toList.map a.eval = vl at hargs hav
  split at h
  · rename_i t x
    simp only [Option.map_eq_some_iff, Prod.mk.injEq] at h
    obtain ⟨v', hv', rfl, rfl⟩ := h
    match vl, hargs with
    | [q], hargs =>
      obtain ⟨u, hu, hr⟩ := plen_sound (ty := o.type) hw (hargs.2 0 x q rfl rfl) hv'
      exact .pure hw hu (by rw [hex (Builtin.len_ ts o.type (args.map a.eval)) (fun _ => rfl), hts', hav, hr]; rfl)
    | [], hargs => simp [VRels] at hargs
    | _ :: _ :: _, hargs => simp [VRels] at hargs
  · rename_i t tx s x
    match vl, hargs with
    | [p, q], hargs =>
      obtain ⟨C', u, w', c1, c2, c3, c4, hr⟩ := pappend_sound (ty := o.type) hw (hargs.2 0 s p rfl rfl) (hargs.2 1 x q rfl rfl) h
      exact ⟨C', u, w', c1, c2, c3, c4, .inl (by rw [hex (Builtin.append_ ts o.type (args.map a.eval)) (fun _ => rfl), hts', hav, hr]; rfl)⟩
    | [], hargs => simp [VRels] at hargs
    | [_], hargs => simp [VRels] at hargs
    | _ :: _ :: _ :: _, hargs => simp [VRels] at hargs
  · rename_i t tx s x
    match vl, hargs with
    | [p, q], hargs =>
      obtain ⟨C', u, w', c1, c2, c3, c4, hr⟩ := pcopy_sound (tx := tx) (ty := o.type) hw (hargs.2 0 s p rfl rfl) (hargs.2 1 x q rfl rfl) h
      exact ⟨C', u, w', c1, c2, c3, c4, .inl (by rw [hex (Builtin.copy_ ts o.type (args.map a.eval)) (fun _ => rfl), hts', hav, hr]; rfl)⟩
    | [], hargs => simp [VRels] at hargs
    | [_], hargs => simp [VRels] at hargs
    | _ :: _ :: _ :: _, hargs => simp [VRels] at hargs
  · rename_i x r
    simp only [Option.map_eq_some_iff, Prod.mk.injEq] at h
    obtain ⟨v', hv', rfl, rfl⟩ := h
    match vl, hargs with
    | q :: us, hargs =>
      obtain ⟨u, hu, hr⟩ := pfold_sound (P := P) (w := w) pmin_sound r us x _ q ⟨by simpa using hargs.1, fun j x u hx hu => hargs.2 (j + 1) x u (by simpa using hx) (by simpa using hu)⟩ (hargs.2 0 x q rfl rfl) hv'
      exact .pure hw hu (by rw [hex (Builtin.min_ ts o.type (args.map a.eval)) (fun _ => rfl), hav]; simp [Builtin.min_, hr])
    | [], hargs => simp [VRels] at hargs
  · rename_i x r
    simp only [Option.map_eq_some_iff, Prod.mk.injEq] at h
    obtain ⟨v', hv', rfl, rfl⟩ := h
    match vl, hargs with
    | q :: us, hargs =>
      obtain ⟨u, hu, hr⟩ := pfold_sound (P := P) (w := w) pmax_sound r us x _ q ⟨by simpa using hargs.1, fun j x u hx hu => hargs.2 (j + 1) x u (by simpa using hx) (by simpa using hu)⟩ (hargs.2 0 x q rfl rfl) hv'
      exact .pure hw hu (by rw [hex (Builtin.max_ ts o.type (args.map a.eval)) (fun _ => rfl), hav]; simp [Builtin.max_, hr])
    | [], hargs => simp [VRels] at hargs
  · cases h

theorem orel_ev (hF : FRel C N F a) (x : Option Operand) : ORel C (x.map (ev F)) (x.map a.eval) := by
  cases x with
  | none => trivial
  | some x => exact ev_rel hF x

/-- ████ EVERY OPERATION DOES WHAT 'pop' SAYS. ████ -/
theorem pop_sound {o : Oper} {v : PV} {H' : Heap} (hw : WRel C H w) (hF : FRel C N F a) (h : pop P o.op F H = some (v, H')) : OpOk P o a w C v H' := by
  unfold pop at h
  split at h
  case h_1 x ho => simp only [Option.some.injEq, Prod.mk.injEq] at h; obtain ⟨rfl, rfl⟩ := h; exact .pure hw (ev_rel hF x) (by simp [execOp, ho])
  case h_2 x ho => simp only [Option.some.injEq, Prod.mk.injEq] at h; obtain ⟨rfl, rfl⟩ := h; exact .pure hw (ev_rel hF x) (by simp [execOp, ho])
  case h_3 c x y ho =>
    have hc := ev_rel hF c
    have hx := ev_rel hF x
    have hy := ev_rel hF y
    split at h
    · rename_i t p q ec ex ey
      simp only [Option.some.injEq, Prod.mk.injEq] at h
      obtain ⟨rfl, rfl⟩ := h
      rw [ec] at hc
      rw [ex] at hx
      rw [ey] at hy
      have hc' := inv_bool hc
      have hx' := inv_bool hx
      have hy' := inv_bool hy
      refine .pure hw (.bool _) ?_
      cases t <;> simp [execOp, ho, asBool, hc', hx', hy']
    · rename_i t ec _
      simp only [Option.some.injEq, Prod.mk.injEq] at h
      obtain ⟨rfl, rfl⟩ := h
      rw [ec] at hc
      have hc' := inv_bool hc
      cases t
      · exact .pure hw hy (by simp [execOp, ho, asBool, hc'])
      · exact .pure hw hx (by simp [execOp, ho, asBool, hc'])
    · cases h
  case h_4 elem x ho =>
    split at h
    · rename_i hall
      simp only [Option.some.injEq, Prod.mk.injEq] at h
      obtain ⟨rfl, rfl⟩ := h
      obtain ⟨hr, hl⟩ := cells_rel hall (ev_rel hF x)
      obtain ⟨c1, c2, c3⟩ := hw.allocOwn (a.eval x).cells elem (ev F x).cells 0 (fun x hx => List.all_eq_true.1 hall x hx) (by rw [← hl]; simp) (fun j x u hx hu => hr j x u hx (by simpa using hu))
      refine ⟨_, .pointer (some ⟨w.heap.size, 0, none⟩), _, c1, c2, c3, .ptr (by simp [Ctx.more, ← hw.len]) (by simp [Ctx.more, ← hw.lenv]), .inl ?_⟩
      simp [execOp, ho, Instr.box, newVar, newRow]
    · cases h
  case h_5 elem ho =>
    simp only [Option.map_eq_some_iff, Prod.mk.injEq] at h
    obtain ⟨z, hz, rfl, rfl⟩ := h
    obtain ⟨i, zv, hi, hzv, hzr, hzl, hzc⟩ := zcells_of hz
    obtain ⟨c1, c2, c3⟩ := hw.allocOwn zv.cells elem z 0 hzc (by rw [← hzl]; simp) (fun j x u hx hu => hzr C j x u hx (by simpa using hu))
    refine ⟨_, .pointer (some ⟨w.heap.size, 0, none⟩), _, c1, c2, c3, .ptr (by simp [Ctx.more, ← hw.len]) (by simp [Ctx.more, ← hw.lenv]), .inl ?_⟩
    simp [execOp, ho, Instr.alloc, newVar, newRow, zeroValue, typeInfo, hi, hzv]
  case h_6 t parts ho =>
    simp only [Option.map_eq_some_iff, Prod.mk.injEq] at h
    obtain ⟨v', hv', rfl, rfl⟩ := h
    obtain ⟨hl, hp⟩ := parts_rel hF parts
    obtain ⟨u, hu, hr⟩ := pbuild_sound (P := P) (w := w) hl hp hv'
    exact .pure hw hu (by simp only [execOp, ho, Sem.run_bind, hr, Result.andThen_ok, Sem.run_pure])
  case h_7 t len parts ho =>
    simp only [Option.map_eq_some_iff, Prod.mk.injEq] at h
    obtain ⟨v', hv', rfl, rfl⟩ := h
    obtain ⟨hl, hp⟩ := parts_rel hF parts
    obtain ⟨C', u, w', c1, c2, c3, c4, hr⟩ := pbuildSlice_sound (P := P) hw hl hp hv'
    exact ⟨C', u, w', c1, c2, c3, c4, .inl (by simp only [execOp, ho, Sem.run_bind, hr, Result.andThen_ok, Sem.run_pure])⟩
  case h_8 t x ho =>
    simp only [Option.map_eq_some_iff, Prod.mk.injEq] at h
    obtain ⟨v', hv', rfl, rfl⟩ := h
    obtain ⟨u, hu, hr⟩ := pload_sound (P := P) hw (ev_rel hF x) hv'
    exact .pure hw hu (by simp only [execOp, ho, Sem.run_bind, hr, Result.andThen_ok, Sem.run_pure])
  case h_9 t x y ho =>
    simp only [Option.map_eq_some_iff, Prod.mk.injEq] at h
    obtain ⟨H2, hv', rfl, rfl⟩ := h
    obtain ⟨C', w', c1, c2, c3, hr⟩ := pstore_sound (P := P) hw (ev_rel hF x) (ev_rel hF y) hv'
    exact ⟨C', _, w', c1, c2, c3, .undefV, .inr ⟨by simp only [execOp, ho, Sem.run_bind, hr, Result.andThen_ok, Sem.run_pure], rfl⟩⟩
  case h_10 x ho =>
    simp only [Option.map_eq_some_iff, Prod.mk.injEq] at h
    obtain ⟨v', hv', rfl, rfl⟩ := h
    exact pnil_sound hw (ev_rel hF x) ho hv'
  case h_11 op t x y t' ho =>
    split at h
    · rename_i hnil
      simp only [Option.map_eq_some_iff, Prod.mk.injEq] at h
      obtain ⟨v', hv', rfl, rfl⟩ := h
      obtain ⟨u, hu, hr⟩ := pnilcmp_sound (P := P) x y hw (ev_rel hF x) hnil hv'
      exact .pure hw hu (by simp only [execOp, ho]; rw [Sem.run_bind, hr]; rfl)
    split at h
    · rename_i xs ys hxe hye
      simp only [Option.map_eq_some_iff, Prod.mk.injEq] at h
      obtain ⟨v', hv', rfl, rfl⟩ := h
      obtain ⟨u, hu, hr⟩ := peqG_sound (P := P) (w := w) x y (hxe ▸ ev_rel hF x) (hye ▸ ev_rel hF y) hv'
      exact .pure hw hu (by simp only [execOp, ho]; rw [Sem.run_bind, hr]; rfl)
    · simp only [Option.map_eq_some_iff, Prod.mk.injEq] at h
      obtain ⟨v', hv', rfl, rfl⟩ := h
      obtain ⟨u, hu, hr⟩ := pbin_sound (P := P) x y hw (ev_rel hF x) (ev_rel hF y) hv'
      exact .pure hw hu (by simp only [execOp, ho]; rw [Sem.run_bind, hr]; rfl)
  case h_12 op t x ho =>
    simp only [Option.map_eq_some_iff, Prod.mk.injEq] at h
    obtain ⟨v', hv', rfl, rfl⟩ := h
    obtain ⟨u, hu, hr⟩ := pun_sound (P := P) (w := w) (ev_rel hF x) hv'
    exact .pure hw hu (by simp only [execOp, ho, Sem.run_bind, hr, Result.andThen_ok, Sem.run_pure])
  case h_13 src dst x ho =>
    simp only [Option.map_eq_some_iff, Prod.mk.injEq] at h
    obtain ⟨v', hv', rfl, rfl⟩ := h
    obtain ⟨u, hu, hr⟩ := pconv_sound (P := P) hw (ev_rel hF x) hv'
    exact .pure hw hu (by simp only [execOp, ho, Sem.run_bind, hr, Result.andThen_ok, Sem.run_pure])
  case h_14 f first captured ho =>
    simp only [Option.some.injEq, Prod.mk.injEq] at h
    obtain ⟨rfl, rfl⟩ := h
    obtain ⟨hl1, hr1⟩ := evs_rel hF first.toList
    obtain ⟨hl2, hr2⟩ := evs_rel hF captured.toList
    refine .pure hw (.func hl1 hl2 hr1 hr2) ?_
    simp only [execOp, ho, Instr.makeFunc, Sem.run_bind, Sem.run_pure, Result.andThen_ok]
    congr 3
    · apply Array.ext'; simp
    · apply Array.ext'; simp
  case h_15 t l c ho =>
    obtain ⟨C', u, w', c1, c2, c3, c4, hr⟩ := pmake_sound (P := P) hw (ev_rel hF l) (ev_rel hF c) h
    exact ⟨C', u, w', c1, c2, c3, c4, .inl (by simp only [execOp, ho, Sem.run_bind, hr, Result.andThen_ok, Sem.run_pure])⟩
  case h_16 t x lo hi mx ho =>
    simp only [Option.map_eq_some_iff, Prod.mk.injEq] at h
    obtain ⟨v', hv', rfl, rfl⟩ := h
    obtain ⟨u, hu, hr⟩ := pslice_sound (P := P) hw (ev_rel hF x) (orel_ev hF lo) (orel_ev hF hi) (orel_ev hF mx) hv'
    exact .pure hw hu (by simp only [execOp, ho, Sem.run_bind, hr, Result.andThen_ok, Sem.run_pure])
  case h_17 s x f ho =>
    simp only [Option.map_eq_some_iff, Prod.mk.injEq] at h
    obtain ⟨v', hv', rfl, rfl⟩ := h
    obtain ⟨u, hu, hr⟩ := pfieldAddr_sound (P := P) hw (ev_rel hF x) hv'
    exact .pure hw hu (by simp only [execOp, ho, Sem.run_bind, hr, Result.andThen_ok, Sem.run_pure])
  case h_18 s x f ho =>
    simp only [Option.map_eq_some_iff, Prod.mk.injEq] at h
    obtain ⟨v', hv', rfl, rfl⟩ := h
    obtain ⟨u, hu, hr⟩ := pfield_sound (P := P) (w := w) (ev_rel hF x) hv'
    exact .pure hw hu (by simp only [execOp, ho, Sem.run_bind, hr, Result.andThen_ok, Sem.run_pure])
  case h_19 t x i ho =>
    simp only [Option.map_eq_some_iff, Prod.mk.injEq] at h
    obtain ⟨v', hv', rfl, rfl⟩ := h
    obtain ⟨u, hu, hr⟩ := pindexAddr_sound (P := P) hw (ev_rel hF x) (ev_rel hF i) hv'
    exact .pure hw hu (by simp only [execOp, ho, Sem.run_bind, hr, Result.andThen_ok, Sem.run_pure])
  case h_20 t x i ho =>
    simp only [Option.map_eq_some_iff, Prod.mk.injEq] at h
    obtain ⟨v', hv', rfl, rfl⟩ := h
    obtain ⟨u, hu, hr⟩ := pindex_sound (P := P) (w := w) (ev_rel hF x) (ev_rel hF i) hv'
    exact .pure hw hu (by simp only [execOp, ho, Sem.run_bind, hr, Result.andThen_ok, Sem.run_pure])
  case h_21 t ho =>
    simp only [Option.some.injEq, Prod.mk.injEq] at h
    obtain ⟨rfl, rfl⟩ := h
    obtain ⟨c1, c2, c3⟩ := hw.allocMap t 0
    refine ⟨_, .map (some w.heap.size), _, c1, c2, c3, .mp (by simp [Ctx.more, ← hw.len]) (by simp [Ctx.more, ← hw.lenv]) (by simp [Ctx.more, ← hw.lenc]), .inl ?_⟩
    simp only [execOp, ho, Option.map_none, Instr.makeMap]
    rfl
  case h_22 t m k ok ho =>
    simp only [Option.map_eq_some_iff, Prod.mk.injEq] at h
    obtain ⟨v', hv', rfl, rfl⟩ := h
    obtain ⟨u, hu, hr⟩ := plook_sound (P := P) hw (ev_rel hF m) (ev_rel hF k) hv'
    exact .pure hw hu (by simp only [execOp, ho, Sem.run_bind, hr, Result.andThen_ok, Sem.run_pure])
  case h_23 t m k x ho =>
    simp only [Option.map_eq_some_iff, Prod.mk.injEq] at h
    obtain ⟨H2, hv', rfl, rfl⟩ := h
    obtain ⟨w', c2, c3, hr⟩ := pmset_sound (P := P) hw (ev_rel hF m) (ev_rel hF k) (ev_rel hF x) hv'
    exact ⟨C, _, w', .refl _, c2, c3, .undefV, .inr ⟨by simp only [execOp, ho, Sem.run_bind, hr, Result.andThen_ok, Sem.run_pure], rfl⟩⟩
  case h_24 t m k x ho =>
    simp only [Option.map_eq_some_iff, Prod.mk.injEq] at h
    obtain ⟨H2, hv', rfl, rfl⟩ := h
    obtain ⟨w', c2, c3, hr⟩ := pmset_sound (P := P) hw (ev_rel hF m) (ev_rel hF k) (ev_rel hF x) hv'
    exact ⟨C, _, w', .refl _, c2, c3, .undefV, .inr ⟨by simp only [execOp, ho, Sem.run_bind, hr, Result.andThen_ok, Sem.run_pure], rfl⟩⟩
  case h_25 x i ho =>
    have hx := ev_rel hF x
    split at h
    · rename_i vs ex
      simp only [Option.map_eq_some_iff, Prod.mk.injEq] at h
      obtain ⟨v', hv', rfl, rfl⟩ := h
      rw [ex] at hx
      generalize hq : a.eval x = q at hx
      cases hx with
      | @tup _ us hl hR =>
        have hlt : i < us.length := by
          have := (List.getElem?_eq_some_iff.1 hv').1
          omega
        refine .pure hw (hR i _ us[i] hv' (List.getElem?_eq_getElem hlt)) ?_
        simp [execOp, ho, Instr.extract, hq, List.getElem?_eq_getElem hlt]
    · cases h
  case h_26 b args ts ho => exact pbuiltin_sound hw hF ho h
  case h_27 => cases h

end Go.Proofs.Ytnjnikafhbholaa.Pm

namespace Go.Proofs.Ytnjnikafhbholaa.Pm
set_option linter.all false
set_option linter.unusedVariables false
set_option linter.unusedSimpArgs false
open Go.RowKit

variable {P : Program} {C : Ctx} {H : Heap} {w : World} {F : Fr} {a : Act} {N : Nat}

/-- Does a call of it enter a body? -/
def callable (P : Program) (f : FuncId) : Bool := match P.funcs[f]? with | some fn => fn.body.isSome && !(fn.name == "runtime.NumGoroutine") | none => false

/-- ████ THE CONTRACT: called with 'args' over the abstract heap H, function f returns v and leaves H'. ████ -/
def CallOk (P : Program) (f : FuncId) (args : List PV) (H : Heap) (v : PV) (H' : Heap) : Prop :=
  callable P f = true ∧ ∀ (C : Ctx) (us : List Value) (w : World), WRel C H w → VRels C args us →
    Calls P f us.toArray w fun e w' => ∃ C' u, CLe C C' ∧ WRel C' H' w' ∧ Below C.B w w' ∧ e = .returned u ∧ VRel C' v u

/-- The same with more than one outcome: each of them satisfies R. -/
def CallEx (P : Program) (f : FuncId) (args : List PV) (H : Heap) (R : PV → Heap → Prop) : Prop :=
  callable P f = true ∧ ∀ (C : Ctx) (us : List Value) (w : World), WRel C H w → VRels C args us →
    Calls P f us.toArray w fun e w' => ∃ C' u v H', R v H' ∧ CLe C C' ∧ WRel C' H' w' ∧ Below C.B w w' ∧ e = .returned u ∧ VRel C' v u
theorem CallOk.toEx {f : FuncId} {args : List PV} {v : PV} {H' : Heap} (h : CallOk P f args H v H') : CallEx P f args H (fun v' H'' => v' = v ∧ H'' = H') :=
  ⟨h.1, fun C us w hw hu => (h.2 C us w hw hu).mono fun e w' ⟨C', u, q1, q2, q3, q4, q5⟩ => ⟨C', u, v, H', ⟨rfl, rfl⟩, q1, q2, q3, q4, q5⟩⟩
theorem CallEx.one {f : FuncId} {args : List PV} {v : PV} {H' : Heap} (h : CallEx P f args H (fun v' H'' => v' = v ∧ H'' = H')) : CallOk P f args H v H' :=
  ⟨h.1, fun C us w hw hu => (h.2 C us w hw hu).mono fun e w' ⟨C', u, v', H'', ⟨e1, e2⟩, q1, q2, q3, q4, q5⟩ => ⟨C', u, q1, e2 ▸ q2, q3, q4, e1 ▸ q5⟩⟩
theorem CallEx.mono {f : FuncId} {args : List PV} {R R' : PV → Heap → Prop} (h : CallEx P f args H R) (hr : ∀ v H', R v H' → R' v H') : CallEx P f args H R' :=
  ⟨h.1, fun C us w hw hu => (h.2 C us w hw hu).mono fun e w' ⟨C', u, v', H'', q0, q1, q2, q3, q4, q5⟩ => ⟨C', u, v', H'', hr _ _ q0, q1, q2, q3, q4, q5⟩⟩

theorem run_callFunc {f : FuncId} {args : Array Value} (h : callable P f = true) : (callFunc f args).run P w = .ok (.enter f args) w := by
  unfold callable at h
  cases hf : P.funcs[f]? with
  | none => simp [hf] at h
  | some fn =>
    simp only [hf, Bool.and_eq_true, Bool.not_eq_true'] at h
    have h1 : ¬ fn.body = none := by intro hb; simp [hb] at h
    have h2 : ¬ fn.name = "runtime.NumGoroutine" := by intro hb; simp [hb] at h
    simp [callFunc, hf, h2, h1]

/-- It names blocks below n alone. -/
inductive Scoped (n : Nat) : PV → Prop where
  | int (k : IntKind) (m : Int) : Scoped n (.int k m)
  | bool (b : Bool) : Scoped n (.bool b)
  | str (s : List UInt8) : Scoped n (.str s)
  | nilp : Scoped n .nilp
  | nl (k : Nat) : Scoped n (.nl k)
  | undef : Scoped n .undef
  | ptr {id ver off : Nat} (h : id < n) : Scoped n (.ptr id ver off)
  | ip {xs : List PV} {off : Nat} (h : ∀ (j : Nat) (x : PV), xs[j]? = some x → Scoped n x) : Scoped n (.ip xs off)
  | slice {xs : List PV} {len : Nat} {full : Bool} (h : ∀ (j : Nat) (x : PV), xs[j]? = some x → Scoped n x) : Scoped n (.slice xs len full)
  | msl {id ver off len sz : Nat} {g : Bool} (h : id < n) : Scoped n (.msl id ver off len sz g)
  | mp {id ver : Nat} (h : id < n) : Scoped n (.mp id ver)
  | agg {cs : List PV} (h : ∀ (j : Nat) (x : PV), cs[j]? = some x → Scoped n x) : Scoped n (.agg cs)
  | tup {vs : List PV} (h : ∀ (j : Nat) (x : PV), vs[j]? = some x → Scoped n x) : Scoped n (.tup vs)
  | func {f : FuncId} {fs cs : List PV} (h : ∀ (j : Nat) (x : PV), fs[j]? = some x → Scoped n x) (h' : ∀ (j : Nat) (x : PV), cs[j]? = some x → Scoped n x) : Scoped n (.func f fs cs)

theorem all_of {n : Nat} {xs : List PV} {us : List Value} (hl : us.length = xs.length) (h : ∀ (j : Nat) (x : PV) (u : Value), xs[j]? = some x → us[j]? = some u → Scoped n x) : ∀ (j : Nat) (x : PV), xs[j]? = some x → Scoped n x := fun j x hx => by
  have hlt : j < us.length := by have := (List.getElem?_eq_some_iff.1 hx).1; omega
  exact h j x us[j] hx (List.getElem?_eq_getElem hlt)

theorem VRel.scoped {x : PV} {u : Value} (h : VRel C x u) : Scoped C.vs.length x := by
  have lt : ∀ {id ver : Nat}, C.vs[id]? = some ver → id < C.vs.length := fun h => (List.getElem?_eq_some_iff.1 h).1
  induction h with
  | nl k => exact .nl k
  | int k n => exact .int k n
  | bool b => exact .bool b
  | str s => exact .str _
  | nilp => exact .nilp
  | ptr hm hv => exact .ptr (lt hv)
  | ptrS v h1 hv hlt => exact .ptr (lt hv)
  | ip hl hM hc _ ih => exact .ip (all_of hl ih)
  | slice hl hM hc _ hcap hmax hf ih => exact .slice (all_of hl ih)
  | sliceN ad full => exact .slice (fun j x hx => by simp at hx)
  | msl hm hv hcap hmax hg => exact .msl (lt hv)
  | mslE hm hv hmax => exact .msl (lt hv)
  | mslG ad hm hv => exact .msl (lt hv)
  | mslS v h1 hv hlt => exact .msl (lt hv)
  | mp hm hv hb => exact .mp (lt hv)
  | mpS v h1 hv hlt => exact .mp (lt hv)
  | agg hl hc _ ih => exact .agg (all_of hl ih)
  | tup hl _ ih => exact .tup (all_of hl ih)
  | func hl hl' _ _ ih ih' => exact .func (all_of hl ih) (all_of hl' ih')
  | undef v => exact .undef

/-- CLe, of the blocks below n alone. -/
structure CLeN (n : Nat) (C C' : Ctx) : Prop where
  B : C'.B = C.B
  M : ∀ b o u, C.M b o = some u → C'.M b o = some u
  top : C'.top = C.top
  mnew : ∀ b o u, C'.M b o = some u → C.M b o = some u ∨ C.top ≤ b ∨ some b ∈ C.mu
  unew : ∀ b, some b ∈ C'.mu → some b ∈ C.mu ∨ C.top ≤ b
  ids : ∀ (id ver : Nat), id < n → C.vs[id]? = some ver → ∃ ver', C'.vs[id]? = some ver' ∧ ver ≤ ver' ∧ (ver' = ver → C'.mu[id]? = C.mu[id]? ∧ C'.cp[id]? = C.cp[id]?)
theorem CLe.toN {C C' : Ctx} (h : CLe C C') (n : Nat) : CLeN n C C' := ⟨h.B, h.M, h.top, h.mnew, h.unew, fun id ver _ hv => h.ids id ver hv⟩
theorem CLeN.refl {n : Nat} (C : Ctx) : CLeN n C C := (CLe.refl C).toN n
theorem CLeN.trans {n : Nat} {C C' C'' : Ctx} (h : CLeN n C C') (k : CLeN n C' C'') : CLeN n C C'' := by
  refine ⟨k.B.trans h.B, fun b o u e => k.M _ _ _ (h.M _ _ _ e), k.top.trans h.top, fun b o u e => ?_, fun b e => ?_, fun id ver hid e => ?_⟩
  · rcases k.mnew b o u e with e | e | e
    · exact h.mnew b o u e
    · exact .inr (.inl (by rw [← h.top]; exact e))
    · rcases h.unew b e with e | e
      · exact .inr (.inr e)
      · exact .inr (.inl e)
  · rcases k.unew b e with e | e
    · exact h.unew b e
    · exact .inr (by rw [← h.top]; exact e)
  obtain ⟨v1, e1, l1, q1⟩ := h.ids id ver hid e
  obtain ⟨v2, e2, l2, q2⟩ := k.ids id v1 hid e1
  refine ⟨v2, e2, Nat.le_trans l1 l2, fun he => ?_⟩
  have h1 : v1 = ver := by omega
  have h2 : v2 = v1 := by omega
  exact ⟨(q2 h2).1.trans (q1 h1).1, (q2 h2).2.trans (q1 h1).2⟩
theorem CLeN.full {n : Nat} {C C' : Ctx} (h : CLeN n C C') (hn : C.vs.length = n) : CLe C C' := ⟨h.B, h.M, h.top, h.mnew, h.unew, fun id ver hv => h.ids id ver (by have := (List.getElem?_eq_some_iff.1 hv).1; omega) hv⟩

/-- A function's number of slots, and the heap at its entry. -/
structure Env where
  N : Nat
  H0 : Heap
/-- Blocks name only blocks of the same heap. -/
def HSc (H : Heap) : Prop := ∀ (id : Nat) (k : Blk), H[id]? = some k → ∀ x ∈ k.cells, Scoped H.length x
theorem WRel.hsc (hw : WRel C H w) : HSc H := fun id k hk x hx => by
  obtain ⟨m, hm⟩ : ∃ m, C.mu[id]? = some m := ⟨C.mu[id]'(by rw [hw.len]; exact (List.getElem?_eq_some_iff.1 hk).1), List.getElem?_eq_getElem _⟩
  cases m with
  | none =>
    rcases hw.gho id k hk hm with h0 | ⟨b, es, clock, _, _, _, q4, q5⟩
    · rw [h0.2] at hx; cases hx
    · obtain ⟨j, hj, rfl⟩ := List.getElem_of_mem hx
      have := (q5 j _ es[j] (List.getElem?_eq_getElem hj) (Array.getElem?_eq_getElem (by omega))).scoped
      rwa [hw.lenv] at this
  | some b =>
  obtain ⟨cur, _, _, _, _, q7, q8⟩ := hw.own id k b hk hm
  obtain ⟨j, hj, rfl⟩ := List.getElem_of_mem hx
  have := (q8 j _ cur[j] (List.getElem?_eq_getElem hj) (Array.getElem?_eq_getElem (by omega))).scoped
  rwa [hw.lenv] at this

/-- The exits of code, over abstract states. -/
def Post (E : Env) (C : Ctx) (w : World) (Q : Exit → Fr → Heap → Prop) : Exit → Act → World → Prop :=
  fun e a' w' => ∃ C' F' H', CLeN E.H0.length C C' ∧ a'.defers = [] ∧ WRel C' H' w' ∧ Below C.B w w' ∧ FRel C' E.N (slot F') a' ∧ Q e F' H'

theorem Post.trans {E : Env} {C C1 : Ctx} {w w1 : World} {Q : Exit → Fr → Heap → Prop} (h1 : CLeN E.H0.length C C1) (h2 : Below C.B w w1) {e : Exit} {a' : Act} {w' : World} (h : Post E C1 w1 Q e a' w') : Post E C w Q e a' w' := by
  obtain ⟨C', F', H', q1, q2, q3, q4, q5, q6⟩ := h
  exact ⟨C', F', H', h1.trans q1, q2, q3, h2.trans (by rw [← h1.B]; exact q4), q5, q6⟩

/-- ████ THE JUDGEMENT ON CODE. ████ -/
def PW (P : Program) (E : Env) (c : Code) (F : Fr) (H : Heap) (Q : Exit → Fr → Heap → Prop) : Prop :=
  HSc E.H0 → ∀ (C : Ctx) (a : Act) (w : World), a.defers = [] → WRel C H w → FRel C E.N (slot F) a → c.wp P (Post E C w Q) a w

def thenQ (K : Fr → Heap → Prop) (Q : Exit → Fr → Heap → Prop) : Exit → Fr → Heap → Prop
  | .normal, F, H => K F H
  | e, F, H => Q e F H
def blockQ (id : Nat) (Q : Exit → Fr → Heap → Prop) : Exit → Fr → Heap → Prop
  | .exit id', F, H => if id' = id then Q .normal F H else Q (.exit id') F H
  | e, F, H => Q e F H
/-- A scope that no goto leaves. -/
def scopeQ (Q : Exit → Fr → Heap → Prop) : Exit → Fr → Heap → Prop
  | .goto _, _, _ => False
  | e, F, H => Q e F H

section rules
variable {E : Env} {Q : Exit → Fr → Heap → Prop}

theorem PW.mono {c : Code} {Q' : Exit → Fr → Heap → Prop} (h : PW P E c F H Q) (hq : ∀ e F H, Q e F H → Q' e F H) : PW P E c F H Q' := fun hs C a w hd hw hf =>
  wp_mono (h hs C a w hd hw hf) fun _ _ _ ⟨C', F', H', q1, q2, q3, q4, q5, q6⟩ => ⟨C', F', H', q1, q2, q3, q4, q5, hq _ _ _ q6⟩

theorem PW.skip (h : Q .normal F H) : PW P E .skip F H Q := fun hs C a w hd hw hf => wp_skip ⟨C, F, H, .refl _, hd, hw, .refl _ _, hf, h⟩
theorem PW.ret (h : Q .ret F H) : PW P E .ret F H Q := fun hs C a w hd hw hf => wp_ret ⟨C, F, H, .refl _, hd, hw, .refl _ _, hf, h⟩
theorem PW.exit {id : Nat} (h : Q (.exit id) F H) : PW P E (.exit id) F H Q := fun hs C a w hd hw hf => wp_exit ⟨C, F, H, .refl _, hd, hw, .refl _ _, hf, h⟩
theorem PW.label {l : Nat} (h : Q .normal F H) : PW P E (.label l) F H Q := fun hs C a w hd hw hf => wp_label ⟨C, F, H, .refl _, hd, hw, .refl _ _, hf, h⟩

theorem PW.seq {x y : Code} (h : PW P E x F H (thenQ (fun F' H' => PW P E y F' H' Q) Q)) : PW P E (.seq x y) F H Q := fun hs C a w hd hw hf => by
  refine wp_seq (wp_mono (h hs C a w hd hw hf) ?_)
  rintro e a1 w1 ⟨C1, F1, H1, q1, q2, q3, q4, q5, q6⟩
  cases e with
  | normal => exact wp_mono (q6 hs C1 a1 w1 q2 q3 q5) fun _ _ _ hp => hp.trans q1 q4
  | _ => exact ⟨C1, F1, H1, q1, q2, q3, q4, q5, q6⟩

theorem PW.scope {c : Code} (h : PW P E c F H (scopeQ Q)) : PW P E (.scope c) F H Q := fun hs C a w hd hw hf => by
  refine wp_scope_straight (wp_mono (h hs C a w hd hw hf) ?_)
  rintro e a1 w1 ⟨C1, F1, H1, q1, q2, q3, q4, q5, q6⟩
  cases e with
  | goto l => exact q6.elim
  | _ => exact ⟨C1, F1, H1, q1, q2, q3, q4, q5, q6⟩

theorem PW.cond {c : Operand} {x y : Code} {t : Bool} (hc : ev (slot F) c = .bool t) (h1 : t = true → PW P E x F H Q) (h2 : t = false → PW P E y F H Q) : PW P E (.cond c x y) F H Q := fun hs C a w hd hw hf => by
  have hv := ev_rel hf c
  rw [hc] at hv
  exact wp_cond_split (inv_bool hv) (fun ht => h1 ht hs C a w hd hw hf) (fun ht => h2 ht hs C a w hd hw hf)

theorem PW.block {id : Nat} {c : Code} (h : PW P E c F H (blockQ id Q)) : PW P E (.block id c) F H Q := fun hs C a w hd hw hf => by
  refine wp_block (wp_mono (h hs C a w hd hw hf) ?_)
  rintro e a1 w1 ⟨C1, F1, H1, q1, q2, q3, q4, q5, q6⟩
  cases e with
  | exit id' =>
    simp only [blockQ] at q6
    simp only [Exit.inBlock]
    split
    · rename_i he; rw [if_pos he] at q6; exact ⟨C1, F1, H1, q1, q2, q3, q4, q5, q6⟩
    · rename_i he; rw [if_neg he] at q6; exact ⟨C1, F1, H1, q1, q2, q3, q4, q5, q6⟩
  | _ => exact ⟨C1, F1, H1, q1, q2, q3, q4, q5, q6⟩

/-- Slots may be forgotten. -/
def kp (ks : List Nat) (F : Fr) : Fr := ks.map fun t => (t, slot F t)
theorem get_keep (ks : List Nat) (F : Fr) (t : Nat) : slot (kp ks F) t = slot F t ∨ slot (kp ks F) t = .undef := by
  induction ks with
  | nil => exact .inr rfl
  | cons k ks ih =>
    show (match Nat.beq k t with | true => slot F k | false => slot (kp ks F) t) = slot F t ∨ (match Nat.beq k t with | true => slot F k | false => slot (kp ks F) t) = .undef
    cases hb : Nat.beq k t with
    | true => rw [Nat.eq_of_beq_eq_true hb]; exact .inl rfl
    | false => exact ih
theorem FRel.keep (hf : FRel C N (slot F) a) (ks : List Nat) : FRel C N (slot (kp ks F)) a := ⟨hf.1, fun t => by
  rcases get_keep ks F t with h | h
  · rw [h]; exact hf.2 t
  · rw [h]; exact .undef _⟩
theorem PW.keep {c : Code} (ks : List Nat) (h : PW P E c (kp ks F) H Q) : PW P E c F H Q := fun hs C a w hd hw hf => h hs C a w hd hw (hf.keep ks)

/-! ### loops: 'PL': the body, and then the loop again -/
def loopK (P : Program) (c : Code) (Q : Exit → Act → World → Prop) (a : Act) (w : World) : Prop :=
  ∀ (b : Frame) (k : List Item) (cs : List Frame), ∃ e a' w', Q e a' w' ∧ Arrives P (lone (b.at a (.code c :: .inLoop c :: k)) cs w) b k cs e a' w'
theorem loopK_unfold {c : Code} {Q : Exit → Act → World → Prop} {a : Act} {w : World} (h : c.wp P (Exit.then (loopK P c Q) Q) a w) : loopK P c Q a w := by
  intro b k cs
  obtain ⟨e, a1, w1, hq, harr⟩ := h b (.inLoop c :: k) cs
  cases e with
  | normal =>
    obtain ⟨e2, a2, w2, hq2, harr2⟩ := hq b k cs
    exact ⟨e2, a2, w2, hq2, .of_steps (Steps.trans harr (.one step_inLoop)) harr2⟩
  | exit id => exact ⟨_, a1, w1, hq, .pass (x := .inLoop c) rfl (fun _ _ => .inl (by simp)) harr⟩
  | goto l => exact ⟨_, a1, w1, hq, .pass (x := .inLoop c) rfl (fun _ _ => .inl (by simp)) harr⟩
  | ret => exact ⟨_, a1, w1, hq, .pass (x := .inLoop c) rfl (fun _ _ => .inl (by simp)) harr⟩
  | panic ch => exact ⟨_, a1, w1, hq, .pass (x := .inLoop c) rfl (fun _ _ => .inl (by simp)) harr⟩
  | outgrown => exact ⟨_, a1, w1, hq, .pass (x := .inLoop c) rfl (fun _ _ => .inl (by simp)) harr⟩
def PL (P : Program) (E : Env) (c : Code) (F : Fr) (H : Heap) (Q : Exit → Fr → Heap → Prop) : Prop :=
  HSc E.H0 → ∀ (C : Ctx) (a : Act) (w : World), a.defers = [] → WRel C H w → FRel C E.N (slot F) a → loopK P c (Post E C w Q) a w
theorem PW.loop {c : Code} (h : PL P E c F H Q) : PW P E (.loop c) F H Q := fun hs C a w hd hw hf b k cs => by
  obtain ⟨e, a', w', hq, harr⟩ := h hs C a w hd hw hf b k cs
  exact ⟨e, a', w', hq, .of_steps (.one step_loop) harr⟩
theorem PL.round {c : Code} (h : PW P E c F H (thenQ (fun F' H' => PL P E c F' H' Q) Q)) : PL P E c F H Q := fun hs C a w hd hw hf => by
  refine loopK_unfold (wp_mono (h hs C a w hd hw hf) ?_)
  rintro e a1 w1 ⟨C1, F1, H1, q1, q2, q3, q4, q5, q6⟩
  cases e with
  | normal =>
    have hk := q6 hs C1 a1 w1 q2 q3 q5
    exact fun b k cs => by
      obtain ⟨e2, a2, w2, hq2, harr2⟩ := hk b k cs
      exact ⟨e2, a2, w2, hq2.trans q1 q4, harr2⟩
  | _ => exact ⟨C1, F1, H1, q1, q2, q3, q4, q5, q6⟩
theorem PL.keep {c : Code} (ks : List Nat) (h : PL P E c (kp ks F) H Q) : PL P E c F H Q := fun hs C a w hd hw hf => h hs C a w hd hw (hf.keep ks)

/-! ### regions in the order of the text -/
def want (all : List Oper) (F : Nat → PV) (o : Oper) : Option Bool :=
  match o.guard with
  | none => some true
  | some (j, b) => match (all[j]?).bind (·.dst) with
    | some d => match F d with
      | .bool x => some (x == b)
      | .tup [] => some false
      | _ => none
    | none => none

theorem want_sound {all : List Oper} {f : Nat → PV} {o : Oper} {b : Bool} (hf : FRel C N f a) (h : want all f o = some b) : Region.wanted o (yielded all.toArray a.tmps) = b := by
  unfold want at h
  unfold Region.wanted
  split at h
  · rename_i hg; injection h with h; subst h; rw [hg]
  · rename_i j t hg
    rw [hg]
    simp only
    split at h
    · rename_i d hd
      have hv := hf.2 d
      have hy : yielded all.toArray a.tmps j = match a.tmps[d]? with | some (.bool x) => some x | _ => none := by
        unfold yielded
        rw [List.getElem?_toArray, hd]
        rfl
      split at h
      · rename_i x hx
        injection h with h
        subst h
        rw [hx] at hv
        have he := inv_bool hv
        rw [Array.getD_eq_getD_getElem?] at he
        cases hq : a.tmps[d]? with
        | none => simp [hq, Go.undef] at he
        | some u => rw [hq] at he; simp at he; subst he; rw [hy, hq]; simp
      · rename_i hx
        injection h with h
        subst h
        rw [hx] at hv
        have he : a.tmps.getD d Go.undef = Go.undef := by
          generalize a.tmps.getD d Go.undef = u at hv
          cases hv with
          | @tup _ us hl hR0 =>
            have : us = [] := List.eq_nil_of_length_eq_zero (by simpa using hl)
            subst this
            rfl
        rw [Array.getD_eq_getD_getElem?] at he
        rw [hy]
        cases hq : a.tmps[d]? with
        | none => simp
        | some u => rw [hq] at he; simp [Go.undef] at he; subst he; simp
      · cases h
    · cases h

/-- What one operation that is carried out does. -/
def Exec (P : Program) (o : Oper) (f : Nat → PV) (H : Heap) (v : PV) (H' : Heap) : Prop :=
  match pcallee o.op f with
  | some (g, args) => CallOk P g args H v H'
  | none => pop P o.op f H = some (v, H')

def dstOk (N : Nat) (o : Oper) : Bool := match o.dst with | some d => Nat.blt d N | none => true
theorem dstOk_of {o : Oper} (h : dstOk N o = true) : ∀ t, o.dst = some t → t < N := fun t ht => by
  unfold dstOk at h
  rw [ht] at h
  simp only [Nat.blt_eq] at h
  exact h

def ExecR (P : Program) (o : Oper) (f : Nat → PV) (H : Heap) (R : PV → Heap → Prop) : Prop :=
  match pcallee o.op f with
  | some (g, args) => CallEx P g args H R
  | none => ∃ v H', pop P o.op f H = some (v, H') ∧ R v H'
theorem Exec.toR {o : Oper} {f : Nat → PV} {v : PV} {H' : Heap} (h : Exec P o f H v H') : ExecR P o f H (fun v' H'' => v' = v ∧ H'' = H') := by
  unfold Exec at h
  unfold ExecR
  split at h
  · exact h.toEx
  · exact ⟨v, H', h, rfl, rfl⟩
theorem execR_sound {o : Oper} {f : Nat → PV} {R : PV → Heap → Prop} (hd : dstOk N o = true) (hw : WRel C H w) (hf : FRel C N f a) (h : ExecR P o f H R) (next : Act → World → Prop) (Q : Exit → Act → World → Prop)
    (hn : ∀ C' u w' v H', R v H' → CLe C C' → WRel C' H' w' → Below C.B w w' → FRel C' N (upd f o.dst v) (a.put o.dst u) → next (a.put o.dst u) w') : o.wp P a w next Q := by
  unfold ExecR at h
  split at h
  · rename_i g args hc
    unfold pcallee at hc
    split at hc
    · rename_i x xs ts ho
      split at hc
      · rename_i f' first captured hfv
        simp only [Option.some.injEq, Prod.mk.injEq] at hc
        obtain ⟨rfl, rfl⟩ := hc
        have hv := ev_rel hf x
        rw [hfv] at hv
        obtain ⟨us, ws, hl, hl', hR, hR', he⟩ : ∃ us ws, us.length = first.length ∧ ws.length = captured.length ∧ Rel C first us ∧ Rel C captured ws ∧ a.eval x = .func (.func f') us.toArray ws.toArray := by
          generalize a.eval x = q at hv
          cases hv with
          | func hl hl' hR hR' => exact ⟨_, _, hl, hl', hR, hR', rfl⟩
        obtain ⟨hal, har⟩ := evs_rel hf xs.toList
        have hrun : (execOp a.eval o).run P w = .ok (.enter f' (us ++ xs.toList.map a.eval ++ ws).toArray) w := by
          have e1 : us.toArray ++ xs.map a.eval ++ ws.toArray = (us ++ xs.toList.map a.eval ++ ws).toArray := by
            apply Array.ext'; simp
          simp only [execOp, ho, resolve, he, Deferred.ofValue, invoke, Sem.run_bind, Sem.run_pure, Result.andThen_ok, run_callFunc h.1, e1]
        unfold Oper.wp
        rw [hrun, Oper.upon_enter]
        refine (h.2 C _ w hw ⟨by simp [hl, hl'], Rel.append (by simp [hl]) (Rel.append hl hR har) hR'⟩).mono ?_
        rintro e w' ⟨C', u, v, H', q0, q1, q2, q3, rfl, q5⟩
        exact hn C' u w' v H' q0 q1 q2 q3 ((hf.mono q1).put _ (dstOk_of hd) q5)
      · cases hc
    · cases hc
  · obtain ⟨v, H', h, hR⟩ := h
    obtain ⟨C', u, w', q1, q2, q3, q4, q5⟩ := pop_sound hw hf h
    unfold Oper.wp
    rcases q5 with q5 | ⟨q5, rfl⟩
    · rw [q5, Oper.upon_value]
      exact hn C' u w' v H' hR q1 q2 q3 ((hf.mono q1).put _ (dstOk_of hd) q4)
    · rw [q5, Oper.upon_skip]
      exact hn C' _ w' _ H' hR q1 q2 q3 ((hf.mono q1).put _ (dstOk_of hd) q4)
theorem exec_sound {o : Oper} {f : Nat → PV} {v : PV} {H' : Heap} (hd : dstOk N o = true) (hw : WRel C H w) (hf : FRel C N f a) (h : Exec P o f H v H') (next : Act → World → Prop) (Q : Exit → Act → World → Prop)
    (hn : ∀ C' u w', CLe C C' → WRel C' H' w' → Below C.B w w' → FRel C' N (upd f o.dst v) (a.put o.dst u) → next (a.put o.dst u) w') : o.wp P a w next Q :=
  execR_sound hd hw hf h.toR next Q fun C' u w' v' H'' e q1 q2 q3 q4 => hn C' u w' q1 (e.2 ▸ q2) q3 (e.1 ▸ q4)

/-- The operations of a region, one after the other. -/
def vops (P : Program) (all : List Oper) : List Oper → (Fr → Heap → Prop) → Fr → Heap → Prop
  | [], K, F, H => K F H
  | o :: r, K, F, H => match want all (slot F) o with
    | some b => (b = true → match pcallee o.op (slot F) with
        | some (g, args) => ∃ R, CallEx P g args H R ∧ ∀ v H', R v H' → vops P all r K (put F o.dst v) H'
        | none => match pop P o.op (slot F) H with
          | some (v, H') => vops P all r K (put F o.dst v) H'
          | none => False) ∧ (b = false → vops P all r K (put F o.dst (.tup [])) H)
    | none => False

theorem vops_sound {all : List Oper} {K : Fr → Heap → Prop} : ∀ (l : List Oper) (F : Fr) (H : Heap), l.all (dstOk N) = true → vops P all l K F H → ∀ (C : Ctx) (a : Act) (w : World), a.defers = [] → WRel C H w → FRel C N (slot F) a →
    ∀ Q : Exit → Act → World → Prop, (∀ C' F' H' a' w', CLe C C' → a'.defers = [] → WRel C' H' w' → Below C.B w w' → FRel C' N (slot F') a' → K F' H' → Q .normal a' w') → wpList P all.toArray Q l a w
  | [], F, H, _, h, C, a, w, hd, hw, hf, Q, hQ => hQ C F H a w (.refl _) hd hw (.refl _ _) hf h
  | o :: r, F, H, hall, h, C, a, w, hd, hw, hf, Q, hQ => by
    simp only [List.all_cons, Bool.and_eq_true] at hall
    simp only [vops] at h
    split at h
    · rename_i b hb
      have hwant := want_sound hf hb
      unfold wpList
      cases b with
      | true =>
        rw [if_pos hwant]
        left
        have h1 := h.1 rfl
        have step : ∀ R, ExecR P o (slot F) H R → (∀ v H', R v H' → vops P all r K (put F o.dst v) H') → o.wp P a w (wpList P all.toArray Q r) Q := fun R he hr => by
          refine execR_sound hall.1 hw hf he _ _ fun C' u w' v H' q0 q1 q2 q3 q4 => ?_
          rw [← get_put] at q4
          refine vops_sound r _ _ hall.2 (hr v H' q0) C' _ w' (by cases ho : o.dst <;> simp [Act.put, hd]) q2 q4 Q ?_
          intro C'' F'' H'' a'' w'' p1 p2 p3 p4 p5 p6
          exact hQ C'' F'' H'' a'' w'' (q1.trans p1) p2 p3 (q3.trans (by rw [← q1.B]; exact p4)) p5 p6
        split at h1
        · rename_i g args hc
          obtain ⟨R, hcall, hr⟩ := h1
          exact step R (by unfold ExecR; rw [hc]; exact hcall) hr
        · rename_i hc
          split at h1
          · rename_i v H' hp
            exact step (fun v' H'' => v' = v ∧ H'' = H') (by unfold ExecR; rw [hc]; exact ⟨v, H', hp, rfl, rfl⟩) (fun v' H'' e => by rw [e.1, e.2]; exact h1)
          · exact h1.elim
      | false =>
        rw [if_neg (by rw [hwant]; simp)]
        have h2 := h.2 rfl
        have q4 := hf.put o.dst (dstOk_of hall.1) (VRel.undefV (C := C))
        rw [← get_put] at q4
        exact vops_sound r _ _ hall.2 h2 C _ w (by cases ho : o.dst <;> simp [Act.put, hd]) hw q4 Q hQ
    · exact h.elim

theorem PW.region {id : Nat} {ops : Array Oper} (hd : ops.toList.all (dstOk E.N) = true) (h : vops P ops.toList ops.toList (fun F' H' => Q .normal F' H') F H) : PW P E (.region id ops false) F H Q := fun hs C a w hdf hw hf => by
  refine wp_region_list ?_
  have := vops_sound (P := P) (all := ops.toList) ops.toList F H hd h C a w hdf hw hf (Post E C w Q) (fun C' F' H' a' w' p1 p2 p3 p4 p5 p6 => ⟨C', F', H', p1.toN _, p2, p3, p4, p5, p6⟩)
  simpa using this

/-- With one state behind it, whatever way was taken through it. -/
theorem PW.region_to {id : Nat} {ops : Array Oper} (ks : List Nat) (F1 : Fr) (H1 : Heap) (hd : ops.toList.all (dstOk E.N) = true) (h : vops P ops.toList ops.toList (fun F' H' => kp ks F' = F1 ∧ H' = H1) F H) (hq : Q .normal F1 H1) :
    PW P E (.region id ops false) F H Q := fun hs C a w hdf hw hf => by
  refine wp_region_list ?_
  have := vops_sound (P := P) (all := ops.toList) ops.toList F H hd h C a w hdf hw hf (Post E C w Q) (fun C' F' H' a' w' p1 p2 p3 p4 p5 p6 => ⟨C', F1, H1, p1.toN _, p2, p6.2 ▸ p3, p4, p6.1 ▸ p5.keep ks, hq⟩)
  simpa using this

end rules

end Go.Proofs.Ytnjnikafhbholaa.Pm

namespace Go.Proofs.Ytnjnikafhbholaa.Pm
set_option linter.all false
set_option linter.unusedVariables false
set_option linter.unusedSimpArgs false
open Go.RowKit

variable {P : Program} {C : Ctx} {H : Heap} {w : World} {F : Fr} {a : Act} {N : Nat}

/-- The context as it is known once the blocks from n on are given up. -/
def Ctx.cut (C : Ctx) (n : Nat) (M : Nat → Nat → Option Value) : Ctx := { B := C.B, top := C.top, M := M, mu := C.mu.take n, vs := C.vs.take n, cp := C.cp.take n }

theorem VRel.cut {n : Nat} {M : Nat → Nat → Option Value} (hM : ∀ b o u, C.M b o = some u → M b o = some u) {x : PV} {u : Value} (h : VRel C x u) (hs : Scoped n x) : VRel (C.cut n M) x u := by
  have tk : ∀ {α : Type} {l : List α} {id : Nat} {v : α}, id < n → l[id]? = some v → (l.take n)[id]? = some v := fun hid h => by rw [List.getElem?_take, if_pos hid]; exact h
  induction h with
  | nl k => exact .nl k
  | int k n => exact .int k n
  | bool b => exact .bool b
  | str s => exact .str _
  | nilp => exact .nilp
  | ptr hm hv => cases hs with | ptr hid => exact .ptr (tk hid hm) (tk hid hv)
  | ptrS v h1 hv hlt => cases hs with | ptr hid => exact .ptrS v h1 (tk hid hv) hlt
  | ip hl hM' hc _ ih => cases hs with | ip h => exact .ip hl (fun j u hu => hM _ _ _ (hM' j u hu)) hc (fun j x u hx hu => ih j x u hx hu (h j x hx))
  | slice hl hM' hc _ hcap hmax hf ih => cases hs with | slice h => exact .slice hl (fun j u hu => hM _ _ _ (hM' j u hu)) hc (fun j x u hx hu => ih j x u hx hu (h j x hx)) hcap hmax hf
  | sliceN ad full => exact .sliceN ad full
  | msl hm hv hcap hmax hg => cases hs with | msl hid => exact .msl (tk hid hm) (tk hid hv) hcap hmax (fun hgt => ⟨(hg hgt).1, tk hid (hg hgt).2⟩)
  | mslE hm hv hmax => cases hs with | msl hid => exact .mslE (tk hid hm) (tk hid hv) hmax
  | mslG ad hm hv => cases hs with | msl hid => exact .mslG ad ⟨tk hid hm.1, tk hid hm.2⟩ (tk hid hv)
  | mslS v h1 hv hlt => cases hs with | msl hid => exact .mslS v h1 (tk hid hv) hlt
  | mp hm hv hb => cases hs with | mp hid => exact .mp (tk hid hm) (tk hid hv) (tk hid hb)
  | mpS v h1 hv hlt => cases hs with | mp hid => exact .mpS v h1 (tk hid hv) hlt
  | agg hl hc _ ih => cases hs with | agg h => exact .agg hl hc (fun j x u hx hu => ih j x u hx hu (h j x hx))
  | tup hl _ ih => cases hs with | tup h => exact .tup hl (fun j x u hx hu => ih j x u hx hu (h j x hx))
  | func hl hl' _ _ ih ih' => cases hs with | func h h' => exact .func hl hl' (fun j x u hx hu => ih j x u hx hu (h j x hx)) (fun j x u hx hu => ih' j x u hx hu (h' j x hx))
  | undef v => exact .undef v

/-- A value, its own blocks from n on no longer written. -/
def frz (n : Nat) (H : Heap) : Nat → PV → Option PV
  | 0, _ => none
  | _ + 1, .int k m => some (.int k m)
  | _ + 1, .bool b => some (.bool b)
  | _ + 1, .str s => some (.str s)
  | _ + 1, .nilp => some .nilp
  | _ + 1, .nl k => some (.nl k)
  | _ + 1, .undef => some .undef
  | _ + 1, .ptr id ver off => if id < n then some (.ptr id ver off) else none
  | _ + 1, .mp id ver => if id < n then some (.mp id ver) else none
  | d + 1, .ip xs off => (xs.mapM (frz n H d)).map fun ys => .ip ys off
  | d + 1, .slice xs len _ => (xs.mapM (frz n H d)).map fun ys => .slice ys len false
  | d + 1, .msl id ver off len sz g => if id < n then some (.msl id ver off len sz g) else match H[id]? with
    | some k => if k.ver = ver ∧ off + len * sz ≤ k.cells.length then (((k.cells.drop off).take (len * sz)).mapM (frz n H d)).map fun ys => .slice ys len false else none
    | none => none
  | d + 1, .agg cs => (cs.mapM (frz n H d)).map .agg
  | d + 1, .tup vs => (vs.mapM (frz n H d)).map .tup
  | d + 1, .func f fs cs => match fs.mapM (frz n H d), cs.mapM (frz n H d) with | some fs', some cs' => some (.func f fs' cs') | _, _ => none

theorem mapM_get {f : PV → Option PV} : ∀ {xs ys : List PV}, xs.mapM f = some ys → ys.length = xs.length ∧ ∀ (j : Nat) (y : PV), ys[j]? = some y → ∃ x, xs[j]? = some x ∧ f x = some y
  | [], ys, h => by simp at h; subst h; exact ⟨rfl, fun j y hy => by simp at hy⟩
  | x :: xs, ys, h => by
    simp only [List.mapM_cons, Option.bind_eq_bind, Option.pure_def, Option.bind_eq_some_iff, Option.some.injEq] at h
    obtain ⟨y, hy, ys', hys, rfl⟩ := h
    obtain ⟨hl, hg⟩ := mapM_get hys
    refine ⟨by simp [hl], fun j z hz => ?_⟩
    cases j with
    | zero => simp at hz; subst hz; exact ⟨x, rfl, hy⟩
    | succ j => simpa using hg j z (by simpa using hz)

theorem frz_cell {n d : Nat} {x y : PV} (h : frz n H d x = some y) (hc : x.cell = true) : y.cell = true := by
  cases d with
  | zero => simp [frz] at h
  | succ d =>
    cases x <;> simp only [frz] at h
    case agg => simp [PV.cell] at hc
    case tup => simp [PV.cell] at hc
    case undef => simp [PV.cell] at hc
    case msl =>
      split at h
      · injection h with h; subst h; rfl
      · split at h
        · split at h
          · simp only [Option.map_eq_some_iff] at h; obtain ⟨_, _, rfl⟩ := h; rfl
          · cases h
        · cases h
    case func => split at h <;> first | (injection h with h; subst h; rfl) | cases h
    case ptr => split at h <;> first | (injection h with h; subst h; rfl) | cases h
    case mp => split at h <;> first | (injection h with h; subst h; rfl) | cases h
    all_goals first | (injection h with h; subst h; rfl) | (simp only [Option.map_eq_some_iff] at h; obtain ⟨_, _, rfl⟩ := h; rfl)

/-- What is known of memory once the blocks from n on are given up. -/
def Ctx.given (C : Ctx) (n : Nat) (w : World) : Nat → Nat → Option Value := fun b o => if (C.mu.drop n).contains (some b) then w.cell? ⟨b, o, none⟩ else C.M b o

theorem given_of (hw : WRel C H w) (n b o : Nat) (u : Value) (h : C.M b o = some u) : C.given n w b o = some u := by
  unfold Ctx.given
  split
  · exact hw.imm _ _ _ h
  · exact h

theorem frz_sound (hw : WRel C H w) (n : Nat) : ∀ (d : Nat) (x y : PV) (u : Value), VRel C x u → frz n H d x = some y → VRel (C.cut n (C.given n w)) y u
  | 0, x, y, u, _, h => by simp [frz] at h
  | d + 1, x, y, u, hv, h => by
    have hg := fun b o u => given_of (C := C) hw n b o u
    have lst : ∀ {xs ys : List PV} {us : List Value}, us.length = xs.length → Rel C xs us → xs.mapM (frz n H d) = some ys → us.length = ys.length ∧ Rel (C.cut n (C.given n w)) ys us := fun hl hR hm => by
      obtain ⟨h1, h2⟩ := mapM_get hm
      refine ⟨by omega, fun j y u hy hu => ?_⟩
      obtain ⟨x, hx, hf⟩ := h2 j y hy
      exact frz_sound hw n d x y u (hR j x u hx hu) hf
    have cls : ∀ {xs ys : List PV}, (∀ x ∈ xs, x.cell = true) → xs.mapM (frz n H d) = some ys → ∀ y ∈ ys, y.cell = true := fun hc hm y hy => by
      obtain ⟨h1, h2⟩ := mapM_get hm
      obtain ⟨j, hj, rfl⟩ := List.getElem_of_mem hy
      obtain ⟨x, hx, hf⟩ := h2 j _ (List.getElem?_eq_getElem hj)
      exact frz_cell hf (hc x (List.mem_of_getElem? hx))
    cases x with
    | int k m => simp only [frz, Option.some.injEq] at h; subst h; exact hv.cut hg (.int _ _)
    | bool b => simp only [frz, Option.some.injEq] at h; subst h; exact hv.cut hg (.bool _)
    | str s => simp only [frz, Option.some.injEq] at h; subst h; exact hv.cut hg (.str _)
    | nilp => simp only [frz, Option.some.injEq] at h; subst h; exact hv.cut hg .nilp
    | nl k => simp only [frz, Option.some.injEq] at h; subst h; exact hv.cut hg (.nl k)
    | undef => simp only [frz, Option.some.injEq] at h; subst h; exact .undef _
    | ptr id ver off =>
      simp only [frz] at h
      split at h
      · rename_i hid; injection h with h; subst h; exact hv.cut hg (.ptr hid)
      · cases h
    | mp id ver =>
      simp only [frz] at h
      split at h
      · rename_i hid; injection h with h; subst h; exact hv.cut hg (.mp hid)
      · cases h
    | ip xs off =>
      simp only [frz, Option.map_eq_some_iff] at h
      obtain ⟨ys, hm, rfl⟩ := h
      cases hv with
      | ip hl hM hc hR =>
        obtain ⟨l1, l2⟩ := lst hl hR hm
        exact .ip l1 (fun j u hu => hg _ _ _ (hM j u hu)) (cls hc hm) l2
    | slice xs len full =>
      simp only [frz, Option.map_eq_some_iff] at h
      obtain ⟨ys, hm, rfl⟩ := h
      cases hv with
      | slice hl hM hc hR hcap hmax hf =>
        obtain ⟨l1, l2⟩ := lst hl hR hm
        exact .slice l1 (fun j u hu => hg _ _ _ (hM j u hu)) (cls hc hm) l2 hcap hmax (fun hft => by cases hft)
      | sliceN =>
        simp at hm
        subst hm
        exact .sliceN _ _
    | agg cs =>
      simp only [frz, Option.map_eq_some_iff] at h
      obtain ⟨ys, hm, rfl⟩ := h
      cases hv with
      | agg hl hc hR =>
        obtain ⟨l1, l2⟩ := lst hl hR hm
        exact .agg l1 (cls hc hm) l2
    | tup vs =>
      simp only [frz, Option.map_eq_some_iff] at h
      obtain ⟨ys, hm, rfl⟩ := h
      cases hv with
      | tup hl hR =>
        obtain ⟨l1, l2⟩ := lst hl hR hm
        exact .tup l1 l2
    | func f fs cs =>
      simp only [frz] at h
      split at h
      · rename_i fs' cs' h1 h2
        injection h with h
        subst h
        cases hv with
        | func hl hl' hR hR' =>
          obtain ⟨l1, l2⟩ := lst hl hR h1
          obtain ⟨l3, l4⟩ := lst hl' hR' h2
          exact .func l1 l3 l2 l4
      · cases h
    | msl id ver off len sz g =>
      simp only [frz] at h
      split at h
      · rename_i hid; injection h with h; subst h; exact hv.cut hg (.msl hid)
      · rename_i hid
        split at h
        · rename_i k hk
          split at h
          · rename_i hq
            simp only [Option.map_eq_some_iff] at h
            obtain ⟨ys, hm, rfl⟩ := h
            have q2 := hw.ver id k hk
            rw [hq.1] at q2
            obtain ⟨b, cap, off', q1, rfl, hc1, hc2, ho, _⟩ | ⟨ad, hgh, h0, rfl⟩ := inv_msl hw hv q2
            rotate_left
            · subst h0
              simp at hm
              subst hm
              exact .sliceN _ _
            obtain ⟨cur, q3, q5, q6, q7, q8, q9, q10⟩ := hw.blk hk q1
            have hmem : (C.mu.drop n).contains (some b) = true := by
              rw [List.contains_iff_mem]
              refine List.mem_of_getElem? (i := id - n) ?_
              rw [List.getElem?_drop, show n + (id - n) = id by omega]
              exact q1
            have hlen : (((cur.toList.take k.cells.length).drop off).take (len * sz)).length = ((k.cells.drop off).take (len * sz)).length := by simp; omega
            obtain ⟨l1, l2⟩ := lst hlen ((q9.drop off).take (len * sz)) hm
            refine .slice l1 (fun j u hu => ?_) (cls (fun x hx => q6 x (List.mem_of_mem_drop (List.mem_of_mem_take hx))) hm) l2 hc1 hc2 (fun hf => by cases hf)
            show C.given n w b (off' + j) = some u
            unfold Ctx.given
            rw [if_pos hmem]
            rcases Nat.eq_zero_or_pos len with h0 | h0
            · subst h0; simp at hu
            · obtain rfl := ho h0
              have := ((q8.drop off').take (len * sz)) j u hu
              rwa [Nat.zero_add] at this
          · cases h
        · cases h

/-- The tie, once the blocks from n on are given up. -/
theorem WRel.giveN {K : Heap} (h0 : HSc H) (hw : WRel C (H ++ K) w) : CLeN H.length C (C.cut H.length (C.given H.length w)) ∧ WRel (C.cut H.length (C.given H.length w)) H w := by
  have hg := fun b o u => given_of (C := C) hw H.length b o u
  have e1 := hw.len
  have e2 := hw.lenv
  have e3 := hw.lenc
  simp only [List.length_append] at e1 e2 e3
  have tk : ∀ {α : Type} {l : List α} {id : Nat}, id < H.length → (l.take H.length)[id]? = l[id]? := fun hid => by rw [List.getElem?_take, if_pos hid]
  have tk' : ∀ {α : Type} {l : List α} {id : Nat} {v : α}, (l.take H.length)[id]? = some v → id < H.length ∧ l[id]? = some v := fun h => by
    rw [List.getElem?_take] at h
    split at h
    · exact ⟨by assumption, h⟩
    · cases h
  refine ⟨⟨rfl, fun b o u hu => hg _ _ _ hu, rfl, fun b o u hu => ?_, fun b hb => .inl (List.mem_of_mem_take hb), fun id ver hid hv => ?_⟩, ?_⟩
  · simp only [Ctx.cut, Ctx.given] at hu
    split at hu
    · rename_i hm; exact .inr (.inr (List.mem_of_mem_drop (List.contains_iff_mem.1 hm)))
    · exact .inl hu
  · exact ⟨ver, by simp only [Ctx.cut]; rw [tk hid]; exact hv, Nat.le_refl _, fun _ => ⟨by simp only [Ctx.cut]; rw [tk hid], by simp only [Ctx.cut]; rw [tk hid]⟩⟩
  · refine ⟨hw.base, hw.tople, fun b o u hu => ?_, ?_, ?_, ?_, ?_, ?_, ?_, ?_, ?_, fun i j b mi mj ci cj => hw.minj i j b (tk' mi).2 (tk' mj).2 (tk' ci).2 (tk' cj).2⟩
    · simp only [Ctx.cut, Ctx.given] at hu
      split at hu
      · exact hu
      · exact hw.imm _ _ _ hu
    · simp only [Ctx.cut, List.length_take]; omega
    · simp only [Ctx.cut, List.length_take]; omega
    · simp only [Ctx.cut, List.length_take]; omega
    · intro id k hk
      have hid : id < H.length := (List.getElem?_eq_some_iff.1 hk).1
      simp only [Ctx.cut]; rw [tk hid]; exact hw.ver id k (by rw [List.getElem?_append_left hid]; exact hk)
    · intro id k hk hm
      have hid : id < H.length := (List.getElem?_eq_some_iff.1 hk).1
      simp only [Ctx.cut] at hm ⊢
      rw [tk hid] at hm ⊢
      refine (hw.gho id k (by rw [List.getElem?_append_left hid]; exact hk) hm).imp_right ?_
      rintro ⟨b, es, clock, q1, q2, q3, q4, q5⟩
      exact ⟨b, es, clock, q1, q2, q3, q4, fun j x e hx he => (q5 j x e hx he).cut hg (h0 id k hk x (List.mem_of_getElem? hx))⟩
    · intro id k b hk hm
      have hid : id < H.length := (List.getElem?_eq_some_iff.1 hk).1
      obtain ⟨cur, q3, q4, q5, q6, q7, q8⟩ := hw.own id k b (by rw [List.getElem?_append_left hid]; exact hk) (by simp only [Ctx.cut] at hm; rw [tk hid] at hm; exact hm)
      refine ⟨cur, by simp only [Ctx.cut]; rw [tk hid]; exact q3, q4, q5, q6, q7, fun j x u hx hu => ?_⟩
      exact (q8 j x u hx hu).cut hg (h0 id k hk x (List.mem_of_getElem? hx))
    · intro id b hb o
      obtain ⟨hid, hb⟩ := tk' hb
      simp only [Ctx.cut, Ctx.given]
      rw [if_neg ?_]
      · exact hw.disj id b hb o
      · rw [List.contains_iff_mem]
        intro hmem
        obtain ⟨j, hj⟩ := List.mem_iff_getElem?.1 hmem
        rw [List.getElem?_drop] at hj
        have := hw.inj _ _ _ hb hj
        omega
    · intro i j b hi hj
      exact hw.inj i j b (tk' hi).2 (tk' hj).2
theorem WRel.give {K : Heap} {C0 : Ctx} {w0 : World} (h0 : WRel C0 H w0) (hle : CLe C0 C) (hw : WRel C (H ++ K) w) : CLe C0 (C.cut H.length (C.given H.length w)) ∧ WRel (C.cut H.length (C.given H.length w)) H w := by
  obtain ⟨g1, g2⟩ := WRel.giveN h0.hsc hw
  exact ⟨((hle.toN _).trans g1).full h0.lenv, g2⟩

/-! ### giving up, as a relation -/
/-- Point by point. -/
def Pw (R : PV → PV → Prop) (xs ys : List PV) : Prop := ys.length = xs.length ∧ ∀ (j : Nat) (x y : PV), xs[j]? = some x → ys[j]? = some y → R x y
/-- x, its own blocks from n on no longer written, is y. -/
inductive Fz (n : Nat) (H : Heap) : PV → PV → Prop where
  | id {x : PV} (h : Scoped n x) : Fz n H x x
  | slice {xs ys : List PV} {len : Nat} {full full' : Bool} (hl : ys.length = xs.length) (h : ∀ (j : Nat) (x y : PV), xs[j]? = some x → ys[j]? = some y → Fz n H x y) (hf : full' = true → full = true) : Fz n H (.slice xs len full) (.slice ys len full')
  | ip {xs ys : List PV} {off : Nat} (hl : ys.length = xs.length) (h : ∀ (j : Nat) (x y : PV), xs[j]? = some x → ys[j]? = some y → Fz n H x y) : Fz n H (.ip xs off) (.ip ys off)
  | msl {id ver off len sz : Nat} {g : Bool} {k : Blk} {ys : List PV} (hn : n ≤ id) (hk : H[id]? = some k) (hv : k.ver = ver) (ho : off + len * sz ≤ k.cells.length)
      (hl : ys.length = ((k.cells.drop off).take (len * sz)).length) (h : ∀ (j : Nat) (x y : PV), ((k.cells.drop off).take (len * sz))[j]? = some x → ys[j]? = some y → Fz n H x y) : Fz n H (.msl id ver off len sz g) (.slice ys len false)
  | ptr {id ver off : Nat} {k : Blk} {ys : List PV} (hn : n ≤ id) (hk : H[id]? = some k) (hv : k.ver = ver)
      (hl : ys.length = k.cells.length) (h : ∀ (j : Nat) (x y : PV), k.cells[j]? = some x → ys[j]? = some y → Fz n H x y) : Fz n H (.ptr id ver off) (.ip ys off)
  | agg {xs ys : List PV} (hl : ys.length = xs.length) (h : ∀ (j : Nat) (x y : PV), xs[j]? = some x → ys[j]? = some y → Fz n H x y) : Fz n H (.agg xs) (.agg ys)
  | tup {xs ys : List PV} (hl : ys.length = xs.length) (h : ∀ (j : Nat) (x y : PV), xs[j]? = some x → ys[j]? = some y → Fz n H x y) : Fz n H (.tup xs) (.tup ys)
  | func {f : FuncId} {xs ys us vs : List PV} (hl : ys.length = xs.length) (h : ∀ (j : Nat) (x y : PV), xs[j]? = some x → ys[j]? = some y → Fz n H x y)
      (hl' : vs.length = us.length) (h' : ∀ (j : Nat) (x y : PV), us[j]? = some x → vs[j]? = some y → Fz n H x y) : Fz n H (.func f xs us) (.func f ys vs)

theorem Fz.cell {n : Nat} {x y : PV} (h : Fz n H x y) (hc : x.cell = true) : y.cell = true := by
  cases h <;> first | exact hc | rfl | (simp [PV.cell] at hc; done)

theorem Fz.cells {n : Nat} {xs ys : List PV} (hl : ys.length = xs.length) (h : ∀ (j : Nat) (x y : PV), xs[j]? = some x → ys[j]? = some y → Fz n H x y) (hc : ∀ x ∈ xs, x.cell = true) : ∀ y ∈ ys, y.cell = true := fun y hy => by
  obtain ⟨j, hj, rfl⟩ := List.getElem_of_mem hy
  exact (h j _ _ (List.getElem?_eq_getElem (by omega)) (List.getElem?_eq_getElem hj)).cell (hc _ (List.getElem_mem _))

theorem Fz.rels {D : Ctx} {xs ys : List PV} {us : List Value} (hl : ys.length = xs.length) (hul : us.length = xs.length) (hR : Rel C xs us) (ih : ∀ (j : Nat) (x y : PV), xs[j]? = some x → ys[j]? = some y → ∀ {u : Value}, VRel C x u → VRel D y u) : us.length = ys.length ∧ Rel D ys us :=
  ⟨by omega, fun j y u hy hu => by
    have hj : j < xs.length := by have := (List.getElem?_eq_some_iff.1 hy).1; omega
    exact ih j xs[j] y (List.getElem?_eq_getElem hj) hy (hR j _ u (List.getElem?_eq_getElem hj) hu)⟩

theorem Fz.sound {n : Nat} (hw : WRel C H w) {x y : PV} (h : Fz n H x y) : ∀ {u : Value}, VRel C x u → VRel (C.cut n (C.given n w)) y u := by
  have hg := fun b o u => given_of (C := C) hw n b o u
  have mem : ∀ {id b : Nat}, n ≤ id → C.mu[id]? = some (some b) → (C.mu.drop n).contains (some b) = true := fun {id b} hn q1 => by
    rw [List.contains_iff_mem]
    refine List.mem_of_getElem? (i := id - n) ?_
    rw [List.getElem?_drop, show n + (id - n) = id by omega]
    exact q1
  induction h with
  | id hs => intro u hv; exact hv.cut hg hs
  | slice hl h hf ih =>
    intro u hv
    cases hv with
    | slice hul hM hc hR hcap hmax hfu =>
      obtain ⟨l1, l2⟩ := Fz.rels hl hul hR ih
      exact .slice l1 (fun j u hu => hg _ _ _ (hM j u hu)) (Fz.cells hl h hc) l2 hcap hmax (fun e => hfu (hf e))
    | sliceN =>
      have e := List.eq_nil_of_length_eq_zero hl
      subst e
      exact .sliceN _ _
  | ip hl h ih =>
    intro u hv
    cases hv with
    | ip hul hM hc hR =>
      obtain ⟨l1, l2⟩ := Fz.rels hl hul hR ih
      exact .ip l1 (fun j u hu => hg _ _ _ (hM j u hu)) (Fz.cells hl h hc) l2
  | @msl id ver off len sz g k ys hn hk hv' ho hl h ih =>
    intro u hv
    have q2 := hw.ver id k hk
    rw [hv'] at q2
    obtain ⟨b, cap, off', q1, rfl, hc1, hc2, ho', _⟩ | ⟨ad, hgh, h0, rfl⟩ := inv_msl hw hv q2
    · obtain ⟨cur, q3, q5, q6, q7, q8, q9, q10⟩ := hw.blk hk q1
      have hlen : (((cur.toList.take k.cells.length).drop off).take (len * sz)).length = ((k.cells.drop off).take (len * sz)).length := by simp; omega
      obtain ⟨l1, l2⟩ := Fz.rels hl hlen ((q9.drop off).take (len * sz)) ih
      refine .slice l1 (fun j u hu => ?_) (Fz.cells hl h (fun x hx => q6 x (List.mem_of_mem_drop (List.mem_of_mem_take hx)))) l2 hc1 hc2 (fun hf => by cases hf)
      show C.given n w b (off' + j) = some u
      unfold Ctx.given
      rw [if_pos (mem hn q1)]
      rcases Nat.eq_zero_or_pos len with h0 | h0
      · subst h0; simp at hu
      · obtain rfl := ho' h0
        have := ((q8.drop off').take (len * sz)) j u hu
        rwa [Nat.zero_add] at this
    · subst h0
      have e : ys = [] := List.eq_nil_of_length_eq_zero (by rw [hl]; simp)
      subst e
      exact .sliceN _ _
  | @ptr id ver off k ys hn hk hv' hl h ih =>
    intro u hv
    have q2 := hw.ver id k hk
    rw [hv'] at q2
    obtain ⟨b, q1, rfl⟩ := inv_ptr hw hv q2
    obtain ⟨cur, q3, q5, q6, q7, q8, q9, q10⟩ := hw.blk hk q1
    obtain ⟨l1, l2⟩ := Fz.rels hl q10 q9 ih
    have := VRel.ip (C := C.cut n (C.given n w)) (off := off) (b := b) (o := 0) l1 (fun j u hu => by
      show C.given n w b (0 + j) = some u
      unfold Ctx.given
      rw [if_pos (mem hn q1)]
      exact q8 j u hu) (Fz.cells hl h q6) l2
    rwa [Nat.zero_add] at this
  | agg hl h ih =>
    intro u hv
    cases hv with
    | agg hul hc hR =>
      obtain ⟨l1, l2⟩ := Fz.rels hl hul hR ih
      exact .agg l1 (Fz.cells hl h hc) l2
  | tup hl h ih =>
    intro u hv
    cases hv with
    | tup hul hR =>
      obtain ⟨l1, l2⟩ := Fz.rels hl hul hR ih
      exact .tup l1 l2
  | func hl h hl' h' ih ih' =>
    intro u hv
    cases hv with
    | func hul hul' hR hR' =>
      obtain ⟨l1, l2⟩ := Fz.rels hl hul hR ih
      obtain ⟨l3, l4⟩ := Fz.rels hl' hul' hR' ih'
      exact .func l1 l3 l2 l4

/-- A heap cut to its first blocks, what they hold given up. -/
def CutH (H H1 : Heap) : Prop := H1.length ≤ H.length ∧ ∀ (j : Nat) (k1 : Blk), H1[j]? = some k1 → ∃ k, H[j]? = some k ∧ k1.e = k.e ∧ k1.ver = k.ver ∧ k1.cells.length = k.cells.length ∧ ∀ (i : Nat) (x y : PV), k.cells[i]? = some x → k1.cells[i]? = some y → Fz H1.length H x y

theorem WRel.cutN {H1 : Heap} (hw : WRel C H w) (hH : CutH H H1) : CLeN H1.length C (C.cut H1.length (C.given H1.length w)) ∧ WRel (C.cut H1.length (C.given H1.length w)) H1 w := by
  have hg := fun b o u => given_of (C := C) hw H1.length b o u
  have hle := hH.1
  have e1 := hw.len
  have e2 := hw.lenv
  have e3 := hw.lenc
  have tk : ∀ {α : Type} {l : List α} {id : Nat}, id < H1.length → (l.take H1.length)[id]? = l[id]? := fun hid => by rw [List.getElem?_take, if_pos hid]
  have tk' : ∀ {α : Type} {l : List α} {id : Nat} {v : α}, (l.take H1.length)[id]? = some v → id < H1.length ∧ l[id]? = some v := fun h => by
    rw [List.getElem?_take] at h
    split at h
    · exact ⟨by assumption, h⟩
    · cases h
  refine ⟨⟨rfl, fun b o u hu => hg _ _ _ hu, rfl, fun b o u hu => ?_, fun b hb => .inl (List.mem_of_mem_take hb), fun id ver hid hv => ?_⟩, ?_⟩
  · simp only [Ctx.cut, Ctx.given] at hu
    split at hu
    · rename_i hm; exact .inr (.inr (List.mem_of_mem_drop (List.contains_iff_mem.1 hm)))
    · exact .inl hu
  · exact ⟨ver, by simp only [Ctx.cut]; rw [tk hid]; exact hv, Nat.le_refl _, fun _ => ⟨by simp only [Ctx.cut]; rw [tk hid], by simp only [Ctx.cut]; rw [tk hid]⟩⟩
  · refine ⟨hw.base, hw.tople, fun b o u hu => ?_, ?_, ?_, ?_, ?_, ?_, ?_, ?_, ?_, fun i j b mi mj ci cj => hw.minj i j b (tk' mi).2 (tk' mj).2 (tk' ci).2 (tk' cj).2⟩
    · simp only [Ctx.cut, Ctx.given] at hu
      split at hu
      · exact hu
      · exact hw.imm _ _ _ hu
    · simp only [Ctx.cut, List.length_take]; omega
    · simp only [Ctx.cut, List.length_take]; omega
    · simp only [Ctx.cut, List.length_take]; omega
    · intro id k1 hk1
      have hid : id < H1.length := (List.getElem?_eq_some_iff.1 hk1).1
      obtain ⟨k, hk, he, hv, _, _⟩ := hH.2 id k1 hk1
      simp only [Ctx.cut]; rw [tk hid, hv]; exact hw.ver id k hk
    · intro id k1 hk1 hm
      have hid : id < H1.length := (List.getElem?_eq_some_iff.1 hk1).1
      obtain ⟨k, hk, he, hv, hl, hfz⟩ := hH.2 id k1 hk1
      simp only [Ctx.cut] at hm ⊢
      rw [tk hid] at hm ⊢
      rcases hw.gho id k hk hm with ⟨g1, g2⟩ | ⟨b, es, clock, q1, q2, q3, q4, q5⟩
      · exact .inl ⟨g1, List.eq_nil_of_length_eq_zero (by rw [hl, g2]; rfl)⟩
      · refine .inr ⟨b, es, clock, q1, q2, q3, by omega, fun j y e hy he => ?_⟩
        have hj : j < k.cells.length := by have := (List.getElem?_eq_some_iff.1 hy).1; omega
        exact (hfz j _ y (List.getElem?_eq_getElem hj) hy).sound hw (q5 j _ e (List.getElem?_eq_getElem hj) he)
    · intro id k1 b hk1 hm
      have hid : id < H1.length := (List.getElem?_eq_some_iff.1 hk1).1
      obtain ⟨k, hk, he, hv, hl, hc⟩ := hH.2 id k1 hk1
      obtain ⟨cur, q3, q4, q5, q6, q7, q8⟩ := hw.own id k b hk (by simp only [Ctx.cut] at hm; rw [tk hid] at hm; exact hm)
      refine ⟨cur, by simp only [Ctx.cut]; rw [tk hid]; exact q3, q4, by rw [he]; exact q5, Fz.cells hl hc q6, by omega, fun j y u hy hu => ?_⟩
      have hj : j < k.cells.length := by have := (List.getElem?_eq_some_iff.1 hy).1; omega
      exact (hc j _ y (List.getElem?_eq_getElem hj) hy).sound hw (q8 j _ u (List.getElem?_eq_getElem hj) hu)
    · intro id b hb o
      obtain ⟨hid, hb⟩ := tk' hb
      simp only [Ctx.cut, Ctx.given]
      rw [if_neg ?_]
      · exact hw.disj id b hb o
      · rw [List.contains_iff_mem]
        intro hmem
        obtain ⟨j, hj⟩ := List.mem_iff_getElem?.1 hmem
        rw [List.getElem?_drop] at hj
        have := hw.inj _ _ _ hb hj
        omega
    · intro i j b hi hj
      exact hw.inj i j b (tk' hi).2 (tk' hj).2
theorem CLeN.less {n m : Nat} {C C' : Ctx} (h : CLeN n C C') (hm : m ≤ n) : CLeN m C C' := ⟨h.B, h.M, h.top, h.mnew, h.unew, fun id ver hid => h.ids id ver (by omega)⟩

/-! ### from the body to the contract -/
def argFr : List PV → Nat → Fr
  | [], _ => []
  | x :: r, i => (i, x) :: argFr r (i + 1)

theorem get_argFr : ∀ (xs : List PV) (i t : Nat), slot (argFr xs i) t = if i ≤ t then xs.getD (t - i) .undef else .undef
  | [], i, t => by simp [argFr, slot]
  | x :: r, i, t => by
    show (match Nat.beq i t with | true => x | false => slot (argFr r (i + 1)) t) = _
    cases hb : Nat.beq i t with
    | true => rw [Nat.eq_of_beq_eq_true hb]; simp
    | false =>
      have hne : i ≠ t := fun h => by subst h; rw [Nat.beq_refl] at hb; cases hb
      simp only [get_argFr r (i + 1) t]
      by_cases h : i ≤ t
      · have e : t - i = (t - (i + 1)) + 1 := by omega
        rw [if_pos h, if_pos (by omega), e]
        simp
      · rw [if_neg h, if_neg (by omega)]

def presult (P : Program) (F : Nat → PV) (H : Heap) : ResultVar → Option PV
  | .tmp t => some (F t)
  | .cell t ty => match F t with
    | .ptr id ver off => pload P H ty (.ptr id ver off)
    | _ => none
def presults (P : Program) (rs : List ResultVar) (F : Nat → PV) (H : Heap) : Option PV :=
  match rs with
  | [r] => presult P F H r
  | rs => (rs.mapM (presult P F H)).map .tup
def retQ (P : Program) (rs : List ResultVar) (R : PV → Heap → Prop) : Exit → Fr → Heap → Prop
  | .ret, F, H => ∃ v, presults P rs (slot F) H = some v ∧ R v H
  | .normal, F, H => ∃ v, presults P rs (slot F) H = some v ∧ R v H
  | _, _, _ => False

/-- The model's reading of one result. -/
def rsem (tmps : Array Value) : ResultVar → Sem Value
  | .tmp t => pure (tmps.getD t Go.undef)
  | .cell t ty => do loadVar ty (← asAddr (tmps.getD t Go.undef))

theorem presult_sound {f : Nat → PV} {r : ResultVar} {v : PV} (hw : WRel C H w) (hf : FRel C N f a) (h : presult P f H r = some v) : ∃ u, VRel C v u ∧ (rsem a.tmps r).run P w = .ok u w := by
  cases r with
  | tmp t => simp only [presult, Option.some.injEq] at h; subst h; exact ⟨_, hf.2 t, rfl⟩
  | cell t ty =>
    simp only [presult] at h
    split at h
    · rename_i id ver off he
      have hv := hf.2 t
      rw [he] at hv
      have hlive : C.vs[id]? = some ver := by
        simp only [pload] at h
        split at h
        · rename_i k hk
          split at h
          · rename_i hver
            rw [← hver]; exact hw.ver id k hk
          · cases h
        · cases h
      obtain ⟨b, hb, hq⟩ := inv_ptr hw hv hlive
      obtain ⟨u, hu, hr⟩ := pload_sound (P := P) hw hv h
      refine ⟨u, hu, ?_⟩
      rw [hq] at hr
      simpa [rsem, hq, Instr.loadAt, Instr.sureAddr, asAddr] using hr
    · cases h

theorem mapM_len {α β : Type} {f : α → Option β} : ∀ {xs : List α} {ys : List β}, xs.mapM f = some ys → ys.length = xs.length
  | [], ys, h => by simp at h; subst h; rfl
  | x :: xs, ys, h => by
    simp only [List.mapM_cons, Option.bind_eq_bind, Option.pure_def, Option.bind_eq_some_iff, Option.some.injEq] at h
    obtain ⟨y, hy, ys', hys, rfl⟩ := h
    simp [mapM_len hys]

theorem presults_sound {f : Nat → PV} {fn : Func} {v : PV} (hw : WRel C H w) (hf : FRel C N f a) (h : presults P fn.results.toList f H = some v) : ∃ u, VRel C v u ∧ (results fn a.tmps).run P w = .ok u w := by
  have lst : ∀ (rs : List ResultVar) (vs : List PV), rs.mapM (presult P f H) = some vs → ∃ us, VRels C vs us ∧ (rs.mapM (rsem a.tmps)).run P w = .ok us w := by
    intro rs
    induction rs with
    | nil => intro vs h; simp at h; subst h; exact ⟨[], ⟨rfl, fun j x u hx => by simp at hx⟩, by simp⟩
    | cons r rs ih =>
      intro vs h
      simp only [List.mapM_cons, Option.bind_eq_bind, Option.pure_def, Option.bind_eq_some_iff, Option.some.injEq] at h
      obtain ⟨v, hv, vs', hvs, rfl⟩ := h
      obtain ⟨u, hu, hr⟩ := presult_sound hw hf hv
      obtain ⟨us, hus, hrs⟩ := ih vs' hvs
      refine ⟨u :: us, ⟨by simp [hus.1], fun j x u' hx hu' => ?_⟩, ?_⟩
      · cases j with
        | zero => simp at hx hu'; subst hx; subst hu'; exact hu
        | succ j => exact hus.2 j x u' (by simpa using hx) (by simpa using hu')
      · simp [List.mapM_cons, hr, hrs]
  have hres : ∀ us, (fn.results.toList.mapM (rsem a.tmps)).run P w = .ok us w → (results fn a.tmps).run P w = .ok (if h : us.toArray.size = 1 then us.toArray[0] else .tuple us.toArray) w := fun us hus => by
    have e : results fn a.tmps = (do let vs ← fn.results.mapM (rsem a.tmps); pure (if h : vs.size = 1 then vs[0] else .tuple vs)) := by
      unfold results
      congr 1
    rw [e, Array.mapM_eq_mapM_toList]
    simp only [Sem.run_bind, Sem.run_map, hus, Result.andThen_ok, Sem.run_pure]
  unfold presults at h
  split at h
  · rename_i r hr
    obtain ⟨us, hus, hrun⟩ := lst [r] [v] (by simp [List.mapM_cons, h])
    rw [hr] at hres
    have := hres us hrun
    match us, hus with
    | [u], hus => exact ⟨u, hus.2 0 v u rfl rfl, by simpa using this⟩
    | [], hus => simp [VRels] at hus
    | _ :: _ :: _, hus => simp [VRels] at hus
  · rename_i hne
    simp only [Option.map_eq_some_iff] at h
    obtain ⟨vs, hvs, rfl⟩ := h
    obtain ⟨us, hus, hrun⟩ := lst _ vs hvs
    have hl := mapM_len hvs
    have hsz : ¬ us.toArray.size = 1 := by
      intro h1
      have h2 : fn.results.toList.length = 1 := by rw [← hl, ← hus.1]; simpa using h1
      obtain ⟨r, hr⟩ := List.length_eq_one_iff.1 h2
      exact hne r hr
    refine ⟨.tuple us.toArray, .tup hus.1 hus.2, ?_⟩
    rw [hres us hrun]
    simp only [hsz, dite_false]

/-- What a return must come to: the value and the heap as they are; or the value with its own blocks given up; or both cut. -/
def Outs (H : Heap) (R : PV → Heap → Prop) (v' : PV) (H' : Heap) : Prop :=
  R v' H' ∨ (∃ K d v, H' = H ++ K ∧ R v H ∧ frz H.length H' d v' = some v) ∨ (HSc H → ∃ v Hout, R v Hout ∧ H.length ≤ Hout.length ∧ CutH H' Hout ∧ Fz Hout.length H' v' v)
theorem CallEx.intro {f : FuncId} {fn : Func} {c : Code} {args : List PV} {R : PV → Heap → Prop} (hf : P.funcs[f]? = some fn) (hb : fn.body = some c) (hcall : callable P f = true) (hn : args.length ≤ fn.ntmps)
    (h : PW P ⟨fn.ntmps, H⟩ c (argFr args 0) H (retQ P fn.results.toList (Outs H R))) : CallEx P f args H R := by
  refine ⟨hcall, fun C us w hw hargs => calls_of_wp hf hb ?_⟩
  have hfr : FRel C fn.ntmps (slot (argFr args 0)) { tmps := us.toArray ++ Array.replicate (fn.ntmps - us.toArray.size) Go.undef, defers := [] } := by
    refine ⟨by simp [hargs.1]; omega, fun t => ?_⟩
    rw [get_argFr]
    simp only [Nat.zero_le, if_true, Nat.sub_zero]
    by_cases ht : t < args.length
    · have htu : t < us.length := by rw [hargs.1]; exact ht
      have e1 : args.getD t .undef = args[t] := by simp [List.getD, ht]
      have e2 : (us.toArray ++ Array.replicate (fn.ntmps - us.toArray.size) Go.undef).getD t Go.undef = us[t] := by
        rw [Array.getD_eq_getD_getElem?, Array.getElem?_append_left (by simpa using htu)]
        simp [htu]
      rw [e1, e2]
      exact hargs.2 t _ _ (List.getElem?_eq_getElem ht) (List.getElem?_eq_getElem htu)
    · have e1 : args.getD t .undef = .undef := by simp [List.getD, List.getElem?_eq_none (by omega : args.length ≤ t)]
      rw [e1]
      exact .undef _
  refine wp_mono (h hw.hsc C _ w rfl hw hfr) ?_
  rintro e a' w' ⟨C', F', H', q1, q2, q3, q4, q5, q6⟩
  have q1' := q1.full hw.lenv
  have fin : (∃ v', presults P fn.results.toList (slot F') H' = some v' ∧ Outs H R v' H') →
      a'.defers = [] ∧ ∃ u, (results fn a'.tmps).run P w' = .ok u w' ∧ ∃ C'' u' v Hout, R v Hout ∧ CLe C C'' ∧ WRel C'' Hout w' ∧ Below C.B w w' ∧ Ending.returned u = .returned u' ∧ VRel C'' v u' := by
    rintro ⟨v', hv', hR⟩
    obtain ⟨u, hu, hr⟩ := presults_sound q3 q5 hv'
    refine ⟨q2, u, hr, ?_⟩
    rcases hR with hR | ⟨K, d, v, rfl, hR, hfz⟩ | hR
    · exact ⟨C', u, v', H', hR, q1', q3, q4, rfl, hu⟩
    · obtain ⟨g1, g2⟩ := WRel.give hw q1' q3
      exact ⟨_, u, v, H, hR, g1, g2, q4, rfl, frz_sound q3 _ d v' v u hu hfz⟩
    · obtain ⟨v, Hout, hR, hlen, hcut, hfz⟩ := hR hw.hsc
      obtain ⟨g1, g2⟩ := q3.cutN hcut
      exact ⟨_, u, v, Hout, hR, (q1.trans (g1.less hlen)).full hw.lenv, g2, q4, rfl, hfz.sound q3 hu⟩
  cases e with
  | ret => exact fin q6
  | normal => exact fin q6
  | _ => exact q6.elim

/-- What a return must come to: the value and the heap as they are, or the value with its own blocks given up. -/
def Fin (H : Heap) (v : PV) (Hout : Heap) (v' : PV) (H' : Heap) : Prop := (v' = v ∧ H' = Hout) ∨ (∃ K d, H' = H ++ K ∧ Hout = H ∧ frz H.length H' d v' = some v) ∨ (HSc H → H.length ≤ Hout.length ∧ CutH H' Hout ∧ Fz Hout.length H' v' v)

theorem CallOk.body {f : FuncId} {fn : Func} {c : Code} {rs : Array ResultVar} {F0 : Fr} {args : List PV} {v : PV} {Hout : Heap} (hf : P.funcs[f]? = some fn) (hb : fn.body = some c) (hN : fn.ntmps = N) (hrs : fn.results = rs) (hF : argFr args 0 = F0)
    (hcall : callable P f = true) (hn : Nat.ble args.length N = true) (h : PW P ⟨N, H⟩ c F0 H (retQ P rs.toList (Fin H v Hout))) : CallOk P f args H v Hout := by
  subst hN hrs hF
  refine (CallEx.intro hf hb hcall (Nat.le_of_ble_eq_true hn) (h.mono fun e F' H' hq => ?_)).one
  have key : ∀ v' H', Fin H v Hout v' H' → Outs H (fun v' H'' => v' = v ∧ H'' = Hout) v' H' := fun v' H' hf => by
    rcases hf with hf | ⟨K, d, h1, h2, h3⟩ | hf
    · exact .inl hf
    · exact .inr (.inl ⟨K, d, v, h1, ⟨rfl, h2.symm⟩, h3⟩)
    · exact .inr (.inr fun hs => ⟨v, Hout, ⟨rfl, rfl⟩, hf hs⟩)
  cases e with
  | ret => obtain ⟨v', h1, h2⟩ := hq; exact ⟨v', h1, key v' H' h2⟩
  | normal => obtain ⟨v', h1, h2⟩ := hq; exact ⟨v', h1, key v' H' h2⟩
  | _ => exact hq
theorem CallEx.body {f : FuncId} {fn : Func} {c : Code} {rs : Array ResultVar} {F0 : Fr} {args : List PV} {R : PV → Heap → Prop} (hf : P.funcs[f]? = some fn) (hb : fn.body = some c) (hN : fn.ntmps = N) (hrs : fn.results = rs) (hF : argFr args 0 = F0)
    (hcall : callable P f = true) (hn : Nat.ble args.length N = true) (h : PW P ⟨N, H⟩ c F0 H (retQ P rs.toList (Outs H R))) : CallEx P f args H R := by
  subst hN hrs hF
  exact CallEx.intro hf hb hcall (Nat.le_of_ble_eq_true hn) h

section rules
variable {E : Env} {Q : Exit → Fr → Heap → Prop}
theorem PW.reg {id : Nat} {ops : Array Oper} (hd : ops.toList.all (dstOk E.N) = true) (h : ∀ K : Fr → Heap → Prop, (∀ F' H', Q .normal F' H' → K F' H') → vops P ops.toList ops.toList K F H) :
    PW P E (.region id ops false) F H Q := PW.region hd (h _ fun _ _ h => h)
end rules

end Go.Proofs.Ytnjnikafhbholaa.Pm
