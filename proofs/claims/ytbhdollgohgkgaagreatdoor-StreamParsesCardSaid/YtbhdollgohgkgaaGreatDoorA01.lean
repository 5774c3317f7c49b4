/-
  Parts of the proof. No condition.
-/
import Derived.WalkKit
import Derived.WalkSpells
import Derived.WalkLawsBesides
import Derived.Deep.Draws
import Derived.Deep.AppendSrc
import Derived.Great.BuildSlice
namespace Go.Proofs.YtbhdollgohgkgaaGreatDoor.Pm
set_option linter.all false
set_option linter.unusedVariables false
set_option linter.unusedSimpArgs false

def gAlt : List (IntKind × Int) := [0, 8, 16, 24, 1, 9, 2, 10, 17, 25, 32, 40, 48, 56, 57, 49, 41, 33, 26, 18, 3, 11, 4, 12, 19, 27, 34, 42, 50, 58, 35, 43, 51, 59, 20, 28, 5, 13, 6, 14, 21, 29, 36, 44, 52, 60, 37, 45, 53, 61, 22, 30, 7, 15, 23, 31, 38, 46, 54, 62, 39, 47, 55, 63].map fun n => (.i64, n)
def gIntra : List (IntKind × Int) := [8, 16, 19, 22, 26, 27, 29, 34, 16, 16, 22, 24, 27, 29, 34, 37, 19, 22, 26, 27, 29, 34, 34, 38, 22, 22, 26, 27, 29, 34, 37, 40, 22, 26, 27, 29, 32, 35, 40, 48, 26, 27, 29, 32, 35, 40, 48, 58, 26, 27, 29, 34, 38, 46, 56, 69, 27, 29, 35, 38, 46, 56, 69, 83].map fun n => (.u8, n)
def gtab (g : Nat) : Option (List (IntKind × Int)) :=
 if g = 1 then some gAlt else
 if g = 0 then some gIntra else
  none

end Go.Proofs.YtbhdollgohgkgaaGreatDoor.Pm

namespace Go.Proofs.YtbhdollgohgkgaaGreatDoor.Pm
set_option linter.all false
set_option linter.unusedVariables false
set_option linter.unusedSimpArgs false
open Go.RowKit

/-- Abstract values. A slice's and a struct's cells are flat, as the model's are. -/
inductive PV where
  | int (k : IntKind) (n : Int)
  | bool (b : Bool)
  | str (s : List UInt8)
  | nilp
  /-- a pointer into block 'id' of the abstract heap, as that block was at version 'ver' -/
  | ptr (id ver off : Nat)
  /-- a pointer into cells that are never written -/
  | ip (xs : List PV) (off : Nat)
  /-- a slice over cells that are never written; 'full': its capacity is its length -/
  | slice (xs : List PV) (len : Nat) (full : Bool)
  /-- a slice over block 'id' of the abstract heap -/
  | msl (id ver off len sz : Nat) (g : Bool)
  | agg (cs : List PV)
  | tup (vs : List PV)
  | func (f : FuncId) (first captured : List PV)
  /-- a map: block 'id' of the abstract heap, whose cells are its entries, each a pair -/
  | mp (id ver : Nat)
  /-- nil: of a function (0), of an interface (1), of a map (2); from 3 on: a package-level variable's place -/
  | nl (k : Nat)
  /-- the function that a range over a function hands to it: of the loop whose record is object l; the record's slots 'us' and what is known of them -/
  | yl (l : Nat) (us : List Value) (fs : List PV)
  /-- object l, which is no cells (a loop's record, say); it stands in a block without a place alone -/
  | lp (l : Nat) (o : Obj)
  /-- anything -/
  | undef

/-- May it stand in a memory cell? -/
def PV.cell : PV → Bool
  | .agg _ | .tup _ | .undef | .lp _ _ => false
  | _ => true

def PV.cells : PV → List PV
  | .agg cs => cs
  | v => [v]

/-- A block of the abstract heap. -/
structure Blk where
  e : TypeId
  ver : Nat
  cells : List PV

abbrev Heap := List Blk

/-- What ties the abstract heap to memory: 'B': below it nothing is written; 'M': the cells that are never written; of each abstract block its real one, its version, its number of cells. -/
structure Ctx where
  B : Nat
  M : Nat → Nat → Option Value
  /-- 'none': the block has no place in memory (yet, or any more) -/
  mu : List (Option Nat)
  vs : List Nat
  cp : List Nat
  /-- what is known anew is of blocks from here on -/
  top : Nat

def nlV : Nat → Value
  | 0 => .nilFunc
  | 1 => .nilIface
  | 2 => .map none
  | g + 3 => .pointer (some ⟨g, 0, none⟩)
theorem nlV_cell (k : Nat) : (nlV k).oneCell' = true := by
  unfold nlV
  split <;> rfl

inductive VRel (C : Ctx) : PV → Value → Prop where
  | nl (k : Nat) : VRel C (.nl k) (nlV k)
  | yl {l : Nat} {us : List Value} {fs : List PV} (hl : us.length = fs.length) (hR : ∀ (j : Nat) (x : PV) (u : Value), fs[j]? = some x → us[j]? = some u → VRel C x u) : VRel C (.yl l us fs) (.func (.yield l) #[] #[])
  | int (k : IntKind) (n : Int) : VRel C (.int k n) (.int k n)
  | bool (b : Bool) : VRel C (.bool b) (.bool b)
  | str (s : ByteArray) : VRel C (.str s.data.toList) (.string s)
  | nilp : VRel C .nilp (.pointer none)
  | ptr {id ver off b : Nat} (hm : C.mu[id]? = some (some b)) (hv : C.vs[id]? = some ver) : VRel C (.ptr id ver off) (.pointer (some ⟨b, off, none⟩))
  | ptrS {id ver off cur : Nat} (v : Value) (h1 : v.oneCell' = true) (hv : C.vs[id]? = some cur) (hlt : ver < cur) : VRel C (.ptr id ver off) v
  | ip {xs : List PV} {off b o : Nat} {us : List Value} (hl : us.length = xs.length) (hM : ∀ (j : Nat) (u : Value), us[j]? = some u → C.M b (o + j) = some u)
      (hc : ∀ x ∈ xs, x.cell = true) (hR : ∀ (j : Nat) (x : PV) (u : Value), xs[j]? = some x → us[j]? = some u → VRel C x u) : VRel C (.ip xs off) (.pointer (some ⟨b, o + off, none⟩))
  | slice {xs : List PV} {len cap b o : Nat} {full : Bool} {us : List Value} (hl : us.length = xs.length) (hM : ∀ (j : Nat) (u : Value), us[j]? = some u → C.M b (o + j) = some u)
      (hc : ∀ x ∈ xs, x.cell = true) (hR : ∀ (j : Nat) (x : PV) (u : Value), xs[j]? = some x → us[j]? = some u → VRel C x u) (hcap : len ≤ cap) (hmax : cap ≤ maxLen) (hf : full = true → cap = len) :
      VRel C (.slice xs len full) (.slice (some ⟨b, o, none⟩) len cap)
  /-- an empty slice without capacity, wherever it lies -/
  | sliceN (ad : Option Addr) (full : Bool) : VRel C (.slice [] 0 full) (.slice ad 0 0)
  | msl {id ver off len sz b cap : Nat} {g : Bool} (hm : C.mu[id]? = some (some b)) (hv : C.vs[id]? = some ver) (hcap : len ≤ cap) (hmax : cap ≤ maxLen)
      (hg : g = true → off = 0 ∧ C.cp[id]? = some (cap * sz)) : VRel C (.msl id ver off len sz g) (.slice (some ⟨b, off, none⟩) len cap)
  /-- an empty slice over the block, wherever it lies -/
  | mslE {id ver off off' sz b cap : Nat} (hm : C.mu[id]? = some (some b)) (hv : C.vs[id]? = some ver) (hmax : cap ≤ maxLen) : VRel C (.msl id ver off 0 sz false) (.slice (some ⟨b, off', none⟩) 0 cap)
  /-- an empty slice without capacity, over a block without a place -/
  | mslG {id ver off sz : Nat} {g : Bool} (ad : Option Addr) (hm : C.mu[id]? = some none ∧ C.cp[id]? = some 0) (hv : C.vs[id]? = some ver) : VRel C (.msl id ver off 0 sz g) (.slice ad 0 0)
  | mslS {id ver off len sz cur : Nat} {g : Bool} (v : Value) (h1 : v.oneCell' = true) (hv : C.vs[id]? = some cur) (hlt : ver < cur) : VRel C (.msl id ver off len sz g) v
  | mp {id ver b : Nat} (hm : C.mu[id]? = some none) (hv : C.vs[id]? = some ver) (hb : C.cp[id]? = some (b + 1)) : VRel C (.mp id ver) (.map (some b))
  | mpS {id ver cur : Nat} (v : Value) (h1 : v.oneCell' = true) (hv : C.vs[id]? = some cur) (hlt : ver < cur) : VRel C (.mp id ver) v
  | agg {cs : List PV} {us : List Value} (hl : us.length = cs.length) (hc : ∀ x ∈ cs, x.cell = true) (hR : ∀ (j : Nat) (x : PV) (u : Value), cs[j]? = some x → us[j]? = some u → VRel C x u) : VRel C (.agg cs) (.agg us.toArray)
  | tup {vs : List PV} {us : List Value} (hl : us.length = vs.length) (hR : ∀ (j : Nat) (x : PV) (u : Value), vs[j]? = some x → us[j]? = some u → VRel C x u) : VRel C (.tup vs) (.tuple us.toArray)
  | func {f : FuncId} {fs cs : List PV} {us ws : List Value} (hl : us.length = fs.length) (hl' : ws.length = cs.length)
      (hR : ∀ (j : Nat) (x : PV) (u : Value), fs[j]? = some x → us[j]? = some u → VRel C x u) (hR' : ∀ (j : Nat) (x : PV) (u : Value), cs[j]? = some x → ws[j]? = some u → VRel C x u) : VRel C (.func f fs cs) (.func (.func f) us.toArray ws.toArray)
  | undef (v : Value) : VRel C .undef v

def VRels (C : Ctx) (xs : List PV) (us : List Value) : Prop := us.length = xs.length ∧ ∀ (j : Nat) (x : PV) (u : Value), xs[j]? = some x → us[j]? = some u → VRel C x u

/-- More is known, or a block has been appended to. -/
structure CLe (C C' : Ctx) : Prop where
  B : C'.B = C.B
  M : ∀ b o u, C.M b o = some u → C'.M b o = some u
  top : C'.top = C.top
  mnew : ∀ b o u, C'.M b o = some u → C.M b o = some u ∨ C.top ≤ b ∨ some b ∈ C.mu
  unew : ∀ b, some b ∈ C'.mu → some b ∈ C.mu ∨ C.top ≤ b
  ids : ∀ (id ver : Nat), C.vs[id]? = some ver → ∃ ver', C'.vs[id]? = some ver' ∧ ver ≤ ver' ∧ (ver' = ver → C'.mu[id]? = C.mu[id]? ∧ C'.cp[id]? = C.cp[id]?)

theorem CLe.refl (C : Ctx) : CLe C C := ⟨rfl, fun _ _ _ h => h, rfl, fun _ _ _ h => .inl h, fun _ h => .inl h, fun _ ver h => ⟨ver, h, Nat.le_refl _, fun _ => ⟨rfl, rfl⟩⟩⟩
theorem CLe.trans {C C' C'' : Ctx} (h : CLe C C') (k : CLe C' C'') : CLe C C'' := by
  refine ⟨k.B.trans h.B, fun b o u e => k.M _ _ _ (h.M _ _ _ e), k.top.trans h.top, fun b o u e => ?_, fun b e => ?_, fun id ver e => ?_⟩
  · rcases k.mnew b o u e with e | e | e
    · exact h.mnew b o u e
    · exact .inr (.inl (by rw [← h.top]; exact e))
    · rcases h.unew b e with e | e
      all_goals simp_all
  · rcases k.unew b e with e | e
    · exact h.unew b e
    · exact .inr (by rw [← h.top]; exact e)
  obtain ⟨v1, e1, l1, q1⟩ := h.ids id ver e
  obtain ⟨v2, e2, l2, q2⟩ := k.ids id v1 e1
  grind

theorem VRel.mono {C C' : Ctx} (h : CLe C C') {x : PV} {u : Value} (r : VRel C x u) : VRel C' x u := by
  induction r with
  | nl k => exact .nl k
  | yl hl _ ih => exact .yl hl ih
  | int k n => exact .int k n
  | bool b => exact .bool b
  | str s => exact .str s
  | nilp => exact .nilp
  | ptr hm hv =>
    obtain ⟨v', e, l, q⟩ := h.ids _ _ hv
    rcases Nat.eq_or_lt_of_le l with he | he
    · exact .ptr ((q he.symm).1.trans hm) (he ▸ e)
    · exact .ptrS _ rfl e he
  | ptrS v h1 hv hlt =>
    obtain ⟨v', e, l, q⟩ := h.ids _ _ hv
    exact .ptrS v h1 e (by omega)
  | ip hl hM hc _ ih => exact .ip hl (fun j u hu => h.M _ _ _ (hM j u hu)) hc ih
  | slice hl hM hc _ hcap hmax hf ih => exact .slice hl (fun j u hu => h.M _ _ _ (hM j u hu)) hc ih hcap hmax hf
  | sliceN ad full => exact .sliceN ad full
  | msl hm hv hcap hmax hg =>
    obtain ⟨v', e, l, q⟩ := h.ids _ _ hv
    rcases Nat.eq_or_lt_of_le l with he | he
    · exact .msl ((q he.symm).1.trans hm) (he ▸ e) hcap hmax (fun hgt => ⟨(hg hgt).1, (q he.symm).2.trans (hg hgt).2⟩)
    · exact .mslS _ rfl e he
  | mslE hm hv hmax =>
    obtain ⟨v', e, l, q⟩ := h.ids _ _ hv
    rcases Nat.eq_or_lt_of_le l with he | he
    · exact .mslE ((q he.symm).1.trans hm) (he ▸ e) hmax
    · exact .mslS _ rfl e he
  | mslG ad hm hv =>
    obtain ⟨v', e, l, q⟩ := h.ids _ _ hv
    rcases Nat.eq_or_lt_of_le l with he | he
    · exact .mslG ad ⟨(q he.symm).1.trans hm.1, (q he.symm).2.trans hm.2⟩ (he ▸ e)
    · exact .mslS _ rfl e he
  | mslS v h1 hv hlt =>
    obtain ⟨v', e, l, q⟩ := h.ids _ _ hv
    exact .mslS v h1 e (by omega)
  | mp hm hv hb =>
    obtain ⟨v', e, l, q⟩ := h.ids _ _ hv
    rcases Nat.eq_or_lt_of_le l with he | he
    · exact .mp ((q he.symm).1.trans hm) (he ▸ e) ((q he.symm).2.trans hb)
    · exact .mpS _ rfl e he
  | mpS v h1 hv hlt =>
    obtain ⟨v', e, l, q⟩ := h.ids _ _ hv
    exact .mpS v h1 e (by omega)
  | agg hl hc _ ih => exact .agg hl hc ih
  | tup hl _ ih => exact .tup hl ih
  | func hl hl' _ _ ih ih' => exact .func hl hl' ih ih'
  | undef v => exact .undef v

theorem VRels.mono {C C' : Ctx} (h : CLe C C') {xs : List PV} {us : List Value} (r : VRels C xs us) : VRels C' xs us :=
  ⟨r.1, fun j x u hx hu => (r.2 j x u hx hu).mono h⟩

/-- A cell's value fills one cell. -/
theorem VRel.oneCell {C : Ctx} {x : PV} {u : Value} (r : VRel C x u) (hc : x.cell = true) : u.oneCell' = true := by
  cases r <;> first | rfl | assumption | exact nlV_cell _ | (simp [PV.cell] at hc)

def isCl : Obj → Bool
  | .cells _ _ _ => true
  | _ => false
/-- A map of memory, and its entries as the block has them. -/
def MapAt0 (C : Ctx) (w : World) (k : Blk) (p : Option Nat) : Prop :=
  ∃ (b : Nat) (es : Array MapEntry) (clock : Nat), p = some (b + 1) ∧ C.B ≤ b ∧ w.heap[b]? = some (.map es clock) ∧ es.size = k.cells.length ∧
    ∀ (j : Nat) (x : PV) (e : MapEntry), k.cells[j]? = some x → es[j]? = some e → VRel C x (.tuple #[e.key, e.val])
/-- An object that is no cells. -/
def LoopAt (C : Ctx) (w : World) (k : Blk) (p : Option Nat) : Prop :=
  ∃ (b : Nat) (o : Obj), p = some (b + 1) ∧ C.B ≤ b ∧ w.heap[b]? = some o ∧ k.cells = [.lp b o] ∧ isCl o = false
def MapAt (C : Ctx) (w : World) (k : Blk) (p : Option Nat) : Prop := MapAt0 C w k p ∨ LoopAt C w k p
theorem MapAt.mono {C C' : Ctx} (hle : CLe C C') {w w' : World} {k : Blk} {p p' : Option Nat} (hp : p' = p) (hw : ∀ (b : Nat) (o : Obj), isCl o = false → p = some (b + 1) → w.heap[b]? = some o → w'.heap[b]? = some o) (h : MapAt C w k p) : MapAt C' w' k p' := by
  rcases h with ⟨b, es, clock, q1, q2, q3, q4, q5⟩ | ⟨b, r, q1, q2, q3, q4⟩
  · exact .inl ⟨b, es, clock, hp.trans q1, by rw [hle.B]; exact q2, hw b _ rfl q1 q3, q4, fun j x e hx he => (q5 j x e hx he).mono hle⟩
  · exact .inr ⟨b, r, hp.trans q1, by rw [hle.B]; exact q2, hw b _ q4.2 q1 q3, q4⟩
theorem MapAt.lt {C : Ctx} {w : World} {k : Blk} {b : Nat} (h : MapAt C w k (some (b + 1))) : b < w.heap.size := by
  rcases h with ⟨b', es, clock, q1, q2, q3, q4, q5⟩ | ⟨b', r, q1, q2, q3, q4⟩ <;>
  grind

/-- What the package-level variables hold that are read, among what is never written. -/
def Glob (M : Nat → Nat → Option Value) : Prop := ∀ (g : Nat) (l : List (IntKind × Int)), gtab g = some l → ∀ (j : Nat) (x : IntKind × Int), l[j]? = some x → M g j = some (.int x.1 x.2)
theorem Glob.mono {M M' : Nat → Nat → Option Value} (h : Glob M) (hle : ∀ b o u, M b o = some u → M' b o = some u) : Glob M' := fun g l hg j x hx => hle _ _ _ (h g l hg j x hx)
/-- Memory as the abstract heap has it. -/
structure WRel (C : Ctx) (H : Heap) (w : World) : Prop where
  gl : Glob C.M
  base : C.B ≤ w.heap.size
  tople : C.top ≤ w.heap.size
  imm : ∀ b o u, C.M b o = some u → w.cell? ⟨b, o, none⟩ = some u
  len : C.mu.length = H.length
  lenv : C.vs.length = H.length
  lenc : C.cp.length = H.length
  ver : ∀ (id : Nat) (k : Blk), H[id]? = some k → C.vs[id]? = some k.ver
  gho : ∀ (id : Nat) (k : Blk), H[id]? = some k → C.mu[id]? = some none → (C.cp[id]? = some 0 ∧ k.cells = []) ∨ MapAt C w k C.cp[id]?
  own : ∀ (id : Nat) (k : Blk) (b : Nat), H[id]? = some k → C.mu[id]? = some (some b) → ∃ cur, C.cp[id]? = some cur.size ∧ C.B ≤ b ∧
    w.heap[b]? = some (.cells cur k.e (0, 0)) ∧ (∀ x ∈ k.cells, x.cell = true) ∧ k.cells.length ≤ cur.size ∧ ∀ (j : Nat) (x : PV) (u : Value), k.cells[j]? = some x → cur[j]? = some u → VRel C x u
  disj : ∀ (id b : Nat), C.mu[id]? = some (some b) → ∀ o, C.M b o = none
  inj : ∀ (i j b : Nat), C.mu[i]? = some (some b) → C.mu[j]? = some (some b) → i = j
  minj : ∀ (i j b : Nat), C.mu[i]? = some none → C.mu[j]? = some none → C.cp[i]? = some (b + 1) → C.cp[j]? = some (b + 1) → i = j

end Go.Proofs.YtbhdollgohgkgaaGreatDoor.Pm

namespace Go.Proofs.YtbhdollgohgkgaaGreatDoor.Pm
set_option linter.all false
set_option linter.unusedVariables false
set_option linter.unusedSimpArgs false
open Go.RowKit

variable {C : Ctx} {H : Heap} {w : World}

theorem WRel.mu_lt (h : WRel C H w) {id b : Nat} (hm : C.mu[id]? = some (some b)) : b < w.heap.size := by
  have hid : id < H.length := by
    have := (List.getElem?_eq_some_iff.1 hm).1
    have := h.len
    omega
  obtain ⟨cur, _, _, hb, _⟩ := h.own id H[id] b (List.getElem?_eq_getElem hid) hm
  grind

theorem WRel.imm_lt (h : WRel C H w) {b o : Nat} {u : Value} (hm : C.M b o = some u) : b < w.heap.size := World.block_lt_of_cell? w ⟨b, o, none⟩ (h.imm b o u hm)

/-- A map's place is a place. -/
theorem WRel.map_lt (h : WRel C H w) {id b : Nat} (hm : C.mu[id]? = some none) (hc : C.cp[id]? = some (b + 1)) : b < w.heap.size := by
  have hid : id < H.length := by
    have := (List.getElem?_eq_some_iff.1 hm).1
    have := h.len
    omega
  rcases h.gho id H[id] (List.getElem?_eq_getElem hid) hm with ⟨h1, _⟩ | h1
  · simp_all
  · rw [hc] at h1; exact h1.lt
theorem WRel.heap (h : WRel C H w) {w' : World} (he : w'.heap = w.heap) : WRel C H w' := by
  have hcell : ∀ a, w'.cell? a = w.cell? a := fun a => by simp [World.cell?, he]
  exact ⟨h.gl, by rw [he]; exact h.base, by rw [he]; exact h.tople, fun b o u hu => (hcell _).trans (h.imm b o u hu), h.len, h.lenv, h.lenc, h.ver, fun id k hk hm => (h.gho id k hk hm).imp_right (fun m => m.mono (.refl _) rfl (fun b es c _ hb => by rw [he]; exact hb)), fun id k b hk => by rw [he]; exact h.own id k b hk, h.disj, h.inj, h.minj⟩

theorem WRel.drew (h : WRel C H w) : WRel C H w.drew := h.heap rfl

/-- The context behind a new block. -/
def Ctx.more (C : Ctx) (b : Option Nat) (n : Nat) (v : Nat := 0) : Ctx := { C with mu := C.mu ++ [b], vs := C.vs ++ [v], cp := C.cp ++ [n] }
theorem Ctx.le_more (C : Ctx) (b : Option Nat) (n v : Nat) (hb : ∀ b', b = some b' → C.top ≤ b') (h1 : C.mu.length = C.vs.length) (h2 : C.cp.length = C.vs.length) : CLe C (C.more b n v) := by
  refine ⟨rfl, fun _ _ _ h => h, rfl, fun _ _ _ h => .inl h, fun b' h => ?_, fun id ver h => ⟨ver, ?_, Nat.le_refl _, fun _ => ⟨?_, ?_⟩⟩⟩
  all_goals grind [Ctx.more, List.mem_singleton, List.getElem?_eq_some_iff.1, List.getElem?_append_left]

theorem snoc_get {α : Type} {l : List α} {a x : α} {i : Nat} (h : (l ++ [a])[i]? = some x) : (i < l.length ∧ l[i]? = some x) ∨ (i = l.length ∧ x = a) := by
  grind

theorem minj_more (h : WRel C H w) {b : Option Nat} {n v : Nat} (hn : ∀ (p : Nat), b = none → n = p + 1 → ∀ (i : Nat), C.mu[i]? = some none → C.cp[i]? ≠ some (p + 1)) (i j p : Nat) (hi : (C.more b n v).mu[i]? = some none) (hj : (C.more b n v).mu[j]? = some none)
    (ci : (C.more b n v).cp[i]? = some (p + 1)) (cj : (C.more b n v).cp[j]? = some (p + 1)) : i = j := by
  have e1 := h.len
  have e3 := h.lenc
  simp only [Ctx.more] at hi hj ci cj
  rcases snoc_get hi with ⟨li, hi⟩ | ⟨li, hi⟩ <;> rcases snoc_get hj with ⟨lj, hj⟩ | ⟨lj, hj⟩ <;> rcases snoc_get ci with ⟨mi, ci⟩ | ⟨mi, ci⟩ <;> rcases snoc_get cj with ⟨mj, cj⟩ | ⟨mj, cj⟩ <;> first
    | omega
    | exact h.minj i j p hi hj ci cj
    | exact absurd ci (hn p hj.symm cj.symm i hi)
    | exact absurd cj (hn p hi.symm ci.symm j hj)

theorem WRel.allocOwn (h : WRel C H w) (cur : Array Value) (e : TypeId) (xs : List PV) (v : Nat) (hc : ∀ x ∈ xs, x.cell = true) (hl : xs.length ≤ cur.size)
    (hR : ∀ (j : Nat) (x : PV) (u : Value), xs[j]? = some x → cur[j]? = some u → VRel C x u) :
    CLe C (C.more (some w.heap.size) cur.size v) ∧ WRel (C.more (some w.heap.size) cur.size v) (H ++ [⟨e, v, xs⟩]) (w.alloc (.cells cur e)) ∧ Below C.B w (w.alloc (.cells cur e)) := by
  have hle : CLe C (C.more (some w.heap.size) cur.size v) := C.le_more _ _ _ (fun b' e => by injection e with e; rw [← e]; exact h.tople) (h.len.trans h.lenv.symm) (h.lenc.trans h.lenv.symm)
  refine ⟨hle, ?_, (Below.refl _ _).alloc h.base _⟩
  have e1 := h.len
  have e2 := h.lenv
  have e3 := h.lenc
  refine ⟨h.gl.mono hle.M, ?_, ?_, ?_, ?_, ?_, ?_, ?_, ?_, ?_, ?_, ?_, minj_more h (fun _ hp => by cases hp)⟩
  · have := h.base; simp only [Ctx.more, World.size_alloc]; omega
  · have := h.tople; simp only [Ctx.more, World.size_alloc]; omega
  · intro b o u hu
    have hb := h.imm_lt (o := o) hu
    exact (World.cell?_alloc_lt w _ ⟨b, o, none⟩ hb).trans (h.imm b o u hu)
  · simp [Ctx.more, e1]
  · simp [Ctx.more, e2]
  · simp [Ctx.more, e3]
  · intro id k hk
    simp only [Ctx.more]
    rcases snoc_get hk with ⟨hid, hk⟩ | ⟨rfl, rfl⟩
    · rw [List.getElem?_append_left (by omega)]; exact h.ver id k hk
    · simp [← e2]
  · intro id k hk hm
    simp only [Ctx.more] at hm ⊢
    rcases snoc_get hk with ⟨hid, hk⟩ | ⟨rfl, rfl⟩
    · rw [List.getElem?_append_left (by omega)] at hm ⊢; exact (h.gho id k hk hm).imp_right (fun m => m.mono hle rfl (fun b es c hp hb => by rw [Below.heap_alloc _ _ _ (Array.getElem?_eq_some_iff.1 hb).1]; exact hb))
    · simp [← e1] at hm
  · intro id k b hk hm
    simp only [Ctx.more] at hm ⊢
    rcases snoc_get hk with ⟨hid, hk⟩ | ⟨rfl, rfl⟩
    · rw [List.getElem?_append_left (by omega)] at hm
      obtain ⟨c, q3, q4, q5, q6, q7, q8⟩ := h.own id k b hk hm
      exact ⟨c, by rw [List.getElem?_append_left (by omega)]; exact q3, q4, by rw [Below.heap_alloc _ _ _ (h.mu_lt hm)]; exact q5, q6, q7, fun j x u hx hu => (q8 j x u hx hu).mono hle⟩
    · simp [← e1] at hm
      subst hm
      exact ⟨cur, by simp [← e3], h.base, heap_alloc_new w _, hc, hl, fun j x u hx hu => (hR j x u hx hu).mono hle⟩
  · intro id b hb o
    simp only [Ctx.more] at hb ⊢
    rcases snoc_get hb with ⟨hid, hb1⟩ | ⟨rfl, hb1⟩
    · exact h.disj id b hb1 o
    · injection hb1 with hb1
      subst hb1
      cases hM : C.M w.heap.size o with
      | none => rfl
      | some u => exact absurd (h.imm_lt hM) (by omega)
  · intro i j b hi hj
    simp only [Ctx.more] at hi hj
    rcases snoc_get hi with ⟨li, hi⟩ | ⟨li, hi⟩ <;> rcases snoc_get hj with ⟨lj, hj⟩ | ⟨lj, hj⟩
    · exact h.inj i j b hi hj
    · injection hj with hj
      subst hj
      exact absurd (h.mu_lt hi) (by omega)
    · injection hi with hi
      subst hi
      exact absurd (h.mu_lt hj) (by omega)
    · omega


theorem WRel.ghost (h : WRel C H w) (e v : Nat) : CLe C (C.more none 0 v) ∧ WRel (C.more none 0 v) (H ++ [⟨e, v, []⟩]) w := by
  have hle : CLe C (C.more none 0 v) := C.le_more _ _ _ (fun b' e => by cases e) (h.len.trans h.lenv.symm) (h.lenc.trans h.lenv.symm)
  refine ⟨hle, ?_⟩
  have e1 := h.len
  have e2 := h.lenv
  have e3 := h.lenc
  refine ⟨h.gl, h.base, h.tople, h.imm, ?_, ?_, ?_, ?_, ?_, ?_, ?_, ?_, minj_more h (fun _ _ hc => by cases hc)⟩
  · simp [Ctx.more, e1]
  · simp [Ctx.more, e2]
  · simp [Ctx.more, e3]
  · intro id k hk
    simp only [Ctx.more]
    rcases snoc_get hk with ⟨hid, hk⟩ | ⟨rfl, rfl⟩
    · rw [List.getElem?_append_left (by omega)]; exact h.ver id k hk
    simp_all
  · intro id k hk hm
    simp only [Ctx.more] at hm ⊢
    rcases snoc_get hk with ⟨hid, hk⟩ | ⟨rfl, rfl⟩
    · rw [List.getElem?_append_left (by omega)] at hm ⊢; exact (h.gho id k hk hm).imp_right (fun m => m.mono hle rfl (fun b es c hp hb => hb))
    simp_all
  · intro id k b hk hm
    simp only [Ctx.more] at hm ⊢
    rcases snoc_get hk with ⟨hid, hk⟩ | ⟨rfl, rfl⟩
    · rw [List.getElem?_append_left (by omega)] at hm
      obtain ⟨c, q3, q4, q5, q6, q7, q8⟩ := h.own id k b hk hm
      exact ⟨c, by rw [List.getElem?_append_left (by omega)]; exact q3, q4, q5, q6, q7, fun j x u hx hu => (q8 j x u hx hu).mono hle⟩
    simp_all
  · intro id b hb o
    simp only [Ctx.more] at hb ⊢
    rcases snoc_get hb with ⟨hid, hb1⟩ | ⟨rfl, hb1⟩
    · exact h.disj id b hb1 o
    · cases hb1
  · intro i j b hi hj
    simp only [Ctx.more] at hi hj
    rcases snoc_get hi with ⟨li, hi⟩ | ⟨li, hi⟩ <;> rcases snoc_get hj with ⟨lj, hj⟩ | ⟨lj, hj⟩
    · exact h.inj i j b hi hj
    all_goals simp_all

/-- The context behind a new block that is never written. -/
def Ctx.imm (C : Ctx) (b : Nat) (cur : Array Value) : Ctx := { C with M := fun b' o => if b' = b then cur[o]? else C.M b' o }

theorem WRel.allocImm (h : WRel C H w) (cur : Array Value) (e : TypeId) :
    CLe C (C.imm w.heap.size cur) ∧ WRel (C.imm w.heap.size cur) H (w.alloc (.cells cur e)) ∧ Below C.B w (w.alloc (.cells cur e)) := by
  have hle : CLe C (C.imm w.heap.size cur) := by
    refine ⟨rfl, fun b o u hu => ?_, rfl, fun b o u hu => ?_, fun _ h => .inl h, fun id ver hv => ⟨ver, hv, Nat.le_refl _, fun _ => ⟨rfl, rfl⟩⟩⟩
    · have := h.imm_lt hu
      grind [Ctx.imm]
    · simp only [Ctx.imm] at hu
      split at hu
      · rename_i hb; exact .inr (.inl (by rw [hb]; exact h.tople))
      simp_all
  refine ⟨hle, ?_, (Below.refl _ _).alloc h.base _⟩
  refine ⟨h.gl.mono hle.M, ?_, ?_, ?_, h.len, h.lenv, h.lenc, h.ver, fun id k hk hm => (h.gho id k hk hm).imp_right (fun m => m.mono hle rfl (fun b es c hp hb => by rw [Below.heap_alloc _ _ _ (Array.getElem?_eq_some_iff.1 hb).1]; exact hb)), ?_, ?_, h.inj, h.minj⟩
  · have := h.base; simp only [Ctx.imm, World.size_alloc]; omega
  · have := h.tople; simp only [Ctx.imm, World.size_alloc]; omega
  · intro b o u hu
    simp only [Ctx.imm] at hu
    by_cases hb : b = w.heap.size
    · subst hb
      simp only [if_true] at hu
      rw [World.cell?_alloc_at _ _ _ _ rfl]
      exact hu
    · rw [if_neg hb] at hu
      exact (World.cell?_alloc_lt w _ ⟨b, o, none⟩ (h.imm_lt hu)).trans (h.imm b o u hu)
  · intro id k b hk hm
    obtain ⟨c, q3, q4, q5, q6, q7, q8⟩ := h.own id k b hk hm
    exact ⟨c, q3, q4, by rw [Below.heap_alloc _ _ _ (h.mu_lt hm)]; exact q5, q6, q7, fun j x u hx hu => (q8 j x u hx hu).mono hle⟩
  · intro id b hb o
    have := h.mu_lt hb
    simp only [Ctx.imm]
    rw [if_neg (by omega)]
    exact h.disj id b hb o

theorem set_ver {k : Blk} {id ver' : Nat} (hver : k.ver ≤ ver') (hk : H[id]? = some k) (h : WRel C H w) (mu' : List (Option Nat)) (cp' : List Nat) (hmu : ∀ i, i ≠ id → mu'[i]? = C.mu[i]? ∧ cp'[i]? = C.cp[i]?) (hun : ∀ b, some b ∈ mu' → some b ∈ C.mu ∨ C.top ≤ b)
    (hs : k.ver = ver' → mu'[id]? = C.mu[id]? ∧ cp'[id]? = C.cp[id]?) : CLe C { C with mu := mu', vs := C.vs.set id ver', cp := cp' } := by
  have hid : id < H.length := (List.getElem?_eq_some_iff.1 hk).1
  have p2 := h.ver id k hk
  have e2 := h.lenv
  refine ⟨rfl, fun _ _ _ hu => hu, rfl, fun _ _ _ h => .inl h, hun, fun i ver hv => ?_⟩
  by_cases hi : i = id
  · subst hi
    rw [p2] at hv
    injection hv with hv
    exact ⟨ver', by simp [e2, hid], by omega, fun he => hs (by omega)⟩
  · exact ⟨ver, by simp only [List.getElem?_set]; rw [if_neg (by omega)]; exact hv, Nat.le_refl _, fun _ => hmu i hi⟩

/-- A block of the abstract heap is written (its number of cells in memory stays); its version may go up. -/
theorem WRel.write (h : WRel C H w) {id b : Nat} {k : Blk} {cur : Array Value} (hk : H[id]? = some k) (hm : C.mu[id]? = some (some b)) (hb : w.heap[b]? = some (.cells cur k.e (0, 0)))
    (ver' : Nat) (hver : k.ver ≤ ver') (xs : List PV) (cur' : Array Value) (hsz : cur'.size = cur.size) (hc : ∀ x ∈ xs, x.cell = true) (hl : xs.length ≤ cur'.size)
    (hR : ∀ (j : Nat) (x : PV) (u : Value), xs[j]? = some x → cur'[j]? = some u → VRel C x u) :
    CLe C { C with vs := C.vs.set id ver' } ∧ WRel { C with vs := C.vs.set id ver' } (H.set id ⟨k.e, ver', xs⟩) (w.setRow b cur') ∧ Below C.B w (w.setRow b cur') := by
  have hid : id < H.length := (List.getElem?_eq_some_iff.1 hk).1
  obtain ⟨cur0, p3, p4, p5, _⟩ := h.own id k b hk hm
  rw [hb] at p5
  injection p5 with p5
  injection p5 with p5
  subst p5
  have e1 := h.len
  have e2 := h.lenv
  have e3 := h.lenc
  have hle : CLe C { C with vs := C.vs.set id ver' } := set_ver hver hk h C.mu C.cp (fun _ _ => ⟨rfl, rfl⟩) (fun _ h => .inl h) (fun _ => ⟨rfl, rfl⟩)
  refine ⟨hle, ?_, ?_⟩
  · refine ⟨h.gl, ?_, ?_, ?_, ?_, ?_, ?_, ?_, ?_, ?_, h.disj, h.inj, h.minj⟩
    · have := h.base; simp [World.setRow]; exact this
    · have := h.tople; simp [World.setRow]; exact this
    · intro b' o u hu
      have hne : b' ≠ b := by
        rintro rfl
        have := h.disj id b' hm o
        simp_all
      exact (cell_setRow_other w b cur' ⟨b', o, none⟩ hne).trans (h.imm b' o u hu)
    · simp [e1]
    · simp [e2]
    · simp [e3]
    · intro i k' hk'
      by_cases hi : i = id
      · subst hi
        simp [hid] at hk'
        subst hk'
        simp [e2, hid]
      · rw [List.getElem?_set_ne (by omega)] at hk'
        rw [List.getElem?_set_ne (by omega)]
        exact h.ver i k' hk'
    · intro i k' hk' hm'
      by_cases hi : i = id
      · subst hi
        rw [hm] at hm'
        cases hm'
      · rw [List.getElem?_set_ne (by omega)] at hk'
        exact (h.gho i k' hk' hm').imp_right (fun m => m.mono hle rfl (fun b2 es c hp hb2 => by
          have hne : b2 ≠ b := by
            rintro rfl
            rw [hb] at hb2; injection hb2 with hb2; subst hb2; cases c
          rw [setRow_other w b b2 cur' hne]; exact hb2))
    · intro i k' b' hk' hm'
      by_cases hi : i = id
      · subst hi
        simp [hid] at hk'
        subst hk'
        rw [hm] at hm'
        injection hm' with hm'
        injection hm' with hm'
        subst hm'
        exact ⟨cur', by rw [hsz]; exact p3, p4, setRow_heap w b cur cur' k.e _ hb, hc, hl, fun j x u hx hu => (hR j x u hx hu).mono hle⟩
      · rw [List.getElem?_set_ne (by omega)] at hk'
        obtain ⟨c, q3, q4, q5, q6, q7, q8⟩ := h.own i k' b' hk' hm'
        have hne : b' ≠ b := by
          rintro rfl
          exact hi (h.inj i id b' hm' hm)
        exact ⟨c, q3, q4, by rw [setRow_other w b b' cur' hne]; exact q5, q6, q7, fun j x u hx hu => (q8 j x u hx hu).mono hle⟩
  · refine ⟨rfl, rfl, rfl, by simp [World.setRow], fun i hi => setRow_other w b i cur' (by omega)⟩

/-- A block of the abstract heap moves to a new place in memory (an append that grows). -/
theorem WRel.move (h : WRel C H w) {id : Nat} {k : Blk} (hk : H[id]? = some k) (ver' : Nat) (hver : k.ver < ver') (xs : List PV) (cur' : Array Value) (hc : ∀ x ∈ xs, x.cell = true) (hl : xs.length ≤ cur'.size)
    (hR : ∀ (j : Nat) (x : PV) (u : Value), xs[j]? = some x → cur'[j]? = some u → VRel C x u) :
    CLe C { C with mu := C.mu.set id (some w.heap.size), vs := C.vs.set id ver', cp := C.cp.set id cur'.size } ∧
    WRel { C with mu := C.mu.set id (some w.heap.size), vs := C.vs.set id ver', cp := C.cp.set id cur'.size } (H.set id ⟨k.e, ver', xs⟩) (w.alloc (.cells cur' k.e)) ∧
    Below C.B w (w.alloc (.cells cur' k.e)) := by
  have hid : id < H.length := (List.getElem?_eq_some_iff.1 hk).1
  have e1 := h.len
  have e2 := h.lenv
  have e3 := h.lenc
  have hle : CLe C { C with mu := C.mu.set id (some w.heap.size), vs := C.vs.set id ver', cp := C.cp.set id cur'.size } :=
    set_ver (by omega) hk h _ _ (fun i hi => ⟨List.getElem?_set_ne (by omega), List.getElem?_set_ne (by omega)⟩) (fun b hb => by
      rcases List.mem_or_eq_of_mem_set hb with hb | hb
      · exact .inl hb
      · injection hb with hb; exact .inr (by rw [hb]; exact h.tople)) (fun he => by omega)
  refine ⟨hle, ?_, (Below.refl _ _).alloc h.base _⟩
  refine ⟨h.gl, ?_, ?_, ?_, ?_, ?_, ?_, ?_, ?_, ?_, ?_, ?_, ?_⟩
  · have := h.base; simp only [World.size_alloc]; omega
  · have := h.tople; simp only [World.size_alloc]; omega
  · intro b o u hu
    exact (World.cell?_alloc_lt w _ ⟨b, o, none⟩ (h.imm_lt hu)).trans (h.imm b o u hu)
  · simp [e1]
  · simp [e2]
  · simp [e3]
  · intro i k' hk'
    by_cases hi : i = id
    · subst hi
      simp [hid] at hk'
      subst hk'
      simp [e2, hid]
    · rw [List.getElem?_set_ne (by omega)] at hk'
      rw [List.getElem?_set_ne (by omega)]
      exact h.ver i k' hk'
  · intro i k' hk' hm'
    by_cases hi : i = id
    · subst hi
      simp [e1, hid] at hm'
    · rw [List.getElem?_set_ne (by omega)] at hk' hm'
      rw [List.getElem?_set_ne (by omega)]
      exact (h.gho i k' hk' hm').imp_right (fun m => m.mono hle rfl (fun b es c hp hb => by rw [Below.heap_alloc _ _ _ (Array.getElem?_eq_some_iff.1 hb).1]; exact hb))
  · intro i k' b' hk' hm'
    by_cases hi : i = id
    · subst hi
      simp [hid] at hk'
      subst hk'
      simp [e1, hid] at hm'
      subst hm'
      exact ⟨cur', by simp [e3, hid], h.base, heap_alloc_new w _, hc, hl, fun j x u hx hu => (hR j x u hx hu).mono hle⟩
    · rw [List.getElem?_set_ne (by omega)] at hk' hm'
      obtain ⟨c, q3, q4, q5, q6, q7, q8⟩ := h.own i k' b' hk' hm'
      exact ⟨c, by rw [List.getElem?_set_ne (by omega)]; exact q3, q4, by rw [Below.heap_alloc _ _ _ (h.mu_lt hm')]; exact q5, q6, q7, fun j x u hx hu => (q8 j x u hx hu).mono hle⟩
  · intro i b hb o
    by_cases hi : i = id
    · subst hi
      simp [e1, hid] at hb
      subst hb
      cases hM : C.M w.heap.size o with
      | none => rfl
      | some u => exact absurd (h.imm_lt hM) (by omega)
    · simp only [List.getElem?_set_ne (by omega : id ≠ i)] at hb
      exact h.disj i b hb o
  · intro i j b hbi hbj
    by_cases hi : i = id <;> by_cases hj : j = id
    · omega
    · subst hi
      simp [e1, hid] at hbi
      simp only [List.getElem?_set_ne (by omega : i ≠ j)] at hbj
      subst hbi
      exact absurd (h.mu_lt hbj) (by omega)
    · subst hj
      simp [e1, hid] at hbj
      simp only [List.getElem?_set_ne (by omega : j ≠ i)] at hbi
      subst hbj
      exact absurd (h.mu_lt hbi) (by omega)
    · simp only [List.getElem?_set_ne (by omega : id ≠ i)] at hbi
      simp only [List.getElem?_set_ne (by omega : id ≠ j)] at hbj
      exact h.inj i j b hbi hbj
  · have ne : ∀ {i : Nat}, (C.mu.set id (some w.heap.size))[i]? = some none → id ≠ i ∧ C.mu[i]? = some none := fun {i} h => by
      grind
    intro i j b mi mj ci cj
    simp only [List.getElem?_set_ne (ne mi).1] at ci
    simp only [List.getElem?_set_ne (ne mj).1] at cj
    exact h.minj i j b (ne mi).2 (ne mj).2 ci cj

/-- A new map. -/
theorem WRel.allocMap (h : WRel C H w) (e v : Nat) : CLe C (C.more none (w.heap.size + 1) v) ∧ WRel (C.more none (w.heap.size + 1) v) (H ++ [⟨e, v, []⟩]) (w.alloc (.map #[] 0)) ∧ Below C.B w (w.alloc (.map #[] 0)) := by
  have hle : CLe C (C.more none (w.heap.size + 1) v) := C.le_more _ _ _ (fun b' e => by cases e) (h.len.trans h.lenv.symm) (h.lenc.trans h.lenv.symm)
  refine ⟨hle, ?_, (Below.refl _ _).alloc h.base _⟩
  have e1 := h.len
  have e2 := h.lenv
  have e3 := h.lenc
  refine ⟨h.gl.mono hle.M, ?_, ?_, ?_, ?_, ?_, ?_, ?_, ?_, ?_, ?_, ?_, minj_more h (fun p _ hp i hi hc => ?_)⟩
  · have := h.base; simp only [Ctx.more, World.size_alloc]; omega
  · have := h.tople; simp only [Ctx.more, World.size_alloc]; omega
  · intro b o u hu
    have hb := h.imm_lt (o := o) hu
    exact (World.cell?_alloc_lt w _ ⟨b, o, none⟩ hb).trans (h.imm b o u hu)
  · simp [Ctx.more, e1]
  · simp [Ctx.more, e2]
  · simp [Ctx.more, e3]
  · intro id k hk
    simp only [Ctx.more]
    rcases snoc_get hk with ⟨hid, hk⟩ | ⟨rfl, rfl⟩
    · rw [List.getElem?_append_left (by omega)]; exact h.ver id k hk
    simp_all
  · intro id k hk hm
    simp only [Ctx.more] at hm ⊢
    rcases snoc_get hk with ⟨hid, hk⟩ | ⟨rfl, rfl⟩
    · rw [List.getElem?_append_left (by omega)] at hm ⊢
      exact (h.gho id k hk hm).imp_right (fun m => m.mono hle rfl (fun b es c hp hb => by rw [Below.heap_alloc _ _ _ (Array.getElem?_eq_some_iff.1 hb).1]; exact hb))
    · exact .inr (.inl ⟨w.heap.size, #[], 0, by simp [← e3], h.base, heap_alloc_new w _, rfl, fun j x e hx => by simp at hx⟩)
  · intro id k b hk hm
    simp only [Ctx.more] at hm ⊢
    rcases snoc_get hk with ⟨hid, hk⟩ | ⟨rfl, rfl⟩
    · rw [List.getElem?_append_left (by omega)] at hm
      obtain ⟨c, q3, q4, q5, q6, q7, q8⟩ := h.own id k b hk hm
      exact ⟨c, by rw [List.getElem?_append_left (by omega)]; exact q3, q4, by rw [Below.heap_alloc _ _ _ (h.mu_lt hm)]; exact q5, q6, q7, fun j x u hx hu => (q8 j x u hx hu).mono hle⟩
    simp_all
  · intro id b hb o
    simp only [Ctx.more] at hb ⊢
    rcases snoc_get hb with ⟨hid, hb1⟩ | ⟨rfl, hb1⟩
    · exact h.disj id b hb1 o
    · cases hb1
  · intro i j b hi hj
    simp only [Ctx.more] at hi hj
    rcases snoc_get hi with ⟨li, hi⟩ | ⟨li, hi⟩ <;> rcases snoc_get hj with ⟨lj, hj⟩ | ⟨lj, hj⟩
    · exact h.inj i j b hi hj
    all_goals simp_all
  · have := h.map_lt hi hc
    omega

/-- A map of memory is written. -/
theorem WRel.mapSet (h : WRel C H w) {id b : Nat} {k : Blk} {es : Array MapEntry} {clock : Nat} (hk : H[id]? = some k) (hm : C.mu[id]? = some none) (hp : C.cp[id]? = some (b + 1)) (hb : w.heap[b]? = some (.map es clock)) (es' : Array MapEntry) (clock' : Nat) (cs : List PV) (hs : es'.size = cs.length)
    (hR : ∀ (j : Nat) (x : PV) (e : MapEntry), cs[j]? = some x → es'[j]? = some e → VRel C x (.tuple #[e.key, e.val])) :
    WRel C (H.set id ⟨k.e, k.ver, cs⟩) { w with heap := w.heap.setIfInBounds b (.map es' clock') } ∧ Below C.B w { w with heap := w.heap.setIfInBounds b (.map es' clock') } := by
  have hid : id < H.length := (List.getElem?_eq_some_iff.1 hk).1
  have hbl : b < w.heap.size := (Array.getElem?_eq_some_iff.1 hb).1
  have e1 := h.len
  have e2 := h.lenv
  have e3 := h.lenc
  have oth : ∀ b', b' ≠ b → (w.heap.setIfInBounds b (.map es' clock'))[b']? = w.heap[b']? := fun b' hne => by grind
  have hB : C.B ≤ b := by
    rcases h.gho id k hk hm with ⟨h1, _⟩ | ⟨b', _, _, h1, h2, _⟩ | ⟨b', _, h1, h2, _⟩
    all_goals simp_all
  refine ⟨⟨h.gl, ?_, ?_, ?_, ?_, ?_, ?_, ?_, ?_, ?_, h.disj, h.inj, h.minj⟩, rfl, rfl, rfl, by simp, fun i hi => oth i (by omega)⟩
  · have := h.base; simpa using this
  · have := h.tople; simpa using this
  · intro b' o u hu
    have hc := h.imm b' o u hu
    have hne : b' ≠ b := by
      rintro rfl
      simp [World.cell?, hb] at hc
    simp only [World.cell?] at hc ⊢
    rw [oth b' hne]; exact hc
  · simp [e1]
  · simp [e2]
  · simp [e3]
  · intro i k' hk'
    by_cases hi : i = id
    · subst hi
      simp [hid] at hk'
      subst hk'
      exact h.ver i k hk
    · rw [List.getElem?_set_ne (by omega)] at hk'
      exact h.ver i k' hk'
  · intro i k' hk' hm'
    by_cases hi : i = id
    · subst hi
      simp [hid] at hk'
      subst hk'
      exact .inr (.inl ⟨b, es', clock', hp, hB, by simp [hbl], hs, hR⟩)
    · rw [List.getElem?_set_ne (by omega)] at hk'
      exact (h.gho i k' hk' hm').imp_right (fun m => m.mono (.refl _) rfl (fun b2 es2 c2 hp2 hb2 => by
        have hne : b2 ≠ b := by
          rintro rfl
          exact hi (h.minj i id b2 hm' hm hp2 hp)
        rw [oth b2 hne]; exact hb2))
  · intro i k' b' hk' hm'
    by_cases hi : i = id
    · subst hi
      rw [hm] at hm'
      cases hm'
    · rw [List.getElem?_set_ne (by omega)] at hk'
      obtain ⟨c, q3, q4, q5, q6, q7, q8⟩ := h.own i k' b' hk' hm'
      have hne : b' ≠ b := by
        grind
      exact ⟨c, q3, q4, by rw [oth b' hne]; exact q5, q6, q7, q8⟩

end Go.Proofs.YtbhdollgohgkgaaGreatDoor.Pm

namespace Go.Proofs.YtbhdollgohgkgaaGreatDoor.Pm
set_option linter.all false
set_option linter.unusedVariables false
set_option linter.unusedSimpArgs false
open Go.RowKit

/-- A frame: slots and what they hold; the newest first. -/
abbrev Fr := List (Nat × PV)
def slot : Fr → Nat → PV
  | [], _ => .undef
  | (k, v) :: r, t => match Nat.beq k t with | true => v | false => slot r t
def put (F : Fr) (d : Option Nat) (v : PV) : Fr := match d with | none => F | some d => (d, v) :: F

def pv1 : Value → PV
  | .int k n => .int k n
  | .bool b => .bool b
  | .string s => .str s.data.toList
  | .pointer none => .nilp
  | .slice none 0 0 => .slice [] 0 true
  | .nilFunc => .nl 0
  | .nilIface => .nl 1
  | .map none => .nl 2
  | _ => .undef
def pvc : Value → PV
  | .agg cs => match (cs.toList.map pv1).all PV.cell with | true => .agg (cs.toList.map pv1) | false => .undef
  | .tuple vs => .tup (vs.toList.map pv1)
  | v => pv1 v
def ev (F : Nat → PV) : Operand → PV
  | .tmp t => F t
  | .const v => pvc v
  | .func f => .func f [] []
  | .global g => .nl (g + 3)

/-- Facts of the program's table of types. -/
def szT (P : Program) (t : TypeId) : Option Nat := (P.info? t).map (·.size)
def byT (P : Program) (t : TypeId) : Option Nat := (P.info? t).map (·.bytes)
def zrT (P : Program) (t : TypeId) : Option PV := (P.info? t).bind fun i => i.zero.map pvc
def aggT (P : Program) (t : TypeId) : Option Bool :=
  match P.underlying t with
  | some (.struct _) => some true
  | some (.array _ _) => some true
  | some _ => some false
  | none => none

def live (H : Heap) (id ver : Nat) : Bool := match H[id]? with | some k => Nat.beq k.ver ver | none => false

def pint (op : BinOp) (k : IntKind) (a : Int) (k' : IntKind) (b : Int) : Option PV :=
  match op with
  | .shl => if b < 0 then none else some (.int k (k.wrap (a * 2 ^ min b.toNat k.bits)))
  | .shr => if b < 0 then none else some (.int k (a.fdiv (2 ^ min b.toNat k.bits)))
  | .add => if k = k' then some (.int k (k.wrap (a + b))) else none
  | .sub => if k = k' then some (.int k (k.wrap (a - b))) else none
  | .mul => if k = k' then some (.int k (k.wrap (a * b))) else none
  | .quo => if k = k' then (if b = 0 then none else some (.int k (k.wrap (a.tdiv b)))) else none
  | .rem => if k = k' then (if b = 0 then none else some (.int k (a.tmod b))) else none
  | .and => if k = k' then some (.int k (k.wrap (BitVec.ofInt k.bits a &&& BitVec.ofInt k.bits b).toNat)) else none
  | .or => if k = k' then some (.int k (k.wrap (BitVec.ofInt k.bits a ||| BitVec.ofInt k.bits b).toNat)) else none
  | .xor => if k = k' then some (.int k (k.wrap (BitVec.ofInt k.bits a ^^^ BitVec.ofInt k.bits b).toNat)) else none
  | .andNot => if k = k' then some (.int k (k.wrap (BitVec.ofInt k.bits a &&& ~~~BitVec.ofInt k.bits b).toNat)) else none
  | .eql => if k = k' then some (.bool (a == b)) else none
  | .neq => if k = k' then some (.bool (a != b)) else none
  | .lss => if k = k' then some (.bool (decide (a < b))) else none
  | .leq => if k = k' then some (.bool (decide (a ≤ b))) else none
  | .gtr => if k = k' then some (.bool (decide (b < a))) else none
  | .geq => if k = k' then some (.bool (decide (b ≤ a))) else none

def pstr (op : BinOp) (a b : List UInt8) : Option PV :=
  match op with
  | .add => if a.length + b.length ≤ 140737488355328 then some (.str (a ++ b)) else none
  | .eql => some (.bool (a == b))
  | .neq => some (.bool !(a == b))
  | .lss => some (.bool (Op.bytesLess a b))
  | .leq => some (.bool (Op.bytesLess a b || a == b))
  | .gtr => some (.bool !(Op.bytesLess a b || a == b))
  | .geq => some (.bool !(Op.bytesLess a b))
  | _ => none

def peq (op : BinOp) (b : Bool) : Option PV :=
  match op with
  | .eql => some (.bool b)
  | .neq => some (.bool !b)
  | _ => none

def isPtrT (P : Program) (t : TypeId) : Bool := match P.underlying t with | some (.pointer _) => true | _ => false
def isBoolT (P : Program) (t : TypeId) : Bool := match P.underlying t with | some .bool => true | _ => false

def pbin (P : Program) (H : Heap) (op : BinOp) (t : TypeId) (x y : PV) : Option PV :=
  match x, y with
  | .int k a, .int k' b => pint op k a k' b
  | .str a, .str b => pstr op a b
  | .bool a, .bool b => match isBoolT P t with | true => peq op (a == b) | false => none
  | .nilp, .nilp => match isPtrT P t with | true => peq op true | false => none
  | .ptr id ver _, .nilp => match isPtrT P t && live H id ver with | true => peq op false | false => none
  | .nilp, .ptr id ver _ => match isPtrT P t && live H id ver with | true => peq op false | false => none
  | .ip _ _, .nilp => match isPtrT P t with | true => peq op false | false => none
  | .nilp, .ip _ _ => match isPtrT P t with | true => peq op false | false => none
  | _, _ => none

/-- A scalar type. -/
def scalT (P : Program) (t : TypeId) : Option TypeDesc := match P.underlying t with | some (.int k) => some (.int k) | some .bool => some .bool | some .string => some .string | _ => none
/-- The equality of two scalars of a type. -/
def peqS : TypeDesc → PV → PV → Option Bool
  | .int _, .int k a, .int k' b => if k = k' then some (a == b) else none
  | .bool, .bool a, .bool b => some (a == b)
  | .string, .str a, .str b => some (a == b)
  | _, _, _ => none
/-- Scalar cells, one by one. -/
def peqI (u : TypeDesc) : List PV → List PV → Option Bool
  | [], [] => some true
  | x :: xs, y :: ys => match peqS u x y with
    | some c => (peqI u xs ys).map fun r => c && r
    | none => none
  | _, _ => none
def pun (op : UnOp) (x : PV) : Option PV :=
  match op, x with
  | .neg, .int k n => some (.int k (k.wrap (0 - n)))
  | .xor, .int k n => some (.int k (k.wrap (BitVec.ofInt k.bits (if k.signed then -1 else k.max) ^^^ BitVec.ofInt k.bits n).toNat))
  | .not, .bool b => some (.bool !b)
  | _, _ => none

/-- The bytes of cells. -/
def byteOf : PV → Option UInt8
  | .int .u8 n => some (UInt8.ofNat n.toNat)
  | _ => none
def pbytes (xs : List PV) : Option (List UInt8) := xs.mapM byteOf

/-- The cells of a slice: 'n' elements of 'sz' cells. -/
def scells (H : Heap) (sz : Nat) (x : PV) : Option (List PV × Nat) :=
  match x with
  | .slice xs len _ => if xs.length = len * sz then some (xs, len) else none
  | .msl id ver off len _ _ => match H[id]? with
    | some k => if k.ver = ver ∧ off + len * sz ≤ k.cells.length then some ((k.cells.drop off).take (len * sz), len) else none
    | none => none
  | _ => none

def pconv (P : Program) (H : Heap) (src dst : TypeId) (x : PV) : Option PV :=
  match P.underlying src, P.underlying dst, x with
  | some _, some (.int k), .int _ n => some (.int k (k.wrap n))
  | some _, some .string, .str s => some (.str s)
  | some _, some .string, .int _ n => if 0 ≤ n ∧ n < 128 then some (.str [UInt8.ofNat n.toNat]) else none
  | some (.slice e), some .string, x => match P.underlying e with
    | some (.int .u8) => (scells H 1 x).bind fun c => (pbytes c.1).map .str
    | _ => none
  | _, _, _ => none

def splice (xs : List PV) (off : Nat) (ys : List PV) : List PV := xs.take off ++ ys ++ xs.drop (off + ys.length)

/-- A variable of type t at place off of some cells. -/
def rd (P : Program) (t : TypeId) (xs : List PV) (off : Nat) : Option PV :=
  match aggT P t with
  | some true => match szT P t with
    | some n => if off + n ≤ xs.length then some (.agg ((xs.drop off).take n)) else none
    | none => none
  | some false => xs[off]?
  | none => none
/-- What a package-level variable holds. -/
def gload (P : Program) (t : TypeId) : Nat → Option PV
  | g + 3 => match gtab g with
    | some l => rd P t (l.map fun x => .int x.1 x.2) 0
    | none => none
  | _ => none
def pload (P : Program) (H : Heap) (t : TypeId) (x : PV) : Option PV :=
  match x with
  | .nl k => gload P t k
  | .ip xs off => rd P t xs off
  | .ptr id ver off => match H[id]? with
    | some k => if k.ver = ver then rd P t k.cells off else none
    | none => none
  | _ => none
def wr (P : Program) (t : TypeId) (xs : List PV) (off : Nat) (v : PV) : Option (List PV) :=
  match v with
  | .agg cs => if szT P t = some cs.length ∧ off + cs.length ≤ xs.length then some (splice xs off cs) else none
  | v => if szT P t = some 1 ∧ v.cell = true ∧ off < xs.length then some (xs.set off v) else none
def pstore (P : Program) (H : Heap) (t : TypeId) (x v : PV) : Option Heap :=
  match x with
  | .ptr id ver off => match H[id]? with
    | some k => if k.ver = ver then (wr P t k.cells off v).map fun c => H.set id ⟨k.e, k.ver, c⟩ else none
    | none => none
  | _ => none

/-- == on values of a type without pointers. -/
def peqF (eq : TypeId → PV → PV → Option Bool) (P : Program) (xs ys : List PV) : List Field → Option Bool
  | [] => some true
  | f :: r => match decide (f.name = "_") with
    | true => none
    | false => match rd P f.type xs f.offset, rd P f.type ys f.offset with
      | some a, some b => match eq f.type a b with
        | some c => (peqF eq P xs ys r).map fun q => c && q
        | none => none
      | _, _ => none
def peqA (eq : TypeId → PV → PV → Option Bool) (P : Program) (e n : Nat) (xs ys : List PV) : List Nat → Option Bool
  | [] => some true
  | i :: r => match rd P e xs (i * n), rd P e ys (i * n) with
    | some a, some b => match eq e a b with
      | some c => (peqA eq P e n xs ys r).map fun q => c && q
      | none => none
    | _, _ => none
def peqT (P : Program) : Nat → TypeId → PV → PV → Option Bool
  | 0, _, _, _ => none
  | d + 1, t, x, y => match P.underlying t with
    | some (.struct fs) => match x, y with
      | .agg xs, .agg ys => match P.stoodInHeld t with
        | false => peqF (peqT P d) P xs ys fs.toList
        | true => none
      | _, _ => none
    | some (.array len e) => match x, y with
      | .agg xs, .agg ys => match scalT P e with
        | some u => if szT P e = some 1 ∧ xs.length = len ∧ ys.length = len then peqI u xs ys else none
        | none => match szT P e with
          | some n => peqA (peqT P d) P e n xs ys (List.range len)
          | none => none
      | _, _ => none
    | some u => peqS u x y
    | none => none
def peqG (P : Program) (op : BinOp) (t : TypeId) (x y : PV) : Option PV :=
  match P.eqGuardType P.depth t with
  | false => match peqT P 12 t x y with
    | some b => peq op b
    | none => none
  | true => none

def pfieldAddr (P : Program) (H : Heap) (s : TypeId) (x : PV) (f : Nat) : Option PV :=
  match P.underlying s with
  | some (.struct fs) => match fs[f]? with
    | some fd => match szT P fd.type with
      | some n => if 0 < n then match x with
          | .ip xs off => some (.ip xs (off + fd.offset))
          | .ptr id ver off => match live H id ver with | true => some (.ptr id ver (off + fd.offset)) | false => none
          | _ => none
        else none
      | none => none
    | none => none
  | _ => none
def pfield (P : Program) (s : TypeId) (x : PV) (f : Nat) : Option PV :=
  match P.underlying s with
  | some (.struct fs) => match fs[f]? with
    | some fd => match x with
      | .agg cs => rd P fd.type cs fd.offset
      | _ => none
    | none => none
  | _ => none

def pindexAddr (P : Program) (H : Heap) (t : TypeId) (x i : PV) : Option PV :=
  match P.underlying t, x, i with
  | some (.slice e), .slice xs len _, .int _ i => match szT P e with
    | some n => if 0 ≤ i ∧ i < len ∧ len * n ≤ xs.length ∧ 0 < n then some (.ip xs (i.toNat * n)) else none
    | none => none
  | some (.slice e), .msl id ver off len _ _, .int _ i => match szT P e, live H id ver with
    | some n, true => if 0 ≤ i ∧ i < len then some (.ptr id ver (off + i.toNat * n)) else none
    | _, _ => none
  | some (.array len e), .ptr id ver off, .int _ i => match szT P e, live H id ver with
    | some n, true => if 0 ≤ i ∧ i < len then some (.ptr id ver (off + i.toNat * n)) else none
    | _, _ => none
  | some (.array len e), .ip xs off, .int _ i => match szT P e with
    | some n => if 0 ≤ i ∧ i < len then some (.ip xs (off + i.toNat * n)) else none
    | none => none
  | _, _, _ => none
def pindex (P : Program) (t : TypeId) (x i : PV) : Option PV :=
  match P.underlying t, x, i with
  | some (.array len e), .agg cs, .int _ i => match szT P e with
    | some n => if 0 ≤ i ∧ i < len then rd P e cs (i.toNat * n) else none
    | none => none
  | some .string, .str s, .int _ i => if 0 ≤ i ∧ i < s.length then some (.int .u8 ((s.getD i.toNat 0).toNat : Int)) else none
  | _, _, _ => none

/-- A bound of a slice expression. -/
def pbound (d : Nat) : Option PV → Option Nat
  | none => some d
  | some (.int _ i) => if 0 ≤ i then some i.toNat else none
  | some _ => none
def pslice (P : Program) (H : Heap) (t : TypeId) (x : PV) (lo hi mx : Option PV) : Option PV :=
  match P.underlying t, x with
  | some (.slice e), .slice xs len full => match szT P e, pbound 0 lo, pbound len hi with
    | some n, some l, some h => match mx with
      | none => if l ≤ h ∧ h ≤ len ∧ xs.length = len * n then some (.slice ((xs.drop (l * n)).take ((h - l) * n)) (h - l) (full && decide (h = len))) else none
      | some z => match pbound len (some z), hi with
        | some m, some _ => if l ≤ h ∧ h ≤ m ∧ m ≤ len ∧ xs.length = len * n then some (.slice ((xs.drop (l * n)).take ((h - l) * n)) (h - l) (decide (m = h))) else none
        | _, _ => none
    | _, _, _ => none
  | some (.slice e), .msl id ver off len sz g => match szT P e, pbound 0 lo, pbound len hi, mx, live H id ver with
    | some n, some l, some h, none, true => if l ≤ h ∧ h ≤ len then some (.msl id ver (off + l * n) (h - l) sz (match lo with | none => g | some _ => false)) else none
    | _, _, _, _, _ => none
  | some (.array len e), .ptr id ver off => match szT P e, pbound 0 lo, pbound len hi, mx, live H id ver with
    | some n, some l, some h, none, true => if l ≤ h ∧ h ≤ len ∧ len ≤ 1048576 then some (.msl id ver (off + l * n) (h - l) n false) else none
    | _, _, _, _, _ => none
  | some .string, .str s => match pbound 0 lo, pbound s.length hi, mx with
    | some l, some h, none => if l ≤ h ∧ h ≤ s.length then some (.str ((s.drop l).take (h - l))) else none
    | _, _, _ => none
  | _, _ => none

def pfill (place : Nat → Option (Nat × Nat)) (cs : List PV) : List (Nat × PV) → Option (List PV)
  | [] => some cs
  | (i, v) :: rest => match place i with
    | none => none
    | some (off, size) => if v.cells.length = size ∧ off + size ≤ cs.length ∧ v.cells.all PV.cell = true then pfill place (splice cs off v.cells) rest else none
def fieldPlaces (P : Program) (fs : List Field) (i : Nat) : Option (Nat × Nat) :=
  match fs[i]? with
  | some f => (szT P f.type).map fun n => (f.offset, n)
  | none => none
def zcells (P : Program) (t : TypeId) : Option (List PV) := match zrT P t with | some z => (match z.cells.all PV.cell with | true => some z.cells | false => none) | none => none
def pbuild (P : Program) (t : TypeId) (parts : List (Nat × PV)) : Option PV :=
  match P.underlying t, zcells P t with
  | some (.struct fs), some z => match fs.toList.all (fun f => (szT P f.type).isSome) with
    | true => (pfill (fieldPlaces P fs.toList) z parts).map .agg
    | false => none
  | some (.array _ e), some z => match szT P e with
    | some n => (pfill (fun i => some (i * n, n)) z parts).map .agg
    | none => none
  | _, _ => none
def reps (n : Nat) (z : List PV) : List PV := (List.replicate n z).flatten
def pbuildSlice (P : Program) (t : TypeId) (len : Nat) (parts : List (Nat × PV)) : Option PV :=
  match P.underlying t with
  | some (.slice e) => match szT P e, zcells P e with
    | some n, some z => if len = 0 ∧ parts.length = 0 then some (.slice [] 0 true) else if z.length = n ∧ 0 < len * n ∧ len * n ≤ 65536 then (pfill (fun i => some (i * n, n)) (reps len z) parts).map fun c => .slice c len true else none
    | _, _ => none
  | _ => none

def pmake (P : Program) (H : Heap) (t : TypeId) (l c : PV) : Option (PV × Heap) :=
  match P.underlying t, l, c with
  | some (.slice e), .int _ l, .int _ c => match szT P e, byT P e, zcells P e with
    | some n, some b, some z => if 0 ≤ l ∧ l ≤ c ∧ (b : Int) * c ≤ 140737488355328 ∧ c ≤ 140737488355328 ∧ z.length = n ∧ 0 < n then some (.msl H.length 0 0 l.toNat n true, H ++ [⟨e, 0, reps l.toNat z⟩]) else none
    | _, _, _ => none
  | _, _, _ => none

/-- What is appended: the cells and their number of elements. -/
def appSrc (P : Program) (H : Heap) (e sz : Nat) (tx : TypeId) (x : PV) : Option (List PV × Nat) :=
  match P.underlying tx, x with
  | some (.slice _), x => scells H sz x
  | some (.int _), .int _ n => match zcells P e with
    | some z => if 0 ≤ n ∧ n ≤ 1048576 ∧ z.length = sz then some (reps n.toNat z, n.toNat) else none
    | none => none
  | some .string, .str s => if sz = 1 then some (s.map fun b => .int .u8 (b.toNat : Int), s.length) else none
  | _, _ => none
def pappend (P : Program) (H : Heap) (t tx : TypeId) (s x : PV) : Option (PV × Heap) :=
  match P.underlying t with
  | some (.slice e) => match szT P e, byT P e, zcells P e with
    | some sz, some b, some z =>
      if 0 < sz ∧ z.length = sz then
        match appSrc P H e sz tx x with
        | some (news, n) =>
          match s with
          | .slice xs len full =>
            if n = 0 then some (.slice xs len full, H)
            else if full = true ∧ xs.length = len * sz ∧ (len + n) * b ≤ 140737488355328 ∧ len + n ≤ 140737488355328 then some (.msl H.length (xs ++ news).length 0 (len + n) sz true, H ++ [⟨e, (xs ++ news).length, xs ++ news⟩]) else none
          | .msl id ver off len sz' g => match H[id]? with
            | some k =>
              if k.ver = ver ∧ g = true ∧ off = 0 ∧ sz' = sz ∧ k.e = e ∧ k.cells.length = len * sz ∧ k.ver ≤ k.cells.length ∧ (len + n) * b ≤ 140737488355328 ∧ len + n ≤ 140737488355328 then
                (if n = 0 then some (.msl id ver off len sz' g, H) else some (.msl id (k.cells ++ news).length 0 (len + n) sz true, H.set id ⟨e, (k.cells ++ news).length, k.cells ++ news⟩)) else none
            | none => none
          | _ => none
        | none => none
      else none
    | _, _, _ => none
  | _ => none
def pcopy (P : Program) (H : Heap) (t : TypeId) (d x : PV) : Option (PV × Heap) :=
  match P.underlying t with
  | some (.slice e) => match szT P e with
    | some sz => match d with
      | .msl id ver off len _ _ => match H[id]?, scells H sz x with
        | some k, some (ys, n) => if k.ver = ver ∧ off + len * sz ≤ k.cells.length then some (.int .i64 (min n len : Nat), H.set id ⟨k.e, ver, splice k.cells off (ys.take (min n len * sz))⟩) else none
        | _, _ => none
      | .slice _ 0 _ => match scells H sz x with
        | some _ => some (.int .i64 0, H)
        | none => none
      | _ => none
    | none => none
  | _ => none
def plen (P : Program) (H : Heap) (t : TypeId) (x : PV) : Option PV :=
  match P.underlying t, x with
  | some .string, .str s => some (.int .i64 (s.length : Nat))
  | some (.array n _), _ => some (.int .i64 (n : Nat))
  | some (.slice _), .slice _ n _ => some (.int .i64 (n : Nat))
  | some (.slice _), .msl id ver _ n _ _ => match live H id ver with | true => some (.int .i64 (n : Nat)) | false => none
  | _, _ => none
def pmin (x y : PV) : Option PV := match x, y with | .int k a, .int _ b => some (.int k (if b < a then b else a)) | _, _ => none
def pmax (x y : PV) : Option PV := match x, y with | .int k a, .int _ b => some (.int k (if b > a then b else a)) | _, _ => none
def pfold (f : PV → PV → Option PV) : PV → List PV → Option PV
  | x, [] => some x
  | x, y :: r => match f x y with | some z => pfold f z r | none => none
def pbuiltin (P : Program) (H : Heap) (b : Builtin) (ts : List TypeId) (args : List PV) : Option (PV × Heap) :=
  match b, ts, args with
  | .len, [t], [x] => (plen P H t x).map fun v => (v, H)
  | .append, [t, tx], [s, x] => pappend P H t tx s x
  | .copy, [t, _], [d, x] => pcopy P H t d x
  | .min, _, x :: r => (pfold pmin x r).map fun v => (v, H)
  | .max, _, x :: r => (pfold pmax x r).map fun v => (v, H)
  | _, _, _ => none

def pnil (H : Heap) (x : PV) : Option PV :=
  match x with
  | .ptr id ver off => match live H id ver with | true => some (.ptr id ver off) | false => none
  | .ip xs off => some (.ip xs off)
  | .func f a b => some (.func f a b)
  | _ => none

/-- Is it nil, of a slice type? -/
def isNilV : Value → Bool
  | .slice none n m => Nat.beq n 0 && Nat.beq m 0
  | _ => false
def isNilSl : Operand → Bool
  | .const v => isNilV v
  | .tmp _ => false
  | .func _ => false
  | .global _ => false
/-- A slice compared with nil: one that has elements. -/
def pnilcmp (P : Program) (H : Heap) (op : BinOp) (t : TypeId) (x : PV) : Option PV :=
  match P.underlying t with
  | some (.slice _) => match x with
    | .slice _ n _ => if 0 < n then peq op false else none
    | .msl id ver _ n _ _ => if 0 < n ∧ live H id ver = true then peq op false else none
    | _ => none
  | _ => none
/-! ### maps: a map's cells are its entries, each a pair -/
/-- The first entry with a key. -/
def pfind (d : TypeDesc) (k : PV) : List PV → Nat → Option (Option (Nat × PV))
  | [], _ => some none
  | .tup [a, v] :: r, i => match peqS d k a with
    | some true => some (some (i, v))
    | some false => pfind d k r (i + 1)
    | none => none
  | _ :: _, _ => none
def pmapOf (P : Program) (H : Heap) (t : TypeId) (m : PV) : Option (TypeId × TypeDesc × Nat × Blk) :=
  match P.underlying t, m with
  | some (.map kt e), .mp id ver => match scalT P kt, H[id]? with
    | some d, some b => if b.ver = ver then some (e, d, id, b) else none
    | _, _ => none
  | _, _ => none
def plook (P : Program) (H : Heap) (t : TypeId) (m k : PV) (ok : Bool) : Option PV :=
  match pmapOf P H t m with
  | some (e, d, _, b) => match pfind d k b.cells 0 with
    | some (some (_, v)) => some (match ok with | true => .tup [v, .bool true] | false => v)
    | some none => match zrT P e with
      | some z => some (match ok with | true => .tup [z, .bool false] | false => z)
      | none => none
    | none => none
  | none => none
def pmset (P : Program) (H : Heap) (t : TypeId) (m k v : PV) : Option Heap :=
  match pmapOf P H t m with
  | some (_, d, id, b) => match pfind d k b.cells 0 with
    | some (some (i, _)) => some (H.set id ⟨b.e, b.ver, b.cells.set i (.tup [k, v])⟩)
    | some none => some (H.set id ⟨b.e, b.ver, b.cells ++ [.tup [k, v]]⟩)
    | none => none
  | none => none

/-- ONE OPERATION that is no call of a Go function: its value and the heap behind it. -/
def pop (P : Program) (op : Op) (F : Nat → PV) (H : Heap) : Option (PV × Heap) :=
  match op with
  | .move x => some (ev F x, H)
  | .assign x => some (ev F x, H)
  | .pick c a b => match ev F c, ev F a, ev F b with
    | .bool t, .bool p, .bool q => some (.bool (bif t then p else q), H)
    | .bool t, p, q => some (bif t then p else q, H)
    | _, _, _ => none
  | .box elem x => match (ev F x).cells.all PV.cell with | true => some (.ptr H.length 0 0, H ++ [⟨elem, 0, (ev F x).cells⟩]) | false => none
  | .alloc elem => (zcells P elem).map fun z => (.ptr H.length 0 0, H ++ [⟨elem, 0, z⟩])
  | .build t parts => (pbuild P t (parts.toList.map fun p => (p.1, ev F p.2))).map fun v => (v, H)
  | .buildSlice t len parts => (pbuildSlice P t len (parts.toList.map fun p => (p.1, ev F p.2))).map fun v => (v, H)
  | .load t a => (pload P H t (ev F a)).map fun v => (v, H)
  | .store t a x => (pstore P H t (ev F a) (ev F x)).map fun H' => (.tup [], H')
  | .nilCheck x => (pnil H (ev F x)).map fun v => (v, H)
  | .binOp op t x y _ => match isNilSl y with
    | true => (pnilcmp P H op t (ev F x)).map fun v => (v, H)
    | false => match ev F x, ev F y with
      | .agg xs, .agg ys => (peqG P op t (.agg xs) (.agg ys)).map fun v => (v, H)
      | a, b => (pbin P H op t a b).map fun v => (v, H)
  | .unOp op _ x => (pun op (ev F x)).map fun v => (v, H)
  | .convert src dst x => (pconv P H src dst (ev F x)).map fun v => (v, H)
  | .makeFunc (.func f) first captured => some (.func f (first.toList.map (ev F)) (captured.toList.map (ev F)), H)
  | .makeSlice t l c => pmake P H t (ev F l) (ev F c)
  | .slice t x lo hi mx => (pslice P H t (ev F x) (lo.map (ev F)) (hi.map (ev F)) (mx.map (ev F))).map fun v => (v, H)
  | .fieldAddr s x f => (pfieldAddr P H s (ev F x) f).map fun v => (v, H)
  | .field s x f => (pfield P s (ev F x) f).map fun v => (v, H)
  | .indexAddr t x i => (pindexAddr P H t (ev F x) (ev F i)).map fun v => (v, H)
  | .index t x i => (pindex P t (ev F x) (ev F i)).map fun v => (v, H)
  | .makeMap t none => some (.mp H.length 0, H ++ [⟨t, 0, []⟩])
  | .lookup t m k ok => (plook P H t (ev F m) (ev F k) ok).map fun v => (v, H)
  | .mapUpdate t m k x => (pmset P H t (ev F m) (ev F k) (ev F x)).map fun H' => (.tup [], H')
  | .insert t m k x => (pmset P H t (ev F m) (ev F k) (ev F x)).map fun H' => (.tup [], H')
  | .extract x i => match ev F x with | .tup vs => (vs[i]?).map fun v => (v, H) | _ => none
  | .call { callee := .builtin b, args, argTypes } => pbuiltin P H b argTypes.toList (args.toList.map (ev F))
  | _ => none

/-- A call of a Go function: which, and with what. -/
def pcallee (op : Op) (F : Nat → PV) : Option (FuncId × List PV) :=
  match op with
  | .call { callee := .value f, args, .. } => match ev F f with
    | .func f first captured => some (f, first ++ args.toList.map (ev F) ++ captured)
    | _ => none
  | _ => none

end Go.Proofs.YtbhdollgohgkgaaGreatDoor.Pm

namespace Go.Proofs.YtbhdollgohgkgaaGreatDoor.Pm
set_option linter.all false
set_option linter.unusedVariables false
set_option linter.unusedSimpArgs false
open Go.RowKit

variable {P : Program} {C : Ctx} {H : Heap} {w : World} {F : Nat → PV} {a : Act} {N : Nat}

/-- The frame, as the abstract one has it. -/
def FRel (C : Ctx) (N : Nat) (F : Nat → PV) (a : Act) : Prop := a.tmps.size = N ∧ ∀ t, VRel C (F t) (a.tmps.getD t Go.undef)

theorem FRel.mono {C' : Ctx} (h : CLe C C') (r : FRel C N F a) : FRel C' N F a := ⟨r.1, fun t => (r.2 t).mono h⟩

theorem VRel.undefV : VRel C (.tup []) Go.undef := .tup (us := []) rfl (fun j x u hx => by simp at hx)

def upd (F : Nat → PV) (d : Option Nat) (v : PV) : Nat → PV := match d with | none => F | some d => fun t => if d = t then v else F t

theorem get_put (F : Fr) (d : Option Nat) (v : PV) : slot (put F d v) = upd (slot F) d v := by
  cases d with
  | none => rfl
  | some d =>
    funext t
    show (match Nat.beq d t with | true => v | false => slot F t) = if d = t then v else slot F t
    grind [Nat.beq_refl, Nat.beq, Nat.eq_of_beq_eq_true]

theorem FRel.put (r : FRel C N F a) (d : Option Nat) (hd : ∀ t, d = some t → t < N) {v : PV} {u : Value} (hv : VRel C v u) : FRel C N (upd F d v) (a.put d u) := by
  cases d with
  | none => exact r
  | some d =>
    have hlt := hd d rfl
    refine ⟨by simp [Act.put, r.1], fun t => ?_⟩
    simp only [upd, Act.put, Array.getD_eq_getD_getElem?, Array.getElem?_setIfInBounds]
    by_cases h : d = t
    · subst h
      simp [r.1, hlt, hv]
    · simp only [h, if_false]
      have := r.2 t
      simp_all

theorem pv1_rel (v : Value) : VRel C (pv1 v) v := by
  unfold pv1
  split
  all_goals first | exact .int _ _ | exact .bool _ | exact .str _ | exact .nilp | exact .sliceN _ _ | exact .nl 0 | exact .nl 1 | exact .nl 2 | exact .undef _
theorem pvc_rel (v : Value) : VRel C (pvc v) v := by
  unfold pvc
  split
  · rename_i cs
    split
    · rename_i h
      have := VRel.agg (C := C) (cs := cs.toList.map pv1) (us := cs.toList) (by simp) (fun x hx => List.all_eq_true.1 h x hx) (fun j x u hx hu => by
        simp only [List.getElem?_map, hu, Option.map_some, Option.some.injEq] at hx
        subst hx
        exact pv1_rel u)
      omega
    · exact .undef _
  · rename_i vs
    have := VRel.tup (C := C) (vs := vs.toList.map pv1) (us := vs.toList) (by simp) (fun j x u hx hu => by
      simp only [List.getElem?_map, hu, Option.map_some, Option.some.injEq] at hx
      subst hx
      exact pv1_rel u)
    omega
  · exact pv1_rel _

theorem ev_rel (r : FRel C N F a) (x : Operand) : VRel C (ev F x) (a.eval x) := by
  cases x with
  | tmp t => exact r.2 t
  | const v => exact pvc_rel v
  | global g => exact .nl (g + 3)
  | func f => exact .func (us := []) (ws := []) rfl rfl (fun j x u hx => by simp at hx) (fun j x u hx => by simp at hx)

theorem evs_rel (r : FRel C N F a) (xs : List Operand) : VRels C (xs.map (ev F)) (xs.map a.eval) := by
  refine ⟨by simp, fun j x u hx hu => ?_⟩
  grind [Option.map_eq_some_iff, ev_rel]

/-- What an operation must do. -/
def OpOk (P : Program) (o : Oper) (a : Act) (w : World) (C : Ctx) (v : PV) (H' : Heap) : Prop :=
  ∃ C' u w', CLe C C' ∧ WRel C' H' w' ∧ Below C.B w w' ∧ VRel C' v u ∧ ((execOp a.eval o).run P w = .ok (.value u) w' ∨ ((execOp a.eval o).run P w = .ok .skip w' ∧ u = Go.undef))

theorem OpOk.pure {o : Oper} {v : PV} {u : Value} (hw : WRel C H w) (hv : VRel C v u) (hr : (execOp a.eval o).run P w = .ok (.value u) w) : OpOk P o a w C v H :=
  ⟨C, u, w, .refl _, hw, .refl _ _, hv, .inl hr⟩

theorem inv_int {k : IntKind} {n : Int} {v : Value} (h : VRel C (.int k n) v) : v = .int k n := by cases h; rfl
theorem inv_bool {b : Bool} {v : Value} (h : VRel C (.bool b) v) : v = .bool b := by cases h; rfl
theorem inv_nilp {v : Value} (h : VRel C .nilp v) : v = .pointer none := by cases h; rfl
theorem inv_str {s : List UInt8} {v : Value} (h : VRel C (.str s) v) : ∃ t : ByteArray, v = .string t ∧ t.data.toList = s := by cases h; exact ⟨_, rfl, rfl⟩
theorem live_vs (hw : WRel C H w) {id ver : Nat} (h : live H id ver = true) : C.vs[id]? = some ver ∧ ∃ k, H[id]? = some k ∧ k.ver = ver := by
  unfold live at h
  split at h
  · rename_i k hk
    have q2 := hw.ver id k hk
    simp_all
  · cases h

theorem inv_ptr (_hw : WRel C H w) {id ver off : Nat} {v : Value} (hv : VRel C (.ptr id ver off) v) (hl : C.vs[id]? = some ver) : ∃ b, C.mu[id]? = some (some b) ∧ v = .pointer (some ⟨b, off, none⟩) := by
  cases hv with
  | ptr hm _ => exact ⟨_, hm, rfl⟩
  | ptrS _ _ hv' hlt => rw [hl] at hv'; injection hv' with hv'; omega

theorem inv_mp (_hw : WRel C H w) {id ver : Nat} {v : Value} (hv : VRel C (.mp id ver) v) (hl : C.vs[id]? = some ver) : ∃ b, C.mu[id]? = some none ∧ C.cp[id]? = some (b + 1) ∧ v = .map (some b) := by
  cases hv with
  | mp hm _ hb => exact ⟨_, hm, hb, rfl⟩
  | mpS _ _ hv' hlt => rw [hl] at hv'; injection hv' with hv'; omega

theorem inv_msl (_hw : WRel C H w) {id ver off len sz : Nat} {g : Bool} {v : Value} (hv : VRel C (.msl id ver off len sz g) v) (hl : C.vs[id]? = some ver) :
    (∃ b cap off', C.mu[id]? = some (some b) ∧ v = .slice (some ⟨b, off', none⟩) len cap ∧ len ≤ cap ∧ cap ≤ maxLen ∧ (0 < len → off' = off) ∧ (g = true → off = 0 ∧ off' = 0 ∧ C.cp[id]? = some (cap * sz))) ∨
    (∃ ad, (C.mu[id]? = some none ∧ C.cp[id]? = some 0) ∧ len = 0 ∧ v = .slice ad 0 0) := by
  cases hv with
  | msl hm _ hcap hmax hg => exact .inl ⟨_, _, _, hm, rfl, hcap, hmax, fun _ => rfl, fun h => ⟨(hg h).1, (hg h).1, (hg h).2⟩⟩
  | mslG ad hm _ => exact .inr ⟨ad, hm, rfl, rfl⟩
  | mslE hm _ hmax => exact .inl ⟨_, _, _, hm, rfl, Nat.zero_le _, hmax, fun h => absurd h (by omega), fun h => by cases h⟩
  | mslS _ _ hv' hlt => rw [hl] at hv'; injection hv' with hv'; omega

/-! ### integers, strings, comparisons -/
theorem pint_sound {op : BinOp} {k k' : IntKind} {x y : Int} {v : PV} (t : TypeId) (h : pint op k x k' y = some v) : ∃ u, VRel C v u ∧ (binOp op t (.int k x) (.int k' y)).run P w = .ok u w := by
  cases op <;> simp only [pint] at h <;> (repeat' split at h) <;> (try (cases h; done)) <;> (injection h with h; subst h)
  all_goals first
    | (refine ⟨_, .int _ _, ?_⟩; simp_all [binOp, Op.intArith, Op.intDiv, Op.intBits]; done)
    | (refine ⟨_, .bool _, ?_⟩; simp_all [binOp, Op.intCmp]; done)
    | (refine ⟨_, .int _ _, ?_⟩; rename_i hy; simp only [binOp, Op.shift]; rw [if_neg hy]; simp; done)

theorem pint_guard {op : BinOp} {t : TypeId} {x y : Operand} {k k' : IntKind} {m n : Int} : (eqGuard op t x y (.int k m) (.int k' n)).run P w = .ok () w := by
  cases op <;> simp [eqGuard]

theorem pstr_sound {op : BinOp} {x y : ByteArray} {v : PV} (t : TypeId) (h : pstr op x.data.toList y.data.toList = some v) : ∃ u, VRel C v u ∧ (binOp op t (.string x) (.string y)).run P w = .ok u w := by
  have ex := ByteArray.toList_eq x
  have ey := ByteArray.toList_eq y
  cases op <;> simp only [pstr] at h <;> (try (cases h; done))
  case add =>
    split at h
    · rename_i hl
      injection h with h
      subst h
      refine ⟨.string (x ++ y), ?_, ?_⟩
      · have := VRel.str (C := C) (x ++ y)
        simp_all
      · have h1 : x.size = x.data.toList.length := by rfl
        have h2 : y.size = y.data.toList.length := by rfl
        simp [binOp, Op.stringOp]
        omega
    · cases h
  all_goals
    injection h with h
    subst h
    exact ⟨_, .bool _, by simp [binOp, Op.stringOp, ex, ey]⟩

theorem pstr_guard {op : BinOp} {t : TypeId} {x y : Operand} {p q : ByteArray} : (eqGuard op t x y (.string p) (.string q)).run P w = .ok () w := by
  cases op <;> simp [eqGuard]
theorem pbool_guard {op : BinOp} {t : TypeId} {x y : Operand} {p q : Bool} : (eqGuard op t x y (.bool p) (.bool q)).run P w = .ok () w := by
  cases op <;> simp [eqGuard]
theorem pptr_guard {op : BinOp} {t : TypeId} {x y : Operand} {p q : Option Addr} : (eqGuard op t x y (.pointer p) (.pointer q)).run P w = .ok () w := by
  cases op <;> simp [eqGuard]

theorem peq_sound {op : BinOp} {b : Bool} {v : PV} {t : TypeId} {x y : Value} (h : peq op b = some v) (he : (Op.equal t x y).run P w = .ok b w)
    (hop : ∀ o : BinOp, (o = .eql ∨ o = .neq) → binOp o t x y = (match o with | .eql => do pure (.bool (← Op.equal t x y)) | _ => do pure (.bool (!(← Op.equal t x y))))) :
    ∃ u, VRel C v u ∧ (binOp op t x y).run P w = .ok u w := by
  cases op <;> simp only [peq] at h <;> (try (cases h; done)) <;> (injection h with h; subst h)
  · exact ⟨_, .bool _, by rw [hop .eql (.inl rfl)]; simp [he]⟩
  · exact ⟨_, .bool _, by rw [hop .neq (.inr rfl)]; simp [he]⟩

theorem isBool_of {t : TypeId} (h : isBoolT P t = true) : P.underlying t = some .bool := by
  grind [isBoolT]
theorem isPtr_of {t : TypeId} (h : isPtrT P t = true) : ∃ e, P.underlying t = some (.pointer e) := by
  grind [isPtrT]
theorem eqIn_ptr_nil (d : Nat) {t e : TypeId} (hu : P.underlying t = some (.pointer e)) (p : Option Addr) : (Op.equalIn (d + 1) t (.pointer none) (.pointer p)).run P w = .ok p.isNone w := by
  simp [Op.equalIn, run_underlying hu]
theorem eqIn_ptr_nil' (d : Nat) {t e : TypeId} (hu : P.underlying t = some (.pointer e)) (p : Addr) : (Op.equalIn (d + 1) t (.pointer (some p)) (.pointer none)).run P w = .ok false w := by
  simp [Op.equalIn, run_underlying hu]
theorem eq_ptr_nil {t e : TypeId} (hu : P.underlying t = some (.pointer e)) (p : Option Addr) : (Op.equal t (.pointer none) (.pointer p)).run P w = .ok p.isNone w := eqIn_ptr_nil 9999 hu p
theorem eq_ptr_nil' {t e : TypeId} (hu : P.underlying t = some (.pointer e)) (p : Addr) : (Op.equal t (.pointer (some p)) (.pointer none)).run P w = .ok false w := eqIn_ptr_nil' 9999 hu p

theorem pbin_sound {op : BinOp} {t : TypeId} {x y : PV} {p q : Value} {v : PV} (X Y : Operand) (hw : WRel C H w) (hx : VRel C x p) (hy : VRel C y q) (h : pbin P H op t x y = some v) :
    ∃ u, VRel C v u ∧ (do eqGuard op t X Y p q; binOp op t p q : Sem Value).run P w = .ok u w := by
  unfold pbin at h
  split at h
  · obtain rfl := inv_int hx
    obtain rfl := inv_int hy
    obtain ⟨u, hu, hr⟩ := pint_sound (P := P) (C := C) (w := w) t h
    exact ⟨u, hu, by rw [Sem.run_bind, pint_guard, Result.andThen_ok, hr]⟩
  · obtain ⟨s, rfl, rfl⟩ := inv_str hx
    obtain ⟨s', rfl, rfl⟩ := inv_str hy
    obtain ⟨u, hu, hr⟩ := pstr_sound (P := P) (C := C) (w := w) t h
    exact ⟨u, hu, by rw [Sem.run_bind, pstr_guard, Result.andThen_ok, hr]⟩
  · obtain rfl := inv_bool hx
    obtain rfl := inv_bool hy
    split at h
    · rename_i hb
      obtain ⟨u, hu, hr⟩ := peq_sound (P := P) (C := C) (w := w) h (run_equal_bool w t _ _ (isBool_of hb)) (fun o ho => by rcases ho with rfl | rfl <;> rfl)
      exact ⟨u, hu, by rw [Sem.run_bind, pbool_guard, Result.andThen_ok, hr]⟩
    · cases h
  · obtain rfl := inv_nilp hx
    obtain rfl := inv_nilp hy
    split at h
    · rename_i hb
      obtain ⟨e, he⟩ := isPtr_of hb
      obtain ⟨u, hu, hr⟩ := peq_sound (P := P) (C := C) (w := w) h (eq_ptr_nil he none) (fun o ho => by rcases ho with rfl | rfl <;> rfl)
      exact ⟨u, hu, by rw [Sem.run_bind, pptr_guard, Result.andThen_ok, hr]⟩
    · cases h
  · split at h
    · rename_i hb
      simp only [Bool.and_eq_true] at hb
      obtain ⟨e, he⟩ := isPtr_of hb.1
      obtain ⟨b, _, rfl⟩ := inv_ptr hw hx (live_vs hw hb.2).1
      obtain rfl := inv_nilp hy
      obtain ⟨u, hu, hr⟩ := peq_sound (P := P) (C := C) (w := w) h (eq_ptr_nil' he _) (fun o ho => by rcases ho with rfl | rfl <;> rfl)
      exact ⟨u, hu, by rw [Sem.run_bind, pptr_guard, Result.andThen_ok, hr]⟩
    · cases h
  · split at h
    · rename_i hb
      simp only [Bool.and_eq_true] at hb
      obtain ⟨e, he⟩ := isPtr_of hb.1
      obtain ⟨b, _, rfl⟩ := inv_ptr hw hy (live_vs hw hb.2).1
      obtain rfl := inv_nilp hx
      obtain ⟨u, hu, hr⟩ := peq_sound (P := P) (C := C) (w := w) h (show (Op.equal t (.pointer none) (.pointer (some _))).run P w = .ok false w from eq_ptr_nil he (some _)) (fun o ho => by rcases ho with rfl | rfl <;> rfl)
      exact ⟨u, hu, by rw [Sem.run_bind, pptr_guard, Result.andThen_ok, hr]⟩
    · cases h
  · split at h
    · rename_i hb
      obtain ⟨e, he⟩ := isPtr_of hb
      obtain rfl := inv_nilp hy
      cases hx
      obtain ⟨u, hu, hr⟩ := peq_sound (P := P) (C := C) (w := w) h (eq_ptr_nil' he _) (fun o ho => by rcases ho with rfl | rfl <;> rfl)
      exact ⟨u, hu, by rw [Sem.run_bind, pptr_guard, Result.andThen_ok, hr]⟩
    · cases h
  · split at h
    · rename_i hb
      obtain ⟨e, he⟩ := isPtr_of hb
      obtain rfl := inv_nilp hx
      cases hy
      obtain ⟨u, hu, hr⟩ := peq_sound (P := P) (C := C) (w := w) h (show (Op.equal t (.pointer none) (.pointer (some _))).run P w = .ok false w from eq_ptr_nil he (some _)) (fun o ho => by rcases ho with rfl | rfl <;> rfl)
      exact ⟨u, hu, by rw [Sem.run_bind, pptr_guard, Result.andThen_ok, hr]⟩
    · cases h
  · cases h

theorem pun_sound {op : UnOp} {x v : PV} {p : Value} (hx : VRel C x p) (h : pun op x = some v) : ∃ u, VRel C v u ∧ (Op.unary op p).run P w = .ok u w := by
  unfold pun at h
  split at h
  · obtain rfl := inv_int hx
    injection h with h
    subst h
    exact ⟨_, .int _ _, by simp [Op.unary, Op.intArith]⟩
  · obtain rfl := inv_int hx
    injection h with h
    subst h
    exact ⟨_, .int _ _, by simp [Op.unary, Op.intBits]⟩
  · obtain rfl := inv_bool hx
    injection h with h
    subst h
    exact ⟨_, .bool _, by simp [Op.unary]⟩
  · cases h

end Go.Proofs.YtbhdollgohgkgaaGreatDoor.Pm
