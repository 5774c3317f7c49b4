/-
  A small program logic over abstract values: definitions (abstract values, the abstract heap, what they mean in the model's memory) and their first laws. No condition. Program-independent.
-/
import Derived.WalkKit
import Derived.WalkSpells
import Derived.WalkLawsBesides
import Derived.Deep.Draws
import Derived.Deep.AppendSrc
import Derived.Great.BuildSlice
import Derived.Test.YtahomnplappbpaaGreatDoorTab
namespace Go.Proofs.YtahomnplappbpaaGreatDoor.Pm
set_option linter.all false
set_option linter.unusedVariables false
set_option linter.unusedSimpArgs false
open Go.RowKit

/-- Abstract values. A slice's and a struct's cells are flat, as the model's are. -/
inductive PV where
  | int (k : IntKind) (n : Int)
  | bool (b : Bool)
  | str (s : List UInt8)
  | nilp
  /-- a pointer into block 'id' of the abstract heap, as that block was at version 'ver' -/
  | ptr (id ver off : Nat)
  /-- a pointer into cells that are never written -/
  | ip (xs : List PV) (off : Nat)
  /-- a slice over cells that are never written; 'full': its capacity is its length -/
  | slice (xs : List PV) (len : Nat) (full : Bool)
  /-- a slice over block 'id' of the abstract heap -/
  | msl (id ver off len sz : Nat) (g : Bool)
  | agg (cs : List PV)
  | tup (vs : List PV)
  | func (f : FuncId) (first captured : List PV)
  /-- a map: block 'id' of the abstract heap, whose cells are its entries, each a pair -/
  | mp (id ver : Nat)
  /-- nil: of a function (0), of an interface (1), of a map (2); from 3 on: a package-level variable's place -/
  | nl (k : Nat)
  /-- the function that a range over a function hands to it: of the loop whose record is object l; the record's slots 'us' and what is known of them -/
  | yl (l : Nat) (us : List Value) (fs : List PV)
  /-- object l, which is no cells (a loop's record, say); it stands in a block without a place alone -/
  | lp (l : Nat) (o : Obj)
  /-- anything -/
  | undef

/-- May it stand in a memory cell? -/
def PV.cell : PV → Bool
  | .agg _ | .tup _ | .undef | .lp _ _ => false
  | _ => true

def PV.cells : PV → List PV
  | .agg cs => cs
  | v => [v]

/-- A block of the abstract heap. -/
structure Blk where
  e : TypeId
  ver : Nat
  cells : List PV

abbrev Heap := List Blk

/-- What ties the abstract heap to memory: 'B': below it nothing is written; 'M': the cells that are never written; of each abstract block its real one, its version, its number of cells. -/
structure Ctx where
  B : Nat
  M : Nat → Nat → Option Value
  /-- 'none': the block has no place in memory (yet, or any more) -/
  mu : List (Option Nat)
  vs : List Nat
  cp : List Nat
  /-- what is known anew is of blocks from here on -/
  top : Nat

def nlV : Nat → Value
  | 0 => .nilFunc
  | 1 => .nilIface
  | 2 => .map none
  | g + 3 => .pointer (some ⟨g, 0, none⟩)
theorem nlV_cell (k : Nat) : (nlV k).oneCell' = true := by
  unfold nlV
  split <;> rfl

inductive VRel (C : Ctx) : PV → Value → Prop where
  | nl (k : Nat) : VRel C (.nl k) (nlV k)
  | yl {l : Nat} {us : List Value} {fs : List PV} (hl : us.length = fs.length) (hR : ∀ (j : Nat) (x : PV) (u : Value), fs[j]? = some x → us[j]? = some u → VRel C x u) : VRel C (.yl l us fs) (.func (.yield l) #[] #[])
  | int (k : IntKind) (n : Int) : VRel C (.int k n) (.int k n)
  | bool (b : Bool) : VRel C (.bool b) (.bool b)
  | str (s : ByteArray) : VRel C (.str s.data.toList) (.string s)
  | nilp : VRel C .nilp (.pointer none)
  | ptr {id ver off b : Nat} (hm : C.mu[id]? = some (some b)) (hv : C.vs[id]? = some ver) : VRel C (.ptr id ver off) (.pointer (some ⟨b, off, none⟩))
  | ptrS {id ver off cur : Nat} (v : Value) (h1 : v.oneCell' = true) (hv : C.vs[id]? = some cur) (hlt : ver < cur) : VRel C (.ptr id ver off) v
  | ip {xs : List PV} {off b o : Nat} {us : List Value} (hl : us.length = xs.length) (hM : ∀ (j : Nat) (u : Value), us[j]? = some u → C.M b (o + j) = some u)
      (hc : ∀ x ∈ xs, x.cell = true) (hR : ∀ (j : Nat) (x : PV) (u : Value), xs[j]? = some x → us[j]? = some u → VRel C x u) : VRel C (.ip xs off) (.pointer (some ⟨b, o + off, none⟩))
  | slice {xs : List PV} {len cap b o : Nat} {full : Bool} {us : List Value} (hl : us.length = xs.length) (hM : ∀ (j : Nat) (u : Value), us[j]? = some u → C.M b (o + j) = some u)
      (hc : ∀ x ∈ xs, x.cell = true) (hR : ∀ (j : Nat) (x : PV) (u : Value), xs[j]? = some x → us[j]? = some u → VRel C x u) (hcap : len ≤ cap) (hmax : cap ≤ maxLen) (hf : full = true → cap = len) :
      VRel C (.slice xs len full) (.slice (some ⟨b, o, none⟩) len cap)
  /-- an empty slice without capacity, wherever it lies -/
  | sliceN (ad : Option Addr) (full : Bool) : VRel C (.slice [] 0 full) (.slice ad 0 0)
  | msl {id ver off len sz b cap : Nat} {g : Bool} (hm : C.mu[id]? = some (some b)) (hv : C.vs[id]? = some ver) (hcap : len ≤ cap) (hmax : cap ≤ maxLen)
      (hg : g = true → off = 0 ∧ C.cp[id]? = some (cap * sz)) : VRel C (.msl id ver off len sz g) (.slice (some ⟨b, off, none⟩) len cap)
  /-- an empty slice over the block, wherever it lies -/
  | mslE {id ver off off' sz b cap : Nat} (hm : C.mu[id]? = some (some b)) (hv : C.vs[id]? = some ver) (hmax : cap ≤ maxLen) : VRel C (.msl id ver off 0 sz false) (.slice (some ⟨b, off', none⟩) 0 cap)
  /-- an empty slice without capacity, over a block without a place -/
  | mslG {id ver off sz : Nat} {g : Bool} (ad : Option Addr) (hm : C.mu[id]? = some none ∧ C.cp[id]? = some 0) (hv : C.vs[id]? = some ver) : VRel C (.msl id ver off 0 sz g) (.slice ad 0 0)
  | mslS {id ver off len sz cur : Nat} {g : Bool} (v : Value) (h1 : v.oneCell' = true) (hv : C.vs[id]? = some cur) (hlt : ver < cur) : VRel C (.msl id ver off len sz g) v
  | mp {id ver b : Nat} (hm : C.mu[id]? = some none) (hv : C.vs[id]? = some ver) (hb : C.cp[id]? = some (b + 1)) : VRel C (.mp id ver) (.map (some b))
  | mpS {id ver cur : Nat} (v : Value) (h1 : v.oneCell' = true) (hv : C.vs[id]? = some cur) (hlt : ver < cur) : VRel C (.mp id ver) v
  | agg {cs : List PV} {us : List Value} (hl : us.length = cs.length) (hc : ∀ x ∈ cs, x.cell = true) (hR : ∀ (j : Nat) (x : PV) (u : Value), cs[j]? = some x → us[j]? = some u → VRel C x u) : VRel C (.agg cs) (.agg us.toArray)
  | tup {vs : List PV} {us : List Value} (hl : us.length = vs.length) (hR : ∀ (j : Nat) (x : PV) (u : Value), vs[j]? = some x → us[j]? = some u → VRel C x u) : VRel C (.tup vs) (.tuple us.toArray)
  | func {f : FuncId} {fs cs : List PV} {us ws : List Value} (hl : us.length = fs.length) (hl' : ws.length = cs.length)
      (hR : ∀ (j : Nat) (x : PV) (u : Value), fs[j]? = some x → us[j]? = some u → VRel C x u) (hR' : ∀ (j : Nat) (x : PV) (u : Value), cs[j]? = some x → ws[j]? = some u → VRel C x u) : VRel C (.func f fs cs) (.func (.func f) us.toArray ws.toArray)
  | undef (v : Value) : VRel C .undef v

def VRels (C : Ctx) (xs : List PV) (us : List Value) : Prop := us.length = xs.length ∧ ∀ (j : Nat) (x : PV) (u : Value), xs[j]? = some x → us[j]? = some u → VRel C x u

/-- More is known, or a block has been appended to. -/
structure CLe (C C' : Ctx) : Prop where
  B : C'.B = C.B
  M : ∀ b o u, C.M b o = some u → C'.M b o = some u
  top : C'.top = C.top
  mnew : ∀ b o u, C'.M b o = some u → C.M b o = some u ∨ C.top ≤ b ∨ some b ∈ C.mu
  unew : ∀ b, some b ∈ C'.mu → some b ∈ C.mu ∨ C.top ≤ b
  ids : ∀ (id ver : Nat), C.vs[id]? = some ver → ∃ ver', C'.vs[id]? = some ver' ∧ ver ≤ ver' ∧ (ver' = ver → C'.mu[id]? = C.mu[id]? ∧ C'.cp[id]? = C.cp[id]?)

theorem CLe.refl (C : Ctx) : CLe C C := ⟨rfl, fun _ _ _ h => h, rfl, fun _ _ _ h => .inl h, fun _ h => .inl h, fun _ ver h => ⟨ver, h, Nat.le_refl _, fun _ => ⟨rfl, rfl⟩⟩⟩
theorem CLe.trans {C C' C'' : Ctx} (h : CLe C C') (k : CLe C' C'') : CLe C C'' := by
  refine ⟨k.B.trans h.B, fun b o u e => k.M _ _ _ (h.M _ _ _ e), k.top.trans h.top, fun b o u e => ?_, fun b e => ?_, fun id ver e => ?_⟩
  · rcases k.mnew b o u e with e | e | e
    · exact h.mnew b o u e
    · exact .inr (.inl (by rw [← h.top]; exact e))
    · rcases h.unew b e with e | e
      · exact .inr (.inr e)
      · exact .inr (.inl e)
  · rcases k.unew b e with e | e
    · exact h.unew b e
    · exact .inr (by rw [← h.top]; exact e)
  obtain ⟨v1, e1, l1, q1⟩ := h.ids id ver e
  obtain ⟨v2, e2, l2, q2⟩ := k.ids id v1 e1
  refine ⟨v2, e2, Nat.le_trans l1 l2, fun he => ?_⟩
  have h1 : v1 = ver := by omega
  have h2 : v2 = v1 := by omega
  exact ⟨(q2 h2).1.trans (q1 h1).1, (q2 h2).2.trans (q1 h1).2⟩

theorem VRel.mono {C C' : Ctx} (h : CLe C C') {x : PV} {u : Value} (r : VRel C x u) : VRel C' x u := by
  induction r with
  | nl k => exact .nl k
  | yl hl _ ih => exact .yl hl ih
  | int k n => exact .int k n
  | bool b => exact .bool b
  | str s => exact .str s
  | nilp => exact .nilp
  | ptr hm hv =>
    obtain ⟨v', e, l, q⟩ := h.ids _ _ hv
    rcases Nat.eq_or_lt_of_le l with he | he
    · exact .ptr ((q he.symm).1.trans hm) (he ▸ e)
    · exact .ptrS _ rfl e he
  | ptrS v h1 hv hlt =>
    obtain ⟨v', e, l, q⟩ := h.ids _ _ hv
    exact .ptrS v h1 e (by omega)
  | ip hl hM hc _ ih => exact .ip hl (fun j u hu => h.M _ _ _ (hM j u hu)) hc ih
  | slice hl hM hc _ hcap hmax hf ih => exact .slice hl (fun j u hu => h.M _ _ _ (hM j u hu)) hc ih hcap hmax hf
  | sliceN ad full => exact .sliceN ad full
  | msl hm hv hcap hmax hg =>
    obtain ⟨v', e, l, q⟩ := h.ids _ _ hv
    rcases Nat.eq_or_lt_of_le l with he | he
    · exact .msl ((q he.symm).1.trans hm) (he ▸ e) hcap hmax (fun hgt => ⟨(hg hgt).1, (q he.symm).2.trans (hg hgt).2⟩)
    · exact .mslS _ rfl e he
  | mslE hm hv hmax =>
    obtain ⟨v', e, l, q⟩ := h.ids _ _ hv
    rcases Nat.eq_or_lt_of_le l with he | he
    · exact .mslE ((q he.symm).1.trans hm) (he ▸ e) hmax
    · exact .mslS _ rfl e he
  | mslG ad hm hv =>
    obtain ⟨v', e, l, q⟩ := h.ids _ _ hv
    rcases Nat.eq_or_lt_of_le l with he | he
    · exact .mslG ad ⟨(q he.symm).1.trans hm.1, (q he.symm).2.trans hm.2⟩ (he ▸ e)
    · exact .mslS _ rfl e he
  | mslS v h1 hv hlt =>
    obtain ⟨v', e, l, q⟩ := h.ids _ _ hv
    exact .mslS v h1 e (by omega)
  | mp hm hv hb =>
    obtain ⟨v', e, l, q⟩ := h.ids _ _ hv
    rcases Nat.eq_or_lt_of_le l with he | he
    · exact .mp ((q he.symm).1.trans hm) (he ▸ e) ((q he.symm).2.trans hb)
    · exact .mpS _ rfl e he
  | mpS v h1 hv hlt =>
    obtain ⟨v', e, l, q⟩ := h.ids _ _ hv
    exact .mpS v h1 e (by omega)
  | agg hl hc _ ih => exact .agg hl hc ih
  | tup hl _ ih => exact .tup hl ih
  | func hl hl' _ _ ih ih' => exact .func hl hl' ih ih'
  | undef v => exact .undef v

theorem VRels.mono {C C' : Ctx} (h : CLe C C') {xs : List PV} {us : List Value} (r : VRels C xs us) : VRels C' xs us :=
  ⟨r.1, fun j x u hx hu => (r.2 j x u hx hu).mono h⟩

/-- A cell's value fills one cell. -/
theorem VRel.oneCell {C : Ctx} {x : PV} {u : Value} (r : VRel C x u) (hc : x.cell = true) : u.oneCell' = true := by
  cases r <;> first | rfl | assumption | exact nlV_cell _ | (simp [PV.cell] at hc)

def isCl : Obj → Bool
  | .cells _ _ _ => true
  | _ => false
/-- A map of memory, and its entries as the block has them. -/
def MapAt0 (C : Ctx) (w : World) (k : Blk) (p : Option Nat) : Prop :=
  ∃ (b : Nat) (es : Array MapEntry) (clock : Nat), p = some (b + 1) ∧ C.B ≤ b ∧ w.heap[b]? = some (.map es clock) ∧ es.size = k.cells.length ∧
    ∀ (j : Nat) (x : PV) (e : MapEntry), k.cells[j]? = some x → es[j]? = some e → VRel C x (.tuple #[e.key, e.val])
/-- An object that is no cells. -/
def LoopAt (C : Ctx) (w : World) (k : Blk) (p : Option Nat) : Prop :=
  ∃ (b : Nat) (o : Obj), p = some (b + 1) ∧ C.B ≤ b ∧ w.heap[b]? = some o ∧ k.cells = [.lp b o] ∧ isCl o = false
def MapAt (C : Ctx) (w : World) (k : Blk) (p : Option Nat) : Prop := MapAt0 C w k p ∨ LoopAt C w k p
theorem MapAt.mono {C C' : Ctx} (hle : CLe C C') {w w' : World} {k : Blk} {p p' : Option Nat} (hp : p' = p) (hw : ∀ (b : Nat) (o : Obj), isCl o = false → p = some (b + 1) → w.heap[b]? = some o → w'.heap[b]? = some o) (h : MapAt C w k p) : MapAt C' w' k p' := by
  rcases h with ⟨b, es, clock, q1, q2, q3, q4, q5⟩ | ⟨b, r, q1, q2, q3, q4⟩
  · exact .inl ⟨b, es, clock, hp.trans q1, by rw [hle.B]; exact q2, hw b _ rfl q1 q3, q4, fun j x e hx he => (q5 j x e hx he).mono hle⟩
  · exact .inr ⟨b, r, hp.trans q1, by rw [hle.B]; exact q2, hw b _ q4.2 q1 q3, q4⟩
theorem MapAt.lt {C : Ctx} {w : World} {k : Blk} {b : Nat} (h : MapAt C w k (some (b + 1))) : b < w.heap.size := by
  rcases h with ⟨b', es, clock, q1, q2, q3, q4, q5⟩ | ⟨b', r, q1, q2, q3, q4⟩ <;>
  · injection q1 with q1
    have : b' = b := by omega
    subst this
    exact (Array.getElem?_eq_some_iff.1 q3).1

/-- What the package-level variables hold that are read, among what is never written. -/
def Glob (M : Nat → Nat → Option Value) : Prop := ∀ (g : Nat) (l : List (IntKind × Int)), gtab g = some l → ∀ (j : Nat) (x : IntKind × Int), l[j]? = some x → M g j = some (.int x.1 x.2)
theorem Glob.mono {M M' : Nat → Nat → Option Value} (h : Glob M) (hle : ∀ b o u, M b o = some u → M' b o = some u) : Glob M' := fun g l hg j x hx => hle _ _ _ (h g l hg j x hx)
/-- Memory as the abstract heap has it. -/
structure WRel (C : Ctx) (H : Heap) (w : World) : Prop where
  gl : Glob C.M
  base : C.B ≤ w.heap.size
  tople : C.top ≤ w.heap.size
  imm : ∀ b o u, C.M b o = some u → w.cell? ⟨b, o, none⟩ = some u
  len : C.mu.length = H.length
  lenv : C.vs.length = H.length
  lenc : C.cp.length = H.length
  ver : ∀ (id : Nat) (k : Blk), H[id]? = some k → C.vs[id]? = some k.ver
  gho : ∀ (id : Nat) (k : Blk), H[id]? = some k → C.mu[id]? = some none → (C.cp[id]? = some 0 ∧ k.cells = []) ∨ MapAt C w k C.cp[id]?
  own : ∀ (id : Nat) (k : Blk) (b : Nat), H[id]? = some k → C.mu[id]? = some (some b) → ∃ cur, C.cp[id]? = some cur.size ∧ C.B ≤ b ∧
    w.heap[b]? = some (.cells cur k.e (0, 0)) ∧ (∀ x ∈ k.cells, x.cell = true) ∧ k.cells.length ≤ cur.size ∧ ∀ (j : Nat) (x : PV) (u : Value), k.cells[j]? = some x → cur[j]? = some u → VRel C x u
  disj : ∀ (id b : Nat), C.mu[id]? = some (some b) → ∀ o, C.M b o = none
  inj : ∀ (i j b : Nat), C.mu[i]? = some (some b) → C.mu[j]? = some (some b) → i = j
  minj : ∀ (i j b : Nat), C.mu[i]? = some none → C.mu[j]? = some none → C.cp[i]? = some (b + 1) → C.cp[j]? = some (b + 1) → i = j

end Go.Proofs.YtahomnplappbpaaGreatDoor.Pm
