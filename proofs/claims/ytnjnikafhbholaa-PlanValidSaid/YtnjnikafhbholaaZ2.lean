/-
  Parts of the proof, put together in one text. No condition.
-/
import Derived.Test.YtnjnikafhbholaaZ1
import Derived.ProofKit
import Derived.OpenShut
import Derived.ChangeOld
import Derived.Carry
import Derived.Orders
import Derived.Test.YtnjnikafhbholaaProg
import Derived.KernelRfl
namespace Go.Proofs.Ytnjnikafhbholaa.Pm
set_option linter.all false
set_option linter.unusedVariables false
set_option linter.unusedSimpArgs false
open Go.RowKit Go.ChangeShapes Go.WideShapes

/-- The cells that a value of a type may have. -/
inductive Shp (P : Program) : TypeId → List PV → Prop where
  | bool {t : TypeId} (b : Bool) (ht : P.underlying t = some .bool) : Shp P t [.bool b]
  | int {t : TypeId} {k : IntKind} {n : Int} (ht : P.underlying t = some (.int k)) (hw : (Lit.int k n).wf = true) : Shp P t [.int k n]
  | str {t : TypeId} {s : List UInt8} (ht : P.underlying t = some .string) (hs : s.length ≤ maxLen) : Shp P t [.str s]
  | slice {t e : TypeId} {pss : List (List PV)} (ht : P.underlying t = some (.slice e)) (hm : pss.length ≤ maxLen) (h : ∀ ps ∈ pss, Shp P e ps) : Shp P t [.slice pss.flatten pss.length false]
  | struct {t : TypeId} {fs : Array Field} {pss : List (List PV)} (ht : P.underlying t = some (.struct fs)) (hl : pss.length = fs.size) (h : ∀ (i : Nat) (f : Field) (ps : List PV), fs[i]? = some f → pss[i]? = some ps → Shp P f.type ps) : Shp P t pss.flatten
  | array {t e : TypeId} {n : Nat} {pss : List (List PV)} (ht : P.underlying t = some (.array n e)) (hl : pss.length = n) (h : ∀ ps ∈ pss, Shp P e ps) : Shp P t pss.flatten

def tile (P : Program) : List Field → Nat → Option Nat
  | [], off => some off
  | f :: r, off => if f.offset = off then tile P r (off + P.cellsOf f.type) else none
def plainT (P : Program) : Nat → TypeId → Bool
  | 0, _ => false
  | n + 1, t => match P.underlying t with
    | some .bool | some (.int _) | some .string => true
    | some (.slice e) => decide (0 < P.cellsOf e) && plainT P n e
    | some (.array m e) => decide (P.cellsOf t = m * P.cellsOf e) && plainT P n e
    | some (.struct fs) => decide (tile P fs.toList 0 = some (P.cellsOf t)) && fs.toList.all fun f => plainT P n f.type
    | _ => false

/-- Where a law's call begins. -/
def Ctx.start (W : World) : Ctx := ⟨W.heap.size, fun b o => W.cell? ⟨b, o, none⟩, [], [], [], 0⟩
theorem WRel.start (W : World) : WRel (Ctx.start W) [] W :=
  ⟨Nat.le_refl _, Nat.zero_le _, fun _ _ _ h => h, rfl, rfl, rfl, fun id k h => by simp at h, fun id k h => by simp at h, fun id k b h => by simp at h, fun id b h => by simp [Ctx.start] at h, fun i j b h => by simp [Ctx.start] at h, fun i j b h => by simp [Ctx.start] at h⟩

theorem VRels.nil' {C : Ctx} : VRels C [] [] := ⟨rfl, fun j x u h => by simp at h⟩
theorem VRels.append {C : Ctx} {a b : List PV} {u v : List Value} (h : VRels C a u) (k : VRels C b v) : VRels C (a ++ b) (u ++ v) := by
  refine ⟨by simp [h.1, k.1], fun j x w hx hw => ?_⟩
  rcases Nat.lt_or_ge j a.length with hj | hj
  · rw [List.getElem?_append_left hj] at hx
    rw [List.getElem?_append_left (by rw [h.1]; exact hj)] at hw
    exact h.2 j x w hx hw
  · rw [List.getElem?_append_right hj] at hx
    rw [List.getElem?_append_right (by rw [h.1]; exact hj), h.1] at hw
    exact k.2 _ x w hx hw

/-- What an opening gives. -/
def Opens (P : Program) (W : World) (t : TypeId) (cs : List Value) (ps : List PV) : Prop := Shp P t ps ∧ (∀ p ∈ ps, p.cell = true) ∧ VRels (Ctx.start W) ps cs

variable {H : Type} {enc : TypeId × Value → H} {P : Program} {W : World}

theorem opens_parts {ts : List TypeId} : ∀ (parts : List (List Value)), parts.length = ts.length → (∀ (i : Nat) (t : TypeId) (cs : List Value), ts[i]? = some t → parts[i]? = some cs → ∃ ps, Opens P W t cs ps) →
    ∃ pss : List (List PV), pss.length = ts.length ∧ (∀ (i : Nat) (t : TypeId) (ps : List PV), ts[i]? = some t → pss[i]? = some ps → Shp P t ps) ∧ (∀ p ∈ pss.flatten, p.cell = true) ∧ VRels (Ctx.start W) pss.flatten parts.flatten := by
  induction ts with
  | nil =>
    intro parts hl _
    have : parts = [] := by cases parts <;> simp_all
    subst this
    exact ⟨[], rfl, fun i t ps h => by simp at h, fun p hp => by simp at hp, VRels.nil'⟩
  | cons t ts ih =>
    intro parts hl h
    cases parts with
    | nil => simp at hl
    | cons c parts =>
      obtain ⟨ps, h1, h2, h3⟩ := h 0 t c rfl rfl
      obtain ⟨pss, g1, g2, g3, g4⟩ := ih parts (by simpa using hl) (fun i t' cs' ht hc => h (i + 1) t' cs' (by simpa using ht) (by simpa using hc))
      refine ⟨ps :: pss, by simp [g1], ?_, ?_, ?_⟩
      · intro i t' ps' ht hp
        cases i with
        | zero => simp at ht hp; subst ht hp; exact h1
        | succ i => exact g2 i t' ps' (by simpa using ht) (by simpa using hp)
      · intro p hp
        rw [List.flatten_cons, List.mem_append] at hp
        exact hp.elim (h2 p) (g3 p)
      · rw [List.flatten_cons, List.flatten_cons]
        exact h3.append g4

theorem tile_flat : ∀ (fs : List Field) (off tot : Nat) (cs : List Value), tile P fs off = some tot → cs.length = tot → cs.drop off = (fs.map fun f => (cs.drop f.offset).take (P.cellsOf f.type)).flatten
  | [], off, tot, cs, h, hl => by
    simp [tile] at h
    subst h
    simp [hl]
  | f :: r, off, tot, cs, h, hl => by
    simp only [tile] at h
    split at h
    · rename_i ho
      have := tile_flat r _ tot cs h hl
      rw [List.map_cons, List.flatten_cons, ← this, ho, ← List.drop_drop, List.take_append_drop]
    · cases h

theorem chunk_flat (sz : Nat) : ∀ (n : Nat) (cs : List Value), cs.length = n * sz → cs = ((List.range n).map fun i => (cs.drop (i * sz)).take sz).flatten := by
  intro n cs hl
  have key : ∀ m, m ≤ n → cs.take (m * sz) = ((List.range m).map fun i => (cs.drop (i * sz)).take sz).flatten := by
    intro m
    induction m with
    | zero => intro _; simp
    | succ m ih =>
      intro hm
      rw [List.range_succ, List.map_append, List.flatten_append, ← ih (by omega), Nat.succ_mul, List.take_add]
      simp
  rw [← key n (Nat.le_refl _), ← hl, List.take_length]

theorem trod_shp : ∀ (fuel n : Nat) (t : TypeId) (cs : List Value) (x : DataW H × List MemPlace), plainT P n t = true → DataW.trod enc P W 0 (fun _ => true) true fuel t cs = some x → ∃ ps, Opens P W t cs ps := by
  intro fuel
  induction fuel with
  | zero => intro n t cs x _ h; simp [DataW.trod] at h
  | succ fuel ih =>
    intro n t cs x hp h
    cases n with
    | zero => simp [plainT] at hp
    | succ n =>
      unfold plainT at hp
      split at hp
      · rename_i ht
        obtain ⟨b, rfl, _⟩ := DataW.trod_bool ht h
        exact ⟨[.bool b], .bool b ht, fun p hp => by simp at hp; subst hp; rfl, VRels.append (a := [.bool b]) (u := [.bool b]) ⟨rfl, fun j x u hx hu => by cases j <;> simp at hx hu; subst hx hu; exact .bool b⟩ VRels.nil'⟩
      · rename_i k ht
        obtain ⟨m, rfl, _, hw⟩ := DataW.trod_int ht h
        exact ⟨[.int k m], .int ht hw, fun p hp => by simp at hp; subst hp; rfl, ⟨rfl, fun j x u hx hu => by cases j <;> simp at hx hu; subst hx hu; exact .int k m⟩⟩
      · rename_i ht
        obtain ⟨s, rfl, _, hw⟩ := DataW.trod_string ht h
        exact ⟨[.str s.data.toList], .str ht (by rw [Array.length_toList]; exact hw), fun p hp => by simp at hp; subst hp; rfl, ⟨rfl, fun j x u hx hu => by cases j <;> simp at hx hu; subst hx hu; exact .str s⟩⟩
      · rename_i e ht
        simp only [Bool.and_eq_true, decide_eq_true_eq] at hp
        rcases DataW.trod_slice ht h with ⟨rfl, _⟩ | ⟨a, len, cap, elems, rest, m, hfm, rfl, rfl, hb, hlc, hm, hlen, hel, hsp, _⟩
        · refine ⟨[.slice [] 0 false], Shp.slice (pss := []) ht (Nat.zero_le _) (fun ps hp => by simp at hp), fun p hp => by simp at hp; subst hp; rfl, ⟨rfl, fun j x u hx hu => ?_⟩⟩
          cases j <;> simp at hx hu
          subst hx hu
          exact .sliceN _ _
        · injection hfm with hfm
          subst hfm
          have hcell : ∀ i, i < cap → ∃ cs' y, W.cells? 0 (a.add (i * P.cellsOf e)) (P.cellsOf e) = some cs' ∧ DataW.trod enc P W 0 (fun _ => true) true fuel e cs' = some y := by
            intro i hi
            obtain ⟨hrl, hrest⟩ := hsp rfl
            have : ∃ y, (W.cells? 0 (a.add (i * P.cellsOf e)) (P.cellsOf e)).bind (DataW.trod enc P W 0 (fun _ => true) true fuel e) = some y := by
              rcases Nat.lt_or_ge i len with hil | hil
              · exact ⟨elems[i]'(by omega), by rw [hel i hil]; exact List.getElem?_eq_getElem (by omega)⟩
              · have := hrest (i - len) (by omega)
                rw [show len + (i - len) = i by omega] at this
                exact ⟨rest[i - len]'(by omega), by rw [this]; exact List.getElem?_eq_getElem (by omega)⟩
            obtain ⟨y, hy⟩ := this
            obtain ⟨cs', h1, h2⟩ := Option.bind_eq_some_iff.1 hy
            exact ⟨cs', y, h1, h2⟩
          rcases Nat.eq_zero_or_pos cap with h0 | h0
          · subst h0
            obtain rfl : len = 0 := by omega
            refine ⟨[.slice [] 0 false], Shp.slice (pss := []) ht (Nat.zero_le _) (fun ps hp => by simp at hp), fun p hp => by simp at hp; subst hp; rfl, ⟨rfl, fun j x u hx hu => ?_⟩⟩
            cases j <;> simp at hx hu
            subst hx hu
            exact .sliceN _ _
          · have hspot : a = ⟨a.block, a.off, none⟩ := by
              obtain ⟨cs', y, h1, _⟩ := hcell 0 h0
              have h2 := (World.cells?_some h1).2
              have h3 := h2.2 0 hp.1
              rw [Nat.zero_mul] at h3
              have h4 : a.add 0 = a := by simp [Addr.add]
              rw [h4, h4, List.getElem?_eq_getElem (by omega)] at h3
              have : a.spot = none := by
                unfold World.cell? at h3
                split at h3
                · split at h3
                  · cases h3
                  · rename_i hs; simpa using hs
                · cases h3
              cases a; simp at this; subst this; rfl
            have key : ∀ m, m ≤ len → ∃ (pss : List (List PV)) (us : List Value), pss.length = m ∧ us.length = m * P.cellsOf e ∧ (∀ ps ∈ pss, Shp P e ps) ∧ (∀ p ∈ pss.flatten, p.cell = true) ∧ VRels (Ctx.start W) pss.flatten us ∧
                ∀ (j : Nat) (u : Value), us[j]? = some u → W.cell? ⟨a.block, a.off + j, none⟩ = some u := by
              intro m
              induction m with
              | zero => intro _; exact ⟨[], [], rfl, by simp, fun ps hp => by simp at hp, fun p hp => by simp at hp, VRels.nil', fun j u hu => by simp at hu⟩
              | succ m ihm =>
                intro hm'
                obtain ⟨pss, us, g1, g2, g3, g4, g5, g6⟩ := ihm (by omega)
                obtain ⟨cs', y, h1, h2⟩ := hcell m (by omega)
                obtain ⟨ps, k1, k2, k3⟩ := ih n e cs' y hp.2 h2
                obtain ⟨_, hcl, hcc⟩ := World.cells?_some h1
                refine ⟨pss ++ [ps], us ++ cs', by simp [g1], by simp [g2, hcl, Nat.succ_mul], ?_, ?_, ?_, ?_⟩
                · intro q hq
                  rcases List.mem_append.1 hq with hq | hq
                  · exact g3 q hq
                  · simp at hq; subst hq; exact k1
                · intro p hq
                  simp only [List.flatten_append, List.flatten_cons, List.flatten_nil, List.append_nil, List.mem_append] at hq
                  exact hq.elim (g4 p) (k2 p)
                · simp only [List.flatten_append, List.flatten_cons, List.flatten_nil, List.append_nil]
                  exact g5.append k3
                · intro j u hu
                  rcases Nat.lt_or_ge j us.length with hj | hj
                  · rw [List.getElem?_append_left hj] at hu
                    exact g6 j u hu
                  · rw [List.getElem?_append_right hj] at hu
                    have hlt := (List.getElem?_eq_some_iff.1 hu).1
                    have := hcc (j - us.length) (by omega)
                    rw [hu, hspot, Addr.add_lit, Addr.add_lit] at this
                    rw [← this]
                    congr 2
                    omega
            obtain ⟨pss, us, g1, g2, g3, g4, g5, g6⟩ := key len (Nat.le_refl _)
            refine ⟨[.slice pss.flatten pss.length false], Shp.slice ht (by omega) g3, fun p hp => by simp at hp; subst hp; rfl, ⟨rfl, fun j x u hx hu => ?_⟩⟩
            cases j <;> simp at hx hu
            subst hx hu
            rw [hspot, ← g1]
            exact .slice (us := us) g5.1 g6 g4 g5.2 (by omega) hm (fun hf => by cases hf)
      · rename_i m e ht
        simp only [Bool.and_eq_true, decide_eq_true_eq] at hp
        obtain ⟨xs, m', hfm, _, hl, hxl, hx⟩ := DataW.trod_array ht h
        injection hfm with hfm
        subst hfm
        obtain ⟨pss, g1, g2, g3, g4⟩ := opens_parts (P := P) (W := W) (ts := List.replicate m e) ((List.range m).map fun i => (cs.drop (i * P.cellsOf e)).take (P.cellsOf e)) (by simp) (by
          intro i t' cs' ht' hc'
          have hi : i < m := by
            have := (List.getElem?_eq_some_iff.1 ht').1
            simpa using this
          simp [hi] at ht' hc'
          subst ht' hc'
          have := hx i hi
          rw [List.getElem?_eq_getElem (by omega)] at this
          exact ih n e _ _ hp.2 this)
        rw [← chunk_flat (P.cellsOf e) m cs (by rw [hl, hp.1])] at g4
        refine ⟨pss.flatten, .array ht (by simpa using g1) (fun ps hps => ?_), g3, g4⟩
        obtain ⟨i, hi⟩ := List.getElem?_of_mem hps
        have hi' := (List.getElem?_eq_some_iff.1 hi).1
        have hi2 : i < m := by simp at g1; omega
        exact g2 i e ps (by simp [hi2]) hi
      · rename_i fs ht
        simp only [Bool.and_eq_true, decide_eq_true_eq, List.all_eq_true] at hp
        obtain ⟨xs, m', hfm, _, hl, hxl, hx⟩ := DataW.trod_struct ht h
        injection hfm with hfm
        subst hfm
        obtain ⟨pss, g1, g2, g3, g4⟩ := opens_parts (P := P) (W := W) (ts := fs.toList.map (·.type)) (fs.toList.map fun f => (cs.drop f.offset).take (P.cellsOf f.type)) (by simp) (by
          intro i t' cs' ht' hc'
          simp only [List.getElem?_map, Option.map_eq_some_iff] at ht' hc'
          obtain ⟨f, hf, rfl⟩ := ht'
          obtain ⟨f', hf', rfl⟩ := hc'
          rw [hf] at hf'
          injection hf' with hf'
          subst hf'
          have hi := (List.getElem?_eq_some_iff.1 hf).1
          have := hx i f (by simpa using hf)
          rw [List.getElem?_eq_getElem (by simp at hi; omega)] at this
          exact ih n f.type _ _ (hp.2 f (List.mem_of_getElem? hf)) this)
        rw [← tile_flat fs.toList 0 _ cs hp.1 hl, List.drop_zero] at g4
        refine ⟨pss.flatten, .struct ht (by simpa using g1) (fun i f ps hf hps => g2 i f.type ps (by simp; exact ⟨f, by simpa using hf, rfl⟩) hps), g3, g4⟩
      · cases hp

/-- An argument: its cells, or the one. -/
def ArgShp (P : Program) (t : TypeId) (x : PV) : Prop := ∃ ps, Shp P t ps ∧ ((aggT P t = true ∧ x = .agg ps) ∨ (aggT P t = false ∧ ps = [x]))
def ArgsShp (P : Program) : List TypeId → List PV → Prop
  | [], [] => True
  | t :: ts, x :: xs => ArgShp P t x ∧ ArgsShp P ts xs
  | _, _ => False

theorem arg_shp {t : TypeId} {v : Value} {d : DataW H} {p : List MemPlace} {r : Reach} {b0 n : Nat} (hn : plainT P n t = true) (hv : Value.okWide P W r b0 t v) (h : DataW.Trod enc P W 0 (fun _ => true) true t v d p) :
    ∃ x, ArgShp P t x ∧ VRel (Ctx.start W) x v := by
  obtain ⟨fuel, hf⟩ := h
  obtain ⟨ps, h1, h2, h3⟩ := trod_shp fuel n t _ _ hn hf
  have one : aggT P t = false → (∀ cs, v ≠ .agg cs) → ∃ x, ArgShp P t x ∧ VRel (Ctx.start W) x v := by
    intro ha hna
    have hc : v.cells.toList = [v] := by cases v <;> first | rfl | exact absurd rfl (hna _)
    rw [hc] at h3
    match ps, h3.1 with
    | [x], _ => exact ⟨x, ⟨[x], h1, .inr ⟨ha, rfl⟩⟩, h3.2 0 x v rfl rfl⟩
  have many : aggT P t = true → (∃ cs, v = .agg cs) → ∃ x, ArgShp P t x ∧ VRel (Ctx.start W) x v := by
    rintro ha ⟨cs, rfl⟩
    refine ⟨.agg ps, ⟨ps, h1, .inl ⟨ha, rfl⟩⟩, ?_⟩
    have := VRel.agg (C := Ctx.start W) (cs := ps) (us := cs.toList) h3.1 h2 h3.2
    simpa using this
  unfold plainT at hn
  split at hn
  · cases hn
  split at hn
  · rename_i ht; exact one (by simp [aggT, ht]) (fun cs e => by subst e; simp [Value.okWide, ht, Cell.okWide, Cell.ok] at hv)
  · rename_i ht; exact one (by simp [aggT, ht]) (fun cs e => by subst e; simp [Value.okWide, ht, Cell.okWide, Cell.ok] at hv)
  · rename_i ht; exact one (by simp [aggT, ht]) (fun cs e => by subst e; simp [Value.okWide, ht, Cell.okWide, Cell.ok] at hv)
  · rename_i ht; exact one (by simp [aggT, ht]) (fun cs e => by subst e; simp [Value.okWide, ht, Cell.okWide, Cell.ok] at hv)
  · rename_i ht; exact many (by simp [aggT, ht]) (by simp only [Value.okWide, ht] at hv; obtain ⟨cs, h, _⟩ := hv; exact ⟨cs, h⟩)
  · rename_i ht; exact many (by simp [aggT, ht]) (by simp only [Value.okWide, ht] at hv; obtain ⟨cs, h, _⟩ := hv; exact ⟨cs, h⟩)
  · cases hn

theorem args_shp {r : Reach} {b0 n : Nat} : ∀ {ts : List TypeId} {vs : List Value} {ds : List (DataW H)} {p : List MemPlace}, (∀ t ∈ ts, plainT P n t = true) → (∀ (j : Nat) t v, ts[j]? = some t → vs[j]? = some v → Value.okWide P W r b0 t v) →
    DataW.TrodAll enc P W 0 (fun _ => true) true ts vs ds p → ∃ xs, ArgsShp P ts xs ∧ VRels (Ctx.start W) xs vs
  | [], [], [], p, _, _, _ => ⟨[], trivial, VRels.nil'⟩
  | t :: ts, v :: vs, d :: ds, p, hn, hv, h => by
    obtain ⟨p1, q1, h1, h2, _⟩ := h
    obtain ⟨x, a1, a2⟩ := arg_shp (hn t (List.mem_cons_self ..)) (hv 0 t v rfl rfl) h1
    obtain ⟨xs, b1, b2⟩ := args_shp (fun t' ht => hn t' (List.mem_cons_of_mem _ ht)) (fun j t' v' ht hv' => hv (j + 1) t' v' (by simpa using ht) (by simpa using hv')) h2
    exact ⟨x :: xs, ⟨a1, b1⟩, VRels.append (a := [x]) (u := [v]) ⟨rfl, fun j x' u hx hu => by cases j <;> simp at hx hu; subst hx hu; exact a2⟩ b2⟩
  | [], [], _ :: _, _, _, _, h => h.elim
  | [], _ :: _, _, _, _, _, h => h.elim
  | _ :: _, [], _, _, _, _, h => h.elim
  | _ :: _, _ :: _, [], _, _, _, h => h.elim

theorem args_stay {W' : World} (hl : laidOutB P = true) (hb : Below W.heap.size W W') : ∀ {ts : List TypeId} {vs : List Value} {ds : List (DataW H)} {p : List MemPlace}, (∀ t ∈ ts, P.readableRec t = true ∧ t < P.types.size) →
    DataW.TrodAll enc P W 0 (fun _ => true) true ts vs ds p → DataW.TrodAll enc P W' 0 (fun b => decide (b < W.heap.size)) true ts vs ds p
  | [], [], [], p, _, h => h
  | t :: ts, v :: vs, d :: ds, p, hr, h => by
    obtain ⟨p1, q1, h1, h2, h3⟩ := h
    obtain ⟨r1, r2⟩ := hr t (List.mem_cons_self ..)
    refine ⟨p1, q1, Below.trod hl r1 r2 h1 hb ?_, args_stay hl hb (fun t' ht => hr t' (List.mem_cons_of_mem _ ht)) h2, h3⟩
    obtain ⟨m, hm⟩ := h1
    exact DataW.trod_lt m _ _ _ hm
  | [], [], _ :: _, _, _, h => h.elim
  | [], _ :: _, _, _, _, h => h.elim
  | _ :: _, [], _, _, _, h => h.elim
  | _ :: _, _ :: _, [], _, _, h => h.elim

/-- ████ A LAW'S CALL ████ -/
theorem law_call {f : FuncId} {fn : Func} {s : ChangeSpec} {apart fresh handsOn : Bool} {r : Reach} {b0 n : Nat} {args : Array Value} {ds gs : List (DataW H)} {before : List MemPlace} {tb : TypeId}
    (hlaw : ∀ xs, ArgsShp P fn.params.toList xs → CallOk P f xs [] (.bool true) [])
    (hl : laidOutB P = true) (hplain : fn.params.toList.all (plainT P n) = true) (hread : fn.params.toList.all (fun t => P.readableRec t && decide (t < P.types.size)) = true)
    (hres : fn.resultTypes = #[tb]) (htb : P.underlying tb = some .bool) (hvars : s.vars = [])
    (hfn : ∀ ds : List (DataW H), ds.length = fn.params.size → s.fn H ds = { results := [.lit (.bool true)], args := ds })
    (hval : ∀ (j : Nat) t v, fn.params[j]? = some t → args[j]? = some v → Value.okWide P W r b0 t v)
    (hW : DataW.Whole enc P fn.params.toList s.vars apart W args.toList ds gs before) :
    Calls P f args W fun e W' => ∃ v, e = .returned v ∧ s.post enc P fn apart fresh handsOn false W args v W' := by
  have hW' := hW
  obtain ⟨p, q, hA, hV, hpq, hfz, hnd⟩ := hW
  rw [hvars] at hV
  obtain ⟨rfl, rfl⟩ := trodVars_none hV
  obtain ⟨xs, x1, x2⟩ := args_shp (n := n) (List.all_eq_true.1 hplain) (fun j t v ht hv => hval j t v (by simpa using ht) (by simpa using hv)) hA
  have hlen : ds.length = fn.params.size := by
    have : ∀ {ts : List TypeId} {vs : List Value} {ds : List (DataW H)} {p : List MemPlace}, DataW.TrodAll enc P W 0 (fun _ => true) true ts vs ds p → ds.length = ts.length := by
      intro ts
      induction ts with
      | nil => intro vs ds p h; cases vs <;> cases ds <;> first | rfl | exact h.elim
      | cons t ts ih =>
        intro vs ds p h
        cases vs with
        | nil => exact h.elim
        | cons v vs =>
          cases ds with
          | nil => exact h.elim
          | cons d ds => obtain ⟨_, _, _, h2, _⟩ := h; simp [ih h2]
    simpa using this hA
  have hc := (hlaw xs x1).2 (Ctx.start W) args.toList W (WRel.start W) x2
  have hc : Calls P f args W fun e w' => ∃ C' u, CLe (Ctx.start W) C' ∧ WRel C' [] w' ∧ Below (Ctx.start W).B W w' ∧ e = .returned u ∧ VRel C' (.bool true) u := by simpa using hc
  refine hc.mono fun e W' ⟨C', u, _, _, bel, he, hu⟩ => ?_
  cases hu
  refine ⟨_, he, ds, [], before, [], p, [], hW', ?_, ?_, ?_, bel.frame _, fun h => by cases h⟩
  · rw [List.append_nil, hfn ds hlen, hres]
    exact trodAll_mk1 (shut_bool htb _)
  · rw [List.append_nil, hfn ds hlen]
    exact args_stay hl bel (fun t ht => by have := List.all_eq_true.1 hread t ht; simpa using this) hA
  · rw [List.append_nil, hfn ds hlen, hvars]
    rfl

/-! ### reading a shape -/
theorem Shp.of_bool {t : TypeId} {ps : List PV} (ht : P.underlying t = some .bool) (h : Shp P t ps) : ∃ b, ps = [.bool b] := by
  cases h <;> simp_all
theorem Shp.of_int {t : TypeId} {k : IntKind} {ps : List PV} (ht : P.underlying t = some (.int k)) (h : Shp P t ps) : ∃ n, ps = [.int k n] ∧ (Lit.int k n).wf = true := by
  cases h with
  | int ht' hw => rw [ht] at ht'; cases ht'; exact ⟨_, rfl, hw⟩
  | _ => simp_all
theorem Shp.of_str {t : TypeId} {ps : List PV} (ht : P.underlying t = some .string) (h : Shp P t ps) : ∃ s, ps = [.str s] ∧ s.length ≤ maxLen := by
  cases h with
  | str ht' hs => exact ⟨_, rfl, hs⟩
  | _ => simp_all
theorem Shp.of_slice {t e : TypeId} {ps : List PV} (ht : P.underlying t = some (.slice e)) (h : Shp P t ps) : ∃ pss : List (List PV), ps = [.slice pss.flatten pss.length false] ∧ pss.length ≤ maxLen ∧ ∀ q ∈ pss, Shp P e q := by
  cases h with
  | slice ht' hm h => rw [ht] at ht'; cases ht'; exact ⟨_, rfl, hm, h⟩
  | _ => simp_all
theorem Shp.of_struct {t : TypeId} {fs : Array Field} {ps : List PV} (ht : P.underlying t = some (.struct fs)) (h : Shp P t ps) :
    ∃ pss : List (List PV), ps = pss.flatten ∧ pss.length = fs.size ∧ ∀ (i : Nat) (f : Field) (ps : List PV), fs[i]? = some f → pss[i]? = some ps → Shp P f.type ps := by
  cases h with
  | struct ht' hl h => rw [ht] at ht'; cases ht'; exact ⟨_, rfl, hl, h⟩
  | _ => simp_all
theorem Shp.of_array {t e : TypeId} {n : Nat} {ps : List PV} (ht : P.underlying t = some (.array n e)) (h : Shp P t ps) : ∃ pss : List (List PV), ps = pss.flatten ∧ pss.length = n ∧ ∀ q ∈ pss, Shp P e q := by
  cases h with
  | array ht' hl h => rw [ht] at ht'; cases ht'; exact ⟨_, rfl, hl, h⟩
  | _ => simp_all
theorem Shp.of_struct2 {t : TypeId} {f0 f1 : Field} {ps : List PV} (ht : P.underlying t = some (.struct #[f0, f1])) (h : Shp P t ps) : ∃ a b, ps = a ++ b ∧ Shp P f0.type a ∧ Shp P f1.type b := by
  obtain ⟨pss, rfl, hl, h⟩ := h.of_struct ht
  match pss, hl with
  | [a, b], _ => exact ⟨a, b, by simp, h 0 f0 a rfl rfl, h 1 f1 b rfl rfl⟩
/-- A slice of integers. -/
theorem Shp.of_ints {t e : TypeId} {k : IntKind} {ps : List PV} (ht : P.underlying t = some (.slice e)) (he : P.underlying e = some (.int k)) (h : Shp P t ps) :
    ∃ zs : List Int, ps = [.slice (zs.map (.int k)) zs.length false] ∧ zs.length ≤ maxLen ∧ ∀ z ∈ zs, (Lit.int k z).wf = true := by
  obtain ⟨pss, rfl, hm, h⟩ := h.of_slice ht
  have : ∀ pss : List (List PV), (∀ q ∈ pss, Shp P e q) → ∃ zs : List Int, pss.flatten = zs.map (.int k) ∧ zs.length = pss.length ∧ ∀ z ∈ zs, (Lit.int k z).wf = true := by
    intro pss
    induction pss with
    | nil => intro _; exact ⟨[], rfl, rfl, fun z hz => by simp at hz⟩
    | cons a r ih =>
      intro h
      obtain ⟨n, rfl, hw⟩ := (h a (List.mem_cons_self ..)).of_int he
      obtain ⟨zs, h1, h2, h3⟩ := ih (fun q hq => h q (List.mem_cons_of_mem _ hq))
      exact ⟨n :: zs, by simp [h1], by simp [h2], fun z hz => by rcases List.mem_cons.1 hz with rfl | hz; exact hw; exact h3 z hz⟩
  obtain ⟨zs, h1, h2, h3⟩ := this pss h
  exact ⟨zs, by rw [h1, h2], by omega, h3⟩

/-- A slice, element by element. -/
theorem Shp.of_list {α : Type} {t e : TypeId} {ps : List PV} {enc : α → List PV} {good : α → Prop} (ht : P.underlying t = some (.slice e)) (he : ∀ q, Shp P e q → ∃ x, q = enc x ∧ good x) (h : Shp P t ps) :
    ∃ xs : List α, ps = [.slice (xs.flatMap enc) xs.length false] ∧ xs.length ≤ maxLen ∧ ∀ x ∈ xs, good x := by
  obtain ⟨pss, rfl, hm, hq⟩ := h.of_slice ht
  have key : ∀ pss : List (List PV), (∀ q ∈ pss, Shp P e q) → ∃ xs : List α, pss = xs.map enc ∧ ∀ x ∈ xs, good x := by
    intro pss
    induction pss with
    | nil => intro _; exact ⟨[], rfl, fun x hx => by cases hx⟩
    | cons q r ih =>
      intro hq
      obtain ⟨x, hx, hg⟩ := he q (hq q (by simp))
      obtain ⟨xs, hxs, hgs⟩ := ih fun y hy => hq y (by simp [hy])
      exact ⟨x :: xs, by simp [hx, hxs], fun y hy => by rcases List.mem_cons.1 hy with rfl | hy; exact hg; exact hgs y hy⟩
  obtain ⟨xs, rfl, hg⟩ := key pss hq
  refine ⟨xs, by rw [List.length_map, List.flatMap_def], by simpa using hm, hg⟩

/-- A struct, field by field. -/
def FieldsShp (P : Program) : List Field → List (List PV) → Prop
  | [], [] => True
  | f :: r, a :: b => Shp P f.type a ∧ FieldsShp P r b
  | _, _ => False
theorem FieldsShp.of : ∀ (fs : List Field) (pss : List (List PV)), pss.length = fs.length → (∀ (i : Nat) (f : Field) (ps : List PV), fs[i]? = some f → pss[i]? = some ps → Shp P f.type ps) → FieldsShp P fs pss
  | [], [], _, _ => trivial
  | f :: r, a :: b, hl, h => ⟨h 0 f a rfl rfl, FieldsShp.of r b (by simpa using hl) fun i f ps hf hp => h (i + 1) f ps (by simpa using hf) (by simpa using hp)⟩
  | [], _ :: _, hl, _ => by simp at hl
  | _ :: _, [], hl, _ => by simp at hl
theorem Shp.fields {t : TypeId} {fs : Array Field} {ps : List PV} (ht : P.underlying t = some (.struct fs)) (h : Shp P t ps) : ∃ pss : List (List PV), ps = pss.flatten ∧ FieldsShp P fs.toList pss := by
  obtain ⟨pss, h1, h2, h3⟩ := h.of_struct ht
  exact ⟨pss, h1, FieldsShp.of _ _ (by simpa using h2) fun i f ps hf hp => h3 i f ps (by simpa using hf) hp⟩
/-- An array of integers. -/
theorem Shp.arr_ints {t e n : Nat} {k : IntKind} {ps : List PV} (ht : P.underlying t = some (.array n e)) (he : P.underlying e = some (.int k)) (h : Shp P t ps) : ∃ zs : List Int, ps = zs.map (.int k) ∧ zs.length = n ∧ ∀ z ∈ zs, (Lit.int k z).wf = true := by
  obtain ⟨pss, rfl, hm, h⟩ := h.of_array ht
  have : ∀ pss : List (List PV), (∀ q ∈ pss, Shp P e q) → ∃ zs : List Int, pss.flatten = zs.map (.int k) ∧ zs.length = pss.length ∧ ∀ z ∈ zs, (Lit.int k z).wf = true := by
    intro pss
    induction pss with
    | nil => intro _; exact ⟨[], rfl, rfl, fun z hz => by simp at hz⟩
    | cons a r ih =>
      intro h
      obtain ⟨n, rfl, hw⟩ := (h a (List.mem_cons_self ..)).of_int he
      obtain ⟨zs, h1, h2, h3⟩ := ih (fun q hq => h q (List.mem_cons_of_mem _ hq))
      exact ⟨n :: zs, by simp [h1], by simp [h2], fun z hz => by rcases List.mem_cons.1 hz with rfl | hz; exact hw; exact h3 z hz⟩
  obtain ⟨zs, h1, h2, h3⟩ := this pss h
  exact ⟨zs, h1, by omega, h3⟩
/-- An argument that is a struct or an array; one that is not. -/
theorem ArgShp.agg {t : TypeId} {x : PV} (h : ArgShp P t x) (ha : aggT P t = some true) : ∃ ps, Shp P t ps ∧ x = .agg ps := by
  obtain ⟨ps, hp, ⟨_, rfl⟩ | ⟨hf, _⟩⟩ := h
  · exact ⟨ps, hp, rfl⟩
  · rw [ha] at hf; cases hf
theorem ArgShp.one {t : TypeId} {x : PV} (h : ArgShp P t x) (ha : aggT P t = some false) : Shp P t [x] := by
  obtain ⟨ps, hp, ⟨hf, _⟩ | ⟨_, rfl⟩⟩ := h
  · rw [ha] at hf; cases hf
  · exact hp

theorem ArgsShp.cons {t : TypeId} {ts : List TypeId} {xs : List PV} (h : ArgsShp P (t :: ts) xs) : ∃ x r, xs = x :: r ∧ ArgShp P t x ∧ ArgsShp P ts r := by
  match xs, h with
  | x :: r, h => exact ⟨x, r, rfl, h.1, h.2⟩
theorem ArgsShp.nil {xs : List PV} (h : ArgsShp P [] xs) : xs = [] := by
  match xs, h with
  | [], _ => rfl

end Go.Proofs.Ytnjnikafhbholaa.Pm

namespace Go.Proofs.Ytnjnikafhbholaa.Pm
set_option linter.all false
set_option linter.unusedVariables false
set_option linter.unusedSimpArgs false
open Go.RowKit

variable {P : Program} {C : Ctx} {H : Heap} {w : World} {F : Fr} {a : Act} {N : Nat}

/-- Is it carried out? By the slots that the operations write. -/
def asked (ds : List (Option Nat)) (F : Fr) (o : Oper) : Option Bool :=
  match o.guard with
  | none => some true
  | some (j, b) => match ds[j]? with
    | some (some d) => match slot F d with
      | .bool x => some (x == b)
      | .tup [] => some false
      | _ => none
    | _ => none

theorem asked_want (all : List Oper) (F : Fr) (o : Oper) {b : Bool} (h : asked (all.map (·.dst)) F o = some b) : want all (slot F) o = some b := by
  unfold asked at h
  unfold want
  split at h
  · rename_i hg; rw [hg]; exact h
  · rename_i j t hg
    rw [hg]
    simp only
    split at h
    · rename_i d hd
      have : (all[j]?).bind (·.dst) = some d := by
        rw [List.getElem?_map] at hd
        cases hj : all[j]? with
        | none => rw [hj] at hd; cases hd
        | some o' => rw [hj] at hd; simpa using hd
      rw [this]
      exact h
    · cases h

/-- One operation that is no call. -/
def stp (P : Program) (ds : List (Option Nat)) (o : Oper) (F : Fr) (H : Heap) : Option (Fr × Heap) :=
  match asked ds F o with
  | some true => match pop P o.op (slot F) H with
    | some (v, H') => some (put F o.dst v, H')
    | none => none
  | some false => some (put F o.dst (.tup []), H)
  | none => none

def isCall : Op → Bool
  | .call { callee := .value _, .. } => true
  | _ => false

/-- One that is. -/
def VC (P : Program) (ds : List (Option Nat)) (o : Oper) (F : Fr) (H : Heap) (K : Fr → Heap → Prop) : Prop :=
  match asked ds F o with
  | some true => match pcallee o.op (slot F) with
    | some (g, args) => ∃ R, CallEx P g args H R ∧ ∀ v H', R v H' → K (put F o.dst v) H'
    | none => False
  | some false => K (put F o.dst (.tup [])) H
  | none => False

/-- What is left of a region. -/
def VO (P : Program) (ds : List (Option Nat)) : List Oper → Option (Fr × Heap) → (Fr → Heap → Prop) → Prop
  | _, none, _ => False
  | [], some (F, H), K => K F H
  | o :: r, some (F, H), K => match isCall o.op with
    | false => VO P ds r (stp P ds o F H) K
    | true => VC P ds o F H fun F' H' => VO P ds r (some (F', H')) K

/-- The same, not to be evaluated yet. -/
def VR (P : Program) (ds : List (Option Nat)) (r : List Oper) (K : Fr → Heap → Prop) (F : Fr) (H : Heap) : Prop := VO P ds r (some (F, H)) K

theorem VO_nil (ds : List (Option Nat)) (K : Fr → Heap → Prop) (F : Fr) (H : Heap) : VO P ds [] (some (F, H)) K = K F H := rfl
theorem VO_none (ds : List (Option Nat)) (l : List Oper) (K : Fr → Heap → Prop) : VO P ds l none K = False := by cases l <;> rfl
theorem VO_op {ds : List (Option Nat)} {o : Oper} {r : List Oper} {K : Fr → Heap → Prop} {F : Fr} {H : Heap} (h : isCall o.op = false) : VO P ds (o :: r) (some (F, H)) K = VO P ds r (stp P ds o F H) K := by
  simp only [VO, h]
theorem VO_call {ds : List (Option Nat)} {o : Oper} {r : List Oper} {K : Fr → Heap → Prop} {F : Fr} {H : Heap} (h : isCall o.op = true) : VO P ds (o :: r) (some (F, H)) K = VC P ds o F H (VR P ds r K) := by
  simp only [VO, h]
  rfl

theorem VO_step (ds : List (Option Nat)) (o : Oper) (r : List Oper) (K : Fr → Heap → Prop) (F : Fr) (H : Heap) :
    VO P ds (o :: r) (some (F, H)) K = match isCall o.op with | false => VO P ds r (stp P ds o F H) K | true => VC P ds o F H (VR P ds r K) := by
  cases h : isCall o.op with
  | false => exact VO_op h
  | true => exact VO_call h

theorem VC.call {ds : List (Option Nat)} {o : Oper} {K : Fr → Heap → Prop} {g : FuncId} {args : List PV} {v : PV} {H' : Heap} (h : CallOk P g args H v H') (hw : asked ds F o = some true) (hc : pcallee o.op (slot F) = some (g, args))
    (hk : K (put F o.dst v) H') : VC P ds o F H K := by
  unfold VC
  rw [hw]
  simp only [hc]
  exact ⟨_, h.toEx, fun v' H'' e => by rw [e.1, e.2]; exact hk⟩
theorem VC.callR {ds : List (Option Nat)} {o : Oper} {K : Fr → Heap → Prop} {g : FuncId} {args : List PV} {R : PV → Heap → Prop} (h : CallEx P g args H R) (hw : asked ds F o = some true) (hc : pcallee o.op (slot F) = some (g, args))
    (hk : ∀ v H', R v H' → K (put F o.dst v) H') : VC P ds o F H K := by
  unfold VC
  rw [hw]
  simp only [hc]
  exact ⟨R, h, hk⟩

theorem VO_sound {all : List Oper} {K : Fr → Heap → Prop} : ∀ (l : List Oper) (F : Fr) (H : Heap), VO P (all.map (·.dst)) l (some (F, H)) K → vops P all l K F H
  | [], F, H, h => h
  | o :: r, F, H, h => by
    have hcl : isCall o.op = false → pcallee o.op (slot F) = none := fun hc => by
      unfold pcallee
      split
      · rename_i f args ts ho; rw [ho] at hc; simp [isCall] at hc
      · rfl
    cases hc : isCall o.op with
    | false =>
      rw [VO_op hc] at h
      unfold stp at h
      split at h
      · rename_i hb
        simp only [vops, asked_want all F o hb, true_implies, reduceCtorEq, false_implies, and_true, hcl hc]
        split at h
        · rename_i v H' hp
          simp only [hp]
          exact VO_sound r _ _ h
        · rw [VO_none] at h; exact h.elim
      · rename_i hb
        simp only [vops, asked_want all F o hb, true_implies, reduceCtorEq, false_implies, true_and]
        exact VO_sound r _ _ h
      · rw [VO_none] at h; exact h.elim
    | true =>
      rw [VO_call hc] at h
      unfold VC at h
      split at h
      · rename_i hb
        simp only [vops, asked_want all F o hb, true_implies, reduceCtorEq, false_implies, and_true]
        split at h
        · rename_i g args hp
          obtain ⟨R, h1, h2⟩ := h
          simp only [hp]
          exact ⟨R, h1, fun v H' hR => VO_sound r _ _ (h2 v H' hR)⟩
        · exact h.elim
      · rename_i hb
        simp only [vops, asked_want all F o hb, true_implies, reduceCtorEq, false_implies, true_and]
        exact VO_sound r _ _ h
      · exact h.elim

section rules
variable {E : Env} {Q : Exit → Fr → Heap → Prop}
theorem PW.rg {id : Nat} {ops : Array Oper} (hd : ops.toList.all (dstOk E.N) = true) (h : ∀ K : Fr → Heap → Prop, (∀ F' H', Q .normal F' H' → K F' H') → VO P (ops.toList.map (·.dst)) ops.toList (some (F, H)) K) :
    PW P E (.region id ops false) F H Q := PW.region hd (VO_sound _ _ _ (h _ fun _ _ h => h))

/-- A region with one state behind it. -/
theorem PW.rg1 {id : Nat} {ops : Array Oper} (ks : List Nat) (F1 : Fr) (H1 : Heap) (hd : ops.toList.all (dstOk E.N) = true) (h : VO P (ops.toList.map (·.dst)) ops.toList (some (F, H)) (fun F' H' => kp ks F' = F1 ∧ H' = H1)) (hq : Q .normal F1 H1) :
    PW P E (.region id ops false) F H Q := PW.region_to ks F1 H1 hd (VO_sound _ _ _ h) hq
end rules

/-- Ways that meet again. -/
theorem PW.join {E : Env} {Q : Exit → Fr → Heap → Prop} {x y : Code} (ks : List Nat) (J : Fr → Heap → Prop) (h : PW P E x F H (thenQ (fun F' H' => J (kp ks F') H') Q)) (hj : ∀ F' H', J F' H' → PW P E y F' H' Q) : PW P E (.seq x y) F H Q :=
  PW.seq (h.mono fun e F' H' hq => by
    cases e with
    | normal => exact (hj _ _ hq).keep ks
    | _ => exact hq)

theorem hp0 (H K : Heap) (b : Blk) : (H ++ b :: K)[H.length]? = some b := by simp
theorem hp1 (H K : Heap) (a b : Blk) : (H ++ a :: b :: K)[H.length + 1]? = some b := by rw [List.getElem?_append_right (by omega)]; simp
theorem hp2 (H K : Heap) (a b c : Blk) : (H ++ a :: b :: c :: K)[H.length + 2]? = some c := by rw [List.getElem?_append_right (by omega)]; simp
theorem hp3 (H K : Heap) (a b c d : Blk) : (H ++ a :: b :: c :: d :: K)[H.length + 3]? = some d := by rw [List.getElem?_append_right (by omega)]; simp
theorem hs0 (H K : Heap) (b x : Blk) : (H ++ b :: K).set H.length x = H ++ x :: K := by simp
theorem hs1 (H K : Heap) (a b x : Blk) : (H ++ a :: b :: K).set (H.length + 1) x = H ++ a :: x :: K := by rw [List.set_append_right _ _ (by omega)]; simp
theorem hs2 (H K : Heap) (a b c x : Blk) : (H ++ a :: b :: c :: K).set (H.length + 2) x = H ++ a :: b :: x :: K := by rw [List.set_append_right _ _ (by omega)]; simp
theorem hl1 (H : Heap) (a : Blk) : (H ++ [a]).length = H.length + 1 := by simp
theorem hl2 (H : Heap) (a b : Blk) : (H ++ [a, b]).length = H.length + 2 := by simp
theorem hl3 (H : Heap) (a b c : Blk) : (H ++ [a, b, c]).length = H.length + 3 := by simp
theorem ite_ok {α : Type} {c : Prop} [Decidable c] (x y : α) (h : c) : (if c then x else y) = x := if_pos h
theorem ite_no {α : Type} {c : Prop} [Decidable c] (x y : α) (h : ¬ c) : (if c then x else y) = y := if_neg h

theorem dec_t {c : Prop} [Decidable c] (h : c) : decide c = true := decide_eq_true h
theorem dec_f {c : Prop} [Decidable c] (h : ¬ c) : decide c = false := decide_eq_false h
theorem beq_t {a b : Int} (h : a = b) : (a == b) = true := by simp [h]
theorem beq_f {a b : Int} (h : ¬ a = b) : (a == b) = false := by simp [h]
theorem bne_t {a b : Int} (h : ¬ a = b) : (a != b) = true := by simp [h]
theorem bne_f {a b : Int} (h : a = b) : (a != b) = false := by simp [h]

theorem w64 (n : Int) (h : -9223372036854775808 ≤ n ∧ n ≤ 9223372036854775807) : IntKind.i64.wrap n = n := IntWalk.i64_in n h
theorem w8 (n : Int) (h : 0 ≤ n ∧ n ≤ 255) : IntKind.u8.wrap n = n := IntWalk.u8_in n h
theorem w32 (n : Int) (h : 0 ≤ n ∧ n ≤ 4294967295) : IntKind.u32.wrap n = n := IntWalk.u32_in n h

/-! ### a slice that is appended to -/
def own : PV → Option Nat
  | .msl id _ _ _ _ _ => some id
  | _ => none

/-- The slice v holds n elements, the cells xs; it is nil or another slice without spare room, or a block of its own from B on. -/
def Acc (B e sz : Nat) (H : Heap) (v : PV) (xs : List PV) (n : Nat) : Prop :=
  xs.length = n * sz ∧ (v = .slice xs n true ∨ ∃ id ver, B ≤ id ∧ v = .msl id ver 0 n sz true ∧ H[id]? = some ⟨e, ver, xs⟩ ∧ ver ≤ xs.length)

theorem Acc.nil (B e sz : Nat) (H : Heap) : Acc B e sz H (.slice [] 0 true) [] 0 := ⟨by simp, .inl rfl⟩

/-- Blocks below B are as they were. -/
def Kept (B : Nat) (H H1 : Heap) : Prop := B ≤ H1.length ∧ ∀ j, j < B → H1[j]? = H[j]?
theorem Kept.refl (H : Heap) : Kept H.length H H := ⟨Nat.le_refl _, fun _ _ => rfl⟩
theorem Kept.more (H K : Heap) : Kept H.length H (H ++ K) := ⟨by simp, fun j hj => List.getElem?_append_left hj⟩
theorem Kept.split {H H1 : Heap} (h : Kept H.length H H1) : H1 = H ++ H1.drop H.length := by
  apply List.ext_getElem?
  intro j
  by_cases hj : j < H.length
  · rw [List.getElem?_append_left hj]; exact h.2 j hj
  · rw [List.getElem?_append_right (by omega), List.getElem?_drop]
    congr 1
    omega
theorem Kept.trans {B : Nat} {H H1 H2 : Heap} (h : Kept B H H1) (h' : Kept B H1 H2) : Kept B H H2 := ⟨h'.1, fun j hj => (h'.2 j hj).trans (h.2 j hj)⟩

/-- What an append does to the heap. -/
structure Grew (H H2 : Heap) (o : Option Nat) : Prop where
  len : H.length ≤ H2.length
  other : ∀ j, j < H.length → o ≠ some j → H2[j]? = H[j]?

theorem Kept.grew {B : Nat} {H H1 H2 : Heap} {o : Option Nat} (h : Kept B H H1) (g : Grew H1 H2 o) (ho : ∀ j, o = some j → B ≤ j) : Kept B H H2 :=
  ⟨Nat.le_trans h.1 g.len, fun j hj => (g.other j (Nat.lt_of_lt_of_le hj h.1) (fun e => by have := ho j e; omega)).trans (h.2 j hj)⟩

theorem Acc.own_ge {B e sz n : Nat} {H : Heap} {v : PV} {xs : List PV} (h : Acc B e sz H v xs n) : ∀ j, own v = some j → B ≤ j ∧ j < H.length := fun j hj => by
  rcases h.2 with rfl | ⟨id, ver, hb, rfl, hk, hvl⟩
  · cases hj
  · simp only [own, Option.some.injEq] at hj
    subst hj
    exact ⟨hb, (List.getElem?_eq_some_iff.1 hk).1⟩

theorem Acc.grew {B e sz n : Nat} {H H2 : Heap} {o : Option Nat} {v : PV} {xs : List PV} (h : Acc B e sz H v xs n) (g : Grew H H2 o) (hne : own v = none ∨ own v ≠ o) : Acc B e sz H2 v xs n := by
  refine ⟨h.1, ?_⟩
  rcases h.2 with h1 | ⟨id, ver, hb, rfl, hk, hvl⟩
  · exact .inl h1
  · refine .inr ⟨id, ver, hb, rfl, ?_, hvl⟩
    rw [g.other id (List.getElem?_eq_some_iff.1 hk).1 (by rcases hne with h1 | h1; cases h1; exact fun e => h1 e.symm)]
    exact hk

theorem Acc.append {B e sz n b m : Nat} {t tx : TypeId} {H : Heap} {v x : PV} {xs news z : List PV} (h : Acc B e sz H v xs n) (ht : P.underlying t = some (.slice e)) (hs : szT P e = some sz) (hb : byT P e = some b) (hz : zcells P e = some z)
    (hpos : 0 < sz) (hzl : z.length = sz) (hx : appSrc P H e sz tx x = some (news, m)) (hm : news.length = m * sz) (h1 : (n + m) * b ≤ 140737488355328) (h2 : n + m ≤ 140737488355328) (hB : B ≤ H.length) :
    ∃ v2 H2, pappend P H t tx v x = some (v2, H2) ∧ Acc B e sz H2 v2 (xs ++ news) (n + m) ∧ Grew H H2 (own v) ∧ (own v2 = own v ∨ own v2 = some H.length) := by
  have hlen : (xs ++ news).length = (n + m) * sz := by rw [List.length_append, h.1, hm, Nat.add_mul]
  unfold pappend
  simp only [ht, hs, hb, hz, hpos, hzl, and_self, if_true, hx]
  rcases h.2 with rfl | ⟨id, ver, hid, rfl, hk, hvl⟩
  · by_cases h0 : m = 0
    · subst h0
      have hn : news = [] := List.eq_nil_of_length_eq_zero (by simpa using hm)
      subst hn
      exact ⟨_, _, by simp, by simpa using h, ⟨Nat.le_refl _, fun _ _ _ => rfl⟩, .inl rfl⟩
    · refine ⟨.msl H.length (xs ++ news).length 0 (n + m) sz true, H ++ [⟨e, (xs ++ news).length, xs ++ news⟩], by simp [h0, h1, h2, h.1], ⟨hlen, .inr ⟨H.length, _, hB, rfl, by simp, Nat.le_refl _⟩⟩, ⟨by simp, fun j hj _ => by rw [List.getElem?_append_left hj]⟩, .inr rfl⟩
  · have hlt := (List.getElem?_eq_some_iff.1 hk).1
    by_cases h0 : m = 0
    · subst h0
      have hn : news = [] := List.eq_nil_of_length_eq_zero (by simpa using hm)
      subst hn
      simp only [Nat.add_zero] at h1 h2
      refine ⟨_, _, by simp [hk, h.1, h1, h2, h.1 ▸ hvl], by simpa using h, ⟨Nat.le_refl _, fun _ _ _ => rfl⟩, .inl rfl⟩
    · refine ⟨.msl id (xs ++ news).length 0 (n + m) sz true, H.set id ⟨e, (xs ++ news).length, xs ++ news⟩, by simp [hk, h.1, h1, h2, h0, h.1 ▸ hvl], ⟨hlen, .inr ⟨id, _, hid, rfl, by simp [hlt], Nat.le_refl _⟩⟩, ⟨by simp, fun j hj hne => ?_⟩, .inl rfl⟩
      rw [List.getElem?_set_ne (by intro e; subst e; exact hne rfl)]

theorem Acc.len {B e sz n : Nat} {t : TypeId} {H : Heap} {v : PV} {xs : List PV} (h : Acc B e sz H v xs n) (ht : P.underlying t = some (.slice e)) : plen P H t v = some (.int .i64 (n : Nat)) := by
  rcases h.2 with rfl | ⟨id, ver, hid, rfl, hk, hvl⟩
  · simp [plen, ht]
  · simp [plen, ht, live, hk]

theorem Acc.cells {B e sz n : Nat} {H : Heap} {v : PV} {xs : List PV} (h : Acc B e sz H v xs n) : scells H sz v = some (xs, n) := by
  rcases h.2 with rfl | ⟨id, ver, hid, rfl, hk, hvl⟩
  · simp [scells, h.1]
  · simp [scells, hk, h.1]
    rw [← h.1, List.take_length]

/-! ### freezing -/
/-- Given up, x becomes y. -/
def Frz (n : Nat) (H : Heap) (x y : PV) : Prop := ∃ d, ∀ d', d ≤ d' → frz n H d' x = some y
/-- It names no block. -/
def Still (x : PV) : Prop := ∃ d, ∀ n H d', d ≤ d' → frz n H d' x = some x

theorem Still.int (k : IntKind) (m : Int) : Still (.int k m) := ⟨1, fun n H d hd => by obtain ⟨d, rfl⟩ : ∃ e, d = e + 1 := ⟨d - 1, by omega⟩; rfl⟩
theorem Still.bool (b : Bool) : Still (.bool b) := ⟨1, fun n H d hd => by obtain ⟨d, rfl⟩ : ∃ e, d = e + 1 := ⟨d - 1, by omega⟩; rfl⟩
theorem Still.str (s : List UInt8) : Still (.str s) := ⟨1, fun n H d hd => by obtain ⟨d, rfl⟩ : ∃ e, d = e + 1 := ⟨d - 1, by omega⟩; rfl⟩
theorem Still.nilp : Still .nilp := ⟨1, fun n H d hd => by obtain ⟨d, rfl⟩ : ∃ e, d = e + 1 := ⟨d - 1, by omega⟩; rfl⟩
theorem Still.all : ∀ {xs : List PV}, (∀ x ∈ xs, Still x) → ∃ d, ∀ n H d', d ≤ d' → xs.mapM (frz n H d') = some xs
  | [], _ => ⟨0, fun n H d' _ => by simp⟩
  | x :: xs, h => by
    obtain ⟨d1, h1⟩ := h x (by simp)
    obtain ⟨d2, h2⟩ := Still.all (xs := xs) (fun y hy => h y (by simp [hy]))
    exact ⟨max d1 d2, fun n H d' hd => by simp [List.mapM_cons, h1 n H d' (by omega), h2 n H d' (by omega)]⟩
theorem Still.slice {xs : List PV} {len : Nat} (h : ∀ x ∈ xs, Still x) : Still (.slice xs len false) := by
  obtain ⟨d, hd⟩ := Still.all h
  exact ⟨d + 1, fun n H d' hd' => by obtain ⟨e, rfl⟩ : ∃ e, d' = e + 1 := ⟨d' - 1, by omega⟩; simp [frz, hd n H e (by omega)]⟩
theorem Still.agg {xs : List PV} (h : ∀ x ∈ xs, Still x) : Still (.agg xs) := by
  obtain ⟨d, hd⟩ := Still.all h
  exact ⟨d + 1, fun n H d' hd' => by obtain ⟨e, rfl⟩ : ∃ e, d' = e + 1 := ⟨d' - 1, by omega⟩; simp [frz, hd n H e (by omega)]⟩
theorem Still.frz {x : PV} (h : Still x) (n : Nat) (H : Heap) : Frz n H x x := by obtain ⟨d, hd⟩ := h; exact ⟨d, fun d' h' => hd n H d' h'⟩

theorem Frz.slice {n len : Nat} {H : Heap} {xs : List PV} {full : Bool} (h : ∀ x ∈ xs, Still x) : Frz n H (.slice xs len full) (.slice xs len false) := by
  obtain ⟨d, hd⟩ := Still.all h
  exact ⟨d + 1, fun d' hd' => by obtain ⟨e, rfl⟩ : ∃ e, d' = e + 1 := ⟨d' - 1, by omega⟩; simp [Pm.frz, hd n H e (by omega)]⟩
theorem Frz.acc {B e sz n : Nat} {H : Heap} {v : PV} {xs : List PV} (h : Acc B e sz H v xs n) (hs : ∀ x ∈ xs, Still x) : Frz B H v (.slice xs n false) := by
  rcases h.2 with rfl | ⟨id, ver, hid, rfl, hk, hvl⟩
  · exact Frz.slice hs
  · obtain ⟨d, hd⟩ := Still.all hs
    refine ⟨d + 1, fun d' hd' => ?_⟩
    obtain ⟨e', rfl⟩ : ∃ e', d' = e' + 1 := ⟨d' - 1, by omega⟩
    have hlt : ¬ id < B := by omega
    have htk : (xs.drop 0).take (n * sz) = xs := by rw [List.drop_zero, ← h.1, List.take_length]
    simp [Pm.frz, hlt, hk, h.1]
    rw [List.take_of_length_le (by rw [h.1]; exact Nat.le_refl _)]
    exact hd B H e' (by omega)
theorem Frz.tup2 {n : Nat} {H : Heap} {a b a' b' : PV} (h1 : Frz n H a a') (h2 : Frz n H b b') : Frz n H (.tup [a, b]) (.tup [a', b']) := by
  obtain ⟨d1, e1⟩ := h1
  obtain ⟨d2, e2⟩ := h2
  exact ⟨max d1 d2 + 1, fun d' hd' => by obtain ⟨e, rfl⟩ : ∃ e, d' = e + 1 := ⟨d' - 1, by omega⟩; simp [Pm.frz, List.mapM_cons, e1 e (by omega), e2 e (by omega)]⟩
theorem Frz.tup3 {n : Nat} {H : Heap} {a b c a' b' c' : PV} (h1 : Frz n H a a') (h2 : Frz n H b b') (h3 : Frz n H c c') : Frz n H (.tup [a, b, c]) (.tup [a', b', c']) := by
  obtain ⟨d1, e1⟩ := h1
  obtain ⟨d2, e2⟩ := h2
  obtain ⟨d3, e3⟩ := h3
  exact ⟨max d1 (max d2 d3) + 1, fun d' hd' => by obtain ⟨e, rfl⟩ : ∃ e, d' = e + 1 := ⟨d' - 1, by omega⟩; simp [Pm.frz, List.mapM_cons, e1 e (by omega), e2 e (by omega), e3 e (by omega)]⟩

theorem Fin.give {H H' : Heap} {v v' : PV} (hk : Kept H.length H H') (hf : Frz H.length H' v' v) : Fin H v H v' H' := by
  obtain ⟨d, hd⟩ := hf
  exact .inr (.inl ⟨_, d, hk.split, rfl, hd d (Nat.le_refl _)⟩)

/-- Two accumulators do not share a block. -/
def Two (v u : PV) : Prop := ∀ j, own v = some j → own u ≠ some j
theorem Two.of {v u v2 : PV} {H : Heap} (h : Two v u) (hu : ∀ j, own u = some j → j < H.length) (ho : own v2 = own v ∨ own v2 = some H.length) : Two v2 u := fun j hj => by
  rcases ho with ho | ho
  · exact h j (by rw [← ho]; exact hj)
  · intro hu'
    have := hu j hu'
    rw [ho] at hj
    injection hj with hj
    omega
theorem Two.symm {v u : PV} (h : Two v u) : Two u v := fun j hj hv => h j hv hj
theorem Two.ne {v u : PV} (h : Two v u) : own u = none ∨ own u ≠ own v := by
  cases hu : own u with
  | none => exact .inl rfl
  | some j => exact .inr (fun e => h j e.symm hu)
theorem Acc.more {B e sz n : Nat} {H : Heap} {v : PV} {xs : List PV} (h : Acc B e sz H v xs n) (K : Heap) : Acc B e sz (H ++ K) v xs n := h.grew (o := none) ⟨by simp, fun j hj _ => List.getElem?_append_left hj⟩ (by cases hv : own v; exact .inl rfl; exact .inr (by simp))
theorem Kept.add {B : Nat} {H H1 : Heap} (h : Kept B H H1) (K : Heap) : Kept B H (H1 ++ K) := ⟨by have := h.1; simp; omega, fun j hj => by rw [List.getElem?_append_left (by have := h.1; omega)]; exact h.2 j hj⟩

/-- A frame, given up. -/
def FrzF (n : Nat) (H : Heap) : Fr → Fr → Prop
  | [], [] => True
  | (t, x) :: r, (t', y) :: s => t = t' ∧ Frz n H x y ∧ FrzF n H r s
  | _, _ => False
theorem Frz.undef (n : Nat) (H : Heap) : Frz n H .undef .undef := ⟨1, fun d hd => by obtain ⟨d, rfl⟩ : ∃ e, d = e + 1 := ⟨d - 1, by omega⟩; rfl⟩
theorem FrzF.slot {n : Nat} {H : Heap} : ∀ {F F1 : Fr}, FrzF n H F F1 → ∀ t, Frz n H (slot F t) (slot F1 t)
  | [], [], _, t => Frz.undef n H
  | (k, x) :: r, (k', y) :: s, h, t => by
    obtain ⟨rfl, h1, h2⟩ := h
    show Frz n H (match Nat.beq k t with | true => x | false => Pm.slot r t) (match Nat.beq k t with | true => y | false => Pm.slot s t)
    cases Nat.beq k t with
    | true => exact h1
    | false => exact FrzF.slot h2 t
  | [], _ :: _, h, _ => h.elim
  | _ :: _, [], h, _ => h.elim

/-- ████ What the call has made is given up: its blocks are never written again. ████ -/
theorem PW.give {E : Env} {Q : Exit → Fr → Heap → Prop} {c : Code} (ks : List Nat) (F1 : Fr) (hk : Kept E.H0.length E.H0 H) (hz : FrzF E.H0.length H (kp ks F) F1) (h : PW P E c F1 E.H0 Q) : PW P E c F H Q := fun hs C a w hd hw hf => by
  have e : H = E.H0 ++ H.drop E.H0.length := hk.split
  rw [e] at hw
  obtain ⟨g1, g2⟩ := WRel.giveN hs hw
  rw [← e] at hw
  refine wp_mono (h hs _ a w hd g2 ⟨hf.1, fun t => ?_⟩) fun _ _ _ hp => hp.trans g1 (.refl _ _)
  obtain ⟨d, hd'⟩ := hz.slot t
  exact frz_sound hw _ d _ _ _ ((hf.keep ks).2 t) (hd' d (Nat.le_refl _))

end Go.Proofs.Ytnjnikafhbholaa.Pm

namespace Go.Proofs.Ytnjnikafhbholaa.Pm
set_option linter.all false
set_option linter.unusedVariables false
set_option linter.unusedSimpArgs false
open Go.RowKit

variable {P : Program} {C : Ctx} {H : Heap} {w : World} {F : Fr} {a : Act} {N : Nat}

/-! ### what an operation reads, and what it may do to the heap -/
def tmpsOf (xs : List Operand) : List Nat := xs.filterMap fun | .tmp t => some t | _ => none
def gread (ds : List (Option Nat)) (o : Oper) : List Nat := match o.guard with | none => [] | some (j, _) => match ds[j]? with | some (some d) => [d] | _ => []
def reads (ds : List (Option Nat)) (o : Oper) : List Nat := tmpsOf o.op.operands.toList ++ gread ds o
def effB : Builtin → Bool
  | .len | .min | .max => false
  | _ => true
def eff : Op → Bool
  | .box .. | .alloc .. | .store .. | .makeSlice .. | .makeMap .. | .mapUpdate .. | .insert .. => true
  | .call { callee := .builtin b, .. } => effB b
  | _ => false
def pureOp : Op → Bool
  | .move _ | .assign _ | .pick .. | .build .. | .buildSlice .. | .unOp .. | .field .. | .index .. | .extract .. => true
  | _ => false
/-- A call of a named function without arguments. -/
def pureCall : Op → Bool
  | .call { callee := .value (.func _), args, .. } => args.toList.isEmpty
  | _ => false
def clear (ds : List (Option Nat)) (x y : Oper) : Bool := match x.dst with
  | none => true
  | some d => !((reads ds y).elem d) && !(y.dst == some d)
/-- It only adds a block. -/
def grow : Op → Bool
  | .alloc .. | .box .. | .makeSlice .. | .makeMap .. => true
  | _ => false
/-- May y be done ahead of x? 'g': what is read and called may stand ahead of new blocks. -/
def compat (ds : List (Option Nat)) (x y : Oper) (g : Bool := false) : Bool := clear ds x y && clear ds y x && ((!eff x.op && !eff y.op) || (pureOp x.op || pureCall x.op) || (pureOp y.op || pureCall y.op) || (g && (!eff x.op && grow y.op)))

theorem ev_congr {f g : Nat → PV} {x : Operand} (h : ∀ t, x = .tmp t → f t = g t) : ev f x = ev g x := by
  cases x <;> simp only [ev]
  exact h _ rfl
theorem evs_congr {f g : Nat → PV} {xs : List Operand} (h : ∀ x ∈ xs, ev f x = ev g x) : xs.map (ev f) = xs.map (ev g) := List.map_congr_left h
theorem pop_congr {f g : Nat → PV} {op : Op} (h : ∀ x ∈ op.operands.toList, ev f x = ev g x) : pop P op f H = pop P op g H := by
  cases op
  case build t ps =>
    have : ps.toList.map (fun p => (p.1, ev f p.2)) = ps.toList.map (fun p => (p.1, ev g p.2)) := List.map_congr_left fun p hp => by rw [h p.2 (by simp [Op.operands]; exact ⟨_, Array.mem_toList_iff.1 hp⟩)]
    simp only [pop, this]
  case buildSlice t n ps =>
    have : ps.toList.map (fun p => (p.1, ev f p.2)) = ps.toList.map (fun p => (p.1, ev g p.2)) := List.map_congr_left fun p hp => by rw [h p.2 (by simp [Op.operands]; exact ⟨_, Array.mem_toList_iff.1 hp⟩)]
    simp only [pop, this]
  case slice t x l hh m =>
    have e1 : ev f x = ev g x := h x (by simp [Op.operands])
    have e2 : l.map (ev f) = l.map (ev g) := by cases l with | none => rfl | some y => simp [h y (by simp [Op.operands])]
    have e3 : hh.map (ev f) = hh.map (ev g) := by cases hh with | none => rfl | some y => simp [h y (by simp [Op.operands])]
    have e4 : m.map (ev f) = m.map (ev g) := by cases m with | none => rfl | some y => simp [h y (by simp [Op.operands])]
    simp only [pop, e1, e2, e3, e4]
  case makeFunc fn a b =>
    have e1 : a.toList.map (ev f) = a.toList.map (ev g) := evs_congr fun x hx => h x (by simp [Op.operands]; exact .inl (Array.mem_toList_iff.1 hx))
    have e2 : b.toList.map (ev f) = b.toList.map (ev g) := evs_congr fun x hx => h x (by simp [Op.operands]; exact .inr (Array.mem_toList_iff.1 hx))
    cases fn <;> simp only [pop, e1, e2]
  case call c =>
    obtain ⟨callee, args, ts⟩ := c
    have e1 : args.toList.map (ev f) = args.toList.map (ev g) := evs_congr fun x hx => h x (by simp [Op.operands, Call.operands]; exact .inr (Array.mem_toList_iff.1 hx))
    cases callee <;> simp only [pop, e1]
  case makeMap t r => cases r <;> simp only [pop]
  all_goals simp only [pop]
  all_goals simp only [Op.operands, List.mem_cons, List.not_mem_nil, or_false, forall_eq_or_imp, forall_eq] at h
  all_goals simp only [h]
theorem pcallee_congr {f g : Nat → PV} {op : Op} (h : ∀ x ∈ op.operands.toList, ev f x = ev g x) : pcallee op f = pcallee op g := by
  unfold pcallee
  split
  · rename_i fn args ts
    have e1 : ev f fn = ev g fn := h fn (by simp [Op.operands, Call.operands])
    have e2 : args.toList.map (ev f) = args.toList.map (ev g) := evs_congr fun x hx => h x (by simp [Op.operands, Call.operands]; exact .inr (Array.mem_toList_iff.1 hx))
    rw [e1, e2]
  · rfl
theorem pop_noeff {f : Nat → PV} {op : Op} {v : PV} {H' : Heap} (h : eff op = false) (hp : pop P op f H = some (v, H')) : H' = H := by
  unfold pop at hp
  split at hp <;> first
    | (simp only [Option.some.injEq, Prod.mk.injEq] at hp; exact hp.2.symm)
    | (simp only [Option.map_eq_some_iff, Prod.mk.injEq] at hp; obtain ⟨_, _, _, h2⟩ := hp; exact h2.symm)
    | (simp [eff] at h; done)
    | skip
  · split at hp <;> simp at hp <;> exact hp.2.symm
  · split at hp
    · simp only [Option.map_eq_some_iff, Prod.mk.injEq] at hp; obtain ⟨_, _, _, h2⟩ := hp; exact h2.symm
    · split at hp <;> (simp only [Option.map_eq_some_iff, Prod.mk.injEq] at hp; obtain ⟨_, _, _, h2⟩ := hp; exact h2.symm)
  · split at hp
    · simp only [Option.map_eq_some_iff, Prod.mk.injEq] at hp; obtain ⟨_, _, _, h2⟩ := hp; exact h2.symm
    · cases hp
  · rename_i b args ts
    simp only [eff] at h
    unfold pbuiltin at hp
    split at hp <;> first
      | (simp only [Option.map_eq_some_iff, Prod.mk.injEq] at hp; obtain ⟨_, _, _, h2⟩ := hp; exact h2.symm)
      | (simp [effB] at h; done)
      | (cases hp; done)
  · cases hp
theorem pop_pure {f : Nat → PV} {op : Op} {v : PV} {H' : Heap} (h : pureOp op = true) (hp : pop P op f H = some (v, H')) (K : Heap) : H' = H ∧ pop P op f K = some (v, K) := by
  cases op <;> simp only [pureOp, Bool.false_eq_true] at h <;> simp only [pop] at hp ⊢
  case move => simp at hp ⊢; exact ⟨hp.2.symm, hp.1⟩
  case assign => simp at hp ⊢; exact ⟨hp.2.symm, hp.1⟩
  case pick =>
    split at hp <;> simp at hp ⊢
    · exact ⟨hp.2.symm, hp.1⟩
    · exact ⟨hp.2.symm, hp.1⟩
  case extract =>
    split at hp
    · simp only [Option.map_eq_some_iff, Prod.mk.injEq] at hp ⊢
      obtain ⟨u, h1, h2, h3⟩ := hp
      exact ⟨h3.symm, u, h1, h2, trivial⟩
    · cases hp
  all_goals
    simp only [Option.map_eq_some_iff, Prod.mk.injEq] at hp ⊢
    obtain ⟨u, h1, h2, h3⟩ := hp
    exact ⟨h3.symm, u, h1, h2, trivial⟩

/-! ### one operation, and a row of them, over slots as a function -/
theorem get_ext {K : Heap} {id : Nat} {k : Blk} (h : H[id]? = some k) : (H ++ K)[id]? = some k := by rw [List.getElem?_append_left (List.getElem?_eq_some_iff.1 h).1]; exact h
theorem live_ext (K : Heap) {id ver : Nat} (h : live H id ver = true) : live (H ++ K) id ver = true := by
  unfold live at h ⊢
  cases hk : H[id]? with
  | none => rw [hk] at h; cases h
  | some k => rw [hk] at h; rw [get_ext hk]; exact h
theorem scells_ext (K : Heap) {sz : Nat} {x : PV} {c : List PV × Nat} (h : scells H sz x = some c) : scells (H ++ K) sz x = some c := by
  cases x <;> simp only [scells] at h ⊢ <;> try (exact h)
  case msl id ver off len s g =>
    cases hk : H[id]? with
    | none => rw [hk] at h; cases h
    | some k => rw [hk] at h; rw [get_ext hk]; exact h
theorem pload_ext (K : Heap) {t : TypeId} {x v : PV} (h : pload P H t x = some v) : pload P (H ++ K) t x = some v := by
  cases x <;> simp only [pload] at h ⊢ <;> try (exact h)
  case ptr id ver off =>
    cases hk : H[id]? with
    | none => rw [hk] at h; cases h
    | some k => rw [hk] at h; rw [get_ext hk]; exact h
theorem pnil_ext (K : Heap) {x v : PV} (h : pnil H x = some v) : pnil (H ++ K) x = some v := by
  cases x <;> simp only [pnil] at h ⊢ <;> try (exact h)
  case ptr id ver off =>
    cases hl : live H id ver with
    | false => rw [hl] at h; cases h
    | true => rw [hl] at h; rw [live_ext K hl]; exact h
theorem pbin_ext (K : Heap) {op : BinOp} {t : TypeId} {x y v : PV} (h : pbin P H op t x y = some v) : pbin P (H ++ K) op t x y = some v := by
  unfold pbin at h ⊢
  split at h <;> try (exact h)
  · rename_i id ver off
    cases hl : live H id ver with
    | false => rw [hl, Bool.and_false] at h; cases h
    | true => rw [hl] at h; simp only [live_ext K hl]; exact h
  · rename_i id ver off
    cases hl : live H id ver with
    | false => rw [hl, Bool.and_false] at h; cases h
    | true => rw [hl] at h; simp only [live_ext K hl]; exact h
theorem pnilcmp_ext (K : Heap) {op : BinOp} {t : TypeId} {x v : PV} (h : pnilcmp P H op t x = some v) : pnilcmp P (H ++ K) op t x = some v := by
  unfold pnilcmp at h ⊢
  split at h <;> try (exact h)
  split at h <;> try (exact h)
  split at h
  · rename_i hn
    rw [if_pos ⟨hn.1, live_ext K hn.2⟩]; exact h
  · cases h
theorem pconv_ext (K : Heap) {s d : TypeId} {x v : PV} (h : pconv P H s d x = some v) : pconv P (H ++ K) s d x = some v := by
  unfold pconv at h ⊢
  split at h <;> try (exact h)
  split at h <;> try (exact h)
  simp only [Option.bind_eq_some_iff] at h ⊢
  obtain ⟨c, h1, h2⟩ := h
  exact ⟨c, scells_ext K h1, h2⟩
theorem pslice_ext (K : Heap) {t : TypeId} {x v : PV} {lo hi mx : Option PV} (h : pslice P H t x lo hi mx = some v) : pslice P (H ++ K) t x lo hi mx = some v := by
  unfold pslice at h ⊢
  split at h <;> try (exact h)
  · rename_i e id ver off len sz g hu
    cases hl : live H id ver with
    | false => rw [hl] at h; split at h <;> first | (rename_i h9; cases h9; done) | cases h
    | true => rw [hl] at h; simp only [live_ext K hl]; exact h
  · rename_i len e id ver off hu
    cases hl : live H id ver with
    | false => rw [hl] at h; split at h <;> first | (rename_i h9; cases h9; done) | cases h
    | true => rw [hl] at h; simp only [live_ext K hl]; exact h
theorem pfieldAddr_ext (K : Heap) {s : TypeId} {x v : PV} {f : Nat} (h : pfieldAddr P H s x f = some v) : pfieldAddr P (H ++ K) s x f = some v := by
  cases x <;> simp only [pfieldAddr] at h ⊢ <;> try (exact h)
  case ptr id ver off =>
    cases hl : live H id ver with
    | false => rw [hl] at h; repeat' split at h <;> first | (cases h; done) | skip
    | true => rw [hl] at h; simp only [live_ext K hl]; exact h
theorem pindexAddr_ext (K : Heap) {t : TypeId} {x i v : PV} (h : pindexAddr P H t x i = some v) : pindexAddr P (H ++ K) t x i = some v := by
  unfold pindexAddr at h ⊢
  split at h <;> try (exact h)
  · rename_i e id ver off len sz g k i hu
    cases hl : live H id ver with
    | false => rw [hl] at h; split at h <;> first | (rename_i h9; cases h9; done) | cases h
    | true => rw [hl] at h; simp only [live_ext K hl]; exact h
  · rename_i len e id ver off k i hu
    cases hl : live H id ver with
    | false => rw [hl] at h; split at h <;> first | (rename_i h9; cases h9; done) | cases h
    | true => rw [hl] at h; simp only [live_ext K hl]; exact h
theorem plook_ext (K : Heap) {t : TypeId} {m k v : PV} {ok : Bool} (h : plook P H t m k ok = some v) : plook P (H ++ K) t m k ok = some v := by
  unfold plook at h ⊢
  have key : ∀ r, pmapOf P H t m = some r → pmapOf P (H ++ K) t m = some r := fun r hr => by
    unfold pmapOf at hr ⊢
    split at hr
    · rename_i kt e id ver hu
      split at hr
      · rename_i d b hs hb
        simp only [hs, get_ext hb]
        exact hr
      · cases hr
    · cases hr
  cases hm : pmapOf P H t m with
  | none => rw [hm] at h; cases h
  | some r => rw [hm] at h; rw [key r hm]; exact h
theorem plen_ext (K : Heap) {t : TypeId} {x v : PV} (h : plen P H t x = some v) : plen P (H ++ K) t x = some v := by
  unfold plen at h ⊢
  split at h <;> try (exact h)
  · rename_i e id ver off n sz g hu
    cases hl : live H id ver with
    | false => rw [hl] at h; cases h
    | true => rw [hl] at h; simp only [live_ext K hl]; exact h
theorem map_ext (K : Heap) {a b : Option PV} {v : PV} {H' : Heap} (h : (a.map fun v => (v, H)) = some (v, H')) (hab : ∀ v, a = some v → b = some v) : (b.map fun v => (v, H ++ K)) = some (v, H ++ K) := by
  simp only [Option.map_eq_some_iff, Prod.mk.injEq] at h ⊢
  obtain ⟨u, h1, h2, _⟩ := h
  exact ⟨u, hab u h1, h2, trivial⟩
/-- What only reads gives the same if there are more blocks. -/
theorem pop_ext (K : Heap) {f : Nat → PV} {op : Op} {v : PV} {H' : Heap} (h : eff op = false) (hp : pop P op f H = some (v, H')) : pop P op f (H ++ K) = some (v, H ++ K) := by
  cases op <;> try (simp [eff] at h; done)
  case move => simp only [pop, Option.some.injEq, Prod.mk.injEq] at hp ⊢; exact ⟨hp.1, trivial⟩
  case assign => simp only [pop, Option.some.injEq, Prod.mk.injEq] at hp ⊢; exact ⟨hp.1, trivial⟩
  case pick => exact (pop_pure (by rfl) hp (H ++ K)).2
  case build => exact (pop_pure (by rfl) hp (H ++ K)).2
  case buildSlice => exact (pop_pure (by rfl) hp (H ++ K)).2
  case unOp => exact (pop_pure (by rfl) hp (H ++ K)).2
  case field => exact (pop_pure (by rfl) hp (H ++ K)).2
  case index => exact (pop_pure (by rfl) hp (H ++ K)).2
  case extract => exact (pop_pure (by rfl) hp (H ++ K)).2
  case load => simp only [pop] at hp ⊢; exact map_ext K hp fun v h => pload_ext K h
  case nilCheck => simp only [pop] at hp ⊢; exact map_ext K hp fun v h => pnil_ext K h
  case binOp =>
    simp only [pop] at hp ⊢
    split at hp
    · exact map_ext K hp fun v h => pnilcmp_ext K h
    split at hp
    · exact map_ext K hp fun v h => h
    · exact map_ext K hp fun v h => pbin_ext K h
  case convert => simp only [pop] at hp ⊢; exact map_ext K hp fun v h => pconv_ext K h
  case makeFunc fn a b => cases fn <;> simp only [pop, Option.some.injEq, Prod.mk.injEq] at hp ⊢ <;> first | exact ⟨hp.1, trivial⟩ | cases hp
  case slice => simp only [pop] at hp ⊢; exact map_ext K hp fun v h => pslice_ext K h
  case fieldAddr => simp only [pop] at hp ⊢; exact map_ext K hp fun v h => pfieldAddr_ext K h
  case indexAddr => simp only [pop] at hp ⊢; exact map_ext K hp fun v h => pindexAddr_ext K h
  case lookup => simp only [pop] at hp ⊢; exact map_ext K hp fun v h => plook_ext K h
  case call c =>
    obtain ⟨callee, args, ts⟩ := c
    cases callee with
    | builtin b =>
      simp only [pop] at hp ⊢
      simp only [eff] at h
      unfold pbuiltin at hp ⊢
      split at hp
      · exact map_ext K hp fun v h => plen_ext K h
      · simp [effB] at h
      · simp [effB] at h
      · exact map_ext K hp fun v h => h
      · exact map_ext K hp fun v h => h
      · cases hp
    | _ => simp only [pop] at hp; cases hp
  all_goals (simp only [pop] at hp; cases hp)
theorem pop_grow {f : Nat → PV} {op : Op} {v : PV} {H' : Heap} (h : grow op = true) (hp : pop P op f H = some (v, H')) : ∃ K, H' = H ++ K := by
  cases op <;> try (simp [grow] at h; done)
  case alloc => simp only [pop, Option.map_eq_some_iff, Prod.mk.injEq] at hp; obtain ⟨z, _, _, h2⟩ := hp; exact ⟨_, h2.symm⟩
  case box =>
    simp only [pop] at hp
    split at hp
    · simp only [Option.some.injEq, Prod.mk.injEq] at hp; exact ⟨_, hp.2.symm⟩
    · cases hp
  case makeSlice =>
    simp only [pop, pmake] at hp
    split at hp
    · split at hp
      · split at hp
        · simp only [Option.some.injEq, Prod.mk.injEq] at hp; exact ⟨_, hp.2.symm⟩
        · cases hp
      · cases hp
    · cases hp
  case makeMap t r =>
    cases r with
    | none => simp only [pop, Option.some.injEq, Prod.mk.injEq] at hp; exact ⟨_, hp.2.symm⟩
    | some _ => simp only [pop] at hp; cases hp
theorem grow_callee {f : Nat → PV} {op : Op} (h : grow op = true) : pcallee op f = none := by
  unfold pcallee
  split
  · simp [grow] at h
  · rfl

def Ex (P : Program) (all : List Oper) (g : Bool) (o : Oper) (f : Nat → PV) (H : Heap) (v : PV) (H' : Heap) : Prop :=
  (want all f o = some false ∧ v = .tup [] ∧ H' = H) ∨
  (want all f o = some true ∧ match pcallee o.op f with | some (fn, args) => H' = H ∧ CallOk P fn args H v H ∧ (pureCall o.op = true → ∀ K, CallOk P fn args K v K) ∧ (g = true → ∀ K, CallOk P fn args (H ++ K) v (H ++ K)) | none => pop P o.op f H = some (v, H'))
def Run (P : Program) (all : List Oper) (g : Bool) : List Oper → (Nat → PV) → Heap → ((Nat → PV) → Heap → Prop) → Prop
  | [], f, H, K => K f H
  | o :: r, f, H, K => ∃ v H', Ex P all g o f H v H' ∧ Run P all g r (upd f o.dst v) H' K

theorem upd_other {f : Nat → PV} {d : Option Nat} {v : PV} {t : Nat} (h : d ≠ some t) : upd f d v t = f t := by
  cases d with
  | none => rfl
  | some d => simp only [upd]; rw [if_neg (fun e => h (by rw [e]))]
theorem upd_comm {f : Nat → PV} {d e : Option Nat} {u v : PV} (h : ∀ t, d = some t → e ≠ some t) : upd (upd f d u) e v = upd (upd f e v) d u := by
  cases d with
  | none => rfl
  | some d =>
    cases e with
    | none => rfl
    | some e =>
      have hne : e ≠ d := fun he => h d rfl (by rw [he])
      funext t
      simp only [upd]
      by_cases h1 : d = t <;> by_cases h2 : e = t <;> simp_all

theorem mem_tmps {xs : List Operand} {t : Nat} (h : .tmp t ∈ xs) : t ∈ tmpsOf xs := List.mem_filterMap.2 ⟨_, h, rfl⟩
theorem want_congr {all : List Oper} {f g : Nat → PV} {o : Oper} (h : ∀ t ∈ gread (all.map (·.dst)) o, f t = g t) : want all f o = want all g o := by
  unfold want
  unfold gread at h
  cases hg : o.guard with
  | none => rfl
  | some jb =>
    obtain ⟨j, b⟩ := jb
    simp only [hg] at h ⊢
    cases hj : all[j]? with
    | none => rfl
    | some x =>
      cases hd : x.dst with
      | none => simp [hd]
      | some d =>
        have := h d (by simp [hj, hd])
        simp [hd, this]

theorem Ex.congr {all : List Oper} {b : Bool} {o : Oper} {f g : Nat → PV} {v : PV} {H' : Heap} (h : ∀ t ∈ reads (all.map (·.dst)) o, f t = g t) (he : Ex P all b o f H v H') : Ex P all b o g H v H' := by
  have e1 : want all f o = want all g o := want_congr fun t ht => h t (List.mem_append.2 (.inr ht))
  have e2 : ∀ x ∈ o.op.operands.toList, ev f x = ev g x := fun x hx => ev_congr fun t ht => h t (List.mem_append.2 (.inl (mem_tmps (ht ▸ hx))))
  unfold Ex at he ⊢
  rw [← e1, ← pcallee_congr e2, ← pop_congr e2]
  exact he
theorem Ex.noeff {all : List Oper} {g : Bool} {o : Oper} {f : Nat → PV} {v : PV} {H' : Heap} (h : eff o.op = false) (he : Ex P all g o f H v H') : H' = H := by
  rcases he with ⟨_, _, he⟩ | ⟨_, he⟩
  · exact he
  · split at he
    · exact he.1
    · exact pop_noeff h he
theorem Ex.pure {all : List Oper} {g : Bool} {o : Oper} {f : Nat → PV} {v : PV} {H' : Heap} (h : pureOp o.op = true ∨ pureCall o.op = true) (he : Ex P all g o f H v H') (K : Heap) : H' = H ∧ Ex P all g o f K v K := by
  rcases h with h | h
  rotate_left
  · rcases he with ⟨h1, h2, h3⟩ | ⟨h1, h2⟩
    · exact ⟨h3, .inl ⟨h1, h2, rfl⟩⟩
    · have hc : ∃ fn args, pcallee o.op f = some (fn, args) := by
        unfold pureCall at h
        split at h
        · rename_i g args ts ho; rw [ho]; exact ⟨_, _, rfl⟩
        · cases h
      obtain ⟨fn, args, hc⟩ := hc
      simp only [hc] at h2
      exact ⟨h2.1, .inr ⟨h1, by rw [hc]; exact ⟨rfl, h2.2.2.1 h K, h2.2.2.1, fun _ K' => h2.2.2.1 h (K ++ K')⟩⟩⟩
  have hc : pcallee o.op f = none := by
    unfold pcallee
    split
    · rename_i ho; rw [ho] at h; simp [pureOp] at h
    · rfl
  rcases he with ⟨h1, h2, h3⟩ | ⟨h1, h2⟩
  · exact ⟨h3, .inl ⟨h1, h2, rfl⟩⟩
  · rw [hc] at h2
    obtain ⟨h3, h4⟩ := pop_pure h h2 K
    exact ⟨h3, .inr ⟨h1, by rw [hc]; exact h4⟩⟩

theorem clear_reads {ds : List (Option Nat)} {x y : Oper} (h : clear ds x y = true) : ∀ t ∈ reads ds y, x.dst ≠ some t := fun t ht he => by
  unfold clear at h
  rw [he] at h
  simp only [Bool.and_eq_true, Bool.not_eq_true'] at h
  have := h.1
  rw [List.elem_eq_mem, decide_eq_false_iff_not] at this
  exact this ht
theorem clear_dst {ds : List (Option Nat)} {x y : Oper} (h : clear ds x y = true) : ∀ t, x.dst = some t → y.dst ≠ some t := fun t he hy => by
  unfold clear at h
  rw [he] at h
  simp only [Bool.and_eq_true, Bool.not_eq_true'] at h
  have := h.2
  rw [hy] at this
  simp at this

/-- What reads or calls, with more blocks. -/
theorem Ex.ext {all : List Oper} {o : Oper} {f : Nat → PV} {v : PV} {H' : Heap} (h : eff o.op = false) (he : Ex P all true o f H v H') (K : Heap) : Ex P all true o f (H ++ K) v (H ++ K) := by
  rcases he with ⟨h1, h2, h3⟩ | ⟨h1, h2⟩
  · exact .inl ⟨h1, h2, rfl⟩
  · refine .inr ⟨h1, ?_⟩
    split at h2
    · exact ⟨rfl, h2.2.2.2 rfl K, h2.2.2.1, fun _ K' => by rw [List.append_assoc]; exact h2.2.2.2 rfl (K ++ K')⟩
    · exact pop_ext K h h2
theorem Ex.swap {all : List Oper} {g : Bool} {x o : Oper} {f : Nat → PV} {vx v : PV} {Hx H1 : Heap} (hc : compat (all.map (·.dst)) x o g = true) (hx : Ex P all g x f H vx Hx) (ho : Ex P all g o (upd f x.dst vx) Hx v H1) :
    ∃ H3, Ex P all g o f H v H3 ∧ Ex P all g x (upd f o.dst v) H3 vx H1 ∧ upd (upd f x.dst vx) o.dst v = upd (upd f o.dst v) x.dst vx := by
  unfold compat at hc
  simp only [Bool.and_eq_true, Bool.or_eq_true, Bool.not_eq_true'] at hc
  obtain ⟨⟨c1, c2⟩, c3⟩ := hc
  have ho' : Ex P all g o f Hx v H1 := ho.congr fun t ht => upd_other (clear_reads c1 t ht)
  have hx' : ∀ K K', Ex P all g x f K vx K' → Ex P all g x (upd f o.dst v) K vx K' := fun K K' h => h.congr fun t ht => (upd_other (clear_reads c2 t ht)).symm
  have hcm := upd_comm (f := f) (u := vx) (v := v) (clear_dst c1)
  rcases c3 with ((⟨e1, e2⟩ | e1) | e1) | ⟨rfl, e1, e2⟩
  · obtain rfl := hx.noeff e1
    obtain rfl := ho'.noeff e2
    exact ⟨_, ho', hx' _ _ hx, hcm⟩
  · obtain ⟨rfl, hp⟩ := hx.pure e1 H1
    exact ⟨H1, ho', hx' _ _ hp, hcm⟩
  · obtain ⟨rfl, hp⟩ := ho'.pure e1 H
    exact ⟨H, hp, hx' _ _ hx, hcm⟩
  · obtain rfl := hx.noeff e1
    have hk : ∃ K, H1 = Hx ++ K := by
      rcases ho' with ⟨_, _, h3⟩ | ⟨_, h3⟩
      · exact ⟨[], by rw [h3, List.append_nil]⟩
      · rw [grow_callee e2] at h3
        exact pop_grow e2 h3
    obtain ⟨K, rfl⟩ := hk
    exact ⟨_, ho', hx' _ _ (hx.ext e1 K), hcm⟩

theorem Run.front {all : List Oper} {g : Bool} {K : (Nat → PV) → Heap → Prop} {o : Oper} {l2 : List Oper} : ∀ (l1 : List Oper) (f : Nat → PV) (H : Heap), Run P all g (l1 ++ o :: l2) f H K → (∀ x ∈ l1, compat (all.map (·.dst)) x o g = true) →
    ∃ v H1, Ex P all g o f H v H1 ∧ Run P all g (l1 ++ l2) (upd f o.dst v) H1 K
  | [], f, H, h, _ => h
  | x :: l1, f, H, h, hc => by
    obtain ⟨vx, Hx, hx, hr⟩ := h
    obtain ⟨v, H1, ho, hr2⟩ := Run.front l1 _ _ hr (fun y hy => hc y (List.mem_cons_of_mem _ hy))
    obtain ⟨H3, g1, g2, g3⟩ := hx.swap (hc x (List.mem_cons_self ..)) ho
    exact ⟨v, H3, g1, vx, H1, g2, g3 ▸ hr2⟩

/-! ### the orders that may be drawn -/
def bnd (o : Oper) : List Nat := (o.after.toList.filter (Region.binds .any)).map (·.on)
def maskStep (ms : List Nat) (o : Oper) : Nat := (bnd o).foldl (fun m j => m ||| ms.getD j 0 ||| 2 ^ j) 0
def masks (ops : List Oper) : List Nat := ops.foldl (fun ms o => ms ++ [maskStep ms o]) []
def drawAt (ms : List Nat) (ds : List (Option Nat)) (N : Nat) (ops : List Oper) (i : Nat) (g : Bool := false) : Bool := match ops[i]? with
  | none => false
  | some o => dstOk N o && (bnd o).all (fun j => Nat.blt j i) && (Nat.beq (ms.getD i 0) (maskStep ms o)) && (List.range i).all fun j => (ms.getD i 0).testBit j || (match ops[j]? with | some x => compat ds x o g | none => false)
def drawOk (N : Nat) (ops : List Oper) (g : Bool := false) : Bool := (List.range ops.length).all fun i => drawAt (masks ops) (ops.map (·.dst)) N ops i g

theorem fold_bits (ms : List Nat) (j : Nat) : ∀ (l : List Nat) (m : Nat), (l.foldl (fun m j => m ||| ms.getD j 0 ||| 2 ^ j) m).testBit j = true → m.testBit j = true ∨ ∃ k ∈ l, (ms.getD k 0).testBit j = true ∨ k = j
  | [], m, h => .inl h
  | k :: l, m, h => by
    rcases fold_bits ms j l _ h with h | ⟨k', hk, h⟩
    · rw [Nat.testBit_or, Nat.testBit_or, Bool.or_eq_true, Bool.or_eq_true, Nat.testBit_two_pow] at h
      rcases h with (h | h) | h
      · exact .inl h
      · exact .inr ⟨k, List.mem_cons_self .., .inl h⟩
      · exact .inr ⟨k, List.mem_cons_self .., .inr (of_decide_eq_true h)⟩
    · exact .inr ⟨k', List.mem_cons_of_mem _ hk, h⟩

theorem drawAt_of {g : Bool} {ms : List Nat} {ds : List (Option Nat)} {ops : List Oper} {i : Nat} {o : Oper} (ho : ops[i]? = some o) (h : drawAt ms ds N ops i g = true) :
    dstOk N o = true ∧ (∀ j ∈ bnd o, j < i) ∧ ms.getD i 0 = maskStep ms o ∧ ∀ j, j < i → (ms.getD i 0).testBit j = true ∨ ∃ x, ops[j]? = some x ∧ compat ds x o g = true := by
  unfold drawAt at h
  simp only [ho, Bool.and_eq_true, List.all_eq_true, List.mem_range, Bool.or_eq_true] at h
  obtain ⟨⟨⟨h1, h2⟩, h3⟩, h4⟩ := h
  refine ⟨h1, fun j hj => by simpa [Nat.blt_eq] using h2 j hj, Nat.eq_of_beq_eq_true h3, fun j hj => ?_⟩
  rcases h4 j hj with h | h
  · exact .inl h
  · split at h
    · rename_i x hx; exact .inr ⟨x, hx, h⟩
    · cases h

theorem mask_in {g : Bool} {ms : List Nat} {ds : List (Option Nat)} {ops : List Oper} (hall : ∀ i, i < ops.length → drawAt ms ds N ops i g = true) {S : Nat → Prop} (down : ∀ i o, ops[i]? = some o → S i → ∀ j ∈ bnd o, S j) :
    ∀ (i : Nat) (o : Oper), ops[i]? = some o → (∀ j ∈ bnd o, S j) → ∀ j, (ms.getD i 0).testBit j = true → S j := by
  intro i
  induction i using Nat.strongRecOn with
  | _ i ih =>
    intro o ho hp j hj
    have hi := (List.getElem?_eq_some_iff.1 ho).1
    obtain ⟨_, h2, h3, _⟩ := drawAt_of ho (hall i hi)
    rw [h3, maskStep] at hj
    rcases fold_bits ms j _ _ hj with h | ⟨k, hk, h⟩
    · simp at h
    · rcases h with h | rfl
      · have hki := h2 k hk
        have hkl : k < ops.length := by omega
        exact ih k hki ops[k] (List.getElem?_eq_getElem hkl) (down k _ (List.getElem?_eq_getElem hkl) (hp k hk)) j h
      · exact hp k hk

def left (n : Nat) (listed : Array Bool) : List Nat := (List.range n).filter fun i => !listed.getD i true
theorem left_sorted (n : Nat) (listed : Array Bool) : (left n listed).Pairwise (· < ·) := List.Pairwise.filter _ List.pairwise_lt_range
theorem mem_left {n i : Nat} {listed : Array Bool} : i ∈ left n listed ↔ i < n ∧ listed.getD i true = false := by simp [left]
theorem getD_set (listed : Array Bool) (i k : Nat) (h : i < listed.size) : (listed.setIfInBounds i true).getD k true = if k = i then true else listed.getD k true := by
  rw [Array.getD_eq_getD_getElem?, Array.getElem?_setIfInBounds, Array.getD_eq_getD_getElem?]
  by_cases hk : i = k
  · subst hk; simp [h]
  · rw [if_neg hk, if_neg (fun e => hk e.symm)]
theorem left_set {n i : Nat} {listed : Array Bool} {l1 l2 : List Nat} (h : i < listed.size) (hl : left n listed = l1 ++ i :: l2) : left n (listed.setIfInBounds i true) = l1 ++ l2 := by
  have e : left n (listed.setIfInBounds i true) = (left n listed).filter (fun k => k != i) := by
    unfold left
    rw [List.filter_filter]
    refine List.filter_congr fun k _ => ?_
    rw [getD_set listed i k h]
    by_cases hk : k = i
    · simp [hk]
    · simp [hk]
  have hs := left_sorted n listed
  rw [hl, List.pairwise_append, List.pairwise_cons] at hs
  rw [e, hl, List.filter_append, List.filter_cons_of_neg (by simp), List.filter_eq_self.2, List.filter_eq_self.2]
  · intro k hk; have := hs.2.1.1 k hk; simp; omega
  · intro k hk; have := hs.2.2 k hk i (List.mem_cons_self ..); simp; omega

theorem any_sound {g : Bool} {ops : Array Oper} {Q : Exit → Act → World → Prop} {K : (Nat → PV) → Heap → Prop} (hall : ∀ i, i < ops.toList.length → drawAt (masks ops.toList) (ops.toList.map (·.dst)) N ops.toList i g = true) :
    ∀ (fuel : Nat) (listed : Array Bool) (f : Nat → PV) (H : Heap) (C : Ctx) (a : Act) (w : World), listed.size = ops.size → (∀ i o, ops[i]? = some o → listed.getD i true = true → ∀ j ∈ bnd o, listed.getD j true = true) →
      fuel = (left ops.size listed).length → Run P ops.toList g ((left ops.size listed).filterMap fun i => ops[i]?) f H K → a.defers = [] → WRel C H w → FRel C N f a →
      (∀ C' f' H' a' w', CLe C C' → a'.defers = [] → WRel C' H' w' → Below C.B w w' → FRel C' N f' a' → K f' H' → Q .normal a' w') → wpAny P .any ops Q fuel listed a w := by
  have rdy : ∀ (listed : Array Bool) (i : Nat), i ∈ Region.ready .any ops listed ↔ i ∈ left ops.size listed ∧ ∃ o, ops[i]? = some o ∧ ∀ e ∈ o.after.toList, Region.binds .any e = true → listed.getD e.on false = true := by
    intro listed i
    unfold Region.ready
    rw [List.mem_filter, mem_left, List.mem_range]
    constructor
    · rintro ⟨h1, h2⟩
      simp only [Bool.and_eq_true, Bool.not_eq_true'] at h2
      refine ⟨⟨h1, h2.1⟩, ops[i], Array.getElem?_eq_getElem h1, fun e he hb => ?_⟩
      have h3 := h2.2
      rw [Array.getElem?_eq_getElem h1] at h3
      simp only [Option.map_some, Option.getD_some, Array.all_eq_true_iff_forall_mem] at h3
      have := h3 e (Array.mem_toList_iff.1 he)
      simpa [hb] using this
    · rintro ⟨⟨h1, h2⟩, o, ho, h3⟩
      refine ⟨h1, ?_⟩
      simp only [h2, Bool.not_false, Bool.true_and, ho, Option.map_some, Option.getD_some, Array.all_eq_true_iff_forall_mem]
      intro e he
      cases hb : Region.binds .any e with
      | false => rfl
      | true => simp [h3 e (Array.mem_toList_iff.2 he) hb]
  intro fuel
  induction fuel with
  | zero =>
    intro listed f H C a w hsz hdown hfu hr hd hw hf hQ
    have hnil : left ops.size listed = [] := List.eq_nil_of_length_eq_zero hfu.symm
    refine ⟨List.eq_nil_iff_forall_not_mem.2 fun i hi => ?_, ?_⟩
    · have := ((rdy listed i).1 hi).1
      rw [hnil] at this
      simp at this
    · rw [hnil] at hr
      exact hQ C f H a w (.refl _) hd hw (.refl _ _) hf hr
  | succ fuel ih =>
    intro listed f H C a w hsz hdown hfu hr hd hw hf hQ
    refine ⟨fun hnone => ?_, fun i hi => ?_⟩
    · exfalso
      obtain ⟨i, r, hl⟩ := List.exists_cons_of_length_eq_add_one hfu.symm
      have hmem : i ∈ left ops.size listed := by rw [hl]; exact List.mem_cons_self ..
      have hil := (mem_left.1 hmem).1
      have hs := left_sorted ops.size listed
      rw [hl, List.pairwise_cons] at hs
      have : i ∈ Region.ready .any ops listed := by
        refine (rdy listed i).2 ⟨hmem, ops[i], Array.getElem?_eq_getElem hil, fun e he hb => ?_⟩
        have hlt := (drawAt_of (by simpa using Array.getElem?_eq_getElem hil) (hall i (by simpa using hil))).2.1 e.on (List.mem_map.2 ⟨e, List.mem_filter.2 ⟨he, hb⟩, rfl⟩)
        have hnm : e.on ∉ left ops.size listed := by
          rw [hl]
          intro hm
          rcases List.mem_cons.1 hm with h | h
          · omega
          · have := hs.1 _ h; omega
        have h1 : listed.getD e.on true = true := by
          cases hg : listed.getD e.on true with
          | true => rfl
          | false => exact absurd (mem_left.2 ⟨by omega, hg⟩) hnm
        have h2 : e.on < listed.size := by omega
        rw [Array.getD_eq_getD_getElem?, Array.getElem?_eq_getElem h2] at h1 ⊢
        exact h1
      rw [hnone] at this
      simp at this
    · obtain ⟨hmem, o, ho, hpre⟩ := (rdy listed i).1 hi
      have hil := (mem_left.1 hmem).1
      have hoL : ops.toList[i]? = some o := by simpa using ho
      obtain ⟨d1, d2, d3, d4⟩ := drawAt_of hoL (hall i (by simpa using hil))
      obtain ⟨l1, l2, hl⟩ := List.append_of_mem hmem
      have hs := left_sorted ops.size listed
      rw [hl, List.pairwise_append, List.pairwise_cons] at hs
      have hsz' : i < listed.size := by omega
      have getFT : ∀ j, listed.getD j false = true → listed.getD j true = true := fun j hj => by
        rw [Array.getD_eq_getD_getElem?] at hj ⊢
        cases hg : listed[j]? with
        | none => rw [hg] at hj; simp at hj
        | some b => rw [hg] at hj; simpa using hj
      have hpre' : ∀ j ∈ bnd o, listed.getD j true = true := fun j hj => by
        obtain ⟨e, he, rfl⟩ := List.mem_map.1 hj
        obtain ⟨he1, he2⟩ := List.mem_filter.1 he
        exact getFT _ (hpre e he1 he2)
      rw [hl, List.filterMap_append, List.filterMap_cons_some ho] at hr
      have hcomp : ∀ x ∈ l1.filterMap (fun i => ops[i]?), compat (ops.toList.map (·.dst)) x o g = true := by
        intro x hx
        obtain ⟨j, hj, hjx⟩ := List.mem_filterMap.1 hx
        have hji : j < i := hs.2.2 j hj i (List.mem_cons_self ..)
        rcases d4 j hji with h | ⟨x', hx', hc⟩
        · have hS := mask_in (N := N) hall (S := fun j => listed.getD j true = true) (fun i o ho hS => hdown i o (by simpa using ho) hS) i o hoL hpre' j h
          have hjm : j ∈ left ops.size listed := by rw [hl]; exact List.mem_append.2 (.inl hj)
          rw [(mem_left.1 hjm).2] at hS
          cases hS
        · have : ops[j]? = some x' := by simpa using hx'
          simp only [this, Option.some.injEq] at hjx
          subst hjx
          exact hc
      obtain ⟨v, H1, hex, hrun⟩ := Run.front _ _ _ hr hcomp
      rw [← List.filterMap_append, ← left_set hsz' hl] at hrun
      have hdown' : ∀ i' o', ops[i']? = some o' → (listed.setIfInBounds i true).getD i' true = true → ∀ j ∈ bnd o', (listed.setIfInBounds i true).getD j true = true := by
        intro i' o' ho' h j hj
        rw [getD_set _ _ _ hsz'] at h ⊢
        by_cases hi' : i' = i
        · subst hi'
          rw [ho] at ho'
          injection ho' with ho'
          subst ho'
          split
          · rfl
          · exact hpre' j hj
        · rw [if_neg hi'] at h
          split
          · rfl
          · exact hdown i' o' ho' h j hj
      have hfu' : fuel = (left ops.size (listed.setIfInBounds i true)).length := by
        rw [left_set hsz' hl]
        rw [hl] at hfu
        simp at hfu ⊢
        omega
      have next : ∀ C' u w', CLe C C' → WRel C' H1 w' → Below C.B w w' → FRel C' N (upd f o.dst v) (a.put o.dst u) → wpAny P .any ops Q fuel (listed.setIfInBounds i true) (a.put o.dst u) w' := by
        intro C' u w' q1 q2 q3 q4
        refine ih _ _ _ C' _ w' (by simpa using hsz) hdown' hfu' hrun (by cases hod : o.dst <;> simp [Act.put, hd]) q2 q4 ?_
        intro C'' f'' H'' a'' w'' p1 p2 p3 p4 p5 p6
        exact hQ C'' f'' H'' a'' w'' (q1.trans p1) p2 p3 (q3.trans (by rw [← q1.B]; exact p4)) p5 p6
      unfold wpOp
      rw [ho]
      simp only
      rcases hex with ⟨h1, h2, h3⟩ | ⟨h1, h2⟩
      · have hwant := want_sound hf h1
        rw [Array.toArray_toList] at hwant
        rw [if_neg (by rw [hwant]; simp)]
        subst h2 h3
        exact next C _ w (.refl _) hw (.refl _ _) (hf.put o.dst (dstOk_of d1) VRel.undefV)
      · have hwant := want_sound hf h1
        rw [Array.toArray_toList] at hwant
        rw [if_pos hwant]
        left
        have hexec : Exec P o f H v H1 := by
          unfold Exec
          split at h2
          · rename_i fn args hc; rw [hc]; obtain ⟨rfl, h2⟩ := h2; exact h2.1
          · rename_i hc; rw [hc]; exact h2
        exact exec_sound d1 hw hf hexec _ _ next

/-! ### the evaluation of a region that draws -/
def VCd (P : Program) (ds : List (Option Nat)) (o : Oper) (F : Fr) (H : Heap) (K : Fr → Heap → Prop) : Prop :=
  match asked ds F o with
  | some true => match pcallee o.op (slot F) with
    | some (g, args) => ∃ v, (CallOk P g args H v H ∧ (pureCall o.op = true → ∀ K, CallOk P g args K v K)) ∧ K (put F o.dst v) H
    | none => False
  | some false => K (put F o.dst (.tup [])) H
  | none => False
def VOd (P : Program) (ds : List (Option Nat)) : List Oper → Option (Fr × Heap) → (Fr → Heap → Prop) → Prop
  | _, none, _ => False
  | [], some (F, H), K => K F H
  | o :: r, some (F, H), K => match isCall o.op with
    | false => VOd P ds r (stp P ds o F H) K
    | true => VCd P ds o F H fun F' H' => VOd P ds r (some (F', H')) K
def VRd (P : Program) (ds : List (Option Nat)) (r : List Oper) (K : Fr → Heap → Prop) (F : Fr) (H : Heap) : Prop := VOd P ds r (some (F, H)) K
theorem VOd_nil (ds : List (Option Nat)) (K : Fr → Heap → Prop) (F : Fr) (H : Heap) : VOd P ds [] (some (F, H)) K = K F H := rfl
theorem VOd_none (ds : List (Option Nat)) (l : List Oper) (K : Fr → Heap → Prop) : VOd P ds l none K = False := by cases l <;> rfl
theorem VOd_step (ds : List (Option Nat)) (o : Oper) (r : List Oper) (K : Fr → Heap → Prop) (F : Fr) (H : Heap) :
    VOd P ds (o :: r) (some (F, H)) K = match isCall o.op with | false => VOd P ds r (stp P ds o F H) K | true => VCd P ds o F H (VRd P ds r K) := by
  cases h : isCall o.op with
  | false => simp only [VOd, h]
  | true => simp only [VOd, h]; rfl
theorem VCd.call {ds : List (Option Nat)} {o : Oper} {K : Fr → Heap → Prop} {g : FuncId} {args : List PV} {v : PV} (h : CallOk P g args H v H) (hp : pureCall o.op = true → ∀ K, CallOk P g args K v K) (hw : asked ds F o = some true) (hc : pcallee o.op (slot F) = some (g, args))
    (hk : K (put F o.dst v) H) : VCd P ds o F H K := by
  unfold VCd
  rw [hw]
  simp only [hc]
  exact ⟨v, ⟨h, hp⟩, hk⟩
theorem VOd_run {all : List Oper} {K : Fr → Heap → Prop} : ∀ (l : List Oper) (F : Fr) (H : Heap), VOd P (all.map (·.dst)) l (some (F, H)) K → Run P all false l (slot F) H (fun f H' => ∃ F', f = slot F' ∧ K F' H')
  | [], F, H, h => ⟨F, rfl, h⟩
  | o :: r, F, H, h => by
    have hcl : isCall o.op = false → pcallee o.op (slot F) = none := fun hc => by
      unfold pcallee
      split
      · rename_i f args ts ho; rw [ho] at hc; simp [isCall] at hc
      · rfl
    rw [VOd_step] at h
    have go : ∀ v H', Ex P all false o (slot F) H v H' → VOd P (all.map (·.dst)) r (some (put F o.dst v, H')) K → Run P all false (o :: r) (slot F) H (fun f H' => ∃ F', f = slot F' ∧ K F' H') := fun v H' he hr => by
      refine ⟨v, H', he, ?_⟩
      rw [← get_put]
      exact VOd_run r _ _ hr
    cases hc : isCall o.op with
    | false =>
      simp only [hc] at h
      unfold stp at h
      split at h
      · rename_i hb
        split at h
        · rename_i v H' hp
          exact go v H' (.inr ⟨asked_want all F o hb, by rw [hcl hc]; exact hp⟩) h
        · rw [VOd_none] at h; exact h.elim
      · rename_i hb
        exact go _ _ (.inl ⟨asked_want all F o hb, rfl, rfl⟩) h
      · rw [VOd_none] at h; exact h.elim
    | true =>
      simp only [hc] at h
      unfold VCd at h
      split at h
      · rename_i hb
        split at h
        · rename_i g args hp
          obtain ⟨v, h1, h2⟩ := h
          exact go v H (.inr ⟨asked_want all F o hb, by rw [hp]; exact ⟨rfl, h1.1, h1.2, fun e => by cases e⟩⟩) h2
        · exact h.elim
      · rename_i hb
        exact go _ _ (.inl ⟨asked_want all F o hb, rfl, rfl⟩) h
      · exact h.elim

/-! ### the same, with new blocks -/
def VCg (P : Program) (ds : List (Option Nat)) (o : Oper) (F : Fr) (H : Heap) (K : Fr → Heap → Prop) : Prop :=
  match asked ds F o with
  | some true => match pcallee o.op (slot F) with
    | some (g, args) => ∃ v, ((∀ L, CallOk P g args (H ++ L) v (H ++ L)) ∧ (pureCall o.op = true → ∀ K, CallOk P g args K v K)) ∧ K (put F o.dst v) H
    | none => False
  | some false => K (put F o.dst (.tup [])) H
  | none => False
def VOg (P : Program) (ds : List (Option Nat)) : List Oper → Option (Fr × Heap) → (Fr → Heap → Prop) → Prop
  | _, none, _ => False
  | [], some (F, H), K => K F H
  | o :: r, some (F, H), K => match isCall o.op with
    | false => VOg P ds r (stp P ds o F H) K
    | true => VCg P ds o F H fun F' H' => VOg P ds r (some (F', H')) K
def VRg (P : Program) (ds : List (Option Nat)) (r : List Oper) (K : Fr → Heap → Prop) (F : Fr) (H : Heap) : Prop := VOg P ds r (some (F, H)) K
theorem VOg_nil (ds : List (Option Nat)) (K : Fr → Heap → Prop) (F : Fr) (H : Heap) : VOg P ds [] (some (F, H)) K = K F H := rfl
theorem VOg_none (ds : List (Option Nat)) (l : List Oper) (K : Fr → Heap → Prop) : VOg P ds l none K = False := by cases l <;> rfl
theorem VOg_step (ds : List (Option Nat)) (o : Oper) (r : List Oper) (K : Fr → Heap → Prop) (F : Fr) (H : Heap) :
    VOg P ds (o :: r) (some (F, H)) K = match isCall o.op with | false => VOg P ds r (stp P ds o F H) K | true => VCg P ds o F H (VRg P ds r K) := by
  cases h : isCall o.op with
  | false => simp only [VOg, h]
  | true => simp only [VOg, h]; rfl
theorem VOg_run {all : List Oper} {K : Fr → Heap → Prop} : ∀ (l : List Oper) (F : Fr) (H : Heap), VOg P (all.map (·.dst)) l (some (F, H)) K → Run P all true l (slot F) H (fun f H' => ∃ F', f = slot F' ∧ K F' H')
  | [], F, H, h => ⟨F, rfl, h⟩
  | o :: r, F, H, h => by
    have hcl : isCall o.op = false → pcallee o.op (slot F) = none := fun hc => by
      unfold pcallee
      split
      · rename_i f args ts ho; rw [ho] at hc; simp [isCall] at hc
      · rfl
    rw [VOg_step] at h
    have go : ∀ v H', Ex P all true o (slot F) H v H' → VOg P (all.map (·.dst)) r (some (put F o.dst v, H')) K → Run P all true (o :: r) (slot F) H (fun f H' => ∃ F', f = slot F' ∧ K F' H') := fun v H' he hr => by
      refine ⟨v, H', he, ?_⟩
      rw [← get_put]
      exact VOg_run r _ _ hr
    cases hc : isCall o.op with
    | false =>
      simp only [hc] at h
      unfold stp at h
      split at h
      · rename_i hb
        split at h
        · rename_i v H' hp
          exact go v H' (.inr ⟨asked_want all F o hb, by rw [hcl hc]; exact hp⟩) h
        · rw [VOg_none] at h; exact h.elim
      · rename_i hb
        exact go _ _ (.inl ⟨asked_want all F o hb, rfl, rfl⟩) h
      · rw [VOg_none] at h; exact h.elim
    | true =>
      simp only [hc] at h
      unfold VCg at h
      split at h
      · rename_i hb
        split at h
        · rename_i fn args hp
          obtain ⟨v, h1, h2⟩ := h
          exact go v H (.inr ⟨asked_want all F o hb, by rw [hp]; exact ⟨rfl, by have := h1.1 []; rwa [List.append_nil] at this, h1.2, fun _ => h1.1⟩⟩) h2
        · exact h.elim
      · rename_i hb
        exact go _ _ (.inl ⟨asked_want all F o hb, rfl, rfl⟩) h
      · exact h.elim

theorem left_all (n : Nat) : left n (Array.replicate n false) = List.range n := by
  unfold left
  refine List.filter_eq_self.2 fun i hi => ?_
  have := List.mem_range.1 hi
  simp [Array.getD, this]
theorem all_ops (ops : Array Oper) : ((List.range ops.size).filterMap fun i => ops[i]?) = ops.toList := by
  have : ∀ (l : List Oper), ((List.range l.length).filterMap fun i => l[i]?) = l := by
    intro l
    induction l with
    | nil => rfl
    | cons x l ih =>
      rw [List.length_cons, List.range_succ_eq_map, List.filterMap_cons_some (b := x) (by rfl), List.filterMap_map]
      simpa [Function.comp_def] using ih
  have h := this ops.toList
  simpa using h

section rules
variable {E : Env} {Q : Exit → Fr → Heap → Prop}
theorem PW.drawn {id : Nat} {ops : Array Oper} (hm : P.follows .mixedOrders = true) (hd : drawOk E.N ops.toList = true) (h : VOd P (ops.toList.map (·.dst)) ops.toList (some (F, H)) (fun F' H' => Q .normal F' H')) : PW P E (.region id ops true) F H Q := fun hs C a w hdf hw hf => by
  refine wp_region_any hm ?_
  have hr := VOd_run (P := P) _ _ _ h
  have hall : ∀ i, i < ops.toList.length → drawAt (masks ops.toList) (ops.toList.map (·.dst)) E.N ops.toList i = true := by
    intro i hi
    unfold drawOk at hd
    exact List.all_eq_true.1 hd i (List.mem_range.2 hi)
  refine any_sound (P := P) hall ops.size (Array.replicate ops.size false) (slot F) H C a w.drew (by simp) ?_ (by rw [left_all]; simp) (by rw [left_all, all_ops]; exact hr) hdf hw.drew hf ?_
  · intro i o ho hl j hj
    have hi : i < ops.size := (Array.getElem?_eq_some_iff.1 ho).1
    simp [Array.getD, hi] at hl
  · rintro C' f' H' a' w' p1 p2 p3 p4 p5 ⟨F', rfl, p6⟩
    exact ⟨C', F', H', p1.toN _, p2, p3, ((Below.refl C.B w).drew).trans p4, p5, p6⟩
theorem PW.drawg {id : Nat} {ops : Array Oper} (hm : P.follows .mixedOrders = true) (hd : drawOk E.N ops.toList true = true) (h : ∀ K : Fr → Heap → Prop, (∀ F' H', Q .normal F' H' → K F' H') → VOg P (ops.toList.map (·.dst)) ops.toList (some (F, H)) K) :
    PW P E (.region id ops true) F H Q := fun hs C a w hdf hw hf => by
  refine wp_region_any hm ?_
  have hr := VOg_run (P := P) _ _ _ (h (fun F' H' => Q .normal F' H') fun _ _ h => h)
  have hall : ∀ i, i < ops.toList.length → drawAt (masks ops.toList) (ops.toList.map (·.dst)) E.N ops.toList i true = true := by
    intro i hi
    unfold drawOk at hd
    exact List.all_eq_true.1 hd i (List.mem_range.2 hi)
  refine any_sound (P := P) hall ops.size (Array.replicate ops.size false) (slot F) H C a w.drew (by simp) ?_ (by rw [left_all]; simp) (by rw [left_all, all_ops]; exact hr) hdf hw.drew hf ?_
  · intro i o ho hl j hj
    have hi : i < ops.size := (Array.getElem?_eq_some_iff.1 ho).1
    simp [Array.getD, hi] at hl
  · rintro C' f' H' a' w' p1 p2 p3 p4 p5 ⟨F', rfl, p6⟩
    exact ⟨C', F', H', p1.toN _, p2, p3, ((Below.refl C.B w).drew).trans p4, p5, p6⟩
theorem PW.draw {id : Nat} {ops : Array Oper} (hm : P.follows .mixedOrders = true) (hd : drawOk E.N ops.toList = true) (h : ∀ K : Fr → Heap → Prop, (∀ F' H', Q .normal F' H' → K F' H') → VOd P (ops.toList.map (·.dst)) ops.toList (some (F, H)) K) :
    PW P E (.region id ops true) F H Q := PW.drawn hm hd (h _ fun _ _ h => h)
/-- With one state behind it. -/
theorem PW.draw1 {id : Nat} {ops : Array Oper} (ks : List Nat) (F1 : Fr) (H1 : Heap) (hm : P.follows .mixedOrders = true) (hd : drawOk E.N ops.toList = true) (h : VOd P (ops.toList.map (·.dst)) ops.toList (some (F, H)) (fun F' H' => kp ks F' = F1 ∧ H' = H1)) (hq : Q .normal F1 H1) :
    PW P E (.region id ops true) F H Q := fun hs C a w hdf hw hf => by
  have := PW.drawn (P := P) (E := E) (Q := fun e F' H' => e = .normal ∧ kp ks F' = F1 ∧ H' = H1) (id := id) hm hd (by simpa using h) hs C a w hdf hw hf
  refine wp_mono this ?_
  rintro e a' w' ⟨C', F', H', p1, p2, p3, p4, p5, p6, p7, p8⟩
  subst p6
  exact ⟨C', F1, H1, p1, p2, p8 ▸ p3, p4, p7 ▸ p5.keep ks, hq⟩
end rules

end Go.Proofs.Ytnjnikafhbholaa.Pm

namespace Go.Proofs.Ytnjnikafhbholaa.Pm
set_option linter.all false
set_option linter.unusedVariables false
set_option linter.unusedSimpArgs false
open Go.RowKit

variable {P : Program} {C : Ctx} {H : Heap} {w : World} {F : Fr} {a : Act} {N : Nat}

theorem VRel.re {C D : Ctx} (h1 : D.M = C.M) (h2 : D.mu = C.mu) (h3 : D.vs = C.vs) (h4 : D.cp = C.cp) {x : PV} {u : Value} (h : VRel C x u) : VRel D x u := by
  induction h with
  | nl k => exact .nl k
  | int k n => exact .int k n
  | bool b => exact .bool b
  | str s => exact .str s
  | nilp => exact .nilp
  | ptr hm hv => exact .ptr (by rw [h2]; exact hm) (by rw [h3]; exact hv)
  | ptrS v h1 hv hlt => exact .ptrS v h1 (by rw [h3]; exact hv) hlt
  | ip hl hM hc _ ih => exact .ip hl (by rw [h1]; exact hM) hc ih
  | slice hl hM hc _ hcap hmax hf ih => exact .slice hl (by rw [h1]; exact hM) hc ih hcap hmax hf
  | sliceN ad full => exact .sliceN ad full
  | msl hm hv hcap hmax hg => exact .msl (by rw [h2]; exact hm) (by rw [h3]; exact hv) hcap hmax (by rw [h4]; exact hg)
  | mslE hm hv hmax => exact .mslE (by rw [h2]; exact hm) (by rw [h3]; exact hv) hmax
  | mslG ad hm hv => exact .mslG ad (by rw [h2, h4]; exact hm) (by rw [h3]; exact hv)
  | mp hm hv hb => exact .mp (by rw [h2]; exact hm) (by rw [h3]; exact hv) (by rw [h4]; exact hb)
  | mpS v h1 hv hlt => exact .mpS v h1 (by rw [h3]; exact hv) hlt
  | mslS v h1 hv hlt => exact .mslS v h1 (by rw [h3]; exact hv) hlt
  | agg hl hc _ ih => exact .agg hl hc ih
  | tup hl _ ih => exact .tup hl ih
  | func hl hl' _ _ ih ih' => exact .func hl hl' ih ih'
  | undef v => exact .undef v

/-! ### a change of view -/
/-- Wherever (F, H) holds, (F1, H1) holds too. -/
def Vs (E : Env) (F : Fr) (H : Heap) (F1 : Fr) (H1 : Heap) : Prop :=
  HSc E.H0 → ∀ (C : Ctx) (a : Act) (w : World), WRel C H w → FRel C E.N (slot F) a → ∃ C', CLeN E.H0.length C C' ∧ WRel C' H1 w ∧ FRel C' E.N (slot F1) a

section rules
variable {E : Env} {Q : Exit → Fr → Heap → Prop} {F1 : Fr} {H1 : Heap}
theorem PW.view {c : Code} (hv : Vs E F H F1 H1) (h : PW P E c F1 H1 Q) : PW P E c F H Q := fun hs C a w hd hw hf => by
  obtain ⟨C', q1, q2, q3⟩ := hv hs C a w hw hf
  exact wp_mono (h hs C' a w hd q2 q3) fun _ _ _ hp => hp.trans q1 (.refl _ _)
theorem PL.view {c : Code} (hv : Vs E F H F1 H1) (h : PL P E c F1 H1 Q) : PL P E c F H Q := fun hs C a w hd hw hf => by
  obtain ⟨C', q1, q2, q3⟩ := hv hs C a w hw hf
  intro b k cs
  obtain ⟨e2, a2, w2, hq2, harr2⟩ := h hs C' a w hd q2 q3 b k cs
  exact ⟨e2, a2, w2, hq2.trans q1 (.refl _ _), harr2⟩
theorem Vs.trans {F2 : Fr} {H2 : Heap} (h : Vs E F H F1 H1) (k : Vs E F1 H1 F2 H2) : Vs E F H F2 H2 := fun hs C a w hw hf => by
  obtain ⟨C1, q1, q2, q3⟩ := h hs C a w hw hf
  obtain ⟨C2, r1, r2, r3⟩ := k hs C1 a w q2 q3
  exact ⟨C2, q1.trans r1, r2, r3⟩
theorem Vs.keep (ks : List Nat) : Vs E F H (kp ks F) H := fun _ C _ _ hw hf => ⟨C, .refl C, hw, hf.keep ks⟩
theorem PW.eq {c : Code} (hF : F = F1) (hH : H = H1) (h : PW P E c F1 H1 Q) : PW P E c F H Q := by subst hF hH; exact h
theorem PL.eq {c : Code} (hF : F = F1) (hH : H = H1) (h : PL P E c F1 H1 Q) : PL P E c F H Q := by subst hF hH; exact h

theorem PW.at {c : Code} (ks : List Nat) (h : PW P E c F1 H1 Q) (hF : kp ks F = F1) (hH : H = H1) : PW P E c F H Q := by subst hF hH; exact h.keep ks
theorem PL.at {c : Code} (ks : List Nat) (h : PL P E c F1 H1 Q) (hF : kp ks F = F1) (hH : H = H1) : PL P E c F H Q := by subst hF hH; exact h.keep ks
/-- The region changes slot d alone (of those that are kept). -/
theorem PW.rgv {id : Nat} {ops : Array Oper} (ks : List Nat) (d : Nat) (v : PV) (hd : ops.toList.all (dstOk E.N) = true) (h : VO P (ops.toList.map (·.dst)) ops.toList (some (F, H)) (fun F' H' => kp (d :: ks) F' = (d, v) :: kp ks F ∧ H' = H)) (hq : Q .normal ((d, v) :: kp ks F) H) :
    PW P E (.region id ops false) F H Q := PW.rg1 (d :: ks) _ H hd h hq
theorem PW.drawv {id : Nat} {ops : Array Oper} (ks : List Nat) (d : Nat) (v : PV) (hm : P.follows .mixedOrders = true) (hd : drawOk E.N ops.toList = true) (h : VOd P (ops.toList.map (·.dst)) ops.toList (some (F, H)) (fun F' H' => kp (d :: ks) F' = (d, v) :: kp ks F ∧ H' = H)) (hq : Q .normal ((d, v) :: kp ks F) H) :
    PW P E (.region id ops true) F H Q := PW.draw1 (d :: ks) _ H hm hd h hq
/-- Ways that meet again in one state. -/
theorem PW.to {x y : Code} (ks : List Nat) (F1 : Fr) (H1 : Heap) (h : PW P E x F H (thenQ (fun F' H' => kp ks F' = F1 ∧ H' = H1) Q)) (hj : PW P E y F1 H1 Q) : PW P E (.seq x y) F H Q :=
  PW.join ks (fun F' H' => F' = F1 ∧ H' = H1) h (fun F' H' e => by rw [e.1, e.2]; exact hj)

/-! ### cutting -/
/-- Of the slots of F1: what F has there, given up, is what F1 says. -/
def FzF (n : Nat) (H : Heap) (F : Fr) : Fr → Prop
  | [] => True
  | (t, v) :: r => Fz n H (slot F t) v ∧ FzF n H F r
theorem FzF.slot {n : Nat} : ∀ {F1 : Fr}, FzF n H F F1 → ∀ t, Pm.slot F1 t = .undef ∨ Fz n H (Pm.slot F t) (Pm.slot F1 t)
  | [], _, t => .inl rfl
  | (k, x) :: r, h, t => by
    show (match Nat.beq k t with | true => x | false => Pm.slot r t) = .undef ∨ Fz n H (Pm.slot F t) (match Nat.beq k t with | true => x | false => Pm.slot r t)
    cases hb : Nat.beq k t with
    | true => exact .inr (by rw [← Nat.eq_of_beq_eq_true hb]; exact h.1)
    | false => exact FzF.slot h.2 t
theorem Vs.cut (hn : E.H0.length ≤ H1.length) (hH : HSc E.H0 → CutH H H1) (hF : FzF H1.length H F F1) : Vs E F H F1 H1 := fun hs C a w hw hf => by
  obtain ⟨g1, g2⟩ := hw.cutN (hH hs)
  refine ⟨_, g1.less hn, g2, hf.1, fun t => ?_⟩
  rcases hF.slot t with h | h
  · rw [h]; exact .undef _
  · exact h.sound hw (hf.2 t)

theorem Scoped.mono {n m : Nat} (hm : n ≤ m) {x : PV} (h : Scoped n x) : Scoped m x := by
  induction h with
  | nl k => exact .nl k
  | int k m => exact .int k m
  | bool b => exact .bool b
  | str s => exact .str s
  | nilp => exact .nilp
  | undef => exact .undef
  | ptr h => exact .ptr (by omega)
  | msl h => exact .msl (by omega)
  | mp h => exact .mp (by omega)
  | ip _ ih => exact .ip ih
  | slice _ ih => exact .slice ih
  | agg _ ih => exact .agg ih
  | tup _ ih => exact .tup ih
  | func _ _ ih ih' => exact .func ih ih'

/-- Point by point, by recursion. -/
def FzC (n : Nat) (H : Heap) : List PV → List PV → Prop
  | [], [] => True
  | x :: xs, y :: ys => Fz n H x y ∧ FzC n H xs ys
  | _, _ => False
theorem FzC.pw {n : Nat} : ∀ {xs ys : List PV}, FzC n H xs ys → ys.length = xs.length ∧ ∀ (j : Nat) (x y : PV), xs[j]? = some x → ys[j]? = some y → Fz n H x y
  | [], [], _ => ⟨rfl, fun j x y hx => by simp at hx⟩
  | x :: xs, y :: ys, h => by
    obtain ⟨l, q⟩ := FzC.pw h.2
    refine ⟨by simp [l], fun j a b ha hb => ?_⟩
    cases j with
    | zero => simp at ha hb; subst ha hb; exact h.1
    | succ j => exact q j a b (by simpa using ha) (by simpa using hb)
  | [], _ :: _, h => h.elim
  | _ :: _, [], h => h.elim
theorem FzC.refl {n : Nat} : ∀ {xs : List PV}, (∀ x ∈ xs, Scoped n x) → FzC n H xs xs
  | [], _ => trivial
  | x :: xs, h => ⟨.id (h x (by simp)), FzC.refl fun y hy => h y (by simp [hy])⟩
theorem FzC.append {n : Nat} : ∀ {xs ys us vs : List PV}, FzC n H xs ys → FzC n H us vs → FzC n H (xs ++ us) (ys ++ vs)
  | [], [], _, _, _, h => h
  | x :: xs, y :: ys, _, _, h, h' => ⟨h.1, FzC.append h.2 h'⟩
  | [], _ :: _, _, _, h, _ => h.elim
  | _ :: _, [], _, _, h, _ => h.elim
theorem Fz.tupC {n : Nat} {xs ys : List PV} (h : FzC n H xs ys) : Fz n H (.tup xs) (.tup ys) := .tup h.pw.1 h.pw.2
theorem Fz.aggC {n : Nat} {xs ys : List PV} (h : FzC n H xs ys) : Fz n H (.agg xs) (.agg ys) := .agg h.pw.1 h.pw.2
theorem Fz.sliceC {n len : Nat} {f f' : Bool} {xs ys : List PV} (h : FzC n H xs ys) (hf : f' = true → f = true) : Fz n H (.slice xs len f) (.slice ys len f') := .slice h.pw.1 h.pw.2 hf
/-- A whole block, given up. -/
theorem Fz.mslC {n id ver len sz e : Nat} {g : Bool} {xs ys : List PV} (hn : n ≤ id) (hk : H[id]? = some ⟨e, ver, xs⟩) (hl : xs.length = len * sz) (h : FzC n H xs ys) : Fz n H (.msl id ver 0 len sz g) (.slice ys len false) := by
  have ht : ((xs.drop 0).take (len * sz)) = xs := by rw [List.drop_zero, ← hl, List.take_length]
  exact .msl hn hk rfl (by simp only; omega) (by simp only; rw [ht]; exact h.pw.1) (by simp only; rw [ht]; exact h.pw.2)
def FzL (n : Nat) (H : Heap) : List Blk → List Blk → Prop
  | [], [] => True
  | k :: r, k1 :: r1 => k1.e = k.e ∧ k1.ver = k.ver ∧ FzC n H k.cells k1.cells ∧ FzL n H r r1
  | _, _ => False
theorem FzL.get {n : Nat} : ∀ {L L1 : List Blk}, FzL n H L L1 → L1.length = L.length ∧ ∀ (j : Nat) (k1 : Blk), L1[j]? = some k1 → ∃ k, L[j]? = some k ∧ k1.e = k.e ∧ k1.ver = k.ver ∧ FzC n H k.cells k1.cells
  | [], [], _ => ⟨rfl, fun j k h => by simp at h⟩
  | k :: r, k1 :: r1, h => by
    obtain ⟨h1, h2, h3, h4⟩ := h
    obtain ⟨l, q⟩ := FzL.get h4
    refine ⟨by simp [l], fun j k' hk' => ?_⟩
    cases j with
    | zero => simp at hk'; subst hk'; exact ⟨k, rfl, h1, h2, h3⟩
    | succ j => exact q j k' (by simpa using hk')
  | [], _ :: _, h => h.elim
  | _ :: _, [], h => h.elim
theorem FzL.refl {n : Nat} : ∀ {L : List Blk}, (∀ k ∈ L, ∀ x ∈ k.cells, Scoped n x) → FzL n H L L
  | [], _ => trivial
  | k :: r, h => ⟨rfl, rfl, FzC.refl (h k (by simp)), FzL.refl fun k' hk' => h k' (by simp [hk'])⟩

theorem CutH.of {A L K L1 : Heap} (hA : HSc A) (hL : FzL (A ++ L1).length (A ++ L ++ K) L L1) : CutH (A ++ L ++ K) (A ++ L1) := by
  obtain ⟨l, q⟩ := hL.get
  refine ⟨by simp [l], fun j k1 hk1 => ?_⟩
  by_cases hj : j < A.length
  · rw [List.getElem?_append_left hj] at hk1
    refine ⟨k1, by rw [List.append_assoc, List.getElem?_append_left hj]; exact hk1, rfl, rfl, rfl, fun i x y hx hy => ?_⟩
    rw [hx] at hy
    injection hy with hy
    subst hy
    exact .id ((hA j k1 hk1 x (List.mem_of_getElem? hx)).mono (by simp))
  · rw [List.getElem?_append_right (by omega)] at hk1
    obtain ⟨k, hk, h1, h2, h3⟩ := q _ k1 hk1
    have hlt := (List.getElem?_eq_some_iff.1 hk).1
    exact ⟨k, by rw [List.append_assoc, List.getElem?_append_right (by omega), List.getElem?_append_left hlt]; exact hk, h1, h2, h3.pw.1, h3.pw.2⟩
/-- All that is behind A goes. -/
theorem CutH.base {A K : Heap} (hA : HSc A) : CutH (A ++ K) A := by
  have := CutH.of (A := A) (L := []) (K := K) (L1 := []) hA trivial
  simpa using this
theorem HSc.set {A : Heap} (hA : HSc A) {id : Nat} {k : Blk} (hk : ∀ x ∈ k.cells, Scoped A.length x) : HSc (A.set id k) := fun j k' hk' x hx => by
  rw [List.length_set]
  rw [List.getElem?_set] at hk'
  split at hk'
  · split at hk'
    · injection hk' with hk'; subst hk'; exact hk x hx
    · cases hk'
  · exact hA j k' hk' x hx

theorem Vs.trim {K : Heap} (hA : HSc E.H0 → HSc H1) (hn : E.H0.length ≤ H1.length) (hH : H = H1 ++ K) (hF : FzF H1.length H F F1) : Vs E F H F1 H1 :=
  Vs.cut hn (fun hs => by rw [hH]; exact CutH.base (hA hs)) hF

/-! ### returning -/
theorem Fin.cut {A K H' : Heap} {v v' : PV} (hH : H' = A ++ K) (hl : H.length = A.length) (hA : HSc H → HSc A) (hv : Fz A.length H' v' v) : Fin H v A v' H' := by
  subst hH
  exact .inr (.inr fun hs => ⟨by omega, CutH.base (hA hs), hv⟩)
theorem Fin.base {K : Heap} {v v' : PV} (hv : Fz H.length (H ++ K) v' v) : Fin H v H v' (H ++ K) := Fin.cut rfl rfl (fun h => h) hv
/-- Returning, and some new blocks stay. -/
theorem Fin.more {A L K L1 H' : Heap} {v v' : PV} (hH : H' = A ++ L ++ K) (hl : H.length = A.length) (hA : HSc H → HSc A) (hL : FzL (A ++ L1).length H' L L1) (hv : Fz (A ++ L1).length H' v' v) : Fin H v (A ++ L1) v' H' := by
  subst hH
  exact .inr (.inr fun hs => ⟨by simp; omega, CutH.of (hA hs) hL, hv⟩)
theorem Fin.now {v : PV} {H1 : Heap} : Fin H v H1 v H1 := .inl ⟨rfl, rfl⟩

/-! ### blocks without a place -/
theorem ghost_rel {id sz : Nat} (hm : C.mu[id]? = some none ∧ C.cp[id]? = some 0) (hv : C.vs[id]? = some 0) {u : Value} (h : VRel C (.slice [] 0 true) u) : VRel C (.msl id 0 0 0 sz true) u := by
  cases h with
  | slice hl hM hc hR hcap hmax hf => rw [hf rfl]; exact .mslG _ hm hv
  | sliceN => exact .mslG _ hm hv
theorem Vs.ghost (t e sz : Nat) (hs : slot F t = .slice [] 0 true) : Vs E F H ((t, .msl H.length 0 0 0 sz true) :: F) (H ++ [⟨e, 0, []⟩]) := fun _ C a w hw hf => by
  obtain ⟨g1, g2⟩ := hw.ghost e 0
  refine ⟨_, g1.toN _, g2, hf.1, fun t' => ?_⟩
  show VRel _ (match Nat.beq t t' with | true => _ | false => slot F t') _
  cases hb : Nat.beq t t' with
  | true =>
    rw [← Nat.eq_of_beq_eq_true hb]
    have := hf.2 t
    rw [hs] at this
    exact ghost_rel ⟨by simp [Ctx.more, ← hw.len], by simp [Ctx.more, ← hw.lenc]⟩ (by simp [Ctx.more, ← hw.lenv]) (this.mono g1)
  | false => exact (hf.2 t').mono g1
theorem WRel.recell (hw : WRel C H w) {id j : Nat} {k : Blk} {x y : PV} (hk : H[id]? = some k) (hj : k.cells[j]? = some x) (hc : y.cell = true) (hR : ∀ u, VRel C x u → VRel C y u) : WRel C (H.set id ⟨k.e, k.ver, k.cells.set j y⟩) w := by
  have hid : id < H.length := (List.getElem?_eq_some_iff.1 hk).1
  refine ⟨hw.base, hw.tople, hw.imm, by rw [hw.len]; simp, by rw [hw.lenv]; simp, by rw [hw.lenc]; simp, ?_, ?_, ?_, hw.disj, hw.inj, hw.minj⟩
  · intro i k' hk'
    rw [List.getElem?_set] at hk'
    split at hk'
    · rename_i e; subst e
      simp only [hid, if_true, Option.some.injEq] at hk'
      subst hk'
      exact hw.ver id k hk
    · exact hw.ver i k' hk'
  · intro i k' hk' hm
    rw [List.getElem?_set] at hk'
    split at hk'
    · rename_i e; subst e
      simp only [hid, if_true, Option.some.injEq] at hk'
      subst hk'
      rcases hw.gho id k hk hm with h0 | ⟨b, es, clock, q1, q2, q3, q4, q5⟩
      · rw [h0.2] at hj
        simp at hj
      · refine .inr ⟨b, es, clock, q1, q2, q3, by simpa using q4, fun i z e hz he => ?_⟩
        rw [List.getElem?_set] at hz
        split at hz
        · rename_i e; subst e
          split at hz
          · injection hz with hz; subst hz; exact hR _ (q5 j x _ hj he)
          · cases hz
        · exact q5 i z _ hz he
    · exact hw.gho i k' hk' hm
  · intro i k' b hk' hm
    rw [List.getElem?_set] at hk'
    split at hk'
    · rename_i e; subst e
      simp only [hid, if_true, Option.some.injEq] at hk'
      subst hk'
      obtain ⟨cur, q3, q4, q5, q6, q7, q8⟩ := hw.own id k b hk hm
      refine ⟨cur, q3, q4, q5, fun z hz => ?_, by simpa using q7, fun i z u hz hu => ?_⟩
      · rcases List.mem_or_eq_of_mem_set hz with hz | hz
        · exact q6 z hz
        · rw [hz]; exact hc
      · rw [List.getElem?_set] at hz
        split at hz
        · rename_i e; subst e
          split at hz
          · injection hz with hz; subst hz; exact hR u (q8 j x u hj hu)
          · cases hz
        · exact q8 i z u hz hu
    · exact hw.own i k' b hk' hm
theorem Vs.ghostH {id j : Nat} {k : Blk} (e sz : Nat) (hk : H[id]? = some k) (hj : k.cells[j]? = some (.slice [] 0 true)) :
    Vs E F H F (H.set id ⟨k.e, k.ver, k.cells.set j (.msl H.length 0 0 0 sz true)⟩ ++ [⟨e, 0, []⟩]) := fun _ C a w hw hf => by
  obtain ⟨g1, g2⟩ := hw.ghost e 0
  have hid : id < H.length := (List.getElem?_eq_some_iff.1 hk).1
  have := g2.recell (id := id) (j := j) (k := k) (y := .msl H.length 0 0 0 sz true) (by rw [List.getElem?_append_left hid]; exact hk) hj rfl (fun u hu => ghost_rel ⟨by simp [Ctx.more, ← hw.len], by simp [Ctx.more, ← hw.lenc]⟩ (by simp [Ctx.more, ← hw.lenv]) hu)
  rw [List.set_append_left _ _ hid] at this
  exact ⟨_, g1.toN _, this, hf.mono g1⟩

end rules

/-! ### contracts at another heap -/
/-- Memory is only added to. -/
theorem WRel.grown (hw : WRel C H w) {w' : World} (hb : Below w.heap.size w w') : WRel C H w' := by
  have hcell : ∀ b o u, w.cell? ⟨b, o, none⟩ = some u → w'.cell? ⟨b, o, none⟩ = some u := fun b o u hu => by
    have hlt := World.block_lt_of_cell? w ⟨b, o, none⟩ hu
    have e := hb.block b hlt
    simp only [World.cell?] at hu ⊢
    rw [e]; exact hu
  have hsz := hb.size
  refine ⟨by have := hw.base; omega, by have := hw.tople; omega, fun b o u hu => hcell _ _ _ (hw.imm b o u hu), hw.len, hw.lenv, hw.lenc, hw.ver, fun id k hk hm => (hw.gho id k hk hm).imp_right (fun m => m.mono (.refl _) rfl (fun b es c hp h3 => by rw [hb.block b (Array.getElem?_eq_some_iff.1 h3).1]; exact h3)), fun id k b hk hm => ?_, hw.disj, hw.inj, hw.minj⟩
  obtain ⟨cur, q3, q4, q5, q6, q7, q8⟩ := hw.own id k b hk hm
  exact ⟨cur, q3, q4, by rw [hb.block b (hw.mu_lt hm)]; exact q5, q6, q7, q8⟩

/-- What is known after a call that knew nothing of the heap. -/
def Ctx.after (C C2 : Ctx) (n : Nat) : Ctx := { C with M := fun b o => if b < n then C.M b o else C2.M b o }
theorem after_le (C C2 : Ctx) (hw : WRel C H w) : CLe C (C.after C2 w.heap.size) := by
  refine ⟨rfl, fun b o u hu => ?_, rfl, fun b o u hu => ?_, fun b hb => .inl hb, fun id ver hv => ⟨ver, hv, Nat.le_refl _, fun _ => ⟨rfl, rfl⟩⟩⟩
  · have := hw.imm_lt hu
    simp only [Ctx.after]
    rw [if_pos this]; exact hu
  · simp only [Ctx.after] at hu
    split at hu
    · exact .inl hu
    · have := hw.tople; exact .inr (.inl (by omega))
theorem after_w {C2 : Ctx} {w' : World} (hw : WRel C H w) (hb : Below w.heap.size w w') (h2 : WRel C2 [] w') : WRel (C.after C2 w.heap.size) H w' := by
  have h := hw.grown hb
  have hle := after_le C C2 hw
  refine ⟨h.base, h.tople, fun b o u hu => ?_, h.len, h.lenv, h.lenc, h.ver, fun id k hk hm => (h.gho id k hk hm).imp_right (fun m => m.mono hle rfl (fun b es c hp h3 => h3)), fun id k b hk hm => ?_, fun id b hm o => ?_, h.inj, h.minj⟩
  · simp only [Ctx.after] at hu
    split at hu
    · exact h.imm b o u hu
    · exact h2.imm b o u hu
  · obtain ⟨cur, q3, q4, q5, q6, q7, q8⟩ := h.own id k b hk hm
    exact ⟨cur, q3, q4, q5, q6, q7, fun j x u hx hu => (q8 j x u hx hu).mono hle⟩
  · simp only [Ctx.after]
    rw [if_pos (hw.mu_lt hm)]
    exact hw.disj id b hm o
theorem after_v {n : Nat} {C2 : Ctx} (hM : ∀ b o u, C2.M b o = some u → C.M b o = some u ∨ n ≤ b) (hlt : ∀ b o u, C.M b o = some u → b < n) (hC : ∀ b o u, C.M b o = some u → C2.M b o = some u) (hv0 : C2.vs = []) {x : PV} {u : Value} (h : VRel C2 x u) : VRel (C.after C2 n) x u := by
  have key : ∀ b o u, C2.M b o = some u → (C.after C2 n).M b o = some u := fun b o u hu => by
    simp only [Ctx.after]
    rcases hM b o u hu with h | h
    · rw [if_pos (hlt b o u h)]; exact h
    · rw [if_neg (by omega)]; exact hu
  have no : ∀ {id ver : Nat}, C2.vs[id]? = some ver → False := fun h => by rw [hv0] at h; simp at h
  induction h with
  | nl k => exact .nl k
  | int k n => exact .int k n
  | bool b => exact .bool b
  | str s => exact .str s
  | nilp => exact .nilp
  | ptr hm hv => exact (no hv).elim
  | ptrS v h1 hv hlt => exact (no hv).elim
  | ip hl hM hc _ ih => exact .ip hl (fun j u hu => key _ _ _ (hM j u hu)) hc ih
  | slice hl hM hc _ hcap hmax hf ih => exact .slice hl (fun j u hu => key _ _ _ (hM j u hu)) hc ih hcap hmax hf
  | sliceN ad full => exact .sliceN ad full
  | msl hm hv hcap hmax hg => exact (no hv).elim
  | mslE hm hv hmax => exact (no hv).elim
  | mslG ad hm hv => exact (no hv).elim
  | mslS v h1 hv hlt => exact (no hv).elim
  | mp hm hv hb => exact (no hv).elim
  | mpS v h1 hv hlt => exact (no hv).elim
  | agg hl hc _ ih => exact .agg hl hc ih
  | tup hl _ ih => exact .tup hl ih
  | func hl hl' _ _ ih ih' => exact .func hl hl' ih ih'
  | undef v => exact .undef v

/-- ████ A contract over no heap at all holds over every heap, if the arguments name no blocks. ████ -/
theorem CallEx.frame {f : FuncId} {args : List PV} {R : PV → Prop} (h : CallEx P f args [] (fun v H' => R v ∧ H' = [])) (hs : ∀ x ∈ args, Scoped 0 x) : CallEx P f args H (fun v H' => R v ∧ H' = H) := by
  refine ⟨h.1, fun C us w hw hu => ?_⟩
  have h0 : WRel { B := w.heap.size, M := C.M, mu := [], vs := [], cp := [], top := w.heap.size } [] w :=
    ⟨Nat.le_refl _, Nat.le_refl _, hw.imm, rfl, rfl, rfl, fun id k h => by simp at h, fun id k h => by simp at h, fun id k b h => by simp at h, fun id b h => by simp at h, fun i j b h => by simp at h, fun i j b h => by simp at h⟩
  have ha : VRels { B := w.heap.size, M := C.M, mu := [], vs := [], cp := [], top := w.heap.size } args us := ⟨hu.1, fun j x u hx hu' => by
    have := (hu.2 j x u hx hu').cut (n := 0) (M := C.M) (fun _ _ _ h => h) (hs x (List.mem_of_getElem? hx))
    refine this.re ?_ ?_ ?_ ?_ <;> simp [Ctx.cut]⟩
  refine (h.2 _ us w h0 ha).mono ?_
  rintro e w' ⟨C2, u, v, H', ⟨hR, rfl⟩, q1, q2, q3, q4, q5⟩
  refine ⟨C.after C2 w.heap.size, u, v, H, ⟨hR, rfl⟩, after_le C C2 hw, after_w hw q3 q2, q3.mono hw.base, q4, ?_⟩
  refine after_v (fun b o u hu => ?_) (fun b o u hu => hw.imm_lt hu) (fun b o u hu => q1.M b o u hu) (List.eq_nil_of_length_eq_zero q2.lenv) q5
  rcases q1.mnew b o u hu with h | h | h
  · exact .inl h
  · exact .inr h
  · simp at h
theorem CallOk.frame {f : FuncId} {args : List PV} {v : PV} (h : CallOk P f args [] v []) (hs : ∀ x ∈ args, Scoped 0 x) : CallOk P f args H v H :=
  (CallEx.frame (R := fun v' => v' = v) h.toEx hs).one

/-- It names no memory. -/
inductive Scal : PV → Prop where
  | int (k : IntKind) (m : Int) : Scal (.int k m)
  | bool (b : Bool) : Scal (.bool b)
  | str (s : List UInt8) : Scal (.str s)
  | nilp : Scal .nilp
  | agg {xs : List PV} (h : ∀ (j : Nat) (x : PV), xs[j]? = some x → Scal x) : Scal (.agg xs)
  | tup {xs : List PV} (h : ∀ (j : Nat) (x : PV), xs[j]? = some x → Scal x) : Scal (.tup xs)
theorem Scal.any {C C' : Ctx} {x : PV} (h : Scal x) : ∀ {u : Value}, VRel C x u → VRel C' x u := by
  induction h with
  | int k m => intro u hv; cases hv; exact .int k m
  | bool b => intro u hv; cases hv; exact .bool b
  | str s => intro u hv; cases hv; exact .str _
  | nilp => intro u hv; cases hv; exact .nilp
  | agg _ ih => intro u hv; cases hv with | agg hl hc hR => exact .agg hl hc (fun j x u hx hu => ih j x hx (hR j x u hx hu))
  | tup _ ih => intro u hv; cases hv with | tup hl hR => exact .tup hl (fun j x u hx hu => ih j x hx (hR j x u hx hu))

/-- ████ A call that only reads: its contract over what is never written serves over what is written at other times. ████ -/
theorem CallOk.borrow {f : FuncId} {args args' : List PV} {v : PV} (h : CallOk P f args' [] v []) (hz : FzC 0 H args args') (hv : Scal v) : CallOk P f args H v H := by
  refine ⟨h.1, fun C us w hw hu => ?_⟩
  have h0 : WRel { B := w.heap.size, M := C.given 0 w, mu := [], vs := [], cp := [], top := w.heap.size } [] w :=
    ⟨Nat.le_refl _, Nat.le_refl _, fun b o u hu => by
      simp only [Ctx.given] at hu
      split at hu
      · exact hu
      · exact hw.imm b o u hu, rfl, rfl, rfl, fun id k h => by simp at h, fun id k h => by simp at h, fun id k b h => by simp at h, fun id b h => by simp at h, fun i j b h => by simp at h, fun i j b h => by simp at h⟩
  obtain ⟨hl, hp⟩ := hz.pw
  have ha : VRels { B := w.heap.size, M := C.given 0 w, mu := [], vs := [], cp := [], top := w.heap.size } args' us := ⟨by rw [hu.1, hl], fun j y u hy hu' => by
    have hj : j < args.length := by have := (List.getElem?_eq_some_iff.1 hy).1; omega
    have := (hp j _ y (List.getElem?_eq_getElem hj) hy).sound hw (hu.2 j _ u (List.getElem?_eq_getElem hj) hu')
    refine this.re ?_ ?_ ?_ ?_ <;> simp [Ctx.cut]⟩
  refine (h.2 _ us w h0 ha).mono ?_
  rintro e w' ⟨C2, u, q1, q2, q3, q4, q5⟩
  exact ⟨C, u, .refl _, hw.grown q3, q3.mono hw.base, q4, hv.any q5⟩

/-! ### one block is given up where it stands -/
theorem WRel.freeze1 (hw : WRel C H w) {id : Nat} {k : Blk} (hk : H[id]? = some k) : ∃ C1, CLe C C1 ∧ WRel C1 (H.set id ⟨k.e, k.ver + 1, []⟩) w ∧
    ∀ (off len sz : Nat) (g : Bool) (u : Value), off + len * sz ≤ k.cells.length → VRel C (.msl id k.ver off len sz g) u → VRel C1 (.slice ((k.cells.drop off).take (len * sz)) len false) u := by
  have hid : id < H.length := (List.getElem?_eq_some_iff.1 hk).1
  have e1 := hw.len
  have e2 := hw.lenv
  have e3 := hw.lenc
  obtain ⟨m, hm⟩ : ∃ m, C.mu[id]? = some m := ⟨C.mu[id]'(by omega), List.getElem?_eq_getElem _⟩
  have hge : ∀ b o u, C.M b o = some u → (if m = some b then w.cell? ⟨b, o, none⟩ else C.M b o) = some u := fun b o u hu => by
    split
    · exact hw.imm b o u hu
    · exact hu
  have hle : CLe C { B := C.B, top := C.top, M := fun b o => if m = some b then w.cell? ⟨b, o, none⟩ else C.M b o, mu := C.mu.set id none, vs := C.vs.set id (k.ver + 1), cp := C.cp.set id 0 } := by
    refine ⟨rfl, hge, rfl, fun b o u hu => ?_, fun b hb => ?_, fun i ver hv => ?_⟩
    · simp only at hu
      split at hu
      · rename_i hmb; exact .inr (.inr (hmb ▸ List.mem_of_getElem? hm))
      · exact .inl hu
    · rcases List.mem_or_eq_of_mem_set hb with hb | hb
      · exact .inl hb
      · cases hb
    · by_cases hi : i = id
      · subst hi
        rw [hw.ver i k hk] at hv
        injection hv with hv
        exact ⟨k.ver + 1, by simp [e2, hid], by omega, fun he => by omega⟩
      · exact ⟨ver, by rw [List.getElem?_set_ne (by omega)]; exact hv, Nat.le_refl _, fun _ => ⟨by rw [List.getElem?_set_ne (by omega)], by rw [List.getElem?_set_ne (by omega)]⟩⟩
  refine ⟨_, hle, ?_, ?_⟩
  · refine ⟨hw.base, hw.tople, fun b o u hu => ?_, by simp [e1], by simp [e2], by simp [e3], ?_, ?_, ?_, ?_, ?_, ?_⟩
    · simp only at hu
      split at hu
      · exact hu
      · exact hw.imm b o u hu
    · intro i k' hk'
      by_cases hi : i = id
      · subst hi
        simp [hid] at hk'
        subst hk'
        simp [e2, hid]
      · rw [List.getElem?_set_ne (by omega)] at hk'
        rw [List.getElem?_set_ne (by omega)]
        exact hw.ver i k' hk'
    · intro i k' hk' hm'
      by_cases hi : i = id
      · subst hi
        simp [hid] at hk'
        subst hk'
        exact .inl ⟨by simp [e3, hid], rfl⟩
      · rw [List.getElem?_set_ne (by omega)] at hk' hm'
        rw [List.getElem?_set_ne (by omega)]
        exact (hw.gho i k' hk' hm').imp_right (fun m => m.mono hle rfl (fun b es c hp h3 => h3))
    · intro i k' b hk' hm'
      by_cases hi : i = id
      · subst hi
        simp [e1, hid] at hm'
      · rw [List.getElem?_set_ne (by omega)] at hk' hm'
        obtain ⟨c, q3, q4, q5, q6, q7, q8⟩ := hw.own i k' b hk' hm'
        exact ⟨c, by rw [List.getElem?_set_ne (by omega)]; exact q3, q4, q5, q6, q7, fun j x u hx hu => (q8 j x u hx hu).mono hle⟩
    · intro i b hb o
      by_cases hi : i = id
      · subst hi
        simp [e1, hid] at hb
      · simp only [List.getElem?_set_ne (by omega : id ≠ i)] at hb
        simp only
        rw [if_neg (fun e => ?_)]
        · exact hw.disj i b hb o
        · rw [e] at hm
          exact hi (hw.inj i id b hb hm)
    · intro i j b hi hj
      have ne : ∀ {i : Nat}, (C.mu.set id none)[i]? = some (some b) → i ≠ id ∧ C.mu[i]? = some (some b) := fun {i} h => by
        by_cases hi : i = id
        · subst hi; simp [e1, hid] at h
        · exact ⟨hi, by rw [List.getElem?_set_ne (by omega)] at h; exact h⟩
      exact hw.inj i j b (ne hi).2 (ne hj).2
    · intro i j b mi mj ci cj
      have ne : ∀ {i : Nat}, (C.mu.set id none)[i]? = some none → (C.cp.set id 0)[i]? = some (b + 1) → C.mu[i]? = some none ∧ C.cp[i]? = some (b + 1) := fun {i} h h' => by
        by_cases hi : i = id
        · subst hi; simp [e3, hid] at h'
        · exact ⟨by rw [List.getElem?_set_ne (by omega)] at h; exact h, by rw [List.getElem?_set_ne (by omega)] at h'; exact h'⟩
      exact hw.minj i j b (ne mi ci).1 (ne mj cj).1 (ne mi ci).2 (ne mj cj).2
  · intro off len sz g u ho hv
    obtain ⟨b, cap, off', q1, rfl, hc1, hc2, ho', _⟩ | ⟨ad, hgh, h0, rfl⟩ := inv_msl hw hv (hw.ver id k hk)
    · rw [hm] at q1
      injection q1 with q1
      subst q1
      obtain ⟨cur, q3, q5, q6, q7, q8, q9, q10⟩ := hw.blk hk hm
      have hlen : (((cur.toList.take k.cells.length).drop off).take (len * sz)).length = ((k.cells.drop off).take (len * sz)).length := by simp; omega
      refine .slice hlen (fun j u hu => ?_) (fun x hx => q6 x (List.mem_of_mem_drop (List.mem_of_mem_take hx))) (fun j x u hx hu => (((q9.drop off).take (len * sz)) j x u hx hu).mono hle) hc1 hc2 (fun hf => by cases hf)
      simp only [if_true]
      rcases Nat.eq_zero_or_pos len with h0 | h0
      · subst h0; simp at hu
      · obtain rfl := ho' h0
        have := ((q8.drop off').take (len * sz)) j u hu
        rwa [Nat.zero_add] at this
    · subst h0
      have e : (k.cells.drop off).take (0 * sz) = [] := by simp
      rw [e]
      exact .sliceN _ _
/-- The arguments, one block given up. -/
def Fz1 (id : Nat) (k : Blk) : List PV → List PV → Prop
  | [], [] => True
  | x :: xs, y :: ys => (x = y ∨ ∃ len sz g, x = .msl id k.ver 0 len sz g ∧ k.cells.length = len * sz ∧ y = .slice k.cells len false) ∧ Fz1 id k xs ys
  | _, _ => False
theorem Fz1.get {id : Nat} {k : Blk} : ∀ {xs ys : List PV}, Fz1 id k xs ys → ys.length = xs.length ∧ ∀ (j : Nat) (x y : PV), xs[j]? = some x → ys[j]? = some y → (x = y ∨ ∃ len sz g, x = .msl id k.ver 0 len sz g ∧ k.cells.length = len * sz ∧ y = .slice k.cells len false)
  | [], [], _ => ⟨rfl, fun j x y hx => by simp at hx⟩
  | x :: xs, y :: ys, h => by
    obtain ⟨l, q⟩ := Fz1.get h.2
    refine ⟨by simp [l], fun j a b ha hb => ?_⟩
    cases j with
    | zero => simp at ha hb; subst ha hb; exact h.1
    | succ j => exact q j a b (by simpa using ha) (by simpa using hb)
  | [], _ :: _, h => h.elim
  | _ :: _, [], h => h.elim
/-- ████ A call with a block of which nothing is written any more. ████ -/
theorem CallEx.frz1 {f : FuncId} {args args' : List PV} {R : PV → Heap → Prop} {id : Nat} {k : Blk} (hk : H[id]? = some k) (h : CallEx P f args' (H.set id ⟨k.e, k.ver + 1, []⟩) R) (hz : Fz1 id k args args') : CallEx P f args H R := by
  refine ⟨h.1, fun C us w hw hu => ?_⟩
  obtain ⟨C1, hle, hw1, hf⟩ := hw.freeze1 hk
  obtain ⟨hl, hp⟩ := hz.get
  have ha : VRels C1 args' us := ⟨by rw [hu.1, hl], fun j y u hy hu' => by
    have hj : j < args.length := by have := (List.getElem?_eq_some_iff.1 hy).1; omega
    have hv := hu.2 j _ u (List.getElem?_eq_getElem hj) hu'
    rcases hp j _ y (List.getElem?_eq_getElem hj) hy with e | ⟨len, sz, g, e1, e2, e3⟩
    · rw [← e]; exact hv.mono hle
    · rw [e1] at hv
      have := hf 0 len sz g u (by omega) hv
      rw [List.drop_zero, ← e2, List.take_length] at this
      rw [e3]; exact this⟩
  refine (h.2 C1 us w hw1 ha).mono ?_
  rintro e w' ⟨C2, u, v, H', hR, q1, q2, q3, q4, q5⟩
  exact ⟨C2, u, v, H', hR, hle.trans q1, q2, by rw [← hle.B]; exact q3, q4, q5⟩
theorem CallOk.frz1 {f : FuncId} {args args' : List PV} {v : PV} {H' : Heap} {id : Nat} {k : Blk} (hk : H[id]? = some k) (h : CallOk P f args' (H.set id ⟨k.e, k.ver + 1, []⟩) v H') (hz : Fz1 id k args args') : CallOk P f args H v H' := (CallEx.frz1 hk h.toEx hz).one

/-- A block that a cell names is given up where it stands. -/
theorem Vs.frzCell {E : Env} {id id' j len sz : Nat} {g : Bool} {k k' : Blk} (hk : H[id]? = some k) (hk' : H[id']? = some k') (hne : id ≠ id') (hj : k'.cells[j]? = some (.msl id k.ver 0 len sz g)) (hl : k.cells.length = len * sz) :
    Vs E F H F ((H.set id ⟨k.e, k.ver + 1, []⟩).set id' ⟨k'.e, k'.ver, k'.cells.set j (.slice k.cells len false)⟩) := fun _ C a w hw hf => by
  obtain ⟨C1, hle, hw1, hfz⟩ := hw.freeze1 hk
  have hid' : id' < H.length := (List.getElem?_eq_some_iff.1 hk').1
  have hid : id < H.length := (List.getElem?_eq_some_iff.1 hk).1
  -- what the cell holds is, under C1, the slice: by way of C
  obtain ⟨m, hm⟩ : ∃ m, C.mu[id']? = some m := ⟨C.mu[id']'(by rw [hw.len]; exact hid'), List.getElem?_eq_getElem _⟩
  cases m with
  | none =>
    rcases hw.gho id' k' hk' hm with h0 | ⟨b, es, clock, q1, q2, q3, q4, q5⟩
    · rw [h0.2] at hj; simp at hj
    · have hj' : j < es.size := by rw [q4]; exact (List.getElem?_eq_some_iff.1 hj).1
      obtain ⟨b, cap, off', _, e, _⟩ | ⟨ad, _, _, e⟩ := inv_msl hw (q5 j _ es[j] hj (Array.getElem?_eq_getElem hj')) (hw.ver id k hk) <;> cases e
  | some b =>
    obtain ⟨cur, q3, q4, q5, q6, q7, q8⟩ := hw.own id' k' b hk' hm
    have hk1 : (H.set id ⟨k.e, k.ver + 1, []⟩)[id']? = some k' := by rw [List.getElem?_set_ne hne]; exact hk'
    refine ⟨C1, hle.toN _, ?_, hf.mono hle⟩
    have hlt : id' < (H.set id ⟨k.e, k.ver + 1, []⟩).length := by rw [List.length_set]; exact hid'
    refine ⟨hw1.base, hw1.tople, hw1.imm, by rw [hw1.len]; simp, by rw [hw1.lenv]; simp, by rw [hw1.lenc]; simp, ?_, ?_, ?_, hw1.disj, hw1.inj, hw1.minj⟩
    · intro i k2 hk2
      rw [List.getElem?_set] at hk2
      split at hk2
      · rename_i e; subst e
        simp only [hlt, if_true, Option.some.injEq] at hk2
        subst hk2
        exact hw1.ver id' k' hk1
      · exact hw1.ver i k2 hk2
    · intro i k2 hk2 hm2
      rw [List.getElem?_set] at hk2
      split at hk2
      · rename_i e; subst e
        obtain ⟨ver', e1, e2, e3⟩ := hle.ids id' k'.ver (hw.ver id' k' hk')
        have h2 := hw1.ver id' k' hk1
        rw [e1] at h2
        injection h2 with h2
        have := (e3 h2).1
        rw [hm2, hm] at this
        cases this
      · exact hw1.gho i k2 hk2 hm2
    · intro i k2 b2 hk2 hm2
      rw [List.getElem?_set] at hk2
      split at hk2
      · rename_i e; subst e
        simp only [hlt, if_true, Option.some.injEq] at hk2
        subst hk2
        obtain ⟨cur1, r3, r4, r5, r6, r7, r8⟩ := hw1.own id' k' b2 hk1 hm2
        -- the same place as before
        have hb : b2 = b := by
          obtain ⟨ver', e1, e2, e3⟩ := hle.ids id' k'.ver (hw.ver id' k' hk')
          have h2 := hw1.ver id' k' hk1
          rw [e1] at h2
          injection h2 with h2
          have := (e3 h2).1
          rw [hm2, hm] at this
          injection this with this
          injection this
        subst hb
        rw [q5] at r5
        injection r5 with r5
        injection r5 with r5
        subst r5
        refine ⟨cur, r3, r4, q5, fun z hz => ?_, by simpa using r7, fun i z u hz hu => ?_⟩
        · rcases List.mem_or_eq_of_mem_set hz with hz | hz
          · exact r6 z hz
          · rw [hz]; rfl
        · rw [List.getElem?_set] at hz
          split at hz
          · rename_i e; subst e
            split at hz
            · injection hz with hz
              subst hz
              have := hfz 0 len sz g u (by omega) (q8 j _ u hj hu)
              rwa [List.drop_zero, ← hl, List.take_length] at this
            · cases hz
          · exact r8 i z u hz hu
      · exact hw1.own i k2 b2 hk2 hm2

end Go.Proofs.Ytnjnikafhbholaa.Pm

namespace Go.Proofs.Ytnjnikafhbholaa.Pm
set_option linter.all false
set_option linter.unusedVariables false
set_option linter.unusedSimpArgs false
open Go.RowKit

variable {P : Program} {C : Ctx} {H : Heap} {w : World} {F : Fr} {a : Act} {N : Nat}

/-! ### equality -/
def eqL {α : Type} (f : α → α → Bool) : List α → List α → Bool
  | [], [] => true
  | x :: xs, y :: ys => match f x y with | true => eqL f xs ys | false => false
  | _, _ => false
theorem eqL_sound {α : Type} {f : α → α → Bool} (hf : ∀ x y, f x y = true → x = y) : ∀ {xs ys : List α}, eqL f xs ys = true → xs = ys
  | [], [], _ => rfl
  | x :: xs, y :: ys, h => by
    simp only [eqL] at h
    split at h
    · rename_i h1; rw [hf _ _ h1, eqL_sound hf h]
    · cases h
  | [], _ :: _, h => by cases h
  | _ :: _, [], h => by cases h
def eqb : Nat → PV → PV → Bool
  | 0, _, _ => false
  | _ + 1, .int k a, .int k' b => decide (k = k') && decide (a = b)
  | _ + 1, .bool a, .bool b => a == b
  | _ + 1, .str a, .str b => decide (a = b)
  | _ + 1, .nilp, .nilp => true
  | _ + 1, .nl a, .nl b => Nat.beq a b
  | _ + 1, .undef, .undef => true
  | _ + 1, .ptr a b c, .ptr a' b' c' => Nat.beq a a' && Nat.beq b b' && Nat.beq c c'
  | n + 1, .ip xs o, .ip ys o' => Nat.beq o o' && eqL (eqb n) xs ys
  | n + 1, .slice xs l f, .slice ys l' f' => Nat.beq l l' && (f == f') && eqL (eqb n) xs ys
  | _ + 1, .msl a b c d e g, .msl a' b' c' d' e' g' => Nat.beq a a' && Nat.beq b b' && Nat.beq c c' && Nat.beq d d' && Nat.beq e e' && (g == g')
  | _ + 1, .mp a b, .mp a' b' => Nat.beq a a' && Nat.beq b b'
  | n + 1, .agg xs, .agg ys => eqL (eqb n) xs ys
  | n + 1, .tup xs, .tup ys => eqL (eqb n) xs ys
  | n + 1, .func f xs us, .func f' ys vs => Nat.beq f f' && eqL (eqb n) xs ys && eqL (eqb n) us vs
  | _ + 1, _, _ => false
theorem eqb_sound : ∀ (n : Nat) (x y : PV), eqb n x y = true → x = y
  | 0, _, _, h => by simp [eqb] at h
  | n + 1, x, y, h => by
    have ih : ∀ {xs ys : List PV}, eqL (eqb n) xs ys = true → xs = ys := fun h => eqL_sound (eqb_sound n) h
    have nb : ∀ {a b : Nat}, Nat.beq a b = true → a = b := fun h => Nat.eq_of_beq_eq_true h
    cases x <;> cases y <;> simp only [eqb, Bool.false_eq_true, Bool.and_eq_true, decide_eq_true_eq, beq_iff_eq] at h
    case int => rw [h.1, h.2]
    case bool => rw [h]
    case str => rw [h]
    case nilp => rfl
    case nl => rw [nb h]
    case ptr => rw [nb h.1.1, nb h.1.2, nb h.2]
    case ip => rw [nb h.1, ih h.2]
    case slice => rw [nb h.1.1, ih h.2, h.1.2]
    case msl => rw [nb h.1.1.1.1.1, nb h.1.1.1.1.2, nb h.1.1.1.2, nb h.1.1.2, nb h.1.2, h.2]
    case mp => rw [nb h.1, nb h.2]
    case agg => rw [ih h]
    case tup => rw [ih h]
    case func => rw [nb h.1.1, ih h.1.2, ih h.2]
    case undef => rfl
def eqBlk (a b : Blk) : Bool := Nat.beq a.e b.e && Nat.beq a.ver b.ver && eqL (eqb 20) a.cells b.cells
theorem eqBlk_sound (a b : Blk) (h : eqBlk a b = true) : a = b := by
  simp only [eqBlk, Bool.and_eq_true] at h
  cases a; cases b
  simp only [Blk.mk.injEq]
  exact ⟨Nat.eq_of_beq_eq_true h.1.1, Nat.eq_of_beq_eq_true h.1.2, eqL_sound (eqb_sound 20) h.2⟩
def eqH (a b : Heap) : Bool := eqL eqBlk a b
theorem eqH_sound {a b : Heap} (h : eqH a b = true) : a = b := eqL_sound eqBlk_sound h

/-! ### the evaluator -/
inductive Task where
  | code (N : Nat) (c : Code) (F : Fr) (H : Heap)
  | loop (N : Nat) (c : Code) (F : Fr) (H : Heap)
  | ops (d : Bool) (ds : List (Option Nat)) (l : List Oper) (F : Fr) (H : Heap)
  | call (f : FuncId) (args : List PV) (H : Heap)
inductive Res where
  | code (e : Exit) (F : Fr) (H : Heap)
  | val (v : PV) (H : Heap)

/-- The newest entry of each slot. -/
def newest (ks : List Nat) : Fr → List Nat
  | [] => ks
  | (t, _) :: r => match ks.any (Nat.beq t) with | true => newest ks r | false => newest (t :: ks) r

def stepE (P : Program) (ih : Task → Option Res) : Task → Option Res
  | .code N c F H => match c with
    | .skip => some (.code .normal F H)
    | .region _ ops d => match ops.toList.all (dstOk N) && (!d || (P.follows .mixedOrders && drawOk N ops.toList)) with
      | true => ih (.ops d (ops.toList.map (·.dst)) ops.toList F H)
      | false => none
    | .seq x y => match ih (.code N x F H) with
      | some (.code .normal F1 H1) => ih (.code N y F1 H1)
      | r => r
    | .cond c x y => match ev (slot F) c with
      | .bool true => ih (.code N x F H)
      | .bool false => ih (.code N y F H)
      | _ => none
    | .block id x => match ih (.code N x F H) with
      | some (.code (.exit id') F1 H1) => match Nat.beq id' id with | true => some (.code .normal F1 H1) | false => some (.code (.exit id') F1 H1)
      | r => r
    | .loop x => ih (.loop N x F H)
    | .exit id => some (.code (.exit id) F H)
    | .label _ => some (.code .normal F H)
    | .scope x => match ih (.code N x F H) with
      | some (.code (.goto _) _ _) => none
      | r => r
    | .ret => some (.code .ret F H)
    | _ => none
  | .loop N x F H => match ih (.code N x F H) with
    | some (.code .normal F1 H1) => ih (.loop N x (kp (newest [] F1) F1) H1)
    | r => r
  | .ops _ _ [] F H => some (.code .normal F H)
  | .ops d ds (o :: r) F H => match isCall o.op with
    | false => match stp P ds o F H with
      | some (F1, H1) => ih (.ops d ds r F1 H1)
      | none => none
    | true => match asked ds F o with
      | some true => match pcallee o.op (slot F) with
        | some (g, args) => match d && pureCall o.op with
          | true => match args, ih (.call g [] []) with
            | [], some (.val v []) => ih (.ops d ds r (put F o.dst v) H)
            | _, _ => none
          | false => match ih (.call g args H) with
            | some (.val v H1) => match !d || eqH H1 H with
              | true => ih (.ops d ds r (put F o.dst v) H1)
              | false => none
            | _ => none
        | none => none
      | some false => ih (.ops d ds r (put F o.dst (.tup [])) H)
      | none => none
  | .call f args H => match P.funcs[f]? with
    | some fn => match fn.body with
      | some c => match callable P f && Nat.ble args.length fn.ntmps with
        | true => match ih (.code fn.ntmps c (argFr args 0) H) with
          | some (.code e F1 H1) => match (match e with | .ret => true | .normal => true | _ => false) with
            | true => match presults P fn.results.toList (slot F1) H1 with
              | some v => match eqH (H1.take H.length) H with
                | true => match frz H.length H1 20 v with
                  | some v1 => some (.val v1 H)
                  | none => some (.val v H1)
                | false => some (.val v H1)
              | none => none
            | false => none
          | _ => none
        | false => none
      | none => none
    | none => none

noncomputable def evalN (P : Program) (n : Nat) : Task → Option Res := n.rec (fun _ => none) (fun _ ih => stepE P ih)

def Good (P : Program) : Task → Res → Prop
  | .code N c F H, .code e F1 H1 => ∀ H0, PW P ⟨N, H0⟩ c F H (fun e' F' H' => e' = e ∧ F' = F1 ∧ H' = H1)
  | .loop N c F H, .code e F1 H1 => ∀ H0, PL P ⟨N, H0⟩ c F H (fun e' F' H' => e' = e ∧ F' = F1 ∧ H' = H1)
  | .ops false ds l F H, .code .normal F1 H1 => VO P ds l (some (F, H)) (fun F' H' => F' = F1 ∧ H' = H1)
  | .ops true ds l F H, .code .normal F1 H1 => VOd P ds l (some (F, H)) (fun F' H' => F' = F1 ∧ H' = H1)
  | .call f args H, .val v H1 => CallOk P f args H v H1
  | _, _ => False

theorem VO_mono {ds : List (Option Nat)} {K K' : Fr → Heap → Prop} (hk : ∀ F H, K F H → K' F H) : ∀ {l : List Oper} {s : Option (Fr × Heap)}, VO P ds l s K → VO P ds l s K'
  | l, none, h => by rw [VO_none] at h; exact h.elim
  | [], some (F, H), h => hk F H h
  | o :: r, some (F, H), h => by
    cases hc : isCall o.op with
    | false => rw [VO_op hc] at h ⊢; exact VO_mono hk h
    | true =>
      rw [VO_call hc] at h ⊢
      unfold VC at h ⊢
      split at h
      · split at h
        · obtain ⟨R, h1, h2⟩ := h; exact ⟨R, h1, fun v H' hR => VO_mono hk (h2 v H' hR)⟩
        · exact h
      · exact VO_mono hk h
      · exact h
theorem VOd_mono {ds : List (Option Nat)} {K K' : Fr → Heap → Prop} (hk : ∀ F H, K F H → K' F H) : ∀ {l : List Oper} {s : Option (Fr × Heap)}, VOd P ds l s K → VOd P ds l s K'
  | l, none, h => by rw [VOd_none] at h; exact h.elim
  | [], some (F, H), h => hk F H h
  | o :: r, some (F, H), h => by
    rw [VOd_step] at h ⊢
    cases hc : isCall o.op with
    | false => rw [hc] at h; exact VOd_mono hk h
    | true =>
      rw [hc] at h
      simp only [VCd, VRd] at h ⊢
      split at h
      · split at h
        · obtain ⟨v, h1, h2⟩ := h; exact ⟨v, h1, VOd_mono hk h2⟩
        · exact h
      · exact VOd_mono hk h
      · exact h

theorem stepE_good {ih : Task → Option Res} (hih : ∀ t r, ih t = some r → Good P t r) : ∀ t r, stepE P ih t = some r → Good P t r := by
  intro t r h
  cases t with
  | code N c F H =>
    -- what the parts give
    have sub : ∀ {x : Code} {F : Fr} {H : Heap} {r : Res}, ih (.code N x F H) = some r → ∃ e F1 H1, r = .code e F1 H1 ∧ ∀ H0, PW P ⟨N, H0⟩ x F H (fun e' F' H' => e' = e ∧ F' = F1 ∧ H' = H1) := fun {x F H r} hx => by
      have := hih _ _ hx
      cases r with
      | code e F1 H1 => exact ⟨e, F1, H1, rfl, this⟩
      | val v H1 => exact this.elim
    cases c with
    | skip => simp only [stepE, Option.some.injEq] at h; subst h; exact fun H0 => PW.skip ⟨rfl, rfl, rfl⟩
    | exit id => simp only [stepE, Option.some.injEq] at h; subst h; exact fun H0 => PW.exit ⟨rfl, rfl, rfl⟩
    | label l => simp only [stepE, Option.some.injEq] at h; subst h; exact fun H0 => PW.label ⟨rfl, rfl, rfl⟩
    | ret => simp only [stepE, Option.some.injEq] at h; subst h; exact fun H0 => PW.ret ⟨rfl, rfl, rfl⟩
    | scope x =>
      simp only [stepE] at h
      cases hx : ih (.code N x F H) with
      | none => rw [hx] at h; cases h
      | some r1 =>
        obtain ⟨e, F1, H1, rfl, hp⟩ := sub hx
        rw [hx] at h
        cases e with
        | goto l => cases h
        | _ =>
          injection h with h
          subst h
          intro H0
          refine PW.scope ((hp H0).mono ?_)
          rintro e' F' H' ⟨rfl, rfl, rfl⟩
          exact ⟨rfl, rfl, rfl⟩
    | region id ops d =>
      simp only [stepE] at h
      split at h
      · rename_i hc
        simp only [Bool.and_eq_true, Bool.or_eq_true, Bool.not_eq_true'] at hc
        have := hih _ _ h
        cases d with
        | false =>
          cases r with
          | val v H1 => exact this.elim
          | code e F1 H1 =>
            cases e with
            | normal =>
              intro H0
              refine PW.rg hc.1 fun K hK => VO_mono (fun F' H' hq => hK _ _ ?_) this
              exact ⟨rfl, hq⟩
            | _ => exact this.elim
        | true =>
          rcases hc.2 with h2 | h2
          · cases h2
          · cases r with
            | val v H1 => exact this.elim
            | code e F1 H1 =>
              cases e with
              | normal =>
                intro H0
                refine PW.draw h2.1 h2.2 fun K hK => VOd_mono (fun F' H' hq => hK _ _ ?_) this
                exact ⟨rfl, hq⟩
              | _ => exact this.elim
      · cases h
    | seq x y =>
      simp only [stepE] at h
      cases hx : ih (.code N x F H) with
      | none => rw [hx] at h; cases h
      | some rx =>
        obtain ⟨e, F1, H1, rfl, hp⟩ := sub hx
        rw [hx] at h
        cases e with
        | normal =>
          obtain ⟨e2, F2, H2, rfl, hp2⟩ := sub h
          intro H0
          exact PW.seq ((hp H0).mono fun e' F' H' hq => by obtain ⟨rfl, rfl, rfl⟩ := hq; exact hp2 H0)
        | _ =>
          simp only [Option.some.injEq] at h
          subst h
          intro H0
          exact PW.seq ((hp H0).mono fun e' F' H' hq => by obtain ⟨rfl, rfl, rfl⟩ := hq; exact ⟨rfl, rfl, rfl⟩)
    | cond c x y =>
      simp only [stepE] at h
      split at h
      · rename_i hc
        obtain ⟨e2, F2, H2, rfl, hp2⟩ := sub h
        exact fun H0 => PW.cond hc (fun _ => hp2 H0) (fun e => by cases e)
      · rename_i hc
        obtain ⟨e2, F2, H2, rfl, hp2⟩ := sub h
        exact fun H0 => PW.cond hc (fun e => by cases e) (fun _ => hp2 H0)
      · cases h
    | block id x =>
      simp only [stepE] at h
      cases hx : ih (.code N x F H) with
      | none => rw [hx] at h; cases h
      | some rx =>
        obtain ⟨e, F1, H1, rfl, hp⟩ := sub hx
        rw [hx] at h
        cases e with
        | exit id' =>
          simp only at h
          split at h
          · rename_i hb
            simp only [Option.some.injEq] at h
            subst h
            intro H0
            exact PW.block ((hp H0).mono fun e' F' H' hq => by
              obtain ⟨rfl, rfl, rfl⟩ := hq
              simp only [blockQ]
              rw [if_pos (Nat.eq_of_beq_eq_true hb)]; simp)
          · rename_i hb
            simp only [Option.some.injEq] at h
            subst h
            intro H0
            exact PW.block ((hp H0).mono fun e' F' H' hq => by
              obtain ⟨rfl, rfl, rfl⟩ := hq
              simp only [blockQ]
              rw [if_neg (by intro e; rw [e, Nat.beq_refl] at hb; cases hb)]; simp)
        | _ =>
          simp only [Option.some.injEq] at h
          subst h
          intro H0
          exact PW.block ((hp H0).mono fun e' F' H' hq => by obtain ⟨rfl, rfl, rfl⟩ := hq; exact ⟨rfl, rfl, rfl⟩)
    | loop x =>
      simp only [stepE] at h
      have := hih _ _ h
      cases r with
      | val v H1 => exact this.elim
      | code e F1 H1 => exact fun H0 => PW.loop (this H0)
    | _ => simp [stepE] at h
  | loop N x F H =>
    simp only [stepE] at h
    cases hx : ih (.code N x F H) with
    | none => rw [hx] at h; cases h
    | some rx =>
      have h1 := hih _ _ hx
      cases rx with
      | val v H1 => exact h1.elim
      | code e F1 H1 =>
        rw [hx] at h
        cases e with
        | normal =>
          have h2 := hih _ _ h
          cases r with
          | val v H1 => exact h2.elim
          | code e2 F2 H2 =>
            intro H0
            refine PL.round ((h1 H0).mono fun e' F' H' hq => ?_)
            obtain ⟨rfl, rfl, rfl⟩ := hq
            exact PL.keep (newest [] F') (h2 H0)
        | _ =>
          simp only [Option.some.injEq] at h
          subst h
          intro H0
          exact PL.round ((h1 H0).mono fun e' F' H' hq => by obtain ⟨rfl, rfl, rfl⟩ := hq; exact ⟨rfl, rfl, rfl⟩)
  | ops d ds l F H =>
    cases l with
    | nil => simp only [stepE, Option.some.injEq] at h; subst h; cases d <;> exact ⟨rfl, rfl⟩
    | cons o l =>
      simp only [stepE] at h
      -- what the rest gives
      have rest : ∀ {F1 : Fr} {H1 : Heap}, ih (.ops d ds l F1 H1) = some r → ∃ F2 H2, r = .code .normal F2 H2 ∧ (d = false → VO P ds l (some (F1, H1)) (fun F' H' => F' = F2 ∧ H' = H2)) ∧ (d = true → VOd P ds l (some (F1, H1)) (fun F' H' => F' = F2 ∧ H' = H2)) := fun {F1 H1} hx => by
        have := hih _ _ hx
        cases r with
        | val v H1 => cases d <;> exact this.elim
        | code e F2 H2 =>
          cases e with
          | normal => cases d <;> exact ⟨F2, H2, rfl, fun e => (by first | exact this | cases e), fun e => (by first | exact this | cases e)⟩
          | _ => cases d <;> exact this.elim
      split at h
      · rename_i hc
        split at h
        · rename_i F1 H1 hs
          obtain ⟨F2, H2, rfl, h1, h2⟩ := rest h
          cases d with
          | false => show VO P ds (o :: l) (some (F, H)) _; rw [VO_op hc, hs]; exact h1 rfl
          | true => show VOd P ds (o :: l) (some (F, H)) _; rw [VOd_step, hc]; show VOd P ds l (stp P ds o F H) _; rw [hs]; exact h2 rfl
        · cases h
      · rename_i hc
        split at h
        · rename_i ha
          split at h
          · rename_i g args hp
            split at h
            · rename_i hpc
              simp only [Bool.and_eq_true] at hpc
              obtain ⟨rfl, hpc⟩ := hpc
              split at h
              · rename_i v hcall
                have hk : CallOk P g [] [] v [] := hih _ _ hcall
                have hall : ∀ K, CallOk P g [] K v K := fun K => hk.frame (fun x hx => by cases hx)
                obtain ⟨F2, H2, rfl, h1, h2⟩ := rest h
                show VOd P ds (o :: l) (some (F, H)) _
                rw [VOd_step, hc]
                exact VCd.call (hall H) (fun _ => hall) ha hp (h2 rfl)
              · cases h
            rename_i hpc
            split at h
            · rename_i v H1 hcall
              split at h
              · rename_i hd
                have hk := hih _ _ hcall
                obtain ⟨F2, H2, rfl, h1, h2⟩ := rest h
                cases d with
                | false =>
                  show VO P ds (o :: l) (some (F, H)) _
                  rw [VO_call hc]
                  exact VC.call hk ha hp (h1 rfl)
                | true =>
                  have he : H1 = H := eqH_sound (by simpa using hd)
                  subst he
                  show VOd P ds (o :: l) (some (F, H1)) _
                  rw [VOd_step, hc]
                  exact VCd.call hk (fun e => by rw [e] at hpc; cases hpc) ha hp (h2 rfl)
              · cases h
            · cases h
          · cases h
        · rename_i ha
          obtain ⟨F2, H2, rfl, h1, h2⟩ := rest h
          cases d with
          | false =>
            show VO P ds (o :: l) (some (F, H)) _
            rw [VO_call hc]
            unfold VC
            rw [ha]
            exact h1 rfl
          | true =>
            show VOd P ds (o :: l) (some (F, H)) _
            rw [VOd_step, hc]
            simp only [VCd, ha]
            exact h2 rfl
        · cases h
  | call f args H =>
    simp only [stepE] at h
    split at h
    · rename_i fn hf
      split at h
      · rename_i c hb
        split at h
        · rename_i hq
          simp only [Bool.and_eq_true] at hq
          split at h
          · rename_i e F1 H1 hcode
            have hg := hih _ _ hcode
            split at h
            · rename_i he
              split at h
              · rename_i v hres
                have fin : ∀ v1 H2, Fin H v1 H2 v H1 → CallOk P f args H v1 H2 := fun v1 H2 hfin => by
                  refine CallOk.body hf hb rfl rfl rfl hq.1 hq.2 ((hg H).mono fun e' F' H' hq => ?_)
                  obtain ⟨rfl, rfl, rfl⟩ := hq
                  cases e' with
                  | ret => exact ⟨v, hres, hfin⟩
                  | normal => exact ⟨v, hres, hfin⟩
                  | _ => cases he
                split at h
                · rename_i hH
                  split at h
                  · rename_i v1 hz
                    simp only [Option.some.injEq] at h
                    subst h
                    refine fin v1 H (.inr (.inl ⟨H1.drop H.length, 20, ?_, rfl, hz⟩))
                    have := eqH_sound hH
                    conv => lhs; rw [← List.take_append_drop H.length H1, this]
                  · simp only [Option.some.injEq] at h
                    subst h
                    exact fin v H1 (.inl ⟨rfl, rfl⟩)
                · simp only [Option.some.injEq] at h
                  subst h
                  exact fin v H1 (.inl ⟨rfl, rfl⟩)
              · cases h
            · cases h
          · cases h
        · cases h
      · cases h
    · cases h

theorem evalN_good : ∀ (n : Nat) (t : Task) (r : Res), evalN P n t = some r → Good P t r
  | 0, t, r, h => by cases h
  | n + 1, t, r, h => stepE_good (evalN_good n) t r h
/-- ████ What the evaluator says is a contract, over every heap. ████ -/
theorem CallOk.eval (n : Nat) {f : FuncId} {args : List PV} {v : PV} (h : evalN P n (.call f args []) = some (.val v [])) (hs : ∀ x ∈ args, Scoped 0 x) : CallOk P f args H v H := (evalN_good n _ _ h).frame hs
def isTrue : Option Res → Bool
  | some (.val (.bool true) []) => true
  | _ => false
theorem CallOk.evalT (n : Nat) {f : FuncId} (h : isTrue (evalN P n (.call f [] [])) = true) : CallOk P f [] H (.bool true) H := by
  refine CallOk.eval n ?_ (fun x hx => by cases hx)
  unfold isTrue at h
  split at h
  · rename_i he; exact he
  · cases h

end Go.Proofs.Ytnjnikafhbholaa.Pm

namespace Go.Proofs.Ytnjnikafhbholaa.Pm
set_option linter.all false
set_option linter.unusedVariables false
set_option linter.unusedSimpArgs false
open Go.RowKit

variable {P : Program} {C : Ctx} {H : Heap} {w : World} {F : Fr} {a : Act} {N : Nat}

/-! ### any order, over any step relation -/
def RunG (E : Oper → (Nat → PV) → Heap → PV → Heap → Prop) : List Oper → (Nat → PV) → Heap → ((Nat → PV) → Heap → Prop) → Prop
  | [], f, H, K => K f H
  | o :: r, f, H, K => ∃ v H', E o f H v H' ∧ RunG E r (upd f o.dst v) H' K
def SwapG (E : Oper → (Nat → PV) → Heap → PV → Heap → Prop) (cmp : Oper → Oper → Bool) : Prop :=
  ∀ (x o : Oper) (f : Nat → PV) (H : Heap) (vx : PV) (Hx : Heap) (v : PV) (H1 : Heap), cmp x o = true → E x f H vx Hx → E o (upd f x.dst vx) Hx v H1 → ∃ H3, E o f H v H3 ∧ E x (upd f o.dst v) H3 vx H1 ∧ upd (upd f x.dst vx) o.dst v = upd (upd f o.dst v) x.dst vx
def StepG (P : Program) (N : Nat) (ops : Array Oper) (E : Oper → (Nat → PV) → Heap → PV → Heap → Prop) : Prop :=
  ∀ (o : Oper) (f : Nat → PV) (H : Heap) (v : PV) (H' : Heap) (C : Ctx) (a : Act) (w : World), dstOk N o = true → WRel C H w → FRel C N f a → E o f H v H' →
    (Region.wanted o (yielded ops a.tmps) = false ∧ v = .tup [] ∧ H' = H) ∨
    (Region.wanted o (yielded ops a.tmps) = true ∧ ∀ (next : Act → World → Prop) (Q : Exit → Act → World → Prop), (∀ C' u w', CLe C C' → WRel C' H' w' → Below C.B w w' → FRel C' N (upd f o.dst v) (a.put o.dst u) → next (a.put o.dst u) w') → o.wp P a w next Q)
theorem RunG.front {E : Oper → (Nat → PV) → Heap → PV → Heap → Prop} {cmp : Oper → Oper → Bool} {K : (Nat → PV) → Heap → Prop} {o : Oper} {l2 : List Oper} (hs : SwapG E cmp) : ∀ (l1 : List Oper) (f : Nat → PV) (H : Heap), RunG E (l1 ++ o :: l2) f H K → (∀ x ∈ l1, cmp x o = true) →
    ∃ v H1, E o f H v H1 ∧ RunG E (l1 ++ l2) (upd f o.dst v) H1 K
  | [], f, H, h, _ => h
  | x :: l1, f, H, h, hc => by
    obtain ⟨vx, Hx, hx, hr⟩ := h
    obtain ⟨v, H1, ho, hr2⟩ := RunG.front hs l1 _ _ hr (fun y hy => hc y (List.mem_cons_of_mem _ hy))
    obtain ⟨H3, g1, g2, g3⟩ := hs x o f H vx Hx v H1 (hc x (List.mem_cons_self ..)) hx ho
    exact ⟨v, H3, g1, vx, H1, g2, g3 ▸ hr2⟩
def drawG (cmp : Oper → Oper → Bool) (ms : List Nat) (N : Nat) (ops : List Oper) (i : Nat) : Bool := match ops[i]? with
  | none => false
  | some o => dstOk N o && (bnd o).all (fun j => Nat.blt j i) && (Nat.beq (ms.getD i 0) (maskStep ms o)) && (List.range i).all fun j => (ms.getD i 0).testBit j || (match ops[j]? with | some x => cmp x o | none => false)
def drawGs (cmp : Oper → Oper → Bool) (N : Nat) (ops : List Oper) : Bool := (List.range ops.length).all (drawG cmp (masks ops) N ops)

theorem drawG_of {cmp : Oper → Oper → Bool} {ms : List Nat} {ops : List Oper} {i : Nat} {o : Oper} (ho : ops[i]? = some o) (h : drawG cmp ms N ops i = true) :
    dstOk N o = true ∧ (∀ j ∈ bnd o, j < i) ∧ ms.getD i 0 = maskStep ms o ∧ ∀ j, j < i → (ms.getD i 0).testBit j = true ∨ ∃ x, ops[j]? = some x ∧ cmp x o = true := by
  unfold drawG at h
  simp only [ho, Bool.and_eq_true, List.all_eq_true, List.mem_range, Bool.or_eq_true] at h
  obtain ⟨⟨⟨h1, h2⟩, h3⟩, h4⟩ := h
  refine ⟨h1, fun j hj => by simpa [Nat.blt_eq] using h2 j hj, Nat.eq_of_beq_eq_true h3, fun j hj => ?_⟩
  rcases h4 j hj with h | h
  · exact .inl h
  · split at h
    · rename_i x hx; exact .inr ⟨x, hx, h⟩
    · cases h

theorem maskG_in {cmp : Oper → Oper → Bool} {ms : List Nat} {ops : List Oper} (hall : ∀ i, i < ops.length → drawG cmp ms N ops i = true) {S : Nat → Prop} (down : ∀ i o, ops[i]? = some o → S i → ∀ j ∈ bnd o, S j) :
    ∀ (i : Nat) (o : Oper), ops[i]? = some o → (∀ j ∈ bnd o, S j) → ∀ j, (ms.getD i 0).testBit j = true → S j := by
  intro i
  induction i using Nat.strongRecOn with
  | _ i ih =>
    intro o ho hp j hj
    have hi := (List.getElem?_eq_some_iff.1 ho).1
    obtain ⟨_, h2, h3, _⟩ := drawG_of ho (hall i hi)
    rw [h3, maskStep] at hj
    rcases fold_bits ms j _ _ hj with h | ⟨k, hk, h⟩
    · simp at h
    · rcases h with h | rfl
      · have hki := h2 k hk
        have hkl : k < ops.length := by omega
        exact ih k hki ops[k] (List.getElem?_eq_getElem hkl) (down k _ (List.getElem?_eq_getElem hkl) (hp k hk)) j h
      · exact hp k hk

theorem any_gen {cmp : Oper → Oper → Bool} {E : Oper → (Nat → PV) → Heap → PV → Heap → Prop} {ops : Array Oper} {Q : Exit → Act → World → Prop} {K : (Nat → PV) → Heap → Prop} (hall : ∀ i, i < ops.toList.length → drawG cmp (masks ops.toList) N ops.toList i = true)
    (hswap : SwapG E cmp) (hstep : StepG P N ops E) :
    ∀ (fuel : Nat) (listed : Array Bool) (f : Nat → PV) (H : Heap) (C : Ctx) (a : Act) (w : World), listed.size = ops.size → (∀ i o, ops[i]? = some o → listed.getD i true = true → ∀ j ∈ bnd o, listed.getD j true = true) →
      fuel = (left ops.size listed).length → RunG E ((left ops.size listed).filterMap fun i => ops[i]?) f H K → a.defers = [] → WRel C H w → FRel C N f a →
      (∀ C' f' H' a' w', CLe C C' → a'.defers = [] → WRel C' H' w' → Below C.B w w' → FRel C' N f' a' → K f' H' → Q .normal a' w') → wpAny P .any ops Q fuel listed a w := by
  have rdy : ∀ (listed : Array Bool) (i : Nat), i ∈ Region.ready .any ops listed ↔ i ∈ left ops.size listed ∧ ∃ o, ops[i]? = some o ∧ ∀ e ∈ o.after.toList, Region.binds .any e = true → listed.getD e.on false = true := by
    intro listed i
    unfold Region.ready
    rw [List.mem_filter, mem_left, List.mem_range]
    constructor
    · rintro ⟨h1, h2⟩
      simp only [Bool.and_eq_true, Bool.not_eq_true'] at h2
      refine ⟨⟨h1, h2.1⟩, ops[i], Array.getElem?_eq_getElem h1, fun e he hb => ?_⟩
      have h3 := h2.2
      rw [Array.getElem?_eq_getElem h1] at h3
      simp only [Option.map_some, Option.getD_some, Array.all_eq_true_iff_forall_mem] at h3
      have := h3 e (Array.mem_toList_iff.1 he)
      simpa [hb] using this
    · rintro ⟨⟨h1, h2⟩, o, ho, h3⟩
      refine ⟨h1, ?_⟩
      simp only [h2, Bool.not_false, Bool.true_and, ho, Option.map_some, Option.getD_some, Array.all_eq_true_iff_forall_mem]
      intro e he
      cases hb : Region.binds .any e with
      | false => rfl
      | true => simp [h3 e (Array.mem_toList_iff.2 he) hb]
  intro fuel
  induction fuel with
  | zero =>
    intro listed f H C a w hsz hdown hfu hr hd hw hf hQ
    have hnil : left ops.size listed = [] := List.eq_nil_of_length_eq_zero hfu.symm
    refine ⟨List.eq_nil_iff_forall_not_mem.2 fun i hi => ?_, ?_⟩
    · have := ((rdy listed i).1 hi).1
      rw [hnil] at this
      simp at this
    · rw [hnil] at hr
      exact hQ C f H a w (.refl _) hd hw (.refl _ _) hf hr
  | succ fuel ih =>
    intro listed f H C a w hsz hdown hfu hr hd hw hf hQ
    refine ⟨fun hnone => ?_, fun i hi => ?_⟩
    · exfalso
      obtain ⟨i, r, hl⟩ := List.exists_cons_of_length_eq_add_one hfu.symm
      have hmem : i ∈ left ops.size listed := by rw [hl]; exact List.mem_cons_self ..
      have hil := (mem_left.1 hmem).1
      have hs := left_sorted ops.size listed
      rw [hl, List.pairwise_cons] at hs
      have : i ∈ Region.ready .any ops listed := by
        refine (rdy listed i).2 ⟨hmem, ops[i], Array.getElem?_eq_getElem hil, fun e he hb => ?_⟩
        have hlt := (drawG_of (by simpa using Array.getElem?_eq_getElem hil) (hall i (by simpa using hil))).2.1 e.on (List.mem_map.2 ⟨e, List.mem_filter.2 ⟨he, hb⟩, rfl⟩)
        have hnm : e.on ∉ left ops.size listed := by
          rw [hl]
          intro hm
          rcases List.mem_cons.1 hm with h | h
          · omega
          · have := hs.1 _ h; omega
        have h1 : listed.getD e.on true = true := by
          cases hg : listed.getD e.on true with
          | true => rfl
          | false => exact absurd (mem_left.2 ⟨by omega, hg⟩) hnm
        have h2 : e.on < listed.size := by omega
        rw [Array.getD_eq_getD_getElem?, Array.getElem?_eq_getElem h2] at h1 ⊢
        exact h1
      rw [hnone] at this
      simp at this
    · obtain ⟨hmem, o, ho, hpre⟩ := (rdy listed i).1 hi
      have hil := (mem_left.1 hmem).1
      have hoL : ops.toList[i]? = some o := by simpa using ho
      obtain ⟨d1, d2, d3, d4⟩ := drawG_of hoL (hall i (by simpa using hil))
      obtain ⟨l1, l2, hl⟩ := List.append_of_mem hmem
      have hs := left_sorted ops.size listed
      rw [hl, List.pairwise_append, List.pairwise_cons] at hs
      have hsz' : i < listed.size := by omega
      have getFT : ∀ j, listed.getD j false = true → listed.getD j true = true := fun j hj => by
        rw [Array.getD_eq_getD_getElem?] at hj ⊢
        cases hg : listed[j]? with
        | none => rw [hg] at hj; simp at hj
        | some b => rw [hg] at hj; simpa using hj
      have hpre' : ∀ j ∈ bnd o, listed.getD j true = true := fun j hj => by
        obtain ⟨e, he, rfl⟩ := List.mem_map.1 hj
        obtain ⟨he1, he2⟩ := List.mem_filter.1 he
        exact getFT _ (hpre e he1 he2)
      rw [hl, List.filterMap_append, List.filterMap_cons_some ho] at hr
      have hcomp : ∀ x ∈ l1.filterMap (fun i => ops[i]?), cmp x o = true := by
        intro x hx
        obtain ⟨j, hj, hjx⟩ := List.mem_filterMap.1 hx
        have hji : j < i := hs.2.2 j hj i (List.mem_cons_self ..)
        rcases d4 j hji with h | ⟨x', hx', hc⟩
        · have hS := maskG_in (N := N) hall (S := fun j => listed.getD j true = true) (fun i o ho hS => hdown i o (by simpa using ho) hS) i o hoL hpre' j h
          have hjm : j ∈ left ops.size listed := by rw [hl]; exact List.mem_append.2 (.inl hj)
          rw [(mem_left.1 hjm).2] at hS
          cases hS
        · have : ops[j]? = some x' := by simpa using hx'
          simp only [this, Option.some.injEq] at hjx
          subst hjx
          exact hc
      obtain ⟨v, H1, hex, hrun⟩ := RunG.front hswap _ _ _ hr hcomp
      rw [← List.filterMap_append, ← left_set hsz' hl] at hrun
      have hdown' : ∀ i' o', ops[i']? = some o' → (listed.setIfInBounds i true).getD i' true = true → ∀ j ∈ bnd o', (listed.setIfInBounds i true).getD j true = true := by
        intro i' o' ho' h j hj
        rw [getD_set _ _ _ hsz'] at h ⊢
        by_cases hi' : i' = i
        · subst hi'
          rw [ho] at ho'
          injection ho' with ho'
          subst ho'
          split
          · rfl
          · exact hpre' j hj
        · rw [if_neg hi'] at h
          split
          · rfl
          · exact hdown i' o' ho' h j hj
      have hfu' : fuel = (left ops.size (listed.setIfInBounds i true)).length := by
        rw [left_set hsz' hl]
        rw [hl] at hfu
        simp at hfu ⊢
        omega
      have next : ∀ C' u w', CLe C C' → WRel C' H1 w' → Below C.B w w' → FRel C' N (upd f o.dst v) (a.put o.dst u) → wpAny P .any ops Q fuel (listed.setIfInBounds i true) (a.put o.dst u) w' := by
        intro C' u w' q1 q2 q3 q4
        refine ih _ _ _ C' _ w' (by simpa using hsz) hdown' hfu' hrun (by cases hod : o.dst <;> simp [Act.put, hd]) q2 q4 ?_
        intro C'' f'' H'' a'' w'' p1 p2 p3 p4 p5 p6
        exact hQ C'' f'' H'' a'' w'' (q1.trans p1) p2 p3 (q3.trans (by rw [← q1.B]; exact p4)) p5 p6
      unfold wpOp
      rw [ho]
      simp only
      rcases hstep o f H v H1 C a w d1 hw hf hex with ⟨h1, h2, h3⟩ | ⟨h1, h2⟩
      · rw [if_neg (by rw [h1]; simp)]
        subst h2 h3
        exact next C _ w (.refl _) hw (.refl _ _) (hf.put o.dst (dstOk_of d1) VRel.undefV)
      · rw [if_pos h1]
        left
        exact h2 _ _ next


/-! ### what an operation reads -/
def topId : PV → List Nat
  | .ptr id _ _ => [id]
  | .msl id _ _ _ _ _ => [id]
  | .mp id _ => [id]
  | _ => []
def opIds (op : Op) (f : Nat → PV) : List Nat := (op.operands.toList.map fun x => topId (ev f x)).flatten
theorem opIds_mem {op : Op} {f : Nat → PV} {x : Operand} {id : Nat} (hx : x ∈ op.operands.toList) (hi : id ∈ topId (ev f x)) : id ∈ opIds op f := List.mem_flatten.2 ⟨_, List.mem_map.2 ⟨x, hx, rfl⟩, hi⟩
/-- It looks at versions alone. -/
def liveOnly : Op → Bool
  | .nilCheck .. | .fieldAddr .. | .indexAddr .. | .slice .. | .binOp .. => true
  | .call { callee := .builtin .len, .. } => true
  | _ => false
variable {K : Heap}
def VEq (H K : Heap) (id : Nat) : Prop := (K[id]?).map Blk.ver = (H[id]?).map Blk.ver
theorem live_c {id : Nat} (h : VEq H K id) (ver : Nat) : live K id ver = live H id ver := by
  unfold VEq at h
  unfold live
  cases h1 : H[id]? <;> cases h2 : K[id]? <;> rw [h1, h2] at h <;> simp at h
  simp [h]
theorem pnil_c {x : PV} (h : ∀ id ∈ topId x, VEq H K id) : pnil K x = pnil H x := by
  cases x <;> simp only [pnil]
  rename_i id ver off
  rw [live_c (h id (by simp [topId]))]
theorem pbin_c {op : BinOp} {t : TypeId} {x y : PV} (hx : ∀ id ∈ topId x, VEq H K id) (hy : ∀ id ∈ topId y, VEq H K id) : pbin P K op t x y = pbin P H op t x y := by
  unfold pbin
  split <;> try rfl
  · rename_i id ver off; rw [live_c (hx id (by simp [topId]))]
  · rename_i id ver off; rw [live_c (hy id (by simp [topId]))]
theorem pnilcmp_c {op : BinOp} {t : TypeId} {x : PV} (hx : ∀ id ∈ topId x, VEq H K id) : pnilcmp P K op t x = pnilcmp P H op t x := by
  unfold pnilcmp
  split <;> try rfl
  split <;> try rfl
  rename_i id ver off n sz g
  rw [live_c (hx id (by simp [topId]))]
theorem pslice_c {t : TypeId} {x : PV} {lo hi mx : Option PV} (hx : ∀ id ∈ topId x, VEq H K id) : pslice P K t x lo hi mx = pslice P H t x lo hi mx := by
  unfold pslice
  split <;> try rfl
  · rename_i e id ver off len sz g hu; rw [live_c (hx id (by simp [topId]))]
  · rename_i len e id ver off hu; rw [live_c (hx id (by simp [topId]))]
theorem pfieldAddr_c {s : TypeId} {x : PV} {f : Nat} (hx : ∀ id ∈ topId x, VEq H K id) : pfieldAddr P K s x f = pfieldAddr P H s x f := by
  cases x <;> simp only [pfieldAddr]
  rename_i id ver off
  simp only [live_c (hx id (by simp [topId]))]
theorem pindexAddr_c {t : TypeId} {x i : PV} (hx : ∀ id ∈ topId x, VEq H K id) : pindexAddr P K t x i = pindexAddr P H t x i := by
  unfold pindexAddr
  split <;> try rfl
  · rename_i e id ver off len sz g k i hu; rw [live_c (hx id (by simp [topId]))]
  · rename_i len e id ver off k i hu; rw [live_c (hx id (by simp [topId]))]
theorem plen_c {t : TypeId} {x : PV} (hx : ∀ id ∈ topId x, VEq H K id) : plen P K t x = plen P H t x := by
  unfold plen
  split <;> try rfl
  rename_i e id ver off n sz g hu
  rw [live_c (hx id (by simp [topId]))]
theorem scells_c {sz : Nat} {x : PV} (hx : ∀ id ∈ topId x, K[id]? = H[id]?) : scells K sz x = scells H sz x := by
  cases x <;> simp only [scells]
  rename_i id ver off len s g
  rw [hx id (by simp [topId])]
theorem pload_c {t : TypeId} {x : PV} (hx : ∀ id ∈ topId x, K[id]? = H[id]?) : pload P K t x = pload P H t x := by
  cases x <;> simp only [pload]
  rename_i id ver off
  rw [hx id (by simp [topId])]
theorem pconv_c {s d : TypeId} {x : PV} (hx : ∀ id ∈ topId x, K[id]? = H[id]?) : pconv P K s d x = pconv P H s d x := by
  unfold pconv
  split <;> try rfl
  rw [scells_c hx]
theorem plook_c {t : TypeId} {m k : PV} {ok : Bool} (hx : ∀ id ∈ topId m, K[id]? = H[id]?) : plook P K t m k ok = plook P H t m k ok := by
  have : pmapOf P K t m = pmapOf P H t m := by
    unfold pmapOf
    split <;> try rfl
    rename_i kt e id ver hu
    rw [hx id (by simp [topId])]
  unfold plook
  rw [this]
theorem mapc {x : Option PV} {v : PV} {H' : Heap} (h : (x.map fun v => (v, H)) = some (v, H')) : (x.map fun v => (v, K)) = some (v, K) := by
  simp only [Option.map_eq_some_iff, Prod.mk.injEq] at h ⊢
  obtain ⟨u, h1, h2, _⟩ := h
  exact ⟨u, h1, h2, trivial⟩
theorem pop_live {f : Nat → PV} {op : Op} {v : PV} {H' : Heap} (h : liveOnly op = true) (hi : ∀ id ∈ opIds op f, VEq H K id) (hp : pop P op f H = some (v, H')) : pop P op f K = some (v, K) := by
  have ids : ∀ x ∈ op.operands.toList, ∀ id ∈ topId (ev f x), VEq H K id := fun x hx id hid => hi id (opIds_mem hx hid)
  cases op <;> try (simp [liveOnly] at h; done)
  case nilCheck x => simp only [pop] at hp ⊢; rw [pnil_c (ids x (by simp [Op.operands]))]; exact mapc hp
  case fieldAddr s x k => simp only [pop] at hp ⊢; rw [pfieldAddr_c (ids x (by simp [Op.operands]))]; exact mapc hp
  case indexAddr t x i => simp only [pop] at hp ⊢; rw [pindexAddr_c (ids x (by simp [Op.operands]))]; exact mapc hp
  case slice t x lo hi mx => simp only [pop] at hp ⊢; rw [pslice_c (ids x (by simp [Op.operands]))]; exact mapc hp
  case binOp op t x y z =>
    simp only [pop] at hp ⊢
    split at hp
    · rw [pnilcmp_c (ids x (by simp [Op.operands]))]; exact mapc hp
    split at hp
    · exact mapc hp
    · rw [pbin_c (ids x (by simp [Op.operands])) (ids y (by simp [Op.operands]))]; exact mapc hp
  case call c =>
    obtain ⟨callee, args, ts⟩ := c
    cases callee with
    | builtin b =>
      cases b <;> try (simp [liveOnly] at h; done)
      have key : ∀ (tl : List TypeId) (al : List PV), (∀ x ∈ al, ∀ id ∈ topId x, VEq H K id) → pbuiltin P H .len tl al = some (v, H') → pbuiltin P K .len tl al = some (v, K) := fun tl al hal hq => by
        match tl, al, hq with
        | [t], [x], hq =>
          simp only [pbuiltin] at hq ⊢
          rw [plen_c (hal x (by simp))]; exact mapc hq
        | [], _, hq => simp [pbuiltin] at hq
        | _ :: _ :: _, _, hq => simp [pbuiltin] at hq
        | [_], [], hq => simp [pbuiltin] at hq
        | [_], _ :: _ :: _, hq => simp [pbuiltin] at hq
      simp only [pop] at hp ⊢
      refine key _ _ (fun x hx id hid => ?_) hp
      obtain ⟨y, hy, rfl⟩ := List.mem_map.1 hx
      exact ids y (by simp [Op.operands, Call.operands]; exact Array.mem_toList_iff.1 hy) id hid
    | _ => simp [liveOnly] at h
theorem pop_read {f : Nat → PV} {op : Op} {v : PV} {H' : Heap} (h : eff op = false) (hi : ∀ id ∈ opIds op f, K[id]? = H[id]?) (hp : pop P op f H = some (v, H')) : pop P op f K = some (v, K) := by
  have ids : ∀ x ∈ op.operands.toList, ∀ id ∈ topId (ev f x), K[id]? = H[id]? := fun x hx id hid => hi id (opIds_mem hx hid)
  cases hl : liveOnly op with
  | true => exact pop_live hl (fun id hid => by unfold VEq; rw [hi id hid]) hp
  | false =>
  cases hpu : pureOp op with
  | true => exact (pop_pure hpu hp K).2
  | false =>
  cases op <;> try (simp [eff] at h; done)
  all_goals try (simp [liveOnly] at hl; done)
  all_goals try (simp [pureOp] at hpu; done)
  case load t x => simp only [pop] at hp ⊢; rw [pload_c (ids x (by simp [Op.operands]))]; exact mapc hp
  case convert s d x => simp only [pop] at hp ⊢; rw [pconv_c (ids x (by simp [Op.operands]))]; exact mapc hp
  case lookup t m k ok => simp only [pop] at hp ⊢; rw [plook_c (ids m (by simp [Op.operands]))]; exact mapc hp
  case makeFunc fn x y => cases fn <;> simp only [pop, Option.some.injEq, Prod.mk.injEq] at hp ⊢ <;> first | exact ⟨hp.1, trivial⟩ | cases hp
  case call c =>
    obtain ⟨callee, args, ts⟩ := c
    cases callee with
    | builtin b =>
      simp only [eff] at h
      simp only [pop] at hp ⊢
      unfold pbuiltin at hp ⊢
      split at hp
      · simp [liveOnly] at hl
      · simp [effB] at h
      · simp [effB] at h
      · exact mapc hp
      · exact mapc hp
      · cases hp
    | _ => simp only [pop] at hp; cases hp
  all_goals (simp only [pop] at hp; cases hp)

/-! ### written blocks, reserved places -/
structure Ag (ws rs : List Nat) (H K : Heap) : Prop where
  len : K.length = H.length
  all : ∀ i, i ∉ ws → K[i]? = H[i]?
  ver : ∀ i, i ∉ rs → VEq H K i
theorem Ag.refl (ws rs : List Nat) (H : Heap) : Ag ws rs H H := ⟨rfl, fun _ _ => rfl, fun _ _ => rfl⟩
theorem Ag.symm {ws rs : List Nat} {H K : Heap} (h : Ag ws rs H K) : Ag ws rs K H := ⟨h.len.symm, fun i hi => (h.all i hi).symm, fun i hi => (h.ver i hi).symm⟩
theorem Ag.trans {ws rs : List Nat} {H K L : Heap} (h : Ag ws rs H K) (k : Ag ws rs K L) : Ag ws rs H L := ⟨k.len.trans h.len, fun i hi => (k.all i hi).trans (h.all i hi), fun i hi => Eq.trans (k.ver i hi) (h.ver i hi)⟩
theorem Ag.set {ws rs : List Nat} {H : Heap} {id : Nat} {k b : Blk} (hk : H[id]? = some k) (hw : id ∈ ws) (hv : b.ver = k.ver ∨ id ∈ rs) : Ag ws rs H (H.set id b) := by
  have hid : id < H.length := (List.getElem?_eq_some_iff.1 hk).1
  refine ⟨by simp, fun i hi => ?_, fun i hi => ?_⟩
  · rw [List.getElem?_set_ne (show id ≠ i from fun e => hi (by rw [← e]; exact hw))]
  · unfold VEq
    by_cases e : id = i
    · subst e
      rcases hv with hv | hv
      · rw [List.getElem?_set_self hid, hk]; simp [hv]
      · exact absurd hv hi
    · rw [List.getElem?_set_ne e]

def rsv (rs : List (Nat × Nat)) (d : Option Nat) : Option Nat := match d with
  | none => none
  | some d => match rs with
    | [] => none
    | (t, r) :: l => match Nat.beq t d with | true => some r | false => rsv l (some d)
/-- A new block in a reserved place. -/
def palloc (P : Program) (elem : TypeId) (r : Nat) (H : Heap) : Option (PV × Heap) := match zcells P elem, H[r]? with
  | some z, some k => if k.e = elem ∧ k.ver = 0 then some (.ptr r 1 0, H.set r ⟨elem, 1, z⟩) else none
  | _, _ => none
def resv (rs : List (Nat × Nat)) (o : Oper) : Option (TypeId × Nat) := match o.op with
  | .alloc elem => match rsv rs o.dst with | some r => some (elem, r) | none => none
  | _ => none
def popH (P : Program) (rs : List (Nat × Nat)) (o : Oper) (f : Nat → PV) (H : Heap) : Option (PV × Heap) := match resv rs o with
  | some (elem, r) => palloc P elem r H
  | none => pop P o.op f H
def isStore : Op → Bool
  | .store .. => true
  | _ => false
def stId (op : Op) (f : Nat → PV) : Option Nat := match op with
  | .store _ x _ => match ev f x with
    | .ptr id _ _ => some id
    | _ => none
  | _ => none
def notIn (ids ws : List Nat) : Bool := ids.all fun i => !(ws.elem i)
/-- Reads and writes are apart. -/
def chkH (ws : List Nat) (rs : List (Nat × Nat)) (o : Oper) (f : Nat → PV) : Bool := match resv rs o with
  | some (_, r) => ws.elem r && (rs.map (·.2)).elem r
  | none => match isStore o.op with
    | true => match stId o.op f with | some id => ws.elem id | none => false
    | false => match pureOp o.op || eff o.op with
      | true => true
      | false => match liveOnly o.op with
        | true => notIn (opIds o.op f) (rs.map (·.2))
        | false => notIn (opIds o.op f) ws
def ExH (P : Program) (all : List Oper) (ws : List Nat) (rs : List (Nat × Nat)) (o : Oper) (f : Nat → PV) (H : Heap) (v : PV) (H' : Heap) : Prop :=
  (want all f o = some false ∧ v = .tup [] ∧ H' = H) ∨
  (want all f o = some true ∧ match pcallee o.op f with
    | some (fn, args) => H' = H ∧ ∀ K, Ag ws (rs.map (·.2)) H K → CallOk P fn args K v K
    | none => popH P rs o f H = some (v, H') ∧ chkH ws rs o f = true)
def isWr (rs : List (Nat × Nat)) (o : Oper) : Bool := isStore o.op || (resv rs o).isSome
def isRd (rs : List (Nat × Nat)) (o : Oper) : Bool := !eff o.op && !(resv rs o).isSome
def twoR (rs : List (Nat × Nat)) (x y : Oper) : Bool := match resv rs x, resv rs y with
  | some _, some _ => !(x.dst == y.dst)
  | _, _ => false
theorem rsv_mem : ∀ {rs : List (Nat × Nat)} {d r : Nat}, rsv rs (some d) = some r → r ∈ rs.map (·.2)
  | (t, q) :: l, d, r, h => by
    simp only [rsv] at h
    split at h
    · injection h with h; subst h; simp
    · exact List.mem_cons_of_mem _ (rsv_mem h)
theorem rsv_inj : ∀ {rs : List (Nat × Nat)} {d e r q : Nat}, (rs.map (·.2)).Nodup → rsv rs (some d) = some r → rsv rs (some e) = some q → d ≠ e → r ≠ q
  | (t, p) :: l, d, e, r, q, hn, h1, h2, hne => by
    simp only [List.map_cons, List.nodup_cons] at hn
    simp only [rsv] at h1 h2
    split at h1
    · rename_i b1
      injection h1 with h1
      subst h1
      split at h2
      · rename_i b2
        exact absurd ((Nat.eq_of_beq_eq_true b1).symm.trans (Nat.eq_of_beq_eq_true b2)) hne
      · intro e1; subst e1; exact hn.1 (rsv_mem h2)
    · split at h2
      · injection h2 with h2
        subst h2
        intro e1; subst e1; exact hn.1 (rsv_mem h1)
      · exact rsv_inj hn.2 h1 h2 hne
theorem resv_dst {rs : List (Nat × Nat)} {o : Oper} {el : TypeId} {r : Nat} (h : resv rs o = some (el, r)) : ∃ d, o.dst = some d ∧ rsv rs (some d) = some r := by
  unfold resv at h
  split at h
  · split at h
    · rename_i q hq
      simp only [Option.some.injEq, Prod.mk.injEq] at h
      obtain ⟨_, rfl⟩ := h
      cases hd : o.dst with
      | none => rw [hd] at hq; simp [rsv] at hq
      | some d => rw [hd] at hq; exact ⟨d, rfl, hq⟩
    · cases h
  · cases h
def compatH (ds : List (Option Nat)) (rs : List (Nat × Nat)) (x y : Oper) : Bool := clear ds x y && clear ds y x && ((isRd rs x && isRd rs y) || (isRd rs x && isWr rs y) || (isWr rs x && isRd rs y) || pureOp x.op || pureOp y.op || twoR rs x y)

theorem resv_callee {rs : List (Nat × Nat)} {o : Oper} {f : Nat → PV} {er : TypeId × Nat} (h : resv rs o = some er) : pcallee o.op f = none := by
  unfold resv at h
  split at h
  · rename_i elem ho; rw [ho]; rfl
  · cases h
theorem store_callee {op : Op} {f : Nat → PV} (h : isStore op = true) : pcallee op f = none := by
  cases op <;> first | (simp [isStore] at h; done) | rfl
theorem popH_congr {rs : List (Nat × Nat)} {o : Oper} {f g : Nat → PV} (h : ∀ x ∈ o.op.operands.toList, ev f x = ev g x) : popH P rs o f H = popH P rs o g H := by
  unfold popH
  split
  · rfl
  · exact pop_congr h
theorem chkH_congr {ws : List Nat} {rs : List (Nat × Nat)} {o : Oper} {f g : Nat → PV} (h : ∀ x ∈ o.op.operands.toList, ev f x = ev g x) : chkH ws rs o f = chkH ws rs o g := by
  have e1 : opIds o.op f = opIds o.op g := by
    unfold opIds
    congr 1
    exact List.map_congr_left fun x hx => by rw [h x hx]
  have e2 : stId o.op f = stId o.op g := by
    unfold stId
    split
    · rename_i t x y ho
      rw [ho] at h
      rw [h x (by simp [Op.operands])]
    · rfl
  unfold chkH
  rw [e1, e2]
theorem ExH.congr {all : List Oper} {ws : List Nat} {rs : List (Nat × Nat)} {o : Oper} {f g : Nat → PV} {v : PV} {H' : Heap} (h : ∀ t ∈ reads (all.map (·.dst)) o, f t = g t) (he : ExH P all ws rs o f H v H') : ExH P all ws rs o g H v H' := by
  have e1 : want all f o = want all g o := want_congr fun t ht => h t (List.mem_append.2 (.inr ht))
  have e2 : ∀ x ∈ o.op.operands.toList, ev f x = ev g x := fun x hx => ev_congr fun t ht => h t (List.mem_append.2 (.inl (mem_tmps (ht ▸ hx))))
  unfold ExH at he ⊢
  rw [← e1, ← pcallee_congr e2, ← popH_congr e2, ← chkH_congr e2]
  exact he
theorem notIn_of {ids ws : List Nat} (h : notIn ids ws = true) : ∀ i ∈ ids, i ∉ ws := fun i hi hw => by
  have := List.all_eq_true.1 h i hi
  rw [List.elem_eq_mem] at this
  simp [hw] at this
/-- What reads or calls gives the same in a heap that agrees. -/
theorem ExH.move {all : List Oper} {ws : List Nat} {rs : List (Nat × Nat)} {o : Oper} {f : Nat → PV} {v : PV} {H' K : Heap} (hr : isRd rs o = true ∨ pureOp o.op = true) (he : ExH P all ws rs o f H v H') : H' = H ∧ (Ag ws (rs.map (·.2)) H K → ExH P all ws rs o f K v K) := by
  have hres : resv rs o = none := by
    rcases hr with hr | hr
    · simp only [isRd, Bool.and_eq_true, Bool.not_eq_true'] at hr
      cases h : resv rs o with
      | none => rfl
      | some r => rw [h] at hr; simp at hr
    · unfold resv
      split
      · rename_i elem ho; rw [ho] at hr; simp [pureOp] at hr
      · rfl
  rcases he with ⟨h1, h2, h3⟩ | ⟨h1, h2⟩
  · exact ⟨h3, fun _ => .inl ⟨h1, h2, rfl⟩⟩
  · split at h2
    · rename_i fn args hc
      exact ⟨h2.1, fun ha => .inr ⟨h1, by rw [hc]; exact ⟨rfl, fun L hL => h2.2 L (ha.trans hL)⟩⟩⟩
    · rename_i hc
      obtain ⟨hp, hk⟩ := h2
      have hpp : pop P o.op f H = some (v, H') := by unfold popH at hp; rw [hres] at hp; exact hp
      have heff : eff o.op = false ∨ pureOp o.op = true := by
        rcases hr with hr | hr
        · simp only [isRd, Bool.and_eq_true, Bool.not_eq_true'] at hr; exact .inl hr.1
        · exact .inr hr
      have hH : H' = H := by
        rcases heff with h | h
        · exact pop_noeff h hpp
        · exact (pop_pure h hpp H).1
      refine ⟨hH, fun ha => .inr ⟨h1, ?_⟩⟩
      rw [hc]
      refine ⟨?_, hk⟩
      unfold popH
      rw [hres]
      cases hpu : pureOp o.op with
      | true => exact (pop_pure hpu hpp K).2
      | false =>
        have he' : eff o.op = false := by rcases heff with h | h <;> simp_all
        have hst : isStore o.op = false := by
          cases hs : isStore o.op with
          | false => rfl
          | true => cases ho : o.op <;> rw [ho] at hs he' <;> simp [isStore, eff] at hs he'
        unfold chkH at hk
        rw [hres, hst, hpu, he'] at hk
        simp only [Bool.or_self] at hk
        cases hl : liveOnly o.op with
        | true =>
          rw [hl] at hk
          exact pop_live hl (fun id hid => ha.ver id (notIn_of hk id hid)) hpp
        | false =>
          rw [hl] at hk
          exact pop_read he' (fun id hid => ha.all id (notIn_of hk id hid)) hpp

/-- What is written lies within the written blocks. -/
theorem ExH.write {all : List Oper} {ws : List Nat} {rs : List (Nat × Nat)} {o : Oper} {f : Nat → PV} {v : PV} {H' : Heap} (hr : isWr rs o = true) (he : ExH P all ws rs o f H v H') : Ag ws (rs.map (·.2)) H H' := by
  rcases he with ⟨_, _, h3⟩ | ⟨_, h2⟩
  · rw [h3]; exact .refl _ _ _
  · have hc : pcallee o.op f = none := by
      simp only [isWr, Bool.or_eq_true] at hr
      rcases hr with hr | hr
      · exact store_callee hr
      · obtain ⟨er, her⟩ := Option.isSome_iff_exists.1 hr
        exact resv_callee her
    rw [hc] at h2
    obtain ⟨hp, hk⟩ := h2
    unfold popH at hp
    unfold chkH at hk
    cases hres : resv rs o with
    | some er =>
      obtain ⟨elem, r⟩ := er
      rw [hres] at hp hk
      simp only [Bool.and_eq_true] at hk
      simp only [palloc] at hp
      split at hp
      · rename_i z k hz hkk
        split at hp
        · rename_i hq
          simp only [Option.some.injEq, Prod.mk.injEq] at hp
          rw [← hp.2]
          exact .set hkk (by have := hk.1; rw [List.elem_eq_mem] at this; simpa using this) (.inr (by have := hk.2; rw [List.elem_eq_mem] at this; simpa using this))
        · cases hp
      · cases hp
    | none =>
      rw [hres] at hp hk
      have hs : isStore o.op = true := by
        simp only [isWr, hres, Bool.or_eq_true] at hr
        rcases hr with hr | hr
        · exact hr
        · simp at hr
      rw [hs] at hk
      simp only at hk hp
      cases ho : o.op <;> rw [ho] at hs hk hp <;> try (simp [isStore] at hs; done)
      rename_i t x y
      simp only [stId] at hk
      simp only [pop, Option.map_eq_some_iff, Prod.mk.injEq] at hp
      obtain ⟨H2, h1, _, rfl⟩ := hp
      unfold pstore at h1
      split at h1
      · rename_i id ver off hx
        rw [hx] at hk
        simp only at hk
        split at h1
        · rename_i k hkk
          split at h1
          · simp only [Option.map_eq_some_iff] at h1
            obtain ⟨c, _, rfl⟩ := h1
            exact .set hkk (by rw [List.elem_eq_mem] at hk; simpa using hk) (.inl rfl)
          · cases h1
        · cases h1
      · cases h1
theorem ExH.pureAny {all : List Oper} {ws : List Nat} {rs : List (Nat × Nat)} {o : Oper} {f : Nat → PV} {v : PV} {H' : Heap} (hr : pureOp o.op = true) (he : ExH P all ws rs o f H v H') (K : Heap) : H' = H ∧ ExH P all ws rs o f K v K := by
  have hres : resv rs o = none := by
    unfold resv
    split
    · rename_i elem ho; rw [ho] at hr; simp [pureOp] at hr
    · rfl
  rcases he with ⟨h1, h2, h3⟩ | ⟨h1, h2⟩
  · exact ⟨h3, .inl ⟨h1, h2, rfl⟩⟩
  · have hc : pcallee o.op f = none := by
      unfold pcallee
      split
      · rename_i ho; rw [ho] at hr; simp [pureOp] at hr
      · rfl
    rw [hc] at h2
    obtain ⟨hp, hk⟩ := h2
    unfold popH at hp
    rw [hres] at hp
    obtain ⟨q1, q2⟩ := pop_pure hr hp K
    exact ⟨q1, .inr ⟨h1, by rw [hc]; exact ⟨by unfold popH; rw [hres]; exact q2, hk⟩⟩⟩
theorem swapH {all : List Oper} {ws : List Nat} {rs : List (Nat × Nat)} (hnd : (rs.map (·.2)).Nodup) : SwapG (ExH P all ws rs) (compatH (all.map (·.dst)) rs) := by
  intro x o f H vx Hx v H1 hc hx ho
  unfold compatH at hc
  simp only [Bool.and_eq_true, Bool.or_eq_true] at hc
  obtain ⟨⟨c1, c2⟩, c3⟩ := hc
  have ho' : ExH P all ws rs o f Hx v H1 := ho.congr fun t ht => upd_other (clear_reads c1 t ht)
  have hx' : ∀ K K', ExH P all ws rs x f K vx K' → ExH P all ws rs x (upd f o.dst v) K vx K' := fun K K' h => h.congr fun t ht => (upd_other (clear_reads c2 t ht)).symm
  have hcm := upd_comm (f := f) (u := vx) (v := v) (clear_dst c1)
  rcases c3 with ((((⟨e1, e2⟩ | ⟨e1, e2⟩) | ⟨e1, e2⟩) | e1) | e1) | e1
  · obtain ⟨rfl, _⟩ := hx.move (K := H) (.inl e1)
    obtain ⟨rfl, _⟩ := ho'.move (K := H1) (.inl e2)
    exact ⟨_, ho', hx' _ _ hx, hcm⟩
  · obtain ⟨rfl, hm⟩ := hx.move (K := H1) (.inl e1)
    have ha := ho'.write e2
    exact ⟨H1, ho', hx' _ _ (hm ha), hcm⟩
  · have ha := hx.write e1
    obtain ⟨rfl, hm⟩ := ho'.move (K := H) (.inl e2)
    exact ⟨H, hm ha.symm, hx' _ _ hx, hcm⟩
  · obtain ⟨rfl, hp⟩ := hx.pureAny e1 H1
    exact ⟨H1, ho', hx' _ _ hp, hcm⟩
  · obtain ⟨rfl, hp⟩ := ho'.pureAny e1 H
    exact ⟨H, hp, hx' _ _ hx, hcm⟩
  · unfold twoR at e1
    split at e1
    · rename_i er1 er2 hra hrb
      obtain ⟨ea, ra⟩ := er1
      obtain ⟨eb, rb⟩ := er2
      have hne : ra ≠ rb := by
        obtain ⟨d, hd, h1⟩ := resv_dst hra
        obtain ⟨d2, hd2, h2⟩ := resv_dst hrb
        refine rsv_inj hnd h1 h2 (fun e => ?_)
        rw [hd, hd2, e] at e1
        simp at e1
      have cx := resv_callee (f := f) hra
      have co := resv_callee (f := f) hrb
      rcases hx with ⟨x1, x2, x3⟩ | ⟨x1, x2⟩
      · subst x3
        exact ⟨H1, ho', hx' _ _ (.inl ⟨x1, x2, rfl⟩), hcm⟩
      · rw [cx] at x2
        obtain ⟨xp, xk⟩ := x2
        rcases ho' with ⟨o1, o2, o3⟩ | ⟨o1, o2⟩
        · subst o3
          exact ⟨H, .inl ⟨o1, o2, rfl⟩, hx' _ _ (.inr ⟨x1, by rw [cx]; exact ⟨xp, xk⟩⟩), hcm⟩
        · rw [co] at o2
          obtain ⟨op, ok⟩ := o2
          unfold popH at xp op
          rw [hra] at xp
          rw [hrb] at op
          simp only [palloc] at xp op
          split at xp
          · rename_i z k hz hkk
            split at xp
            · rename_i hq
              simp only [Option.some.injEq, Prod.mk.injEq] at xp
              obtain ⟨rfl, rfl⟩ := xp
              split at op
              · rename_i z2 k2 hz2 hkk2
                split at op
                · rename_i hq2
                  simp only [Option.some.injEq, Prod.mk.injEq] at op
                  obtain ⟨rfl, rfl⟩ := op
                  rw [List.getElem?_set_ne hne] at hkk2
                  refine ⟨H.set rb ⟨eb, 1, z2⟩, .inr ⟨o1, ?_⟩, hx' _ _ (.inr ⟨x1, ?_⟩), hcm⟩
                  · rw [co]; exact ⟨by unfold popH; rw [hrb]; simp only [palloc, hz2, hkk2]; rw [if_pos hq2], ok⟩
                  · rw [cx]
                    refine ⟨?_, xk⟩
                    unfold popH
                    rw [hra]
                    have : (H.set rb ⟨eb, 1, z2⟩)[ra]? = some k := by rw [List.getElem?_set_ne (fun e => hne e.symm)]; exact hkk
                    simp only [palloc, hz, this]
                    rw [if_pos hq, List.set_comm _ _ (fun e => hne e.symm)]
                · cases op
              · cases op
            · cases xp
          · cases xp
    · cases e1

theorem stepH {ops : Array Oper} {ws : List Nat} {rs : List (Nat × Nat)} : StepG P N ops (ExH P ops.toList ws rs) := by
  intro o f H v H' C a w hd hw hf he
  rcases he with ⟨h1, h2, h3⟩ | ⟨h1, h2⟩
  · have hwant := want_sound hf h1
    rw [Array.toArray_toList] at hwant
    exact .inl ⟨hwant, h2, h3⟩
  · have hwant := want_sound hf h1
    rw [Array.toArray_toList] at hwant
    refine .inr ⟨hwant, fun next Q hn => ?_⟩
    split at h2
    · rename_i fn args hc
      obtain ⟨rfl, h2⟩ := h2
      have : Exec P o f H' v H' := by unfold Exec; rw [hc]; exact h2 H' (.refl _ _ _)
      exact exec_sound hd hw hf this _ _ hn
    · rename_i hc
      obtain ⟨hp, hk⟩ := h2
      unfold popH at hp
      cases hres : resv rs o with
      | none =>
        rw [hres] at hp
        have : Exec P o f H v H' := by unfold Exec; rw [hc]; exact hp
        exact exec_sound hd hw hf this _ _ hn
      | some er =>
        obtain ⟨elem, r⟩ := er
        rw [hres] at hp
        have ho : o.op = .alloc elem := by
          unfold resv at hres
          split at hres
          · rename_i e ho
            split at hres
            · simp only [Option.some.injEq, Prod.mk.injEq] at hres; rw [ho, hres.1]
            · cases hres
          · cases hres
        simp only [palloc] at hp
        split at hp
        · rename_i z k hz hkk
          split at hp
          · rename_i hq
            simp only [Option.some.injEq, Prod.mk.injEq] at hp
            obtain ⟨rfl, rfl⟩ := hp
            obtain ⟨i, zv, hi, hzv, hzr, hzl, hzc⟩ := zcells_of hz
            have hid : r < H.length := (List.getElem?_eq_some_iff.1 hkk).1
            obtain ⟨c1, c2, c3⟩ := hw.move hkk 1 (by omega) z zv.cells hzc (by rw [← hzl]; simp) (fun j x u hx hu => hzr C j x u hx (by simpa using hu))
            rw [hq.1] at c2 c3
            have hrun : (execOp a.eval o).run P w = .ok (.value (.pointer (some ⟨w.heap.size, 0, none⟩))) (w.alloc (.cells zv.cells elem)) := by
              simp [execOp, ho, Instr.alloc, newVar, newRow, zeroValue, typeInfo, hi, hzv]
            unfold Oper.wp
            rw [hrun, Oper.upon_value]
            have hl1 : r < C.mu.length := by rw [hw.len]; exact hid
            have hl2 : r < C.vs.length := by rw [hw.lenv]; exact hid
            exact hn _ _ _ c1 c2 c3 ((hf.mono c1).put _ (dstOk_of hd) (.ptr (by simp [hl1]) (by simp [hl2])))
          · cases hp
        · cases hp

/-! ### the evaluation of such a region -/
def stpH (P : Program) (ws : List Nat) (rs : List (Nat × Nat)) (ds : List (Option Nat)) (o : Oper) (F : Fr) (H : Heap) : Option (Fr × Heap) :=
  match asked ds F o with
  | none => none
  | some b => cond b (match chkH ws rs o (slot F) with
    | true => (match popH P rs o (slot F) H with | some (v, H') => some (put F o.dst v, H') | none => none)
    | false => none) (some (put F o.dst (.tup []), H))
def VCk (P : Program) (ws : List Nat) (rs : List (Nat × Nat)) (o : Oper) (F : Fr) (H : Heap) (K : Fr → Heap → Prop) : Prop :=
  match pcallee o.op (slot F) with
  | some (g, args) => ∃ v, (∀ L, Ag ws (rs.map (·.2)) H L → CallOk P g args L v L) ∧ K (put F o.dst v) H
  | none => False
def VCh (P : Program) (ws : List Nat) (rs : List (Nat × Nat)) (ds : List (Option Nat)) (o : Oper) (F : Fr) (H : Heap) (K : Fr → Heap → Prop) : Prop :=
  match asked ds F o with
  | none => False
  | some b => (b = true → VCk P ws rs o F H K) ∧ (b = false → K (put F o.dst (.tup [])) H)
def VOh (P : Program) (ws : List Nat) (rs : List (Nat × Nat)) (ds : List (Option Nat)) : List Oper → Option (Fr × Heap) → (Fr → Heap → Prop) → Prop
  | _, none, _ => False
  | [], some (F, H), K => K F H
  | o :: r, some (F, H), K => match isCall o.op with
    | false => VOh P ws rs ds r (stpH P ws rs ds o F H) K
    | true => VCh P ws rs ds o F H fun F' H' => VOh P ws rs ds r (some (F', H')) K
def VRh (P : Program) (ws : List Nat) (rs : List (Nat × Nat)) (ds : List (Option Nat)) (r : List Oper) (K : Fr → Heap → Prop) (F : Fr) (H : Heap) : Prop := VOh P ws rs ds r (some (F, H)) K
theorem VOh_nil (ws : List Nat) (rs : List (Nat × Nat)) (ds : List (Option Nat)) (K : Fr → Heap → Prop) (F : Fr) (H : Heap) : VOh P ws rs ds [] (some (F, H)) K = K F H := rfl
theorem VOh_none (ws : List Nat) (rs : List (Nat × Nat)) (ds : List (Option Nat)) (l : List Oper) (K : Fr → Heap → Prop) : VOh P ws rs ds l none K = False := by cases l <;> rfl
theorem VOh_step (ws : List Nat) (rs : List (Nat × Nat)) (ds : List (Option Nat)) (o : Oper) (r : List Oper) (K : Fr → Heap → Prop) (F : Fr) (H : Heap) :
    VOh P ws rs ds (o :: r) (some (F, H)) K = match isCall o.op with | false => VOh P ws rs ds r (stpH P ws rs ds o F H) K | true => VCh P ws rs ds o F H (VRh P ws rs ds r K) := by
  cases h : isCall o.op with
  | false => simp only [VOh, h]
  | true => simp only [VOh, h]; rfl
theorem VOh_cond {ws : List Nat} {rs : List (Nat × Nat)} {ds : List (Option Nat)} {l : List Oper} {K : Fr → Heap → Prop} {x : Bool} {A B : Option (Fr × Heap)} (h1 : x = true → VOh P ws rs ds l A K) (h2 : x = false → VOh P ws rs ds l B K) : VOh P ws rs ds l (cond x A B) K := by
  cases x with
  | true => exact h1 rfl
  | false => exact h2 rfl
theorem VCk.call {ws : List Nat} {rs : List (Nat × Nat)} {o : Oper} {K : Fr → Heap → Prop} {g : FuncId} {args : List PV} {v : PV} (h : ∀ L, Ag ws (rs.map (·.2)) H L → CallOk P g args L v L) (hc : pcallee o.op (slot F) = some (g, args)) (hk : K (put F o.dst v) H) : VCk P ws rs o F H K := by
  unfold VCk
  simp only [hc]
  exact ⟨v, h, hk⟩
theorem VOh_run {all : List Oper} {ws : List Nat} {rs : List (Nat × Nat)} {K : Fr → Heap → Prop} : ∀ (l : List Oper) (F : Fr) (H : Heap), VOh P ws rs (all.map (·.dst)) l (some (F, H)) K → RunG (ExH P all ws rs) l (slot F) H (fun f H' => ∃ F', f = slot F' ∧ K F' H')
  | [], F, H, h => ⟨F, rfl, h⟩
  | o :: r, F, H, h => by
    have hcl : isCall o.op = false → pcallee o.op (slot F) = none := fun hc => by
      unfold pcallee
      split
      · rename_i f args ts ho; rw [ho] at hc; simp [isCall] at hc
      · rfl
    rw [VOh_step] at h
    have go : ∀ v H', ExH P all ws rs o (slot F) H v H' → VOh P ws rs (all.map (·.dst)) r (some (put F o.dst v, H')) K → RunG (ExH P all ws rs) (o :: r) (slot F) H (fun f H' => ∃ F', f = slot F' ∧ K F' H') := fun v H' he hr => by
      refine ⟨v, H', he, ?_⟩
      rw [← get_put]
      exact VOh_run r _ _ hr
    cases hc : isCall o.op with
    | false =>
      simp only [hc] at h
      unfold stpH at h
      split at h
      · rw [VOh_none] at h; exact h.elim
      · rename_i b hb
        cases b with
        | false => exact go _ _ (.inl ⟨asked_want all F o hb, rfl, rfl⟩) h
        | true =>
          simp only [cond_true] at h
          split at h
          · rename_i hk
            split at h
            · rename_i v H' hp
              exact go v H' (.inr ⟨asked_want all F o hb, by rw [hcl hc]; exact ⟨hp, hk⟩⟩) h
            · rw [VOh_none] at h; exact h.elim
          · rw [VOh_none] at h; exact h.elim
    | true =>
      simp only [hc] at h
      unfold VCh at h
      split at h
      · exact h.elim
      · rename_i b hb
        cases b with
        | false => exact go _ _ (.inl ⟨asked_want all F o hb, rfl, rfl⟩) (h.2 rfl)
        | true =>
          have h := h.1 rfl
          unfold VCk at h
          split at h
          · rename_i fn args hp
            obtain ⟨v, h1, h2⟩ := h
            exact go v H (.inr ⟨asked_want all F o hb, by rw [hp]; exact ⟨rfl, h1⟩⟩) h2
          · exact h.elim
/-- ████ A region in any order: 'ws': the blocks that it writes; 'rs': new blocks and their reserved places. ████ -/
theorem PW.drawh {E : Env} {Q : Exit → Fr → Heap → Prop} {id : Nat} {ops : Array Oper} (ws : List Nat) (rs : List (Nat × Nat)) (hm : P.follows .mixedOrders = true) (hd : drawGs (compatH (ops.toList.map (·.dst)) rs) E.N ops.toList = true) (hnd : (rs.map (·.2)).Nodup)
    (h : ∀ K : Fr → Heap → Prop, (∀ F' H', Q .normal F' H' → K F' H') → VOh P ws rs (ops.toList.map (·.dst)) ops.toList (some (F, H)) K) : PW P E (.region id ops true) F H Q := fun hs C a w hdf hw hf => by
  refine wp_region_any hm ?_
  have hr := VOh_run (P := P) _ _ _ (h (fun F' H' => Q .normal F' H') fun _ _ h => h)
  have hall : ∀ i, i < ops.toList.length → drawG (compatH (ops.toList.map (·.dst)) rs) (masks ops.toList) E.N ops.toList i = true := by
    intro i hi
    unfold drawGs at hd
    exact List.all_eq_true.1 hd i (List.mem_range.2 hi)
  refine any_gen (P := P) hall (swapH hnd) stepH ops.size (Array.replicate ops.size false) (slot F) H C a w.drew (by simp) ?_ (by rw [left_all]; simp) (by rw [left_all, all_ops]; exact hr) hdf hw.drew hf ?_
  · intro i o ho hl j hj
    have hi : i < ops.size := (Array.getElem?_eq_some_iff.1 ho).1
    simp [Array.getD, hi] at hl
  · rintro C' f' H' a' w' p1 p2 p3 p4 p5 ⟨F', rfl, p6⟩
    exact ⟨C', F', H', p1.toN _, p2, p3, ((Below.refl C.B w).drew).trans p4, p5, p6⟩
/-- A place is reserved. -/
theorem Vs.place {E : Env} (e : Nat) : Vs E F H F (H ++ [⟨e, 0, []⟩]) := fun _ C a w hw hf => by
  obtain ⟨g1, g2⟩ := hw.ghost e 0
  exact ⟨_, g1.toN _, g2, hf.mono g1⟩

/-! for simp -/
theorem elem_no {i j : Nat} {l : List Nat} (h : i ≠ j) : (j :: l).elem i = l.elem i := by
  simp [List.elem_cons, h]
theorem elem_yes (i : Nat) (l : List Nat) : (i :: l).elem i = true := by simp
theorem elem_nil' (i : Nat) : ([] : List Nat).elem i = false := rfl

end Go.Proofs.Ytnjnikafhbholaa.Pm

namespace Go.Proofs.Ytnjnikafhbholaa.Pm
set_option linter.all false
set_option linter.unusedVariables false
set_option linter.unusedSimpArgs false
open Go.RowKit

variable {P : Program} {H : Heap} {F : Fr}

theorem stp_eq (ds : List (Option Nat)) (o : Oper) : stp P ds o F H = match asked ds F o with
    | none => none
    | some b => cond b (match pop P o.op (slot F) H with | some (v, H') => some (put F o.dst v, H') | none => none) (some (put F o.dst (.tup []), H)) := by
  unfold stp
  cases asked ds F o with
  | none => rfl
  | some b => cases b <;> rfl
/-- A test in a region. -/
theorem VO_cond {ds : List (Option Nat)} {l : List Oper} {K : Fr → Heap → Prop} {x : Bool} {A B : Option (Fr × Heap)} (h1 : x = true → VO P ds l A K) (h2 : x = false → VO P ds l B K) : VO P ds l (cond x A B) K := by
  cases x with
  | true => exact h1 rfl
  | false => exact h2 rfl
theorem VOd_cond {ds : List (Option Nat)} {l : List Oper} {K : Fr → Heap → Prop} {x : Bool} {A B : Option (Fr × Heap)} (h1 : x = true → VOd P ds l A K) (h2 : x = false → VOd P ds l B K) : VOd P ds l (cond x A B) K := by
  cases x with
  | true => exact h1 rfl
  | false => exact h2 rfl
theorem VOg_cond {ds : List (Option Nat)} {l : List Oper} {K : Fr → Heap → Prop} {x : Bool} {A B : Option (Fr × Heap)} (h1 : x = true → VOg P ds l A K) (h2 : x = false → VOg P ds l B K) : VOg P ds l (cond x A B) K := by
  cases x with
  | true => exact h1 rfl
  | false => exact h2 rfl
theorem VC.guard {ds : List (Option Nat)} {o : Oper} {K : Fr → Heap → Prop} {x : Bool} (ha : asked ds F o = some x) (h1 : x = true → VC P ds { o with guard := none } F H K) (h2 : x = false → K (put F o.dst (.tup [])) H) : VC P ds o F H K := by
  cases x with
  | true =>
    have := h1 rfl
    unfold VC at this ⊢
    rw [ha]
    exact this
  | false =>
    unfold VC
    rw [ha]
    exact h2 rfl
theorem VCd.guard {ds : List (Option Nat)} {o : Oper} {K : Fr → Heap → Prop} {x : Bool} (ha : asked ds F o = some x) (h1 : x = true → VCd P ds { o with guard := none } F H K) (h2 : x = false → K (put F o.dst (.tup [])) H) : VCd P ds o F H K := by
  cases x with
  | true =>
    have := h1 rfl
    unfold VCd at this ⊢
    rw [ha]
    exact this
  | false =>
    unfold VCd
    rw [ha]
    exact h2 rfl

/-- A call that is carried out. -/
def VCx (P : Program) (o : Oper) (F : Fr) (H : Heap) (K : Fr → Heap → Prop) : Prop :=
  match pcallee o.op (slot F) with
  | some (g, args) => ∃ R, CallEx P g args H R ∧ ∀ v H', R v H' → K (put F o.dst v) H'
  | none => False
def VCy (P : Program) (o : Oper) (F : Fr) (H : Heap) (K : Fr → Heap → Prop) : Prop :=
  match pcallee o.op (slot F) with
  | some (g, args) => ∃ v, (CallOk P g args H v H ∧ (pureCall o.op = true → ∀ K, CallOk P g args K v K)) ∧ K (put F o.dst v) H
  | none => False
theorem VC_eq (ds : List (Option Nat)) (o : Oper) (K : Fr → Heap → Prop) : VC P ds o F H K = match asked ds F o with
    | none => False
    | some b => (b = true → VCx P o F H K) ∧ (b = false → K (put F o.dst (.tup [])) H) := by
  unfold VC VCx
  cases asked ds F o with
  | none => rfl
  | some b => cases b <;> simp <;> exact Iff.rfl
theorem VCd_eq (ds : List (Option Nat)) (o : Oper) (K : Fr → Heap → Prop) : VCd P ds o F H K = match asked ds F o with
    | none => False
    | some b => (b = true → VCy P o F H K) ∧ (b = false → K (put F o.dst (.tup [])) H) := by
  unfold VCd VCy
  cases asked ds F o with
  | none => rfl
  | some b => cases b <;> simp <;> exact Iff.rfl
/-- A call in a drawn region with new blocks. -/
def VCz (P : Program) (o : Oper) (F : Fr) (H : Heap) (K : Fr → Heap → Prop) : Prop :=
  match pcallee o.op (slot F) with
  | some (g, args) => ∃ v, ((∀ L, CallOk P g args (H ++ L) v (H ++ L)) ∧ (pureCall o.op = true → ∀ K, CallOk P g args K v K)) ∧ K (put F o.dst v) H
  | none => False
theorem VCg_eq (ds : List (Option Nat)) (o : Oper) (K : Fr → Heap → Prop) : VCg P ds o F H K = match asked ds F o with
    | none => False
    | some b => (b = true → VCz P o F H K) ∧ (b = false → K (put F o.dst (.tup [])) H) := by
  unfold VCg VCz
  cases asked ds F o with
  | none => rfl
  | some b => cases b <;> simp <;> exact Iff.rfl
theorem VCz.call {o : Oper} {K : Fr → Heap → Prop} {g : FuncId} {args : List PV} {v : PV} (h : ∀ L, CallOk P g args (H ++ L) v (H ++ L)) (hc : pcallee o.op (slot F) = some (g, args)) (hk : K (put F o.dst v) H) (hp : pureCall o.op = false := by rfl) : VCz P o F H K := by
  unfold VCz
  simp only [hc]
  exact ⟨v, ⟨h, fun e => by rw [hp] at e; cases e⟩, hk⟩
theorem VCx.call {o : Oper} {K : Fr → Heap → Prop} {g : FuncId} {args : List PV} {v : PV} {H' : Heap} (h : CallOk P g args H v H') (hc : pcallee o.op (slot F) = some (g, args)) (hk : K (put F o.dst v) H') : VCx P o F H K := by
  unfold VCx
  simp only [hc]
  exact ⟨_, h.toEx, fun v' H'' e => by rw [e.1, e.2]; exact hk⟩
theorem VCx.callR {o : Oper} {K : Fr → Heap → Prop} {g : FuncId} {args : List PV} {R : PV → Heap → Prop} (h : CallEx P g args H R) (hc : pcallee o.op (slot F) = some (g, args)) (hk : ∀ v H', R v H' → K (put F o.dst v) H') : VCx P o F H K := by
  unfold VCx
  simp only [hc]
  exact ⟨R, h, hk⟩
theorem VCy.call {o : Oper} {K : Fr → Heap → Prop} {g : FuncId} {args : List PV} {v : PV} (h : CallOk P g args H v H) (hc : pcallee o.op (slot F) = some (g, args)) (hk : K (put F o.dst v) H) (hp : pureCall o.op = false := by rfl) : VCy P o F H K := by
  unfold VCy
  simp only [hc]
  exact ⟨v, ⟨h, fun e => by rw [hp] at e; cases e⟩, hk⟩
/-- The same, of a call without arguments. -/
theorem VCy.callP {o : Oper} {K : Fr → Heap → Prop} {g : FuncId} {args : List PV} {v : PV} (h : ∀ K, CallOk P g args K v K) (hc : pcallee o.op (slot F) = some (g, args)) (hk : K (put F o.dst v) H) : VCy P o F H K := by
  unfold VCy
  simp only [hc]
  exact ⟨v, ⟨h H, fun _ => h⟩, hk⟩

/-! arithmetic; shifts and bits have laws of their own -/
theorem pint_add (k k' : IntKind) (a b : Int) : pint .add k a k' b = if k = k' then some (.int k (k.wrap (a + b))) else none := rfl
theorem pint_sub (k k' : IntKind) (a b : Int) : pint .sub k a k' b = if k = k' then some (.int k (k.wrap (a - b))) else none := rfl
theorem pint_mul (k k' : IntKind) (a b : Int) : pint .mul k a k' b = if k = k' then some (.int k (k.wrap (a * b))) else none := rfl
theorem pint_eql (k k' : IntKind) (a b : Int) : pint .eql k a k' b = if k = k' then some (.bool (a == b)) else none := rfl
theorem pint_neq (k k' : IntKind) (a b : Int) : pint .neq k a k' b = if k = k' then some (.bool (a != b)) else none := rfl
theorem pint_lss (k k' : IntKind) (a b : Int) : pint .lss k a k' b = if k = k' then some (.bool (decide (a < b))) else none := rfl
theorem pint_leq (k k' : IntKind) (a b : Int) : pint .leq k a k' b = if k = k' then some (.bool (decide (a ≤ b))) else none := rfl
theorem pint_gtr (k k' : IntKind) (a b : Int) : pint .gtr k a k' b = if k = k' then some (.bool (decide (b < a))) else none := rfl
theorem pint_geq (k k' : IntKind) (a b : Int) : pint .geq k a k' b = if k = k' then some (.bool (decide (b ≤ a))) else none := rfl
theorem pint_quo (k k' : IntKind) (a b : Int) : pint .quo k a k' b = if k = k' then (if b = 0 then none else some (.int k (k.wrap (a.tdiv b)))) else none := rfl
theorem pint_rem (k k' : IntKind) (a b : Int) : pint .rem k a k' b = if k = k' then (if b = 0 then none else some (.int k (a.tmod b))) else none := rfl
theorem hp4 (H K : Heap) (a b c d e : Blk) : (H ++ a :: b :: c :: d :: e :: K)[H.length + 4]? = some e := by rw [List.getElem?_append_right (by omega)]; simp
theorem hp5 (H K : Heap) (a b c d e f : Blk) : (H ++ a :: b :: c :: d :: e :: f :: K)[H.length + 5]? = some f := by rw [List.getElem?_append_right (by omega)]; simp
theorem hp6 (H K : Heap) (a b c d e f g : Blk) : (H ++ a :: b :: c :: d :: e :: f :: g :: K)[H.length + 6]? = some g := by rw [List.getElem?_append_right (by omega)]; simp
theorem hs3 (H K : Heap) (a b c d x : Blk) : (H ++ a :: b :: c :: d :: K).set (H.length + 3) x = H ++ a :: b :: c :: x :: K := by rw [List.set_append_right _ _ (by omega)]; simp
theorem hs4 (H K : Heap) (a b c d e x : Blk) : (H ++ a :: b :: c :: d :: e :: K).set (H.length + 4) x = H ++ a :: b :: c :: d :: x :: K := by rw [List.set_append_right _ _ (by omega)]; simp
theorem hs5 (H K : Heap) (a b c d e f x : Blk) : (H ++ a :: b :: c :: d :: e :: f :: K).set (H.length + 5) x = H ++ a :: b :: c :: d :: e :: x :: K := by rw [List.set_append_right _ _ (by omega)]; simp
theorem hs6 (H K : Heap) (a b c d e f g x : Blk) : (H ++ a :: b :: c :: d :: e :: f :: g :: K).set (H.length + 6) x = H ++ a :: b :: c :: d :: e :: f :: x :: K := by rw [List.set_append_right _ _ (by omega)]; simp
theorem hl4 (H : Heap) (a b c d : Blk) : (H ++ [a, b, c, d]).length = H.length + 4 := by simp
theorem hl5 (H : Heap) (a b c d e : Blk) : (H ++ [a, b, c, d, e]).length = H.length + 5 := by simp
theorem hl6 (H : Heap) (a b c d e f : Blk) : (H ++ [a, b, c, d, e, f]).length = H.length + 6 := by simp

attribute [go_sem] hp4 hp5 hp6 hs3 hs4 hs5 hs6 hl4 hl5 hl6 pint_add pint_sub pint_mul pint_eql pint_neq pint_lss pint_leq pint_gtr pint_geq pint_quo pint_rem VC_eq VCd_eq VCg_eq VRg VOg_nil VOg_step VOh_nil VOh_step VRh VCh stpH chkH popH palloc resv rsv isStore stId notIn opIds topId liveOnly eff effB pureOp elem_no elem_yes elem_nil' Op.operands true_implies Bool.true_eq_false Bool.false_eq_true VR VO_nil VO_step VRd VOd_nil VOd_step isCall stp_eq asked pcallee pop isNilSl isNilV pnilcmp plook pmset pmapOf ev pvc pv1 slot put Nat.beq pbin pstr peq scalT peqS peqI peqF peqA peqT peqG List.range List.range.loop pun Option.map Option.bind live scells pconv rd pload wr pstore pfieldAddr pfield pindexAddr pindex pbound pslice pfill reps pmake appSrc pcopy pmin pmax pfold pbuiltin pnil aggT isPtrT isBoolT PV.cells PV.cell pbuild pbuildSlice fieldPlaces Option.isSome_some Option.isSome_none kp hp0 hp1 hp2 hp3 hs0 hs1 hs2 hl1 hl2 hl3 List.append_assoc Nat.beq_refl List.length_cons List.length_nil List.all_cons List.all_nil splice reps List.replicate_succ List.replicate_zero List.flatten_cons List.flatten_nil List.take_succ_cons List.take_zero List.take_nil List.drop_succ_cons List.drop_zero List.drop_nil Nat.zero_mul Nat.sub_self true_implies false_implies and_true true_and false_and and_false and_self not_true_eq_false not_false_eq_true Bool.false_eq_true Bool.false_and Bool.and_false Bool.true_or Bool.or_true Bool.false_or Bool.or_false if_true if_false ite_true ite_false forall_const List.map_cons List.map_nil List.cons_append List.nil_append List.append_nil Array.toList Nat.zero_add Nat.add_zero Nat.mul_one Nat.one_mul beq_self_eq_true Bool.true_and Bool.and_true List.getElem?_cons_succ List.getElem?_cons_zero List.getElem?_toArray List.set_cons_zero List.set_cons_succ beq_true beq_false Bool.not_true Bool.not_false decide_true decide_false cond_true cond_false ite_ok ite_no w64 w8 w32 dec_t dec_f beq_t beq_f bne_t bne_f Int.toNat_natCast IntWalk.toNatUp

end Go.Proofs.Ytnjnikafhbholaa.Pm

namespace Go.Proofs.Ytnjnikafhbholaa.Ty
open Pm
theorem sz0 : szT Try.prog 0 = some 1 := by kernel_rfl
theorem by0 : byT Try.prog 0 = some 0 := by kernel_rfl
theorem sz1 : szT Try.prog 1 = some 1 := by kernel_rfl
theorem by1 : byT Try.prog 1 = some 8 := by kernel_rfl
theorem sz2 : szT Try.prog 2 = some 1 := by kernel_rfl
theorem by2 : byT Try.prog 2 = some 8 := by kernel_rfl
theorem zc2 : zcells Try.prog 2 = some (([.int .i64 0] : List PV)) := by kernel_rfl
theorem sz3 : szT Try.prog 3 = some 1 := by kernel_rfl
theorem by3 : byT Try.prog 3 = some 8 := by kernel_rfl
theorem zc3 : zcells Try.prog 3 = some (([.int .i64 0] : List PV)) := by kernel_rfl
theorem sz4 : szT Try.prog 4 = some 1 := by kernel_rfl
theorem by4 : byT Try.prog 4 = some 1 := by kernel_rfl
theorem zc4 : zcells Try.prog 4 = some (([.bool false] : List PV)) := by kernel_rfl
theorem sz5 : szT Try.prog 5 = some 1 := by kernel_rfl
theorem by5 : byT Try.prog 5 = some 1 := by kernel_rfl
theorem zc5 : zcells Try.prog 5 = some (([.int .u8 0] : List PV)) := by kernel_rfl
theorem sz6 : szT Try.prog 6 = some 1 := by kernel_rfl
theorem by6 : byT Try.prog 6 = some 1 := by kernel_rfl
theorem zc6 : zcells Try.prog 6 = some (([.int .u8 0] : List PV)) := by kernel_rfl
theorem sz7 : szT Try.prog 7 = some 4 := by kernel_rfl
theorem by7 : byT Try.prog 7 = some 24 := by kernel_rfl
theorem zc7 : zcells Try.prog 7 = some (([.int .i64 0, .int .i64 0, .bool false, .int .u8 0] : List PV)) := by kernel_rfl
theorem sz8 : szT Try.prog 8 = some 4 := by kernel_rfl
theorem by8 : byT Try.prog 8 = some 24 := by kernel_rfl
theorem zc8 : zcells Try.prog 8 = some (([.int .i64 0, .int .i64 0, .bool false, .int .u8 0] : List PV)) := by kernel_rfl
theorem sz9 : szT Try.prog 9 = some 1 := by kernel_rfl
theorem by9 : byT Try.prog 9 = some 16 := by kernel_rfl
theorem zc9 : zcells Try.prog 9 = some (([.str []] : List PV)) := by kernel_rfl
theorem sz10 : szT Try.prog 10 = some 1 := by kernel_rfl
theorem by10 : byT Try.prog 10 = some 16 := by kernel_rfl
theorem zc10 : zcells Try.prog 10 = some (([.str []] : List PV)) := by kernel_rfl
theorem sz11 : szT Try.prog 11 = some 1 := by kernel_rfl
theorem by11 : byT Try.prog 11 = some 16 := by kernel_rfl
theorem zc11 : zcells Try.prog 11 = some (([.str []] : List PV)) := by kernel_rfl
theorem sz12 : szT Try.prog 12 = some 1 := by kernel_rfl
theorem by12 : byT Try.prog 12 = some 8 := by kernel_rfl
theorem zc12 : zcells Try.prog 12 = some (([.int .u64 0] : List PV)) := by kernel_rfl
theorem sz13 : szT Try.prog 13 = some 2 := by kernel_rfl
theorem by13 : byT Try.prog 13 = some 24 := by kernel_rfl
theorem zc13 : zcells Try.prog 13 = some (([.str [], .int .u64 0] : List PV)) := by kernel_rfl
theorem sz14 : szT Try.prog 14 = some 2 := by kernel_rfl
theorem by14 : byT Try.prog 14 = some 24 := by kernel_rfl
theorem zc14 : zcells Try.prog 14 = some (([.str [], .int .u64 0] : List PV)) := by kernel_rfl
theorem sz15 : szT Try.prog 15 = some 1 := by kernel_rfl
theorem by15 : byT Try.prog 15 = some 8 := by kernel_rfl
theorem zc15 : zcells Try.prog 15 = some (([.nilp] : List PV)) := by kernel_rfl
theorem sz16 : szT Try.prog 16 = some 1 := by kernel_rfl
theorem by16 : byT Try.prog 16 = some 8 := by kernel_rfl
theorem zc16 : zcells Try.prog 16 = some (([.nilp] : List PV)) := by kernel_rfl
theorem sz17 : szT Try.prog 17 = some 1 := by kernel_rfl
theorem by17 : byT Try.prog 17 = some 8 := by kernel_rfl
theorem zc17 : zcells Try.prog 17 = some (([.nilp] : List PV)) := by kernel_rfl
theorem sz18 : szT Try.prog 18 = some 1 := by kernel_rfl
theorem by18 : byT Try.prog 18 = some 8 := by kernel_rfl
theorem zc18 : zcells Try.prog 18 = some (([.nilp] : List PV)) := by kernel_rfl
theorem sz19 : szT Try.prog 19 = some 1 := by kernel_rfl
theorem by19 : byT Try.prog 19 = some 8 := by kernel_rfl
theorem zc19 : zcells Try.prog 19 = some (([.nilp] : List PV)) := by kernel_rfl
theorem sz20 : szT Try.prog 20 = some 1 := by kernel_rfl
theorem by20 : byT Try.prog 20 = some 16 := by kernel_rfl
theorem sz21 : szT Try.prog 21 = some 1 := by kernel_rfl
theorem by21 : byT Try.prog 21 = some 4 := by kernel_rfl
theorem zc21 : zcells Try.prog 21 = some (([.int .i32 0] : List PV)) := by kernel_rfl
theorem sz22 : szT Try.prog 22 = some 6 := by kernel_rfl
theorem by22 : byT Try.prog 22 = some 32 := by kernel_rfl
theorem zc22 : zcells Try.prog 22 = some (([.int .i64 0, .int .i64 0, .int .i64 0, .bool false, .bool false, .bool false] : List PV)) := by kernel_rfl
theorem sz23 : szT Try.prog 23 = some 6 := by kernel_rfl
theorem by23 : byT Try.prog 23 = some 32 := by kernel_rfl
theorem zc23 : zcells Try.prog 23 = some (([.int .i64 0, .int .i64 0, .int .i64 0, .bool false, .bool false, .bool false] : List PV)) := by kernel_rfl
theorem sz24 : szT Try.prog 24 = some 1 := by kernel_rfl
theorem by24 : byT Try.prog 24 = some 24 := by kernel_rfl
theorem zc24 : zcells Try.prog 24 = some (([.slice [] 0 true] : List PV)) := by kernel_rfl
theorem sz25 : szT Try.prog 25 = some 2 := by kernel_rfl
theorem by25 : byT Try.prog 25 = some 32 := by kernel_rfl
theorem zc25 : zcells Try.prog 25 = some (([.int .i64 0, .slice [] 0 true] : List PV)) := by kernel_rfl
theorem sz26 : szT Try.prog 26 = some 2 := by kernel_rfl
theorem by26 : byT Try.prog 26 = some 32 := by kernel_rfl
theorem zc26 : zcells Try.prog 26 = some (([.int .i64 0, .slice [] 0 true] : List PV)) := by kernel_rfl
theorem sz27 : szT Try.prog 27 = some 1 := by kernel_rfl
theorem by27 : byT Try.prog 27 = some 8 := by kernel_rfl
theorem zc27 : zcells Try.prog 27 = some (([.int .i64 0] : List PV)) := by kernel_rfl
theorem sz28 : szT Try.prog 28 = some 1 := by kernel_rfl
theorem by28 : byT Try.prog 28 = some 0 := by kernel_rfl
theorem sz29 : szT Try.prog 29 = some 1 := by kernel_rfl
theorem by29 : byT Try.prog 29 = some 8 := by kernel_rfl
theorem sz30 : szT Try.prog 30 = some 1 := by kernel_rfl
theorem by30 : byT Try.prog 30 = some 8 := by kernel_rfl
theorem sz31 : szT Try.prog 31 = some 1 := by kernel_rfl
theorem by31 : byT Try.prog 31 = some 0 := by kernel_rfl
theorem sz32 : szT Try.prog 32 = some 1 := by kernel_rfl
theorem by32 : byT Try.prog 32 = some 8 := by kernel_rfl
theorem sz33 : szT Try.prog 33 = some 1 := by kernel_rfl
theorem by33 : byT Try.prog 33 = some 8 := by kernel_rfl
theorem sz34 : szT Try.prog 34 = some 1 := by kernel_rfl
theorem by34 : byT Try.prog 34 = some 8 := by kernel_rfl
theorem sz35 : szT Try.prog 35 = some 2 := by kernel_rfl
theorem by35 : byT Try.prog 35 = some 16 := by kernel_rfl
theorem zc35 : zcells Try.prog 35 = some (([.int .i64 0, .int .i64 0] : List PV)) := by kernel_rfl
theorem sz36 : szT Try.prog 36 = some 2 := by kernel_rfl
theorem by36 : byT Try.prog 36 = some 16 := by kernel_rfl
theorem zc36 : zcells Try.prog 36 = some (([.int .i64 0, .int .i64 0] : List PV)) := by kernel_rfl
theorem sz37 : szT Try.prog 37 = some 64 := by kernel_rfl
theorem by37 : byT Try.prog 37 = some 64 := by kernel_rfl
theorem zc37 : zcells Try.prog 37 = some ((List.replicate 64 (PV.int .u8 0) : List PV)) := by kernel_rfl
theorem sz38 : szT Try.prog 38 = some 135 := by kernel_rfl
theorem by38 : byT Try.prog 38 = some 184 := by kernel_rfl
theorem zc38 : zcells Try.prog 38 = some (([.int .i64 0, .int .i64 0, .int .i64 0, .int .i64 0, .bool false, .int .i64 0, .int .i64 0] : List PV) ++ (List.replicate 128 (PV.int .u8 0) : List PV)) := by kernel_rfl
theorem sz39 : szT Try.prog 39 = some 135 := by kernel_rfl
theorem by39 : byT Try.prog 39 = some 184 := by kernel_rfl
theorem zc39 : zcells Try.prog 39 = some (([.int .i64 0, .int .i64 0, .int .i64 0, .int .i64 0, .bool false, .int .i64 0, .int .i64 0] : List PV) ++ (List.replicate 128 (PV.int .u8 0) : List PV)) := by kernel_rfl
theorem sz40 : szT Try.prog 40 = some 1 := by kernel_rfl
theorem by40 : byT Try.prog 40 = some 8 := by kernel_rfl
theorem sz41 : szT Try.prog 41 = some 1 := by kernel_rfl
theorem by41 : byT Try.prog 41 = some 8 := by kernel_rfl
theorem sz42 : szT Try.prog 42 = some 1 := by kernel_rfl
theorem by42 : byT Try.prog 42 = some 8 := by kernel_rfl
theorem sz43 : szT Try.prog 43 = some 1 := by kernel_rfl
theorem by43 : byT Try.prog 43 = some 24 := by kernel_rfl
theorem zc43 : zcells Try.prog 43 = some (([.slice [] 0 true] : List PV)) := by kernel_rfl
theorem sz44 : szT Try.prog 44 = some 137 := by kernel_rfl
theorem by44 : byT Try.prog 44 = some 224 := by kernel_rfl
theorem zc44 : zcells Try.prog 44 = some (([.str [], .int .i64 0, .int .i64 0, .int .i64 0, .int .i64 0, .bool false, .int .i64 0, .int .i64 0] : List PV) ++ (List.replicate 128 (PV.int .u8 0) : List PV) ++ ([.slice [] 0 true] : List PV)) := by kernel_rfl
theorem sz45 : szT Try.prog 45 = some 137 := by kernel_rfl
theorem by45 : byT Try.prog 45 = some 224 := by kernel_rfl
theorem zc45 : zcells Try.prog 45 = some (([.str [], .int .i64 0, .int .i64 0, .int .i64 0, .int .i64 0, .bool false, .int .i64 0, .int .i64 0] : List PV) ++ (List.replicate 128 (PV.int .u8 0) : List PV) ++ ([.slice [] 0 true] : List PV)) := by kernel_rfl
theorem sz46 : szT Try.prog 46 = some 1 := by kernel_rfl
theorem by46 : byT Try.prog 46 = some 24 := by kernel_rfl
theorem zc46 : zcells Try.prog 46 = some (([.slice [] 0 true] : List PV)) := by kernel_rfl
theorem sz47 : szT Try.prog 47 = some 1 := by kernel_rfl
theorem by47 : byT Try.prog 47 = some 24 := by kernel_rfl
theorem zc47 : zcells Try.prog 47 = some (([.slice [] 0 true] : List PV)) := by kernel_rfl
theorem sz48 : szT Try.prog 48 = some 1 := by kernel_rfl
theorem by48 : byT Try.prog 48 = some 24 := by kernel_rfl
theorem zc48 : zcells Try.prog 48 = some (([.slice [] 0 true] : List PV)) := by kernel_rfl
theorem sz49 : szT Try.prog 49 = some 138 := by kernel_rfl
theorem by49 : byT Try.prog 49 = some 240 := by kernel_rfl
theorem zc49 : zcells Try.prog 49 = some (([.int .i64 0, .int .i64 0, .int .i64 0, .int .i64 0, .bool false, .int .i64 0, .int .i64 0] : List PV) ++ (List.replicate 128 (PV.int .u8 0) : List PV) ++ ([.bool false, .slice [] 0 true, .slice [] 0 true] : List PV)) := by kernel_rfl
theorem sz50 : szT Try.prog 50 = some 138 := by kernel_rfl
theorem by50 : byT Try.prog 50 = some 240 := by kernel_rfl
theorem zc50 : zcells Try.prog 50 = some (([.int .i64 0, .int .i64 0, .int .i64 0, .int .i64 0, .bool false, .int .i64 0, .int .i64 0] : List PV) ++ (List.replicate 128 (PV.int .u8 0) : List PV) ++ ([.bool false, .slice [] 0 true, .slice [] 0 true] : List PV)) := by kernel_rfl
theorem sz51 : szT Try.prog 51 = some 1 := by kernel_rfl
theorem by51 : byT Try.prog 51 = some 8 := by kernel_rfl
theorem sz52 : szT Try.prog 52 = some 1 := by kernel_rfl
theorem by52 : byT Try.prog 52 = some 24 := by kernel_rfl
theorem zc52 : zcells Try.prog 52 = some (([.slice [] 0 true] : List PV)) := by kernel_rfl
theorem sz53 : szT Try.prog 53 = some 1 := by kernel_rfl
theorem by53 : byT Try.prog 53 = some 24 := by kernel_rfl
theorem zc53 : zcells Try.prog 53 = some (([.slice [] 0 true] : List PV)) := by kernel_rfl
theorem sz54 : szT Try.prog 54 = some 1 := by kernel_rfl
theorem by54 : byT Try.prog 54 = some 8 := by kernel_rfl
theorem sz55 : szT Try.prog 55 = some 1 := by kernel_rfl
theorem by55 : byT Try.prog 55 = some 8 := by kernel_rfl
theorem sz56 : szT Try.prog 56 = some 1 := by kernel_rfl
theorem by56 : byT Try.prog 56 = some 8 := by kernel_rfl
theorem sz57 : szT Try.prog 57 = some 1 := by kernel_rfl
theorem by57 : byT Try.prog 57 = some 8 := by kernel_rfl
theorem zc57 : zcells Try.prog 57 = some (([.nilp] : List PV)) := by kernel_rfl
theorem sz58 : szT Try.prog 58 = some 2 := by kernel_rfl
theorem by58 : byT Try.prog 58 = some 32 := by kernel_rfl
theorem zc58 : zcells Try.prog 58 = some (([.slice [] 0 true, .int .i64 0] : List PV)) := by kernel_rfl
theorem sz59 : szT Try.prog 59 = some 2 := by kernel_rfl
theorem by59 : byT Try.prog 59 = some 32 := by kernel_rfl
theorem zc59 : zcells Try.prog 59 = some (([.slice [] 0 true, .int .i64 0] : List PV)) := by kernel_rfl
theorem sz60 : szT Try.prog 60 = some 1 := by kernel_rfl
theorem by60 : byT Try.prog 60 = some 8 := by kernel_rfl
theorem sz61 : szT Try.prog 61 = some 1 := by kernel_rfl
theorem by61 : byT Try.prog 61 = some 8 := by kernel_rfl
theorem sz62 : szT Try.prog 62 = some 1 := by kernel_rfl
theorem by62 : byT Try.prog 62 = some 8 := by kernel_rfl
theorem sz63 : szT Try.prog 63 = some 1 := by kernel_rfl
theorem by63 : byT Try.prog 63 = some 24 := by kernel_rfl
theorem zc63 : zcells Try.prog 63 = some (([.slice [] 0 true] : List PV)) := by kernel_rfl
theorem sz64 : szT Try.prog 64 = some 1 := by kernel_rfl
theorem by64 : byT Try.prog 64 = some 8 := by kernel_rfl
theorem sz65 : szT Try.prog 65 = some 1 := by kernel_rfl
theorem by65 : byT Try.prog 65 = some 8 := by kernel_rfl
theorem sz66 : szT Try.prog 66 = some 1 := by kernel_rfl
theorem by66 : byT Try.prog 66 = some 8 := by kernel_rfl
theorem sz67 : szT Try.prog 67 = some 1 := by kernel_rfl
theorem by67 : byT Try.prog 67 = some 8 := by kernel_rfl
theorem zc67 : zcells Try.prog 67 = some (([.int .u64 0] : List PV)) := by kernel_rfl
theorem sz68 : szT Try.prog 68 = some 1 := by kernel_rfl
theorem by68 : byT Try.prog 68 = some 8 := by kernel_rfl
theorem sz69 : szT Try.prog 69 = some 1 := by kernel_rfl
theorem by69 : byT Try.prog 69 = some 24 := by kernel_rfl
theorem zc69 : zcells Try.prog 69 = some (([.slice [] 0 true] : List PV)) := by kernel_rfl
theorem sz70 : szT Try.prog 70 = some 1 := by kernel_rfl
theorem by70 : byT Try.prog 70 = some 24 := by kernel_rfl
theorem zc70 : zcells Try.prog 70 = some (([.slice [] 0 true] : List PV)) := by kernel_rfl
theorem sz71 : szT Try.prog 71 = some 1 := by kernel_rfl
theorem by71 : byT Try.prog 71 = some 24 := by kernel_rfl
theorem zc71 : zcells Try.prog 71 = some (([.slice [] 0 true] : List PV)) := by kernel_rfl
theorem sz72 : szT Try.prog 72 = some 1 := by kernel_rfl
theorem by72 : byT Try.prog 72 = some 0 := by kernel_rfl
theorem sz73 : szT Try.prog 73 = some 1 := by kernel_rfl
theorem by73 : byT Try.prog 73 = some 8 := by kernel_rfl
theorem sz74 : szT Try.prog 74 = some 1 := by kernel_rfl
theorem by74 : byT Try.prog 74 = some 8 := by kernel_rfl
theorem sz75 : szT Try.prog 75 = some 1 := by kernel_rfl
theorem by75 : byT Try.prog 75 = some 8 := by kernel_rfl
theorem sz76 : szT Try.prog 76 = some 5 := by kernel_rfl
theorem by76 : byT Try.prog 76 = some 48 := by kernel_rfl
theorem zc76 : zcells Try.prog 76 = some (([.bool false, .int .i64 0, .int .i64 0, .str [], .int .i64 0] : List PV)) := by kernel_rfl
theorem sz77 : szT Try.prog 77 = some 5 := by kernel_rfl
theorem by77 : byT Try.prog 77 = some 48 := by kernel_rfl
theorem zc77 : zcells Try.prog 77 = some (([.bool false, .int .i64 0, .int .i64 0, .str [], .int .i64 0] : List PV)) := by kernel_rfl
theorem sz78 : szT Try.prog 78 = some 1 := by kernel_rfl
theorem by78 : byT Try.prog 78 = some 8 := by kernel_rfl
theorem sz79 : szT Try.prog 79 = some 1 := by kernel_rfl
theorem by79 : byT Try.prog 79 = some 8 := by kernel_rfl
theorem sz80 : szT Try.prog 80 = some 8 := by kernel_rfl
theorem by80 : byT Try.prog 80 = some 96 := by kernel_rfl
theorem zc80 : zcells Try.prog 80 = some (([.int .i64 0, .str [], .int .i64 0, .int .i64 0, .int .i64 0, .int .i64 0, .str [], .slice [] 0 true] : List PV)) := by kernel_rfl
theorem sz81 : szT Try.prog 81 = some 8 := by kernel_rfl
theorem by81 : byT Try.prog 81 = some 96 := by kernel_rfl
theorem zc81 : zcells Try.prog 81 = some (([.int .i64 0, .str [], .int .i64 0, .int .i64 0, .int .i64 0, .int .i64 0, .str [], .slice [] 0 true] : List PV)) := by kernel_rfl
theorem sz82 : szT Try.prog 82 = some 1 := by kernel_rfl
theorem by82 : byT Try.prog 82 = some 8 := by kernel_rfl
theorem sz83 : szT Try.prog 83 = some 1 := by kernel_rfl
theorem by83 : byT Try.prog 83 = some 8 := by kernel_rfl
theorem sz84 : szT Try.prog 84 = some 1 := by kernel_rfl
theorem by84 : byT Try.prog 84 = some 8 := by kernel_rfl
theorem zc84 : zcells Try.prog 84 = some (([.nilp] : List PV)) := by kernel_rfl
theorem sz85 : szT Try.prog 85 = some 1 := by kernel_rfl
theorem by85 : byT Try.prog 85 = some 24 := by kernel_rfl
theorem zc85 : zcells Try.prog 85 = some (([.slice [] 0 true] : List PV)) := by kernel_rfl
theorem sz86 : szT Try.prog 86 = some 1 := by kernel_rfl
theorem by86 : byT Try.prog 86 = some 8 := by kernel_rfl
theorem sz87 : szT Try.prog 87 = some 1 := by kernel_rfl
theorem by87 : byT Try.prog 87 = some 8 := by kernel_rfl
theorem sz88 : szT Try.prog 88 = some 5 := by kernel_rfl
theorem by88 : byT Try.prog 88 = some 32 := by kernel_rfl
theorem zc88 : zcells Try.prog 88 = some (([.int .i64 0, .bool false, .int .i64 0, .bool false, .bool false] : List PV)) := by kernel_rfl
theorem sz89 : szT Try.prog 89 = some 5 := by kernel_rfl
theorem by89 : byT Try.prog 89 = some 32 := by kernel_rfl
theorem zc89 : zcells Try.prog 89 = some (([.int .i64 0, .bool false, .int .i64 0, .bool false, .bool false] : List PV)) := by kernel_rfl
theorem sz90 : szT Try.prog 90 = some 1 := by kernel_rfl
theorem by90 : byT Try.prog 90 = some 8 := by kernel_rfl
theorem sz91 : szT Try.prog 91 = some 4 := by kernel_rfl
theorem by91 : byT Try.prog 91 = some 24 := by kernel_rfl
theorem zc91 : zcells Try.prog 91 = some (([.int .i64 0, .int .i64 0, .bool false, .bool false] : List PV)) := by kernel_rfl
theorem sz92 : szT Try.prog 92 = some 4 := by kernel_rfl
theorem by92 : byT Try.prog 92 = some 24 := by kernel_rfl
theorem zc92 : zcells Try.prog 92 = some (([.int .i64 0, .int .i64 0, .bool false, .bool false] : List PV)) := by kernel_rfl
theorem sz93 : szT Try.prog 93 = some 2 := by kernel_rfl
theorem by93 : byT Try.prog 93 = some 2 := by kernel_rfl
theorem zc93 : zcells Try.prog 93 = some (([.bool false, .bool false] : List PV)) := by kernel_rfl
theorem sz94 : szT Try.prog 94 = some 2 := by kernel_rfl
theorem by94 : byT Try.prog 94 = some 16 := by kernel_rfl
theorem zc94 : zcells Try.prog 94 = some (([.int .i64 0, .int .i64 0] : List PV)) := by kernel_rfl
theorem sz95 : szT Try.prog 95 = some 2 := by kernel_rfl
theorem by95 : byT Try.prog 95 = some 16 := by kernel_rfl
theorem zc95 : zcells Try.prog 95 = some (([.int .i64 0, .int .i64 0] : List PV)) := by kernel_rfl
theorem sz96 : szT Try.prog 96 = some 4 := by kernel_rfl
theorem by96 : byT Try.prog 96 = some 32 := by kernel_rfl
theorem zc96 : zcells Try.prog 96 = some (([.int .i64 0, .int .i64 0, .int .i64 0, .int .i64 0] : List PV)) := by kernel_rfl
theorem sz97 : szT Try.prog 97 = some 8 := by kernel_rfl
theorem by97 : byT Try.prog 97 = some 64 := by kernel_rfl
theorem zc97 : zcells Try.prog 97 = some (([.int .i64 0, .int .i64 0, .int .i64 0, .int .i64 0, .int .i64 0, .int .i64 0, .int .i64 0, .int .i64 0] : List PV)) := by kernel_rfl
theorem sz98 : szT Try.prog 98 = some 2 := by kernel_rfl
theorem by98 : byT Try.prog 98 = some 16 := by kernel_rfl
theorem zc98 : zcells Try.prog 98 = some (([.int .i64 0, .int .i64 0] : List PV)) := by kernel_rfl
theorem sz99 : szT Try.prog 99 = some 4 := by kernel_rfl
theorem by99 : byT Try.prog 99 = some 32 := by kernel_rfl
theorem zc99 : zcells Try.prog 99 = some (([.int .i64 0, .int .i64 0, .int .i64 0, .int .i64 0] : List PV)) := by kernel_rfl
theorem sz100 : szT Try.prog 100 = some 6 := by kernel_rfl
theorem by100 : byT Try.prog 100 = some 6 := by kernel_rfl
theorem zc100 : zcells Try.prog 100 = some (([.bool false, .bool false, .bool false, .bool false, .bool false, .bool false] : List PV)) := by kernel_rfl
theorem sz101 : szT Try.prog 101 = some 64 := by kernel_rfl
theorem by101 : byT Try.prog 101 = some 512 := by kernel_rfl
theorem zc101 : zcells Try.prog 101 = some ((List.replicate 64 (PV.int .i64 0) : List PV)) := by kernel_rfl
theorem sz102 : szT Try.prog 102 = some 384 := by kernel_rfl
theorem by102 : byT Try.prog 102 = some 3072 := by kernel_rfl
theorem zc102 : zcells Try.prog 102 = some ((List.replicate 384 (PV.int .i64 0) : List PV)) := by kernel_rfl
theorem sz103 : szT Try.prog 103 = some 408 := by kernel_rfl
theorem by103 : byT Try.prog 103 = some 3200 := by kernel_rfl
theorem zc103 : zcells Try.prog 103 = some (([.int .i64 0, .bool false, .bool false, .bool false, .bool false] : List PV) ++ (List.replicate 13 (PV.int .i64 0) : List PV) ++ ([.bool false, .bool false, .bool false, .bool false, .bool false, .bool false] : List PV) ++ (List.replicate 384 (PV.int .i64 0) : List PV)) := by kernel_rfl
theorem sz104 : szT Try.prog 104 = some 408 := by kernel_rfl
theorem by104 : byT Try.prog 104 = some 3200 := by kernel_rfl
theorem zc104 : zcells Try.prog 104 = some (([.int .i64 0, .bool false, .bool false, .bool false, .bool false] : List PV) ++ (List.replicate 13 (PV.int .i64 0) : List PV) ++ ([.bool false, .bool false, .bool false, .bool false, .bool false, .bool false] : List PV) ++ (List.replicate 384 (PV.int .i64 0) : List PV)) := by kernel_rfl
theorem sz105 : szT Try.prog 105 = some 1 := by kernel_rfl
theorem by105 : byT Try.prog 105 = some 8 := by kernel_rfl
theorem sz106 : szT Try.prog 106 = some 4 := by kernel_rfl
theorem by106 : byT Try.prog 106 = some 24 := by kernel_rfl
theorem zc106 : zcells Try.prog 106 = some (([.int .i64 0, .int .i64 0, .bool false, .bool false] : List PV)) := by kernel_rfl
theorem sz107 : szT Try.prog 107 = some 1 := by kernel_rfl
theorem by107 : byT Try.prog 107 = some 8 := by kernel_rfl
theorem sz108 : szT Try.prog 108 = some 1 := by kernel_rfl
theorem by108 : byT Try.prog 108 = some 8 := by kernel_rfl
theorem sz109 : szT Try.prog 109 = some 1 := by kernel_rfl
theorem by109 : byT Try.prog 109 = some 8 := by kernel_rfl
theorem sz110 : szT Try.prog 110 = some 1 := by kernel_rfl
theorem by110 : byT Try.prog 110 = some 8 := by kernel_rfl
theorem sz111 : szT Try.prog 111 = some 3 := by kernel_rfl
theorem by111 : byT Try.prog 111 = some 24 := by kernel_rfl
theorem zc111 : zcells Try.prog 111 = some (([.int .i64 0, .int .i64 0, .int .i64 0] : List PV)) := by kernel_rfl
theorem sz112 : szT Try.prog 112 = some 8 := by kernel_rfl
theorem by112 : byT Try.prog 112 = some 64 := by kernel_rfl
theorem zc112 : zcells Try.prog 112 = some (([.int .i64 0, .int .i64 0, .int .i64 0, .int .i64 0, .int .i64 0, .int .i64 0, .int .i64 0, .int .i64 0] : List PV)) := by kernel_rfl
theorem sz113 : szT Try.prog 113 = some 8 := by kernel_rfl
theorem by113 : byT Try.prog 113 = some 64 := by kernel_rfl
theorem zc113 : zcells Try.prog 113 = some (([.int .i64 0, .int .i64 0, .int .i64 0, .int .i64 0, .int .i64 0, .int .i64 0, .int .i64 0, .int .i64 0] : List PV)) := by kernel_rfl
theorem sz114 : szT Try.prog 114 = some 1 := by kernel_rfl
theorem by114 : byT Try.prog 114 = some 8 := by kernel_rfl
theorem sz115 : szT Try.prog 115 = some 1 := by kernel_rfl
theorem by115 : byT Try.prog 115 = some 8 := by kernel_rfl
theorem sz116 : szT Try.prog 116 = some 8 := by kernel_rfl
theorem by116 : byT Try.prog 116 = some 64 := by kernel_rfl
theorem zc116 : zcells Try.prog 116 = some (([.int .i64 0, .int .i64 0, .int .i64 0, .int .i64 0, .int .i64 0, .int .i64 0, .int .i64 0, .int .i64 0] : List PV)) := by kernel_rfl
theorem sz117 : szT Try.prog 117 = some 1 := by kernel_rfl
theorem by117 : byT Try.prog 117 = some 24 := by kernel_rfl
theorem zc117 : zcells Try.prog 117 = some (([.slice [] 0 true] : List PV)) := by kernel_rfl
theorem sz118 : szT Try.prog 118 = some 1 := by kernel_rfl
theorem by118 : byT Try.prog 118 = some 8 := by kernel_rfl
theorem zc118 : zcells Try.prog 118 = some (([.nilp] : List PV)) := by kernel_rfl
theorem sz119 : szT Try.prog 119 = some 1 := by kernel_rfl
theorem by119 : byT Try.prog 119 = some 8 := by kernel_rfl
theorem sz120 : szT Try.prog 120 = some 1 := by kernel_rfl
theorem by120 : byT Try.prog 120 = some 0 := by kernel_rfl
theorem sz121 : szT Try.prog 121 = some 1 := by kernel_rfl
theorem by121 : byT Try.prog 121 = some 8 := by kernel_rfl
theorem sz122 : szT Try.prog 122 = some 1 := by kernel_rfl
theorem by122 : byT Try.prog 122 = some 8 := by kernel_rfl
theorem sz123 : szT Try.prog 123 = some 1 := by kernel_rfl
theorem by123 : byT Try.prog 123 = some 0 := by kernel_rfl
theorem sz124 : szT Try.prog 124 = some 1 := by kernel_rfl
theorem by124 : byT Try.prog 124 = some 8 := by kernel_rfl
theorem sz125 : szT Try.prog 125 = some 1 := by kernel_rfl
theorem by125 : byT Try.prog 125 = some 8 := by kernel_rfl
theorem sz126 : szT Try.prog 126 = some 1 := by kernel_rfl
theorem by126 : byT Try.prog 126 = some 8 := by kernel_rfl
theorem sz127 : szT Try.prog 127 = some 1 := by kernel_rfl
theorem by127 : byT Try.prog 127 = some 8 := by kernel_rfl
theorem sz128 : szT Try.prog 128 = some 1 := by kernel_rfl
theorem by128 : byT Try.prog 128 = some 8 := by kernel_rfl
theorem sz129 : szT Try.prog 129 = some 1 := by kernel_rfl
theorem by129 : byT Try.prog 129 = some 8 := by kernel_rfl
theorem sz130 : szT Try.prog 130 = some 1 := by kernel_rfl
theorem by130 : byT Try.prog 130 = some 8 := by kernel_rfl
theorem sz131 : szT Try.prog 131 = some 1 := by kernel_rfl
theorem by131 : byT Try.prog 131 = some 8 := by kernel_rfl
theorem sz132 : szT Try.prog 132 = some 1 := by kernel_rfl
theorem by132 : byT Try.prog 132 = some 4 := by kernel_rfl
theorem zc132 : zcells Try.prog 132 = some (([.int .u32 0] : List PV)) := by kernel_rfl
theorem sz133 : szT Try.prog 133 = some 1 := by kernel_rfl
theorem by133 : byT Try.prog 133 = some 8 := by kernel_rfl
theorem sz134 : szT Try.prog 134 = some 1 := by kernel_rfl
theorem by134 : byT Try.prog 134 = some 8 := by kernel_rfl
theorem sz135 : szT Try.prog 135 = some 1 := by kernel_rfl
theorem by135 : byT Try.prog 135 = some 8 := by kernel_rfl
theorem zc135 : zcells Try.prog 135 = some (([.nilp] : List PV)) := by kernel_rfl
theorem sz136 : szT Try.prog 136 = some 1 := by kernel_rfl
theorem by136 : byT Try.prog 136 = some 0 := by kernel_rfl
theorem sz137 : szT Try.prog 137 = some 1 := by kernel_rfl
theorem by137 : byT Try.prog 137 = some 8 := by kernel_rfl
theorem sz138 : szT Try.prog 138 = some 1 := by kernel_rfl
theorem by138 : byT Try.prog 138 = some 0 := by kernel_rfl
theorem sz139 : szT Try.prog 139 = some 1 := by kernel_rfl
theorem by139 : byT Try.prog 139 = some 8 := by kernel_rfl
theorem sz140 : szT Try.prog 140 = some 1 := by kernel_rfl
theorem by140 : byT Try.prog 140 = some 8 := by kernel_rfl
theorem zc140 : zcells Try.prog 140 = some (([.nilp] : List PV)) := by kernel_rfl
theorem sz141 : szT Try.prog 141 = some 1 := by kernel_rfl
theorem by141 : byT Try.prog 141 = some 0 := by kernel_rfl
theorem sz142 : szT Try.prog 142 = some 1 := by kernel_rfl
theorem by142 : byT Try.prog 142 = some 8 := by kernel_rfl
theorem sz143 : szT Try.prog 143 = some 1 := by kernel_rfl
theorem by143 : byT Try.prog 143 = some 8 := by kernel_rfl
theorem sz144 : szT Try.prog 144 = some 1 := by kernel_rfl
theorem by144 : byT Try.prog 144 = some 8 := by kernel_rfl
theorem sz145 : szT Try.prog 145 = some 1 := by kernel_rfl
theorem by145 : byT Try.prog 145 = some 8 := by kernel_rfl
theorem sz146 : szT Try.prog 146 = some 1 := by kernel_rfl
theorem by146 : byT Try.prog 146 = some 8 := by kernel_rfl
theorem sz147 : szT Try.prog 147 = some 1 := by kernel_rfl
theorem by147 : byT Try.prog 147 = some 8 := by kernel_rfl
theorem sz148 : szT Try.prog 148 = some 1 := by kernel_rfl
theorem by148 : byT Try.prog 148 = some 8 := by kernel_rfl
theorem sz149 : szT Try.prog 149 = some 1 := by kernel_rfl
theorem by149 : byT Try.prog 149 = some 8 := by kernel_rfl
theorem sz150 : szT Try.prog 150 = some 1 := by kernel_rfl
theorem by150 : byT Try.prog 150 = some 24 := by kernel_rfl
theorem zc150 : zcells Try.prog 150 = some (([.slice [] 0 true] : List PV)) := by kernel_rfl
theorem sz151 : szT Try.prog 151 = some 1 := by kernel_rfl
theorem by151 : byT Try.prog 151 = some 8 := by kernel_rfl
theorem sz152 : szT Try.prog 152 = some 1 := by kernel_rfl
theorem by152 : byT Try.prog 152 = some 24 := by kernel_rfl
theorem zc152 : zcells Try.prog 152 = some (([.slice [] 0 true] : List PV)) := by kernel_rfl
theorem sz153 : szT Try.prog 153 = some 1 := by kernel_rfl
theorem by153 : byT Try.prog 153 = some 24 := by kernel_rfl
theorem zc153 : zcells Try.prog 153 = some (([.slice [] 0 true] : List PV)) := by kernel_rfl
theorem sz154 : szT Try.prog 154 = some 4 := by kernel_rfl
theorem by154 : byT Try.prog 154 = some 40 := by kernel_rfl
theorem zc154 : zcells Try.prog 154 = some (([.bool false, .str [], .int .i64 0, .int .i64 0] : List PV)) := by kernel_rfl
theorem sz155 : szT Try.prog 155 = some 4 := by kernel_rfl
theorem by155 : byT Try.prog 155 = some 40 := by kernel_rfl
theorem zc155 : zcells Try.prog 155 = some (([.bool false, .str [], .int .i64 0, .int .i64 0] : List PV)) := by kernel_rfl
theorem sz156 : szT Try.prog 156 = some 1 := by kernel_rfl
theorem by156 : byT Try.prog 156 = some 8 := by kernel_rfl
theorem sz157 : szT Try.prog 157 = some 1 := by kernel_rfl
theorem by157 : byT Try.prog 157 = some 8 := by kernel_rfl
theorem sz158 : szT Try.prog 158 = some 1 := by kernel_rfl
theorem by158 : byT Try.prog 158 = some 8 := by kernel_rfl
theorem sz159 : szT Try.prog 159 = some 1 := by kernel_rfl
theorem by159 : byT Try.prog 159 = some 8 := by kernel_rfl
theorem sz160 : szT Try.prog 160 = some 1 := by kernel_rfl
theorem by160 : byT Try.prog 160 = some 8 := by kernel_rfl
theorem sz161 : szT Try.prog 161 = some 1 := by kernel_rfl
theorem by161 : byT Try.prog 161 = some 8 := by kernel_rfl
theorem sz162 : szT Try.prog 162 = some 1 := by kernel_rfl
theorem by162 : byT Try.prog 162 = some 8 := by kernel_rfl
theorem sz163 : szT Try.prog 163 = some 1 := by kernel_rfl
theorem by163 : byT Try.prog 163 = some 8 := by kernel_rfl
theorem zc163 : zcells Try.prog 163 = some (([.nilp] : List PV)) := by kernel_rfl
theorem sz164 : szT Try.prog 164 = some 1 := by kernel_rfl
theorem by164 : byT Try.prog 164 = some 8 := by kernel_rfl
theorem sz165 : szT Try.prog 165 = some 1 := by kernel_rfl
theorem by165 : byT Try.prog 165 = some 8 := by kernel_rfl
theorem sz166 : szT Try.prog 166 = some 2 := by kernel_rfl
theorem by166 : byT Try.prog 166 = some 32 := by kernel_rfl
theorem zc166 : zcells Try.prog 166 = some (([.slice [] 0 true, .int .i64 0] : List PV)) := by kernel_rfl
theorem sz167 : szT Try.prog 167 = some 2 := by kernel_rfl
theorem by167 : byT Try.prog 167 = some 32 := by kernel_rfl
theorem zc167 : zcells Try.prog 167 = some (([.slice [] 0 true, .int .i64 0] : List PV)) := by kernel_rfl
theorem sz168 : szT Try.prog 168 = some 1 := by kernel_rfl
theorem by168 : byT Try.prog 168 = some 8 := by kernel_rfl
theorem sz169 : szT Try.prog 169 = some 14 := by kernel_rfl
theorem by169 : byT Try.prog 169 = some 104 := by kernel_rfl
theorem zc169 : zcells Try.prog 169 = some (([.int .i64 0, .int .i64 0, .int .i64 0, .int .i64 0, .int .i64 0, .int .i64 0, .int .i64 0, .int .i64 0, .nilp, .int .i64 0, .int .i64 0, .bool false, .bool false, .nilp] : List PV)) := by kernel_rfl
theorem sz170 : szT Try.prog 170 = some 14 := by kernel_rfl
theorem by170 : byT Try.prog 170 = some 104 := by kernel_rfl
theorem zc170 : zcells Try.prog 170 = some (([.int .i64 0, .int .i64 0, .int .i64 0, .int .i64 0, .int .i64 0, .int .i64 0, .int .i64 0, .int .i64 0, .nilp, .int .i64 0, .int .i64 0, .bool false, .bool false, .nilp] : List PV)) := by kernel_rfl
theorem sz171 : szT Try.prog 171 = some 1 := by kernel_rfl
theorem by171 : byT Try.prog 171 = some 8 := by kernel_rfl
theorem sz172 : szT Try.prog 172 = some 1 := by kernel_rfl
theorem by172 : byT Try.prog 172 = some 8 := by kernel_rfl
theorem zc172 : zcells Try.prog 172 = some (([.nilp] : List PV)) := by kernel_rfl
theorem sz173 : szT Try.prog 173 = some 1 := by kernel_rfl
theorem by173 : byT Try.prog 173 = some 24 := by kernel_rfl
theorem zc173 : zcells Try.prog 173 = some (([.slice [] 0 true] : List PV)) := by kernel_rfl
theorem sz174 : szT Try.prog 174 = some 1 := by kernel_rfl
theorem by174 : byT Try.prog 174 = some 8 := by kernel_rfl
theorem sz175 : szT Try.prog 175 = some 1 := by kernel_rfl
theorem by175 : byT Try.prog 175 = some 8 := by kernel_rfl
theorem sz176 : szT Try.prog 176 = some 1 := by kernel_rfl
theorem by176 : byT Try.prog 176 = some 8 := by kernel_rfl
theorem sz177 : szT Try.prog 177 = some 1 := by kernel_rfl
theorem by177 : byT Try.prog 177 = some 8 := by kernel_rfl
theorem sz178 : szT Try.prog 178 = some 1 := by kernel_rfl
theorem by178 : byT Try.prog 178 = some 0 := by kernel_rfl
theorem sz179 : szT Try.prog 179 = some 1 := by kernel_rfl
theorem by179 : byT Try.prog 179 = some 8 := by kernel_rfl
theorem sz180 : szT Try.prog 180 = some 3 := by kernel_rfl
theorem by180 : byT Try.prog 180 = some 40 := by kernel_rfl
theorem zc180 : zcells Try.prog 180 = some (([.slice [] 0 true, .int .i64 0, .int .i64 0] : List PV)) := by kernel_rfl
theorem sz181 : szT Try.prog 181 = some 3 := by kernel_rfl
theorem by181 : byT Try.prog 181 = some 40 := by kernel_rfl
theorem zc181 : zcells Try.prog 181 = some (([.slice [] 0 true, .int .i64 0, .int .i64 0] : List PV)) := by kernel_rfl
theorem sz182 : szT Try.prog 182 = some 1 := by kernel_rfl
theorem by182 : byT Try.prog 182 = some 8 := by kernel_rfl
theorem sz183 : szT Try.prog 183 = some 2 := by kernel_rfl
theorem by183 : byT Try.prog 183 = some 32 := by kernel_rfl
theorem zc183 : zcells Try.prog 183 = some (([.slice [] 0 true, .int .i64 0] : List PV)) := by kernel_rfl
theorem sz184 : szT Try.prog 184 = some 2 := by kernel_rfl
theorem by184 : byT Try.prog 184 = some 32 := by kernel_rfl
theorem zc184 : zcells Try.prog 184 = some (([.slice [] 0 true, .int .i64 0] : List PV)) := by kernel_rfl
theorem sz185 : szT Try.prog 185 = some 1 := by kernel_rfl
theorem by185 : byT Try.prog 185 = some 8 := by kernel_rfl
theorem zc185 : zcells Try.prog 185 = some (([.int .u64 0] : List PV)) := by kernel_rfl
theorem sz186 : szT Try.prog 186 = some 1 := by kernel_rfl
theorem by186 : byT Try.prog 186 = some 8 := by kernel_rfl
theorem sz187 : szT Try.prog 187 = some 1 := by kernel_rfl
theorem by187 : byT Try.prog 187 = some 8 := by kernel_rfl
theorem sz188 : szT Try.prog 188 = some 1 := by kernel_rfl
theorem by188 : byT Try.prog 188 = some 24 := by kernel_rfl
theorem zc188 : zcells Try.prog 188 = some (([.slice [] 0 true] : List PV)) := by kernel_rfl
theorem sz189 : szT Try.prog 189 = some 1 := by kernel_rfl
theorem by189 : byT Try.prog 189 = some 8 := by kernel_rfl
theorem sz190 : szT Try.prog 190 = some 1 := by kernel_rfl
theorem by190 : byT Try.prog 190 = some 8 := by kernel_rfl
theorem sz191 : szT Try.prog 191 = some 1 := by kernel_rfl
theorem by191 : byT Try.prog 191 = some 8 := by kernel_rfl
theorem sz192 : szT Try.prog 192 = some 1 := by kernel_rfl
theorem by192 : byT Try.prog 192 = some 0 := by kernel_rfl
theorem sz193 : szT Try.prog 193 = some 1 := by kernel_rfl
theorem by193 : byT Try.prog 193 = some 8 := by kernel_rfl
theorem zc193 : zcells Try.prog 193 = some (([.nilp] : List PV)) := by kernel_rfl
theorem sz194 : szT Try.prog 194 = some 1 := by kernel_rfl
theorem by194 : byT Try.prog 194 = some 8 := by kernel_rfl
theorem sz195 : szT Try.prog 195 = some 1 := by kernel_rfl
theorem by195 : byT Try.prog 195 = some 8 := by kernel_rfl
theorem sz196 : szT Try.prog 196 = some 1 := by kernel_rfl
theorem by196 : byT Try.prog 196 = some 8 := by kernel_rfl
theorem sz197 : szT Try.prog 197 = some 1 := by kernel_rfl
theorem by197 : byT Try.prog 197 = some 8 := by kernel_rfl
theorem sz198 : szT Try.prog 198 = some 1 := by kernel_rfl
theorem by198 : byT Try.prog 198 = some 8 := by kernel_rfl
theorem sz199 : szT Try.prog 199 = some 1 := by kernel_rfl
theorem by199 : byT Try.prog 199 = some 8 := by kernel_rfl
theorem sz200 : szT Try.prog 200 = some 1 := by kernel_rfl
theorem by200 : byT Try.prog 200 = some 8 := by kernel_rfl
theorem sz201 : szT Try.prog 201 = some 1 := by kernel_rfl
theorem by201 : byT Try.prog 201 = some 8 := by kernel_rfl
theorem zc201 : zcells Try.prog 201 = some (([.nilp] : List PV)) := by kernel_rfl
theorem sz202 : szT Try.prog 202 = some 1 := by kernel_rfl
theorem by202 : byT Try.prog 202 = some 8 := by kernel_rfl
theorem sz203 : szT Try.prog 203 = some 1 := by kernel_rfl
theorem by203 : byT Try.prog 203 = some 8 := by kernel_rfl
theorem sz204 : szT Try.prog 204 = some 1 := by kernel_rfl
theorem by204 : byT Try.prog 204 = some 8 := by kernel_rfl
theorem sz205 : szT Try.prog 205 = some 1 := by kernel_rfl
theorem by205 : byT Try.prog 205 = some 8 := by kernel_rfl
theorem sz206 : szT Try.prog 206 = some 1 := by kernel_rfl
theorem by206 : byT Try.prog 206 = some 8 := by kernel_rfl
theorem sz207 : szT Try.prog 207 = some 4 := by kernel_rfl
theorem by207 : byT Try.prog 207 = some 40 := by kernel_rfl
theorem zc207 : zcells Try.prog 207 = some (([.nilp, .nilp, .nilp, .str []] : List PV)) := by kernel_rfl
theorem sz208 : szT Try.prog 208 = some 4 := by kernel_rfl
theorem by208 : byT Try.prog 208 = some 40 := by kernel_rfl
theorem zc208 : zcells Try.prog 208 = some (([.nilp, .nilp, .nilp, .str []] : List PV)) := by kernel_rfl
theorem sz209 : szT Try.prog 209 = some 0 := by kernel_rfl
theorem by209 : byT Try.prog 209 = some 0 := by kernel_rfl
theorem zc209 : zcells Try.prog 209 = some (([] : List PV)) := by kernel_rfl
theorem sz210 : szT Try.prog 210 = some 0 := by kernel_rfl
theorem by210 : byT Try.prog 210 = some 0 := by kernel_rfl
theorem zc210 : zcells Try.prog 210 = some (([] : List PV)) := by kernel_rfl
theorem sz211 : szT Try.prog 211 = some 0 := by kernel_rfl
theorem by211 : byT Try.prog 211 = some 0 := by kernel_rfl
theorem zc211 : zcells Try.prog 211 = some (([] : List PV)) := by kernel_rfl
theorem sz212 : szT Try.prog 212 = some 1 := by kernel_rfl
theorem by212 : byT Try.prog 212 = some 1 := by kernel_rfl
theorem zc212 : zcells Try.prog 212 = some (([.int .u8 0] : List PV)) := by kernel_rfl
theorem sz213 : szT Try.prog 213 = some 1 := by kernel_rfl
theorem by213 : byT Try.prog 213 = some 1 := by kernel_rfl
theorem zc213 : zcells Try.prog 213 = some (([.int .u8 0] : List PV)) := by kernel_rfl
theorem sz214 : szT Try.prog 214 = some 1 := by kernel_rfl
theorem by214 : byT Try.prog 214 = some 8 := by kernel_rfl
theorem sz215 : szT Try.prog 215 = some 1 := by kernel_rfl
theorem by215 : byT Try.prog 215 = some 8 := by kernel_rfl
theorem zc215 : zcells Try.prog 215 = some (([.nilp] : List PV)) := by kernel_rfl
theorem sz216 : szT Try.prog 216 = some 1 := by kernel_rfl
theorem by216 : byT Try.prog 216 = some 4 := by kernel_rfl
theorem zc216 : zcells Try.prog 216 = some (([.int .i32 0] : List PV)) := by kernel_rfl
theorem sz217 : szT Try.prog 217 = some 1 := by kernel_rfl
theorem by217 : byT Try.prog 217 = some 4 := by kernel_rfl
theorem zc217 : zcells Try.prog 217 = some (([.int .i32 0] : List PV)) := by kernel_rfl
theorem sz218 : szT Try.prog 218 = some 11 := by kernel_rfl
theorem by218 : byT Try.prog 218 = some 48 := by kernel_rfl
theorem sz219 : szT Try.prog 219 = some 11 := by kernel_rfl
theorem by219 : byT Try.prog 219 = some 48 := by kernel_rfl
theorem sz220 : szT Try.prog 220 = some 1 := by kernel_rfl
theorem by220 : byT Try.prog 220 = some 8 := by kernel_rfl
theorem zc220 : zcells Try.prog 220 = some (([.nilp] : List PV)) := by kernel_rfl
theorem mix : Try.prog.follows .mixedOrders = true := by kernel_rfl
attribute [go_sem] sz0 sz1 sz2 sz3 sz4 sz5 sz6 sz7 sz8 sz9 sz10 sz11 sz12 sz13 sz14 sz15 sz16 sz17 sz18 sz19 sz20 sz21 sz22 sz23 sz24 sz25 sz26 sz27 sz28 sz29 sz30 sz31 sz32 sz33 sz34 sz35 sz36 sz37 sz38 sz39
attribute [go_sem] sz40 sz41 sz42 sz43 sz44 sz45 sz46 sz47 sz48 sz49 sz50 sz51 sz52 sz53 sz54 sz55 sz56 sz57 sz58 sz59 sz60 sz61 sz62 sz63 sz64 sz65 sz66 sz67 sz68 sz69 sz70 sz71 sz72 sz73 sz74 sz75 sz76 sz77 sz78 sz79
attribute [go_sem] sz80 sz81 sz82 sz83 sz84 sz85 sz86 sz87 sz88 sz89 sz90 sz91 sz92 sz93 sz94 sz95 sz96 sz97 sz98 sz99 sz100 sz101 sz102 sz103 sz104 sz105 sz106 sz107 sz108 sz109 sz110 sz111 sz112 sz113 sz114 sz115 sz116 sz117 sz118 sz119
attribute [go_sem] sz120 sz121 sz122 sz123 sz124 sz125 sz126 sz127 sz128 sz129 sz130 sz131 sz132 sz133 sz134 sz135 sz136 sz137 sz138 sz139 sz140 sz141 sz142 sz143 sz144 sz145 sz146 sz147 sz148 sz149 sz150 sz151 sz152 sz153 sz154 sz155 sz156 sz157 sz158 sz159
attribute [go_sem] sz160 sz161 sz162 sz163 sz164 sz165 sz166 sz167 sz168 sz169 sz170 sz171 sz172 sz173 sz174 sz175 sz176 sz177 sz178 sz179 sz180 sz181 sz182 sz183 sz184 sz185 sz186 sz187 sz188 sz189 sz190 sz191 sz192 sz193 sz194 sz195 sz196 sz197 sz198 sz199
attribute [go_sem] sz200 sz201 sz202 sz203 sz204 sz205 sz206 sz207 sz208 sz209 sz210 sz211 sz212 sz213 sz214 sz215 sz216 sz217 sz218 sz219 sz220 by0 by1 by2 by3 by4 by5 by6 by7 by8 by9 by10 by11 by12 by13 by14 by15 by16 by17 by18
attribute [go_sem] by19 by20 by21 by22 by23 by24 by25 by26 by27 by28 by29 by30 by31 by32 by33 by34 by35 by36 by37 by38 by39 by40 by41 by42 by43 by44 by45 by46 by47 by48 by49 by50 by51 by52 by53 by54 by55 by56 by57 by58
attribute [go_sem] by59 by60 by61 by62 by63 by64 by65 by66 by67 by68 by69 by70 by71 by72 by73 by74 by75 by76 by77 by78 by79 by80 by81 by82 by83 by84 by85 by86 by87 by88 by89 by90 by91 by92 by93 by94 by95 by96 by97 by98
attribute [go_sem] by99 by100 by101 by102 by103 by104 by105 by106 by107 by108 by109 by110 by111 by112 by113 by114 by115 by116 by117 by118 by119 by120 by121 by122 by123 by124 by125 by126 by127 by128 by129 by130 by131 by132 by133 by134 by135 by136 by137 by138
attribute [go_sem] by139 by140 by141 by142 by143 by144 by145 by146 by147 by148 by149 by150 by151 by152 by153 by154 by155 by156 by157 by158 by159 by160 by161 by162 by163 by164 by165 by166 by167 by168 by169 by170 by171 by172 by173 by174 by175 by176 by177 by178
attribute [go_sem] by179 by180 by181 by182 by183 by184 by185 by186 by187 by188 by189 by190 by191 by192 by193 by194 by195 by196 by197 by198 by199 by200 by201 by202 by203 by204 by205 by206 by207 by208 by209 by210 by211 by212 by213 by214 by215 by216 by217 by218
attribute [go_sem] by219 by220 zc2 zc3 zc4 zc5 zc6 zc7 zc8 zc9 zc10 zc11 zc12 zc13 zc14 zc15 zc16 zc17 zc18 zc19 zc21 zc22 zc23 zc24 zc25 zc26 zc27 zc35 zc36 zc37 zc38 zc39 zc43 zc44 zc45 zc46 zc47 zc48 zc49 zc50
attribute [go_sem] zc52 zc53 zc57 zc58 zc59 zc63 zc67 zc69 zc70 zc71 zc76 zc77 zc80 zc81 zc84 zc85 zc88 zc89 zc91 zc92 zc93 zc94 zc95 zc96 zc97 zc98 zc99 zc100 zc101 zc102 zc103 zc104 zc106 zc111 zc112 zc113 zc116 zc117 zc118 zc132
attribute [go_sem] zc135 zc140 zc150 zc152 zc153 zc154 zc155 zc163 zc166 zc167 zc169 zc170 zc172 zc173 zc180 zc181 zc183 zc184 zc185 zc188 zc193 zc201 zc207 zc208 zc209 zc210 zc211 zc212 zc213 zc215 zc216 zc217 zc220 Try.underlying0 Try.underlying1 Try.underlying2 Try.underlying3 Try.underlying4 Try.underlying5 Try.underlying6
attribute [go_sem] Try.underlying7 Try.underlying8 Try.underlying9 Try.underlying10 Try.underlying11 Try.underlying12 Try.underlying13 Try.underlying14 Try.underlying15 Try.underlying16 Try.underlying17 Try.underlying18 Try.underlying19 Try.underlying20 Try.underlying21 Try.underlying22 Try.underlying23 Try.underlying24 Try.underlying25 Try.underlying26 Try.underlying27 Try.underlying28 Try.underlying29 Try.underlying30 Try.underlying31 Try.underlying32 Try.underlying33 Try.underlying34 Try.underlying35 Try.underlying36 Try.underlying37 Try.underlying38 Try.underlying39 Try.underlying40 Try.underlying41 Try.underlying42 Try.underlying43 Try.underlying44 Try.underlying45 Try.underlying46
attribute [go_sem] Try.underlying47 Try.underlying48 Try.underlying49 Try.underlying50 Try.underlying51 Try.underlying52 Try.underlying53 Try.underlying54 Try.underlying55 Try.underlying56 Try.underlying57 Try.underlying58 Try.underlying59 Try.underlying60 Try.underlying61 Try.underlying62 Try.underlying63 Try.underlying64 Try.underlying65 Try.underlying66 Try.underlying67 Try.underlying68 Try.underlying69 Try.underlying70 Try.underlying71 Try.underlying72 Try.underlying73 Try.underlying74 Try.underlying75 Try.underlying76 Try.underlying77 Try.underlying78 Try.underlying79 Try.underlying80 Try.underlying81 Try.underlying82 Try.underlying83 Try.underlying84 Try.underlying85 Try.underlying86
attribute [go_sem] Try.underlying87 Try.underlying88 Try.underlying89 Try.underlying90 Try.underlying91 Try.underlying92 Try.underlying93 Try.underlying94 Try.underlying95 Try.underlying96 Try.underlying97 Try.underlying98 Try.underlying99 Try.underlying100 Try.underlying101 Try.underlying102 Try.underlying103 Try.underlying104 Try.underlying105 Try.underlying106 Try.underlying107 Try.underlying108 Try.underlying109 Try.underlying110 Try.underlying111 Try.underlying112 Try.underlying113 Try.underlying114 Try.underlying115 Try.underlying116 Try.underlying117 Try.underlying118 Try.underlying119 Try.underlying120 Try.underlying121 Try.underlying122 Try.underlying123 Try.underlying124 Try.underlying125 Try.underlying126
attribute [go_sem] Try.underlying127 Try.underlying128 Try.underlying129 Try.underlying130 Try.underlying131 Try.underlying132 Try.underlying133 Try.underlying134 Try.underlying135 Try.underlying136 Try.underlying137 Try.underlying138 Try.underlying139 Try.underlying140 Try.underlying141 Try.underlying142 Try.underlying143 Try.underlying144 Try.underlying145 Try.underlying146 Try.underlying147 Try.underlying148 Try.underlying149 Try.underlying150 Try.underlying151 Try.underlying152 Try.underlying153 Try.underlying154 Try.underlying155 Try.underlying156 Try.underlying157 Try.underlying158 Try.underlying159 Try.underlying160 Try.underlying161 Try.underlying162 Try.underlying163 Try.underlying164 Try.underlying165 Try.underlying166
attribute [go_sem] Try.underlying167 Try.underlying168 Try.underlying169 Try.underlying170 Try.underlying171 Try.underlying172 Try.underlying173 Try.underlying174 Try.underlying175 Try.underlying176 Try.underlying177 Try.underlying178 Try.underlying179 Try.underlying180 Try.underlying181 Try.underlying182 Try.underlying183 Try.underlying184 Try.underlying185 Try.underlying186 Try.underlying187 Try.underlying188 Try.underlying189 Try.underlying190 Try.underlying191 Try.underlying192 Try.underlying193 Try.underlying194 Try.underlying195 Try.underlying196 Try.underlying197 Try.underlying198 Try.underlying199 Try.underlying200 Try.underlying201 Try.underlying202 Try.underlying203 Try.underlying204 Try.underlying205 Try.underlying206
attribute [go_sem] Try.underlying207 Try.underlying208 Try.underlying209 Try.underlying210 Try.underlying211 Try.underlying212 Try.underlying213 Try.underlying214 Try.underlying215 Try.underlying216 Try.underlying217 Try.underlying218 Try.underlying219 Try.underlying220 Try.eqGuardType37 Try.eqGuardType93 Try.eqGuardType96 Try.eqGuardType97 Try.eqGuardType98 Try.eqGuardType99 Try.eqGuardType100 Try.eqGuardType101 Try.eqGuardType102 Try.eqGuardType111 Try.eqGuardType209
end Go.Proofs.Ytnjnikafhbholaa.Ty

namespace Go.Proofs.Ytnjnikafhbholaa.Sc
set_option linter.all false
set_option linter.unusedVariables false
set_option linter.unusedSimpArgs false
open Pm Ty Go.RowKit

/-- Bytes as cells. -/
def bs (p : List UInt8) : List PV := p.map fun b => .int .u8 (b.toNat : Int)
theorem length_bs (p : List UInt8) : (bs p).length = p.length := by simp [bs]
def byt (p : List UInt8) (k : Nat) : Int := ((p.getD k 0).toNat : Int)
theorem byt_range (p : List UInt8) (k : Nat) : 0 ≤ byt p k ∧ byt p k ≤ 255 := by
  unfold byt
  have := (p.getD k 0).toNat_lt
  omega
theorem bs_get (p : List UInt8) (k : Nat) (h : k < p.length) : (bs p)[k]? = some (.int .u8 (byt p k)) := by
  simp [bs, byt, h]
theorem pbytes_bs (p : List UInt8) : pbytes (bs p) = some p := by
  unfold pbytes bs
  induction p with
  | nil => rfl
  | cons b p ih => simp [List.mapM_cons, Pm.byteOf, ih]
theorem bs_nil : bs [] = [] := rfl
theorem bs_append (p q : List UInt8) : bs (p ++ q) = bs p ++ bs q := by simp [bs]
theorem bs_still (p : List UInt8) : ∀ x ∈ bs p, Still x := fun x hx => by
  obtain ⟨b, _, rfl⟩ := List.mem_map.1 hx
  exact .int _ _
theorem take_succ_byte (p : List UInt8) (k : Nat) (h : k < p.length) : p.take (k + 1) = p.take k ++ [p.getD k 0] := by
  rw [List.take_succ_eq_append_getElem h]
  simp [h]
theorem bs_one (b : UInt8) : bs [b] = [.int .u8 (b.toNat : Int)] := rfl
theorem bs_rep (n : Nat) : bs (List.replicate n 0) = List.replicate n (.int .u8 0) := by simp [bs]
theorem bs_scoped (n : Nat) (p : List UInt8) : ∀ x ∈ bs p, Scoped n x := fun x hx => by
  obtain ⟨b, _, rfl⟩ := List.mem_map.1 hx
  exact .int _ _
theorem sl_scoped {n k : Nat} {xs : List PV} {f : Bool} (h : ∀ x ∈ xs, Scoped n x) : Scoped n (.slice xs k f) := .slice fun j x hx => h x (List.mem_of_getElem? hx)
theorem ag_scoped {n : Nat} {xs : List PV} (h : ∀ x ∈ xs, Scoped n x) : Scoped n (.agg xs) := .agg fun j x hx => h x (List.mem_of_getElem? hx)
theorem _root_.Go.Proofs.Ytnjnikafhbholaa.Pm.Fz.id' {n : Nat} {H : Heap} {x y : PV} (e : x = y) (h : Scoped n y) : Fz n H x y := e ▸ .id (e ▸ h)
theorem bs_set (b : List UInt8) (i : Nat) (v : UInt8) : (bs b).set i (.int .u8 (v.toNat : Int)) = bs (b.set i v) := by
  simp [bs, List.map_set]
theorem u8_wrap (n : Int) : ∃ v : UInt8, IntKind.u8.wrap n = (v.toNat : Int) := by
  have h : 0 ≤ IntKind.u8.wrap n ∧ IntKind.u8.wrap n ≤ 255 := by
    simp [IntKind.wrap, IntKind.bits, IntKind.signed]
    omega
  exact ⟨UInt8.ofNat (IntKind.u8.wrap n).toNat, by simp; omega⟩
theorem bs_drop (p : List UInt8) (k : Nat) : (bs p).drop k = bs (p.drop k) := by simp [bs]
theorem bs_take (p : List UInt8) (k : Nat) : (bs p).take k = bs (p.take k) := by simp [bs]
theorem bs_inj {p q : List UInt8} (h : bs p = bs q) : p = q := by
  have h1 := pbytes_bs p
  rw [h, pbytes_bs] at h1
  exact (Option.some.inj h1).symm
/-- == of two lists of bytes, cell by cell. -/
theorem peqI_bs (k : IntKind) : ∀ (p q : List UInt8), p.length = q.length → peqI (.int k) (bs p) (bs q) = some (p == q)
  | [], [], _ => rfl
  | a :: p, b :: q, h => by
    have ih := peqI_bs k p q (by simpa using h)
    have e : ((a.toNat : Int) == (b.toNat : Int)) = (a == b) := by
      rw [Bool.eq_iff_iff]; simp only [beq_iff_eq]
      exact ⟨fun h => UInt8.toNat_inj.1 (by omega), fun h => by rw [h]⟩
    show (match peqS (.int k) (.int .u8 (a.toNat : Int)) (.int .u8 (b.toNat : Int)) with | some c => (peqI (.int k) (bs p) (bs q)).map fun r => c && r | none => none) = _
    rw [ih]
    simp only [peqS, if_true, Option.map_some, e]
    rfl
  | [], _ :: _, h => by simp at h
  | _ :: _, [], h => by simp at h

theorem tdiv_abs (a b : Int) : -(a.natAbs : Int) ≤ a.tdiv b ∧ a.tdiv b ≤ (a.natAbs : Int) := by
  have h : (a.tdiv b).natAbs ≤ a.natAbs := by rw [Int.natAbs_tdiv]; exact Nat.div_le_self _ _
  omega
/-- A quotient does not wrap. -/
theorem wq64 (a b : Int) (h : -9223372036854775807 ≤ a ∧ a ≤ 9223372036854775807) : IntKind.i64.wrap (a.tdiv b) = a.tdiv b := by
  have := tdiv_abs a b
  exact w64 _ (by omega)
theorem tmodN (x y : Nat) : (x : Int).tmod (y : Int) = ((x % y : Nat) : Int) := by rw [Int.tmod_eq_emod_of_nonneg (by omega)]; rfl
theorem tdivN (a b : Nat) : (a : Int).tdiv (b : Int) = ((a / b : Nat) : Int) := rfl
theorem tdiv_pos (a b : Int) (h : 0 ≤ a) : a.tdiv b = a / b := Int.tdiv_eq_ediv_of_nonneg h
theorem tmod_pos (a b : Int) (h : 0 ≤ a) : a.tmod b = a % b := Int.tmod_eq_emod_of_nonneg h

theorem wu64 (n : Int) (h : 0 ≤ n ∧ n ≤ 18446744073709551615) : IntKind.u64.wrap n = n := by
  simp only [IntKind.wrap, IntKind.bits, IntKind.signed, Bool.false_and, Bool.false_eq_true, if_false]
  omega
theorem wu64n (n : Int) (h : -18446744073709551616 ≤ n ∧ n < 0) : IntKind.u64.wrap n = n + 18446744073709551616 := by
  simp only [IntKind.wrap, IntKind.bits, IntKind.signed, Bool.false_and, Bool.false_eq_true, if_false]
  omega

/-- A list of ints as cells. -/
def is (l : List Int) : List PV := l.map fun n => .int .i64 n
theorem is_len (l : List Int) : (is l).length = l.length := by simp [is]
def intAt (l : List Int) (k : Nat) : Int := l.getD k 0
theorem is_get (l : List Int) (i : Nat) (h : i < l.length) : (is l)[i]? = some (.int .i64 (intAt l i)) := by simp [is, intAt, h]
theorem is_append (p q : List Int) : is (p ++ q) = is p ++ is q := by simp [is]
theorem is_scoped (n : Nat) (p : List Int) : ∀ x ∈ is p, Scoped n x := fun x hx => by
  obtain ⟨b, _, rfl⟩ := List.mem_map.1 hx
  exact .int _ _
theorem is_set (b : List Int) (i : Nat) (v : Int) : (is b).set i (.int .i64 v) = is (b.set i v) := by simp [is, List.map_set]
theorem is_drop (p : List Int) (k : Nat) : (is p).drop k = is (p.drop k) := by simp [is]
theorem is_take (p : List Int) (k : Nat) : (is p).take k = is (p.take k) := by simp [is]
theorem peqI_is (k : IntKind) : ∀ (p q : List Int), p.length = q.length → peqI (.int k) (is p) (is q) = some (p == q)
  | [], [], _ => rfl
  | a :: p, b :: q, h => by
    have ih := peqI_is k p q (by simpa using h)
    show (match peqS (.int k) (.int .i64 a) (.int .i64 b) with | some c => (peqI (.int k) (is p) (is q)).map fun r => c && r | none => none) = _
    rw [ih]
    simp only [peqS, if_true, Option.map_some]
    rfl
  | [], _ :: _, h => by simp at h
  | _ :: _, [], h => by simp at h

/-- A list of flags as cells. -/
def fs (l : List Bool) : List PV := l.map fun b => .bool b
theorem fs_len (l : List Bool) : (fs l).length = l.length := by simp [fs]
def flagAt (l : List Bool) (k : Nat) : Bool := l.getD k false
theorem fs_get (l : List Bool) (i : Nat) (h : i < l.length) : (fs l)[i]? = some (.bool (flagAt l i)) := by simp [fs, flagAt, h]
theorem fs_append (p q : List Bool) : fs (p ++ q) = fs p ++ fs q := by simp [fs]
theorem fs_scoped (n : Nat) (p : List Bool) : ∀ x ∈ fs p, Scoped n x := fun x hx => by
  obtain ⟨b, _, rfl⟩ := List.mem_map.1 hx
  exact .bool _
theorem fs_set (b : List Bool) (i : Nat) (v : Bool) : (fs b).set i (.bool v) = fs (b.set i v) := by simp [fs, List.map_set]

/-! ### shifts and bits -/
theorem fdivN (a b : Nat) : (a : Int).fdiv (b : Int) = ((a / b : Nat) : Int) := by
  rw [Int.fdiv_eq_ediv_of_nonneg _ (by omega)]; rfl
theorem pshr_u32 (k' : IntKind) (V s : Nat) (h : s ≤ 32) : pint .shr .u32 (V : Int) k' (s : Int) = some (.int .u32 ((V / 2 ^ s : Nat) : Int)) := by
  simp only [pint, IntKind.bits]
  rw [if_neg (by omega), show min (s : Int).toNat 32 = s by omega, show ((2 : Int) ^ s) = ((2 ^ s : Nat) : Int) by simp, fdivN]
theorem pshr_u8 (k' : IntKind) (V s : Nat) (h : s ≤ 8) : pint .shr .u8 (V : Int) k' (s : Int) = some (.int .u8 ((V / 2 ^ s : Nat) : Int)) := by
  simp only [pint, IntKind.bits]
  rw [if_neg (by omega), show min (s : Int).toNat 8 = s by omega, show ((2 : Int) ^ s) = ((2 ^ s : Nat) : Int) by simp, fdivN]
theorem pand1_u32 (V : Nat) : pint .and .u32 (V : Int) .u32 1 = some (.int .u32 ((V % 2 : Nat) : Int)) := by
  have h0 : (BitVec.ofInt 32 (V : Int) &&& BitVec.ofInt 32 1).toNat = V % 2 := by
    rw [BitVec.ofInt_natCast, BitVec.toNat_and, BitVec.toNat_ofNat, show (BitVec.ofInt 32 1).toNat = 1 by decide, Nat.and_one_is_mod]
    omega
  have : (BitVec.ofInt IntKind.u32.bits (V : Int) &&& BitVec.ofInt IntKind.u32.bits 1).toNat = V % 2 := h0
  simp only [pint, this, if_true]
  rw [w32 _ (by omega)]
theorem pand1_u8 (V : Nat) : pint .and .u8 (V : Int) .u8 1 = some (.int .u8 ((V % 2 : Nat) : Int)) := by
  have h0 : (BitVec.ofInt 8 (V : Int) &&& BitVec.ofInt 8 1).toNat = V % 2 := by
    rw [BitVec.ofInt_natCast, BitVec.toNat_and, BitVec.toNat_ofNat, show (BitVec.ofInt 8 1).toNat = 1 by decide, Nat.and_one_is_mod]
    omega
  have : (BitVec.ofInt IntKind.u8.bits (V : Int) &&& BitVec.ofInt IntKind.u8.bits 1).toNat = V % 2 := h0
  simp only [pint, this, if_true]
  rw [w8 _ (by omega)]
theorem pshl_u8 (k' : IntKind) (V s : Nat) (h : V * 2 ^ s < 256) (hs : s ≤ 8) : pint .shl .u8 (V : Int) k' (s : Int) = some (.int .u8 ((V * 2 ^ s : Nat) : Int)) := by
  simp only [pint, IntKind.bits]
  rw [if_neg (by omega), show min (s : Int).toNat 8 = s by omega, show (V : Int) * (2 : Int) ^ s = ((V * 2 ^ s : Nat) : Int) by simp, w8 _ (by omega)]
theorem or_dis : ∀ a < 256, ∀ s < 8, a % 2 ^ (s + 1) = 0 → (BitVec.ofNat 8 a ||| BitVec.ofNat 8 (2 ^ s)).toNat = a + 2 ^ s := by decide +kernel
/-- A bit is set that was 0. -/
theorem por_u8 (V s c : Nat) (h : V < 256) (hs : s < 8) (hz : V % 2 ^ (s + 1) = 0) (hc : c < 2) : pint .or .u8 (V : Int) .u8 ((c * 2 ^ s : Nat) : Int) = some (.int .u8 ((V + c * 2 ^ s : Nat) : Int)) := by
  have key0 : (BitVec.ofInt 8 (V : Int) ||| BitVec.ofInt 8 ((c * 2 ^ s : Nat) : Int)).toNat = V + c * 2 ^ s := by
    rw [BitVec.ofInt_natCast, BitVec.ofInt_natCast]
    rcases Nat.lt_or_ge c 1 with h0 | h0
    · have : c = 0 := by omega
      subst this
      rw [Nat.zero_mul, BitVec.toNat_or, BitVec.toNat_ofNat, BitVec.toNat_ofNat]
      simp
      omega
    · have : c = 1 := by omega
      subst this
      rw [Nat.one_mul]
      exact or_dis V h s hs hz
  have key : (BitVec.ofInt IntKind.u8.bits (V : Int) ||| BitVec.ofInt IntKind.u8.bits ((c * 2 ^ s : Nat) : Int)).toNat = V + c * 2 ^ s := key0
  have hlt : V + c * 2 ^ s < 256 := by
    have := BitVec.isLt (BitVec.ofInt IntKind.u8.bits (V : Int) ||| BitVec.ofInt IntKind.u8.bits ((c * 2 ^ s : Nat) : Int))
    rw [key] at this
    exact this
  simp only [pint, key, if_true]
  rw [w8 _ (by omega)]

end Go.Proofs.Ytnjnikafhbholaa.Sc
