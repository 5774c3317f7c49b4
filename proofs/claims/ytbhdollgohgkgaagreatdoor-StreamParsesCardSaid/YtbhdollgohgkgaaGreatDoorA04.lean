/-
  Parts of the proof. No condition.
-/
import Derived.Test.YtbhdollgohgkgaaGreatDoorA03
import Derived.ProofKit
import Derived.OpenShut
import Derived.ChangeOld
import Derived.Carry
import Derived.Test.YtbhdollgohgkgaaGreatDoorRows
import Derived.LaidMore
import Derived.MakeChecks
import Derived.LaidHandle
import Derived.FnData
namespace Go.Proofs.YtbhdollgohgkgaaGreatDoor.Pm
set_option linter.all false
set_option linter.unusedVariables false
set_option linter.unusedSimpArgs false
open Go.RowKit

variable {P : Program} {C : Ctx} {H : Heap} {w : World} {F : Fr} {a : Act} {N : Nat}

/-- The context as it is known once the blocks from n on are given up. -/
def Ctx.cut (C : Ctx) (n : Nat) (M : Nat → Nat → Option Value) : Ctx := { B := C.B, top := C.top, M := M, mu := C.mu.take n, vs := C.vs.take n, cp := C.cp.take n }

theorem VRel.cut {n : Nat} {M : Nat → Nat → Option Value} (hM : ∀ b o u, C.M b o = some u → M b o = some u) {x : PV} {u : Value} (h : VRel C x u) (hs : Scoped n x) : VRel (C.cut n M) x u := by
  have tk : ∀ {α : Type} {l : List α} {id : Nat} {v : α}, id < n → l[id]? = some v → (l.take n)[id]? = some v := fun hid h => by simp_all
  induction h with
  | nl k => exact .nl k
  | yl hl _ ih => cases hs with | yl h => exact .yl hl (fun j x u hx hu => ih j x u hx hu (h j x hx))
  | int k n => exact .int k n
  | bool b => exact .bool b
  | str s => exact .str _
  | nilp => exact .nilp
  | ptr hm hv => cases hs with | ptr hid => exact .ptr (tk hid hm) (tk hid hv)
  | ptrS v h1 hv hlt => cases hs with | ptr hid => exact .ptrS v h1 (tk hid hv) hlt
  | ip hl hM' hc _ ih => cases hs with | ip h => exact .ip hl (fun j u hu => hM _ _ _ (hM' j u hu)) hc (fun j x u hx hu => ih j x u hx hu (h j x hx))
  | slice hl hM' hc _ hcap hmax hf ih => cases hs with | slice h => exact .slice hl (fun j u hu => hM _ _ _ (hM' j u hu)) hc (fun j x u hx hu => ih j x u hx hu (h j x hx)) hcap hmax hf
  | sliceN ad full => exact .sliceN ad full
  | msl hm hv hcap hmax hg => cases hs with | msl hid => exact .msl (tk hid hm) (tk hid hv) hcap hmax (fun hgt => ⟨(hg hgt).1, tk hid (hg hgt).2⟩)
  | mslE hm hv hmax => cases hs with | msl hid => exact .mslE (tk hid hm) (tk hid hv) hmax
  | mslG ad hm hv => cases hs with | msl hid => exact .mslG ad ⟨tk hid hm.1, tk hid hm.2⟩ (tk hid hv)
  | mslS v h1 hv hlt => cases hs with | msl hid => exact .mslS v h1 (tk hid hv) hlt
  | mp hm hv hb => cases hs with | mp hid => exact .mp (tk hid hm) (tk hid hv) (tk hid hb)
  | mpS v h1 hv hlt => cases hs with | mp hid => exact .mpS v h1 (tk hid hv) hlt
  | agg hl hc _ ih => cases hs with | agg h => exact .agg hl hc (fun j x u hx hu => ih j x u hx hu (h j x hx))
  | tup hl _ ih => cases hs with | tup h => exact .tup hl (fun j x u hx hu => ih j x u hx hu (h j x hx))
  | func hl hl' _ _ ih ih' => cases hs with | func h h' => exact .func hl hl' (fun j x u hx hu => ih j x u hx hu (h j x hx)) (fun j x u hx hu => ih' j x u hx hu (h' j x hx))
  | undef v => exact .undef v

/-- A value, its own blocks from n on no longer written. -/
def frz (n : Nat) (H : Heap) : Nat → PV → Option PV
  | 0, _ => none
  | _ + 1, .int k m => some (.int k m)
  | _ + 1, .bool b => some (.bool b)
  | _ + 1, .str s => some (.str s)
  | _ + 1, .nilp => some .nilp
  | _ + 1, .nl k => some (.nl k)
  | _ + 1, .yl _ _ _ => none
  | _ + 1, .lp _ _ => none
  | _ + 1, .undef => some .undef
  | _ + 1, .ptr id ver off => if id < n then some (.ptr id ver off) else none
  | _ + 1, .mp id ver => if id < n then some (.mp id ver) else none
  | d + 1, .ip xs off => (xs.mapM (frz n H d)).map fun ys => .ip ys off
  | d + 1, .slice xs len _ => (xs.mapM (frz n H d)).map fun ys => .slice ys len false
  | d + 1, .msl id ver off len sz g => if id < n then some (.msl id ver off len sz g) else match H[id]? with
    | some k => if k.ver = ver ∧ off + len * sz ≤ k.cells.length then (((k.cells.drop off).take (len * sz)).mapM (frz n H d)).map fun ys => .slice ys len false else none
    | none => none
  | d + 1, .agg cs => (cs.mapM (frz n H d)).map .agg
  | d + 1, .tup vs => (vs.mapM (frz n H d)).map .tup
  | d + 1, .func f fs cs => match fs.mapM (frz n H d), cs.mapM (frz n H d) with | some fs', some cs' => some (.func f fs' cs') | _, _ => none

theorem mapM_get {f : PV → Option PV} : ∀ {xs ys : List PV}, xs.mapM f = some ys → ys.length = xs.length ∧ ∀ (j : Nat) (y : PV), ys[j]? = some y → ∃ x, xs[j]? = some x ∧ f x = some y
  | [], ys, h => by simp at h; subst h; exact ⟨rfl, fun j y hy => by simp at hy⟩
  | x :: xs, ys, h => by
    simp only [List.mapM_cons, Option.bind_eq_bind, Option.pure_def, Option.bind_eq_some_iff, Option.some.injEq] at h
    obtain ⟨y, hy, ys', hys, rfl⟩ := h
    obtain ⟨hl, hg⟩ := mapM_get hys
    grind

theorem frz_cell {n d : Nat} {x y : PV} (h : frz n H d x = some y) (hc : x.cell = true) : y.cell = true := by
  cases d with
  | zero => simp [frz] at h
  | succ d =>
    cases x <;> simp only [frz] at h
    all_goals grind [PV.cell, Option.map_eq_some_iff]

/-- What is known of memory once the blocks from n on are given up. -/
def Ctx.given (C : Ctx) (n : Nat) (w : World) : Nat → Nat → Option Value := fun b o => if (C.mu.drop n).contains (some b) then w.cell? ⟨b, o, none⟩ else C.M b o

theorem given_of (hw : WRel C H w) (n b o : Nat) (u : Value) (h : C.M b o = some u) : C.given n w b o = some u := by
  unfold Ctx.given
  split
  · exact hw.imm _ _ _ h
  · exact h

theorem frz_sound (hw : WRel C H w) (n : Nat) : ∀ (d : Nat) (x y : PV) (u : Value), VRel C x u → frz n H d x = some y → VRel (C.cut n (C.given n w)) y u
  | 0, x, y, u, _, h => by simp [frz] at h
  | d + 1, x, y, u, hv, h => by
    have hg := fun b o u => given_of (C := C) hw n b o u
    have lst : ∀ {xs ys : List PV} {us : List Value}, us.length = xs.length → Rel C xs us → xs.mapM (frz n H d) = some ys → us.length = ys.length ∧ Rel (C.cut n (C.given n w)) ys us := fun hl hR hm => by
      obtain ⟨h1, h2⟩ := mapM_get hm
      refine ⟨by omega, fun j y u hy hu => ?_⟩
      obtain ⟨x, hx, hf⟩ := h2 j y hy
      exact frz_sound hw n d x y u (hR j x u hx hu) hf
    have cls : ∀ {xs ys : List PV}, (∀ x ∈ xs, x.cell = true) → xs.mapM (frz n H d) = some ys → ∀ y ∈ ys, y.cell = true := fun hc hm y hy => by
      obtain ⟨h1, h2⟩ := mapM_get hm
      obtain ⟨j, hj, rfl⟩ := List.getElem_of_mem hy
      obtain ⟨x, hx, hf⟩ := h2 j _ (List.getElem?_eq_getElem hj)
      grind [frz_cell, List.mem_of_getElem?]
    cases x with
    | int k m => simp only [frz, Option.some.injEq] at h; subst h; exact hv.cut hg (.int _ _)
    | bool b => simp only [frz, Option.some.injEq] at h; subst h; exact hv.cut hg (.bool _)
    | str s => simp only [frz, Option.some.injEq] at h; subst h; exact hv.cut hg (.str _)
    | nilp => simp only [frz, Option.some.injEq] at h; subst h; exact hv.cut hg .nilp
    | nl k => simp only [frz, Option.some.injEq] at h; subst h; exact hv.cut hg (.nl k)
    | yl l us fs => simp [frz] at h
    | lp l r => simp [frz] at h
    | undef => simp only [frz, Option.some.injEq] at h; subst h; exact .undef _
    | ptr id ver off =>
      simp only [frz] at h
      split at h
      · rename_i hid; injection h with h; subst h; exact hv.cut hg (.ptr hid)
      · cases h
    | mp id ver =>
      simp only [frz] at h
      split at h
      · rename_i hid; injection h with h; subst h; exact hv.cut hg (.mp hid)
      · cases h
    | ip xs off =>
      simp only [frz, Option.map_eq_some_iff] at h
      obtain ⟨ys, hm, rfl⟩ := h
      cases hv with
      | ip hl hM hc hR =>
        obtain ⟨l1, l2⟩ := lst hl hR hm
        exact .ip l1 (fun j u hu => hg _ _ _ (hM j u hu)) (cls hc hm) l2
    | slice xs len full =>
      simp only [frz, Option.map_eq_some_iff] at h
      obtain ⟨ys, hm, rfl⟩ := h
      cases hv with
      | slice hl hM hc hR hcap hmax hf =>
        obtain ⟨l1, l2⟩ := lst hl hR hm
        exact .slice l1 (fun j u hu => hg _ _ _ (hM j u hu)) (cls hc hm) l2 hcap hmax (fun hft => by cases hft)
      | sliceN =>
        simp at hm
        subst hm
        exact .sliceN _ _
    | agg cs =>
      simp only [frz, Option.map_eq_some_iff] at h
      obtain ⟨ys, hm, rfl⟩ := h
      cases hv with
      | agg hl hc hR =>
        obtain ⟨l1, l2⟩ := lst hl hR hm
        exact .agg l1 (cls hc hm) l2
    | tup vs =>
      simp only [frz, Option.map_eq_some_iff] at h
      obtain ⟨ys, hm, rfl⟩ := h
      cases hv with
      | tup hl hR =>
        obtain ⟨l1, l2⟩ := lst hl hR hm
        exact .tup l1 l2
    | func f fs cs =>
      simp only [frz] at h
      split at h
      · rename_i fs' cs' h1 h2
        injection h with h
        subst h
        cases hv with
        | func hl hl' hR hR' =>
          obtain ⟨l1, l2⟩ := lst hl hR h1
          obtain ⟨l3, l4⟩ := lst hl' hR' h2
          exact .func l1 l3 l2 l4
      · cases h
    | msl id ver off len sz g =>
      simp only [frz] at h
      split at h
      · rename_i hid; injection h with h; subst h; exact hv.cut hg (.msl hid)
      · rename_i hid
        split at h
        · rename_i k hk
          split at h
          · rename_i hq
            simp only [Option.map_eq_some_iff] at h
            obtain ⟨ys, hm, rfl⟩ := h
            have q2 := hw.ver id k hk
            rw [hq.1] at q2
            obtain ⟨b, cap, off', q1, rfl, hc1, hc2, ho, _⟩ | ⟨ad, hgh, h0, rfl⟩ := inv_msl hw hv q2
            rotate_left
            · subst h0
              simp at hm
              subst hm
              exact .sliceN _ _
            obtain ⟨cur, q3, q5, q6, q7, q8, q9, q10⟩ := hw.blk hk q1
            have hmem : (C.mu.drop n).contains (some b) = true := by
              rw [List.contains_iff_mem]
              refine List.mem_of_getElem? (i := id - n) ?_
              simp_all
            have hlen : (((cur.toList.take k.cells.length).drop off).take (len * sz)).length = ((k.cells.drop off).take (len * sz)).length := by simp; omega
            obtain ⟨l1, l2⟩ := lst hlen ((q9.drop off).take (len * sz)) hm
            refine .slice l1 (fun j u hu => ?_) (cls (fun x hx => q6 x (List.mem_of_mem_drop (List.mem_of_mem_take hx))) hm) l2 hc1 hc2 (fun hf => by cases hf)
            show C.given n w b (off' + j) = some u
            unfold Ctx.given
            rw [if_pos hmem]
            rcases Nat.eq_zero_or_pos len with h0 | h0
            · simp_all
            · obtain rfl := ho h0
              have := ((q8.drop off').take (len * sz)) j u hu
              simp_all
          · cases h
        · cases h

/-- The tie, once the blocks from n on are given up. -/
theorem WRel.giveN {K : Heap} (h0 : HSc H) (hw : WRel C (H ++ K) w) : CLeN H.length C (C.cut H.length (C.given H.length w)) ∧ WRel (C.cut H.length (C.given H.length w)) H w := by
  have hg := fun b o u => given_of (C := C) hw H.length b o u
  have e1 := hw.len
  have e2 := hw.lenv
  have e3 := hw.lenc
  simp only [List.length_append] at e1 e2 e3
  have tk : ∀ {α : Type} {l : List α} {id : Nat}, id < H.length → (l.take H.length)[id]? = l[id]? := fun hid => by simp_all
  have tk' : ∀ {α : Type} {l : List α} {id : Nat} {v : α}, (l.take H.length)[id]? = some v → id < H.length ∧ l[id]? = some v := fun h => by
    grind
  refine ⟨⟨rfl, fun b o u hu => hg _ _ _ hu, rfl, fun b o u hu => ?_, fun b hb => .inl (List.mem_of_mem_take hb), fun id ver hid hv => ?_⟩, ?_⟩
  · simp only [Ctx.cut, Ctx.given] at hu
    grind
  · exact ⟨ver, by simp only [Ctx.cut]; rw [tk hid]; exact hv, Nat.le_refl _, fun _ => ⟨by simp only [Ctx.cut]; rw [tk hid], by simp only [Ctx.cut]; rw [tk hid]⟩⟩
  · refine ⟨hw.gl.mono (fun b o u hu => hg b o u hu), hw.base, hw.tople, fun b o u hu => ?_, ?_, ?_, ?_, ?_, ?_, ?_, ?_, ?_, fun i j b mi mj ci cj => hw.minj i j b (tk' mi).2 (tk' mj).2 (tk' ci).2 (tk' cj).2⟩
    · simp only [Ctx.cut, Ctx.given] at hu
      split at hu
      · exact hu
      · exact hw.imm _ _ _ hu
    · simp only [Ctx.cut, List.length_take]; omega
    · simp only [Ctx.cut, List.length_take]; omega
    · simp only [Ctx.cut, List.length_take]; omega
    · intro id k hk
      have hid : id < H.length := (List.getElem?_eq_some_iff.1 hk).1
      simp only [Ctx.cut]; rw [tk hid]; exact hw.ver id k (by rw [List.getElem?_append_left hid]; exact hk)
    · intro id k hk hm
      have hid : id < H.length := (List.getElem?_eq_some_iff.1 hk).1
      simp only [Ctx.cut] at hm ⊢
      rw [tk hid] at hm ⊢
      refine (hw.gho id k (by rw [List.getElem?_append_left hid]; exact hk) hm).imp_right ?_
      rintro (⟨b, es, clock, q1, q2, q3, q4, q5⟩ | ⟨b, r, q1, q2, q3, q4⟩)
      · exact .inl ⟨b, es, clock, q1, q2, q3, q4, fun j x e hx he => (q5 j x e hx he).cut hg (h0 id k hk x (List.mem_of_getElem? hx))⟩
      · exact .inr ⟨b, r, q1, q2, q3, q4⟩
    · intro id k b hk hm
      have hid : id < H.length := (List.getElem?_eq_some_iff.1 hk).1
      obtain ⟨cur, q3, q4, q5, q6, q7, q8⟩ := hw.own id k b (by rw [List.getElem?_append_left hid]; exact hk) (by simp only [Ctx.cut] at hm; rw [tk hid] at hm; exact hm)
      refine ⟨cur, by simp only [Ctx.cut]; rw [tk hid]; exact q3, q4, q5, q6, q7, fun j x u hx hu => ?_⟩
      exact (q8 j x u hx hu).cut hg (h0 id k hk x (List.mem_of_getElem? hx))
    · intro id b hb o
      obtain ⟨hid, hb⟩ := tk' hb
      simp only [Ctx.cut, Ctx.given]
      rw [if_neg ?_]
      · exact hw.disj id b hb o
      · rw [List.contains_iff_mem]
        intro hmem
        obtain ⟨j, hj⟩ := List.mem_iff_getElem?.1 hmem
        rw [List.getElem?_drop] at hj
        have := hw.inj _ _ _ hb hj
        omega
    · intro i j b hi hj
      exact hw.inj i j b (tk' hi).2 (tk' hj).2
theorem WRel.give {K : Heap} {C0 : Ctx} {w0 : World} (h0 : WRel C0 H w0) (hle : CLe C0 C) (hw : WRel C (H ++ K) w) : CLe C0 (C.cut H.length (C.given H.length w)) ∧ WRel (C.cut H.length (C.given H.length w)) H w := by
  obtain ⟨g1, g2⟩ := WRel.giveN h0.hsc hw
  exact ⟨((hle.toN _).trans g1).full h0.lenv, g2⟩

/-! ### giving up, as a relation -/
/-- x, its own blocks from n on no longer written, is y. -/
inductive Fz (n : Nat) (H : Heap) : PV → PV → Prop where
  | id {x : PV} (h : Scoped n x) : Fz n H x x
  | slice {xs ys : List PV} {len : Nat} {full full' : Bool} (hl : ys.length = xs.length) (h : ∀ (j : Nat) (x y : PV), xs[j]? = some x → ys[j]? = some y → Fz n H x y) (hf : full' = true → full = true) : Fz n H (.slice xs len full) (.slice ys len full')
  | ip {xs ys : List PV} {off : Nat} (hl : ys.length = xs.length) (h : ∀ (j : Nat) (x y : PV), xs[j]? = some x → ys[j]? = some y → Fz n H x y) : Fz n H (.ip xs off) (.ip ys off)
  | msl {id ver off len sz : Nat} {g : Bool} {k : Blk} {ys : List PV} (hn : n ≤ id) (hk : H[id]? = some k) (hv : k.ver = ver) (ho : off + len * sz ≤ k.cells.length)
      (hl : ys.length = ((k.cells.drop off).take (len * sz)).length) (h : ∀ (j : Nat) (x y : PV), ((k.cells.drop off).take (len * sz))[j]? = some x → ys[j]? = some y → Fz n H x y) : Fz n H (.msl id ver off len sz g) (.slice ys len false)
  | ptr {id ver off : Nat} {k : Blk} {ys : List PV} (hn : n ≤ id) (hk : H[id]? = some k) (hv : k.ver = ver)
      (hl : ys.length = k.cells.length) (h : ∀ (j : Nat) (x y : PV), k.cells[j]? = some x → ys[j]? = some y → Fz n H x y) : Fz n H (.ptr id ver off) (.ip ys off)
  | agg {xs ys : List PV} (hl : ys.length = xs.length) (h : ∀ (j : Nat) (x y : PV), xs[j]? = some x → ys[j]? = some y → Fz n H x y) : Fz n H (.agg xs) (.agg ys)
  | tup {xs ys : List PV} (hl : ys.length = xs.length) (h : ∀ (j : Nat) (x y : PV), xs[j]? = some x → ys[j]? = some y → Fz n H x y) : Fz n H (.tup xs) (.tup ys)
  | func {f : FuncId} {xs ys us vs : List PV} (hl : ys.length = xs.length) (h : ∀ (j : Nat) (x y : PV), xs[j]? = some x → ys[j]? = some y → Fz n H x y)
      (hl' : vs.length = us.length) (h' : ∀ (j : Nat) (x y : PV), us[j]? = some x → vs[j]? = some y → Fz n H x y) : Fz n H (.func f xs us) (.func f ys vs)

theorem Fz.cell {n : Nat} {x y : PV} (h : Fz n H x y) (hc : x.cell = true) : y.cell = true := by
  cases h <;> first | exact hc | rfl | (simp [PV.cell] at hc; done)

theorem Fz.cells {n : Nat} {xs ys : List PV} (hl : ys.length = xs.length) (h : ∀ (j : Nat) (x y : PV), xs[j]? = some x → ys[j]? = some y → Fz n H x y) (hc : ∀ x ∈ xs, x.cell = true) : ∀ y ∈ ys, y.cell = true := fun y hy => by
  obtain ⟨j, hj, rfl⟩ := List.getElem_of_mem hy
  exact (h j _ _ (List.getElem?_eq_getElem (by omega)) (List.getElem?_eq_getElem hj)).cell (hc _ (List.getElem_mem _))

theorem Fz.rels {D : Ctx} {xs ys : List PV} {us : List Value} (hl : ys.length = xs.length) (hul : us.length = xs.length) (hR : Rel C xs us) (ih : ∀ (j : Nat) (x y : PV), xs[j]? = some x → ys[j]? = some y → ∀ {u : Value}, VRel C x u → VRel D y u) : us.length = ys.length ∧ Rel D ys us :=
  ⟨by omega, fun j y u hy hu => by
    have hj : j < xs.length := by have := (List.getElem?_eq_some_iff.1 hy).1; omega
    exact ih j xs[j] y (List.getElem?_eq_getElem hj) hy (hR j _ u (List.getElem?_eq_getElem hj) hu)⟩

theorem Fz.sound {n : Nat} (hw : WRel C H w) {x y : PV} (h : Fz n H x y) : ∀ {u : Value}, VRel C x u → VRel (C.cut n (C.given n w)) y u := by
  have hg := fun b o u => given_of (C := C) hw n b o u
  have mem : ∀ {id b : Nat}, n ≤ id → C.mu[id]? = some (some b) → (C.mu.drop n).contains (some b) = true := fun {id b} hn q1 => by
    rw [List.contains_iff_mem]
    refine List.mem_of_getElem? (i := id - n) ?_
    simp_all
  induction h with
  | id hs => intro u hv; exact hv.cut hg hs
  | slice hl h hf ih =>
    intro u hv
    cases hv with
    | slice hul hM hc hR hcap hmax hfu =>
      obtain ⟨l1, l2⟩ := Fz.rels hl hul hR ih
      exact .slice l1 (fun j u hu => hg _ _ _ (hM j u hu)) (Fz.cells hl h hc) l2 hcap hmax (fun e => hfu (hf e))
    | sliceN =>
      have e := List.eq_nil_of_length_eq_zero hl
      subst e
      exact .sliceN _ _
  | ip hl h ih =>
    intro u hv
    cases hv with
    | ip hul hM hc hR =>
      obtain ⟨l1, l2⟩ := Fz.rels hl hul hR ih
      exact .ip l1 (fun j u hu => hg _ _ _ (hM j u hu)) (Fz.cells hl h hc) l2
  | @msl id ver off len sz g k ys hn hk hv' ho hl h ih =>
    intro u hv
    have q2 := hw.ver id k hk
    rw [hv'] at q2
    obtain ⟨b, cap, off', q1, rfl, hc1, hc2, ho', _⟩ | ⟨ad, hgh, h0, rfl⟩ := inv_msl hw hv q2
    · obtain ⟨cur, q3, q5, q6, q7, q8, q9, q10⟩ := hw.blk hk q1
      have hlen : (((cur.toList.take k.cells.length).drop off).take (len * sz)).length = ((k.cells.drop off).take (len * sz)).length := by simp; omega
      obtain ⟨l1, l2⟩ := Fz.rels hl hlen ((q9.drop off).take (len * sz)) ih
      refine .slice l1 (fun j u hu => ?_) (Fz.cells hl h (fun x hx => q6 x (List.mem_of_mem_drop (List.mem_of_mem_take hx)))) l2 hc1 hc2 (fun hf => by cases hf)
      show C.given n w b (off' + j) = some u
      unfold Ctx.given
      rw [if_pos (mem hn q1)]
      rcases Nat.eq_zero_or_pos len with h0 | h0
      · simp_all
      · obtain rfl := ho' h0
        have := ((q8.drop off').take (len * sz)) j u hu
        simp_all
    · subst h0
      have e : ys = [] := List.eq_nil_of_length_eq_zero (by rw [hl]; simp)
      subst e
      exact .sliceN _ _
  | @ptr id ver off k ys hn hk hv' hl h ih =>
    intro u hv
    have q2 := hw.ver id k hk
    rw [hv'] at q2
    obtain ⟨b, q1, rfl⟩ := inv_ptr hw hv q2
    obtain ⟨cur, q3, q5, q6, q7, q8, q9, q10⟩ := hw.blk hk q1
    obtain ⟨l1, l2⟩ := Fz.rels hl q10 q9 ih
    have := VRel.ip (C := C.cut n (C.given n w)) (off := off) (b := b) (o := 0) l1 (fun j u hu => by
      show C.given n w b (0 + j) = some u
      unfold Ctx.given
      rw [if_pos (mem hn q1)]
      exact q8 j u hu) (Fz.cells hl h q6) l2
    simp_all
  | agg hl h ih =>
    intro u hv
    cases hv with
    | agg hul hc hR =>
      obtain ⟨l1, l2⟩ := Fz.rels hl hul hR ih
      exact .agg l1 (Fz.cells hl h hc) l2
  | tup hl h ih =>
    intro u hv
    cases hv with
    | tup hul hR =>
      obtain ⟨l1, l2⟩ := Fz.rels hl hul hR ih
      exact .tup l1 l2
  | func hl h hl' h' ih ih' =>
    intro u hv
    cases hv with
    | func hul hul' hR hR' =>
      obtain ⟨l1, l2⟩ := Fz.rels hl hul hR ih
      obtain ⟨l3, l4⟩ := Fz.rels hl' hul' hR' ih'
      exact .func l1 l3 l2 l4

/-- A heap cut to its first blocks, what they hold given up. -/
def CutH (H H1 : Heap) : Prop := H1.length ≤ H.length ∧ ∀ (j : Nat) (k1 : Blk), H1[j]? = some k1 → ∃ k, H[j]? = some k ∧ k1.e = k.e ∧ k1.ver = k.ver ∧ k1.cells.length = k.cells.length ∧ ∀ (i : Nat) (x y : PV), k.cells[i]? = some x → k1.cells[i]? = some y → Fz H1.length H x y

theorem WRel.cutN {H1 : Heap} (hw : WRel C H w) (hH : CutH H H1) : CLeN H1.length C (C.cut H1.length (C.given H1.length w)) ∧ WRel (C.cut H1.length (C.given H1.length w)) H1 w := by
  have hg := fun b o u => given_of (C := C) hw H1.length b o u
  have hle := hH.1
  have e1 := hw.len
  have e2 := hw.lenv
  have e3 := hw.lenc
  have tk : ∀ {α : Type} {l : List α} {id : Nat}, id < H1.length → (l.take H1.length)[id]? = l[id]? := fun hid => by simp_all
  have tk' : ∀ {α : Type} {l : List α} {id : Nat} {v : α}, (l.take H1.length)[id]? = some v → id < H1.length ∧ l[id]? = some v := fun h => by
    grind
  refine ⟨⟨rfl, fun b o u hu => hg _ _ _ hu, rfl, fun b o u hu => ?_, fun b hb => .inl (List.mem_of_mem_take hb), fun id ver hid hv => ?_⟩, ?_⟩
  · simp only [Ctx.cut, Ctx.given] at hu
    grind
  · exact ⟨ver, by simp only [Ctx.cut]; rw [tk hid]; exact hv, Nat.le_refl _, fun _ => ⟨by simp only [Ctx.cut]; rw [tk hid], by simp only [Ctx.cut]; rw [tk hid]⟩⟩
  · refine ⟨hw.gl.mono (fun b o u hu => hg b o u hu), hw.base, hw.tople, fun b o u hu => ?_, ?_, ?_, ?_, ?_, ?_, ?_, ?_, ?_, fun i j b mi mj ci cj => hw.minj i j b (tk' mi).2 (tk' mj).2 (tk' ci).2 (tk' cj).2⟩
    · simp only [Ctx.cut, Ctx.given] at hu
      split at hu
      · exact hu
      · exact hw.imm _ _ _ hu
    · simp only [Ctx.cut, List.length_take]; omega
    · simp only [Ctx.cut, List.length_take]; omega
    · simp only [Ctx.cut, List.length_take]; omega
    · intro id k1 hk1
      have hid : id < H1.length := (List.getElem?_eq_some_iff.1 hk1).1
      obtain ⟨k, hk, he, hv, _, _⟩ := hH.2 id k1 hk1
      simp only [Ctx.cut]; rw [tk hid, hv]; exact hw.ver id k hk
    · intro id k1 hk1 hm
      have hid : id < H1.length := (List.getElem?_eq_some_iff.1 hk1).1
      obtain ⟨k, hk, he, hv, hl, hfz⟩ := hH.2 id k1 hk1
      simp only [Ctx.cut] at hm ⊢
      rw [tk hid] at hm ⊢
      rcases hw.gho id k hk hm with ⟨g1, g2⟩ | ⟨b, es, clock, q1, q2, q3, q4, q5⟩ | ⟨b, r, q1, q2, q3, q4⟩
      · simp_all
      · refine .inr (.inl ⟨b, es, clock, q1, q2, q3, by omega, fun j y e hy he => ?_⟩)
        have hj : j < k.cells.length := by grind
        exact (hfz j _ y (List.getElem?_eq_getElem hj) hy).sound hw (q5 j _ e (List.getElem?_eq_getElem hj) he)
      · refine .inr (.inr ⟨b, r, q1, q2, q3, ?_, q4.2⟩)
        rw [q4.1] at hl
        obtain ⟨y, hy⟩ := List.length_eq_one_iff.1 hl
        have h1 := hfz 0 (.lp b r) y (by rw [q4.1]; rfl) (by rw [hy]; rfl)
        rw [hy]
        cases h1
        rfl
    · intro id k1 b hk1 hm
      have hid : id < H1.length := (List.getElem?_eq_some_iff.1 hk1).1
      obtain ⟨k, hk, he, hv, hl, hc⟩ := hH.2 id k1 hk1
      obtain ⟨cur, q3, q4, q5, q6, q7, q8⟩ := hw.own id k b hk (by simp only [Ctx.cut] at hm; rw [tk hid] at hm; exact hm)
      refine ⟨cur, by simp only [Ctx.cut]; rw [tk hid]; exact q3, q4, by rw [he]; exact q5, Fz.cells hl hc q6, by omega, fun j y u hy hu => ?_⟩
      have hj : j < k.cells.length := by grind
      exact (hc j _ y (List.getElem?_eq_getElem hj) hy).sound hw (q8 j _ u (List.getElem?_eq_getElem hj) hu)
    · intro id b hb o
      obtain ⟨hid, hb⟩ := tk' hb
      simp only [Ctx.cut, Ctx.given]
      rw [if_neg ?_]
      · exact hw.disj id b hb o
      · rw [List.contains_iff_mem]
        intro hmem
        obtain ⟨j, hj⟩ := List.mem_iff_getElem?.1 hmem
        rw [List.getElem?_drop] at hj
        have := hw.inj _ _ _ hb hj
        omega
    · intro i j b hi hj
      exact hw.inj i j b (tk' hi).2 (tk' hj).2
theorem CLeN.less {n m : Nat} {C C' : Ctx} (h : CLeN n C C') (hm : m ≤ n) : CLeN m C C' := ⟨h.B, h.M, h.top, h.mnew, h.unew, fun id ver hid => h.ids id ver (by omega)⟩

/-! ### from the body to the contract -/
def argFr : List PV → Nat → Fr
  | [], _ => []
  | x :: r, i => (i, x) :: argFr r (i + 1)

theorem get_argFr : ∀ (xs : List PV) (i t : Nat), slot (argFr xs i) t = if i ≤ t then xs.getD (t - i) .undef else .undef
  | [], i, t => by simp [argFr, slot]
  | x :: r, i, t => by
    show (match Nat.beq i t with | true => x | false => slot (argFr r (i + 1)) t) = _
    cases hb : Nat.beq i t with
    | true => rw [Nat.eq_of_beq_eq_true hb]; simp
    | false =>
      have hne : i ≠ t := fun h => by simp_all
      simp only [get_argFr r (i + 1) t]
      grind

def presult (P : Program) (F : Nat → PV) (H : Heap) : ResultVar → Option PV
  | .tmp t => some (F t)
  | .cell t ty => match F t with
    | .ptr id ver off => pload P H ty (.ptr id ver off)
    | _ => none
def presults (P : Program) (rs : List ResultVar) (F : Nat → PV) (H : Heap) : Option PV :=
  match rs with
  | [r] => presult P F H r
  | rs => (rs.mapM (presult P F H)).map .tup
def retQ (P : Program) (rs : List ResultVar) (R : PV → Heap → Prop) : Exit → Fr → Heap → Prop
  | .ret, F, H => ∃ v, presults P rs (slot F) H = some v ∧ R v H
  | .normal, F, H => ∃ v, presults P rs (slot F) H = some v ∧ R v H
  | _, _, _ => False

/-- The model's reading of one result. -/
def rsem (tmps : Array Value) : ResultVar → Sem Value
  | .tmp t => pure (tmps.getD t Go.undef)
  | .cell t ty => do loadVar ty (← asAddr (tmps.getD t Go.undef))

theorem presult_sound {f : Nat → PV} {r : ResultVar} {v : PV} (hw : WRel C H w) (hf : FRel C N f a) (h : presult P f H r = some v) : ∃ u, VRel C v u ∧ (rsem a.tmps r).run P w = .ok u w := by
  cases r with
  | tmp t => simp only [presult, Option.some.injEq] at h; subst h; exact ⟨_, hf.2 t, rfl⟩
  | cell t ty =>
    simp only [presult] at h
    split at h
    · rename_i id ver off he
      have hv := hf.2 t
      rw [he] at hv
      have hlive : C.vs[id]? = some ver := by
        simp only [pload] at h
        split at h
        · rename_i k hk
          split at h
          · rename_i hver
            rw [← hver]; exact hw.ver id k hk
          · cases h
        · cases h
      obtain ⟨b, hb, hq⟩ := inv_ptr hw hv hlive
      obtain ⟨u, hu, hr⟩ := pload_sound (P := P) hw hv h
      refine ⟨u, hu, ?_⟩
      rw [hq] at hr
      simpa [rsem, hq, Instr.loadAt, Instr.sureAddr, asAddr] using hr
    · cases h

theorem mapM_len {α β : Type} {f : α → Option β} : ∀ {xs : List α} {ys : List β}, xs.mapM f = some ys → ys.length = xs.length
  | [], ys, h => by simp_all
  | x :: xs, ys, h => by
    simp only [List.mapM_cons, Option.bind_eq_bind, Option.pure_def, Option.bind_eq_some_iff, Option.some.injEq] at h
    obtain ⟨y, hy, ys', hys, rfl⟩ := h
    simp [mapM_len hys]

theorem presults_sound {f : Nat → PV} {fn : Func} {v : PV} (hw : WRel C H w) (hf : FRel C N f a) (h : presults P fn.results.toList f H = some v) : ∃ u, VRel C v u ∧ (results fn a.tmps).run P w = .ok u w := by
  have lst : ∀ (rs : List ResultVar) (vs : List PV), rs.mapM (presult P f H) = some vs → ∃ us, VRels C vs us ∧ (rs.mapM (rsem a.tmps)).run P w = .ok us w := by
    intro rs
    induction rs with
    | nil => intro vs h; simp at h; subst h; exact ⟨[], ⟨rfl, fun j x u hx => by simp at hx⟩, by simp⟩
    | cons r rs ih =>
      intro vs h
      simp only [List.mapM_cons, Option.bind_eq_bind, Option.pure_def, Option.bind_eq_some_iff, Option.some.injEq] at h
      obtain ⟨v, hv, vs', hvs, rfl⟩ := h
      obtain ⟨u, hu, hr⟩ := presult_sound hw hf hv
      obtain ⟨us, hus, hrs⟩ := ih vs' hvs
      refine ⟨u :: us, ⟨by simp [hus.1], fun j x u' hx hu' => ?_⟩, ?_⟩
      · cases j with
        | zero => simp at hx hu'; subst hx; subst hu'; exact hu
        | succ j => exact hus.2 j x u' (by simpa using hx) (by simpa using hu')
      simp_all
  have hres : ∀ us, (fn.results.toList.mapM (rsem a.tmps)).run P w = .ok us w → (results fn a.tmps).run P w = .ok (if h : us.toArray.size = 1 then us.toArray[0] else .tuple us.toArray) w := fun us hus => by
    have e : results fn a.tmps = (do let vs ← fn.results.mapM (rsem a.tmps); pure (if h : vs.size = 1 then vs[0] else .tuple vs)) := by
      rfl
    simp_all [Array.mapM_eq_mapM_toList]
  unfold presults at h
  split at h
  · rename_i r hr
    obtain ⟨us, hus, hrun⟩ := lst [r] [v] (by simp [List.mapM_cons, h])
    rw [hr] at hres
    have := hres us hrun
    match us, hus with
    | [u], hus => exact ⟨u, hus.2 0 v u rfl rfl, by simpa using this⟩
    | [], hus => simp [VRels] at hus
    | _ :: _ :: _, hus => simp [VRels] at hus
  · rename_i hne
    simp only [Option.map_eq_some_iff] at h
    obtain ⟨vs, hvs, rfl⟩ := h
    obtain ⟨us, hus, hrun⟩ := lst _ vs hvs
    have hl := mapM_len hvs
    have hsz : ¬ us.toArray.size = 1 := by
      intro h1
      have h2 : fn.results.toList.length = 1 := by rw [← hl, ← hus.1]; simpa using h1
      obtain ⟨r, hr⟩ := List.length_eq_one_iff.1 h2
      simp_all
    refine ⟨.tuple us.toArray, .tup hus.1 hus.2, ?_⟩
    simp_all

/-- What a return must come to: the value and the heap as they are; or the value with its own blocks given up; or both cut. -/
def Outs (H : Heap) (R : PV → Heap → Prop) (v' : PV) (H' : Heap) : Prop :=
  R v' H' ∨ (∃ K d v, H' = H ++ K ∧ R v H ∧ frz H.length H' d v' = some v) ∨ (HSc H → ∃ v Hout, R v Hout ∧ H.length ≤ Hout.length ∧ CutH H' Hout ∧ Fz Hout.length H' v' v)
theorem CallEx.intro {f : FuncId} {fn : Func} {c : Code} {args : List PV} {R : PV → Heap → Prop} (hf : P.funcs[f]? = some fn) (hb : fn.body = some c) (hcall : callable P f = true) (hn : args.length ≤ fn.ntmps)
    (h : PW P ⟨fn.ntmps, H⟩ c (argFr args 0) H (retQ P fn.results.toList (Outs H R))) : CallEx P f args H R := by
  refine ⟨hcall, fun C us w hw hargs => calls_of_wp hf hb ?_⟩
  have hfr : FRel C fn.ntmps (slot (argFr args 0)) { tmps := us.toArray ++ Array.replicate (fn.ntmps - us.toArray.size) Go.undef, defers := [] } := by
    refine ⟨by simp [hargs.1]; omega, fun t => ?_⟩
    rw [get_argFr]
    simp only [Nat.zero_le, if_true, Nat.sub_zero]
    by_cases ht : t < args.length
    · have htu : t < us.length := by rw [hargs.1]; exact ht
      have e1 : args.getD t .undef = args[t] := by simp_all
      have e2 : (us.toArray ++ Array.replicate (fn.ntmps - us.toArray.size) Go.undef).getD t Go.undef = us[t] := by
        simp_all [Array.getD_eq_getD_getElem?, Array.getElem?_append_left]
      rw [e1, e2]
      exact hargs.2 t _ _ (List.getElem?_eq_getElem ht) (List.getElem?_eq_getElem htu)
    · have e1 : args.getD t .undef = .undef := by simp_all
      rw [e1]
      exact .undef _
  refine wp_mono (h hw.hsc C _ w rfl hw hfr) ?_
  rintro e a' w' ⟨C', F', H', q1, q2, q3, q4, q5, q6⟩
  have q1' := q1.full hw.lenv
  have fin : (∃ v', presults P fn.results.toList (slot F') H' = some v' ∧ Outs H R v' H') →
      a'.defers = [] ∧ ∃ u, (results fn a'.tmps).run P w' = .ok u w' ∧ ∃ C'' u' v Hout, R v Hout ∧ CLe C C'' ∧ WRel C'' Hout w' ∧ Below C.B w w' ∧ Ending.returned u = .returned u' ∧ VRel C'' v u' := by
    rintro ⟨v', hv', hR⟩
    obtain ⟨u, hu, hr⟩ := presults_sound q3 q5 hv'
    refine ⟨q2, u, hr, ?_⟩
    rcases hR with hR | ⟨K, d, v, rfl, hR, hfz⟩ | hR
    · exact ⟨C', u, v', H', hR, q1', q3, q4, rfl, hu⟩
    · obtain ⟨g1, g2⟩ := WRel.give hw q1' q3
      exact ⟨_, u, v, H, hR, g1, g2, q4, rfl, frz_sound q3 _ d v' v u hu hfz⟩
    · obtain ⟨v, Hout, hR, hlen, hcut, hfz⟩ := hR hw.hsc
      obtain ⟨g1, g2⟩ := q3.cutN hcut
      exact ⟨_, u, v, Hout, hR, (q1.trans (g1.less hlen)).full hw.lenv, g2, q4, rfl, hfz.sound q3 hu⟩
  cases e with
  | ret => exact fin q6
  | normal => exact fin q6
  | _ => exact q6.elim

/-- What a return must come to: the value and the heap as they are, or the value with its own blocks given up. -/
def Fin (H : Heap) (v : PV) (Hout : Heap) (v' : PV) (H' : Heap) : Prop := (v' = v ∧ H' = Hout) ∨ (∃ K d, H' = H ++ K ∧ Hout = H ∧ frz H.length H' d v' = some v) ∨ (HSc H → H.length ≤ Hout.length ∧ CutH H' Hout ∧ Fz Hout.length H' v' v)

theorem CallOk.body {f : FuncId} {fn : Func} {c : Code} {rs : Array ResultVar} {F0 : Fr} {args : List PV} {v : PV} {Hout : Heap} (hf : P.funcs[f]? = some fn) (hb : fn.body = some c) (hN : fn.ntmps = N) (hrs : fn.results = rs) (hF : argFr args 0 = F0)
    (hcall : callable P f = true) (hn : Nat.ble args.length N = true) (h : PW P ⟨N, H⟩ c F0 H (retQ P rs.toList (Fin H v Hout))) : CallOk P f args H v Hout := by
  subst hN hrs hF
  refine (CallEx.intro hf hb hcall (Nat.le_of_ble_eq_true hn) (h.mono fun e F' H' hq => ?_)).one
  have key : ∀ v' H', Fin H v Hout v' H' → Outs H (fun v' H'' => v' = v ∧ H'' = Hout) v' H' := fun v' H' hf => by
    rcases hf with hf | ⟨K, d, h1, h2, h3⟩ | hf
    · exact .inl hf
    · exact .inr (.inl ⟨K, d, v, h1, ⟨rfl, h2.symm⟩, h3⟩)
    · exact .inr (.inr fun hs => ⟨v, Hout, ⟨rfl, rfl⟩, hf hs⟩)
  cases e with
  | ret => obtain ⟨v', h1, h2⟩ := hq; exact ⟨v', h1, key v' H' h2⟩
  | normal => obtain ⟨v', h1, h2⟩ := hq; exact ⟨v', h1, key v' H' h2⟩
  | _ => exact hq
theorem CallEx.body {f : FuncId} {fn : Func} {c : Code} {rs : Array ResultVar} {F0 : Fr} {args : List PV} {R : PV → Heap → Prop} (hf : P.funcs[f]? = some fn) (hb : fn.body = some c) (hN : fn.ntmps = N) (hrs : fn.results = rs) (hF : argFr args 0 = F0)
    (hcall : callable P f = true) (hn : Nat.ble args.length N = true) (h : PW P ⟨N, H⟩ c F0 H (retQ P rs.toList (Outs H R))) : CallEx P f args H R := by
  subst hN hrs hF
  exact CallEx.intro hf hb hcall (Nat.le_of_ble_eq_true hn) h

section rules
variable {E : Env} {Q : Exit → Fr → Heap → Prop}
end rules

end Go.Proofs.YtbhdollgohgkgaaGreatDoor.Pm

namespace Go.Proofs.YtbhdollgohgkgaaGreatDoor.Pm
set_option linter.all false
set_option linter.unusedVariables false
set_option linter.unusedSimpArgs false
open Go.RowKit Go.ChangeShapes Go.WideShapes

/-- The cells that a value of a type may have. -/
inductive Shp (P : Program) : TypeId → List PV → Prop where
  | bool {t : TypeId} (b : Bool) (ht : P.underlying t = some .bool) : Shp P t [.bool b]
  | int {t : TypeId} {k : IntKind} {n : Int} (ht : P.underlying t = some (.int k)) (hw : (Lit.int k n).wf = true) : Shp P t [.int k n]
  | str {t : TypeId} {s : List UInt8} (ht : P.underlying t = some .string) (hs : s.length ≤ maxLen) : Shp P t [.str s]
  | slice {t e : TypeId} {pss : List (List PV)} (ht : P.underlying t = some (.slice e)) (hm : pss.length ≤ maxLen ∧ pss.length * P.bytesOf e ≤ reachBytes) (h : ∀ ps ∈ pss, Shp P e ps) : Shp P t [.slice pss.flatten pss.length false]
  | struct {t : TypeId} {fs : Array Field} {pss : List (List PV)} (ht : P.underlying t = some (.struct fs)) (hl : pss.length = fs.size) (h : ∀ (i : Nat) (f : Field) (ps : List PV), fs[i]? = some f → pss[i]? = some ps → Shp P f.type ps) : Shp P t pss.flatten
  | array {t e : TypeId} {n : Nat} {pss : List (List PV)} (ht : P.underlying t = some (.array n e)) (hl : pss.length = n) (h : ∀ ps ∈ pss, Shp P e ps) : Shp P t pss.flatten

def tile (P : Program) : List Field → Nat → Option Nat
  | [], off => some off
  | f :: r, off => if f.offset = off then tile P r (off + P.cellsOf f.type) else none
def plainT (P : Program) : Nat → TypeId → Bool
  | 0, _ => false
  | n + 1, t => match P.underlying t with
    | some .bool | some (.int _) | some .string => true
    | some (.slice e) => decide (0 < P.cellsOf e) && plainT P n e
    | some (.array m e) => decide (P.cellsOf t = m * P.cellsOf e) && plainT P n e
    | some (.struct fs) => decide (tile P fs.toList 0 = some (P.cellsOf t)) && fs.toList.all fun f => plainT P n f.type
    | _ => false

/-- Where a law's call begins. -/
def Ctx.start (W : World) : Ctx := ⟨W.heap.size, fun b o => W.cell? ⟨b, o, none⟩, [], [], [], 0⟩
theorem WRel.start (W : World) (hg : Glob (Ctx.start W).M) : WRel (Ctx.start W) [] W :=
  ⟨hg, Nat.le_refl _, Nat.zero_le _, fun _ _ _ h => h, rfl, rfl, rfl, fun id k h => by simp at h, fun id k h => by simp at h, fun id k b h => by simp at h, fun id b h => by simp [Ctx.start] at h, fun i j b h => by simp [Ctx.start] at h, fun i j b h => by simp [Ctx.start] at h⟩

theorem VRels.nil' {C : Ctx} : VRels C [] [] := ⟨rfl, fun j x u h => by simp at h⟩
theorem VRels.append {C : Ctx} {a b : List PV} {u v : List Value} (h : VRels C a u) (k : VRels C b v) : VRels C (a ++ b) (u ++ v) := by
  refine ⟨by simp [h.1, k.1], fun j x w hx hw => ?_⟩
  rcases Nat.lt_or_ge j a.length with hj | hj
  · rw [List.getElem?_append_left hj] at hx
    rw [List.getElem?_append_left (by rw [h.1]; exact hj)] at hw
    exact h.2 j x w hx hw
  · rw [List.getElem?_append_right hj] at hx
    rw [List.getElem?_append_right (by rw [h.1]; exact hj), h.1] at hw
    exact k.2 _ x w hx hw

/-- What an opening gives. -/
def Opens (P : Program) (W : World) (t : TypeId) (cs : List Value) (ps : List PV) : Prop := Shp P t ps ∧ (∀ p ∈ ps, p.cell = true) ∧ VRels (Ctx.start W) ps cs

variable {H : Type} {enc : TypeId × Value → H} {P : Program} {W : World}

theorem opens_parts {ts : List TypeId} : ∀ (parts : List (List Value)), parts.length = ts.length → (∀ (i : Nat) (t : TypeId) (cs : List Value), ts[i]? = some t → parts[i]? = some cs → ∃ ps, Opens P W t cs ps) →
    ∃ pss : List (List PV), pss.length = ts.length ∧ (∀ (i : Nat) (t : TypeId) (ps : List PV), ts[i]? = some t → pss[i]? = some ps → Shp P t ps) ∧ (∀ p ∈ pss.flatten, p.cell = true) ∧ VRels (Ctx.start W) pss.flatten parts.flatten := by
  induction ts with
  | nil =>
    intro parts hl _
    have : parts = [] := by cases parts <;> simp_all
    subst this
    exact ⟨[], rfl, fun i t ps h => by simp at h, fun p hp => by simp at hp, VRels.nil'⟩
  | cons t ts ih =>
    intro parts hl h
    cases parts with
    | nil => simp at hl
    | cons c parts =>
      obtain ⟨ps, h1, h2, h3⟩ := h 0 t c rfl rfl
      obtain ⟨pss, g1, g2, g3, g4⟩ := ih parts (by simpa using hl) (fun i t' cs' ht hc => h (i + 1) t' cs' (by simpa using ht) (by simpa using hc))
      refine ⟨ps :: pss, by simp [g1], ?_, ?_, ?_⟩
      · intro i t' ps' ht hp
        cases i with
        | zero => simp at ht hp; subst ht hp; exact h1
        | succ i => exact g2 i t' ps' (by simpa using ht) (by simpa using hp)
      · intro p hp
        rw [List.flatten_cons, List.mem_append] at hp
        exact hp.elim (h2 p) (g3 p)
      · rw [List.flatten_cons, List.flatten_cons]
        exact h3.append g4

theorem tile_flat : ∀ (fs : List Field) (off tot : Nat) (cs : List Value), tile P fs off = some tot → cs.length = tot → cs.drop off = (fs.map fun f => (cs.drop f.offset).take (P.cellsOf f.type)).flatten
  | [], off, tot, cs, h, hl => by
    simp [tile] at h
    subst h
    simp [hl]
  | f :: r, off, tot, cs, h, hl => by
    simp only [tile] at h
    split at h
    · rename_i ho
      have := tile_flat r _ tot cs h hl
      rw [List.map_cons, List.flatten_cons, ← this, ho, ← List.drop_drop, List.take_append_drop]
    · cases h

theorem chunk_flat (sz : Nat) : ∀ (n : Nat) (cs : List Value), cs.length = n * sz → cs = ((List.range n).map fun i => (cs.drop (i * sz)).take sz).flatten := by
  intro n cs hl
  have key : ∀ m, m ≤ n → cs.take (m * sz) = ((List.range m).map fun i => (cs.drop (i * sz)).take sz).flatten := by
    intro m
    induction m with
    | zero => intro _; simp
    | succ m ih =>
      intro hm
      rw [List.range_succ, List.map_append, List.flatten_append, ← ih (by omega), Nat.succ_mul, List.take_add]
      simp
  rw [← key n (Nat.le_refl _), ← hl, List.take_length]

/-- What a datum weighs suits. -/
def Wok (P : Program) (t : TypeId) (d : DataW H) : Prop := (d.weights P t).all (· ≤ reachBytes) = true
theorem wok_all {e : TypeId} {d : DataW H} : ∀ {l : List (DataW H)}, (DataW.weightsAll P e l).all (· ≤ reachBytes) = true → d ∈ l → Wok P e d
  | a :: l, h, hd => by
    rw [DataW.weightsAll, List.all_append, Bool.and_eq_true] at h
    rcases List.mem_cons.1 hd with rfl | hd
    · exact h.1
    · exact wok_all h.2 hd
theorem wok_each : ∀ {ts : List TypeId} {ds : List (DataW H)} {i : Nat} {t : TypeId} {d : DataW H}, (DataW.weightsEach P ts ds).all (· ≤ reachBytes) = true → ts[i]? = some t → ds[i]? = some d → Wok P t d
  | t :: ts, d :: ds, i, u, v, h, ht, hd => by
    rw [DataW.weightsEach, List.all_append, Bool.and_eq_true] at h
    cases i with
    | zero => simp at ht hd; subst ht hd; exact h.1
    | succ i => exact wok_each h.2 (by simpa using ht) (by simpa using hd)
  | [], _, i, u, v, h, ht, hd => by simp at ht
  | _ :: _, [], i, u, v, h, ht, hd => by simp at hd

theorem trod_shp : ∀ (fuel n : Nat) (t : TypeId) (cs : List Value) (x : DataW H × List MemPlace), plainT P n t = true → Wok P t x.1 → DataW.trod enc P W 0 (fun _ => true) true fuel t cs = some x → ∃ ps, Opens P W t cs ps := by
  intro fuel
  induction fuel with
  | zero => intro n t cs x _ _ h; simp [DataW.trod] at h
  | succ fuel ih =>
    intro n t cs x hp hq h
    cases n with
    | zero => simp [plainT] at hp
    | succ n =>
      unfold plainT at hp
      split at hp
      · rename_i ht
        obtain ⟨b, rfl, _⟩ := DataW.trod_bool ht h
        exact ⟨[.bool b], .bool b ht, fun p hp => by simp at hp; subst hp; rfl, VRels.append (a := [.bool b]) (u := [.bool b]) ⟨rfl, fun j x u hx hu => by cases j <;> simp at hx hu; subst hx hu; exact .bool b⟩ VRels.nil'⟩
      · rename_i k ht
        obtain ⟨m, rfl, _, hw⟩ := DataW.trod_int ht h
        exact ⟨[.int k m], .int ht hw, fun p hp => by simp at hp; subst hp; rfl, ⟨rfl, fun j x u hx hu => by cases j <;> simp at hx hu; subst hx hu; exact .int k m⟩⟩
      · rename_i ht
        obtain ⟨s, rfl, _, hw⟩ := DataW.trod_string ht h
        exact ⟨[.str s.data.toList], .str ht (by rw [Array.length_toList]; exact hw), fun p hp => by simp at hp; subst hp; rfl, ⟨rfl, fun j x u hx hu => by cases j <;> simp at hx hu; subst hx hu; exact .str s⟩⟩
      · rename_i e ht
        simp only [Bool.and_eq_true, decide_eq_true_eq] at hp
        rcases DataW.trod_slice ht h with ⟨rfl, _⟩ | ⟨a, len, cap, elems, rest, m, hfm, rfl, rfl, hb, hlc, hm, hlen, hel, hsp, _⟩
        · refine ⟨[.slice [] 0 false], Shp.slice (pss := []) ht ⟨Nat.zero_le _, by simp⟩ (fun ps hp => by simp at hp), fun p hp => by simp at hp; subst hp; rfl, ⟨rfl, fun j x u hx hu => ?_⟩⟩
          cases j <;> simp at hx hu
          subst hx hu
          exact .sliceN _ _
        · injection hfm with hfm
          subst hfm
          simp only [Wok, DataW.weights, ht, List.all_cons, List.all_append, Bool.and_eq_true, decide_eq_true_eq, List.length_map] at hq
          obtain ⟨hq1, hq2, _⟩ := hq
          have hcell : ∀ i, i < cap → ∃ cs' y, W.cells? 0 (a.add (i * P.cellsOf e)) (P.cellsOf e) = some cs' ∧ DataW.trod enc P W 0 (fun _ => true) true fuel e cs' = some y := by
            intro i hi
            obtain ⟨hrl, hrest⟩ := hsp rfl
            have : ∃ y, (W.cells? 0 (a.add (i * P.cellsOf e)) (P.cellsOf e)).bind (DataW.trod enc P W 0 (fun _ => true) true fuel e) = some y := by
              rcases Nat.lt_or_ge i len with hil | hil
              · exact ⟨elems[i]'(by omega), by rw [hel i hil]; exact List.getElem?_eq_getElem (by omega)⟩
              · have := hrest (i - len) (by omega)
                rw [show len + (i - len) = i by omega] at this
                exact ⟨rest[i - len]'(by omega), by rw [this]; exact List.getElem?_eq_getElem (by omega)⟩
            obtain ⟨y, hy⟩ := this
            obtain ⟨cs', h1, h2⟩ := Option.bind_eq_some_iff.1 hy
            exact ⟨cs', y, h1, h2⟩
          rcases Nat.eq_zero_or_pos cap with h0 | h0
          · subst h0
            obtain rfl : len = 0 := by omega
            refine ⟨[.slice [] 0 false], Shp.slice (pss := []) ht ⟨Nat.zero_le _, by simp⟩ (fun ps hp => by simp at hp), fun p hp => by simp at hp; subst hp; rfl, ⟨rfl, fun j x u hx hu => ?_⟩⟩
            cases j <;> simp at hx hu
            subst hx hu
            exact .sliceN _ _
          · have hspot : a = ⟨a.block, a.off, none⟩ := by
              obtain ⟨cs', y, h1, _⟩ := hcell 0 h0
              have h2 := (World.cells?_some h1).2
              have h3 := h2.2 0 hp.1
              rw [Nat.zero_mul] at h3
              have h4 : a.add 0 = a := by simp [Addr.add]
              rw [h4, h4, List.getElem?_eq_getElem (by omega)] at h3
              have : a.spot = none := by
                unfold World.cell? at h3
                split at h3
                · split at h3
                  · cases h3
                  · rename_i hs; simpa using hs
                · cases h3
              cases a; simp at this; subst this; rfl
            have key : ∀ m, m ≤ len → ∃ (pss : List (List PV)) (us : List Value), pss.length = m ∧ us.length = m * P.cellsOf e ∧ (∀ ps ∈ pss, Shp P e ps) ∧ (∀ p ∈ pss.flatten, p.cell = true) ∧ VRels (Ctx.start W) pss.flatten us ∧
                ∀ (j : Nat) (u : Value), us[j]? = some u → W.cell? ⟨a.block, a.off + j, none⟩ = some u := by
              intro m
              induction m with
              | zero => intro _; exact ⟨[], [], rfl, by simp, fun ps hp => by simp at hp, fun p hp => by simp at hp, VRels.nil', fun j u hu => by simp at hu⟩
              | succ m ihm =>
                intro hm'
                obtain ⟨pss, us, g1, g2, g3, g4, g5, g6⟩ := ihm (by omega)
                obtain ⟨cs', h1, h2⟩ := Option.bind_eq_some_iff.1 ((hel m (by omega)).trans (List.getElem?_eq_getElem (by omega)))
                obtain ⟨ps, k1, k2, k3⟩ := ih n e cs' _ hp.2 (wok_all hq2 (List.mem_map_of_mem (List.getElem_mem (by omega)))) h2
                obtain ⟨_, hcl, hcc⟩ := World.cells?_some h1
                refine ⟨pss ++ [ps], us ++ cs', by simp [g1], by simp [g2, hcl, Nat.succ_mul], ?_, ?_, ?_, ?_⟩
                · intro q hq
                  rcases List.mem_append.1 hq with hq | hq
                  · exact g3 q hq
                  · simp at hq; subst hq; exact k1
                · intro p hq
                  simp only [List.flatten_append, List.flatten_cons, List.flatten_nil, List.append_nil, List.mem_append] at hq
                  exact hq.elim (g4 p) (k2 p)
                · simp only [List.flatten_append, List.flatten_cons, List.flatten_nil, List.append_nil]
                  exact g5.append k3
                · intro j u hu
                  rcases Nat.lt_or_ge j us.length with hj | hj
                  · rw [List.getElem?_append_left hj] at hu
                    exact g6 j u hu
                  · rw [List.getElem?_append_right hj] at hu
                    have hlt := (List.getElem?_eq_some_iff.1 hu).1
                    have := hcc (j - us.length) (by omega)
                    rw [hu, hspot, Addr.add_lit, Addr.add_lit] at this
                    rw [← this]
                    congr 2
                    omega
            obtain ⟨pss, us, g1, g2, g3, g4, g5, g6⟩ := key len (Nat.le_refl _)
            refine ⟨[.slice pss.flatten pss.length false], Shp.slice ht ⟨by omega, Nat.le_trans (Nat.mul_le_mul_right _ (by omega)) hq1⟩ g3, fun p hp => by simp at hp; subst hp; rfl, ⟨rfl, fun j x u hx hu => ?_⟩⟩
            cases j <;> simp at hx hu
            subst hx hu
            rw [hspot, ← g1]
            exact .slice (us := us) g5.1 g6 g4 g5.2 (by omega) hm (fun hf => by cases hf)
      · rename_i m e ht
        simp only [Bool.and_eq_true, decide_eq_true_eq] at hp
        obtain ⟨xs, m', hfm, rfl, hl, hxl, hx⟩ := DataW.trod_array ht h
        injection hfm with hfm
        subst hfm
        simp only [Wok, DataW.weights, ht] at hq
        obtain ⟨pss, g1, g2, g3, g4⟩ := opens_parts (P := P) (W := W) (ts := List.replicate m e) ((List.range m).map fun i => (cs.drop (i * P.cellsOf e)).take (P.cellsOf e)) (by simp) (by
          intro i t' cs' ht' hc'
          have hi : i < m := by
            have := (List.getElem?_eq_some_iff.1 ht').1
            simpa using this
          simp [hi] at ht' hc'
          subst ht' hc'
          have := hx i hi
          rw [List.getElem?_eq_getElem (by omega)] at this
          exact ih n e _ _ hp.2 (wok_all hq (List.mem_map_of_mem (List.getElem_mem (by omega)))) this)
        rw [← chunk_flat (P.cellsOf e) m cs (by rw [hl, hp.1])] at g4
        refine ⟨pss.flatten, .array ht (by simpa using g1) (fun ps hps => ?_), g3, g4⟩
        obtain ⟨i, hi⟩ := List.getElem?_of_mem hps
        have hi' := (List.getElem?_eq_some_iff.1 hi).1
        have hi2 : i < m := by simp at g1; omega
        exact g2 i e ps (by simp [hi2]) hi
      · rename_i fs ht
        simp only [Bool.and_eq_true, decide_eq_true_eq, List.all_eq_true] at hp
        obtain ⟨xs, m', hfm, rfl, hl, hxl, hx⟩ := DataW.trod_struct ht h
        injection hfm with hfm
        subst hfm
        simp only [Wok, DataW.weights, ht] at hq
        obtain ⟨pss, g1, g2, g3, g4⟩ := opens_parts (P := P) (W := W) (ts := fs.toList.map (·.type)) (fs.toList.map fun f => (cs.drop f.offset).take (P.cellsOf f.type)) (by simp) (by
          intro i t' cs' ht' hc'
          simp only [List.getElem?_map, Option.map_eq_some_iff] at ht' hc'
          obtain ⟨f, hf, rfl⟩ := ht'
          obtain ⟨f', hf', rfl⟩ := hc'
          rw [hf] at hf'
          injection hf' with hf'
          subst hf'
          have hi := (List.getElem?_eq_some_iff.1 hf).1
          have := hx i f (by simpa using hf)
          rw [List.getElem?_eq_getElem (by simp at hi; omega)] at this
          exact ih n f.type _ _ (hp.2 f (List.mem_of_getElem? hf)) (wok_each (i := i) hq (by rw [List.getElem?_map, hf]; rfl) (by rw [List.getElem?_map, List.getElem?_eq_getElem]; rfl)) this)
        rw [← tile_flat fs.toList 0 _ cs hp.1 hl, List.drop_zero] at g4
        refine ⟨pss.flatten, .struct ht (by simpa using g1) (fun i f ps hf hps => g2 i f.type ps (by simp; exact ⟨f, by simpa using hf, rfl⟩) hps), g3, g4⟩
      · cases hp

/-- An argument: its cells, or the one. -/
def ArgShp (P : Program) (t : TypeId) (x : PV) : Prop := ∃ ps, Shp P t ps ∧ ((aggT P t = true ∧ x = .agg ps) ∨ (aggT P t = false ∧ ps = [x]))
def ArgsShp (P : Program) : List TypeId → List PV → Prop
  | [], [] => True
  | t :: ts, x :: xs => ArgShp P t x ∧ ArgsShp P ts xs
  | _, _ => False

theorem arg_shp {t : TypeId} {v : Value} {d : DataW H} {p : List MemPlace} {r : Reach} {b0 n : Nat} (hn : plainT P n t = true) (hw : Wok P t d) (hv : Value.okWide P W r b0 t v) (h : DataW.Trod enc P W 0 (fun _ => true) true t v d p) :
    ∃ x, ArgShp P t x ∧ VRel (Ctx.start W) x v := by
  obtain ⟨fuel, hf⟩ := h
  obtain ⟨ps, h1, h2, h3⟩ := trod_shp fuel n t _ _ hn hw hf
  have one : aggT P t = false → (∀ cs, v ≠ .agg cs) → ∃ x, ArgShp P t x ∧ VRel (Ctx.start W) x v := by
    intro ha hna
    have hc : v.cells.toList = [v] := by cases v <;> first | rfl | exact absurd rfl (hna _)
    rw [hc] at h3
    match ps, h3.1 with
    | [x], _ => exact ⟨x, ⟨[x], h1, .inr ⟨ha, rfl⟩⟩, h3.2 0 x v rfl rfl⟩
  have many : aggT P t = true → (∃ cs, v = .agg cs) → ∃ x, ArgShp P t x ∧ VRel (Ctx.start W) x v := by
    rintro ha ⟨cs, rfl⟩
    refine ⟨.agg ps, ⟨ps, h1, .inl ⟨ha, rfl⟩⟩, ?_⟩
    have := VRel.agg (C := Ctx.start W) (cs := ps) (us := cs.toList) h3.1 h2 h3.2
    simpa using this
  unfold plainT at hn
  split at hn
  · cases hn
  split at hn
  · rename_i ht; exact one (by simp [aggT, ht]) (fun cs e => by subst e; simp [Value.okWide, ht, Cell.okWide, Cell.ok] at hv)
  · rename_i ht; exact one (by simp [aggT, ht]) (fun cs e => by subst e; simp [Value.okWide, ht, Cell.okWide, Cell.ok] at hv)
  · rename_i ht; exact one (by simp [aggT, ht]) (fun cs e => by subst e; simp [Value.okWide, ht, Cell.okWide, Cell.ok] at hv)
  · rename_i ht; exact one (by simp [aggT, ht]) (fun cs e => by subst e; simp [Value.okWide, ht, Cell.okWide, Cell.ok] at hv)
  · rename_i ht; exact many (by simp [aggT, ht]) (by simp only [Value.okWide, ht] at hv; obtain ⟨cs, h, _⟩ := hv; exact ⟨cs, h⟩)
  · rename_i ht; exact many (by simp [aggT, ht]) (by simp only [Value.okWide, ht] at hv; obtain ⟨cs, h, _⟩ := hv; exact ⟨cs, h⟩)
  · cases hn

theorem args_shp {r : Reach} {b0 n : Nat} {X : List TypeId} : ∀ {ts : List TypeId} {vs : List Value} {ds : List (DataW H)} {p : List MemPlace}, (∀ t ∈ ts, plainT P n t = true) → (DataW.weightsEach P (ts ++ X) ds).all (· ≤ reachBytes) = true → (∀ (j : Nat) t v, ts[j]? = some t → vs[j]? = some v → Value.okWide P W r b0 t v) →
    DataW.TrodAll enc P W 0 (fun _ => true) true ts vs ds p → ∃ xs, ArgsShp P ts xs ∧ VRels (Ctx.start W) xs vs
  | [], [], [], p, _, _, _, _ => ⟨[], trivial, VRels.nil'⟩
  | t :: ts, v :: vs, d :: ds, p, hn, hw, hv, h => by
    obtain ⟨p1, q1, h1, h2, _⟩ := h
    rw [List.cons_append, DataW.weightsEach, List.all_append, Bool.and_eq_true] at hw
    obtain ⟨x, a1, a2⟩ := arg_shp (hn t (List.mem_cons_self ..)) hw.1 (hv 0 t v rfl rfl) h1
    obtain ⟨xs, b1, b2⟩ := args_shp (fun t' ht => hn t' (List.mem_cons_of_mem _ ht)) hw.2 (fun j t' v' ht hv' => hv (j + 1) t' v' (by simpa using ht) (by simpa using hv')) h2
    exact ⟨x :: xs, ⟨a1, b1⟩, VRels.append (a := [x]) (u := [v]) ⟨rfl, fun j x' u hx hu => by cases j <;> simp at hx hu; subst hx hu; exact a2⟩ b2⟩
  | [], [], _ :: _, _, _, _, _, h => h.elim
  | [], _ :: _, _, _, _, _, _, h => h.elim
  | _ :: _, [], _, _, _, _, _, h => h.elim
  | _ :: _, _ :: _, [], _, _, _, _, h => h.elim

theorem args_stay {W' : World} (hl : laidOutB P = true) (hb : Below W.heap.size W W') : ∀ {ts : List TypeId} {vs : List Value} {ds : List (DataW H)} {p : List MemPlace}, (∀ t ∈ ts, P.readableRec t = true ∧ t < P.types.size) →
    DataW.TrodAll enc P W 0 (fun _ => true) true ts vs ds p → DataW.TrodAll enc P W' 0 (fun b => decide (b < W.heap.size)) true ts vs ds p
  | [], [], [], p, _, h => h
  | t :: ts, v :: vs, d :: ds, p, hr, h => by
    obtain ⟨p1, q1, h1, h2, h3⟩ := h
    obtain ⟨r1, r2⟩ := hr t (List.mem_cons_self ..)
    refine ⟨p1, q1, Below.trod hl r1 r2 h1 hb ?_, args_stay hl hb (fun t' ht => hr t' (List.mem_cons_of_mem _ ht)) h2, h3⟩
    obtain ⟨m, hm⟩ := h1
    exact DataW.trod_lt m _ _ _ hm
  | [], [], _ :: _, _, _, h => h.elim
  | [], _ :: _, _, _, _, h => h.elim
  | _ :: _, [], _, _, _, h => h.elim
  | _ :: _, _ :: _, [], _, _, h => h.elim

/-- ████ A LAW'S CALL ████ -/
theorem law_call {f : FuncId} {fn : Func} {s : ChangeSpec} {apart fresh handsOn : Bool} {r : Reach} {b0 n : Nat} {args : Array Value} {ds gs : List (DataW H)} {before : List MemPlace} {tb : TypeId} {X : List TypeId}
    (hsz : (DataW.weightsEach P (fn.params.toList ++ X) (ds ++ gs)).all (· ≤ reachBytes) = true) (hg : Glob (Ctx.start W).M) (hlaw : ∀ xs, ArgsShp P fn.params.toList xs → CallOk P f xs [] (.bool true) [])
    (hl : laidOutB P = true) (hplain : fn.params.toList.all (plainT P n) = true) (hread : fn.params.toList.all (fun t => P.readableRec t && decide (t < P.types.size)) = true)
    (hres : fn.resultTypes = #[tb]) (htb : P.underlying tb = some .bool) (hvars : s.vars = [])
    (hfn : ∀ ds : List (DataW H), ds.length = fn.params.size → s.fn H ds = { results := [.lit (.bool true)], args := ds })
    (hval : ∀ (j : Nat) t v, fn.params[j]? = some t → args[j]? = some v → Value.okWide P W r b0 t v)
    (hW : DataW.Whole enc P fn.params.toList s.vars apart W args.toList ds gs before) :
    Calls P f args W fun e W' => ∃ v, e = .returned v ∧ s.post enc P fn apart fresh handsOn false W args v W' := by
  have hW' := hW
  obtain ⟨p, q, hA, hV, hpq, hfz, hnd⟩ := hW
  rw [hvars] at hV
  obtain ⟨rfl, rfl⟩ := trodVars_none hV
  obtain ⟨xs, x1, x2⟩ := args_shp (n := n) (X := X) (List.all_eq_true.1 hplain) (by simpa using hsz) (fun j t v ht hv => hval j t v (by simpa using ht) (by simpa using hv)) hA
  have hlen : ds.length = fn.params.size := by
    have : ∀ {ts : List TypeId} {vs : List Value} {ds : List (DataW H)} {p : List MemPlace}, DataW.TrodAll enc P W 0 (fun _ => true) true ts vs ds p → ds.length = ts.length := by
      intro ts
      induction ts with
      | nil => intro vs ds p h; cases vs <;> cases ds <;> first | rfl | exact h.elim
      | cons t ts ih =>
        intro vs ds p h
        cases vs with
        | nil => exact h.elim
        | cons v vs =>
          cases ds with
          | nil => exact h.elim
          | cons d ds => obtain ⟨_, _, _, h2, _⟩ := h; simp [ih h2]
    simpa using this hA
  have hc := (hlaw xs x1).2 (Ctx.start W) args.toList W (WRel.start W hg) x2
  have hc : Calls P f args W fun e w' => ∃ C' u, CLe (Ctx.start W) C' ∧ WRel C' [] w' ∧ Below (Ctx.start W).B W w' ∧ e = .returned u ∧ VRel C' (.bool true) u := by simpa using hc
  refine hc.mono fun e W' ⟨C', u, _, _, bel, he, hu⟩ => ?_
  cases hu
  refine ⟨_, he, ds, [], before, [], p, [], hW', ?_, ?_, ?_, bel.frame _, fun h => by cases h⟩
  · rw [List.append_nil, hfn ds hlen, hres]
    exact trodAll_mk1 (shut_bool htb _)
  · rw [List.append_nil, hfn ds hlen]
    exact args_stay hl bel (fun t ht => by have := List.all_eq_true.1 hread t ht; simpa using this) hA
  · rw [List.append_nil, hfn ds hlen, hvars]
    rfl

/-! ### reading a shape -/
theorem Shp.of_int {t : TypeId} {k : IntKind} {ps : List PV} (ht : P.underlying t = some (.int k)) (h : Shp P t ps) : ∃ n, ps = [.int k n] ∧ (Lit.int k n).wf = true := by
  cases h with
  | int ht' hw => rw [ht] at ht'; cases ht'; exact ⟨_, rfl, hw⟩
  | _ => simp_all
theorem Shp.of_slice {t e : TypeId} {ps : List PV} (ht : P.underlying t = some (.slice e)) (h : Shp P t ps) : ∃ pss : List (List PV), ps = [.slice pss.flatten pss.length false] ∧ pss.length ≤ maxLen ∧ ∀ q ∈ pss, Shp P e q := by
  cases h with
  | slice ht' hm h => rw [ht] at ht'; cases ht'; exact ⟨_, rfl, hm.1, h⟩
  | _ => simp_all
/-- A slice of integers. -/
theorem Shp.of_ints {t e : TypeId} {k : IntKind} {ps : List PV} (ht : P.underlying t = some (.slice e)) (he : P.underlying e = some (.int k)) (h : Shp P t ps) :
    ∃ zs : List Int, ps = [.slice (zs.map (.int k)) zs.length false] ∧ zs.length ≤ maxLen ∧ ∀ z ∈ zs, (Lit.int k z).wf = true := by
  obtain ⟨pss, rfl, hm, h⟩ := h.of_slice ht
  have : ∀ pss : List (List PV), (∀ q ∈ pss, Shp P e q) → ∃ zs : List Int, pss.flatten = zs.map (.int k) ∧ zs.length = pss.length ∧ ∀ z ∈ zs, (Lit.int k z).wf = true := by
    intro pss
    induction pss with
    | nil => intro _; exact ⟨[], rfl, rfl, fun z hz => by simp at hz⟩
    | cons a r ih =>
      intro h
      obtain ⟨n, rfl, hw⟩ := (h a (List.mem_cons_self ..)).of_int he
      obtain ⟨zs, h1, h2, h3⟩ := ih (fun q hq => h q (List.mem_cons_of_mem _ hq))
      exact ⟨n :: zs, by simp [h1], by simp [h2], fun z hz => by rcases List.mem_cons.1 hz with rfl | hz; exact hw; exact h3 z hz⟩
  obtain ⟨zs, h1, h2, h3⟩ := this pss h
  exact ⟨zs, by rw [h1, h2], by omega, h3⟩

/-- A struct, field by field. -/
def FieldsShp (P : Program) : List Field → List (List PV) → Prop
  | [], [] => True
  | f :: r, a :: b => Shp P f.type a ∧ FieldsShp P r b
  | _, _ => False
theorem FieldsShp.of : ∀ (fs : List Field) (pss : List (List PV)), pss.length = fs.length → (∀ (i : Nat) (f : Field) (ps : List PV), fs[i]? = some f → pss[i]? = some ps → Shp P f.type ps) → FieldsShp P fs pss
  | [], [], _, _ => trivial
  | f :: r, a :: b, hl, h => ⟨h 0 f a rfl rfl, FieldsShp.of r b (by simpa using hl) fun i f ps hf hp => h (i + 1) f ps (by simpa using hf) (by simpa using hp)⟩
  | [], _ :: _, hl, _ => by simp at hl
  | _ :: _, [], hl, _ => by simp at hl
/-- An argument that is a struct or an array; one that is not. -/
theorem ArgShp.agg {t : TypeId} {x : PV} (h : ArgShp P t x) (ha : aggT P t = some true) : ∃ ps, Shp P t ps ∧ x = .agg ps := by
  obtain ⟨ps, hp, ⟨_, rfl⟩ | ⟨hf, _⟩⟩ := h
  · exact ⟨ps, hp, rfl⟩
  · rw [ha] at hf; cases hf
theorem ArgShp.one {t : TypeId} {x : PV} (h : ArgShp P t x) (ha : aggT P t = some false) : Shp P t [x] := by
  obtain ⟨ps, hp, ⟨hf, _⟩ | ⟨_, rfl⟩⟩ := h
  · rw [ha] at hf; cases hf
  · exact hp

theorem ArgsShp.cons {t : TypeId} {ts : List TypeId} {xs : List PV} (h : ArgsShp P (t :: ts) xs) : ∃ x r, xs = x :: r ∧ ArgShp P t x ∧ ArgsShp P ts r := by
  match xs, h with
  | x :: r, h => exact ⟨x, r, rfl, h.1, h.2⟩
theorem ArgsShp.nil {xs : List PV} (h : ArgsShp P [] xs) : xs = [] := by
  match xs, h with
  | [], _ => rfl

end Go.Proofs.YtbhdollgohgkgaaGreatDoor.Pm

namespace Go.Proofs.YtbhdollgohgkgaaGreatDoor.Pm
set_option linter.all false
set_option linter.unusedVariables false
set_option linter.unusedSimpArgs false
open Go.RowKit

variable {P : Program} {C : Ctx} {H : Heap} {w : World} {F : Fr} {a : Act} {N : Nat}

/-- Is it carried out? By the slots that the operations write. -/
def asked (ds : List (Option Nat)) (F : Fr) (o : Oper) : Option Bool :=
  match o.guard with
  | none => some true
  | some (j, b) => match ds[j]? with
    | some (some d) => match slot F d with
      | .bool x => some (x == b)
      | .tup [] => some false
      | _ => none
    | _ => none

theorem asked_want (all : List Oper) (F : Fr) (o : Oper) {b : Bool} (h : asked (all.map (·.dst)) F o = some b) : want all (slot F) o = some b := by
  unfold asked at h
  unfold want
  grind

/-- One operation that is no call. -/
def stp (P : Program) (ds : List (Option Nat)) (o : Oper) (F : Fr) (H : Heap) : Option (Fr × Heap) :=
  match asked ds F o with
  | some true => match pop P o.op (slot F) H with
    | some (v, H') => some (put F o.dst v, H')
    | none => none
  | some false => some (put F o.dst (.tup []), H)
  | none => none

def isCall : Op → Bool
  | .call { callee := .value _, .. } => true
  | _ => false

/-- One that is. -/
def VC (P : Program) (ds : List (Option Nat)) (o : Oper) (F : Fr) (H : Heap) (K : Fr → Heap → Prop) : Prop :=
  match asked ds F o with
  | some true => match pcallee o.op (slot F) with
    | some (g, args) => ∃ R, CallEx P g args H R ∧ ∀ v H', R v H' → K (put F o.dst v) H'
    | none => False
  | some false => K (put F o.dst (.tup [])) H
  | none => False

/-- What is left of a region. -/
def VO (P : Program) (ds : List (Option Nat)) : List Oper → Option (Fr × Heap) → (Fr → Heap → Prop) → Prop
  | _, none, _ => False
  | [], some (F, H), K => K F H
  | o :: r, some (F, H), K => match isCall o.op with
    | false => VO P ds r (stp P ds o F H) K
    | true => VC P ds o F H fun F' H' => VO P ds r (some (F', H')) K

/-- The same, not to be evaluated yet. -/
def VR (P : Program) (ds : List (Option Nat)) (r : List Oper) (K : Fr → Heap → Prop) (F : Fr) (H : Heap) : Prop := VO P ds r (some (F, H)) K

theorem VO_nil (ds : List (Option Nat)) (K : Fr → Heap → Prop) (F : Fr) (H : Heap) : VO P ds [] (some (F, H)) K = K F H := rfl
theorem VO_none (ds : List (Option Nat)) (l : List Oper) (K : Fr → Heap → Prop) : VO P ds l none K = False := by cases l <;> rfl
theorem VO_op {ds : List (Option Nat)} {o : Oper} {r : List Oper} {K : Fr → Heap → Prop} {F : Fr} {H : Heap} (h : isCall o.op = false) : VO P ds (o :: r) (some (F, H)) K = VO P ds r (stp P ds o F H) K := by
  simp only [VO, h]
theorem VO_call {ds : List (Option Nat)} {o : Oper} {r : List Oper} {K : Fr → Heap → Prop} {F : Fr} {H : Heap} (h : isCall o.op = true) : VO P ds (o :: r) (some (F, H)) K = VC P ds o F H (VR P ds r K) := by
  simp only [VO, h]
  rfl

theorem VO_step (ds : List (Option Nat)) (o : Oper) (r : List Oper) (K : Fr → Heap → Prop) (F : Fr) (H : Heap) :
    VO P ds (o :: r) (some (F, H)) K = match isCall o.op with | false => VO P ds r (stp P ds o F H) K | true => VC P ds o F H (VR P ds r K) := by
  cases h : isCall o.op with
  | false => exact VO_op h
  | true => exact VO_call h

theorem VC.call {ds : List (Option Nat)} {o : Oper} {K : Fr → Heap → Prop} {g : FuncId} {args : List PV} {v : PV} {H' : Heap} (h : CallOk P g args H v H') (hw : asked ds F o = some true) (hc : pcallee o.op (slot F) = some (g, args))
    (hk : K (put F o.dst v) H') : VC P ds o F H K := by
  unfold VC
  rw [hw]
  simp only [hc]
  exact ⟨_, h.toEx, fun v' H'' e => by rw [e.1, e.2]; exact hk⟩
theorem VO_sound {all : List Oper} {K : Fr → Heap → Prop} : ∀ (l : List Oper) (F : Fr) (H : Heap), VO P (all.map (·.dst)) l (some (F, H)) K → vops P all l K F H
  | [], F, H, h => h
  | o :: r, F, H, h => by
    have hcl : isCall o.op = false → pcallee o.op (slot F) = none := fun hc => by
      unfold pcallee
      grind [isCall]
    cases hc : isCall o.op with
    | false =>
      rw [VO_op hc] at h
      unfold stp at h
      split at h
      · rename_i hb
        simp only [vops, asked_want all F o hb, true_implies, reduceCtorEq, false_implies, and_true, hcl hc]
        split at h
        · rename_i v H' hp
          simp only [hp]
          exact VO_sound r _ _ h
        simp_all [VO_none]
      · rename_i hb
        simp only [vops, asked_want all F o hb, true_implies, reduceCtorEq, false_implies, true_and]
        exact VO_sound r _ _ h
      · rw [VO_none] at h; exact h.elim
    | true =>
      rw [VO_call hc] at h
      unfold VC at h
      split at h
      · rename_i hb
        simp only [vops, asked_want all F o hb, true_implies, reduceCtorEq, false_implies, and_true]
        split at h
        · rename_i g args hp
          obtain ⟨R, h1, h2⟩ := h
          simp only [hp]
          exact ⟨R, h1, fun v H' hR => VO_sound r _ _ (h2 v H' hR)⟩
        simp_all
      · rename_i hb
        simp only [vops, asked_want all F o hb, true_implies, reduceCtorEq, false_implies, true_and]
        exact VO_sound r _ _ h
      simp_all

section rules
variable {E : Env} {Q : Exit → Fr → Heap → Prop}
theorem PW.rg {id : Nat} {ops : Array Oper} (hd : ops.toList.all (dstOk E.N) = true) (h : ∀ K : Fr → Heap → Prop, (∀ F' H', Q .normal F' H' → K F' H') → VO P (ops.toList.map (·.dst)) ops.toList (some (F, H)) K) :
    PW P E (.region id ops false) F H Q := PW.region hd (VO_sound _ _ _ (h _ fun _ _ h => h))

/-- A region with one state behind it. -/
theorem PW.rg1 {id : Nat} {ops : Array Oper} (ks : List Nat) (F1 : Fr) (H1 : Heap) (hd : ops.toList.all (dstOk E.N) = true) (h : VO P (ops.toList.map (·.dst)) ops.toList (some (F, H)) (fun F' H' => kp ks F' = F1 ∧ H' = H1)) (hq : Q .normal F1 H1) :
    PW P E (.region id ops false) F H Q := PW.region_to ks F1 H1 hd (VO_sound _ _ _ h) hq
end rules

/-- Ways that meet again. -/
theorem PW.join {E : Env} {Q : Exit → Fr → Heap → Prop} {x y : Code} (ks : List Nat) (J : Fr → Heap → Prop) (h : PW P E x F H (thenQ (fun F' H' => J (kp ks F') H') Q)) (hj : ∀ F' H', J F' H' → PW P E y F' H' Q) : PW P E (.seq x y) F H Q :=
  PW.seq (h.mono fun e F' H' hq => by
    cases e with
    | normal => exact (hj _ _ hq).keep ks
    | _ => exact hq)

theorem hp0 (H K : Heap) (b : Blk) : (H ++ b :: K)[H.length]? = some b := by simp
theorem hp1 (H K : Heap) (a b : Blk) : (H ++ a :: b :: K)[H.length + 1]? = some b := by simp_all
theorem hp2 (H K : Heap) (a b c : Blk) : (H ++ a :: b :: c :: K)[H.length + 2]? = some c := by simp_all
theorem hp3 (H K : Heap) (a b c d : Blk) : (H ++ a :: b :: c :: d :: K)[H.length + 3]? = some d := by simp_all
theorem hs0 (H K : Heap) (b x : Blk) : (H ++ b :: K).set H.length x = H ++ x :: K := by simp
theorem hs1 (H K : Heap) (a b x : Blk) : (H ++ a :: b :: K).set (H.length + 1) x = H ++ a :: x :: K := by simp_all
theorem hs2 (H K : Heap) (a b c x : Blk) : (H ++ a :: b :: c :: K).set (H.length + 2) x = H ++ a :: b :: x :: K := by simp_all
theorem hl1 (H : Heap) (a : Blk) : (H ++ [a]).length = H.length + 1 := by simp
theorem hl2 (H : Heap) (a b : Blk) : (H ++ [a, b]).length = H.length + 2 := by simp
theorem hl3 (H : Heap) (a b c : Blk) : (H ++ [a, b, c]).length = H.length + 3 := by simp
theorem ite_ok {α : Type} {c : Prop} [Decidable c] (x y : α) (h : c) : (if c then x else y) = x := if_pos h
theorem ite_no {α : Type} {c : Prop} [Decidable c] (x y : α) (h : ¬ c) : (if c then x else y) = y := if_neg h

theorem dec_t {c : Prop} [Decidable c] (h : c) : decide c = true := decide_eq_true h
theorem dec_f {c : Prop} [Decidable c] (h : ¬ c) : decide c = false := decide_eq_false h
theorem beq_t {a b : Int} (h : a = b) : (a == b) = true := by simp [h]
theorem beq_f {a b : Int} (h : ¬ a = b) : (a == b) = false := by simp [h]
theorem bne_t {a b : Int} (h : ¬ a = b) : (a != b) = true := by simp [h]
theorem bne_f {a b : Int} (h : a = b) : (a != b) = false := by simp [h]

theorem w64 (n : Int) (h : -9223372036854775808 ≤ n ∧ n ≤ 9223372036854775807) : IntKind.i64.wrap n = n := IntWalk.i64_in n h
theorem w8 (n : Int) (h : 0 ≤ n ∧ n ≤ 255) : IntKind.u8.wrap n = n := IntWalk.u8_in n h
theorem w32 (n : Int) (h : 0 ≤ n ∧ n ≤ 4294967295) : IntKind.u32.wrap n = n := IntWalk.u32_in n h

/-! ### a slice that is appended to -/
def own : PV → Option Nat
  | .msl id _ _ _ _ _ => some id
  | _ => none

/-- The slice v holds n elements, the cells xs; it is nil or another slice without spare room, or a block of its own from B on. -/
def Acc (B e sz : Nat) (H : Heap) (v : PV) (xs : List PV) (n : Nat) : Prop :=
  xs.length = n * sz ∧ (v = .slice xs n true ∨ ∃ id ver, B ≤ id ∧ v = .msl id ver 0 n sz true ∧ H[id]? = some ⟨e, ver, xs⟩ ∧ ver ≤ xs.length)

theorem Acc.nil (B e sz : Nat) (H : Heap) : Acc B e sz H (.slice [] 0 true) [] 0 := ⟨by simp, .inl rfl⟩

/-- Blocks below B are as they were. -/
def Kept (B : Nat) (H H1 : Heap) : Prop := B ≤ H1.length ∧ ∀ j, j < B → H1[j]? = H[j]?
theorem Kept.refl (H : Heap) : Kept H.length H H := ⟨Nat.le_refl _, fun _ _ => rfl⟩
theorem Kept.more (H K : Heap) : Kept H.length H (H ++ K) := ⟨by simp, fun j hj => List.getElem?_append_left hj⟩
theorem Kept.split {H H1 : Heap} (h : Kept H.length H H1) : H1 = H ++ H1.drop H.length := by
  apply List.ext_getElem?
  intro j
  by_cases hj : j < H.length
  · rw [List.getElem?_append_left hj]; exact h.2 j hj
  grind
theorem Kept.trans {B : Nat} {H H1 H2 : Heap} (h : Kept B H H1) (h' : Kept B H1 H2) : Kept B H H2 := ⟨h'.1, fun j hj => (h'.2 j hj).trans (h.2 j hj)⟩

/-- What an append does to the heap. -/
structure Grew (H H2 : Heap) (o : Option Nat) : Prop where
  len : H.length ≤ H2.length
  other : ∀ j, j < H.length → o ≠ some j → H2[j]? = H[j]?

theorem Kept.grew {B : Nat} {H H1 H2 : Heap} {o : Option Nat} (h : Kept B H H1) (g : Grew H1 H2 o) (ho : ∀ j, o = some j → B ≤ j) : Kept B H H2 :=
  ⟨Nat.le_trans h.1 g.len, fun j hj => (g.other j (Nat.lt_of_lt_of_le hj h.1) (fun e => by have := ho j e; omega)).trans (h.2 j hj)⟩

theorem Acc.own_ge {B e sz n : Nat} {H : Heap} {v : PV} {xs : List PV} (h : Acc B e sz H v xs n) : ∀ j, own v = some j → B ≤ j ∧ j < H.length := fun j hj => by
  rcases h.2 with rfl | ⟨id, ver, hb, rfl, hk, hvl⟩
  all_goals grind [own, Option.some.injEq, List.getElem?_eq_some_iff.1]

theorem Acc.grew {B e sz n : Nat} {H H2 : Heap} {o : Option Nat} {v : PV} {xs : List PV} (h : Acc B e sz H v xs n) (g : Grew H H2 o) (hne : own v = none ∨ own v ≠ o) : Acc B e sz H2 v xs n := by
  refine ⟨h.1, ?_⟩
  rcases h.2 with h1 | ⟨id, ver, hb, rfl, hk, hvl⟩
  · simp_all
  · refine .inr ⟨id, ver, hb, rfl, ?_, hvl⟩
    rw [g.other id (List.getElem?_eq_some_iff.1 hk).1 (by rcases hne with h1 | h1; cases h1; exact fun e => h1 e.symm)]
    exact hk

theorem Acc.append {B e sz n b m : Nat} {t tx : TypeId} {H : Heap} {v x : PV} {xs news z : List PV} (h : Acc B e sz H v xs n) (ht : P.underlying t = some (.slice e)) (hs : szT P e = some sz) (hb : byT P e = some b) (hz : zcells P e = some z)
    (hpos : 0 < sz) (hzl : z.length = sz) (hx : appSrc P H e sz tx x = some (news, m)) (hm : news.length = m * sz) (h1 : (n + m) * b ≤ 140737488355328) (h2 : n + m ≤ 140737488355328) (hB : B ≤ H.length) :
    ∃ v2 H2, pappend P H t tx v x = some (v2, H2) ∧ Acc B e sz H2 v2 (xs ++ news) (n + m) ∧ Grew H H2 (own v) ∧ (own v2 = own v ∨ own v2 = some H.length) := by
  have hlen : (xs ++ news).length = (n + m) * sz := by rw [List.length_append, h.1, hm, Nat.add_mul]
  unfold pappend
  simp only [ht, hs, hb, hz, hpos, hzl, and_self, if_true, hx]
  rcases h.2 with rfl | ⟨id, ver, hid, rfl, hk, hvl⟩
  · by_cases h0 : m = 0
    · subst h0
      have hn : news = [] := List.eq_nil_of_length_eq_zero (by simpa using hm)
      subst hn
      exact ⟨_, _, by simp, by simpa using h, ⟨Nat.le_refl _, fun _ _ _ => rfl⟩, .inl rfl⟩
    · refine ⟨.msl H.length (xs ++ news).length 0 (n + m) sz true, H ++ [⟨e, (xs ++ news).length, xs ++ news⟩], by simp [h0, h1, h2, h.1], ⟨hlen, .inr ⟨H.length, _, hB, rfl, by simp, Nat.le_refl _⟩⟩, ⟨by simp, fun j hj _ => by rw [List.getElem?_append_left hj]⟩, .inr rfl⟩
  · have hlt := (List.getElem?_eq_some_iff.1 hk).1
    by_cases h0 : m = 0
    · subst h0
      have hn : news = [] := List.eq_nil_of_length_eq_zero (by simpa using hm)
      subst hn
      simp only [Nat.add_zero] at h1 h2
      refine ⟨_, _, by simp [hk, h.1, h1, h2, h.1 ▸ hvl], by simpa using h, ⟨Nat.le_refl _, fun _ _ _ => rfl⟩, .inl rfl⟩
    · refine ⟨.msl id (xs ++ news).length 0 (n + m) sz true, H.set id ⟨e, (xs ++ news).length, xs ++ news⟩, by simp [hk, h.1, h1, h2, h0, h.1 ▸ hvl], ⟨hlen, .inr ⟨id, _, hid, rfl, by simp [hlt], Nat.le_refl _⟩⟩, ⟨by simp, fun j hj hne => ?_⟩, .inl rfl⟩
      rw [List.getElem?_set_ne (by intro e; subst e; exact hne rfl)]

theorem Acc.len {B e sz n : Nat} {t : TypeId} {H : Heap} {v : PV} {xs : List PV} (h : Acc B e sz H v xs n) (ht : P.underlying t = some (.slice e)) : plen P H t v = some (.int .i64 (n : Nat)) := by
  rcases h.2 with rfl | ⟨id, ver, hid, rfl, hk, hvl⟩
  all_goals simp_all [plen, live]

theorem Acc.cells {B e sz n : Nat} {H : Heap} {v : PV} {xs : List PV} (h : Acc B e sz H v xs n) : scells H sz v = some (xs, n) := by
  rcases h.2 with rfl | ⟨id, ver, hid, rfl, hk, hvl⟩
  · simp [scells, h.1]
  · simp [scells, hk, h.1]
    rw [← h.1, List.take_length]

/-! ### freezing -/
/-- Given up, x becomes y. -/
def Frz (n : Nat) (H : Heap) (x y : PV) : Prop := ∃ d, ∀ d', d ≤ d' → frz n H d' x = some y
/-- It names no block. -/
def Still (x : PV) : Prop := ∃ d, ∀ n H d', d ≤ d' → frz n H d' x = some x

theorem Still.int (k : IntKind) (m : Int) : Still (.int k m) := ⟨1, fun n H d hd => by obtain ⟨d, rfl⟩ : ∃ e, d = e + 1 := ⟨d - 1, by omega⟩; rfl⟩
theorem Still.bool (b : Bool) : Still (.bool b) := ⟨1, fun n H d hd => by obtain ⟨d, rfl⟩ : ∃ e, d = e + 1 := ⟨d - 1, by omega⟩; rfl⟩
theorem Still.str (s : List UInt8) : Still (.str s) := ⟨1, fun n H d hd => by obtain ⟨d, rfl⟩ : ∃ e, d = e + 1 := ⟨d - 1, by omega⟩; rfl⟩
theorem Still.nilp : Still .nilp := ⟨1, fun n H d hd => by obtain ⟨d, rfl⟩ : ∃ e, d = e + 1 := ⟨d - 1, by omega⟩; rfl⟩
theorem Still.all : ∀ {xs : List PV}, (∀ x ∈ xs, Still x) → ∃ d, ∀ n H d', d ≤ d' → xs.mapM (frz n H d') = some xs
  | [], _ => ⟨0, fun n H d' _ => by simp⟩
  | x :: xs, h => by
    obtain ⟨d1, h1⟩ := h x (by simp)
    obtain ⟨d2, h2⟩ := Still.all (xs := xs) (fun y hy => h y (by simp [hy]))
    exact ⟨max d1 d2, fun n H d' hd => by simp [List.mapM_cons, h1 n H d' (by omega), h2 n H d' (by omega)]⟩
theorem Still.slice {xs : List PV} {len : Nat} (h : ∀ x ∈ xs, Still x) : Still (.slice xs len false) := by
  obtain ⟨d, hd⟩ := Still.all h
  exact ⟨d + 1, fun n H d' hd' => by obtain ⟨e, rfl⟩ : ∃ e, d' = e + 1 := ⟨d' - 1, by omega⟩; simp [frz, hd n H e (by omega)]⟩
theorem Still.agg {xs : List PV} (h : ∀ x ∈ xs, Still x) : Still (.agg xs) := by
  obtain ⟨d, hd⟩ := Still.all h
  exact ⟨d + 1, fun n H d' hd' => by obtain ⟨e, rfl⟩ : ∃ e, d' = e + 1 := ⟨d' - 1, by omega⟩; simp [frz, hd n H e (by omega)]⟩
theorem Still.frz {x : PV} (h : Still x) (n : Nat) (H : Heap) : Frz n H x x := by obtain ⟨d, hd⟩ := h; exact ⟨d, fun d' h' => hd n H d' h'⟩

theorem Frz.slice {n len : Nat} {H : Heap} {xs : List PV} {full : Bool} (h : ∀ x ∈ xs, Still x) : Frz n H (.slice xs len full) (.slice xs len false) := by
  obtain ⟨d, hd⟩ := Still.all h
  exact ⟨d + 1, fun d' hd' => by obtain ⟨e, rfl⟩ : ∃ e, d' = e + 1 := ⟨d' - 1, by omega⟩; simp [Pm.frz, hd n H e (by omega)]⟩
theorem Frz.acc {B e sz n : Nat} {H : Heap} {v : PV} {xs : List PV} (h : Acc B e sz H v xs n) (hs : ∀ x ∈ xs, Still x) : Frz B H v (.slice xs n false) := by
  rcases h.2 with rfl | ⟨id, ver, hid, rfl, hk, hvl⟩
  · exact Frz.slice hs
  · obtain ⟨d, hd⟩ := Still.all hs
    refine ⟨d + 1, fun d' hd' => ?_⟩
    obtain ⟨e', rfl⟩ : ∃ e', d' = e' + 1 := ⟨d' - 1, by omega⟩
    have hlt : ¬ id < B := by omega
    have htk : (xs.drop 0).take (n * sz) = xs := by rw [List.drop_zero, ← h.1, List.take_length]
    simp [Pm.frz, hlt, hk, h.1]
    simp_all
theorem Frz.tup2 {n : Nat} {H : Heap} {a b a' b' : PV} (h1 : Frz n H a a') (h2 : Frz n H b b') : Frz n H (.tup [a, b]) (.tup [a', b']) := by
  obtain ⟨d1, e1⟩ := h1
  obtain ⟨d2, e2⟩ := h2
  exact ⟨max d1 d2 + 1, fun d' hd' => by obtain ⟨e, rfl⟩ : ∃ e, d' = e + 1 := ⟨d' - 1, by omega⟩; simp [Pm.frz, List.mapM_cons, e1 e (by omega), e2 e (by omega)]⟩
theorem Fin.give {H H' : Heap} {v v' : PV} (hk : Kept H.length H H') (hf : Frz H.length H' v' v) : Fin H v H v' H' := by
  obtain ⟨d, hd⟩ := hf
  exact .inr (.inl ⟨_, d, hk.split, rfl, hd d (Nat.le_refl _)⟩)

/-- Two accumulators do not share a block. -/
def Two (v u : PV) : Prop := ∀ j, own v = some j → own u ≠ some j
theorem Two.of {v u v2 : PV} {H : Heap} (h : Two v u) (hu : ∀ j, own u = some j → j < H.length) (ho : own v2 = own v ∨ own v2 = some H.length) : Two v2 u := fun j hj => by
  rcases ho with ho | ho
  · exact h j (by rw [← ho]; exact hj)
  grind
theorem Two.symm {v u : PV} (h : Two v u) : Two u v := fun j hj hv => h j hv hj
theorem Two.ne {v u : PV} (h : Two v u) : own u = none ∨ own u ≠ own v := by
  cases hu : own u with
  | none => exact .inl rfl
  | some j => exact .inr (fun e => h j e.symm hu)
theorem Acc.more {B e sz n : Nat} {H : Heap} {v : PV} {xs : List PV} (h : Acc B e sz H v xs n) (K : Heap) : Acc B e sz (H ++ K) v xs n := h.grew (o := none) ⟨by simp, fun j hj _ => List.getElem?_append_left hj⟩ (by cases hv : own v; exact .inl rfl; exact .inr (by simp))
theorem Kept.add {B : Nat} {H H1 : Heap} (h : Kept B H H1) (K : Heap) : Kept B H (H1 ++ K) := ⟨by have := h.1; simp; omega, fun j hj => by rw [List.getElem?_append_left (by have := h.1; omega)]; exact h.2 j hj⟩

/-- A frame, given up. -/
def FrzF (n : Nat) (H : Heap) : Fr → Fr → Prop
  | [], [] => True
  | (t, x) :: r, (t', y) :: s => t = t' ∧ Frz n H x y ∧ FrzF n H r s
  | _, _ => False
theorem Frz.undef (n : Nat) (H : Heap) : Frz n H .undef .undef := ⟨1, fun d hd => by obtain ⟨d, rfl⟩ : ∃ e, d = e + 1 := ⟨d - 1, by omega⟩; rfl⟩
theorem FrzF.slot {n : Nat} {H : Heap} : ∀ {F F1 : Fr}, FrzF n H F F1 → ∀ t, Frz n H (slot F t) (slot F1 t)
  | [], [], _, t => Frz.undef n H
  | (k, x) :: r, (k', y) :: s, h, t => by
    obtain ⟨rfl, h1, h2⟩ := h
    show Frz n H (match Nat.beq k t with | true => x | false => Pm.slot r t) (match Nat.beq k t with | true => y | false => Pm.slot s t)
    cases Nat.beq k t with
    | true => exact h1
    | false => exact FrzF.slot h2 t
  | [], _ :: _, h, _ => h.elim
  | _ :: _, [], h, _ => h.elim

/-- ████ What the call has made is given up: its blocks are never written again. ████ -/
theorem PW.give {E : Env} {Q : Exit → Fr → Heap → Prop} {c : Code} (ks : List Nat) (F1 : Fr) (hk : Kept E.H0.length E.H0 H) (hz : FrzF E.H0.length H (kp ks F) F1) (h : PW P E c F1 E.H0 Q) : PW P E c F H Q := fun hs C a w hd hw hf => by
  have e : H = E.H0 ++ H.drop E.H0.length := hk.split
  rw [e] at hw
  obtain ⟨g1, g2⟩ := WRel.giveN hs hw
  rw [← e] at hw
  refine wp_mono (h hs _ a w hd g2 ⟨hf.1, fun t => ?_⟩) fun _ _ _ hp => hp.trans g1 (.refl _ _)
  obtain ⟨d, hd'⟩ := hz.slot t
  exact frz_sound hw _ d _ _ _ ((hf.keep ks).2 t) (hd' d (Nat.le_refl _))

end Go.Proofs.YtbhdollgohgkgaaGreatDoor.Pm

namespace Go.Proofs.YtbhdollgohgkgaaGreatDoor.Pm
set_option linter.all false
set_option linter.unusedVariables false
set_option linter.unusedSimpArgs false
open Go.ChangeShapes Go.WideShapes Go.ChangeAt Go.RowKit

variable {P : Program} {W : World}

theorem tab_of_trod {t e : TypeId} {n fuel : Nat} {k : IntKind} {cs : List Value} {z : List Int} {p : List MemPlace} (ht : P.underlying t = some (.array n e)) (he : P.underlying e = some (.int k)) (hc : P.cellsOf e = 1)
    (h : DataW.trod (fun _ => ()) P W 0 (fun _ => true) false fuel t cs = some (.agg (z.map fun x => .lit (.int k x)), p)) : ∀ (j : Nat) (x : Int), z[j]? = some x → cs[j]? = some (.int k x) := by
  obtain ⟨xs, m, rfl, hx, hlen, hn, hel⟩ := DataW.trod_array ht h
  intro j x hj
  simp only [Prod.mk.injEq, DataW.agg.injEq] at hx
  have hx1 := congrArg (fun l => l[j]?) hx.1
  simp only [List.getElem?_map, hj, Option.map_some] at hx1
  cases hy : xs[j]? with
  | none => rw [hy] at hx1; cases hx1
  | some y =>
    rw [hy] at hx1
    simp only [Option.map_some, Option.some.injEq] at hx1
    have hjn : j < n := by rw [← hn]; exact (List.getElem?_eq_some_iff.1 hy).1
    have hd := hel j hjn
    rw [hy, hc, Nat.mul_one] at hd
    obtain ⟨r, e1, e2, _⟩ := DataW.trod_int he hd
    rw [e2] at hx1
    simp only [DataW.lit.injEq, Lit.int.injEq, true_and] at hx1
    subst hx1
    have := congrArg (fun l => l[0]?) e1
    simpa using this
theorem laidVars_mem : ∀ {l : List (String × DataW Unit)} {ps : List MemPlace}, DataW.LaidVars P W l ps → ∀ x ∈ l, ∃ g t cs fuel p, P.globalNamed x.1 = some g ∧ (P.globals[g]?).map (·.type) = some t ∧ W.var? P x.1 = some cs ∧ DataW.trod (fun _ => ()) P W 0 (fun _ => true) false fuel t cs.toList = some (x.2, p)
  | [], _, _, x, hx => by cases hx
  | (n, d) :: r, ps, h, x, hx => by
    obtain ⟨g, t, cs, fuel, p, q, h1, h2, h3, h4, h5, _⟩ := h
    rcases List.mem_cons.1 hx with rfl | hx
    · exact ⟨g, t, cs, fuel, p, h1, h2, h3, h4⟩
    · exact laidVars_mem h5 x hx
theorem glob_row {l : List (String × DataW Unit)} {nm : String} {g n : Nat} {t e : TypeId} {k : IntKind} {z : List Int} (h : laidMet P l W) (hm : (nm, DataW.agg (z.map fun x => .lit (.int k x))) ∈ l) (hg : P.globalNamed nm = some g) (ht : (P.globals[g]?).map (·.type) = some t)
    (hu : P.underlying t = some (.array n e)) (he : P.underlying e = some (.int k)) (hc : P.cellsOf e = 1) : ∀ (j : Nat) (x : Int), z[j]? = some x → (Ctx.start W).M g j = some (.int k x) := fun j x hj => by
  obtain ⟨ps, hv, _⟩ := h
  obtain ⟨g', t', cs, fuel, p, h1, h2, h3, h4⟩ := laidVars_mem hv _ hm
  obtain rfl := Option.some.inj (hg.symm.trans h1)
  obtain rfl := Option.some.inj (ht.symm.trans h2)
  have h5 := tab_of_trod hu he hc h4 j x hj
  show W.cell? ⟨g, j, none⟩ = _
  rw [World.var?_cell hg h3 j, ← h5]
  simp
theorem glob_of {l : List (String × DataW Unit)} (h : laidMetH Tryz.prog l W) (hl : (l.all fun x => x.2.handleName?.isNone) = true)
    (h1 : ("cutroom/quant.alternateScan", Rows.laid_cutroom_quant_alternateScan) ∈ l)
    (h2 : ("cutroom/quant.defaultIntra", Rows.laid_cutroom_quant_defaultIntra) ∈ l)
    : Glob (Ctx.start W).M := by
  rw [MakeChecks.laidMetH_plain _ _ _ hl] at h
  intro g l hg
  unfold gtab at hg
  split at hg
  · rename_i e
    subst e
    obtain rfl := Option.some.inj hg
    intro j x hj
    unfold gAlt at hj
    rw [List.getElem?_map, Option.map_eq_some_iff] at hj
    obtain ⟨y, hy, rfl⟩ := hj
    exact glob_row (t := 143) h (k := .i64) h1 (by kernel_rfl) (by kernel_rfl) Tryz.underlying143 Tryz.underlying3 (by kernel_rfl) j y hy
  split at hg
  · rename_i e
    subst e
    obtain rfl := Option.some.inj hg
    intro j x hj
    unfold gIntra at hj
    rw [List.getElem?_map, Option.map_eq_some_iff] at hj
    obtain ⟨y, hy, rfl⟩ := hj
    exact glob_row (t := 49) h (k := .u8) h2 (by kernel_rfl) (by kernel_rfl) Tryz.underlying49 Tryz.underlying5 (by kernel_rfl) j y hy
  cases hg

end Go.Proofs.YtbhdollgohgkgaaGreatDoor.Pm
