/-
  A small program logic over abstract values: each operation does in the model what 'pop' says. No condition. Program-independent. Part 4: literals of structs and slices, make, append, copy, conversions.
-/
import Derived.Test.YtahomnplappbpaaGreatDoorPmU
namespace Go.Proofs.YtahomnplappbpaaGreatDoor.Pm
set_option linter.all false
set_option linter.unusedVariables false
set_option linter.unusedSimpArgs false
open Go.RowKit

variable {P : Program} {C : Ctx} {H : Heap} {w : World} {F : Nat → PV} {a : Act} {N : Nat}

theorem cells_rel {v : PV} {u : Value} (h : v.cells.all PV.cell = true) (hv : VRel C v u) : Rel C v.cells u.cells.toList ∧ u.cells.toList.length = v.cells.length := by
  have single : v.cell = true → v.cells = [v] → Rel C v.cells u.cells.toList ∧ u.cells.toList.length = v.cells.length := fun hc he => by
    have h1 := hv.oneCell hc
    have hcells : u.cells = #[u] := by cases u <;> first | rfl | (simp [Value.oneCell'] at h1)
    rw [he, hcells]
    exact ⟨.one hv, rfl⟩
  cases v with
  | agg cs =>
    cases hv with
    | agg hl hc hR => exact ⟨by simpa [PV.cells, Value.cells, Rel] using hR, by simp [PV.cells, Value.cells, hl]⟩
  | _ => first | exact single rfl rfl | (simp [PV.cells, PV.cell] at h)

/-! ### 'fill' -/
theorem fold_set : ∀ (vs : List Value) (k : Nat) (cs : Array Value) (off : Nat), off + k + vs.length ≤ cs.size →
    (((vs.zipIdx k).foldl (fun (cs : Array Value) (x : Value × Nat) => cs.setIfInBounds (off + x.2) x.1) cs)).toList = cs.toList.take (off + k) ++ vs ++ cs.toList.drop (off + k + vs.length)
  | [], k, cs, off, _ => by simp
  | v :: rest, k, cs, off, h => by
    simp only [List.zipIdx_cons, List.foldl_cons]
    rw [fold_set rest (k + 1) _ off (by simp at h ⊢; omega)]
    have e := list_seg_step cs.toList (off + k) v rest (by simp at h ⊢; omega)
    simpa [Array.toList_setIfInBounds, Nat.add_assoc] using e

theorem pfill_sound (place : Nat → Option (Nat × Nat)) : ∀ (parts : List (Nat × PV)) (parts' : List (Nat × Value)) (zs ys : List PV) (cs : Array Value), parts'.length = parts.length →
    (∀ (j : Nat) (p : Nat × PV) (q : Nat × Value), parts[j]? = some p → parts'[j]? = some q → q.1 = p.1 ∧ VRel C p.2 q.2) → Rel C zs cs.toList → zs.length = cs.size → (∀ x ∈ zs, x.cell = true) →
    pfill place zs parts = some ys → ∃ cs', Instr.fill place cs parts' = some cs' ∧ Rel C ys cs'.toList ∧ ys.length = cs'.size ∧ ∀ x ∈ ys, x.cell = true
  | [], parts', zs, ys, cs, hl, _, hz, hzl, hzc, h => by
    have : parts' = [] := List.eq_nil_of_length_eq_zero (by simpa using hl)
    subst this
    simp only [pfill, Option.some.injEq] at h
    subst h
    exact ⟨cs, rfl, hz, hzl, hzc⟩
  | (i, v) :: rest, [], zs, ys, cs, hl, _, _, _, _, _ => by simp at hl
  | (i, v) :: rest, (i', u) :: rest', zs, ys, cs, hl, hp, hz, hzl, hzc, h => by
    obtain ⟨e0, hvu⟩ := hp 0 (i, v) (i', u) rfl rfl
    simp only at e0 hvu
    subst e0
    simp only [pfill] at h
    split at h
    · cases h
    · rename_i off size hpl
      split at h
      · rename_i hq
        obtain ⟨hcr, hcl⟩ := cells_rel hq.2.2 hvu
        have hcl' : u.cells.size = v.cells.length := by simpa using hcl
        have hfold := fold_set u.cells.toList 0 cs off (by simp; omega)
        simp only [Nat.add_zero] at hfold
        have hsp := splice_rel (off := off) hcl hz hcr (by omega) (by simp; omega)
        have hlen : (splice zs off v.cells).length = zs.length := length_splice _ _ _ (by omega)
        let cs2 : Array Value := (u.cells.toList.zipIdx 0).foldl (fun (cs : Array Value) (x : Value × Nat) => cs.setIfInBounds (off + x.2) x.1) cs
        have h2 : cs2.toList = cs.toList.take off ++ u.cells.toList ++ cs.toList.drop (off + u.cells.toList.length) := hfold
        have h2s : cs2.size = cs.size := by rw [← Array.length_toList, h2]; simp; omega
        obtain ⟨cs', e1, e2, e3, e4⟩ := pfill_sound place rest rest' (splice zs off v.cells) ys cs2 (by simpa using hl) (fun j p q hj hj' => hp (j + 1) p q (by simpa using hj) (by simpa using hj'))
          (by rw [h2]; exact hsp) (by rw [hlen, h2s]; exact hzl) (splice_cell hzc (fun x hx => List.all_eq_true.1 hq.2.2 x hx)) h
        refine ⟨cs', ?_, e2, e3, e4⟩
        have hc1 : ¬ (u.cells.size ≠ size || off + u.cells.size > cs.size) = true := by simp; omega
        simp only [Instr.fill, hpl, if_neg hc1]
        rw [← e1]
        congr 1
        show u.cells.zipIdx.foldl _ cs = cs2
        rw [← Array.foldl_toList, Array.toList_zipIdx]
      · cases h

theorem zcells_of {t : TypeId} {z : List PV} (h : zcells P t = some z) : ∃ i zv, P.info? t = some i ∧ i.zero = some zv ∧ (∀ C : Ctx, Rel C z zv.cells.toList) ∧ zv.cells.toList.length = z.length ∧ ∀ x ∈ z, x.cell = true := by
  unfold zcells zrT at h
  cases hi : P.info? t with
  | none => simp [hi] at h
  | some i =>
    cases hz : i.zero with
    | none => simp [hi, hz] at h
    | some zv =>
      simp only [hi, hz, Option.bind_some, Option.map_some] at h
      split at h
      · rename_i hall
        injection h with h
        subst h
        exact ⟨i, zv, rfl, hz, fun C => (cells_rel hall (pvc_rel zv)).1, (cells_rel (C := ⟨0, fun _ _ => none, [], [], [], 0⟩) hall (pvc_rel zv)).2, fun x hx => List.all_eq_true.1 hall x hx⟩
      · cases h

theorem places_of : ∀ (fs : List Field), fs.all (fun f => (szT P f.type).isSome) = true → ∃ places, fs.mapM (fun f => (P.info? f.type).map fun i => (f.offset, i.size)) = some places ∧ ∀ i, places[i]? = fieldPlaces P fs i
  | [], _ => ⟨[], by simp, fun i => by simp [fieldPlaces]⟩
  | f :: fs, h => by
    simp only [List.all_cons, Bool.and_eq_true] at h
    obtain ⟨ps, e1, e2⟩ := places_of fs h.2
    obtain ⟨n, hn⟩ := Option.isSome_iff_exists.1 h.1
    obtain ⟨i, hi, hs⟩ := szT_info hn
    refine ⟨(f.offset, i.size) :: ps, ?_, ?_⟩
    · simp [List.mapM_cons, hi, e1]
    · intro j
      cases j with
      | zero => simp [fieldPlaces, hn, hs]
      | succ j => simpa [fieldPlaces] using e2 j

theorem parts_rel (r : FRel C N F a) (parts : Array (Nat × Operand)) : ((parts.map fun (i, x) => (i, a.eval x)).toList).length = (parts.toList.map fun p => (p.1, ev F p.2)).length ∧
    ∀ (j : Nat) (p : Nat × PV) (q : Nat × Value), (parts.toList.map fun p => (p.1, ev F p.2))[j]? = some p → ((parts.map fun (i, x) => (i, a.eval x)).toList)[j]? = some q → q.1 = p.1 ∧ VRel C p.2 q.2 := by
  refine ⟨by simp, fun j p q hp hq => ?_⟩
  simp only [Array.toList_map, List.getElem?_map, Option.map_eq_some_iff] at hp hq
  obtain ⟨x, hx, rfl⟩ := hp
  obtain ⟨y, hy, rfl⟩ := hq
  rw [hx] at hy
  injection hy with hy
  subst hy
  exact ⟨rfl, ev_rel r _⟩

theorem pbuild_sound {t : TypeId} {parts : List (Nat × PV)} {parts' : Array (Nat × Value)} {v : PV} (hl : parts'.toList.length = parts.length)
    (hp : ∀ (j : Nat) (p : Nat × PV) (q : Nat × Value), parts[j]? = some p → parts'.toList[j]? = some q → q.1 = p.1 ∧ VRel C p.2 q.2) (h : pbuild P t parts = some v) :
    ∃ u, VRel C v u ∧ (Instr.build t parts').run P w = .ok u w := by
  unfold pbuild at h
  split at h
  · rename_i fs z hu hz
    obtain ⟨i, zv, hi, hzv, hzr, hzl, hzc⟩ := zcells_of hz
    split at h
    · rename_i hall
      obtain ⟨ps, e1, e2⟩ := places_of fs.toList hall
      simp only [Option.map_eq_some_iff] at h
      obtain ⟨ys, hys, rfl⟩ := h
      have hpl : (fun x => ps.toArray[x]?) = fieldPlaces P fs.toList := funext fun i => by rw [← e2 i]; simp
      obtain ⟨cs', q1, q2, q3, q4⟩ := pfill_sound (C := C) (fieldPlaces P fs.toList) parts parts'.toList z ys zv.cells hl hp (hzr C) (by simpa using hzl.symm) hzc hys
      have hb : P.built t parts'.toList = some cs' := by
        unfold Program.built
        simp only [hi, hu, hzv, e1, hpl, q1]
      exact ⟨.agg cs', by simpa using VRel.agg (C := C) (us := cs'.toList) (by simpa using q3.symm) q4 q2, run_build w t parts' cs' hb⟩
    · cases h
  · rename_i len e z hu hz
    obtain ⟨i, zv, hi, hzv, hzr, hzl, hzc⟩ := zcells_of hz
    split at h
    · rename_i n hn
      obtain ⟨ie, hie, hs⟩ := szT_info hn
      simp only [Option.map_eq_some_iff] at h
      obtain ⟨ys, hys, rfl⟩ := h
      obtain ⟨cs', q1, q2, q3, q4⟩ := pfill_sound (C := C) _ parts parts'.toList z ys zv.cells hl hp (hzr C) (by simpa using hzl.symm) hzc hys
      have hb : P.built t parts'.toList = some cs' := by
        unfold Program.built
        simp only [hi, hu, hzv, hie, hs, q1]
      exact ⟨.agg cs', by simpa using VRel.agg (C := C) (us := cs'.toList) (by simpa using q3.symm) q4 q2, run_build w t parts' cs' hb⟩
    · cases h
  · cases h

/-! ### rows of zeros -/
theorem reps_getElem? (z : List PV) (hz : 0 < z.length) : ∀ (n j : Nat), (reps n z)[j]? = if j < n * z.length then z[j % z.length]? else none
  | 0, j => by simp [reps]
  | n + 1, j => by
    have e : reps (n + 1) z = z ++ reps n z := by simp [reps, List.replicate_succ]
    rw [e]
    by_cases hj : j < z.length
    · rw [List.getElem?_append_left hj, if_pos (by rw [Nat.add_mul]; omega), Nat.mod_eq_of_lt hj]
    · rw [List.getElem?_append_right (by omega), reps_getElem? z hz n]
      have e2 : (n + 1) * z.length = n * z.length + z.length := by rw [Nat.add_mul]; omega
      have e3 : j % z.length = (j - z.length) % z.length := by
        conv => lhs; rw [show j = (j - z.length) + z.length by omega, Nat.add_mod_right]
      rw [e3]
      by_cases h2 : j < (n + 1) * z.length
      · rw [if_pos (by omega), if_pos h2]
      · rw [if_neg (by omega), if_neg h2]
theorem length_reps (z : List PV) (n : Nat) : (reps n z).length = n * z.length := by simp [reps]
theorem reps_cell {z : List PV} {n : Nat} (h : ∀ x ∈ z, x.cell = true) : ∀ x ∈ reps n z, x.cell = true := fun x hx => by
  simp only [reps, List.mem_flatten, List.mem_replicate] at hx
  obtain ⟨l, ⟨_, rfl⟩, hx⟩ := hx
  exact h x hx

/-- The model's row of zeros. -/
theorem made_rel {z : List PV} {zv : Array Value} {n m : Nat} (hzl : zv.toList.length = z.length) (hz : Rel C z zv.toList) (hpos : 0 < z.length) (hm : n * z.length ≤ m) : Rel C (reps n z) ((Array.range m).map (zv[· % zv.size]!)).toList := fun j x u hx hu => by
  rw [reps_getElem? z hpos] at hx
  split at hx
  · rename_i hj
    have hzs : zv.size = z.length := by simpa using hzl
    have hjm : j < m := by omega
    simp only [Array.toList_map, Array.toList_range, List.getElem?_map, List.getElem?_range hjm, Option.map_some, Option.some.injEq] at hu
    subst hu
    have hlt : j % zv.size < zv.size := Nat.mod_lt _ (by omega)
    rw [getElem!_pos zv _ hlt]
    exact hz (j % zv.size) x _ (by rw [hzs]; exact hx) (by simp [hlt])
  · cases hx

theorem pbuildSlice_sound {t : TypeId} {len : Nat} {parts : List (Nat × PV)} {parts' : Array (Nat × Value)} {v : PV} (hw : WRel C H w) (hl : parts'.toList.length = parts.length)
    (hp : ∀ (j : Nat) (p : Nat × PV) (q : Nat × Value), parts[j]? = some p → parts'.toList[j]? = some q → q.1 = p.1 ∧ VRel C p.2 q.2) (h : pbuildSlice P t len parts = some v) :
    ∃ C' u w', CLe C C' ∧ WRel C' H w' ∧ Below C.B w w' ∧ VRel C' v u ∧ (Instr.buildSlice t len parts').run P w = .ok u w' := by
  unfold pbuildSlice at h
  split at h
  · rename_i e hu
    split at h
    · rename_i n z hn hz
      obtain ⟨i, zv, hi, hzv, hzr, hzl, hzc⟩ := zcells_of hz
      obtain ⟨ie, hie, hs⟩ := szT_info hn
      rw [hi] at hie
      injection hie with hie
      subst hie
      split at h
      · rename_i h0
        injection h with h
        subst h
        obtain ⟨rfl, h0⟩ := h0
        have hp0 : parts'.toList = [] := List.eq_nil_of_length_eq_zero (by omega)
        obtain ⟨c1, c2, c3⟩ := hw.allocImm #[] e
        refine ⟨_, _, _, c1, c2, c3, .sliceN (some ⟨w.heap.size, 0, none⟩) true, ?_⟩
        simp [Instr.buildSlice, run_underlying hu, sizeOf, typeInfo, zeroValue, hi, hzv, hp0, Instr.fill, newRow]
        rw [show Array.map (fun _ => (default : Value)) (Array.range 0) = #[] from by apply Array.ext'; simp]
      split at h
      · rename_i hq
        simp only [Option.map_eq_some_iff] at h
        obtain ⟨ys, hys, rfl⟩ := h
        have hpos : 0 < z.length := by
          rcases Nat.eq_zero_or_pos z.length with h0 | h0
          · rw [← hq.1, h0] at hq; simp at hq
          · exact h0
        have hmade := made_rel (C := C) (n := len) (m := len * i.size) hzl (hzr C) hpos (by rw [hs, hq.1]; exact Nat.le_refl _)
        obtain ⟨cs', q1, q2, q3, q4⟩ := pfill_sound (C := C) (fun i => some (i * n, n)) parts parts'.toList (reps len z) ys ((Array.range (len * i.size)).map (zv.cells[· % zv.cells.size]!)) hl hp hmade
          (by rw [length_reps, hq.1, hs]; simp) (reps_cell hzc) hys
        have hr := run_buildSlice (P := P) w t e len parts' cs' i zv hu hi hzv (by rw [hs]; have := hq.2.2; omega) (by rw [hs]; have := hq.2.1; omega) (by rw [hs] at q1 ⊢; exact q1)
        obtain ⟨c1, c2, c3⟩ := hw.allocImm cs' e
        refine ⟨_, _, _, c1, c2, c3, ?_, hr⟩
        refine VRel.slice (us := cs'.toList) (o := 0) (by simpa using q3.symm) (fun j u hj => ?_) q4 (q2.mono c1) (Nat.le_refl _) ?_ (fun _ => rfl)
        · simp only [Ctx.imm, if_true, Nat.zero_add]; simpa using hj
        · have : len ≤ len * n := Nat.le_mul_of_pos_right len (by omega)
          simp only [maxLen]; omega
      · cases h
    · cases h
  · cases h

theorem byT_info {t : TypeId} {n : Nat} (h : byT P t = some n) : ∃ i, P.info? t = some i ∧ i.bytes = n := by
  unfold byT at h
  cases hi : P.info? t with
  | none => simp [hi] at h
  | some i => simp [hi] at h; exact ⟨i, rfl, h⟩

theorem pmake_sound {t : TypeId} {l c v : PV} {p q : Value} {H' : Heap} (hw : WRel C H w) (hl : VRel C l p) (hc : VRel C c q) (h : pmake P H t l c = some (v, H')) :
    ∃ C' u w', CLe C C' ∧ WRel C' H' w' ∧ Below C.B w w' ∧ VRel C' v u ∧ (Instr.makeSlice t p q).run P w = .ok u w' := by
  unfold pmake at h
  split at h
  · rename_i e kl l kc c hu
    obtain rfl := inv_int hl
    obtain rfl := inv_int hc
    split at h
    · rename_i n b z hn hb hz
      obtain ⟨i, zv, hi, hzv, hzr, hzl, hzc⟩ := zcells_of hz
      obtain ⟨ie, hie, hs⟩ := szT_info hn
      obtain ⟨ib, hib, hby⟩ := byT_info hb
      rw [hi] at hie hib
      injection hie with hie
      injection hib with hib
      subst hie hib
      split at h
      · rename_i hq
        simp only [Option.some.injEq, Prod.mk.injEq] at h
        obtain ⟨rfl, rfl⟩ := h
        have hr := run_make (P := P) w t e i zv hu hi hzv kl kc l c hq.1 hq.2.1 (by rw [hby]; have := hq.2.2.1; omega) (by have := hq.2.2.2.1; omega)
        have hcn : l.toNat * z.length ≤ c.toNat * i.size := by rw [hs, hq.2.2.2.2.1]; exact Nat.mul_le_mul_right n (by omega)
        have hmade := made_rel (C := C) (n := l.toNat) (m := c.toNat * i.size) hzl (hzr C) (by rw [hq.2.2.2.2.1]; exact hq.2.2.2.2.2) hcn
        obtain ⟨c1, c2, c3⟩ := hw.allocOwn (madeCells zv.cells (c.toNat * i.size)) e (reps l.toNat z) 0 (reps_cell hzc) (by rw [length_reps, size_madeCells]; exact hcn) (fun j x u hx hu => hmade j x u hx (by rw [Array.getElem?_toList]; exact hu))
        refine ⟨_, _, _, c1, c2, c3, ?_, hr⟩
        refine .msl ?_ ?_ (by omega) (by have := hq.2.2.2.1; simp only [maxLen]; omega) (fun _ => ⟨rfl, ?_⟩)
        · simp [Ctx.more, ← hw.len]
        · simp [Ctx.more, ← hw.lenv]
        · simp [Ctx.more, ← hw.lenc, size_madeCells, hs]
      · cases h
    · cases h
  · cases h

/-! ### the cells of a slice -/
theorem scells_sound {sz n : Nat} {x : PV} {v : Value} {ys : List PV} (hw : WRel C H w) (hx : VRel C x v) (h : scells H sz x = some (ys, n)) :
    ∃ ad cap us, v = .slice ad n cap ∧ n ≤ cap ∧ us.length = ys.length ∧ ys.length = n * sz ∧ Rel C ys us ∧ (∀ x ∈ ys, x.cell = true) ∧ ((n = 0 ∧ us = []) ∨ ∃ b o, ad = some ⟨b, o, none⟩ ∧ At w b o us) := by
  unfold scells at h
  split at h
  · rename_i xs len full
    split at h
    · rename_i hq
      simp only [Option.some.injEq, Prod.mk.injEq] at h
      obtain ⟨rfl, rfl⟩ := h
      cases hx with
      | @slice _ _ cap b o _ us hl hM hc hR hcap hmax hf => exact ⟨_, cap, us, rfl, hcap, hl, hq, hR, hc, .inr ⟨b, o, rfl, hw.at_imm hM⟩⟩
      | sliceN => exact ⟨_, 0, [], rfl, Nat.le_refl _, rfl, by simp, fun j x u hx => by simp at hx, fun x hx => by simp at hx, .inl ⟨rfl, rfl⟩⟩
    · cases h
  · rename_i id ver off len sz' g
    split at h
    · rename_i k hk
      split at h
      · rename_i hq
        simp only [Option.some.injEq, Prod.mk.injEq] at h
        obtain ⟨rfl, rfl⟩ := h
        have q2 := hw.ver _ k hk
        rw [hq.1] at q2
        obtain ⟨b, cap, off', q1, rfl, hc1, hc2, ho, _⟩ | ⟨ad, hgh, h0, rfl⟩ := inv_msl hw hx q2
        rotate_left
        · subst h0
          exact ⟨ad, 0, [], rfl, Nat.le_refl _, by simp, by simp, fun j x u hx => by simp at hx, fun x hx => by simp at hx, .inl ⟨rfl, rfl⟩⟩
        obtain ⟨cur, q3, q5, q6, q7, q8, q9, q10⟩ := hw.blk hk q1
        have hl1 : ((k.cells.drop off).take (len * sz)).length = len * sz := by simp; omega
        refine ⟨_, cap, ((cur.toList.take k.cells.length).drop off).take (len * sz), rfl, hc1, ?_, hl1, (q9.drop off).take _, fun x hx => q6 x (List.mem_of_mem_drop (List.mem_of_mem_take hx)), .inr ⟨b, off', rfl, ?_⟩⟩
        · rw [hl1]; simp; omega
        · rcases Nat.eq_zero_or_pos len with h0 | h0
          · subst h0; intro j u hu; simp at hu
          · obtain rfl := ho h0
            have := (q8.drop off').take (len * sz)
            rwa [Nat.zero_add] at this
      · cases h
    · cases h
  · cases h

theorem first_of {sz n cap : Nat} {ad : Option Addr} {us : List Value} (hl : us.length = n * sz) (h : (n = 0 ∧ us = []) ∨ ∃ b o, ad = some ⟨b, o, none⟩ ∧ At w b o us) :
    (Builtin.firstCells sz n (.slice ad n cap)).run P w = .ok us.toArray w := by
  rcases h with ⟨rfl, rfl⟩ | ⟨b, o, rfl, hat⟩
  · cases ad with
    | none => exact run_firstCells_none w sz 0 0 cap
    | some a => exact run_firstCells_some w sz 0 a 0 cap [] hl (fun j v hv => by simp at hv)
  · exact run_firstCells_some w sz n ⟨b, o, none⟩ n cap us hl (fun j v hv => by rw [Addr.add_lit]; exact hat j v hv)

end Go.Proofs.YtahomnplappbpaaGreatDoor.Pm
